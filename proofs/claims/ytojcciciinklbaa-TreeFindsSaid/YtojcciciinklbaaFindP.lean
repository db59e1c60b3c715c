/- A plain law: the first entry of a path is the own of the node of that path. No claim by itself. -/
import Derived.Test.YtojcciciinklbaaFind1
import Derived.Test.YtojcciciinklbaaFlat6
set_option linter.unusedSimpArgs false
set_option linter.unusedVariables false
namespace Go.Proofs.Ytojcciciinklbaa
open Go.RowKit

/-- A name, '/', what follows. -/
def slashS (n r : ByteArray) : ByteArray := mkS (n.data.toList ++ 47 :: r.data.toList)
theorem underS_emp (n : ByteArray) : underS ⟨#[]⟩ n = n := by unfold underS; rw [if_pos rfl]
theorem underS_slash {p : ByteArray} (n : ByteArray) (h : p ≠ ⟨#[]⟩) : underS p n = slashS p n := by
  unfold underS slashS joinS
  rw [if_neg h]
  congr 1
  simp [jn]
theorem slash_ne (n r : ByteArray) : slashS n r ≠ ⟨#[]⟩ := fun e => by
  have := congrArg (fun s => s.data.toList) e
  simp [slashS, mkS] at this
theorem slash_inj {p a b : ByteArray} (h : slashS p a = slashS p b) : a = b := by
  have := mkS_inj h
  have := List.append_cancel_left this
  simp only [List.cons.injEq, true_and] at this
  exact Go.WideShapes.bytes_inj this
theorem slash_assoc (p n r : ByteArray) : slashS (slashS p n) r = slashS p (slashS n r) := by
  unfold slashS
  rw [mkS_data, mkS_data]
  congr 1
  simp
theorem underS_inj {p a b : ByteArray} (h : underS p a = underS p b) : a = b := by
  by_cases hp : p = ⟨#[]⟩
  · subst hp; rw [underS_emp, underS_emp] at h; exact h
  · rw [underS_slash _ hp, underS_slash _ hp] at h; exact slash_inj h
theorem underS_under (p : ByteArray) {n : ByteArray} (r : ByteArray) (hn : n ≠ ⟨#[]⟩) : underS (underS p n) r = underS p (slashS n r) := by
  by_cases hp : p = ⟨#[]⟩
  · subst hp; rw [underS_emp, underS_emp, underS_slash _ hn]
  · rw [underS_slash _ hp, underS_slash _ hp, underS_slash _ (slash_ne _ _), slash_assoc]
theorem cut_slash {n r : ByteArray} (h : no47 n.data.toList) : cutA (slashS n r) = n ∧ cutM (slashS n r) = true ∧ cutB (slashS n r) = r := by
  have hl : (slashS n r).data.toList = n.data.toList ++ 47 :: r.data.toList := rfl
  obtain ⟨h1, h2⟩ := tw_at (l := n.data.toList ++ 47 :: r.data.toList) (o := n.data.toList.length) (by simp) (fun k hk e => by
    rw [List.getElem?_append_left hk] at e
    exact h 47 (List.mem_of_getElem? e) rfl)
  rw [List.take_left] at h1
  rw [List.drop_left] at h2
  refine ⟨?_, ?_, ?_⟩
  · unfold cutA; rw [hl, h1, mkS_of]
  · unfold cutM cutR; rw [hl, h2]; rfl
  · unfold cutB cutR; rw [hl, h2]; exact mkS_of r
theorem cut_name {n : ByteArray} (h : no47 n.data.toList) : cutA n = n ∧ cutM n = false := by
  obtain ⟨h1, h2⟩ := tw_all (l := n.data.toList) (fun k e => h 47 (List.mem_of_getElem? e) rfl)
  refine ⟨?_, ?_⟩
  · unfold cutA; rw [h1, mkS_of]
  · unfold cutM cutR; rw [h2]; rfl
theorem cut_back (q : ByteArray) : q = if cutM q = true then slashS (cutA q) (cutB q) else cutA q := by
  have ht := List.takeWhile_append_dropWhile (p := fun c : UInt8 => decide (c ≠ 47)) (l := q.data.toList)
  have hd : ∀ x, (q.data.toList.dropWhile fun c : UInt8 => decide (c ≠ 47)).head? = some x → decide (x ≠ 47) = false := fun x hx => dw_head _ _ x hx
  apply Go.WideShapes.bytes_inj
  unfold cutM slashS cutA cutB cutR
  cases hc : q.data.toList.dropWhile fun c : UInt8 => decide (c ≠ 47) with
  | nil => rw [hc] at ht; simp [mkS_data] at ht ⊢; exact ht.symm
  | cons c l =>
    rw [hc] at ht hd
    have h47 : c = 47 := by have := hd c rfl; simpa using this
    subst h47
    rw [if_pos (by rfl), mkS_data, mkS_data, mkS_data]
    simpa using ht.symm

theorem findK_nil (p : ByteArray) : findK [] p = none := by rw [findK]
theorem findK_none : ∀ (ks : List Nd) (p : ByteArray), cutM p = true → cutB p = ⟨#[]⟩ → findK ks p = none
  | [], p, _, _ => findK_nil p
  | x :: r, p, h1, h2 => by
    rw [findK_cons]
    split
    · rw [if_neg (show ¬ cutM p = false by rw [h1]; decide)]
    · exact findK_none r p h1 h2
/-- Names that are names. -/
def NameE (e : Ent) : Prop := no47 e.own.name.data.toList ∧ e.own.name ≠ ⟨#[]⟩
theorem flat_below : ∀ (ks : List Nd) (p : ByteArray) (d : Nat), (∀ e ∈ flatK p d ks, NameE e) → ∀ e ∈ flatK p d ks, ∃ s, s ≠ ⟨#[]⟩ ∧ e.path = underS p s
  | [], p, d, _, e, he => by rw [flatK] at he; cases he
  | .mk o ks :: r, p, d, h, e, he => by
    have hcut : flatK p d (.mk o ks :: r) = (⟨d, underS p o.name, o⟩ :: flatK (underS p o.name) (d + 1) ks) ++ flatK p d r := by rw [flatK]
    rw [hcut] at h he
    have ho : NameE ⟨d, underS p o.name, o⟩ := h _ (by simp)
    rcases List.mem_append.1 he with he | he
    · rcases List.mem_cons.1 he with rfl | he
      · exact ⟨o.name, ho.2, rfl⟩
      · obtain ⟨s, _, hs⟩ := flat_below ks (underS p o.name) (d + 1) (fun x hx => h x (by simp [hx])) e he
        exact ⟨slashS o.name s, slash_ne _ _, by rw [hs, underS_under _ _ ho.2]⟩
    · exact flat_below r p d (fun x hx => h x (by simp [hx])) e he

/-- The own fields of the first entry that has a path. -/
def findE (l : List Ent) (q : ByteArray) : Option Own := (l.find? fun e => decide (e.path = q)).map (·.own)
theorem findE_app (l r : List Ent) (q : ByteArray) : findE (l ++ r) q = (findE l q).or (findE r q) := by
  unfold findE
  rw [List.find?_append]
  cases List.find? (fun e => decide (e.path = q)) l <;> rfl
theorem findE_cons (e : Ent) (r : List Ent) (q : ByteArray) : findE (e :: r) q = if e.path = q then some e.own else findE r q := by
  unfold findE
  rw [List.find?_cons]
  by_cases h : e.path = q <;> simp [h]
theorem findE_none {l : List Ent} {q : ByteArray} (h : ∀ e ∈ l, e.path ≠ q) : findE l q = none := by
  unfold findE
  rw [List.find?_eq_none.2 fun e he => by simp [h e he]]; rfl
theorem flat_findK : ∀ (ks : List Nd) (p : ByteArray) (d : Nat) (q : ByteArray), q ≠ ⟨#[]⟩ → (∀ e ∈ flatK p d ks, NameE e) → findE (flatK p d ks) (underS p q) = (findK ks q).map (·.own)
  | [], p, d, q, _, _ => by rw [flatK, findK]; rfl
  | .mk o ks :: r, p, d, q, hq, h => by
    have hcut : flatK p d (.mk o ks :: r) = (⟨d, underS p o.name, o⟩ :: flatK (underS p o.name) (d + 1) ks) ++ flatK p d r := by rw [flatK]
    rw [hcut] at h ⊢
    have ho : NameE ⟨d, underS p o.name, o⟩ := h _ (by simp)
    have ho1 : no47 o.name.data.toList := ho.1
    have ho2 : o.name ≠ ⟨#[]⟩ := ho.2
    have hr := flat_findK r p d q hq (fun x hx => h x (by simp [hx]))
    have hks : ∀ e ∈ flatK (underS p o.name) (d + 1) ks, NameE e := fun x hx => h x (by simp [hx])
    have hin := flat_below ks (underS p o.name) (d + 1) hks
    have hb := cut_back q
    rw [findE_app, findE_cons, hr, findK_cons]
    show Option.or (if underS p o.name = underS p q then some o else _) _ = Option.map _ (if o.name = cutA q then _ else _)
    by_cases hn : o.name = cutA q
    · rw [if_pos hn]
      by_cases hm : cutM q = true
      · rw [if_pos hm] at hb
        have hne : ¬ underS p o.name = underS p q := fun e => by
          have := (cut_name ho1).2
          rw [underS_inj e] at this
          rw [hm] at this; cases this
        rw [if_neg hne, if_neg (by rw [hm]; decide)]
        have hpq : underS p q = underS (underS p o.name) (cutB q) := by rw [underS_under _ _ ho2, hn, ← hb]
        by_cases he : cutB q = ⟨#[]⟩
        · rw [if_pos he, findK_none r q hm he]
          rw [findE_none]
          · rfl
          · intro e hee
            obtain ⟨s, hs, hse⟩ := hin e hee
            rw [hse, hpq, he]
            exact fun e2 => hs (underS_inj e2)
        · rw [if_neg he, hpq, flat_findK ks (underS p o.name) (d + 1) (cutB q) he hks, findN_eq, if_neg he]
          show _ = Option.map _ ((findK ks (cutB q)).or _)
          cases findK ks (cutB q) <;> rfl
      · rw [if_neg hm] at hb
        rw [if_pos (by rw [hn, ← hb]), if_pos (by simpa using hm)]
        rfl
    · rw [if_neg hn]
      have hne : ¬ underS p o.name = underS p q := fun e => hn (by rw [← underS_inj e]; exact (cut_name ho1).1.symm)
      rw [if_neg hne, findE_none]
      · rfl
      · intro e hee e2
        obtain ⟨s, hs, hse⟩ := hin e hee
        rw [hse, underS_under _ _ ho2] at e2
        exact hn (by rw [← underS_inj e2]; exact (cut_slash ho1).1.symm)
theorem flat_findN (x : Nd) (q : ByteArray) (h : ∀ e ∈ flatK ⟨#[]⟩ 1 x.kids, NameE e) : findE (flatN ⟨#[]⟩ 0 x) q = (findN x q).map (·.own) := by
  rw [flatN_eq, findE_cons, findN_eq]
  by_cases hq : q = ⟨#[]⟩
  · rw [if_pos hq, if_pos hq.symm]; rfl
  · rw [if_neg hq, if_neg (fun e => hq e.symm)]
    have := flat_findK x.kids ⟨#[]⟩ 1 q hq h
    rw [underS_emp] at this
    exact this
theorem row_names {l : List Ent} (h : Tree1 l) : ∀ e ∈ flatK ⟨#[]⟩ 1 (treeF l).kids, NameE e := fun e he => by
  have hf := h.flat
  rw [flatN_eq] at hf
  have hd := flatK_deep _ _ _ e he
  have hF := h.rows.fine e (by rw [← hf]; exact List.mem_cons_of_mem _ he)
  have hl := hF.last (by omega)
  have hn : nameB e.own.name = true := hF.names _ (by rw [hl]; simp)
  exact ⟨(nameB_no47 hn).1, nameB_ne hn⟩
/-- What is found in the row is what is found in the tree. -/
theorem made_find (gs : List GV) (q : ByteArray) : findE (rowF gs) q = (findN (madeF gs) q).map (·.own) := by
  have := flat_findN (madeF gs) q (row_names (row_tree gs))
  unfold madeF at this ⊢
  rw [(row_tree gs).flat] at this
  exact this
end Go.Proofs.Ytojcciciinklbaa
