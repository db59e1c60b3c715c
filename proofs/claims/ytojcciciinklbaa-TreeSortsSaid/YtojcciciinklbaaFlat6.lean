/- Archives: what is laid of a tree is what is laid of its entries in their row. Plain laws. No claim by itself. -/
import Derived.Test.YtojcciciinklbaaFlat5
import Derived.Test.YtojcciciinklbaaLay0
set_option linter.unusedSimpArgs false
set_option linter.unusedVariables false
namespace Go.Proofs.Ytojcciciinklbaa
open Go.RowKit

/-! ### Entries in their row: a byte 0 for each directory that ends -/
/-- The entry, and what ends behind it: behind it comes one so deep. -/
def entW (e : Ent) (next : Int) : List UInt8 := ownW e.own ++ (if e.own.kind = 1 ∧ next ≤ (e.deep : Int) then [0] else []) ++ List.replicate ((e.deep : Int) - max next 0).toNat 0
def nextD (l : List Ent) (z : Int) : Int := match l with | [] => z | e :: _ => e.deep
def rowW : List Ent → Int → List UInt8
  | [], _ => []
  | e :: r, z => entW e (nextD r z) ++ rowW r z
theorem nextD_app (l r : List Ent) (z : Int) : nextD (l ++ r) z = nextD l (nextD r z) := by cases l <;> rfl
theorem rowW_app : ∀ (l r : List Ent) (z : Int), rowW (l ++ r) z = rowW l (nextD r z) ++ rowW r z
  | [], r, z => rfl
  | e :: l, r, z => by rw [List.cons_append, rowW, rowW, rowW_app l r z, nextD_app, List.append_assoc]
mutual
/-- Kids hang on directories alone. -/
def dirsOk : Nd → Bool
  | .mk o ks => (decide (o.kind = 1) || ks.isEmpty) && dirsOkL ks
def dirsOkL : List Nd → Bool
  | [] => true
  | k :: r => dirsOk k && dirsOkL r
end
theorem flatK_nil (p : ByteArray) (d : Nat) : flatK p d [] = [] := by simp [flatK]
theorem nextD_flat (p : ByteArray) (d : Nat) (x : Nd) (z : Int) : nextD (flatN p d x) z = d := by cases x; rfl
theorem rep_add (a b : Nat) : List.replicate a (0 : UInt8) ++ List.replicate b 0 = List.replicate (a + b) 0 := by rw [List.replicate_append_replicate]
mutual
theorem row_lay : ∀ (x : Nd) (p : ByteArray) (d : Nat) (z : Int), z ≤ d → dirsOk x = true → rowW (flatN p d x) z = layN x ++ List.replicate ((d : Int) - max z 0).toNat 0
  | .mk o ks, p, d, z, hz, hd => by
    rw [dirsOk, Bool.and_eq_true, Bool.or_eq_true, decide_eq_true_eq, List.isEmpty_iff] at hd
    rw [flatN, rowW, layN]
    by_cases hk : o.kind = 1
    · rw [if_pos hk]
      cases ks with
      | nil =>
        have h2 : nextD (flatK p (d + 1) []) z = z := by rw [flatK_nil]; rfl
        rw [h2]
        simp only [flatK_nil, rowW, entW, hk, true_and, if_pos hz, layK, List.nil_append, List.append_nil, List.append_assoc]
      | cons k r =>
        have h1 := row_layK (k :: r) p (d + 1) z (by omega) (by simp) hd.2
        have h2 : nextD (flatK p (d + 1) (k :: r)) z = ((d + 1 : Nat) : Int) := by
          rw [flatK_cons, nextD_app, nextD_flat]
        rw [h1, h2]
        have h3 : ((((d + 1 : Nat) : Int)) - max z 0).toNat = 1 + ((d : Int) - max z 0).toNat := by omega
        have h4 : ((d : Int) - max ((d + 1 : Nat) : Int) 0).toNat = 0 := by omega
        have h5 : ¬ (((d + 1 : Nat) : Int) ≤ (d : Int)) := by omega
        rw [h3]
        simp only [entW, h4, h5, and_false, if_false, List.append_nil, List.replicate_zero]
        rw [← rep_add]
        simp [List.append_assoc]
    · obtain rfl : ks = [] := hd.1.resolve_left hk
      have h2 : nextD (flatK p (d + 1) []) z = z := by rw [flatK_nil]; rfl
      rw [h2]
      simp only [flatK_nil, rowW, entW, hk, false_and, if_false, List.append_nil]
theorem row_layK : ∀ (ks : List Nd) (p : ByteArray) (d : Nat) (z : Int), z ≤ d → ks ≠ [] → dirsOkL ks = true → rowW (flatK p d ks) z = layK ks ++ List.replicate ((d : Int) - max z 0).toNat 0
  | [], _, _, _, _, h, _ => absurd rfl h
  | .mk o ks :: r, p, d, z, hz, _, hd => by
    rw [dirsOkL, Bool.and_eq_true] at hd
    rw [flatK_cons, rowW_app, layK]
    show rowW (flatN (underS p o.name) d (.mk o ks)) _ ++ _ = _
    cases r with
    | nil =>
      have h1 := row_lay (.mk o ks) (underS p o.name) d z hz hd.1
      have h2 : nextD (flatK p d []) z = z := by rw [flatK_nil]; rfl
      rw [h2, flatK_nil, h1]
      simp [rowW, layK]
    | cons k2 r2 =>
      have h2 : nextD (flatK p d (k2 :: r2)) z = (d : Int) := by rw [flatK_cons, nextD_app, nextD_flat]
      have h1 := row_lay (.mk o ks) (underS p o.name) d (d : Int) (Int.le_refl _) hd.1
      have h3 := row_layK (k2 :: r2) p d z hz (by simp) hd.2
      have h4 : ((d : Int) - max (d : Int) 0).toNat = 0 := by omega
      rw [h4] at h1
      rw [h2, h3, h1]
      simp
end
/-- The magic. -/
def magicB : List UInt8 := [76, 84, 82, 49]
def writeR (l : List Ent) : List UInt8 := magicB ++ rowW l (-1)
def archB (x : Nd) : List UInt8 := magicB ++ layN x
theorem write_flat (x : Nd) (p : ByteArray) (h : dirsOk x = true) : writeR (flatN p 0 x) = archB x := by
  unfold writeR archB
  rw [row_lay x p 0 (-1) (by omega) h]
  have h1 : (((0 : Nat) : Int) - max (-1) 0).toNat = 0 := by omega
  rw [h1]; simp
theorem dirs_any : ∀ (n : Nat) (x : Nd), count x ≤ n → formB x = true → dirsOk x = true
  | 0, x, h, _ => by rw [count_eq] at h; omega
  | n + 1, .mk o ks, h, hf => by
    rw [formB_eq, ownB_iff] at hf
    simp only [Bool.and_eq_true, Bool.not_eq_true', Nd.kids, List.any_eq_false] at hf
    rw [dirsOk, Bool.and_eq_true]
    refine ⟨hf.1.1.2, ?_⟩
    have hk : ∀ (l : List Nd), countL l ≤ n → (∀ x ∈ l, ¬ oddN x = true) → dirsOkL l = true := by
      intro l
      induction l with
      | nil => intro _ _; rfl
      | cons y l ih =>
        intro hc hl
        rw [countL] at hc
        rw [dirsOkL, Bool.and_eq_true]
        have := hl y (by simp)
        simp only [oddN, Bool.or_eq_true, Bool.not_eq_true', not_or, Bool.not_eq_false] at this
        exact ⟨dirs_any n y (by omega) this.2, ih (by omega) fun z hz => hl z (by simp [hz])⟩
    rw [count] at h
    exact hk ks (by omega) hf.1.2
theorem dirs_may {x : Nd} (h : mayI x = 0) : dirsOk x = true := by
  refine dirs_any _ x (Nat.le_refl _) ?_
  unfold mayI at h
  by_cases hf : (rootB x && formB x) = true
  · rw [Bool.and_eq_true] at hf; exact hf.2
  · rw [if_neg hf] at h; omega
end Go.Proofs.Ytojcciciinklbaa

/- How many nodes a row's tree has, and how deep it is: plain laws. No claim by itself. -/
set_option linter.unusedSimpArgs false
set_option linter.unusedVariables false
namespace Go.Proofs.Ytojcciciinklbaa
open Go.RowKit

theorem forest_size : ∀ (n : Nat) (l : List Ent), l.length ≤ n → countL (forest l) = l.length ∧ ((∀ e ∈ l, e.own.name.size ≤ 1000) → namesOkL (forest l)) ∧ ∀ B, (∀ e ∈ l, bulk (.mk e.own []) ≤ B) → bulkL (forest l) ≤ l.length * B := by
  intro n
  induction n with
  | zero =>
    intro l hl
    obtain rfl : l = [] := List.eq_nil_of_length_eq_zero (by omega)
    rw [forest_nil]
    exact ⟨rfl, fun _ => trivial, fun _ _ => by simp [bulkL]⟩
  | succ n ih =>
    intro l hl
    cases l with
    | nil => rw [forest_nil]; exact ⟨rfl, fun _ => trivial, fun _ _ => by simp [bulkL]⟩
    | cons e r =>
      simp only [List.length_cons] at hl ⊢
      obtain ⟨a, ha⟩ : ∃ a, a = r.takeWhile fun x => decide (e.deep < x.deep) := ⟨_, rfl⟩
      obtain ⟨b, hb⟩ : ∃ b, b = r.dropWhile fun x => decide (e.deep < x.deep) := ⟨_, rfl⟩
      have hab : a ++ b = r := by rw [ha, hb, List.takeWhile_append_dropWhile]
      have hlen : a.length + b.length = r.length := by rw [← hab, List.length_append]
      obtain ⟨a1, a2, a3⟩ := ih a (by omega)
      obtain ⟨b1, b2, b3⟩ := ih b (by omega)
      rw [forest_cons, ← ha, ← hb]
      refine ⟨by rw [countL, count, a1, b1]; omega, fun h => ?_, fun B h => ?_⟩
      · rw [namesOkL, namesOk_eq]
        exact ⟨⟨h e (by simp), a2 fun x hx => h x (by rw [← hab]; simp [hx])⟩, b2 fun x hx => h x (by rw [← hab]; simp [hx])⟩
      · have h1 := a3 B fun x hx => h x (by rw [← hab]; simp [hx])
        have h2 := b3 B fun x hx => h x (by rw [← hab]; simp [hx])
        have h3 := h e (by simp)
        simp only [bulkL, bulk] at h3 ⊢
        have h4 : (r.length + 1) * B = a.length * B + b.length * B + B := by rw [← hlen, Nat.add_mul, Nat.add_mul]; omega
        omega
theorem tree_size (e : Ent) (r : List Ent) : count (treeF (e :: r)) ≤ r.length + 1 ∧ ((∀ x ∈ e :: r, x.own.name.size ≤ 1000) → namesOk (treeF (e :: r))) ∧ ∀ B, (∀ x ∈ e :: r, bulk (.mk x.own []) ≤ B) → bulk (treeF (e :: r)) ≤ (r.length + 1) * B := by
  have hl := (List.takeWhile_sublist (l := r) (fun x => decide (e.deep < x.deep))).length_le
  have hm : ∀ x, x ∈ r.takeWhile (fun x => decide (e.deep < x.deep)) → x ∈ r := fun x hx => (List.takeWhile_sublist (l := r) (fun x => decide (e.deep < x.deep))).mem hx
  obtain ⟨h1, h2, h3⟩ := forest_size _ (r.takeWhile fun x => decide (e.deep < x.deep)) (Nat.le_refl _)
  rw [treeF]
  refine ⟨by rw [count, h1]; omega, fun h => ?_, fun B h => ?_⟩
  · rw [namesOk_eq]
    exact ⟨h e (by simp), h2 fun x hx => h x (by simp [hm x hx])⟩
  · have h4 := h3 B fun x hx => h x (by simp [hm x hx])
    have h5 := h e (by simp)
    have h6 := Nat.mul_le_mul_right B hl
    simp only [bulkL, bulk] at h5 ⊢
    rw [Nat.add_mul]; omega
theorem depth_count (x : Nd) : depth x + 1 ≤ count x := by
  rw [depth_eq, count_eq]
  have := depthL_le x.kids
  omega
/-- What is asked of one's name and bytes. -/
def Small (o : Own) : Prop := o.name.size ≤ 1000 ∧ bulk (.mk o []) ≤ 10000
theorem row_small {l : List Ent} (h0 : 0 < l.length) (h : l.length ≤ 13) (hs : ∀ e ∈ l, Small e.own) : count (treeF l) ≤ 13 ∧ depth (treeF l) ≤ 12 ∧ namesOk (treeF l) ∧ bulk (treeF l) ≤ 1000000 := by
  cases l with
  | nil => simp at h0
  | cons e r =>
    obtain ⟨h1, h2, h3⟩ := tree_size e r
    have h4 := h3 10000 fun x hx => (hs x hx).2
    have h5 := depth_count (treeF (e :: r))
    simp only [List.length_cons] at h
    exact ⟨by omega, by omega, h2 fun x hx => (hs x hx).1, by omega⟩
theorem rowF_own (gs : List GV) : ∀ e ∈ rowF gs, e = rootE ∨ ∃ g ∈ gs, e.own = nodeO g := by
  have hstep : ∀ (l : List GV) (out : List Ent) (Q : Ent → Prop), (∀ e ∈ out, Q e) → (∀ g ∈ l, ∀ out, Q (newE out g)) → ∀ e ∈ l.foldl stepF out, Q e := by
    intro l
    induction l with
    | nil => intro out Q h _ e he; exact h e he
    | cons g l ih =>
      intro out Q h hn e he
      refine ih (stepF out g) Q (fun x hx => ?_) (fun y hy => hn y (by simp [hy])) e he
      unfold stepF at hx
      split at hx
      · split at hx
        · exact h x hx
        · rcases List.mem_append.1 hx with hx | hx
          · exact h x (List.mem_of_mem_take hx)
          · rcases List.mem_cons.1 hx with rfl | hx
            · exact hn g (by simp) out
            · exact h x (List.mem_of_mem_drop hx)
      · exact h x hx
  intro e he
  refine hstep (gs.take 12) [rootE] (fun e => e = rootE ∨ ∃ g ∈ gs, e.own = nodeO g) (fun x hx => .inl (by simpa using hx)) (fun g hg out => .inr ⟨g, List.mem_of_mem_take hg, rfl⟩) e he
theorem nodeO_small (g : GV) : Small (nodeO g) := by
  have h1 : (nodeO g).name = nameOf g.name := rfl
  have h2 : (nodeO g).data = if around g.kind 4 = 1 then g.b.take 60 else [] := rfl
  have h3 : (nodeO g).attrs = if g.n.tmod 3 = 1 then [(nameOf g.up, shortS g.s 24)] else [] := rfl
  have h4 := (nameB_no47 (nameOf_ok g.name)).2.2
  refine ⟨by rw [h1]; exact Nat.le_trans h4 (by decide), ?_⟩
  have h5 : (nodeO g).data.length ≤ 60 := by
    rw [h2]; split
    · exact List.length_take_le _ _
    · simp
  have h6 : (nodeO g).attrs.length ≤ 1 := by
    rw [h3]; split <;> simp
  simp only [bulk, bulkL]
  omega
theorem rootE_small : Small rootE.own := by
  refine ⟨by decide, ?_⟩
  simp [bulk, bulkL, rootE]
theorem rowF_small (gs : List GV) : ∀ e ∈ rowF gs, Small e.own := fun e he => by
  rcases rowF_own gs e he with rfl | ⟨g, _, h⟩
  · exact rootE_small
  · rw [h]; exact nodeO_small g
/-- One of a row, with other fields of its own. -/
def oddE (l : List Ent) (k : Nat) (o : Own) : List Ent := l.set k ⟨(l.getD k default).deep, (l.getD k default).path, o⟩
theorem odd_small {l : List Ent} {k : Nat} {o : Own} (hs : ∀ e ∈ l, Small e.own) (ho : Small o) : ∀ e ∈ oddE l k o, Small e.own := fun e he => by
  rcases List.mem_or_eq_of_mem_set he with he | rfl
  · exact hs e he
  · exact ho
end Go.Proofs.Ytojcciciinklbaa
