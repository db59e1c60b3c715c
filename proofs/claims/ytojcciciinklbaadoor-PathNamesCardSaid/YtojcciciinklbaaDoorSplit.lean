/- strings.Split at one byte, without the library's variable; its pieces are the document's. No claim by itself. -/
import Derived.Test.YtojcciciinklbaaDoorPath3
import Derived.Test.YtojcciciinklbaaDoorShelf
set_option linter.unusedSimpArgs false
set_option linter.unusedVariables false
namespace Go.Proofs.YtojcciciinklbaaDoor
open Go.Shelf Go.RowKit Go.Lib

section
variable {P : Program} {ρ : Ren}
set_option maxHeartbeats 1000000 in
theorem split_one (L : Lays.n146 P ρ) (hi9 : (P.info? (ρ.t 9)).map (fun i => (i.zero, i.size, i.bytes)) = some (some (.string ByteArray.empty), 1, 16)) (s : ByteArray) (c : UInt8) (w : World) (hs : s.size < 4294967281) :
    Calls P (ρ.f 146) #[.string s, .string ⟨#[c]⟩] w fun e w' =>
      e = .returned (.slice (some ⟨w.heap.size, 0, none⟩) (Lib.countB s ⟨#[c]⟩ + 1) (Lib.countB s ⟨#[c]⟩ + 1)) ∧ w' = w.alloc (.cells ((Lib.splitB ⟨#[c]⟩ 0 (Lib.countB s ⟨#[c]⟩) s).map Value.string).toArray (ρ.t 9)) := by
  have h1 : 1 ≤ (⟨#[c]⟩ : ByteArray).size := Nat.le_refl _
  have hle := Lib.countB_le ⟨#[c]⟩ h1 s.size s (Nat.le_refl _)
  have hlen := Lib.splitB_all ⟨#[c]⟩ h1 0 _ s rfl
  have hI : ∀ (x : ByteArray) (cs : Array Value), x.size ≤ s.size → Calls P (ρ.f 143) #[.string x, .string ⟨#[c]⟩] (w.alloc (.cells cs (ρ.t 9))) fun e w' => e = .returned (.int .i64 (Lib.indexB x ⟨#[c]⟩)) ∧ w' = w.alloc (.cells cs (ρ.t 9)) := fun x cs hx =>
    (Any.strings_Index_one { L with } x c _).mono fun e w' ⟨he, hw⟩ => ⟨by rw [he]; show _ = Ending.returned (Value.int .i64 (Lib.index x.data.toList [c])); rw [Lib.index_one], hw⟩
  have hC : Calls P (ρ.f 138) #[.string s, .string ⟨#[c]⟩] w fun e w' => e = .returned (.int .i64 (Lib.countB s ⟨#[c]⟩)) ∧ w' = w :=
    (Any.strings_Count_one { L with } s c w).mono fun e w' ⟨he, hw⟩ => ⟨by rw [he]; show _ = Ending.returned (Value.int .i64 ((Lib.count s.data.toList [c] : Nat) : Int)); rw [Lib.count_one]; rfl, hw⟩
  have cc := Any.strings_genSplit_core { L with } hi9 s ⟨#[c]⟩ 0 (-1) (Lib.countB s ⟨#[c]⟩ + 1) w hs h1 (Nat.zero_le _) hI hC (by decide) (by decide) (by rw [if_pos (by decide)]; omega)
  rw [Nat.add_sub_cancel, hlen] at cc
  have e2 : Lib.cellsOf (Lib.splitB ⟨#[c]⟩ 0 (Lib.countB s ⟨#[c]⟩) s) (Lib.countB s ⟨#[c]⟩ + 1) = ((Lib.splitB ⟨#[c]⟩ 0 (Lib.countB s ⟨#[c]⟩) s).map Value.string).toArray := by rw [← hlen]; exact Lib.cellsOf_full _
  rw [e2] at cc
  have t3 := L.t3; have t9 := L.t9; have t31 := L.t31
  have a3 := L.a3; have a9 := L.a9; have a31 := L.a31
  have z3 := L.z3; have v3 := L.v3; have z9 := L.z9; have v9 := L.v9; have z31 := L.z31; have v31 := L.v31
  have e221 : ∀ args w, (callFunc (ρ.f 221) args).run P w = .ok (.enter (ρ.f 221) args) w := enters_of L.f221 (by kernel_rfl) rfl
  clear hI hC
  go_enter L.f146, Body.n146_ntmps ρ
  go_wp2_with (go_at_fn (ρ.f 221); refine cc.mono ?_; rintro e w' ⟨rfl, hw⟩; rw [hw])
  go_ret
  exact ⟨rfl, rfl⟩
end

theorem spl_app : ∀ (l cur cur' : List UInt8), ∃ h t, spl cur' l = h :: t ∧ spl (cur ++ cur') l = (cur ++ h) :: t
  | [], cur, cur' => ⟨cur', [], rfl, rfl⟩
  | c :: r, cur, cur' => by
    by_cases h : c = 47
    · subst h
      exact ⟨cur', spl [] r, spl_hit _ _, spl_hit _ _⟩
    · obtain ⟨h', t, e1, e2⟩ := spl_app r cur (cur' ++ [c])
      exact ⟨h', t, by rw [spl_miss _ _ _ h]; exact e1, by rw [spl_miss _ _ _ h, List.append_assoc]; exact e2⟩

theorem index_cons_ne (b : UInt8) (l : List UInt8) (h : b ≠ 47) : index (b :: l) [47] = if index l [47] == -1 then -1 else index l [47] + 1 := by
  have hp : ([47] : List UInt8).isPrefixOf (b :: l) = false := by simp [List.isPrefixOf, Ne.symm h]
  rw [index, hp]; simp

theorem splitK_cons (b : UInt8) (l : List UInt8) (hb : b ≠ 47) : ∀ k, ∃ h t, splitK [47] 0 k l = h :: t ∧ splitK [47] 0 k (b :: l) = (b :: h) :: t
  | 0 => ⟨l, [], rfl, rfl⟩
  | k + 1 => by
    have hi := index_cons_ne b l hb
    by_cases hm : index l [47] = -1
    · refine ⟨l, [], by rw [splitK, if_pos (beq_iff_eq.2 hm)], ?_⟩
      rw [splitK, if_pos (beq_iff_eq.2 (by rw [hi, if_pos (beq_iff_eq.2 hm)]))]
    · have hge := index_ge l [47]
      obtain ⟨j, hj⟩ : ∃ j : Nat, index l [47] = j := ⟨(index l [47]).toNat, by omega⟩
      have hi' : index (b :: l) [47] = ((j + 1 : Nat) : Int) := by rw [hi, if_neg (fun e => hm (beq_iff_eq.1 e)), hj]; omega
      refine ⟨l.take j, splitK [47] 0 k (l.drop (j + 1)), ?_, ?_⟩
      · rw [splitK, if_neg (fun e => hm (beq_iff_eq.1 e)), hj]; rfl
      · rw [splitK, if_neg (fun e => by have := beq_iff_eq.1 e; omega), hi']; rfl

theorem splitK_spl : ∀ (l : List UInt8) (k : Nat), l.count 47 ≤ k → splitK [47] 0 k l = spl [] l
  | [], k, _ => by
    cases k with
    | zero => rfl
    | succ k => rfl
  | b :: l, k, hk => by
    by_cases hb : b = 47
    · subst hb
      rw [List.count_cons_self] at hk
      obtain ⟨k, rfl⟩ : ∃ k', k = k' + 1 := ⟨k - 1, by omega⟩
      have hix : index (47 :: l) [47] = 0 := by rw [index]; simp [List.isPrefixOf]
      rw [splitK, hix, spl_hit]
      have := splitK_spl l k (by omega)
      simp [this]
    · rw [List.count_cons_of_ne (by simpa using hb)] at hk
      obtain ⟨h, t, e1, e2⟩ := splitK_cons b l hb k
      obtain ⟨h', t', e3, e4⟩ := spl_app l [b] []
      rw [e2, spl_miss _ _ _ hb]
      have := splitK_spl l k hk
      rw [e1, e3] at this
      injection this with i1 i2
      subst i1 i2
      exact e4.symm

theorem splitB_spl (s : ByteArray) : Lib.splitB ⟨#[47]⟩ 0 (Lib.countB s ⟨#[47]⟩) s = (spl [] s.data.toList).map mkS := by
  have h := Lib.splitB_data ⟨#[47]⟩ 0 (Lib.countB s ⟨#[47]⟩) s
  have h2 : splitK (⟨#[47]⟩ : ByteArray).data.toList 0 (Lib.countB s ⟨#[47]⟩) s.data.toList = spl [] s.data.toList := by
    refine splitK_spl _ _ ?_
    show _ ≤ Lib.count s.data.toList [47]
    rw [Lib.count_one]; exact Nat.le_refl _
  rw [h2] at h
  rw [← h, List.map_map]
  have : (mkS ∘ fun x : ByteArray => x.data.toList) = id := by funext x; rfl
  rw [this, List.map_id]

/-- strings.Split(s, "/"). -/
theorem split_any (s : ByteArray) (w : World) (hs : s.size ≤ 1000000) :
    Calls Tryd.prog 57 #[.string s, .string ⟨#[47]⟩] w fun e w' => ∃ v, e = .returned v ∧ SL w' w.heap.size v ((spl [] s.data.toList).map mkS) ∧ Below w.heap.size w w' := by
  refine (split_one Tryd.lays146 Tryd.infoStr s 47 w (by omega)).mono ?_
  rintro e w' ⟨rfl, rfl⟩
  have hl := Lib.splitB_all ⟨#[47]⟩ (Nat.le_refl _) 0 _ s rfl
  rw [splitB_spl] at hl ⊢
  rw [← hl]
  have hle := Lib.countB_le ⟨#[47]⟩ (Nat.le_refl _) s.size s (Nat.le_refl _)
  refine ⟨_, rfl, ⟨by rw [strV_length]; omega, .inr ⟨w.heap.size, _, _, (0, 0), rfl, Nat.le_refl _, heap_alloc_new w _, .inl rfl, Nat.le_refl _, by simp only [maxLen]; omega, by simp [strV], ?_⟩⟩, (Below.refl _ _).alloc (Nat.le_refl _) _⟩
  simp only [Nat.mul_one]
  rw [List.take_of_length_le (by simp [strV])]
  rfl

set_option maxHeartbeats 1000000 in
theorem names_any (p : ByteArray) (w : World) (hp : p.size ≤ 1000000) :
    Calls Tryd.prog 39 #[.string p] w fun e w' => ∃ v, e = .returned v ∧ SL w' w.heap.size v (pieces p) ∧ Below w.heap.size w w' := by
  by_cases he : p = ⟨#[]⟩
  · subst he
    go_enter Tryd.func39, Tryd.ntmps39
    go_wp2
    go_ret
    exact ⟨_, rfl, SL.nil _ _, Below.refl _ _⟩
  have q0 := toL_emp he
  have n0 : ¬ p.toList = [] := fun e => he ((toL_eq p []).1 e)
  have Hp : Hid (pieces p = (spl [] p.data.toList).map mkS) := Lib.hid (by unfold pieces; rw [if_neg he])
  clear he
  go_enter Tryd.func39, Tryd.ntmps39
  go_wp2_with fail
  refine (split_any p w hp).mono ?_
  rintro e w1 ⟨v, rfl, h1, h2⟩
  have H1 := Lib.hid h1; have H2 := Lib.hid h2
  clear h1 h2
  go_wp2
  go_ret
  exact ⟨_, rfl, by rw [Hp.out]; exact H1.out, H2.out⟩
end Go.Proofs.YtojcciciinklbaaDoor
