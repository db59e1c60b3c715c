/- Walks: whether attributes' keys, nodes' names rise; whether one of a list is odd. No claim by itself. -/
import Derived.Test.YtojcciciinklbaaTree7
set_option linter.unusedSimpArgs false
set_option linter.unusedVariables false
namespace Go.Proofs.Ytojcciciinklbaa
open Go.RowKit

/-- One of a list has it. -/
def anyTo {α : Type} (p : α → Bool) (xs : List α) (k : Nat) : Prop := ∀ j (h : j < xs.length), j < k → p xs[j] = false
theorem anyTo_zero {α : Type} (p : α → Bool) (xs : List α) : anyTo p xs 0 := fun _ _ h => absurd h (by omega)
theorem anyTo_succ {α : Type} {p : α → Bool} {xs : List α} {k : Nat} (h : anyTo p xs k) (hk : k < xs.length) (he : p xs[k] = false) : anyTo p xs (k + 1) := fun j hj hl => by
  by_cases e : j = k
  · subst e; exact he
  · exact h j hj (by omega)
theorem anyTo_all {α : Type} {p : α → Bool} {xs : List α} (h : anyTo p xs xs.length) : xs.any p = false := by
  rw [List.any_eq_false]
  intro x hx
  obtain ⟨j, hj, rfl⟩ := List.getElem_of_mem hx
  rw [h j hj hj]; simp
theorem any_at {α : Type} {p : α → Bool} {xs : List α} {k : Nat} (hk : k < xs.length) (h : p xs[k] = true) : xs.any p = true := List.any_eq_true.2 ⟨_, List.getElem_mem hk, h⟩

/-- An attribute that cannot be. -/
noncomputable def oddA (a : ByteArray × ByteArray) : Bool := !nameB a.1 || decide (24 < a.2.size)

theorem one_box {w w1 : World} {o : Obj} (hX : Below (w.alloc o).heap.size (w.alloc o) w1) : w1.heap[w.heap.size]? = some o ∧ Below w.heap.size w w1 ∧ w.heap.size + 1 ≤ w1.heap.size := by
  have hs := hX.size
  simp at hs
  refine ⟨?_, ((Below.refl _ w).alloc (Nat.le_refl _) _).trans (hX.mono (by simp)), hs⟩
  rw [hX.block _ (by simp)]; exact heap_alloc_new w _
theorem two_cells {w : World} {b t : Nat} {a0 a1 : Value} {fr : Nat × Nat} (h : w.heap[b]? = some (.cells #[a0, a1] t fr)) : w.cell? ⟨b, 0, none⟩ = some a0 ∧ w.cell? ⟨b, 1, none⟩ = some a1 := by
  refine ⟨?_, ?_⟩ <;> (rw [cell_block h]; rfl)

set_option maxHeartbeats 2000000 in
theorem own1_any (a b : ByteArray) (w : World) (h1 : a.size ≤ big) (h2 : b.size ≤ big) : Calls Try.prog 93 #[.agg #[.string a, .string b]] w fun e w' => e = .returned (.bool (oddA (a, b))) ∧ Below w.heap.size w w' := by
  have HE : Hid (oddA (a, b) = (!nameB a || decide (24 < b.size))) := Lib.hid rfl
  go_enter Try.func93, Try.ntmps93
  go_wp2_with fail
  refine (name_any a _).mono ?_
  rintro e w1 ⟨rfl, h1⟩
  obtain ⟨z0, z1, z2⟩ := one_box h1
  obtain ⟨n0, n1⟩ := two_cells z0
  have Z1 := Lib.hid z1
  clear z0 z1 h1
  obtain ⟨q, hq⟩ : ∃ q, q = nameB a := ⟨_, rfl⟩
  rw [← hq] at HE ⊢
  clear hq
  by_cases hb : 24 < b.size
  · have hbI : (24 : Int) < (b.size : Int) := by omega
    go_wp2
    all_goals (go_ret; exact ⟨ret_bool (by rw [HE.out]; simp [*]), Z1.out⟩)
  · have hbI : ¬ (24 : Int) < (b.size : Int) := by omega
    go_wp2
    all_goals (go_ret; exact ⟨ret_bool (by rw [HE.out]; simp [*]), Z1.out⟩)

set_option maxHeartbeats 2000000 in
theorem aindex_any (xs : List (ByteArray × ByteArray)) (v : Value) (L : Live) (w : World) (h : SliceR attrR L w xs v) :
    Calls Try.prog 105 #[v, .func (.func 93) #[] #[]] w fun e w' => (∃ i : Int, e = .returned (.int .i64 i) ∧ decide (0 ≤ i) = xs.any oddA) ∧ Below w.heap.size w w' := by
  obtain ⟨A1, c1, rfl, hnc1, hn1, _⟩ := h.form
  have H := Lib.hid h
  clear h
  go_enter Try.func105, Try.ntmps105
  go_wp2
  go_loopw [8] (fun i wr => ∃ k : Nat, k ≤ xs.length ∧ i = .int .i64 k ∧ Hid (anyTo oddA xs k) ∧ Below w.heap.size w wr) (fun i _ => xs.length - (intOf i).toNat)
  case atStart => exact ⟨0, Nat.zero_le _, rfl, Lib.hid (anyTo_zero _ _), Below.refl _ _⟩
  case round =>
    obtain ⟨k, hk, rfl, HI, hB⟩ := hrel
    have hbs := hB.size
    have HB := Lib.hid hB
    clear hB
    by_cases hl1 : k < xs.length
    · obtain ⟨b1, o1, rfl, p0, p1, q0, q1⟩ := attrs_at (H.out.mono (sub_same HB.out)) k hl1
      have hI1 : (k : Int) < (xs.length : Int) := by omega
      have HJ : Hid (oddA xs[k] = false → anyTo oddA xs (k + 1)) := Lib.hid (anyTo_succ HI.out hl1)
      have HK : Hid (oddA xs[k] = true → xs.any oddA = true) := Lib.hid (any_at hl1)
      obtain ⟨x, hx⟩ : ∃ x, x = xs[k] := ⟨_, rfl⟩
      rw [← hx] at p0 p1 q0 q1 HJ HK
      clear hx
      obtain ⟨x1, x2⟩ := x
      dsimp only at p0 p1 q0 q1
      go_wp2_with fail
      refine (own1_any x1 x2 _ q0 q1).mono ?_
      rintro e w1 ⟨rfl, h1⟩
      have X1 := Lib.hid (HB.out.trans (h1.mono hbs))
      clear h1 p0 p1 q0 q1
      obtain ⟨q, hq⟩ : ∃ q, q = oddA (x1, x2) := ⟨_, rfl⟩
      rw [← hq] at HJ HK ⊢
      cases q with
      | false =>
        have HJ' := Lib.hid (HJ.out rfl)
        clear HJ HK hq
        go_wp2
        go_roundw
        case rel => exact ⟨k + 1, by omega, by go_num, HJ', X1.out⟩
        case measure => simp [intOf]; omega
      | true =>
        have HK' := Lib.hid (HK.out rfl)
        clear HJ HK hq
        go_wp2
        go_ret
        exact ⟨⟨k, rfl, by rw [HK'.out]; simp⟩, X1.out⟩
    · have hke : k = xs.length := by omega
      have Hd : Hid (xs.any oddA = false) := Lib.hid (anyTo_all (by have := HI.out; rw [hke] at this; exact this))
      clear hke
      go_wp2
      go_ret
      exact ⟨⟨-1, rfl, by rw [Hd.out]; rfl⟩, HB.out⟩

set_option maxHeartbeats 2000000 in
theorem acontains_any (xs : List (ByteArray × ByteArray)) (v : Value) (L : Live) (w : World) (h : SliceR attrR L w xs v) :
    Calls Try.prog 92 #[v, .func (.func 93) #[] #[]] w fun e w' => e = .returned (.bool (xs.any oddA)) ∧ Below w.heap.size w w' := by
  have H := Lib.hid h
  clear h
  go_enter Try.func92, Try.ntmps92
  go_wp2_with fail
  refine (aindex_any xs v L _ H.out).mono ?_
  rintro e w1 ⟨⟨i, rfl, hi⟩, h1⟩
  have HI := Lib.hid hi
  have H1 := Lib.hid h1
  clear hi h1
  go_wp2
  go_ret
  exact ⟨ret_bool (by simpa using HI.out), H1.out⟩
end Go.Proofs.Ytojcciciinklbaa
