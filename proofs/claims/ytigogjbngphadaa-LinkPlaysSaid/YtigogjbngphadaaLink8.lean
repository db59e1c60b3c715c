/- Walks of what the link's statements call, the seventh part: First. No claim by itself. -/
import Derived.Test.YtigogjbngphadaaLink7
set_option linter.unusedSimpArgs false
set_option linter.unusedVariables false
namespace Go.Proofs.Ytigogjbngphadaa
open Go.RowKit

set_option maxHeartbeats 400000 in
theorem is_any (to a : Int) (s : ByteArray) (B : Nat) (w : World) (hB : w.cell? ⟨B, 0, none⟩ = some (.int .i64 to)) :
    Calls Try.prog 32 #[.agg #[.int .i64 a, .string s], .pointer (some ⟨B, 0, none⟩)] w fun e w' => e = .returned (.bool (a == to)) ∧ Below w.heap.size w w' := by
  have hlt := World.block_lt_of_cell? w _ hB
  have es : (s == s) = true := str_beq_self s
  go_enter Try.func32, Try.ntmps32
  go_wp2
  · go_ret
    exact ⟨rfl, (Below.refl _ _).alloc (Nat.le_refl _) _⟩
  · go_ret
    exact ⟨ret_bool (by symm; simpa using ‹¬ a = to›), (Below.refl _ _).alloc (Nat.le_refl _) _⟩

/-- The first one to a side, from a number on. -/
def firstFrom (to : Int) : List Pk → Nat → Int
  | [], _ => -1
  | x :: xs, i => if x.1 = to then (i : Int) else firstFrom to xs (i + 1)
def firstOf (to : Int) (xs : List Pk) : Int := firstFrom to xs 0
theorem firstFrom_step (to : Int) (xs : List Pk) (k : Nat) (hk : k < xs.length) (h : xs[k].1 ≠ to) : firstFrom to (xs.drop k) k = firstFrom to (xs.drop (k + 1)) (k + 1) := by
  rw [List.drop_eq_getElem_cons hk, firstFrom, if_neg h]
theorem firstFrom_hit (to : Int) (xs : List Pk) (k : Nat) (hk : k < xs.length) (h : xs[k].1 = to) : firstFrom to (xs.drop k) k = k := by
  rw [List.drop_eq_getElem_cons hk, firstFrom, if_pos h]

set_option maxHeartbeats 800000 in
theorem index_any (to : Int) (B : Nat) (L : Live) (w : World) (xs : List Pk) (v : Value) (hS : SliceR ownR L w xs v) (hB : w.cell? ⟨B, 0, none⟩ = some (.int .i64 to)) (hlt : xs.length ≤ 64) :
    Calls Try.prog 31 #[v, .func (.func 32) #[] #[.pointer (some ⟨B, 0, none⟩)]] w fun e w' => e = .returned (.int .i64 (firstOf to xs)) ∧ Below w.heap.size w w' := by
  obtain ⟨A, c, rfl, hnc, hn1, hn2⟩ := hS.form
  have HS := Lib.hid hS; clear hS
  have HB := Lib.hid hB; clear hB
  go_enter Try.func31, Try.ntmps31
  go_wp2
  go_loopw [8] (fun i wr => ∃ k : Nat, k ≤ xs.length ∧ i = .int .i64 k ∧ firstFrom to (xs.drop k) k = firstOf to xs ∧ Below w.heap.size w wr) (fun i _ => xs.length - (intOf i).toNat)
  case atStart => exact ⟨0, Nat.zero_le _, rfl, rfl, Below.refl _ _⟩
  case round =>
    obtain ⟨k, hk, rfl, hf, hb⟩ := hrel
    by_cases hlt' : k < xs.length
    · obtain ⟨b, off, cs, rfl, ⟨rfl, hz⟩, hcc⟩ := HS.out.get (by decide) k hlt'
      have d0 : w.cell? ⟨b, off + k * 2, none⟩ = some (.int .i64 xs[k].1) := (hcc 0 _ rfl).1
      have d1 : w.cell? ⟨b, off + k * 2 + 1, none⟩ = some (.string xs[k].2) := (hcc 1 _ rfl).1
      have c0 := (hb.cell (World.block_lt_of_cell? w _ d0)).trans d0
      have c1 := (hb.cell (World.block_lt_of_cell? w _ d1)).trans d1
      have hB' := Lib.hid ((hb.cell (World.block_lt_of_cell? w _ HB.out)).trans HB.out)
      have Hb := Lib.hid hb
      have Hf := Lib.hid hf
      clear hcc d0 d1 hb hf hz
      by_cases ht : xs[k].1 = to
      · have hd : (xs[k].1 == to) = true := by simpa using ht
        have Hh := Lib.hid (firstFrom_hit to xs k hlt' ht)
        clear ht
        go_wp2_with fail
        refine (is_any to _ _ B _ hB'.out).mono ?_
        rintro e w1 ⟨rfl, h1⟩
        have H1 := Lib.hid h1; clear h1
        go_wp2
        go_ret
        exact ⟨ret_int (by rw [← Hf.out, Hh.out]), Hb.out.trans (H1.out.mono Hb.out.size)⟩
      · have hd : (xs[k].1 == to) = false := by simpa using ht
        have Hh := Lib.hid (firstFrom_step to xs k hlt' ht)
        clear ht
        go_wp2_with fail
        refine (is_any to _ _ B _ hB'.out).mono ?_
        rintro e w1 ⟨rfl, h1⟩
        have H1 := Lib.hid h1; clear h1
        go_wp2
        go_roundw
        case rel => exact ⟨k + 1, by omega, by go_num, by rw [← Hh.out, Hf.out], Hb.out.trans (H1.out.mono Hb.out.size)⟩
        case measure => simp [intOf]; omega
    · have hke : k = xs.length := by omega
      subst hke
      have Hb := Lib.hid hb
      have Hf := Lib.hid hf
      clear hb hf
      go_wp2
      go_ret
      exact ⟨ret_int (by rw [← Hf.out, List.drop_length]; rfl), Hb.out⟩

set_option maxHeartbeats 400000 in
theorem first_any (to : Int) (g base : Nat) (L : Live) (w : World) (xs : List Pk) (hlt : xs.length ≤ 64) (hL : LinkAt L w base g xs) :
    Calls Try.prog 22 #[.pointer (some ⟨g, 0, none⟩), .int .i64 to] w fun e w' => e = .returned (.int .i64 (firstOf to xs)) ∧ Below w.heap.size w w' := by
  obtain ⟨v, hg, _, _, hrow, _⟩ := hL
  obtain ⟨_, hok1, _, hS⟩ := hrow.list
  obtain ⟨A, c, rfl, hnc, hn1, hn2⟩ := hS.form
  have hcell := cell_block hg 0
  simp at hcell
  have hglt : g < w.heap.size := (Array.getElem?_eq_some_iff.1 hg).1
  have HS := Lib.hid hS
  clear hg hS hrow hok1
  go_enter Try.func22, Try.ntmps22
  go_wp2_with fail
  refine (index_any to w.heap.size (fun _ _ => True) _ xs _ (HS.out.mono (sub_any ((Below.refl _ w).alloc (Nat.le_refl _) _))) (cell_block (heap_alloc_new w _) 0) hlt).mono ?_
  rintro e w1 ⟨rfl, h1⟩
  have H1 := Lib.hid h1; clear h1
  go_wp2
  go_ret
  exact ⟨rfl, ((Below.refl _ w).alloc (Nat.le_refl _) _).trans (H1.out.mono (by simp))⟩
end Go.Proofs.Ytigogjbngphadaa
