/- Walks of what the link's statements call, the thirteenth part: one step, as the document does it. No claim by itself. -/
import Derived.Test.YtigogjbngphadaaLink13
set_option linter.unusedSimpArgs false
set_option linter.unusedVariables false
namespace Go.Proofs.Ytigogjbngphadaa
open Go.RowKit

set_option maxHeartbeats 8000000 in
theorem rdo_any (K N M : Int) (y : UInt8) (bs : List UInt8) (vb v : Value) (base : Nat) (Lb : Live) (w : World) (xs ys : List Pk) (p : Pk) (c : Int) (hK1 : -9223372036854775808 ≤ K) (hK2 : K ≤ 9223372036854775807) (hy : IntKind.u8.wrap K = (y.toNat : Int))
    (hG : Good 23 xs) (hz : ∀ i (h : i < xs.length), xs[i].2.size ≤ room) (hS : SliceR Rp.byte Lb w bs vb) (h : PL w base v xs) (hbase : base ≤ w.heap.size) (hs : Stp (around K 9) N M y bs xs ys p c) :
    Calls Try.prog 23 #[v, .agg #[.int .i64 K, .int .i64 N, .int .i64 M, vb]] w fun e w' => ∃ v', e = .returned (.tuple #[v', .agg #[.int .i64 p.1, .string p.2], .int .i64 c]) ∧ PL w' base v' ys ∧ Below w.heap.size w w' := by
  have hl : xs.length ≤ 23 := hG.len
  obtain ⟨A, c0, rfl, _, _⟩ := hS.form
  have hlt := Blk.lt h
  have HP := Lib.hid h
  have HS := Lib.hid hS
  have HG := Lib.hid hG
  have HZ := Lib.hid hz
  have HLt := Lib.hid hlt
  clear h hS hG hz hlt
  obtain ⟨a, ha⟩ : ∃ a, a = around K 9 := ⟨_, rfl⟩
  rw [← ha] at hs
  have b2 : ∀ o1 o2, Below w.heap.size w ((w.alloc o1).alloc o2) := fun o1 o2 => ((Below.refl _ w).alloc (Nat.le_refl _) _).alloc (by simp) _
  have HB2 := Lib.hid b2
  clear b2
  go_enter Try.func23, Try.ntmps23
  go_wp2_with fail
  refine (around_any K 9 _ hK1 hK2 (by decide) (by decide)).mono ?_
  rintro e w' ⟨rfl, rfl⟩
  rw [← ha]
  have Ha := Lib.hid ha
  clear ha
  cases hs with
  | take k h hN hk =>
    subst h hN
    go_wp2_with fail
    refine (rtake_any k v base _ xs hk (by omega) (Blk.below HP.out (HB2.out _ _)) (by simp; omega)).mono ?_
    rintro e w1 ⟨v1, rfl, h1, h2⟩
    obtain ⟨x0, x1, x2, x3⟩ := box2 h2
    have n0 := cell_block x1 0
    have n1 := cell_block x1 1
    have f0 := frozen_block x1 0
    have f1 := frozen_block x1 1
    simp at n0 n1
    have H1 := Lib.hid h1
    have H2 := Lib.hid x2
    clear h1 h2 x0 x1 x2
    go_wp2
    refine bodyPost_ret (v := .tuple #[v1, .agg #[.int .i64 xs[k].1, .string xs[k].2], .int .i64 0]) (by simp [results, Try.results23, go_sem, n0, n1]) rfl ?_
    refine ⟨_, rfl, ?_, ?_⟩
    · have hne : ∀ j, v1.ownBlock = some j → j ≠ w.heap.size + 1 := fun j hj => by have := (Blk.lt H1.out j hj).1; simp at this; omega
      exact pl_set (pl_set (Blk.lower H1.out (by simp; omega)) hne) hne
    · exact (H2.out.setCell (by simp) _).setCell (by simp) _
  | take0 h hN =>
    subst h
    go_wp2_with fail
    refine (rtake_none N v base _ xs hN (Blk.below HP.out (HB2.out _ _))).mono ?_
    rintro e w1 ⟨rfl, h2⟩
    obtain ⟨x0, x1, x2, x3⟩ := box2 h2
    have n0 := cell_block x1 0
    have n1 := cell_block x1 1
    have f0 := frozen_block x1 0
    have f1 := frozen_block x1 1
    simp at n0 n1
    have H2 := Lib.hid x2
    clear h2 x0 x1 x2
    go_wp2
    refine bodyPost_ret (v := .tuple #[v, .agg #[.int .i64 0, .string ⟨#[]⟩], .int .i64 4]) (by simp [results, Try.results23, go_sem, n0, n1]) rfl ?_
    refine ⟨_, rfl, ?_, ?_⟩
    · have hne : ∀ j, v.ownBlock = some j → j ≠ w.heap.size + 1 := fun j hj => by have := (HLt.out j hj).2; omega
      exact pl_set (pl_set (Blk.below HP.out H2.out) hne) hne
    · exact (H2.out.setCell (by simp) _).setCell (by simp) _
  | drop k h hN hk =>
    subst h hN
    go_wp2_with fail
    refine (rtake_any k v base _ xs hk (by omega) (Blk.below HP.out (HB2.out _ _)) (by simp; omega)).mono ?_
    rintro e w1 ⟨v1, rfl, h1, h2⟩
    obtain ⟨x0, x1, x2, x3⟩ := box2 h2
    have n0 := cell_block x1 0
    have n1 := cell_block x1 1
    have f0 := frozen_block x1 0
    have f1 := frozen_block x1 1
    simp at n0 n1
    have H1 := Lib.hid h1
    have H2 := Lib.hid x2
    have X3 := Lib.hid x3
    clear h1 h2 x0 x1 x2 x3
    have hx3 : w.heap.size + 1 < w1.heap.size := X3.out
    have hx4 : w.heap.size + 1 ≠ w1.heap.size := by omega
    have hx5 : w1.heap.size ≠ w.heap.size + 1 := by omega
    go_wp2
    refine bodyPost_ret (v := .tuple #[v1, .agg #[.int .i64 0, .string ⟨#[]⟩], .int .i64 0]) (by simp [results, Try.results23, go_sem, n0, n1, hx3, hx4, hx5]) rfl ?_
    have hne : ∀ j, v1.ownBlock = some j → j ≠ w.heap.size + 1 := fun j hj => by have := (Blk.lt H1.out j hj).1; simp at this; omega
    have hne2 : ∀ j, v1.ownBlock = some j → j ≠ w1.heap.size := fun j hj => by have := (Blk.lt H1.out j hj).2; omega
    refine ⟨_, rfl, Blk.below (pl_set (pl_set (Blk.lower H1.out (by simp; omega)) hne) hne) ((Below.refl _ _).alloc (Nat.le_refl _) _), ((H2.out.setCell (by simp) _).setCell (by simp) _).alloc ?_ _⟩
    simp [World.setCell]; omega
  | drop0 h hN =>
    subst h
    go_wp2_with fail
    refine (rtake_none N v base _ xs hN (Blk.below HP.out (HB2.out _ _))).mono ?_
    rintro e w1 ⟨rfl, h2⟩
    obtain ⟨x0, x1, x2, x3⟩ := box2 h2
    have n0 := cell_block x1 0
    have n1 := cell_block x1 1
    have f0 := frozen_block x1 0
    have f1 := frozen_block x1 1
    simp at n0 n1
    have H2 := Lib.hid x2
    have X3 := Lib.hid x3
    clear h2 x0 x1 x2 x3
    have hx3 : w.heap.size + 1 < w1.heap.size := X3.out
    have hx4 : w.heap.size + 1 ≠ w1.heap.size := by omega
    have hx5 : w1.heap.size ≠ w.heap.size + 1 := by omega
    go_wp2
    refine bodyPost_ret (v := .tuple #[v, .agg #[.int .i64 0, .string ⟨#[]⟩], .int .i64 4]) (by simp [results, Try.results23, go_sem, n0, n1, hx3, hx4, hx5]) rfl ?_
    have hne : ∀ j, v.ownBlock = some j → j ≠ w.heap.size + 1 := fun j hj => by have := (HLt.out j hj).2; omega
    have hne2 : ∀ j, v.ownBlock = some j → j ≠ w1.heap.size := fun j hj => by have := (HLt.out j hj).2; omega
    refine ⟨_, rfl, Blk.below (pl_set (pl_set (Blk.below HP.out H2.out) hne) hne) ((Below.refl _ _).alloc (Nat.le_refl _) _), ((H2.out.setCell (by simp) _).setCell (by simp) _).alloc ?_ _⟩
    simp [World.setCell]; omega
  | copy k h hN hk =>
    subst h hN
    go_wp2_with fail
    refine (rcopy_any k v base _ xs hk (HG.out.to k hk) (by omega) (Blk.below HP.out (HB2.out _ _)) (by simp; omega)).mono ?_
    rintro e w1 ⟨v1, rfl, h1, h2⟩
    obtain ⟨x0, x1, x2, x3⟩ := box2 h2
    have n0 := cell_block x1 0
    have n1 := cell_block x1 1
    have f0 := frozen_block x1 0
    have f1 := frozen_block x1 1
    simp at n0 n1
    have H1 := Lib.hid h1
    have H2 := Lib.hid x2
    have X3 := Lib.hid x3
    clear h1 h2 x0 x1 x2 x3
    go_wp2
    refine bodyPost_ret (v := .tuple #[v1, .agg #[.int .i64 0, .string ⟨#[]⟩], .int .i64 0]) (by simp [results, Try.results23, go_sem, n0, n1]) rfl ?_
    have hne : ∀ j, v1.ownBlock = some j → j ≠ w.heap.size + 1 := fun j hj => by have := (Blk.lt H1.out j hj).1; simp at this; omega
    exact ⟨_, rfl, pl_set (pl_set (Blk.lower H1.out (by simp; omega)) hne) hne, (H2.out.setCell (by simp) _).setCell (by simp) _⟩
  | copy0 h hN =>
    subst h
    go_wp2_with fail
    refine (rcopy_none N v base _ xs hN (Blk.below HP.out (HB2.out _ _))).mono ?_
    rintro e w1 ⟨rfl, rfl⟩
    go_wp2
    refine bodyPost_ret (v := .tuple #[v, .agg #[.int .i64 0, .string ⟨#[]⟩], .int .i64 4]) (by simp [results, Try.results23, go_sem]) rfl ?_
    exact ⟨_, rfl, Blk.below HP.out (HB2.out _ _), HB2.out _ _⟩
  | late k h hN hk =>
    subst h hN
    go_wp2_with fail
    refine (rlate_any k v base _ xs hk (by omega) (Blk.below HP.out (HB2.out _ _)) (by simp; omega)).mono ?_
    rintro e w1 ⟨v1, rfl, h1, h2⟩
    obtain ⟨x0, x1, x2, x3⟩ := box2 h2
    have n0 := cell_block x1 0
    have n1 := cell_block x1 1
    have f0 := frozen_block x1 0
    have f1 := frozen_block x1 1
    simp at n0 n1
    have H1 := Lib.hid h1
    have H2 := Lib.hid x2
    have X3 := Lib.hid x3
    clear h1 h2 x0 x1 x2 x3
    go_wp2
    refine bodyPost_ret (v := .tuple #[v1, .agg #[.int .i64 0, .string ⟨#[]⟩], .int .i64 0]) (by simp [results, Try.results23, go_sem, n0, n1]) rfl ?_
    have hne : ∀ j, v1.ownBlock = some j → j ≠ w.heap.size + 1 := fun j hj => by have := (Blk.lt H1.out j hj).1; simp at this; omega
    exact ⟨_, rfl, pl_set (pl_set (Blk.lower H1.out (by simp; omega)) hne) hne, (H2.out.setCell (by simp) _).setCell (by simp) _⟩
  | late0 h hN =>
    subst h
    go_wp2_with fail
    refine (rlate_none N v base _ xs hN (Blk.below HP.out (HB2.out _ _))).mono ?_
    rintro e w1 ⟨rfl, rfl⟩
    go_wp2
    refine bodyPost_ret (v := .tuple #[v, .agg #[.int .i64 0, .string ⟨#[]⟩], .int .i64 4]) (by simp [results, Try.results23, go_sem]) rfl ?_
    exact ⟨_, rfl, Blk.below HP.out (HB2.out _ _), HB2.out _ _⟩
  | turn k p h hN hk hM hp =>
    subst h hN hM
    go_wp2_with fail
    refine (rturn_any k p y v base _ xs hk hp (HZ.out k hk) (by omega) (Blk.below HP.out (HB2.out _ _)) (by simp; omega)).mono ?_
    rintro e w1 ⟨v1, rfl, h1, h2⟩
    obtain ⟨x0, x1, x2, x3⟩ := box2 h2
    have n0 := cell_block x1 0
    have n1 := cell_block x1 1
    have f0 := frozen_block x1 0
    have f1 := frozen_block x1 1
    simp at n0 n1
    have H1 := Lib.hid h1
    have H2 := Lib.hid x2
    have X3 := Lib.hid x3
    clear h1 h2 x0 x1 x2 x3
    go_wp2
    refine bodyPost_ret (v := .tuple #[v1, .agg #[.int .i64 0, .string ⟨#[]⟩], .int .i64 0]) (by simp [results, Try.results23, go_sem, n0, n1]) rfl ?_
    have hne : ∀ j, v1.ownBlock = some j → j ≠ w.heap.size + 1 := fun j hj => by have := (Blk.lt H1.out j hj).1; simp at this; omega
    exact ⟨_, rfl, pl_set (pl_set (Blk.lower H1.out (by simp; omega)) hne) hne, (H2.out.setCell (by simp) _).setCell (by simp) _⟩
  | turnr k h hN hk hM =>
    subst h hN
    go_wp2_with fail
    refine (rturn_range k M y v base _ xs hk hM (HZ.out k hk) (Blk.below HP.out (HB2.out _ _))).mono ?_
    rintro e w1 ⟨rfl, rfl⟩
    go_wp2
    refine bodyPost_ret (v := .tuple #[v, .agg #[.int .i64 0, .string ⟨#[]⟩], .int .i64 3]) (by simp [results, Try.results23, go_sem]) rfl ?_
    exact ⟨_, rfl, Blk.below HP.out (HB2.out _ _), HB2.out _ _⟩
  | turn0 h hN =>
    subst h
    go_wp2_with fail
    refine (rturn_none N M y v base _ xs hN (Blk.below HP.out (HB2.out _ _))).mono ?_
    rintro e w1 ⟨rfl, rfl⟩
    go_wp2
    refine bodyPost_ret (v := .tuple #[v, .agg #[.int .i64 0, .string ⟨#[]⟩], .int .i64 4]) (by simp [results, Try.results23, go_sem]) rfl ?_
    exact ⟨_, rfl, Blk.below HP.out (HB2.out _ _), HB2.out _ _⟩
  | send h4 h5 h6 h7 h8 hM =>
    have q4 : (a == 4) = false := beq_eq_false_iff_ne.2 h4
    have q5 : (a == 5) = false := beq_eq_false_iff_ne.2 h5
    have q6 : (a == 6) = false := beq_eq_false_iff_ne.2 h6
    have q7 : (a == 7) = false := beq_eq_false_iff_ne.2 h7
    have q8 : (a == 8) = false := beq_eq_false_iff_ne.2 h8
    clear h4 h5 h6 h7 h8
    go_wp2
    go_region_with (first
      | (go_at_call 9
         refine (few_any bs _ 20 (fun _ _ => True) _ (by decide) (by decide) (HS.out.mono (sub_any (Below.drew (HB2.out _ _))))).mono ?_
         rintro e w6 ⟨v6, rfl, hB6, hX6⟩
         obtain ⟨l6, hl6⟩ : ∃ l : List UInt8, l = bs.take (Int.toNat 20) := ⟨_, rfl⟩
         have hl20 : l6.length ≤ 20 := by rw [hl6, List.length_take]; have : Int.toNat 20 = 20 := rfl; omega
         rw [← hl6] at hB6
         obtain ⟨A6, c6, rfl, _, _⟩ := hB6.form
         have kc6 := SliceR.toStr (P := Try.prog) (hB6.list rfl (by omega)) 22 5 9 Try.underlying22 Try.underlying5 Try.underlying9
         obtain ⟨y0, y1, y2, y3⟩ := box2 (Below.trans (below_drew _) hX6)
         have m2 := cell_block y0 2
         have m0 := cell_block y1 0
         have m1 := cell_block y1 1
         have g0 := frozen_block y1 0
         have g1 := frozen_block y1 1
         simp at m0 m1 m2
         have HL6 := Lib.hid hl6
         have HY0 := Lib.hid y0
         have HY1 := Lib.hid y1
         have HY2 := Lib.hid y2
         have HY3 := Lib.hid y3
         clear hB6 hX6 hl6 y0 y1 y2 y3)
      | (go_at_call 37
         refine (rsend_any M (mkS l6) v base _ xs hM (by omega) (Blk.below HP.out HY2.out) (Nat.le_trans hbase HY2.out.size)).mono ?_
         rintro e w7 ⟨v7, rfl, h1, h2⟩
         have hs7 := h2.size
         have y1 := (h2.block (w.heap.size + 1) (by have := HY3.out; omega)).trans HY1.out
         have m0 := cell_block y1 0
         have m1 := cell_block y1 1
         have g0 := frozen_block y1 0
         have g1 := frozen_block y1 1
         simp at m0 m1
         have H1 := Lib.hid h1
         have H2 := Lib.hid (HY2.out.trans (h2.mono HY2.out.size))
         clear h1 h2 y1 kc6 m2))
    all_goals
      go_wp2
      refine bodyPost_ret (v := .tuple #[v7, .agg #[.int .i64 0, .string ⟨#[]⟩], .int .i64 0]) (by simp [results, Try.results23, go_sem, m0, m1]) rfl ?_
      have hne : ∀ j, v7.ownBlock = some j → j ≠ w.heap.size + 1 := fun j hj => by have := (Blk.lt H1.out j hj).1; have := HY3.out; omega
      refine ⟨_, rfl, ?_, (H2.out.setCell (by simp) _).setCell (by simp) _⟩
      have e20 : l6 = bs.take 20 := HL6.out
      rw [← e20]
      exact pl_set (pl_set (Blk.lower H1.out (Nat.le_trans hbase HY2.out.size)) hne) hne
  | sendb h4 h5 h6 h7 h8 hM0 hM1 =>
    have q4 : (a == 4) = false := beq_eq_false_iff_ne.2 h4
    have q5 : (a == 5) = false := beq_eq_false_iff_ne.2 h5
    have q6 : (a == 6) = false := beq_eq_false_iff_ne.2 h6
    have q7 : (a == 7) = false := beq_eq_false_iff_ne.2 h7
    have q8 : (a == 8) = false := beq_eq_false_iff_ne.2 h8
    clear h4 h5 h6 h7 h8
    go_wp2
    go_region_with (first
      | (go_at_call 9
         refine (few_any bs _ 20 (fun _ _ => True) _ (by decide) (by decide) (HS.out.mono (sub_any (Below.drew (HB2.out _ _))))).mono ?_
         rintro e w6 ⟨v6, rfl, hB6, hX6⟩
         obtain ⟨l6, hl6⟩ : ∃ l : List UInt8, l = bs.take (Int.toNat 20) := ⟨_, rfl⟩
         have hl20 : l6.length ≤ 20 := by rw [hl6, List.length_take]; have : Int.toNat 20 = 20 := rfl; omega
         rw [← hl6] at hB6
         obtain ⟨A6, c6, rfl, _, _⟩ := hB6.form
         have kc6 := SliceR.toStr (P := Try.prog) (hB6.list rfl (by omega)) 22 5 9 Try.underlying22 Try.underlying5 Try.underlying9
         obtain ⟨y0, y1, y2, y3⟩ := box2 (Below.trans (below_drew _) hX6)
         have m2 := cell_block y0 2
         have m0 := cell_block y1 0
         have m1 := cell_block y1 1
         have g0 := frozen_block y1 0
         have g1 := frozen_block y1 1
         simp at m0 m1 m2
         have HL6 := Lib.hid hl6
         have HY0 := Lib.hid y0
         have HY1 := Lib.hid y1
         have HY2 := Lib.hid y2
         have HY3 := Lib.hid y3
         clear hB6 hX6 hl6 y0 y1 y2 y3)
      | (go_at_call 37
         refine (rsend_bad M (.string (mkS l6)) v _ hM0 hM1).mono ?_
         rintro e w7 ⟨rfl, rfl⟩))
    all_goals
      go_wp2
      refine bodyPost_ret (v := .tuple #[v, .agg #[.int .i64 0, .string ⟨#[]⟩], .int .i64 1]) (by simp [results, Try.results23, go_sem, m0, m1]) rfl ?_
      have hne : ∀ j, v.ownBlock = some j → j ≠ w.heap.size + 1 := fun j hj => by have := (HLt.out j hj).2; omega
      exact ⟨_, rfl, pl_set (pl_set (Blk.below HP.out HY2.out) hne) hne, (HY2.out.setCell (by simp) _).setCell (by simp) _⟩
end Go.Proofs.Ytigogjbngphadaa
