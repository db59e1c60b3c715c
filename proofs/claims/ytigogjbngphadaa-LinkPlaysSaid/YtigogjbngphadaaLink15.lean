/- Walks of what the link's statements call, the fourteenth part: one step, as the link does it. No claim by itself. -/
import Derived.Test.YtigogjbngphadaaLink13
import Derived.Test.YtigogjbngphadaaLink7
set_option linter.unusedSimpArgs false
set_option linter.unusedVariables false
namespace Go.Proofs.Ytigogjbngphadaa
open Go.RowKit

theorem lbox2 {L : Live} {base : Nat} {w w1 : World} {o1 o2 : List Value} {t1 t2 : TypeId} (hok : LOk L w) (hbase : base ≤ w.heap.size) (a1 : t1 ≠ 63) (a2 : t1 ≠ 66) (b1 : t2 ≠ 63) (b2 : t2 ≠ 66)
    (hX : LStep L base ((w.alloc (.cells o1.toArray t1)).alloc (.cells o2.toArray t2)) w1) :
    w1.heap[w.heap.size]? = some (.cells o1.toArray t1 (0, 0)) ∧ w1.heap[w.heap.size + 1]? = some (.cells o2.toArray t2 (0, 0)) ∧ LStep L base w w1 ∧ w.heap.size + 1 + 1 ≤ w1.heap.size := by
  obtain ⟨x0, x1, x2, _⟩ := box2 (w := w) (o1 := o1) (o2 := o2) (t1 := t1) (t2 := t2) (Below.refl _ _)
  have hs := hX.below.size
  simp at hs
  exact ⟨(hX.others _ _ _ _ x0 a1 a2).trans x0, (hX.others _ _ _ _ x1 b1 b2).trans x1, (LStep.of_below hok hbase x2).trans hX, by omega⟩
theorem lend {L : Live} {base g : Nat} {w w1 : World} {xs : List Pk} {cs : Array Value} (hok : LOk L w) (hbase : base ≤ w.heap.size) (hL : LinkAt L w1 base g xs) (hX : LStep L base w w1) (hb : w1.heap[w.heap.size + 1]? = some (.cells cs 40 (0, 0))) (u0 u1 : Value) :
    LinkAt L ((w1.setCell ⟨w.heap.size + 1, 0, none⟩ u0).setCell ⟨w.heap.size + 1, 1, none⟩ u1) base g xs ∧ LStep L base w ((w1.setCell ⟨w.heap.size + 1, 0, none⟩ u0).setCell ⟨w.heap.size + 1, 1, none⟩ u1) :=
  ⟨(hL.set_type hb (by decide) (by decide) 0 u0).set_type (heap_setCell_same hb _) (by decide) (by decide) 1 u1, (hX.set_new hok (by omega) hbase 0 u0).set_new hok (by omega) hbase 1 u1⟩

theorem lendA {L : Live} {base g : Nat} {w w2 : World} {xs : List Pk} (hok : LOk L w) (hbase : base ≤ w.heap.size) (h : LinkAt L w2 base g xs ∧ LStep L base w w2) (o : Obj) : LinkAt L (w2.alloc o) base g xs ∧ LStep L base w (w2.alloc o) :=
  ⟨h.1.kept ((Below.refl _ _).alloc (Nat.le_refl _) o) (fun _ _ => rfl), h.2.trans (LStep.of_below (h.2.ok hok) (Nat.le_trans hbase h.2.below.size) ((Below.refl _ _).alloc (Nat.le_refl _) o))⟩

set_option maxHeartbeats 8000000 in
theorem do_any (K N M : Int) (y : UInt8) (bs : List UInt8) (vb : Value) (base g : Nat) (L Lb : Live) (w : World) (xs ys : List Pk) (p : Pk) (c : Int) (hK1 : -9223372036854775808 ≤ K) (hK2 : K ≤ 9223372036854775807) (hy : IntKind.u8.wrap K = (y.toNat : Int))
    (hG : Good 23 xs) (hS : SliceR Rp.byte Lb w bs vb) (hL : LinkAt L w base g xs) (hok : LOk L w) (hbase : base ≤ w.heap.size) (hs : Stp (around K 9) N M y bs xs ys p c) :
    Calls Try.prog 24 #[.pointer (some ⟨g, 0, none⟩), .agg #[.int .i64 K, .int .i64 N, .int .i64 M, vb]] w fun e w' => e = .returned (.tuple #[.agg #[.int .i64 p.1, .string p.2], .int .i64 c]) ∧ LinkAt L w' base g ys ∧ LStep L base w w' := by
  have hl : xs.length ≤ 23 := hG.len
  obtain ⟨A, c0, rfl, _, _⟩ := hS.form
  have HL2 : Hid (∀ o1 o2, LinkAt L ((w.alloc o1).alloc o2) base g xs ∧ LOk L ((w.alloc o1).alloc o2) ∧ Ext L w L ((w.alloc o1).alloc o2)) := Lib.hid (fun o1 o2 => by
    have hx := ((Ext.refl hok).alloc o1).alloc o2
    exact ⟨hL.ext hx, hx.ok, hx⟩)
  have hz := link_size hL
  have HS := Lib.hid hS
  have HG := Lib.hid hG
  have HZ := Lib.hid hz
  have HL := Lib.hid hL
  have Hok := Lib.hid hok
  clear hS hG hz hL hok
  obtain ⟨a, ha⟩ : ∃ a, a = around K 9 := ⟨_, rfl⟩
  rw [← ha] at hs
  go_enter Try.func24, Try.ntmps24
  go_wp2_with fail
  refine (around_any K 9 _ hK1 hK2 (by decide) (by decide)).mono ?_
  rintro e w' ⟨rfl, rfl⟩
  rw [← ha]
  have Ha := Lib.hid ha
  clear ha
  cases hs with
  | drop k h hN hk =>
    subst h hN
    go_wp2_with fail
    refine (drop_any k g base L _ xs hk (by omega) (HL2.out _ _).1 (HL2.out _ _).2.1 (by simp; omega)).mono ?_
    rintro e w1 ⟨rfl, h1, h2⟩
    obtain ⟨x0, x1, x2, x3⟩ := lbox2 Hok.out hbase (by decide) (by decide) (by decide) (by decide) h2
    have n0 := cell_block x1 0
    have n1 := cell_block x1 1
    have f0 := frozen_block x1 0
    have f1 := frozen_block x1 1
    simp at n0 n1
    have H1 := Lib.hid h1
    have H2 := Lib.hid x2
    have X1 := Lib.hid x1
    have X3 := Lib.hid x3
    clear h1 h2 x0 x1 x2 x3
    go_wp2
    refine bodyPost_ret (v := .tuple #[.agg #[.int .i64 0, .string ⟨#[]⟩], .int .i64 0]) (by simp [results, Try.results24, go_sem, n0, n1]) rfl ?_
    exact ⟨rfl, lend Hok.out hbase H1.out H2.out X1.out _ _⟩
  | copy k h hN hk =>
    subst h hN
    go_wp2_with fail
    refine (copy_any k g base L _ xs hk (by omega) (HL2.out _ _).1 (HL2.out _ _).2.1 (by simp; omega)).mono ?_
    rintro e w1 ⟨rfl, h1, h2⟩
    obtain ⟨x0, x1, x2, x3⟩ := lbox2 Hok.out hbase (by decide) (by decide) (by decide) (by decide) h2
    have n0 := cell_block x1 0
    have n1 := cell_block x1 1
    have f0 := frozen_block x1 0
    have f1 := frozen_block x1 1
    simp at n0 n1
    have H1 := Lib.hid h1
    have H2 := Lib.hid x2
    have X1 := Lib.hid x1
    have X3 := Lib.hid x3
    clear h1 h2 x0 x1 x2 x3
    go_wp2
    refine bodyPost_ret (v := .tuple #[.agg #[.int .i64 0, .string ⟨#[]⟩], .int .i64 0]) (by simp [results, Try.results24, go_sem, n0, n1]) rfl ?_
    exact ⟨rfl, lend Hok.out hbase H1.out H2.out X1.out _ _⟩
  | copy0 h hN =>
    subst h
    go_wp2_with fail
    refine (copy_none N g base L _ xs hN (HL2.out _ _).1).mono ?_
    rintro e w1 ⟨rfl, rfl⟩
    go_wp2
    refine bodyPost_ret (v := .tuple #[.agg #[.int .i64 0, .string ⟨#[]⟩], .int .i64 4]) (by simp [results, Try.results24, go_sem]) rfl ?_
    exact ⟨rfl, (HL2.out _ _).1, LStep.of_below Hok.out hbase (HL2.out _ _).2.2.below⟩
  | late k h hN hk =>
    subst h hN
    go_wp2_with fail
    refine (late_any k g base L _ xs hk (by omega) (HL2.out _ _).1 (HL2.out _ _).2.1 (by simp; omega)).mono ?_
    rintro e w1 ⟨rfl, h1, h2⟩
    obtain ⟨x0, x1, x2, x3⟩ := lbox2 Hok.out hbase (by decide) (by decide) (by decide) (by decide) h2
    have n0 := cell_block x1 0
    have n1 := cell_block x1 1
    have f0 := frozen_block x1 0
    have f1 := frozen_block x1 1
    simp at n0 n1
    have H1 := Lib.hid h1
    have H2 := Lib.hid x2
    have X1 := Lib.hid x1
    have X3 := Lib.hid x3
    clear h1 h2 x0 x1 x2 x3
    go_wp2
    refine bodyPost_ret (v := .tuple #[.agg #[.int .i64 0, .string ⟨#[]⟩], .int .i64 0]) (by simp [results, Try.results24, go_sem, n0, n1]) rfl ?_
    exact ⟨rfl, lend Hok.out hbase H1.out H2.out X1.out _ _⟩
  | late0 h hN =>
    subst h
    go_wp2_with fail
    refine (late_none N g base L _ xs hN (HL2.out _ _).1).mono ?_
    rintro e w1 ⟨rfl, rfl⟩
    go_wp2
    refine bodyPost_ret (v := .tuple #[.agg #[.int .i64 0, .string ⟨#[]⟩], .int .i64 4]) (by simp [results, Try.results24, go_sem]) rfl ?_
    exact ⟨rfl, (HL2.out _ _).1, LStep.of_below Hok.out hbase (HL2.out _ _).2.2.below⟩
  | turn k p h hN hk hM hp =>
    subst h hN hM
    go_wp2_with fail
    refine (turn_any k p y g base L _ xs hk hp (HL2.out _ _).1 (HL2.out _ _).2.1 (by simp; omega)).mono ?_
    rintro e w1 ⟨rfl, h1, h2⟩
    obtain ⟨x0, x1, x2, x3⟩ := lbox2 Hok.out hbase (by decide) (by decide) (by decide) (by decide) h2
    have n0 := cell_block x1 0
    have n1 := cell_block x1 1
    have f0 := frozen_block x1 0
    have f1 := frozen_block x1 1
    simp at n0 n1
    have H1 := Lib.hid h1
    have H2 := Lib.hid x2
    have X1 := Lib.hid x1
    have X3 := Lib.hid x3
    clear h1 h2 x0 x1 x2 x3
    go_wp2
    refine bodyPost_ret (v := .tuple #[.agg #[.int .i64 0, .string ⟨#[]⟩], .int .i64 0]) (by simp [results, Try.results24, go_sem, n0, n1]) rfl ?_
    exact ⟨rfl, lend Hok.out hbase H1.out H2.out X1.out _ _⟩
  | turnr k h hN hk hM =>
    subst h hN
    go_wp2_with fail
    refine (turn_range k M y g base L _ xs hk hM (HL2.out _ _).1).mono ?_
    rintro e w1 ⟨rfl, rfl⟩
    go_wp2
    refine bodyPost_ret (v := .tuple #[.agg #[.int .i64 0, .string ⟨#[]⟩], .int .i64 3]) (by simp [results, Try.results24, go_sem]) rfl ?_
    exact ⟨rfl, (HL2.out _ _).1, LStep.of_below Hok.out hbase (HL2.out _ _).2.2.below⟩
  | turn0 h hN =>
    subst h
    go_wp2_with fail
    refine (turn_none N M y g base L _ xs hN (HL2.out _ _).1).mono ?_
    rintro e w1 ⟨rfl, rfl⟩
    go_wp2
    refine bodyPost_ret (v := .tuple #[.agg #[.int .i64 0, .string ⟨#[]⟩], .int .i64 4]) (by simp [results, Try.results24, go_sem]) rfl ?_
    exact ⟨rfl, (HL2.out _ _).1, LStep.of_below Hok.out hbase (HL2.out _ _).2.2.below⟩
  | drop0 h hN =>
    subst h
    go_wp2_with fail
    refine (drop_none N g base L _ xs hN (HL2.out _ _).1 (HL2.out _ _).2.1).mono ?_
    rintro e w1 ⟨rfl, hX⟩
    have h1 := (HL2.out _ _).1.ext hX
    obtain ⟨x0, x1, x2, x3⟩ := lbox2 Hok.out hbase (by decide) (by decide) (by decide) (by decide) (LStep.of_below (HL2.out _ _).2.1 (by simp; omega) hX.below)
    have n0 := cell_block x1 0
    have n1 := cell_block x1 1
    have f0 := frozen_block x1 0
    have f1 := frozen_block x1 1
    simp at n0 n1
    have H1 := Lib.hid h1
    have H2 := Lib.hid x2
    have X1 := Lib.hid x1
    have X3 := Lib.hid x3
    have hx3 : w.heap.size + 1 < w1.heap.size := x3
    have hx4 : w.heap.size + 1 ≠ w1.heap.size := by omega
    have hx5 : w1.heap.size ≠ w.heap.size + 1 := by omega
    clear h1 hX x0 x1 x2 x3
    go_wp2
    refine bodyPost_ret (v := .tuple #[.agg #[.int .i64 0, .string ⟨#[]⟩], .int .i64 4]) (by simp [results, Try.results24, go_sem, n0, n1, hx3, hx4, hx5]) rfl ?_
    exact ⟨rfl, lend Hok.out hbase H1.out H2.out X1.out _ _⟩
  | take0 h hN =>
    subst h
    go_wp2_with fail
    refine (take_none N g base L _ xs hN (HL2.out _ _).1 (HL2.out _ _).2.1).mono ?_
    rintro e w1 ⟨rfl, hX⟩
    have h1 := (HL2.out _ _).1.ext hX
    obtain ⟨x0, x1, x2, x3⟩ := lbox2 Hok.out hbase (by decide) (by decide) (by decide) (by decide) (LStep.of_below (HL2.out _ _).2.1 (by simp; omega) hX.below)
    have n0 := cell_block x1 0
    have n1 := cell_block x1 1
    have f0 := frozen_block x1 0
    have f1 := frozen_block x1 1
    simp at n0 n1
    have H1 := Lib.hid h1
    have H2 := Lib.hid x2
    have X1 := Lib.hid x1
    have X3 := Lib.hid x3
    have hx3 : w.heap.size + 1 < w1.heap.size := x3
    have hx4 : w.heap.size + 1 ≠ w1.heap.size := by omega
    have hx5 : w1.heap.size ≠ w.heap.size + 1 := by omega
    clear h1 hX x0 x1 x2 x3
    have kc := SliceR.toStr (P := Try.prog) (SliceR.nil Rp.byte (fun _ _ => True) (w1.alloc (.cells #[.int .i64 0, .slice none 0 0] 34))) 22 5 9 Try.underlying22 Try.underlying5 Try.underlying9
    rw [show mkS [] = ⟨#[]⟩ from rfl] at kc
    go_wp2
    refine bodyPost_ret (v := .tuple #[.agg #[.int .i64 0, .string ⟨#[]⟩], .int .i64 4]) (by simp [results, Try.results24, go_sem, n0, n1, hx3, hx4, hx5]) rfl ?_
    exact ⟨rfl, lendA Hok.out hbase (lend Hok.out hbase H1.out H2.out X1.out _ _) _⟩
  | take k h hN hk =>
    subst h hN
    go_wp2_with fail
    refine (take_any k g base L _ xs hk (by omega) (HL2.out _ _).1 (HL2.out _ _).2.1 (by simp; omega)).mono ?_
    rintro e w1 ⟨v, rfl, hb, h1, h2⟩
    obtain ⟨x0, x1, x2, x3⟩ := lbox2 Hok.out hbase (by decide) (by decide) (by decide) (by decide) h2
    have n0 := cell_block x1 0
    have n1 := cell_block x1 1
    have f0 := frozen_block x1 0
    have f1 := frozen_block x1 1
    simp at n0 n1
    have H1 := Lib.hid h1
    have H2 := Lib.hid x2
    have X1 := Lib.hid x1
    have X3 := Lib.hid x3
    have hx3 : w.heap.size + 1 < w1.heap.size := x3
    have hx4 : w.heap.size + 1 ≠ w1.heap.size := by omega
    have hx5 : w1.heap.size ≠ w.heap.size + 1 := by omega
    obtain ⟨A1, c1, rfl, _, _⟩ := hb.form
    have kc := SliceR.toStr (P := Try.prog) ((hb.below ((Below.refl _ w1).alloc (Nat.le_refl _) (.cells #[.int .i64 xs[k].1, .slice A1 xs[k].2.size c1] 34))).list (xs := xs[k].2.data.toList) rfl (Nat.le_trans (HZ.out k hk) (by decide))) 22 5 9 Try.underlying22 Try.underlying5 Try.underlying9
    rw [mkS_of] at kc
    clear h1 h2 hb x0 x1 x2 x3
    go_wp2
    refine bodyPost_ret (v := .tuple #[.agg #[.int .i64 xs[k].1, .string xs[k].2], .int .i64 0]) (by simp [results, Try.results24, go_sem, n0, n1, hx3, hx4, hx5]) rfl ?_
    exact ⟨rfl, lendA Hok.out hbase (lend Hok.out hbase H1.out H2.out X1.out _ _) _⟩
  | send h4 h5 h6 h7 h8 hM =>
    have q4 : (a == 4) = false := beq_eq_false_iff_ne.2 h4
    have q5 : (a == 5) = false := beq_eq_false_iff_ne.2 h5
    have q6 : (a == 6) = false := beq_eq_false_iff_ne.2 h6
    have q7 : (a == 7) = false := beq_eq_false_iff_ne.2 h7
    have q8 : (a == 8) = false := beq_eq_false_iff_ne.2 h8
    clear h4 h5 h6 h7 h8
    go_wp2
    go_region_with (first
      | (go_at_call 9
         refine (few_any bs _ 20 (fun _ _ => True) _ (by decide) (by decide) (HS.out.mono (sub_any (Below.drew (HL2.out _ _).2.2.below)))).mono ?_
         rintro e w6 ⟨v6, rfl, hB6, hX6⟩
         obtain ⟨l6, hl6⟩ : ∃ l : List UInt8, l = bs.take (Int.toNat 20) := ⟨_, rfl⟩
         have hl20 : l6.length ≤ 20 := by rw [hl6, List.length_take]; have : Int.toNat 20 = 20 := rfl; omega
         rw [← hl6] at hB6
         obtain ⟨A6, c6, rfl, _, _⟩ := hB6.form
         have h1 := (HL2.out _ _).1.kept (Below.trans (below_drew _) hX6) (fun _ _ => rfl)
         obtain ⟨x0, x1, x2, x3⟩ := lbox2 Hok.out hbase (by decide) (by decide) (by decide) (by decide) (LStep.of_below (HL2.out _ _).2.1 (by simp; omega) (Below.trans (below_drew _) hX6))
         have m2 := cell_block x0 2
         have n0 := cell_block x1 0
         have n1 := cell_block x1 1
         have f0 := frozen_block x1 0
         have f1 := frozen_block x1 1
         simp at n0 n1 m2
         have HB6 := Lib.hid hB6
         have HL6 := Lib.hid hl6
         have H1 := Lib.hid h1
         have H2 := Lib.hid x2
         have X1 := Lib.hid x1
         have X3 := Lib.hid x3
         clear hB6 hX6 hl6 h1 x0 x1 x2 x3)
      | (go_at_call 11
         refine (send_any M l6 _ g base L _ _ xs hM (HB6.out.list rfl (by omega)) (by omega) (by omega) H1.out (H2.out.ok Hok.out) (Nat.le_trans hbase H2.out.below.size)).mono ?_
         rintro e w7 ⟨rfl, h1, h2⟩
         have x1 := (h2.others _ _ _ _ X1.out (by decide) (by decide)).trans X1.out
         have n0 := cell_block x1 0
         have n1 := cell_block x1 1
         have f0 := frozen_block x1 0
         have f1 := frozen_block x1 1
         simp at n0 n1
         have H1 := Lib.hid h1
         have H2 := Lib.hid (H2.out.trans h2)
         have X1 := Lib.hid x1
         clear h1 h2 x1 m2))
    all_goals
      go_wp2
      refine bodyPost_ret (v := .tuple #[.agg #[.int .i64 0, .string ⟨#[]⟩], .int .i64 0]) (by simp [results, Try.results24, go_sem, n0, n1]) rfl ?_
      rw [HL6.out] at H1
      exact ⟨rfl, lend Hok.out hbase H1.out H2.out X1.out _ _⟩
  | sendb h4 h5 h6 h7 h8 hM0 hM1 =>
    have q4 : (a == 4) = false := beq_eq_false_iff_ne.2 h4
    have q5 : (a == 5) = false := beq_eq_false_iff_ne.2 h5
    have q6 : (a == 6) = false := beq_eq_false_iff_ne.2 h6
    have q7 : (a == 7) = false := beq_eq_false_iff_ne.2 h7
    have q8 : (a == 8) = false := beq_eq_false_iff_ne.2 h8
    clear h4 h5 h6 h7 h8
    go_wp2
    go_region_with (first
      | (go_at_call 9
         refine (few_any bs _ 20 (fun _ _ => True) _ (by decide) (by decide) (HS.out.mono (sub_any (Below.drew (HL2.out _ _).2.2.below)))).mono ?_
         rintro e w6 ⟨v6, rfl, hB6, hX6⟩
         obtain ⟨l6, hl6⟩ : ∃ l : List UInt8, l = bs.take (Int.toNat 20) := ⟨_, rfl⟩
         have hl20 : l6.length ≤ 20 := by rw [hl6, List.length_take]; have : Int.toNat 20 = 20 := rfl; omega
         rw [← hl6] at hB6
         obtain ⟨A6, c6, rfl, _, _⟩ := hB6.form
         have h1 := (HL2.out _ _).1.kept (Below.trans (below_drew _) hX6) (fun _ _ => rfl)
         obtain ⟨x0, x1, x2, x3⟩ := lbox2 Hok.out hbase (by decide) (by decide) (by decide) (by decide) (LStep.of_below (HL2.out _ _).2.1 (by simp; omega) (Below.trans (below_drew _) hX6))
         have m2 := cell_block x0 2
         have n0 := cell_block x1 0
         have n1 := cell_block x1 1
         have f0 := frozen_block x1 0
         have f1 := frozen_block x1 1
         simp at n0 n1 m2
         have HB6 := Lib.hid hB6
         have HL6 := Lib.hid hl6
         have H1 := Lib.hid h1
         have H2 := Lib.hid x2
         have X1 := Lib.hid x1
         have X3 := Lib.hid x3
         clear hB6 hX6 hl6 h1 x0 x1 x2 x3)
      | (go_at_call 11
         refine (send_bad M _ g _ hM0 hM1).mono ?_
         rintro e w7 ⟨rfl, rfl⟩
         skip))
    all_goals
      go_wp2
      refine bodyPost_ret (v := .tuple #[.agg #[.int .i64 0, .string ⟨#[]⟩], .int .i64 1]) (by simp [results, Try.results24, go_sem, n0, n1]) rfl ?_
      exact ⟨rfl, lend Hok.out hbase H1.out H2.out X1.out _ _⟩
end Go.Proofs.Ytigogjbngphadaa
