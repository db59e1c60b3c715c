/- Walks: a tree's archive, and how many bytes it has. No claim by itself. -/
import Derived.Test.YtojcciciinklbaaLayB
import Derived.Test.YtojcciciinklbaaLayC
import Derived.Test.YtojcciciinklbaaFlat6
set_option linter.unusedSimpArgs false
set_option linter.unusedVariables false
namespace Go.Proofs.Ytojcciciinklbaa
open Go.RowKit

set_option maxRecDepth 100000 in
set_option maxHeartbeats 2000000 in
theorem awrite_no (n : Nat) (x : Nd) (cs : List Value) (L : Live) (w : World) (h : (nodeR n).R L w x cs) (hc : count x ≤ 1000000) (hm : mayI x ≠ 0) :
    Calls Try.prog 39 #[.agg cs.toArray] w fun e w' => e = .returned (.tuple #[.slice none 0 0, .int .i64 (mayI x)]) ∧ Below w.heap.size w w' := by
  have HR := Lib.hid h
  obtain ⟨m, Ad, cd, Aa, ca, Ak, ck, hm', rfl, hP, d1, d2, a1, a2, k1, k2⟩ := node_open h
  obtain ⟨q, hq⟩ : ∃ q, q = mayI x := ⟨_, rfl⟩
  rw [← hq] at hm ⊢
  have Hq := Lib.hid hq
  have hm1 : (q == 0) = false := beq_eq_false_iff_ne.2 hm
  have hm2 : (q != 0) = true := by rw [bne, hm1]; rfl
  clear h hP hm' hq
  have c27 := cellsNode
  unfold nodeV
  go_enter Try.func39, Try.ntmps39
  go_wp2_with fail
  have HB : Hid (Box1 w (boxO x.own Ad cd Aa ca Ak x.kids.length ck) (w.alloc (boxO x.own Ad cd Aa ca Ak x.kids.length ck))) := Lib.hid box1
  refine (may_any _ x _ L _ ((nodeR _).mono (sub_same HB.out.below) HR.out) hc).mono ?_
  rintro e w2 ⟨rfl, h2⟩
  have HB2 := Lib.hid (HB.out.step h2)
  rw [← Hq.out]
  clear h2
  go_wp2_with fail
  go_ret2
  exact ⟨rfl, HB2.out.below⟩

set_option maxRecDepth 100000 in
set_option maxHeartbeats 4000000 in
theorem awrite_ok (n : Nat) (x : Nd) (cs : List Value) (L : Live) (w : World) (h : (nodeR n).R L w x cs) (hok : LOk L w) (hc : count x ≤ 1000000) (hm : mayI x = 0) (hlen : (archB x).length ≤ 1000000) :
    Calls Try.prog 39 #[.agg cs.toArray] w fun e w' => ∃ v, e = .returned (.tuple #[v, .int .i64 0]) ∧ Blk w' w.heap.size 5 1 v (archB x).length (bytesV (archB x)) ∧ Below w.heap.size w w' := by
  have HR := Lib.hid h
  obtain ⟨m, Ad, cd, Aa, ca, Ak, ck, hm', rfl, hP, d1, d2, a1, a2, k1, k2⟩ := node_open h
  have Hm := Lib.hid hm; have Hok := Lib.hid hok
  have hal : (archB x).length = 4 + (layN x).length := by unfold archB; rw [List.length_append]; rfl
  have hlay : (layN x).length ≤ 1000000 := by omega
  have HAB : Hid (magicB ++ layN x = archB x) := Lib.hid rfl
  clear h hP hm' hm hok hal hlen
  have c27 := cellsNode
  unfold nodeV
  go_enter Try.func39, Try.ntmps39
  go_wp2_with fail
  have HB : Hid (Box1 w (boxO x.own Ad cd Aa ca Ak x.kids.length ck) (w.alloc (boxO x.own Ad cd Aa ca Ak x.kids.length ck))) := Lib.hid box1
  refine (may_any _ x _ L _ ((nodeR _).mono (sub_same HB.out.below) HR.out) hc).mono ?_
  rintro e w2 ⟨rfl, h2⟩
  have hs2 := h2.size
  simp only [World.size_alloc] at hs2
  have HB2 := Lib.hid (HB.out.step h2)
  rw [Hm.out]
  clear h2 HB
  go_upto_region 5 with fail
  obtain ⟨w3, hw3⟩ : ∃ y, y = w2.alloc (.cells #[.slice none 0 0] 106) := ⟨_, rfl⟩
  obtain ⟨B, hB⟩ : ∃ B, B = w2.heap.size := ⟨_, rfl⟩
  have hBw : w.heap.size < B := by omega
  have HS3 : Hid (SinkB B w2 w3 none []) := Lib.hid (by
    rw [hB, hw3]
    exact ⟨⟨.slice none 0 0, rfl, heap_alloc_new w2 _, Blk.nil _ _ _ _⟩, (Below.refl _ _).alloc (Nat.le_refl _) _, Nat.le_refl _⟩)
  have HRW : Hid ((nodeR n).R L w2 x (nodeV x.own (.slice Ad x.own.data.length cd) (.slice Aa x.own.attrs.length ca) (.slice Ak x.kids.length ck))) := Lib.hid ((nodeR _).mono (sub_same HB2.out.below) HR.out)
  have HLB : Hid (∀ b i, L b i → b < B) := Lib.hid (fun b i hl => by have := Hok.out b i hl; omega)
  have HC : Hid (∀ w', Below B w2 w' → w'.cell? ⟨w.heap.size, 0, none⟩ = some (.int .i64 x.own.kind) ∧ w'.cell? ⟨w.heap.size, 1, none⟩ = some (.string x.own.name) ∧ w'.cell? ⟨w.heap.size, 2, none⟩ = some (.int .i64 x.own.mode) ∧ w'.cell? ⟨w.heap.size, 3, none⟩ = some (.int .i64 x.own.uid) ∧ w'.cell? ⟨w.heap.size, 4, none⟩ = some (.int .i64 x.own.gid) ∧ w'.cell? ⟨w.heap.size, 5, none⟩ = some (.int .i64 x.own.mtime) ∧ w'.cell? ⟨w.heap.size, 6, none⟩ = some (.slice Ad x.own.data.length cd) ∧ w'.cell? ⟨w.heap.size, 7, none⟩ = some (.string x.own.target) ∧ w'.cell? ⟨w.heap.size, 8, none⟩ = some (.int .i64 x.own.major) ∧ w'.cell? ⟨w.heap.size, 9, none⟩ = some (.int .i64 x.own.minor) ∧ w'.cell? ⟨w.heap.size, 10, none⟩ = some (.slice Aa x.own.attrs.length ca) ∧ w'.cell? ⟨w.heap.size, 11, none⟩ = some (.slice Ak x.kids.length ck)) := Lib.hid (fun w' hb => by
    obtain ⟨n0, n1, n2, n3, n4, n5, n6, n7, n8, n9, n10, n11⟩ := HB2.out.cells
    have kk : ∀ {j : Nat} {u : Value}, w2.cell? ⟨w.heap.size, j, none⟩ = some u → w'.cell? ⟨w.heap.size, j, none⟩ = some u := fun hu => (hb.cell hBw).trans hu
    exact ⟨kk n0, kk n1, kk n2, kk n3, kk n4, kk n5, kk n6, kk n7, kk n8, kk n9, kk n10, kk n11⟩)
  have HX2 := Lib.hid HB2.out.below
  rw [← hw3, ← hB]
  clear hw3 HB2 hB hs2
  go_wp2_with fail
  refine (btext_any B w2 w3 none [] ⟨#[76, 84, 82, 49]⟩ HS3.out (by decide)).mono ?_
  rintro e w4 ⟨rfl, r4, hs4, ht4⟩
  have HS4 : Hid (SinkB B w2 w4 r4 magicB) := Lib.hid hs4
  clear hs4 ht4 HS3
  obtain ⟨n0, n1, n2, n3, n4, n5, n6, n7, n8, n9, n10, n11⟩ := HC.out _ HS4.out.bel
  go_wp2_with fail
  refine (blay_any n x _ L B w2 w4 r4 magicB HRW.out HLB.out HS4.out (by have : magicB.length = 4 := rfl; omega)).mono ?_
  rintro e w5 ⟨rfl, r5, hs5, ht5⟩
  rw [HAB.out] at hs5
  obtain ⟨v, _, hc5, hB5⟩ := hs5.ex
  have HS5 := Lib.hid hs5; have HB5 := Lib.hid hB5
  have c0 : w5.cell? ⟨B, 0, none⟩ = some v := by rw [cell_block hc5]; rfl
  clear hs5 ht5 hc5 hB5 n0 n1 n2 n3 n4 n5 n6 n7 n8 n9 n10 n11
  go_wp2_with fail
  go_ret2
  exact ⟨_, rfl, HB5.out.lower (by omega), HX2.out.trans (HS5.out.bel.mono (by omega))⟩

set_option maxRecDepth 100000 in
set_option maxHeartbeats 4000000 in
theorem asize_any (n : Nat) (x : Nd) (cs : List Value) (L : Live) (w : World) (h : (nodeR n).R L w x cs) (hok : LOk L w) (hlen : (archB x).length ≤ 1000000) :
    Calls Try.prog 41 #[.agg cs.toArray] w fun e w' => e = .returned (.int .i64 ((archB x).length : Int)) ∧ Below w.heap.size w w' := by
  have HR := Lib.hid h
  obtain ⟨m, Ad, cd, Aa, ca, Ak, ck, hm', rfl, hP, d1, d2, a1, a2, k1, k2⟩ := node_open h
  have Hok := Lib.hid hok
  have hal : (archB x).length = 4 + (layN x).length := by unfold archB; rw [List.length_append]; rfl
  have hlay : (layN x).length ≤ 1000000 := by omega
  have HAB := Lib.hid hal
  clear h hP hm' hok hal hlen
  have c27 := cellsNode
  unfold nodeV
  go_enter Try.func41, Try.ntmps41
  go_upto_region 2 with fail
  obtain ⟨w2, hw2⟩ : ∃ y, y = w.alloc (boxO x.own Ad cd Aa ca Ak x.kids.length ck) := ⟨_, rfl⟩
  obtain ⟨w3, hw3⟩ : ∃ y, y = w2.alloc (.cells #[.int .i64 4] 111) := ⟨_, rfl⟩
  have hs2 : w2.heap.size = w.heap.size + 1 := by rw [hw2]; simp
  have HB2 : Hid (Box1 w (boxO x.own Ad cd Aa ca Ak x.kids.length ck) w2) := Lib.hid (by rw [hw2]; exact box1)
  obtain ⟨B, hB⟩ : ∃ B, B = w.heap.size + 1 := ⟨_, rfl⟩
  have hBw : w.heap.size < B := by omega
  have HS3 : Hid (SinkC B w2 w3 none []) := Lib.hid (by
    have hB2 : B = w2.heap.size := by omega
    rw [hB2, hw3]
    exact ⟨heap_alloc_new w2 _, rfl, (Below.refl _ _).alloc (Nat.le_refl _) _, Nat.le_refl _⟩)
  have HRW : Hid ((nodeR n).R L w2 x (nodeV x.own (.slice Ad x.own.data.length cd) (.slice Aa x.own.attrs.length ca) (.slice Ak x.kids.length ck))) := Lib.hid ((nodeR _).mono (sub_same HB2.out.below) HR.out)
  have HLB : Hid (∀ b i, L b i → b < B) := Lib.hid (fun b i hl => by have := Hok.out b i hl; omega)
  have HC : Hid (∀ w', Below B w2 w' → w'.cell? ⟨w.heap.size, 0, none⟩ = some (.int .i64 x.own.kind) ∧ w'.cell? ⟨w.heap.size, 1, none⟩ = some (.string x.own.name) ∧ w'.cell? ⟨w.heap.size, 2, none⟩ = some (.int .i64 x.own.mode) ∧ w'.cell? ⟨w.heap.size, 3, none⟩ = some (.int .i64 x.own.uid) ∧ w'.cell? ⟨w.heap.size, 4, none⟩ = some (.int .i64 x.own.gid) ∧ w'.cell? ⟨w.heap.size, 5, none⟩ = some (.int .i64 x.own.mtime) ∧ w'.cell? ⟨w.heap.size, 6, none⟩ = some (.slice Ad x.own.data.length cd) ∧ w'.cell? ⟨w.heap.size, 7, none⟩ = some (.string x.own.target) ∧ w'.cell? ⟨w.heap.size, 8, none⟩ = some (.int .i64 x.own.major) ∧ w'.cell? ⟨w.heap.size, 9, none⟩ = some (.int .i64 x.own.minor) ∧ w'.cell? ⟨w.heap.size, 10, none⟩ = some (.slice Aa x.own.attrs.length ca) ∧ w'.cell? ⟨w.heap.size, 11, none⟩ = some (.slice Ak x.kids.length ck)) := Lib.hid (fun w' hb => by
    obtain ⟨n0, n1, n2, n3, n4, n5, n6, n7, n8, n9, n10, n11⟩ := HB2.out.cells
    have kk : ∀ {j : Nat} {u : Value}, w2.cell? ⟨w.heap.size, j, none⟩ = some u → w'.cell? ⟨w.heap.size, j, none⟩ = some u := fun hu => (hb.cell hBw).trans hu
    exact ⟨kk n0, kk n1, kk n2, kk n3, kk n4, kk n5, kk n6, kk n7, kk n8, kk n9, kk n10, kk n11⟩)
  have HX2 := Lib.hid HB2.out.below
  unfold boxO at hw2
  rw [← hw2, ← hw3, ← hB]
  clear hw3 HB2 hB hs2 hw2
  obtain ⟨n0, n1, n2, n3, n4, n5, n6, n7, n8, n9, n10, n11⟩ := HC.out _ HS3.out.bel
  go_wp2_with fail
  refine (clay_any n x _ L B w2 w3 none [] HRW.out HLB.out HS3.out (by simp only [List.length_nil]; omega)).mono ?_
  rintro e w5 ⟨rfl, r5, hs5, ht5⟩
  have hc5 := hs5.cell
  have HS5 := Lib.hid hs5
  have c0 : w5.cell? ⟨B, 0, none⟩ = some (.int .i64 ((archB x).length : Int)) := by rw [cell_block hc5, HAB.out]; rfl
  clear hs5 ht5 hc5 n0 n1 n2 n3 n4 n5 n6 n7 n8 n9 n10 n11
  go_wp2_with fail
  go_ret
  exact ⟨rfl, HX2.out.trans (HS5.out.bel.mono (by omega))⟩
end Go.Proofs.Ytojcciciinklbaa
