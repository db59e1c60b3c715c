/- Walks: whether a tree may be; all its entries; the document's example. No claim by itself. -/
import Derived.Test.YtojcciciinklbaaTree11
import Derived.Test.YtojcciciinklbaaTree4
set_option linter.unusedSimpArgs false
set_option linter.unusedVariables false
namespace Go.Proofs.Ytojcciciinklbaa
open Go.RowKit

/-- A slice of a row that was made at once. -/
theorem slice_new {α : Type} {d : Rp α} {L : Live} {w : World} {xs : List α} {cells : List Value} (e : Nat) (hr : Reps d L w xs cells) (hok : LOk L w) (hn : xs.length ≤ big) :
    ∃ L', SliceR d L' (w.alloc (.cells cells.toArray e)) xs (.slice (some ⟨w.heap.size, 0, none⟩) xs.length xs.length) ∧ Ext L w L' (w.alloc (.cells cells.toArray e)) ∧ ∀ b j, L' b j → L b j ∨ b = w.heap.size := by
  have hs : Sub L w (fun b i => L b i ∨ b = w.heap.size) (w.alloc (.cells cells.toArray e)) := fun b i hb => ⟨.inl hb, fun u hu => ((Below.refl _ w).alloc (Nat.le_refl _) _ |>.cell (World.block_lt_of_cell? w _ hu)).trans hu⟩
  refine ⟨fun b i => L b i ∨ b = w.heap.size, ⟨_, xs.length, cells, rfl, Nat.le_refl _, hn, ?_, hr.mono hs, fun h => (nomatch h), fun _ => ⟨w.heap.size, 0, rfl, fun j u hu => ⟨?_, .inr rfl⟩⟩⟩, ⟨(Below.refl _ w).alloc (Nat.le_refl _) _, fun b hb => ?_, ?_⟩, fun b j h => h⟩
  · simp only [big, maxLen] at hn ⊢; omega
  · rw [Nat.zero_add, cell_block (heap_alloc_new w _)]; simpa using hu
  · funext i; simp; omega
  · intro b i hb
    rcases hb with hb | rfl
    · have := hok b i hb; simp; omega
    · simp

def rootB (x : Nd) : Bool := @decide (x.own.kind = 1 ∧ x.own.name.size = 0) instDecidableAnd
noncomputable def mayI (x : Nd) : Int := if (rootB x && formB x) = true then (if (decide (6 < depth x) || decide (64 < count x)) = true then 3 else 0) else 2

set_option maxRecDepth 100000 in
set_option maxHeartbeats 8000000 in
theorem may_any (n : Nat) (x : Nd) (cs : List Value) (L : Live) (w : World) (h : (nodeR n).R L w x cs) (hc : count x ≤ 1000000) :
    Calls Try.prog 14 #[.agg cs.toArray] w fun e w' => e = .returned (.int .i64 (mayI x)) ∧ Below w.heap.size w w' := by
  have HR := Lib.hid h
  obtain ⟨m, Ad, cd, Aa, ca, Ak, ck, hm, rfl, hP, d1, d2, a1, a2, k1, k2⟩ := node_open h
  have HE : Hid (mayI x = if (rootB x && formB x) = true then (if (decide (6 < depth x) || decide (64 < count x)) = true then 3 else 0) else 2) := Lib.hid rfl
  have HO : Hid (rootB x = decide (x.own.kind = 1 ∧ x.own.name.size = 0)) := Lib.hid rfl
  have HC := Lib.hid hc
  have Hdc : Hid (depth x ≤ 1000000) := Lib.hid (by rw [depth_eq]; have := depthL_le x.kids; rw [count_eq] at hc; omega)
  clear h hP hm hc
  have c27 := cellsNode
  unfold nodeV
  have hb1 : (x.own.kind == 1) = decide (x.own.kind = 1) := by rw [Bool.eq_iff_iff]; simp
  obtain ⟨b1, hq1⟩ : ∃ b, decide (x.own.kind = 1) = b := ⟨_, rfl⟩
  have hb1' : (x.own.kind != 1) = !b1 := by rw [bne, hb1, hq1]
  rw [hq1] at hb1
  have HQ1 : Hid (x.own.kind = 1 ↔ b1 = true) := Lib.hid (by rw [← hq1]; simp)
  obtain ⟨t, ht⟩ : ∃ t, t = x.own.name := ⟨_, rfl⟩
  clear hq1
  go_enter Try.func14, Try.ntmps14
  go_upto_region 1 with fail
  go_cut [3] (fun v wx => v = .bool (!(rootB x && formB x)) ∧ Hid (Box1 w (boxO x.own Ad cd Aa ca Ak x.kids.length ck) wx))
  case first =>
    have HB : Hid (Box1 w (boxO x.own Ad cd Aa ca Ak x.kids.length ck) (w.alloc (boxO x.own Ad cd Aa ca Ak x.kids.length ck))) := Lib.hid box1
    cases b1 with
    | false =>
      go_wp2_with fail
      go_meet
      case rel => exact ⟨congrArg Value.bool (by rw [HO.out]; simp [HQ1.out]), HB⟩
    | true =>
      by_cases he : x.own.name = ⟨#[]⟩
      · have q0 : x.own.name.toList.isEmpty = true := by rw [he, ByteArray.toList_eq]; rfl
        have hz : x.own.name.size = 0 := by rw [he]; rfl
        have Hz := Lib.hid hz
        clear he hz
        go_wp2_with fail
        refine (form_at _ x _ L _ ((nodeR _).mono (sub_same HB.out.below) HR.out)).mono ?_
        rintro e w2 ⟨rfl, h2⟩
        have HB2 := Lib.hid (HB.out.step h2)
        clear h2
        go_wp2_with fail
        go_meet
        case rel => exact ⟨congrArg Value.bool (by rw [HO.out]; simp [HQ1.out, Hz.out]), HB2⟩
      · have q0 := toL_emp he
        have hz : ¬ x.own.name.size = 0 := fun h => he (size_zero h)
        go_wp2_with fail
        go_meet
        case rel => exact ⟨congrArg Value.bool (by rw [HO.out]; simp [HQ1.out, hz]), HB⟩
  case rest =>
    obtain ⟨rfl, HB⟩ := hcut
    obtain ⟨n0, n1, n2, n3, n4, n5, n6, n7, n8, n9, n10, n11⟩ := HB.out.cells
    obtain ⟨q1, hq1⟩ : ∃ q, q = (rootB x && formB x) := ⟨_, rfl⟩
    rw [← hq1] at HE ⊢
    clear hq1 HO HQ1 hb1 hb1'
    cases q1 with
    | false =>
      go_wp2_with fail
      go_ret
      exact ⟨by rw [HE.out]; rfl, HB.out.below⟩
    | true =>
      go_wp2_with fail
      refine (depth_any _ x _ L _ ((nodeR _).mono (sub_same HB.out.below) HR.out) HC.out).mono ?_
      rintro e w2 ⟨rfl, h2⟩
      have HB2 := Lib.hid (HB.out.step h2)
      clear h2 n0 n1 n2 n3 n4 n5 n6 n7 n8 n9 n10 n11 HB
      obtain ⟨n0, n1, n2, n3, n4, n5, n6, n7, n8, n9, n10, n11⟩ := HB2.out.cells
      obtain ⟨D, hD⟩ : ∃ D, D = depth x := ⟨_, rfl⟩
      rw [← hD] at HE ⊢
      by_cases h6 : 6 < D
      · have h6I : (6 : Int) < (D : Int) := by omega
        go_wp2_with fail
        go_ret
        exact ⟨by rw [HE.out]; simp [h6], HB2.out.below⟩
      · have h6I : ¬ (6 : Int) < (D : Int) := by omega
        go_wp2_with fail
        refine (count_any _ x _ L _ ((nodeR _).mono (sub_same HB2.out.below) HR.out) HC.out).mono ?_
        rintro e w3 ⟨rfl, h3⟩
        have HB3 := Lib.hid (HB2.out.step h3)
        clear h3
        obtain ⟨C, hC⟩ : ∃ C, C = count x := ⟨_, rfl⟩
        rw [← hC] at HE ⊢
        by_cases h64 : 64 < C
        · have h64I : (64 : Int) < (C : Int) := by omega
          go_wp2_with fail
          go_ret
          exact ⟨by rw [HE.out]; simp [h64], HB3.out.below⟩
        · have h64I : ¬ (64 : Int) < (C : Int) := by omega
          go_wp2_with fail
          go_ret
          exact ⟨by rw [HE.out]; simp [h6, h64], HB3.out.below⟩

set_option maxRecDepth 100000 in
theorem Walk_any (n : Nat) (x : Nd) (cs : List Value) (L : Live) (w : World) (h : (nodeR n).R L w x cs) (h1 : bulk x ≤ 1000000) (h2 : namesOk x) (h3 : n * 1001 ≤ 1000000) (hok : LOk L w) :
    Calls Try.prog 43 #[.agg cs.toArray] w (MadeE (walkN ⟨#[]⟩ x) L w) := by
  have HR := Lib.hid h
  obtain ⟨m, Ad, cd, Aa, ca, Ak, ck, hm, rfl, hP, d1, d2, a1, a2, k1, k2⟩ := node_open h
  have Hok := Lib.hid hok
  have H2 := Lib.hid h2
  clear h hP hok h2
  have c27 := cellsNode
  unfold nodeV
  go_enter Try.func43, Try.ntmps43
  go_wp2_with fail
  have HB : Hid (Box1 w (boxO x.own Ad cd Aa ca Ak x.kids.length ck) (w.alloc (boxO x.own Ad cd Aa ca Ak x.kids.length ck))) := Lib.hid box1
  refine (walk_any n x _ ⟨#[]⟩ L _ ((nodeR _).mono (sub_same HB.out.below) HR.out) h1 H2.out (by simpa [ByteArray.size] using h3) (Hok.out.alloc _)).mono ?_
  rintro e w2 ⟨v, cells, L', rfl, ho, hx⟩
  have HO := Lib.hid ho
  have HX := Lib.hid hx
  clear ho hx
  go_wp2_with fail
  go_ret
  exact ⟨_, cells, L', rfl, HO.out.lower (by simp), ((Ext.refl Hok.out).alloc _).trans HX.out⟩
end Go.Proofs.Ytojcciciinklbaa
