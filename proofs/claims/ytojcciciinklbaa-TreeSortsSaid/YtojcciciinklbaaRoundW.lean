/- Walks: a node, with all kids turned round. No claim by itself. -/
import Derived.Test.YtojcciciinklbaaSortP
import Derived.Test.YtojcciciinklbaaRef7
set_option linter.unusedSimpArgs false
set_option linter.unusedVariables false
namespace Go.Proofs.Ytojcciciinklbaa
open Go.RowKit

set_option maxRecDepth 100000 in
set_option maxHeartbeats 8000000 in
theorem round_any : ∀ (n : Nat) (x : Nd) (cs : List Value) (L : Live) (w : World), (nodeR n).R L w x cs → bulk x ≤ 1000000 → LOk L w →
    Calls Try.prog 32 #[.agg cs.toArray] w (MadeN n (roundN x) L w) := by
  intro n
  induction n with
  | zero => intro x cs L w h; exact h.elim
  | succ n ih =>
    intro x cs L w h hc hok
    obtain ⟨m, Ad, cd, Aa, ca, Ak, ck, hm, rfl, hP, d1, d2, a1, a2, k1, k2⟩ := node_open h
    obtain rfl : n = m := by omega
    clear hm h
    rw [bulk_eq] at hc
    have hkl := bulkL_len x.kids
    have HP := Lib.hid hP
    have Hok := Lib.hid hok
    have hmem : ∀ k (h : k < x.kids.length), bulk x.kids[k] ≤ 1000000 := fun k h => by have := bulkL_mem h; omega
    have Hmem := Lib.hid hmem
    have HRo := Lib.hid (roundN_eq x)
    clear hP hok hmem
    have c27 := cellsNode
    unfold nodeV
    go_enter Try.func32, Try.ntmps32
    go_upto_region 1 with fail
    obtain ⟨w4, hw4⟩ : ∃ y, y = (w.alloc (boxO x.own Ad cd Aa ca Ak x.kids.length ck)).alloc zeroB := ⟨_, rfl⟩
    have hX4 : Ext L w L w4 := by rw [hw4]; exact ((Ext.refl Hok.out).alloc _).alloc _
    have hb0 : w4.heap[w.heap.size]? = some (boxO x.own Ad cd Aa ca Ak x.kids.length ck) := by rw [hw4]; exact (Below.heap_alloc _ _ _ (by simp)).trans (heap_alloc_new w _)
    have hb1 : w4.heap[w.heap.size + 1]? = some zeroB := by rw [hw4]; have := heap_alloc_new (w.alloc (boxO x.own Ad cd Aa ca Ak x.kids.length ck)) zeroB; rwa [World.size_alloc] at this
    have hs4 : w4.heap.size = w.heap.size + 2 := by rw [hw4]; simp
    have HX4 := Lib.hid hX4; have B0 := Lib.hid hb0; have B1 := Lib.hid hb1
    have Hs4 := Lib.hid (Nat.le_of_eq hs4.symm)
    have HN4 : Hid (∀ j, ¬ L w.heap.size j ∧ ¬ L (w.heap.size + 1) j) := Lib.hid (fun j => ⟨not_live Hok.out (Nat.le_refl _) j, not_live Hok.out (by omega) j⟩)
    have HD4 := Lib.hid (HP.out.data.mono (Ext.sub Hok.out hX4))
    have HA4 := Lib.hid (HP.out.attrs.mono (Ext.sub Hok.out hX4))
    have HK4 := Lib.hid (HP.out.kids.mono (Ext.sub Hok.out hX4))
    have HF := Lib.hid HP.out.fits
    show Code.wp _ _ _ _ ((w.alloc (boxO x.own Ad cd Aa ca Ak x.kids.length ck)).alloc zeroB)
    rw [← hw4]
    obtain ⟨o, ho⟩ : ∃ o, o = x.own := ⟨_, rfl⟩
    obtain ⟨ks, hks⟩ : ∃ ks, ks = x.kids := ⟨_, rfl⟩
    rw [← ho] at HD4 HA4 HF B0 HRo hc d1 a1
    rw [← hks] at HK4 B0 Hmem HRo hc hkl k1
    rw [← ho, ← hks]
    clear hw4 hX4 hb0 hb1 hs4 ho hks HP
    obtain ⟨n0, n1, n2, n3, n4, n5, n6, n7, n8, n9, n10, n11⟩ := twelve_box B0.out
    have hlen1 : IntKind.i64.wrap ((ks.length : Int) - 1) = (ks.length : Int) - 1 := IntWalk.i64_in _ (by omega)
    go_wp2
    clear n0 n1 n2 n3 n4 n5 n6 n7 n8 n9 n10 n11
    go_loopw [3, 4] (fun v i wr => ∃ (k : Nat) (z : Int) (ys : List Nd) (cells : List Value) (Lk : Live), k ≤ ks.length ∧ i = .int .i64 z ∧ Hid (z = (k : Int) - 1) ∧ ys.length + k ≤ 1000000 ∧ Hid (ys = roundK (ks.drop k)) ∧ Hid (Out (nodeR n) Lk wr w4.heap.size 27 v ys cells) ∧ Hid (Ext L w4 Lk wr)) (fun _ i _ => ((intOf i) + 1).toNat)
    case atStart => exact ⟨ks.length, _, [], [], L, Nat.le_refl _, rfl, Lib.hid (by go_num), by simp; omega, Lib.hid (by rw [List.drop_length, roundK]), Lib.hid (Out.nil _ _ _ _ _), Lib.hid (Ext.refl HX4.out.ok)⟩
    case round =>
      obtain ⟨k, z, ys, cells, Lk, hk, rfl, HZ, hyl, HY, HO, HX⟩ := hrel
      obtain ⟨Ao, co, rfl, _, _⟩ := HO.out.form
      have h4 := Hs4.out
      have hb := HX.out.below.size
      have b0 := (HX.out.below.block w.heap.size (by omega)).trans B0.out
      obtain ⟨n0, n1, n2, n3, n4, n5, n6, n7, n8, n9, n10, n11⟩ := twelve_box b0
      by_cases hk0 : k = 0
      · have hz : z = -1 := by rw [HZ.out, hk0]; rfl
        subst hz
        have HYK : Hid (roundN x = .mk o ys) := Lib.hid (by rw [HRo.out, HY.out, hk0, List.drop_zero])
        obtain ⟨L7, hS7, _, hX7, _⟩ := HO.out.publish_ext HX.out (Nat.le_refl _) (by simp only [big]; omega)
        have b1 := (hX7.below.block (w.heap.size + 1) (by omega)).trans B1.out
        have m0 := Ext.not_live hX7 (g := w.heap.size) (by omega) (fun j => (HN4.out j).1)
        have m1 := Ext.not_live hX7 (g := w.heap.size + 1) (by omega) (fun j => (HN4.out j).2)
        have hB : Bears (n + 1) (roundN x) (nodeV o (.slice Ad o.data.length cd) (.slice Aa o.attrs.length ca) (.slice Ao ys.length co)) L w L7 wr :=
          ⟨HX4.out.trans hX7, by
            rw [HYK.out]
            exact ⟨_, _, _, rfl, HF.out, HD4.out.mono (Ext.sub HX4.out.ok hX7), HA4.out.mono (Ext.sub HX4.out.ok hX7), hS7⟩⟩
        have M0 := Lib.hid m0; have M1 := Lib.hid m1
        have HBr := Lib.hid hB
        obtain ⟨f0, f1, f2, f3, f4, f5, f6, f7, f8, f9, f10, f11⟩ := twelve_free b0
        obtain ⟨p0, p1, p2, p3, p4, p5, p6, p7, p8, p9, p10, p11⟩ := twelve b1
        obtain ⟨q0, q1, q2, q3, q4, q5, q6, q7, q8, q9, q10, q11⟩ := twelve_free b1
        have b1' := (heap_set_ne (w := wr) (g := w.heap.size) 11 (.slice Ao ys.length co) (w.heap.size + 1) (by omega)).trans b1
        have P1' := Lib.hid b1'
        clear hS7 hX7 b0 b1 m0 m1 hB b1' hk0 HO HX HY
        go_wp2
        refine bodyPost_ret (v := .agg (nodeV o (.slice Ad o.data.length cd) (.slice Aa o.attrs.length ca) (.slice Ao ys.length co)).toArray) (results_row rfl _ rfl (fill12 P1'.out _ _ _ _ _ _ _ _ _ _ _ _) Try.underlying27 rfl (by kernel_rfl)) rfl ?_
        refine MadeN.of (L' := L7) ?_
        repeat (first | (with_reducible refine Bears.set ?_ (Nat.le_refl _) M0.out _ _) | (with_reducible refine Bears.set ?_ (Nat.le_succ _) M1.out _ _) | (with_reducible exact HBr.out))
      · obtain ⟨m, rfl⟩ : ∃ m, k = m + 1 := ⟨k - 1, by omega⟩
        have hz : z = (m : Int) := by rw [HZ.out]; omega
        subst hz
        have hlt : m < ks.length := by omega
        have hkI : (m : Int) < (ks.length : Int) := by omega
        obtain ⟨b, off, cs, hA, hR, hat⟩ := nodes_at (HK4.out.mono (Ext.sub HX4.out.ok HX.out)) m hlt
        subst hA
        have hbk := Hmem.out m hlt
        have hd := roundK_drop hlt
        obtain ⟨y, hy⟩ : ∃ y, y = ks[m] := ⟨_, rfl⟩
        rw [← hy] at hR hat hbk hd
        have HT : Hid (ys ++ [roundN y] = roundK (ks.drop m)) := Lib.hid (by rw [hd, HY.out])
        clear hy hd
        obtain ⟨m', Ad', cd', Aa', ca', Ak', ck', hm, rfl, hP', _, _, _, _, _, _⟩ := node_open hR
        have hN := hat _ _ _ rfl
        obtain ⟨c0, c1, c2, c3, c4, c5, c6, c7, c8, c9, c10, c11⟩ := hN.all
        have HR := Lib.hid hR
        have iw : IntKind.i64.wrap ((m : Int) - 1) = (m : Int) - 1 := IntWalk.i64_in _ (by omega)
        clear hat hP' hm hR hN hk0
        go_wp2_with fail
        refine (ih y _ Lk wr HR.out hbk HX.out.ok).mono ?_
        rintro e w5 ⟨cs5, L5, rfl, h5, x5⟩
        have HO5 := Lib.hid (HO.out.ext HX.out.ok x5)
        have HX5 := Lib.hid (HX.out.trans x5)
        have hs5 := x5.below.size
        obtain ⟨u, hu⟩ : ∃ u, u = roundN y := ⟨_, rfl⟩
        rw [← hu] at h5 HT
        obtain ⟨m5, Ad5, cd5, Aa5, ca5, Ak5, ck5, hm5, rfl, hP5, _, _, _, _, _, _⟩ := node_open h5
        have H5 := Lib.hid h5
        clear h5 x5 hP5 hm5 hu b0 n0 n1 n2 n3 n4 n5 n6 n7 n8 n9 n10 n11 c0 c1 c2 c3 c4 c5 c6 c7 c8 c9 c10 c11 HO HX HY HR
        unfold nodeV
        go_wp2_with (at_builtin; refine wpList_appB rfl (.tmp 13) (.tmp 20) 25 27 rfl w4.heap.size _ 12 160 Try.underlying25 Try.infoNode rfl (by decide) _ _ rfl _ rfl ys.length cells ?c1 1 (nodeV u.own (.slice Ad5 u.own.data.length cd5) (.slice Aa5 u.own.attrs.length ca5) (.slice Ak5 u.kids.length ck5)) ?c2 ?c3 ?c4 ?c5 ?_)
        case c1 => rw [← nodeR_sz n]; exact HO5.out.1.below ((Below.refl _ w5).alloc (Nat.le_refl _) _)
        case c2 => exact Src.new w5 27 12 1 1 (nodeV u.own (.slice Ad5 u.own.data.length cd5) (.slice Aa5 u.own.attrs.length ca5) (.slice Ak5 u.kids.length ck5)) rfl
        case c3 => exact nodeV_one rfl rfl rfl
        case c4 => omega
        case c5 => simp; omega
        intro v6 w6 hB6 hg6 hrow6
        have hO6 := HO5.out.snoc (w1 := w5.alloc (.cells (nodeV u.own (.slice Ad5 u.own.data.length cd5) (.slice Aa5 u.own.attrs.length ca5) (.slice Ak5 u.kids.length ck5)).toArray 27)) HX5.out.ok ((Below.refl _ w5).alloc (Nat.le_refl _) _) (by rw [nodeR_sz]; exact hB6) hg6 (by simpa using hrow6) H5.out
        have HX6 := Lib.hid (grown_ext (HX5.out.alloc _) hg6 (fun g hg => (HO5.out.1.lt g hg).1))
        have HO6 := Lib.hid hO6
        clear hB6 hg6 hrow6 hO6
        go_wp2
        go_roundw
        case rel => exact ⟨m, (m : Int) - 1, ys ++ [u], _, L5, by omega, by first | rfl | go_num, Lib.hid rfl, by simp; omega, HT, HO6, HX6⟩
        case measure => simp [intOf]
end Go.Proofs.Ytojcciciinklbaa
