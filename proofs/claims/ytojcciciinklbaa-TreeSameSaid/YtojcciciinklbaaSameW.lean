/- TreeSame, walked: whether two trees are the same; a clone hangs on nothing of the first. No claim by itself. -/
import Derived.Test.YtojcciciinklbaaMayW
import Derived.Test.YtojcciciinklbaaSameS
set_option linter.unusedSimpArgs false
set_option linter.unusedVariables false
namespace Go.Proofs.Ytojcciciinklbaa
open Go.RowKit

set_option maxRecDepth 100000 in
set_option maxHeartbeats 16000000 in
theorem samelaw_walk (gs ms : List GV) (v u : Value) (which at_ : Int) (s : ByteArray) (W : World) (hS : SliceR gR (Lw W) W gs v) (hM : SliceR gR (Lw W) W ms u)
    (h1 : I64 which) (h2 : I64 at_) (h5 : s.size ≤ big) :
    Calls Try.prog 6 #[v, u, .int .i64 which, .int .i64 at_, .string s] W fun e w' => e = .returned (.bool true) ∧ Below W.heap.size W w' := by
  have HS := Lib.hid hS; have HM := Lib.hid hM; have H5s := Lib.hid h5
  clear hS hM
  have i0 : I64 0 := by unfold I64; omega
  have c27 := cellsNode
  have hat1 : -9223372036854775808 ≤ at_ ∧ at_ ≤ 9223372036854775807 := h2
  go_enter Try.func6, Try.ntmps6
  go_wp2_with fail
  refine (rmade_any gs v (Lw W) W HS.out (Lw_ok W)).mono ?_
  rintro e w1 ⟨cs1, L1, rfl, h1', x1⟩
  obtain ⟨m1, Adx, cdx, Aax, cax, Akx, ckx, hm1, rfl, hP1, _, _, _, _, _, _⟩ := node_open h1'
  obtain ⟨_, _, fx3, fx4, fx5, fx6⟩ := made_may gs
  obtain ⟨x, hx⟩ : ∃ x, x = madeF gs := ⟨_, rfl⟩
  rw [← hx] at h1' hP1 fx3 fx4 fx5 fx6 ⊢
  have HXg := Lib.hid hx; have HE1 := Lib.hid x1; have HN1 := Lib.hid h1'; have HX5 := Lib.hid fx5
  have hs1 := x1.below.size
  clear h1' hP1 hm1 x1 hx fx5
  unfold nodeV
  go_upto_region 2 with fail
  obtain ⟨w2, hw2⟩ : ∃ y, y = w1.alloc (boxO x.own Adx cdx Aax cax Akx x.kids.length ckx) := ⟨_, rfl⟩
  have hs2 : w1.heap.size < w2.heap.size := by rw [hw2]; simp
  have HE2 : Hid (Ext (Lw W) W L1 w2) := Lib.hid (by rw [hw2]; exact HE1.out.alloc _)
  have hb2 : Below w1.heap.size w1 w2 := by rw [hw2]; exact (Below.refl _ _).alloc (Nat.le_refl _) _
  have HBx2 : Hid (w2.heap[w1.heap.size]? = some (boxO x.own Adx cdx Aax cax Akx x.kids.length ckx)) := Lib.hid (by rw [hw2]; exact heap_alloc_new w1 _)
  have HN2 : Hid ((nodeR 13).R L1 w2 x (nodeV x.own (.slice Adx x.own.data.length cdx) (.slice Aax x.own.attrs.length cax) (.slice Akx x.kids.length ckx))) := Lib.hid ((nodeR 13).mono (sub_same hb2) HN1.out)
  show Code.wp _ _ _ _ (w1.alloc (boxO x.own Adx cdx Aax cax Akx x.kids.length ckx))
  rw [← hw2]
  clear hw2 hb2 HN1 HE1
  go_wp2_with fail
  refine (rmade_any ms u L1 w2 (HM.out.mono (Ext.sub (Lw_ok W) HE2.out)) HE2.out.ok).mono ?_
  rintro e w3 ⟨cs3, L3, rfl, h3', x3⟩
  obtain ⟨m3, Ady, cdy, Aay, cay, Aky, cky, hm3, rfl, hP3, _, _, _, _, _, _⟩ := node_open h3'
  obtain ⟨_, _, fy3, fy4, fy5, fy6⟩ := made_may ms
  obtain ⟨y, hy⟩ : ∃ y, y = madeF ms := ⟨_, rfl⟩
  rw [← hy] at h3' hP3 fy3 fy4 fy5 fy6 ⊢
  have HY5 := Lib.hid fy5
  have HE23 := Lib.hid x3; have HE3 := Lib.hid (HE2.out.trans x3); have HN3 := Lib.hid h3'
  have hs3 := x3.below.size
  clear h3' hP3 hm3 x3 hy fy5
  unfold nodeV
  go_upto_region 3 with fail
  obtain ⟨w4, hw4⟩ : ∃ z, z = w3.alloc (boxO y.own Ady cdy Aay cay Aky y.kids.length cky) := ⟨_, rfl⟩
  have hs4 : w3.heap.size < w4.heap.size := by rw [hw4]; simp
  have hb4 : Below w3.heap.size w3 w4 := by rw [hw4]; exact (Below.refl _ _).alloc (Nat.le_refl _) _
  have HE24 : Hid (Ext L1 w2 L3 w4) := Lib.hid (by rw [hw4]; exact HE23.out.alloc _)
  have HE4 : Hid (Ext (Lw W) W L3 w4) := Lib.hid (by rw [hw4]; exact HE3.out.alloc _)
  have HBy4 : Hid (w4.heap[w3.heap.size]? = some (boxO y.own Ady cdy Aay cay Aky y.kids.length cky)) := Lib.hid (by rw [hw4]; exact heap_alloc_new w3 _)
  have HBx4 : Hid (w4.heap[w1.heap.size]? = some (boxO x.own Adx cdx Aax cax Akx x.kids.length ckx)) := Lib.hid ((HE24.out.below.block _ hs2).trans HBx2.out)
  have HNy4 : Hid ((nodeR 13).R L3 w4 y (nodeV y.own (.slice Ady y.own.data.length cdy) (.slice Aay y.own.attrs.length cay) (.slice Aky y.kids.length cky))) := Lib.hid ((nodeR 13).mono (sub_same hb4) HN3.out)
  have HNx4 : Hid ((nodeR 13).R L3 w4 x (nodeV x.own (.slice Adx x.own.data.length cdx) (.slice Aax x.own.attrs.length cax) (.slice Akx x.kids.length ckx))) := Lib.hid ((nodeR 13).mono (Ext.sub HE2.out.ok HE24.out) HN2.out)
  show Code.wp _ _ _ _ (w3.alloc (boxO y.own Ady cdy Aay cay Aky y.kids.length cky))
  rw [← hw4]
  clear hw4 hb4 HN2 HN3 HE23 HE3 HE24 HBx2 HE2
  go_wp2_with fail
  refine (around_any at_ 4 _ hat1.1 hat1.2 (by decide) (by decide)).mono ?_
  rintro e w4' ⟨rfl, rfl⟩
  have hr := around_range at_ 4 (by decide)
  obtain ⟨r, hr4⟩ : ∃ r, r = around at_ 4 := ⟨_, rfl⟩
  rw [← hr4] at hr ⊢
  clear hr4
  have hri : IntKind.i64.wrap (1 + r) = 1 + r := IntWalk.i64_in _ (by omega)
  go_wp2_with fail
  refine (odd_any gs v which at_ ⟨1 + r, s, at_, 0, 0, 0, [], s, 0, 0, []⟩ none 0 none 0 none 0 0 L3 w4 (HS.out.mono (Ext.sub (Lw_ok W) HE4.out)) HE4.out.ok (SliceR.nil _ _ _) (SliceR.nil _ _ _) ⟨⟨by dsimp only; omega, by dsimp only; omega⟩, h2, i0, i0, i0, i0, i0, H5s.out, H5s.out⟩ h1 h2).mono ?_
  rintro e w5 ⟨z, cs5, L5, rfl, h5', x5, g1, g2, g3, g4⟩
  obtain ⟨m5, Adz, cdz, Aaz, caz, Akz, ckz, hm5, rfl, hP5, _, _, _, _, _, _⟩ := node_open h5'
  have HZ3 := Lib.hid g3
  have HE45 := Lib.hid x5; have HE5 := Lib.hid (HE4.out.trans x5); have HN5 := Lib.hid h5'
  have hs5 := x5.below.size
  clear h5' hP5 hm5 x5 g3
  unfold nodeV
  go_upto_region 4 with fail
  obtain ⟨w6, hw6⟩ : ∃ y', y' = w5.alloc (boxO z.own Adz cdz Aaz caz Akz z.kids.length ckz) := ⟨_, rfl⟩
  have hs6 : w5.heap.size < w6.heap.size := by rw [hw6]; simp
  have hb6 : Below w5.heap.size w5 w6 := by rw [hw6]; exact (Below.refl _ _).alloc (Nat.le_refl _) _
  have HE46 : Hid (Ext L3 w4 L5 w6) := Lib.hid (by rw [hw6]; exact HE45.out.alloc _)
  have HE6 : Hid (Ext (Lw W) W L5 w6) := Lib.hid (by rw [hw6]; exact HE5.out.alloc _)
  have HBz6 : Hid (w6.heap[w5.heap.size]? = some (boxO z.own Adz cdz Aaz caz Akz z.kids.length ckz)) := Lib.hid (by rw [hw6]; exact heap_alloc_new w5 _)
  have HBx6 : Hid (w6.heap[w1.heap.size]? = some (boxO x.own Adx cdx Aax cax Akx x.kids.length ckx)) := Lib.hid ((HE46.out.below.block _ (by omega)).trans HBx4.out)
  have HBy6 : Hid (w6.heap[w3.heap.size]? = some (boxO y.own Ady cdy Aay cay Aky y.kids.length cky)) := Lib.hid ((HE46.out.below.block _ hs4).trans HBy4.out)
  have HNz6 : Hid ((nodeR 13).R L5 w6 z (nodeV z.own (.slice Adz z.own.data.length cdz) (.slice Aaz z.own.attrs.length caz) (.slice Akz z.kids.length ckz))) := Lib.hid ((nodeR 13).mono (sub_same hb6) HN5.out)
  have HNy6 : Hid ((nodeR 13).R L5 w6 y (nodeV y.own (.slice Ady y.own.data.length cdy) (.slice Aay y.own.attrs.length cay) (.slice Aky y.kids.length cky))) := Lib.hid ((nodeR 13).mono (Ext.sub HE4.out.ok HE46.out) HNy4.out)
  have HNx6 : Hid ((nodeR 13).R L5 w6 x (nodeV x.own (.slice Adx x.own.data.length cdx) (.slice Aax x.own.attrs.length cax) (.slice Akx x.kids.length ckx))) := Lib.hid ((nodeR 13).mono (Ext.sub HE4.out.ok HE46.out) HNx4.out)
  show Code.wp _ _ _ _ (w5.alloc (boxO z.own Adz cdz Aaz caz Akz z.kids.length ckz))
  rw [← hw6]
  clear hw6 hb6 HN5 HNx4 HNy4 HE45 HE5 HE4 HE46 HBx4 HBy4 hri
  obtain ⟨n0, n1, n2, n3, n4, n5, n6, n7, n8, n9, n10, n11⟩ := twelve_box HBx6.out
  go_wp2_with fail
  refine (clone2_any 13 x _ L5 w6 HNx6.out fx6 HE6.out.ok).mono ?_
  rintro e w7 ⟨cs7, L7, rfl, h7', x7, vd7, va7, vk7, hcs7, hd7, kc7, hk7, hko7⟩
  obtain ⟨m7, Adc, cdc, Aac, cac, Akc, ckc, hm7, rfl, hP7, _, _, _, _, _, _⟩ := node_open h7'
  have hvk : vk7 = .slice Akc x.kids.length ckc := by
    have := congrArg (fun l => l[11]?) hcs7
    simp only [nodeV] at this
    exact (Option.some.inj this).symm
  subst hvk
  have HE67 := Lib.hid x7; have HE7 := Lib.hid (HE6.out.trans x7); have HN7 := Lib.hid h7'
  have HK7 := Lib.hid hk7; have HKo7 := Lib.hid hko7
  have hs7 := x7.below.size
  clear h7' hP7 hm7 x7 hcs7 hd7 hk7 hko7 n0 n1 n2 n3 n4 n5 n6 n7 n8 n9 n10 n11
  unfold nodeV
  go_upto_region 5 with fail
  obtain ⟨w8, hw8⟩ : ∃ y', y' = w7.alloc (boxO x.own Adc cdc Aac cac Akc x.kids.length ckc) := ⟨_, rfl⟩
  have hs8 : w7.heap.size < w8.heap.size := by rw [hw8]; simp
  have hb8 : Below w7.heap.size w7 w8 := by rw [hw8]; exact (Below.refl _ _).alloc (Nat.le_refl _) _
  have HE68 : Hid (Ext L5 w6 L7 w8) := Lib.hid (by rw [hw8]; exact HE67.out.alloc _)
  have HE8 : Hid (Ext (Lw W) W L7 w8) := Lib.hid (by rw [hw8]; exact HE7.out.alloc _)
  have HBc : Hid (w8.heap[w7.heap.size]? = some (boxO x.own Adc cdc Aac cac Akc x.kids.length ckc)) := Lib.hid (by rw [hw8]; exact heap_alloc_new w7 _)
  have HBx : Hid (w8.heap[w1.heap.size]? = some (boxO x.own Adx cdx Aax cax Akx x.kids.length ckx)) := Lib.hid ((HE68.out.below.block _ (by omega)).trans HBx6.out)
  have HBy : Hid (w8.heap[w3.heap.size]? = some (boxO y.own Ady cdy Aay cay Aky y.kids.length cky)) := Lib.hid ((HE68.out.below.block _ (by omega)).trans HBy6.out)
  have HBz : Hid (w8.heap[w5.heap.size]? = some (boxO z.own Adz cdz Aaz caz Akz z.kids.length ckz)) := Lib.hid ((HE68.out.below.block _ hs6).trans HBz6.out)
  have HCl : Hid (Cl w6.heap.size w6 w7.heap.size (.slice Akc x.kids.length ckc) x.kids w8) := Lib.hid ⟨HE68.out.below, hs7, (twelve_box HBc.out).2.2.2.2.2.2.2.2.2.2.2, ⟨_, _, HBc.out⟩, fun k hk => (HK7.out.lt k hk).2, kc7, HK7.out.below hb8, HKo7.out.below hb8⟩
  have HNc : Hid (∀ w', Below w8.heap.size w8 w' → (nodeR 13).R L7 w' x (nodeV x.own (.slice Adc x.own.data.length cdc) (.slice Aac x.own.attrs.length cac) (.slice Akc x.kids.length ckc))) := Lib.hid (fun w' hb => (nodeR 13).mono (sub_same hb) ((nodeR 13).mono (sub_same hb8) HN7.out))
  have HNx : Hid (∀ w', Below w8.heap.size w8 w' → (nodeR 13).R L7 w' x (nodeV x.own (.slice Adx x.own.data.length cdx) (.slice Aax x.own.attrs.length cax) (.slice Akx x.kids.length ckx))) := Lib.hid (fun w' hb => (nodeR 13).mono (sub_same hb) ((nodeR 13).mono (Ext.sub HE6.out.ok HE68.out) HNx6.out))
  have HNy : Hid (∀ w', Below w8.heap.size w8 w' → (nodeR 13).R L7 w' y (nodeV y.own (.slice Ady y.own.data.length cdy) (.slice Aay y.own.attrs.length cay) (.slice Aky y.kids.length cky))) := Lib.hid (fun w' hb => (nodeR 13).mono (sub_same hb) ((nodeR 13).mono (Ext.sub HE6.out.ok HE68.out) HNy6.out))
  have HNz : Hid (∀ w', Below w8.heap.size w8 w' → (nodeR 13).R L7 w' z (nodeV z.own (.slice Adz z.own.data.length cdz) (.slice Aaz z.own.attrs.length caz) (.slice Akz z.kids.length ckz))) := Lib.hid (fun w' hb => (nodeR 13).mono (sub_same hb) ((nodeR 13).mono (Ext.sub HE6.out.ok HE68.out) HNz6.out))
  have HLo : Hid (∀ w', Below w8.heap.size w8 w' → LOk L7 w') := Lib.hid (fun w' hb b i h => Nat.lt_of_lt_of_le (HE8.out.ok b i h) hb.size)
  obtain ⟨b1, hb1⟩ : ∃ b, b = eqB x y := ⟨_, rfl⟩
  obtain ⟨b2, hb2⟩ : ∃ b, b = eqB x z := ⟨_, rfl⟩
  obtain ⟨b3, hb3⟩ : ∃ b, b = eqB z y := ⟨_, rfl⟩
  have Hb1 := Lib.hid hb1; have Hb2 := Lib.hid hb2; have Hb3 := Lib.hid hb3
  have Hbt : Hid (eqB x x = true) := Lib.hid (eqB_true rfl)
  show Code.wp _ _ _ _ (w7.alloc (boxO x.own Adc cdc Aac cac Akc x.kids.length ckc))
  rw [← hw8]
  clear hw8 hb8 HN7 HE67 HE7 HNy6 HNz6 HBy6 HBz6 HK7 HKo7 hb1 hb2 hb3
  refine wp_named _ ?_
  intro l0 hl0
  obtain ⟨E, hE⟩ : ∃ E : Unit → List (Nat × Nat × Value), E = fun _ => [(0, 34, .agg #[.int .i64 x.own.kind, .string x.own.name, .int .i64 x.own.mode, .int .i64 x.own.uid, .int .i64 x.own.gid, .int .i64 x.own.mtime, .slice Adx x.own.data.length cdx, .string x.own.target, .int .i64 x.own.major, .int .i64 x.own.minor, .slice Aax x.own.attrs.length cax, .slice Akx x.kids.length ckx]), (1, 35, .agg #[.int .i64 y.own.kind, .string y.own.name, .int .i64 y.own.mode, .int .i64 y.own.uid, .int .i64 y.own.gid, .int .i64 y.own.mtime, .slice Ady y.own.data.length cdy, .string y.own.target, .int .i64 y.own.major, .int .i64 y.own.minor, .slice Aay y.own.attrs.length cay, .slice Aky y.kids.length cky]), (2, 36, .bool b1), (3, 37, .agg #[.int .i64 x.own.kind, .string x.own.name, .int .i64 x.own.mode, .int .i64 x.own.uid, .int .i64 x.own.gid, .int .i64 x.own.mtime, .slice Adx x.own.data.length cdx, .string x.own.target, .int .i64 x.own.major, .int .i64 x.own.minor, .slice Aax x.own.attrs.length cax, .slice Akx x.kids.length ckx]), (4, 38, .agg #[.int .i64 y.own.kind, .string y.own.name, .int .i64 y.own.mode, .int .i64 y.own.uid, .int .i64 y.own.gid, .int .i64 y.own.mtime, .slice Ady y.own.data.length cdy, .string y.own.target, .int .i64 y.own.major, .int .i64 y.own.minor, .slice Aay y.own.attrs.length cay, .slice Aky y.kids.length cky]), (5, 39, .bool b1), (6, 40, .bool false), (7, 41, .bool false), (8, 42, .agg #[.int .i64 x.own.kind, .string x.own.name, .int .i64 x.own.mode, .int .i64 x.own.uid, .int .i64 x.own.gid, .int .i64 x.own.mtime, .slice Adx x.own.data.length cdx, .string x.own.target, .int .i64 x.own.major, .int .i64 x.own.minor, .slice Aax x.own.attrs.length cax, .slice Akx x.kids.length ckx]), (9, 43, .agg #[.int .i64 z.own.kind, .string z.own.name, .int .i64 z.own.mode, .int .i64 z.own.uid, .int .i64 z.own.gid, .int .i64 z.own.mtime, .slice Adz z.own.data.length cdz, .string z.own.target, .int .i64 z.own.major, .int .i64 z.own.minor, .slice Aaz z.own.attrs.length caz, .slice Akz z.kids.length ckz]), (10, 44, .bool b2), (11, 45, .agg #[.int .i64 x.own.kind, .string x.own.name, .int .i64 x.own.mode, .int .i64 x.own.uid, .int .i64 x.own.gid, .int .i64 x.own.mtime, .slice Adx x.own.data.length cdx, .string x.own.target, .int .i64 x.own.major, .int .i64 x.own.minor, .slice Aax x.own.attrs.length cax, .slice Akx x.kids.length ckx]), (12, 46, .agg #[.int .i64 z.own.kind, .string z.own.name, .int .i64 z.own.mode, .int .i64 z.own.uid, .int .i64 z.own.gid, .int .i64 z.own.mtime, .slice Adz z.own.data.length cdz, .string z.own.target, .int .i64 z.own.major, .int .i64 z.own.minor, .slice Aaz z.own.attrs.length caz, .slice Akz z.kids.length ckz]), (13, 47, .bool b2), (14, 48, .bool false), (15, 49, .bool false), (16, 50, .bool false), (17, 51, .agg #[.int .i64 z.own.kind, .string z.own.name, .int .i64 z.own.mode, .int .i64 z.own.uid, .int .i64 z.own.gid, .int .i64 z.own.mtime, .slice Adz z.own.data.length cdz, .string z.own.target, .int .i64 z.own.major, .int .i64 z.own.minor, .slice Aaz z.own.attrs.length caz, .slice Akz z.kids.length ckz]), (18, 52, .agg #[.int .i64 y.own.kind, .string y.own.name, .int .i64 y.own.mode, .int .i64 y.own.uid, .int .i64 y.own.gid, .int .i64 y.own.mtime, .slice Ady y.own.data.length cdy, .string y.own.target, .int .i64 y.own.major, .int .i64 y.own.minor, .slice Aay y.own.attrs.length cay, .slice Aky y.kids.length cky]), (19, 53, .bool b3), (20, 54, .agg #[.int .i64 z.own.kind, .string z.own.name, .int .i64 z.own.mode, .int .i64 z.own.uid, .int .i64 z.own.gid, .int .i64 z.own.mtime, .slice Adz z.own.data.length cdz, .string z.own.target, .int .i64 z.own.major, .int .i64 z.own.minor, .slice Aaz z.own.attrs.length caz, .slice Akz z.kids.length ckz]), (21, 55, .agg #[.int .i64 y.own.kind, .string y.own.name, .int .i64 y.own.mode, .int .i64 y.own.uid, .int .i64 y.own.gid, .int .i64 y.own.mtime, .slice Ady y.own.data.length cdy, .string y.own.target, .int .i64 y.own.major, .int .i64 y.own.minor, .slice Aay y.own.attrs.length cay, .slice Aky y.kids.length cky]), (22, 56, .bool b3), (23, 57, .bool false), (24, 58, .bool false), (25, 59, .bool false), (26, 60, .agg #[.int .i64 x.own.kind, .string x.own.name, .int .i64 x.own.mode, .int .i64 x.own.uid, .int .i64 x.own.gid, .int .i64 x.own.mtime, .slice Adx x.own.data.length cdx, .string x.own.target, .int .i64 x.own.major, .int .i64 x.own.minor, .slice Aax x.own.attrs.length cax, .slice Akx x.kids.length ckx]), (27, 61, .agg #[.int .i64 x.own.kind, .string x.own.name, .int .i64 x.own.mode, .int .i64 x.own.uid, .int .i64 x.own.gid, .int .i64 x.own.mtime, .slice Adx x.own.data.length cdx, .string x.own.target, .int .i64 x.own.major, .int .i64 x.own.minor, .slice Aax x.own.attrs.length cax, .slice Akx x.kids.length ckx]), (28, 62, .bool true), (29, 63, .bool false), (30, 64, .bool false), (31, 65, .bool false), (32, 66, .agg #[.int .i64 x.own.kind, .string x.own.name, .int .i64 x.own.mode, .int .i64 x.own.uid, .int .i64 x.own.gid, .int .i64 x.own.mtime, .slice Adc x.own.data.length cdc, .string x.own.target, .int .i64 x.own.major, .int .i64 x.own.minor, .slice Aac x.own.attrs.length cac, .slice Akc x.kids.length ckc]), (33, 67, .agg #[.int .i64 x.own.kind, .string x.own.name, .int .i64 x.own.mode, .int .i64 x.own.uid, .int .i64 x.own.gid, .int .i64 x.own.mtime, .slice Adx x.own.data.length cdx, .string x.own.target, .int .i64 x.own.major, .int .i64 x.own.minor, .slice Aax x.own.attrs.length cax, .slice Akx x.kids.length ckx]), (34, 68, .bool true), (35, 69, .bool false), (36, 70, .bool false)] := ⟨_, rfl⟩
  have hlen : l0.length = 119 := by rw [hl0]; rfl
  have hE1 : (E ()).map (fun t => t.1) = [0, 1, 2, 3, 4, 5, 6, 7, 8, 9, 10, 11, 12, 13, 14, 15, 16, 17, 18, 19, 20, 21, 22, 23, 24, 25, 26, 27, 28, 29, 30, 31, 32, 33, 34, 35, 36] := by rw [hE]; rfl
  have hE2 : (E ()).map (fun t => t.2.1) = [34, 35, 36, 37, 38, 39, 40, 41, 42, 43, 44, 45, 46, 47, 48, 49, 50, 51, 52, 53, 54, 55, 56, 57, 58, 59, 60, 61, 62, 63, 64, 65, 66, 67, 68, 69, 70] := by rw [hE]; rfl
  have m0 : (0, 34, (.agg #[.int .i64 x.own.kind, .string x.own.name, .int .i64 x.own.mode, .int .i64 x.own.uid, .int .i64 x.own.gid, .int .i64 x.own.mtime, .slice Adx x.own.data.length cdx, .string x.own.target, .int .i64 x.own.major, .int .i64 x.own.minor, .slice Aax x.own.attrs.length cax, .slice Akx x.kids.length ckx] : Value)) ∈ E () := by rw [hE]; simp
  have m1 : (1, 35, (.agg #[.int .i64 y.own.kind, .string y.own.name, .int .i64 y.own.mode, .int .i64 y.own.uid, .int .i64 y.own.gid, .int .i64 y.own.mtime, .slice Ady y.own.data.length cdy, .string y.own.target, .int .i64 y.own.major, .int .i64 y.own.minor, .slice Aay y.own.attrs.length cay, .slice Aky y.kids.length cky] : Value)) ∈ E () := by rw [hE]; simp
  have m2 : (2, 36, (.bool b1 : Value)) ∈ E () := by rw [hE]; simp
  have m3 : (3, 37, (.agg #[.int .i64 x.own.kind, .string x.own.name, .int .i64 x.own.mode, .int .i64 x.own.uid, .int .i64 x.own.gid, .int .i64 x.own.mtime, .slice Adx x.own.data.length cdx, .string x.own.target, .int .i64 x.own.major, .int .i64 x.own.minor, .slice Aax x.own.attrs.length cax, .slice Akx x.kids.length ckx] : Value)) ∈ E () := by rw [hE]; simp
  have m4 : (4, 38, (.agg #[.int .i64 y.own.kind, .string y.own.name, .int .i64 y.own.mode, .int .i64 y.own.uid, .int .i64 y.own.gid, .int .i64 y.own.mtime, .slice Ady y.own.data.length cdy, .string y.own.target, .int .i64 y.own.major, .int .i64 y.own.minor, .slice Aay y.own.attrs.length cay, .slice Aky y.kids.length cky] : Value)) ∈ E () := by rw [hE]; simp
  have m5 : (5, 39, (.bool b1 : Value)) ∈ E () := by rw [hE]; simp
  have m6 : (6, 40, (.bool false : Value)) ∈ E () := by rw [hE]; simp
  have m7 : (7, 41, (.bool false : Value)) ∈ E () := by rw [hE]; simp
  have m8 : (8, 42, (.agg #[.int .i64 x.own.kind, .string x.own.name, .int .i64 x.own.mode, .int .i64 x.own.uid, .int .i64 x.own.gid, .int .i64 x.own.mtime, .slice Adx x.own.data.length cdx, .string x.own.target, .int .i64 x.own.major, .int .i64 x.own.minor, .slice Aax x.own.attrs.length cax, .slice Akx x.kids.length ckx] : Value)) ∈ E () := by rw [hE]; simp
  have m9 : (9, 43, (.agg #[.int .i64 z.own.kind, .string z.own.name, .int .i64 z.own.mode, .int .i64 z.own.uid, .int .i64 z.own.gid, .int .i64 z.own.mtime, .slice Adz z.own.data.length cdz, .string z.own.target, .int .i64 z.own.major, .int .i64 z.own.minor, .slice Aaz z.own.attrs.length caz, .slice Akz z.kids.length ckz] : Value)) ∈ E () := by rw [hE]; simp
  have m10 : (10, 44, (.bool b2 : Value)) ∈ E () := by rw [hE]; simp
  have m11 : (11, 45, (.agg #[.int .i64 x.own.kind, .string x.own.name, .int .i64 x.own.mode, .int .i64 x.own.uid, .int .i64 x.own.gid, .int .i64 x.own.mtime, .slice Adx x.own.data.length cdx, .string x.own.target, .int .i64 x.own.major, .int .i64 x.own.minor, .slice Aax x.own.attrs.length cax, .slice Akx x.kids.length ckx] : Value)) ∈ E () := by rw [hE]; simp
  have m12 : (12, 46, (.agg #[.int .i64 z.own.kind, .string z.own.name, .int .i64 z.own.mode, .int .i64 z.own.uid, .int .i64 z.own.gid, .int .i64 z.own.mtime, .slice Adz z.own.data.length cdz, .string z.own.target, .int .i64 z.own.major, .int .i64 z.own.minor, .slice Aaz z.own.attrs.length caz, .slice Akz z.kids.length ckz] : Value)) ∈ E () := by rw [hE]; simp
  have m13 : (13, 47, (.bool b2 : Value)) ∈ E () := by rw [hE]; simp
  have m14 : (14, 48, (.bool false : Value)) ∈ E () := by rw [hE]; simp
  have m15 : (15, 49, (.bool false : Value)) ∈ E () := by rw [hE]; simp
  have m16 : (16, 50, (.bool false : Value)) ∈ E () := by rw [hE]; simp
  have m17 : (17, 51, (.agg #[.int .i64 z.own.kind, .string z.own.name, .int .i64 z.own.mode, .int .i64 z.own.uid, .int .i64 z.own.gid, .int .i64 z.own.mtime, .slice Adz z.own.data.length cdz, .string z.own.target, .int .i64 z.own.major, .int .i64 z.own.minor, .slice Aaz z.own.attrs.length caz, .slice Akz z.kids.length ckz] : Value)) ∈ E () := by rw [hE]; simp
  have m18 : (18, 52, (.agg #[.int .i64 y.own.kind, .string y.own.name, .int .i64 y.own.mode, .int .i64 y.own.uid, .int .i64 y.own.gid, .int .i64 y.own.mtime, .slice Ady y.own.data.length cdy, .string y.own.target, .int .i64 y.own.major, .int .i64 y.own.minor, .slice Aay y.own.attrs.length cay, .slice Aky y.kids.length cky] : Value)) ∈ E () := by rw [hE]; simp
  have m19 : (19, 53, (.bool b3 : Value)) ∈ E () := by rw [hE]; simp
  have m20 : (20, 54, (.agg #[.int .i64 z.own.kind, .string z.own.name, .int .i64 z.own.mode, .int .i64 z.own.uid, .int .i64 z.own.gid, .int .i64 z.own.mtime, .slice Adz z.own.data.length cdz, .string z.own.target, .int .i64 z.own.major, .int .i64 z.own.minor, .slice Aaz z.own.attrs.length caz, .slice Akz z.kids.length ckz] : Value)) ∈ E () := by rw [hE]; simp
  have m21 : (21, 55, (.agg #[.int .i64 y.own.kind, .string y.own.name, .int .i64 y.own.mode, .int .i64 y.own.uid, .int .i64 y.own.gid, .int .i64 y.own.mtime, .slice Ady y.own.data.length cdy, .string y.own.target, .int .i64 y.own.major, .int .i64 y.own.minor, .slice Aay y.own.attrs.length cay, .slice Aky y.kids.length cky] : Value)) ∈ E () := by rw [hE]; simp
  have m22 : (22, 56, (.bool b3 : Value)) ∈ E () := by rw [hE]; simp
  have m23 : (23, 57, (.bool false : Value)) ∈ E () := by rw [hE]; simp
  have m24 : (24, 58, (.bool false : Value)) ∈ E () := by rw [hE]; simp
  have m25 : (25, 59, (.bool false : Value)) ∈ E () := by rw [hE]; simp
  have m26 : (26, 60, (.agg #[.int .i64 x.own.kind, .string x.own.name, .int .i64 x.own.mode, .int .i64 x.own.uid, .int .i64 x.own.gid, .int .i64 x.own.mtime, .slice Adx x.own.data.length cdx, .string x.own.target, .int .i64 x.own.major, .int .i64 x.own.minor, .slice Aax x.own.attrs.length cax, .slice Akx x.kids.length ckx] : Value)) ∈ E () := by rw [hE]; simp
  have m27 : (27, 61, (.agg #[.int .i64 x.own.kind, .string x.own.name, .int .i64 x.own.mode, .int .i64 x.own.uid, .int .i64 x.own.gid, .int .i64 x.own.mtime, .slice Adx x.own.data.length cdx, .string x.own.target, .int .i64 x.own.major, .int .i64 x.own.minor, .slice Aax x.own.attrs.length cax, .slice Akx x.kids.length ckx] : Value)) ∈ E () := by rw [hE]; simp
  have m28 : (28, 62, (.bool true : Value)) ∈ E () := by rw [hE]; simp
  have m29 : (29, 63, (.bool false : Value)) ∈ E () := by rw [hE]; simp
  have m30 : (30, 64, (.bool false : Value)) ∈ E () := by rw [hE]; simp
  have m31 : (31, 65, (.bool false : Value)) ∈ E () := by rw [hE]; simp
  have m32 : (32, 66, (.agg #[.int .i64 x.own.kind, .string x.own.name, .int .i64 x.own.mode, .int .i64 x.own.uid, .int .i64 x.own.gid, .int .i64 x.own.mtime, .slice Adc x.own.data.length cdc, .string x.own.target, .int .i64 x.own.major, .int .i64 x.own.minor, .slice Aac x.own.attrs.length cac, .slice Akc x.kids.length ckc] : Value)) ∈ E () := by rw [hE]; simp
  have m33 : (33, 67, (.agg #[.int .i64 x.own.kind, .string x.own.name, .int .i64 x.own.mode, .int .i64 x.own.uid, .int .i64 x.own.gid, .int .i64 x.own.mtime, .slice Adx x.own.data.length cdx, .string x.own.target, .int .i64 x.own.major, .int .i64 x.own.minor, .slice Aax x.own.attrs.length cax, .slice Akx x.kids.length ckx] : Value)) ∈ E () := by rw [hE]; simp
  have m34 : (34, 68, (.bool true : Value)) ∈ E () := by rw [hE]; simp
  have m35 : (35, 69, (.bool false : Value)) ∈ E () := by rw [hE]; simp
  have m36 : (36, 70, (.bool false : Value)) ∈ E () := by rw [hE]; simp
  have hn1 : ((E ()).map fun t => t.1).Nodup := by rw [hE1]; decide
  have hn2 : ((E ()).map fun t => t.2.1).Nodup := by rw [hE2]; decide
  have hlt : ∀ t ∈ E (), t.2.1 < l0.length := fun t ht => by
    have h1 : t.2.1 ∈ (E ()).map fun t => t.2.1 := List.mem_map.2 ⟨t, ht, rfl⟩
    rw [hE2] at h1
    rw [hlen]
    simp only [List.mem_cons, List.mem_nil_iff, or_false] at h1
    omega
  have Xm0 := Lib.hid m0
  have Xm1 := Lib.hid m1
  have Xm2 := Lib.hid m2
  have Xm3 := Lib.hid m3
  have Xm4 := Lib.hid m4
  have Xm5 := Lib.hid m5
  have Xm6 := Lib.hid m6
  have Xm7 := Lib.hid m7
  have Xm8 := Lib.hid m8
  have Xm9 := Lib.hid m9
  have Xm10 := Lib.hid m10
  have Xm11 := Lib.hid m11
  have Xm12 := Lib.hid m12
  have Xm13 := Lib.hid m13
  have Xm14 := Lib.hid m14
  have Xm15 := Lib.hid m15
  have Xm16 := Lib.hid m16
  have Xm17 := Lib.hid m17
  have Xm18 := Lib.hid m18
  have Xm19 := Lib.hid m19
  have Xm20 := Lib.hid m20
  have Xm21 := Lib.hid m21
  have Xm22 := Lib.hid m22
  have Xm23 := Lib.hid m23
  have Xm24 := Lib.hid m24
  have Xm25 := Lib.hid m25
  have Xm26 := Lib.hid m26
  have Xm27 := Lib.hid m27
  have Xm28 := Lib.hid m28
  have Xm29 := Lib.hid m29
  have Xm30 := Lib.hid m30
  have Xm31 := Lib.hid m31
  have Xm32 := Lib.hid m32
  have Xm33 := Lib.hid m33
  have Xm34 := Lib.hid m34
  have Xm35 := Lib.hid m35
  have Xm36 := Lib.hid m36
  have Xhn1 := Lib.hid hn1; have Xhn2 := Lib.hid hn2; have Xhlt := Lib.hid hlt; have XhE1 := Lib.hid hE1; have XhE2 := Lib.hid hE2; have XhE := Lib.hid hE; have Xl0 := Lib.hid hl0
  clear m0 m1 m2 m3 m4 m5 m6 m7 m8 m9 m10 m11 m12 m13 m14 m15 m16 m17 m18 m19 m20 m21 m22 m23 m24 m25 m26 m27 m28 m29 m30 m31 m32 m33 m34 m35 m36 hn1 hn2 hlt hE1 hE2 hE hlen hl0
  refine wp_region_any (by kernel_rfl) ?_
  refine wpAny_inv (by kernel_rfl) (fun listed a' w' => Slots (E ()) l0 listed a' ∧ Below w8.heap.size w8 w') ?step ?fin _ _ _ _ ?hs ?hf ?init
  case hs => simp
  case hf => simp
  case init =>
    refine ⟨?_, (Below.refl _ _).drew⟩
    · exact Slots.start (exp := E ()) (l0 := l0) (m := 37) (fun t ht => by
        have h1 : t.1 ∈ (E ()).map fun t => t.1 := List.mem_map.2 ⟨t, ht, rfl⟩
        rw [XhE1.out] at h1
        simp only [List.mem_cons, List.mem_nil_iff, or_false] at h1
        omega)
  case fin =>
    intro listed a' w' hls hall ⟨hS, hB⟩
    have hf := hS.frame (fun t ht => hall _ (by
      have h1 : t.1 ∈ (E ()).map fun t => t.1 := List.mem_map.2 ⟨t, ht, rfl⟩
      rw [XhE1.out] at h1
      simp only [List.mem_cons, List.mem_nil_iff, or_false] at h1
      show t.1 < 37
      omega)) Xhn2.out Xhlt.out
    rw [XhE.out, Xl0.out] at hf
    simp only [filled, List.foldl_cons, List.foldl_nil, List.set_cons_zero, List.set_cons_succ] at hf
    have HB' := Lib.hid hB
    rw [hf]
    clear hf hS hB
    have hsB : w8.heap.size ≤ w'.heap.size := HB'.out.size
    have HCl9 := Lib.hid (HCl.out.step HB'.out (by omega))
    obtain ⟨ks, hks⟩ : ∃ ks, ks = x.kids := ⟨_, rfl⟩
    rw [← hks] at HCl9
    have hkc : ks.length ≤ ckc ∧ ckc ≤ 9223372036854775807 := by
      rw [hks]
      constructor <;> assumption
    have Hks := Lib.hid hks
    clear hks HCl HBy HBz HBc HNc HNx HNy HNz HLo
    go_wp2_with fail
    go_loopw [15] (fun i wr => ∃ k : Nat, k ≤ ks.length ∧ i = .int .i64 k ∧ Hid (Cl w6.heap.size w6 w7.heap.size (.slice Akc ks.length ckc) ks wr)) (fun i _ => ks.length - (intOf i).toNat)
    case atStart => exact ⟨0, Nat.zero_le _, rfl, HCl9⟩
    case round =>
      obtain ⟨k, hk, rfl, HC⟩ := hrel
      obtain ⟨wo, hwo⟩ : ∃ y, y = wr := ⟨_, rfl⟩
      subst hwo
      have c11 := HC.out.cell
      by_cases hlt : k < ks.length
      · have hltI : (k : Int) < (ks.length : Int) := by omega
        obtain ⟨g, cap, A, c, hv, hc1, hc2, ⟨un, k1⟩, kf, k6, hn1, hn2, hdk, hgc, hgt, hgB⟩ := HC.out.at_ k hlt
        have hv' := hv
        injection hv' with e1 e2 e3
        subst e1 e3
        obtain ⟨n, hn⟩ : ∃ n, n = ks[k].own.data.length := ⟨_, rfl⟩
        rw [← hn] at k6 hn1 hdk
        have HIn : Hid (Inn w6.heap.size w6 w7.heap.size (.slice (some ⟨g, 0, none⟩) ks.length ckc) ks g k A n c (wo.setCell ⟨g, k * 12 + 1, none⟩ (.string ⟨#[99, 104, 97, 110, 103, 101, 100]⟩))) := Lib.hid (HC.out.inn k hlt rfl k6 hdk hgt _)
        clear hv hdk hgt k6 hn
        go_wp2_with fail
        go_loopw [16] (fun t wx => ∃ j : Nat, j ≤ n ∧ t = .int .i64 j ∧ Hid (Inn w6.heap.size w6 w7.heap.size (.slice (some ⟨g, 0, none⟩) ks.length ckc) ks g k A n c wx)) (fun t _ => n - (intOf t).toNat)
        case atStart => exact ⟨0, Nat.zero_le _, rfl, HIn⟩
        case round =>
          obtain ⟨j, hj, rfl, HIj⟩ := hrel
          obtain ⟨wj, hwj⟩ : ∃ y, y = wr := ⟨_, rfl⟩
          subst hwj
          have j11 := HIj.out.cl.cell
          have j6 := HIj.out.cell
          by_cases hjn : j < n
          · have hjI : (j : Int) < (n : Int) := by omega
            obtain ⟨gd, cd, b, hvd, hd1, hd2, hgdB, kb, kfz, hgdt⟩ := HIj.out.data.at_ j hjn
            injection hvd with e4 e5 e6
            subst e4 e6
            obtain ⟨q, hq⟩ := u8_next b
            have HCell : Hid (∀ w', Below wj.heap.size wj w' → w'.cell? ⟨w7.heap.size, 11, none⟩ = some (.slice (some ⟨g, 0, none⟩) ks.length ckc) ∧ w'.cell? ⟨g, k * 12 + 6, none⟩ = some (.slice (some ⟨gd, 0, none⟩) n c) ∧ w'.cell? ⟨gd, j, none⟩ = some (.int .u8 b.toNat) ∧ w'.frozen? ⟨gd, j, none⟩ = false) := Lib.hid (fun w' hb => by
              have h := HIj.out.step hb
              obtain ⟨g2, cd2, b2, hv2, _, _, _, _, f2, _⟩ := h.data.at_ j hjn
              injection hv2 with e7 e8 e9
              injection e7 with e7
              injection e7 with e7 _ _
              subst e7
              exact ⟨h.cl.cell, h.cell, (hb.cell (World.block_lt_of_cell? _ _ kb)).trans kb, f2⟩)
            have Hgt := Lib.hid hgdt
            clear hgdt kb kfz c11 k1 kf HIn HCl9
            go_upto_region 14 with fail
            clear j11 j6
            refine wp_named _ ?_
            intro l0 hl0
            obtain ⟨E, hE⟩ : ∃ E : Unit → List (Nat × Nat × Value), E = fun _ => [(0, 94, .pointer (some ⟨w7.heap.size, 11, none⟩)), (1, 95, .slice (some ⟨g, 0, none⟩) ks.length ckc), (2, 96, .int .i64 k), (3, 97, .pointer (some ⟨g, k * 12, none⟩)), (4, 98, .pointer (some ⟨g, k * 12 + 6, none⟩)), (5, 99, .slice (some ⟨gd, 0, none⟩) n c), (6, 100, .int .i64 j), (7, 101, .pointer (some ⟨w7.heap.size, 11, none⟩)), (8, 102, .slice (some ⟨g, 0, none⟩) ks.length ckc), (9, 103, .int .i64 k), (10, 104, .pointer (some ⟨g, k * 12, none⟩)), (11, 105, .pointer (some ⟨g, k * 12 + 6, none⟩)), (12, 106, .slice (some ⟨gd, 0, none⟩) n c), (13, 107, .int .i64 j), (14, 108, .pointer (some ⟨gd, j, none⟩)), (15, 109, .int .u8 b.toNat), (16, 110, .int .u8 q.toNat), (17, 111, .pointer (some ⟨gd, j, none⟩))] := ⟨_, rfl⟩
            have hlen : l0.length = 119 := by rw [hl0]; rfl
            have hE1 : (E ()).map (fun t => t.1) = [0, 1, 2, 3, 4, 5, 6, 7, 8, 9, 10, 11, 12, 13, 14, 15, 16, 17] := by rw [hE]; rfl
            have hE2 : (E ()).map (fun t => t.2.1) = [94, 95, 96, 97, 98, 99, 100, 101, 102, 103, 104, 105, 106, 107, 108, 109, 110, 111] := by rw [hE]; rfl
            have m0 : (0, 94, (.pointer (some ⟨w7.heap.size, 11, none⟩) : Value)) ∈ E () := by rw [hE]; simp
            have m1 : (1, 95, (.slice (some ⟨g, 0, none⟩) ks.length ckc : Value)) ∈ E () := by rw [hE]; simp
            have m2 : (2, 96, (.int .i64 k : Value)) ∈ E () := by rw [hE]; simp
            have m3 : (3, 97, (.pointer (some ⟨g, k * 12, none⟩) : Value)) ∈ E () := by rw [hE]; simp
            have m4 : (4, 98, (.pointer (some ⟨g, k * 12 + 6, none⟩) : Value)) ∈ E () := by rw [hE]; simp
            have m5 : (5, 99, (.slice (some ⟨gd, 0, none⟩) n c : Value)) ∈ E () := by rw [hE]; simp
            have m6 : (6, 100, (.int .i64 j : Value)) ∈ E () := by rw [hE]; simp
            have m7 : (7, 101, (.pointer (some ⟨w7.heap.size, 11, none⟩) : Value)) ∈ E () := by rw [hE]; simp
            have m8 : (8, 102, (.slice (some ⟨g, 0, none⟩) ks.length ckc : Value)) ∈ E () := by rw [hE]; simp
            have m9 : (9, 103, (.int .i64 k : Value)) ∈ E () := by rw [hE]; simp
            have m10 : (10, 104, (.pointer (some ⟨g, k * 12, none⟩) : Value)) ∈ E () := by rw [hE]; simp
            have m11 : (11, 105, (.pointer (some ⟨g, k * 12 + 6, none⟩) : Value)) ∈ E () := by rw [hE]; simp
            have m12 : (12, 106, (.slice (some ⟨gd, 0, none⟩) n c : Value)) ∈ E () := by rw [hE]; simp
            have m13 : (13, 107, (.int .i64 j : Value)) ∈ E () := by rw [hE]; simp
            have m14 : (14, 108, (.pointer (some ⟨gd, j, none⟩) : Value)) ∈ E () := by rw [hE]; simp
            have m15 : (15, 109, (.int .u8 b.toNat : Value)) ∈ E () := by rw [hE]; simp
            have m16 : (16, 110, (.int .u8 q.toNat : Value)) ∈ E () := by rw [hE]; simp
            have m17 : (17, 111, (.pointer (some ⟨gd, j, none⟩) : Value)) ∈ E () := by rw [hE]; simp
            have hn1 : ((E ()).map fun t => t.1).Nodup := by rw [hE1]; decide
            have hn2 : ((E ()).map fun t => t.2.1).Nodup := by rw [hE2]; decide
            have hlt : ∀ t ∈ E (), t.2.1 < l0.length := fun t ht => by
              have h1 : t.2.1 ∈ (E ()).map fun t => t.2.1 := List.mem_map.2 ⟨t, ht, rfl⟩
              rw [hE2] at h1
              rw [hlen]
              simp only [List.mem_cons, List.mem_nil_iff, or_false] at h1
              omega
            have Xm0 := Lib.hid m0
            have Xm1 := Lib.hid m1
            have Xm2 := Lib.hid m2
            have Xm3 := Lib.hid m3
            have Xm4 := Lib.hid m4
            have Xm5 := Lib.hid m5
            have Xm6 := Lib.hid m6
            have Xm7 := Lib.hid m7
            have Xm8 := Lib.hid m8
            have Xm9 := Lib.hid m9
            have Xm10 := Lib.hid m10
            have Xm11 := Lib.hid m11
            have Xm12 := Lib.hid m12
            have Xm13 := Lib.hid m13
            have Xm14 := Lib.hid m14
            have Xm15 := Lib.hid m15
            have Xm16 := Lib.hid m16
            have Xm17 := Lib.hid m17
            have Xhn1 := Lib.hid hn1; have Xhn2 := Lib.hid hn2; have Xhlt := Lib.hid hlt; have XhE1 := Lib.hid hE1; have XhE2 := Lib.hid hE2; have XhE := Lib.hid hE; have Xl0 := Lib.hid hl0
            clear m0 m1 m2 m3 m4 m5 m6 m7 m8 m9 m10 m11 m12 m13 m14 m15 m16 m17 hn1 hn2 hlt hE1 hE2 hE hlen hl0
            refine wp_region_any (by kernel_rfl) ?_
            refine wpAny_inv (by kernel_rfl) (fun listed a' w' => Slots (E ()) l0 listed a' ∧ (listed.getD 18 true = true → (∀ j, j < 18 → listed.getD j true = true) ∧ Inn w6.heap.size w6 w7.heap.size (.slice (some ⟨g, 0, none⟩) ks.length ckc) ks g k (some ⟨gd, 0, none⟩) n c w') ∧ (listed.getD 18 true = false → Below wj.heap.size wj w')) ?step14 ?fin14 _ _ _ _ ?hs14 ?hf14 ?init14
            case hs14 => simp
            case hf14 => simp
            case init14 =>
              refine ⟨?_, fun h => absurd (show (Array.replicate 19 false).getD 18 true = true from h) (by decide), fun _ => (Below.refl _ _).drew⟩
              · exact Slots.start (exp := E ()) (l0 := l0) (m := 19) (fun t ht => by
                  have h1 : t.1 ∈ (E ()).map fun t => t.1 := List.mem_map.2 ⟨t, ht, rfl⟩
                  rw [XhE1.out] at h1
                  simp only [List.mem_cons, List.mem_nil_iff, or_false] at h1
                  omega)
            case fin14 =>
              intro listed a' w' hls hall ⟨hS, hL, _⟩
              obtain ⟨_, H7⟩ := hL (hall 18 (by show 18 < 19; decide))
              have hf := hS.frame (fun t ht => hall _ (by
                have h1 : t.1 ∈ (E ()).map fun t => t.1 := List.mem_map.2 ⟨t, ht, rfl⟩
                rw [XhE1.out] at h1
                simp only [List.mem_cons, List.mem_nil_iff, or_false] at h1
                show t.1 < 19
                omega)) Xhn2.out Xhlt.out
              rw [XhE.out, Xl0.out] at hf
              simp only [filled, List.foldl_cons, List.foldl_nil, List.set_cons_zero, List.set_cons_succ] at hf
              have HS7 := Lib.hid H7
              rw [hf]
              clear hf hS hL H7
              go_wp2_with fail
              go_roundw
              case rel => exact ⟨j + 1, by omega, by go_num, HS7⟩
              case measure => simp [intOf]; omega
            case step14 =>
              intro listed a' w' i hls hI hmem
              have hr := ready_of hls hmem
              have hi : i < 19 := hr.1
              have hcase : i = 0 ∨ i = 1 ∨ i = 2 ∨ i = 3 ∨ i = 4 ∨ i = 5 ∨ i = 6 ∨ i = 7 ∨ i = 8 ∨ i = 9 ∨ i = 10 ∨ i = 11 ∨ i = 12 ∨ i = 13 ∨ i = 14 ∨ i = 15 ∨ i = 16 ∨ i = 17 ∨ i = 18 := by omega
              rcases hcase with rfl | rfl | rfl | rfl | rfl | rfl | rfl | rfl | rfl | rfl | rfl | rfl | rfl | rfl | rfl | rfl | rfl | rfl | rfl
              · obtain ⟨hS, hL, hNo⟩ := hI
                have hl : listed.getD 18 true = false := by
                  cases h : listed.getD 18 true with
                  | false => rfl
                  | true => exact absurd ((hL h).1 0 (by decide)) (by rw [hr.2.1]; decide)
                have hB := hNo hl
                have e14 := hS.at0 14 (.pointer (some ⟨w7.heap.size, 0, none⟩)) (by rw [XhE2.out]; decide) (by rw [Xl0.out]; rfl)
                refine wpOp_plain' rfl rfl fun K' hK => ?_
                go_simp
                exact hK _ _ ⟨hS.put' (Xhn1.out ) (Xhn2.out ) (Xhlt.out ) (Xm0.out ), fun h => absurd h (by rw [set_get (by decide), hl]; decide), fun _ => hB⟩
              · obtain ⟨hS, hL, hNo⟩ := hI
                have hl : listed.getD 18 true = false := by
                  cases h : listed.getD 18 true with
                  | false => rfl
                  | true => exact absurd ((hL h).1 1 (by decide)) (by rw [hr.2.1]; decide)
                have hB := hNo hl
                obtain ⟨k11, k6, kb, kfz⟩ := HCell.out w' hB
                have d0 := hr.2.2 _ rfl ⟨0, .data⟩ (by simp) rfl
                have e94 := hS.at_ (Xm0.out ) d0
                refine wpOp_plain' rfl rfl fun K' hK => ?_
                go_simp
                exact hK _ _ ⟨hS.put' (Xhn1.out ) (Xhn2.out ) (Xhlt.out ) (Xm1.out ), fun h => absurd h (by rw [set_get (by decide), hl]; decide), fun _ => hB⟩
              · obtain ⟨hS, hL, hNo⟩ := hI
                have hl : listed.getD 18 true = false := by
                  cases h : listed.getD 18 true with
                  | false => rfl
                  | true => exact absurd ((hL h).1 2 (by decide)) (by rw [hr.2.1]; decide)
                have hB := hNo hl
                have e15 := hS.at0 15 (.int .i64 k) (by rw [XhE2.out]; decide) (by rw [Xl0.out]; rfl)
                refine wpOp_plain' rfl rfl fun K' hK => ?_
                go_simp
                exact hK _ _ ⟨hS.put' (Xhn1.out ) (Xhn2.out ) (Xhlt.out ) (Xm2.out ), fun h => absurd h (by rw [set_get (by decide), hl]; decide), fun _ => hB⟩
              · obtain ⟨hS, hL, hNo⟩ := hI
                have hl : listed.getD 18 true = false := by
                  cases h : listed.getD 18 true with
                  | false => rfl
                  | true => exact absurd ((hL h).1 3 (by decide)) (by rw [hr.2.1]; decide)
                have hB := hNo hl
                have d1 := hr.2.2 _ rfl ⟨1, .data⟩ (by simp) rfl
                have e95 := hS.at_ (Xm1.out ) d1
                have d2 := hr.2.2 _ rfl ⟨2, .data⟩ (by simp) rfl
                have e96 := hS.at_ (Xm2.out ) d2
                refine wpOp_plain' rfl rfl fun K' hK => ?_
                go_simp
                exact hK _ _ ⟨hS.put' (Xhn1.out ) (Xhn2.out ) (Xhlt.out ) (Xm3.out ), fun h => absurd h (by rw [set_get (by decide), hl]; decide), fun _ => hB⟩
              · obtain ⟨hS, hL, hNo⟩ := hI
                have hl : listed.getD 18 true = false := by
                  cases h : listed.getD 18 true with
                  | false => rfl
                  | true => exact absurd ((hL h).1 4 (by decide)) (by rw [hr.2.1]; decide)
                have hB := hNo hl
                have d3 := hr.2.2 _ rfl ⟨3, .data⟩ (by simp) rfl
                have e97 := hS.at_ (Xm3.out ) d3
                refine wpOp_plain' rfl rfl fun K' hK => ?_
                go_simp
                exact hK _ _ ⟨hS.put' (Xhn1.out ) (Xhn2.out ) (Xhlt.out ) (Xm4.out ), fun h => absurd h (by rw [set_get (by decide), hl]; decide), fun _ => hB⟩
              · obtain ⟨hS, hL, hNo⟩ := hI
                have hl : listed.getD 18 true = false := by
                  cases h : listed.getD 18 true with
                  | false => rfl
                  | true => exact absurd ((hL h).1 5 (by decide)) (by rw [hr.2.1]; decide)
                have hB := hNo hl
                obtain ⟨k11, k6, kb, kfz⟩ := HCell.out w' hB
                have d4 := hr.2.2 _ rfl ⟨4, .data⟩ (by simp) rfl
                have e98 := hS.at_ (Xm4.out ) d4
                refine wpOp_plain' rfl rfl fun K' hK => ?_
                go_simp
                exact hK _ _ ⟨hS.put' (Xhn1.out ) (Xhn2.out ) (Xhlt.out ) (Xm5.out ), fun h => absurd h (by rw [set_get (by decide), hl]; decide), fun _ => hB⟩
              · obtain ⟨hS, hL, hNo⟩ := hI
                have hl : listed.getD 18 true = false := by
                  cases h : listed.getD 18 true with
                  | false => rfl
                  | true => exact absurd ((hL h).1 6 (by decide)) (by rw [hr.2.1]; decide)
                have hB := hNo hl
                have e16 := hS.at0 16 (.int .i64 j) (by rw [XhE2.out]; decide) (by rw [Xl0.out]; rfl)
                refine wpOp_plain' rfl rfl fun K' hK => ?_
                go_simp
                exact hK _ _ ⟨hS.put' (Xhn1.out ) (Xhn2.out ) (Xhlt.out ) (Xm6.out ), fun h => absurd h (by rw [set_get (by decide), hl]; decide), fun _ => hB⟩
              · obtain ⟨hS, hL, hNo⟩ := hI
                have hl : listed.getD 18 true = false := by
                  cases h : listed.getD 18 true with
                  | false => rfl
                  | true => exact absurd ((hL h).1 7 (by decide)) (by rw [hr.2.1]; decide)
                have hB := hNo hl
                have e14 := hS.at0 14 (.pointer (some ⟨w7.heap.size, 0, none⟩)) (by rw [XhE2.out]; decide) (by rw [Xl0.out]; rfl)
                refine wpOp_plain' rfl rfl fun K' hK => ?_
                go_simp
                exact hK _ _ ⟨hS.put' (Xhn1.out ) (Xhn2.out ) (Xhlt.out ) (Xm7.out ), fun h => absurd h (by rw [set_get (by decide), hl]; decide), fun _ => hB⟩
              · obtain ⟨hS, hL, hNo⟩ := hI
                have hl : listed.getD 18 true = false := by
                  cases h : listed.getD 18 true with
                  | false => rfl
                  | true => exact absurd ((hL h).1 8 (by decide)) (by rw [hr.2.1]; decide)
                have hB := hNo hl
                obtain ⟨k11, k6, kb, kfz⟩ := HCell.out w' hB
                have d7 := hr.2.2 _ rfl ⟨7, .data⟩ (by simp) rfl
                have e101 := hS.at_ (Xm7.out ) d7
                refine wpOp_plain' rfl rfl fun K' hK => ?_
                go_simp
                exact hK _ _ ⟨hS.put' (Xhn1.out ) (Xhn2.out ) (Xhlt.out ) (Xm8.out ), fun h => absurd h (by rw [set_get (by decide), hl]; decide), fun _ => hB⟩
              · obtain ⟨hS, hL, hNo⟩ := hI
                have hl : listed.getD 18 true = false := by
                  cases h : listed.getD 18 true with
                  | false => rfl
                  | true => exact absurd ((hL h).1 9 (by decide)) (by rw [hr.2.1]; decide)
                have hB := hNo hl
                have e15 := hS.at0 15 (.int .i64 k) (by rw [XhE2.out]; decide) (by rw [Xl0.out]; rfl)
                refine wpOp_plain' rfl rfl fun K' hK => ?_
                go_simp
                exact hK _ _ ⟨hS.put' (Xhn1.out ) (Xhn2.out ) (Xhlt.out ) (Xm9.out ), fun h => absurd h (by rw [set_get (by decide), hl]; decide), fun _ => hB⟩
              · obtain ⟨hS, hL, hNo⟩ := hI
                have hl : listed.getD 18 true = false := by
                  cases h : listed.getD 18 true with
                  | false => rfl
                  | true => exact absurd ((hL h).1 10 (by decide)) (by rw [hr.2.1]; decide)
                have hB := hNo hl
                have d8 := hr.2.2 _ rfl ⟨8, .data⟩ (by simp) rfl
                have e102 := hS.at_ (Xm8.out ) d8
                have d9 := hr.2.2 _ rfl ⟨9, .data⟩ (by simp) rfl
                have e103 := hS.at_ (Xm9.out ) d9
                refine wpOp_plain' rfl rfl fun K' hK => ?_
                go_simp
                exact hK _ _ ⟨hS.put' (Xhn1.out ) (Xhn2.out ) (Xhlt.out ) (Xm10.out ), fun h => absurd h (by rw [set_get (by decide), hl]; decide), fun _ => hB⟩
              · obtain ⟨hS, hL, hNo⟩ := hI
                have hl : listed.getD 18 true = false := by
                  cases h : listed.getD 18 true with
                  | false => rfl
                  | true => exact absurd ((hL h).1 11 (by decide)) (by rw [hr.2.1]; decide)
                have hB := hNo hl
                have d10 := hr.2.2 _ rfl ⟨10, .data⟩ (by simp) rfl
                have e104 := hS.at_ (Xm10.out ) d10
                refine wpOp_plain' rfl rfl fun K' hK => ?_
                go_simp
                exact hK _ _ ⟨hS.put' (Xhn1.out ) (Xhn2.out ) (Xhlt.out ) (Xm11.out ), fun h => absurd h (by rw [set_get (by decide), hl]; decide), fun _ => hB⟩
              · obtain ⟨hS, hL, hNo⟩ := hI
                have hl : listed.getD 18 true = false := by
                  cases h : listed.getD 18 true with
                  | false => rfl
                  | true => exact absurd ((hL h).1 12 (by decide)) (by rw [hr.2.1]; decide)
                have hB := hNo hl
                obtain ⟨k11, k6, kb, kfz⟩ := HCell.out w' hB
                have d11 := hr.2.2 _ rfl ⟨11, .data⟩ (by simp) rfl
                have e105 := hS.at_ (Xm11.out ) d11
                refine wpOp_plain' rfl rfl fun K' hK => ?_
                go_simp
                exact hK _ _ ⟨hS.put' (Xhn1.out ) (Xhn2.out ) (Xhlt.out ) (Xm12.out ), fun h => absurd h (by rw [set_get (by decide), hl]; decide), fun _ => hB⟩
              · obtain ⟨hS, hL, hNo⟩ := hI
                have hl : listed.getD 18 true = false := by
                  cases h : listed.getD 18 true with
                  | false => rfl
                  | true => exact absurd ((hL h).1 13 (by decide)) (by rw [hr.2.1]; decide)
                have hB := hNo hl
                have e16 := hS.at0 16 (.int .i64 j) (by rw [XhE2.out]; decide) (by rw [Xl0.out]; rfl)
                refine wpOp_plain' rfl rfl fun K' hK => ?_
                go_simp
                exact hK _ _ ⟨hS.put' (Xhn1.out ) (Xhn2.out ) (Xhlt.out ) (Xm13.out ), fun h => absurd h (by rw [set_get (by decide), hl]; decide), fun _ => hB⟩
              · obtain ⟨hS, hL, hNo⟩ := hI
                have hl : listed.getD 18 true = false := by
                  cases h : listed.getD 18 true with
                  | false => rfl
                  | true => exact absurd ((hL h).1 14 (by decide)) (by rw [hr.2.1]; decide)
                have hB := hNo hl
                have d12 := hr.2.2 _ rfl ⟨12, .data⟩ (by simp) rfl
                have e106 := hS.at_ (Xm12.out ) d12
                have d13 := hr.2.2 _ rfl ⟨13, .data⟩ (by simp) rfl
                have e107 := hS.at_ (Xm13.out ) d13
                refine wpOp_plain' rfl rfl fun K' hK => ?_
                go_simp
                exact hK _ _ ⟨hS.put' (Xhn1.out ) (Xhn2.out ) (Xhlt.out ) (Xm14.out ), fun h => absurd h (by rw [set_get (by decide), hl]; decide), fun _ => hB⟩
              · obtain ⟨hS, hL, hNo⟩ := hI
                have hl : listed.getD 18 true = false := by
                  cases h : listed.getD 18 true with
                  | false => rfl
                  | true => exact absurd ((hL h).1 15 (by decide)) (by rw [hr.2.1]; decide)
                have hB := hNo hl
                obtain ⟨k11, k6, kb, kfz⟩ := HCell.out w' hB
                have d14 := hr.2.2 _ rfl ⟨14, .data⟩ (by simp) rfl
                have e108 := hS.at_ (Xm14.out ) d14
                refine wpOp_plain' rfl rfl fun K' hK => ?_
                go_simp
                exact hK _ _ ⟨hS.put' (Xhn1.out ) (Xhn2.out ) (Xhlt.out ) (Xm15.out ), fun h => absurd h (by rw [set_get (by decide), hl]; decide), fun _ => hB⟩
              · obtain ⟨hS, hL, hNo⟩ := hI
                have hl : listed.getD 18 true = false := by
                  cases h : listed.getD 18 true with
                  | false => rfl
                  | true => exact absurd ((hL h).1 16 (by decide)) (by rw [hr.2.1]; decide)
                have hB := hNo hl
                have d15 := hr.2.2 _ rfl ⟨15, .data⟩ (by simp) rfl
                have e109 := hS.at_ (Xm15.out ) d15
                refine wpOp_plain' rfl rfl fun K' hK => ?_
                go_simp
                exact hK _ _ ⟨hS.put' (Xhn1.out ) (Xhn2.out ) (Xhlt.out ) (Xm16.out ), fun h => absurd h (by rw [set_get (by decide), hl]; decide), fun _ => hB⟩
              · obtain ⟨hS, hL, hNo⟩ := hI
                have hl : listed.getD 18 true = false := by
                  cases h : listed.getD 18 true with
                  | false => rfl
                  | true => exact absurd ((hL h).1 17 (by decide)) (by rw [hr.2.1]; decide)
                have hB := hNo hl
                have d5 := hr.2.2 _ rfl ⟨5, .data⟩ (by simp) rfl
                have e99 := hS.at_ (Xm5.out ) d5
                have d6 := hr.2.2 _ rfl ⟨6, .data⟩ (by simp) rfl
                have e100 := hS.at_ (Xm6.out ) d6
                refine wpOp_plain' rfl rfl fun K' hK => ?_
                go_simp
                exact hK _ _ ⟨hS.put' (Xhn1.out ) (Xhn2.out ) (Xhlt.out ) (Xm17.out ), fun h => absurd h (by rw [set_get (by decide), hl]; decide), fun _ => hB⟩
              · obtain ⟨hS, hL, hNo⟩ := hI
                have hl : listed.getD 18 true = false := hr.2.1
                have hB := hNo hl
                have d17 := hr.2.2 _ rfl ⟨17, .data⟩ (by simp) rfl
                have e111 := hS.at_ (Xm17.out ) d17
                have d16 := hr.2.2 _ rfl ⟨16, .data⟩ (by simp) rfl
                have e110 := hS.at_ (Xm16.out ) d16
                refine wpOp_plain' rfl rfl fun K' hK => ?_
                obtain ⟨k11, k6, kb, kfz⟩ := HCell.out w' hB
                go_simp
                skip
                have hall2 : ∀ j, j < 18 → (listed.setIfInBounds 18 true).getD j true = true := fun j hj => by
                  rw [set_get (by omega)]
                  have hc : j = 0 ∨ j = 1 ∨ j = 2 ∨ j = 3 ∨ j = 4 ∨ j = 5 ∨ j = 6 ∨ j = 7 ∨ j = 8 ∨ j = 9 ∨ j = 10 ∨ j = 11 ∨ j = 12 ∨ j = 13 ∨ j = 14 ∨ j = 15 ∨ j = 16 ∨ j = 17 := by omega
                  rcases hc with rfl | rfl | rfl | rfl | rfl | rfl | rfl | rfl | rfl | rfl | rfl | rfl | rfl | rfl | rfl | rfl | rfl | rfl
                  · exact hr.2.2 _ rfl ⟨0, .phase⟩ (by simp) rfl
                  · exact hr.2.2 _ rfl ⟨1, .phase⟩ (by simp) rfl
                  · exact hr.2.2 _ rfl ⟨2, .phase⟩ (by simp) rfl
                  · exact hr.2.2 _ rfl ⟨3, .phase⟩ (by simp) rfl
                  · exact hr.2.2 _ rfl ⟨4, .phase⟩ (by simp) rfl
                  · exact hr.2.2 _ rfl ⟨5, .phase⟩ (by simp) rfl
                  · exact hr.2.2 _ rfl ⟨6, .phase⟩ (by simp) rfl
                  · exact hr.2.2 _ rfl ⟨7, .phase⟩ (by simp) rfl
                  · exact hr.2.2 _ rfl ⟨8, .phase⟩ (by simp) rfl
                  · exact hr.2.2 _ rfl ⟨9, .phase⟩ (by simp) rfl
                  · exact hr.2.2 _ rfl ⟨10, .phase⟩ (by simp) rfl
                  · exact hr.2.2 _ rfl ⟨11, .phase⟩ (by simp) rfl
                  · exact hr.2.2 _ rfl ⟨12, .phase⟩ (by simp) rfl
                  · exact hr.2.2 _ rfl ⟨13, .phase⟩ (by simp) rfl
                  · exact hr.2.2 _ rfl ⟨14, .phase⟩ (by simp) rfl
                  · exact hr.2.2 _ rfl ⟨15, .phase⟩ (by simp) rfl
                  · exact hr.2.2 _ rfl ⟨16, .data⟩ (by simp) rfl
                  · exact hr.2.2 _ rfl ⟨17, .data⟩ (by simp) rfl
                exact hK _ _ ⟨hS.skip' (v := undef) (XhE1.out ) (by decide), fun _ => ⟨hall2, (HIj.out.step hB).byte hgdB (by obtain ⟨c0, f0, h0⟩ := Hgt.out; exact ⟨c0, f0, (hB.block _ (Array.getElem?_eq_some_iff.1 h0).1).trans h0⟩) q⟩, fun h => absurd (show (listed.setIfInBounds 18 true).getD 18 true = false from h) (by rw [set_self (by rw [hls]; show 18 < 19; decide)]; decide)⟩
          · go_wp2_with fail
            go_roundw
            case rel => exact ⟨k + 1, by omega, by go_num, Lib.hid HIj.out.cl⟩
            case measure => simp [intOf]; omega
      · have hkn : ¬ (k : Int) < (ks.length : Int) := by omega
        have hWs : W.heap.size ≤ w6.heap.size := by omega
        have HWo : Hid (Below W.heap.size W wo) := Lib.hid (HE6.out.below.trans (HC.out.below.mono hWs))
        have hWo := HC.out.below.size
        have HXo : Hid (wo.heap[w1.heap.size]? = some (boxO x.own Adx cdx Aax cax Akx x.kids.length ckx)) := Lib.hid ((HC.out.below.block _ (by omega)).trans HBx6.out)
        have HNo : Hid ((nodeR 13).R L5 wo x (nodeV x.own (.slice Adx x.own.data.length cdx) (.slice Aax x.own.attrs.length cax) (.slice Akx x.kids.length ckx))) := Lib.hid ((nodeR 13).mono (sub_same HC.out.below) HNx6.out)
        have HSo : Hid (SliceR gR L5 wo gs v) := Lib.hid ((HS.out.mono (Ext.sub (Lw_ok W) HE6.out)).mono (sub_same HC.out.below))
        have HLo : Hid (∀ w', Below wo.heap.size wo w' → LOk L5 w') := Lib.hid (fun w' hb b i h => Nat.lt_of_lt_of_le (HE6.out.ok b i h) (Nat.le_trans hWo hb.size))
        clear HCl9 hk hkn
        have hxo : w1.heap.size < wo.heap.size := by omega
        go_upto_region 15 with fail
        refine wp_named _ ?_
        intro l0 hl0
        obtain ⟨E, hE⟩ : ∃ E : Option Addr → Nat → Option Addr → Nat → Option Addr → Nat → Live → List (Nat × Nat × Value), E = fun Adm cdm Aam cam Akm ckm Lm => [(0, 112, .agg #[.int .i64 x.own.kind, .string x.own.name, .int .i64 x.own.mode, .int .i64 x.own.uid, .int .i64 x.own.gid, .int .i64 x.own.mtime, .slice Adx x.own.data.length cdx, .string x.own.target, .int .i64 x.own.major, .int .i64 x.own.minor, .slice Aax x.own.attrs.length cax, .slice Akx x.kids.length ckx]), (1, 113, v), (2, 114, .agg #[.int .i64 x.own.kind, .string x.own.name, .int .i64 x.own.mode, .int .i64 x.own.uid, .int .i64 x.own.gid, .int .i64 x.own.mtime, .slice Adm x.own.data.length cdm, .string x.own.target, .int .i64 x.own.major, .int .i64 x.own.minor, .slice Aam x.own.attrs.length cam, .slice Akm x.kids.length ckm]), (3, 115, .bool true), (4, 116, .bool true), (5, 117, .bool true), (6, 118, .bool true), (7, 10, .bool true)] := ⟨_, rfl⟩
        have hlen : l0.length = 119 := by rw [hl0]; rfl
        have hE1 : ∀ (Adm : Option Addr) (cdm : Nat) (Aam : Option Addr) (cam : Nat) (Akm : Option Addr) (ckm : Nat) (Lm : Live), (E Adm cdm Aam cam Akm ckm Lm).map (fun t => t.1) = [0, 1, 2, 3, 4, 5, 6, 7] := fun Adm cdm Aam cam Akm ckm Lm => by rw [hE]; rfl
        have hE2 : ∀ (Adm : Option Addr) (cdm : Nat) (Aam : Option Addr) (cam : Nat) (Akm : Option Addr) (ckm : Nat) (Lm : Live), (E Adm cdm Aam cam Akm ckm Lm).map (fun t => t.2.1) = [112, 113, 114, 115, 116, 117, 118, 10] := fun Adm cdm Aam cam Akm ckm Lm => by rw [hE]; rfl
        have m0 : ∀ (Adm : Option Addr) (cdm : Nat) (Aam : Option Addr) (cam : Nat) (Akm : Option Addr) (ckm : Nat) (Lm : Live), (0, 112, (.agg #[.int .i64 x.own.kind, .string x.own.name, .int .i64 x.own.mode, .int .i64 x.own.uid, .int .i64 x.own.gid, .int .i64 x.own.mtime, .slice Adx x.own.data.length cdx, .string x.own.target, .int .i64 x.own.major, .int .i64 x.own.minor, .slice Aax x.own.attrs.length cax, .slice Akx x.kids.length ckx] : Value)) ∈ E Adm cdm Aam cam Akm ckm Lm := fun Adm cdm Aam cam Akm ckm Lm => by rw [hE]; simp
        have m1 : ∀ (Adm : Option Addr) (cdm : Nat) (Aam : Option Addr) (cam : Nat) (Akm : Option Addr) (ckm : Nat) (Lm : Live), (1, 113, (v : Value)) ∈ E Adm cdm Aam cam Akm ckm Lm := fun Adm cdm Aam cam Akm ckm Lm => by rw [hE]; simp
        have m2 : ∀ (Adm : Option Addr) (cdm : Nat) (Aam : Option Addr) (cam : Nat) (Akm : Option Addr) (ckm : Nat) (Lm : Live), (2, 114, (.agg #[.int .i64 x.own.kind, .string x.own.name, .int .i64 x.own.mode, .int .i64 x.own.uid, .int .i64 x.own.gid, .int .i64 x.own.mtime, .slice Adm x.own.data.length cdm, .string x.own.target, .int .i64 x.own.major, .int .i64 x.own.minor, .slice Aam x.own.attrs.length cam, .slice Akm x.kids.length ckm] : Value)) ∈ E Adm cdm Aam cam Akm ckm Lm := fun Adm cdm Aam cam Akm ckm Lm => by rw [hE]; simp
        have m3 : ∀ (Adm : Option Addr) (cdm : Nat) (Aam : Option Addr) (cam : Nat) (Akm : Option Addr) (ckm : Nat) (Lm : Live), (3, 115, (.bool true : Value)) ∈ E Adm cdm Aam cam Akm ckm Lm := fun Adm cdm Aam cam Akm ckm Lm => by rw [hE]; simp
        have m4 : ∀ (Adm : Option Addr) (cdm : Nat) (Aam : Option Addr) (cam : Nat) (Akm : Option Addr) (ckm : Nat) (Lm : Live), (4, 116, (.bool true : Value)) ∈ E Adm cdm Aam cam Akm ckm Lm := fun Adm cdm Aam cam Akm ckm Lm => by rw [hE]; simp
        have m5 : ∀ (Adm : Option Addr) (cdm : Nat) (Aam : Option Addr) (cam : Nat) (Akm : Option Addr) (ckm : Nat) (Lm : Live), (5, 117, (.bool true : Value)) ∈ E Adm cdm Aam cam Akm ckm Lm := fun Adm cdm Aam cam Akm ckm Lm => by rw [hE]; simp
        have m6 : ∀ (Adm : Option Addr) (cdm : Nat) (Aam : Option Addr) (cam : Nat) (Akm : Option Addr) (ckm : Nat) (Lm : Live), (6, 118, (.bool true : Value)) ∈ E Adm cdm Aam cam Akm ckm Lm := fun Adm cdm Aam cam Akm ckm Lm => by rw [hE]; simp
        have m7 : ∀ (Adm : Option Addr) (cdm : Nat) (Aam : Option Addr) (cam : Nat) (Akm : Option Addr) (ckm : Nat) (Lm : Live), (7, 10, (.bool true : Value)) ∈ E Adm cdm Aam cam Akm ckm Lm := fun Adm cdm Aam cam Akm ckm Lm => by rw [hE]; simp
        have hn1 : ∀ (Adm : Option Addr) (cdm : Nat) (Aam : Option Addr) (cam : Nat) (Akm : Option Addr) (ckm : Nat) (Lm : Live), ((E Adm cdm Aam cam Akm ckm Lm).map fun t => t.1).Nodup := fun Adm cdm Aam cam Akm ckm Lm => by rw [hE1]; decide
        have hn2 : ∀ (Adm : Option Addr) (cdm : Nat) (Aam : Option Addr) (cam : Nat) (Akm : Option Addr) (ckm : Nat) (Lm : Live), ((E Adm cdm Aam cam Akm ckm Lm).map fun t => t.2.1).Nodup := fun Adm cdm Aam cam Akm ckm Lm => by rw [hE2]; decide
        have hlt : ∀ (Adm : Option Addr) (cdm : Nat) (Aam : Option Addr) (cam : Nat) (Akm : Option Addr) (ckm : Nat) (Lm : Live), ∀ t ∈ E Adm cdm Aam cam Akm ckm Lm, t.2.1 < l0.length := fun Adm cdm Aam cam Akm ckm Lm => fun t ht => by
          have h1 : t.2.1 ∈ (E Adm cdm Aam cam Akm ckm Lm).map fun t => t.2.1 := List.mem_map.2 ⟨t, ht, rfl⟩
          rw [hE2] at h1
          rw [hlen]
          simp only [List.mem_cons, List.mem_nil_iff, or_false] at h1
          omega
        have Xm0 := Lib.hid m0
        have Xm1 := Lib.hid m1
        have Xm2 := Lib.hid m2
        have Xm3 := Lib.hid m3
        have Xm4 := Lib.hid m4
        have Xm5 := Lib.hid m5
        have Xm6 := Lib.hid m6
        have Xm7 := Lib.hid m7
        have Xhn1 := Lib.hid hn1; have Xhn2 := Lib.hid hn2; have Xhlt := Lib.hid hlt; have XhE1 := Lib.hid hE1; have XhE2 := Lib.hid hE2; have XhE := Lib.hid hE; have Xl0 := Lib.hid hl0
        clear m0 m1 m2 m3 m4 m5 m6 m7 hn1 hn2 hlt hE1 hE2 hE hlen hl0
        refine wp_region_any (by kernel_rfl) ?_
        refine wpAny_inv (by kernel_rfl) (fun listed a' w' => ∃ (Adm : Option Addr) (cdm : Nat) (Aam : Option Addr) (cam : Nat) (Akm : Option Addr) (ckm : Nat) (Lm : Live), Slots (E Adm cdm Aam cam Akm ckm Lm) l0 listed a' ∧ Below wo.heap.size wo w' ∧ (listed.getD 2 true = true → ((nodeR 13).R Lm w' x (nodeV x.own (.slice Adm x.own.data.length cdm) (.slice Aam x.own.attrs.length cam) (.slice Akm x.kids.length ckm)) ∧ (nodeR 13).R Lm w' x (nodeV x.own (.slice Adx x.own.data.length cdx) (.slice Aax x.own.attrs.length cax) (.slice Akx x.kids.length ckx)) ∧ LOk Lm w'))) ?step15 ?fin15 _ _ _ _ ?hs15 ?hf15 ?init15
        case hs15 => simp
        case hf15 => simp
        case init15 =>
          refine ⟨none, 0, none, 0, none, 0, L5, ?_, (Below.refl _ _).drew, fun h => ?_⟩
          · exact Slots.start (exp := E (none) (0) (none) (0) (none) (0) (L5)) (l0 := l0) (m := 8) (fun t ht => by
              have h1 : t.1 ∈ (E (none) (0) (none) (0) (none) (0) (L5)).map fun t => t.1 := List.mem_map.2 ⟨t, ht, rfl⟩
              rw [XhE1.out] at h1
              simp only [List.mem_cons, List.mem_nil_iff, or_false] at h1
              omega)
          · exact absurd (show (Array.replicate 8 false).getD 2 true = true from h) (by decide)
        case fin15 =>
          intro listed a' w' hls hall ⟨Adm, cdm, Aam, cam, Akm, ckm, Lm, hS, hB, _⟩
          have hf2 : a'.tmps.getD 10 undef = .bool true := hS.done _ (Xm7.out Adm cdm Aam cam Akm ckm Lm) (hall 7 (by show 7 < 8; decide))
          have hf3 : a'.defers = [] := hS.defers
          have HF2' := Lib.hid hf2; have HF3' := Lib.hid hf3
          clear hf2 hf3 hS
          go_wp2
          refine bodyPost_ret (results_tmp rfl _ _ _) HF3'.out ?_
          exact ⟨by rw [HF2'.out], HWo.out.trans (hB.mono (Nat.le_trans hWs hWo))⟩
        case step15 =>
          intro listed a' w' i hls hI hmem
          have hr := ready_of hls hmem
          have hi : i < 8 := hr.1
          have hcase : i = 0 ∨ i = 1 ∨ i = 2 ∨ i = 3 ∨ i = 4 ∨ i = 5 ∨ i = 6 ∨ i = 7 := by omega
          rcases hcase with rfl | rfl | rfl | rfl | rfl | rfl | rfl | rfl
          · obtain ⟨Adm, cdm, Aam, cam, Akm, ckm, Lm, hS, hB, hF0⟩ := hI
            obtain ⟨n0, n1, n2, n3, n4, n5, n6, n7, n8, n9, n10, n11⟩ := twelve_box ((hB.block _ hxo).trans HXo.out)
            have e11 := hS.at0 11 (.pointer (some ⟨w1.heap.size, 0, none⟩)) (by rw [XhE2.out]; decide) (by rw [Xl0.out]; rfl)
            refine wpOp_plain' rfl rfl fun K' hK => ?_
            go_simp
            exact hK _ _ ⟨Adm, cdm, Aam, cam, Akm, ckm, Lm, hS.put' (Xhn1.out Adm cdm Aam cam Akm ckm Lm) (Xhn2.out Adm cdm Aam cam Akm ckm Lm) (Xhlt.out Adm cdm Aam cam Akm ckm Lm) (Xm0.out Adm cdm Aam cam Akm ckm Lm), hB, fun h => hF0 (by rwa [set_get (by decide)] at h)⟩
          · obtain ⟨Adm, cdm, Aam, cam, Akm, ckm, Lm, hS, hB, hF0⟩ := hI
            have e0 := hS.at0 0 (v) (by rw [XhE2.out]; decide) (by rw [Xl0.out]; rfl)
            refine wpOp_plain' rfl rfl fun K' hK => ?_
            go_simp
            exact hK _ _ ⟨Adm, cdm, Aam, cam, Akm, ckm, Lm, hS.put' (Xhn1.out Adm cdm Aam cam Akm ckm Lm) (Xhn2.out Adm cdm Aam cam Akm ckm Lm) (Xhlt.out Adm cdm Aam cam Akm ckm Lm) (Xm1.out Adm cdm Aam cam Akm ckm Lm), hB, fun h => hF0 (by rwa [set_get (by decide)] at h)⟩
          · obtain ⟨Adm, cdm, Aam, cam, Akm, ckm, Lm, hS, hB, hF0⟩ := hI
            have d1 := hr.2.2 _ rfl ⟨1, .data⟩ (by simp) rfl
            have e113 := hS.at_ (Xm1.out Adm cdm Aam cam Akm ckm Lm) d1
            refine wpOp_plain' rfl rfl fun K' hK => ?_
            go_simp
            refine (rmade_any gs v L5 w' (HSo.out.mono (sub_same hB)) (HLo.out w' hB)).mono ?_
            rintro e w1' ⟨cs', Lm', rfl, hN', hX'⟩
            rw [← HXg.out] at hN'
            obtain ⟨m', Adm', cdm', Aam', cam', Akm', ckm', _, rfl, _, _, _, _, _, _, _⟩ := node_open hN'
            have hS2 : Slots (E Adm' cdm' Aam' cam' Akm' ckm' Lm') l0 listed a' := by
              rw [XhE.out] at hS ⊢
              exact Slots.turn1 (P := [(0, 112, .agg #[.int .i64 x.own.kind, .string x.own.name, .int .i64 x.own.mode, .int .i64 x.own.uid, .int .i64 x.own.gid, .int .i64 x.own.mtime, .slice Adx x.own.data.length cdx, .string x.own.target, .int .i64 x.own.major, .int .i64 x.own.minor, .slice Aax x.own.attrs.length cax, .slice Akx x.kids.length ckx]), (1, 113, v)]) (Q := [(3, 115, .bool true), (4, 116, .bool true), (5, 117, .bool true), (6, 118, .bool true), (7, 10, .bool true)]) hS hr.2.1
            exact hK _ _ ⟨Adm', cdm', Aam', cam', Akm', ckm', Lm', hS2.put' (Xhn1.out Adm' cdm' Aam' cam' Akm' ckm' Lm') (Xhn2.out Adm' cdm' Aam' cam' Akm' ckm' Lm') (Xhlt.out Adm' cdm' Aam' cam' Akm' ckm' Lm') (Xm2.out Adm' cdm' Aam' cam' Akm' ckm' Lm'), hB.trans (hX'.below.mono hB.size), fun _ => ⟨hN', (nodeR 13).mono (Ext.sub (HLo.out w' hB) hX') ((nodeR 13).mono (sub_same hB) HNo.out), hX'.ok⟩⟩
          · obtain ⟨Adm, cdm, Aam, cam, Akm, ckm, Lm, hS, hB, hF0⟩ := hI
            have d0 := hr.2.2 _ rfl ⟨0, .data⟩ (by simp) rfl
            have e112 := hS.at_ (Xm0.out Adm cdm Aam cam Akm ckm Lm) d0
            have d2 := hr.2.2 _ rfl ⟨2, .data⟩ (by simp) rfl
            have e114 := hS.at_ (Xm2.out Adm cdm Aam cam Akm ckm Lm) d2
            refine wpOp_plain' rfl rfl fun K' hK => ?_
            go_simp
            have hD := hF0 (hr.2.2 _ rfl ⟨2, .data⟩ (by simp) rfl)
            refine (rsame_any 13 13 x x _ _ Lm w' hD.2.1 hD.1 (by omega) (by omega) HX5.out HX5.out (by decide) (by decide) hD.2.2).mono ?_
            rintro e w1' ⟨rfl, y1⟩
            rw [Hbt.out]
            exact hK _ _ ⟨Adm, cdm, Aam, cam, Akm, ckm, Lm, hS.put' (Xhn1.out Adm cdm Aam cam Akm ckm Lm) (Xhn2.out Adm cdm Aam cam Akm ckm Lm) (Xhlt.out Adm cdm Aam cam Akm ckm Lm) (Xm3.out Adm cdm Aam cam Akm ckm Lm), hB.trans (y1.mono hB.size), fun h => ⟨(nodeR 13).mono (sub_same y1) (hF0 (by rwa [set_get (by decide)] at h)).1, (nodeR 13).mono (sub_same y1) (hF0 (by rwa [set_get (by decide)] at h)).2.1, fun b0 j0 h0 => Nat.lt_of_lt_of_le ((hF0 (by rwa [set_get (by decide)] at h)).2.2 b0 j0 h0) y1.size⟩⟩
          · obtain ⟨Adm, cdm, Aam, cam, Akm, ckm, Lm, hS, hB, hF0⟩ := hI
            have d3 := hr.2.2 _ rfl ⟨3, .data⟩ (by simp) rfl
            have e115 := hS.at_ (Xm3.out Adm cdm Aam cam Akm ckm Lm) d3
            refine wpOp_plain' rfl rfl fun K' hK => ?_
            go_simp
            exact hK _ _ ⟨Adm, cdm, Aam, cam, Akm, ckm, Lm, hS.put' (Xhn1.out Adm cdm Aam cam Akm ckm Lm) (Xhn2.out Adm cdm Aam cam Akm ckm Lm) (Xhlt.out Adm cdm Aam cam Akm ckm Lm) (Xm4.out Adm cdm Aam cam Akm ckm Lm), hB, fun h => hF0 (by rwa [set_get (by decide)] at h)⟩
          · obtain ⟨Adm, cdm, Aam, cam, Akm, ckm, Lm, hS, hB, hF0⟩ := hI
            have dg := hr.2.2 _ rfl ⟨4, .guard⟩ (by simp) rfl
            have eg := hS.at_ (Xm4.out Adm cdm Aam cam Akm ckm Lm) dg
            refine wpOp_on rfl rfl rfl rfl eg fun K' hK => ?_
            go_simp
            refine (lives_any w').mono ?_
            rintro e w1' ⟨rfl, y1⟩
            exact hK _ _ ⟨Adm, cdm, Aam, cam, Akm, ckm, Lm, hS.put' (Xhn1.out Adm cdm Aam cam Akm ckm Lm) (Xhn2.out Adm cdm Aam cam Akm ckm Lm) (Xhlt.out Adm cdm Aam cam Akm ckm Lm) (Xm5.out Adm cdm Aam cam Akm ckm Lm), hB.trans (y1.mono hB.size), fun h => ⟨(nodeR 13).mono (sub_same y1) (hF0 (by rwa [set_get (by decide)] at h)).1, (nodeR 13).mono (sub_same y1) (hF0 (by rwa [set_get (by decide)] at h)).2.1, fun b0 j0 h0 => Nat.lt_of_lt_of_le ((hF0 (by rwa [set_get (by decide)] at h)).2.2 b0 j0 h0) y1.size⟩⟩
          · obtain ⟨Adm, cdm, Aam, cam, Akm, ckm, Lm, hS, hB, hF0⟩ := hI
            have d4 := hr.2.2 _ rfl ⟨4, .data⟩ (by simp) rfl
            have e116 := hS.at_ (Xm4.out Adm cdm Aam cam Akm ckm Lm) d4
            have d5 := hr.2.2 _ rfl ⟨5, .data⟩ (by simp) rfl
            have e117 := hS.at_ (Xm5.out Adm cdm Aam cam Akm ckm Lm) d5
            refine wpOp_plain' rfl rfl fun K' hK => ?_
            go_simp
            exact hK _ _ ⟨Adm, cdm, Aam, cam, Akm, ckm, Lm, hS.put' (Xhn1.out Adm cdm Aam cam Akm ckm Lm) (Xhn2.out Adm cdm Aam cam Akm ckm Lm) (Xhlt.out Adm cdm Aam cam Akm ckm Lm) (Xm6.out Adm cdm Aam cam Akm ckm Lm), hB, fun h => hF0 (by rwa [set_get (by decide)] at h)⟩
          · obtain ⟨Adm, cdm, Aam, cam, Akm, ckm, Lm, hS, hB, hF0⟩ := hI
            have d6 := hr.2.2 _ rfl ⟨6, .data⟩ (by simp) rfl
            have e118 := hS.at_ (Xm6.out Adm cdm Aam cam Akm ckm Lm) d6
            refine wpOp_plain' rfl rfl fun K' hK => ?_
            go_simp
            exact hK _ _ ⟨Adm, cdm, Aam, cam, Akm, ckm, Lm, hS.put' (Xhn1.out Adm cdm Aam cam Akm ckm Lm) (Xhn2.out Adm cdm Aam cam Akm ckm Lm) (Xhlt.out Adm cdm Aam cam Akm ckm Lm) (Xm7.out Adm cdm Aam cam Akm ckm Lm), hB, fun h => hF0 (by rwa [set_get (by decide)] at h)⟩
  case step =>
    intro listed a' w' i hls hI hmem
    have hr := ready_of hls hmem
    have hi : i < 37 := hr.1
    have hcase : i = 0 ∨ i = 1 ∨ i = 2 ∨ i = 3 ∨ i = 4 ∨ i = 5 ∨ i = 6 ∨ i = 7 ∨ i = 8 ∨ i = 9 ∨ i = 10 ∨ i = 11 ∨ i = 12 ∨ i = 13 ∨ i = 14 ∨ i = 15 ∨ i = 16 ∨ i = 17 ∨ i = 18 ∨ i = 19 ∨ i = 20 ∨ i = 21 ∨ i = 22 ∨ i = 23 ∨ i = 24 ∨ i = 25 ∨ i = 26 ∨ i = 27 ∨ i = 28 ∨ i = 29 ∨ i = 30 ∨ i = 31 ∨ i = 32 ∨ i = 33 ∨ i = 34 ∨ i = 35 ∨ i = 36 := by omega
    rcases hcase with rfl | rfl | rfl | rfl | rfl | rfl | rfl | rfl | rfl | rfl | rfl | rfl | rfl | rfl | rfl | rfl | rfl | rfl | rfl | rfl | rfl | rfl | rfl | rfl | rfl | rfl | rfl | rfl | rfl | rfl | rfl | rfl | rfl | rfl | rfl | rfl | rfl
    · obtain ⟨hS, hB⟩ := hI
      obtain ⟨n0, n1, n2, n3, n4, n5, n6, n7, n8, n9, n10, n11⟩ := twelve_box ((hB.block _ (by omega)).trans HBx.out)
      have e11 := hS.at0 11 (.pointer (some ⟨w1.heap.size, 0, none⟩)) (by rw [XhE2.out]; decide) (by rw [Xl0.out]; rfl)
      refine wpOp_plain' rfl rfl fun K' hK => ?_
      go_simp
      exact hK _ _ ⟨hS.put' (Xhn1.out ) (Xhn2.out ) (Xhlt.out ) (Xm0.out ), hB⟩
    · obtain ⟨hS, hB⟩ := hI
      obtain ⟨n0, n1, n2, n3, n4, n5, n6, n7, n8, n9, n10, n11⟩ := twelve_box ((hB.block _ (by omega)).trans HBy.out)
      have e12 := hS.at0 12 (.pointer (some ⟨w3.heap.size, 0, none⟩)) (by rw [XhE2.out]; decide) (by rw [Xl0.out]; rfl)
      refine wpOp_plain' rfl rfl fun K' hK => ?_
      go_simp
      exact hK _ _ ⟨hS.put' (Xhn1.out ) (Xhn2.out ) (Xhlt.out ) (Xm1.out ), hB⟩
    · obtain ⟨hS, hB⟩ := hI
      have d0 := hr.2.2 _ rfl ⟨0, .data⟩ (by simp) rfl
      have e34 := hS.at_ (Xm0.out ) d0
      have d1 := hr.2.2 _ rfl ⟨1, .data⟩ (by simp) rfl
      have e35 := hS.at_ (Xm1.out ) d1
      refine wpOp_plain' rfl rfl fun K' hK => ?_
      go_simp
      refine (same_at 13 13 x y _ _ L7 L7 w' (HNx.out w' hB) (HNy.out w' hB)).mono ?_
      rintro e w1' ⟨rfl, y1⟩
      rw [← Hb1.out]
      exact hK _ _ ⟨hS.put' (Xhn1.out ) (Xhn2.out ) (Xhlt.out ) (Xm2.out ), hB.trans (y1.mono hB.size)⟩
    · obtain ⟨hS, hB⟩ := hI
      obtain ⟨n0, n1, n2, n3, n4, n5, n6, n7, n8, n9, n10, n11⟩ := twelve_box ((hB.block _ (by omega)).trans HBx.out)
      have e11 := hS.at0 11 (.pointer (some ⟨w1.heap.size, 0, none⟩)) (by rw [XhE2.out]; decide) (by rw [Xl0.out]; rfl)
      refine wpOp_plain' rfl rfl fun K' hK => ?_
      go_simp
      exact hK _ _ ⟨hS.put' (Xhn1.out ) (Xhn2.out ) (Xhlt.out ) (Xm3.out ), hB⟩
    · obtain ⟨hS, hB⟩ := hI
      obtain ⟨n0, n1, n2, n3, n4, n5, n6, n7, n8, n9, n10, n11⟩ := twelve_box ((hB.block _ (by omega)).trans HBy.out)
      have e12 := hS.at0 12 (.pointer (some ⟨w3.heap.size, 0, none⟩)) (by rw [XhE2.out]; decide) (by rw [Xl0.out]; rfl)
      refine wpOp_plain' rfl rfl fun K' hK => ?_
      go_simp
      exact hK _ _ ⟨hS.put' (Xhn1.out ) (Xhn2.out ) (Xhlt.out ) (Xm4.out ), hB⟩
    · obtain ⟨hS, hB⟩ := hI
      have d3 := hr.2.2 _ rfl ⟨3, .data⟩ (by simp) rfl
      have e37 := hS.at_ (Xm3.out ) d3
      have d4 := hr.2.2 _ rfl ⟨4, .data⟩ (by simp) rfl
      have e38 := hS.at_ (Xm4.out ) d4
      refine wpOp_plain' rfl rfl fun K' hK => ?_
      go_simp
      refine (rsame_any 13 13 x y _ _ L7 w' (HNx.out w' hB) (HNy.out w' hB) (by omega) (by omega) HX5.out HY5.out (by decide) (by decide) (HLo.out w' hB)).mono ?_
      rintro e w1' ⟨rfl, y1⟩
      rw [← Hb1.out]
      exact hK _ _ ⟨hS.put' (Xhn1.out ) (Xhn2.out ) (Xhlt.out ) (Xm5.out ), hB.trans (y1.mono hB.size)⟩
    · obtain ⟨hS, hB⟩ := hI
      have d2 := hr.2.2 _ rfl ⟨2, .data⟩ (by simp) rfl
      have e36 := hS.at_ (Xm2.out ) d2
      have d5 := hr.2.2 _ rfl ⟨5, .data⟩ (by simp) rfl
      have e39 := hS.at_ (Xm5.out ) d5
      refine wpOp_plain' rfl rfl fun K' hK => ?_
      go_simp
      try simp only [bne_self_eq_false, beq_self_eq_true, Bool.not_true, decide_true]
      exact hK _ _ ⟨hS.put' (Xhn1.out ) (Xhn2.out ) (Xhlt.out ) (Xm6.out ), hB⟩
    · obtain ⟨hS, hB⟩ := hI
      have d6 := hr.2.2 _ rfl ⟨6, .data⟩ (by simp) rfl
      have e40 := hS.at_ (Xm6.out ) d6
      refine wpOp_plain' rfl rfl fun K' hK => ?_
      go_simp
      exact hK _ _ ⟨hS.put' (Xhn1.out ) (Xhn2.out ) (Xhlt.out ) (Xm7.out ), hB⟩
    · obtain ⟨hS, hB⟩ := hI
      obtain ⟨n0, n1, n2, n3, n4, n5, n6, n7, n8, n9, n10, n11⟩ := twelve_box ((hB.block _ (by omega)).trans HBx.out)
      have e11 := hS.at0 11 (.pointer (some ⟨w1.heap.size, 0, none⟩)) (by rw [XhE2.out]; decide) (by rw [Xl0.out]; rfl)
      have dg := hr.2.2 _ rfl ⟨7, .guard⟩ (by simp) rfl
      have eg := hS.at_ (Xm7.out ) dg
      refine wpOp_on rfl rfl rfl rfl eg fun K' hK => ?_
      go_simp
      exact hK _ _ ⟨hS.put' (Xhn1.out ) (Xhn2.out ) (Xhlt.out ) (Xm8.out ), hB⟩
    · obtain ⟨hS, hB⟩ := hI
      obtain ⟨n0, n1, n2, n3, n4, n5, n6, n7, n8, n9, n10, n11⟩ := twelve_box ((hB.block _ (by omega)).trans HBz.out)
      have e13 := hS.at0 13 (.pointer (some ⟨w5.heap.size, 0, none⟩)) (by rw [XhE2.out]; decide) (by rw [Xl0.out]; rfl)
      have dg := hr.2.2 _ rfl ⟨7, .guard⟩ (by simp) rfl
      have eg := hS.at_ (Xm7.out ) dg
      refine wpOp_on rfl rfl rfl rfl eg fun K' hK => ?_
      go_simp
      exact hK _ _ ⟨hS.put' (Xhn1.out ) (Xhn2.out ) (Xhlt.out ) (Xm9.out ), hB⟩
    · obtain ⟨hS, hB⟩ := hI
      have d8 := hr.2.2 _ rfl ⟨8, .data⟩ (by simp) rfl
      have e42 := hS.at_ (Xm8.out ) d8
      have d9 := hr.2.2 _ rfl ⟨9, .data⟩ (by simp) rfl
      have e43 := hS.at_ (Xm9.out ) d9
      have dg := hr.2.2 _ rfl ⟨7, .guard⟩ (by simp) rfl
      have eg := hS.at_ (Xm7.out ) dg
      refine wpOp_on rfl rfl rfl rfl eg fun K' hK => ?_
      go_simp
      refine (same_at 13 13 x z _ _ L7 L7 w' (HNx.out w' hB) (HNz.out w' hB)).mono ?_
      rintro e w1' ⟨rfl, y1⟩
      rw [← Hb2.out]
      exact hK _ _ ⟨hS.put' (Xhn1.out ) (Xhn2.out ) (Xhlt.out ) (Xm10.out ), hB.trans (y1.mono hB.size)⟩
    · obtain ⟨hS, hB⟩ := hI
      obtain ⟨n0, n1, n2, n3, n4, n5, n6, n7, n8, n9, n10, n11⟩ := twelve_box ((hB.block _ (by omega)).trans HBx.out)
      have e11 := hS.at0 11 (.pointer (some ⟨w1.heap.size, 0, none⟩)) (by rw [XhE2.out]; decide) (by rw [Xl0.out]; rfl)
      have dg := hr.2.2 _ rfl ⟨7, .guard⟩ (by simp) rfl
      have eg := hS.at_ (Xm7.out ) dg
      refine wpOp_on rfl rfl rfl rfl eg fun K' hK => ?_
      go_simp
      exact hK _ _ ⟨hS.put' (Xhn1.out ) (Xhn2.out ) (Xhlt.out ) (Xm11.out ), hB⟩
    · obtain ⟨hS, hB⟩ := hI
      obtain ⟨n0, n1, n2, n3, n4, n5, n6, n7, n8, n9, n10, n11⟩ := twelve_box ((hB.block _ (by omega)).trans HBz.out)
      have e13 := hS.at0 13 (.pointer (some ⟨w5.heap.size, 0, none⟩)) (by rw [XhE2.out]; decide) (by rw [Xl0.out]; rfl)
      have dg := hr.2.2 _ rfl ⟨7, .guard⟩ (by simp) rfl
      have eg := hS.at_ (Xm7.out ) dg
      refine wpOp_on rfl rfl rfl rfl eg fun K' hK => ?_
      go_simp
      exact hK _ _ ⟨hS.put' (Xhn1.out ) (Xhn2.out ) (Xhlt.out ) (Xm12.out ), hB⟩
    · obtain ⟨hS, hB⟩ := hI
      have d11 := hr.2.2 _ rfl ⟨11, .data⟩ (by simp) rfl
      have e45 := hS.at_ (Xm11.out ) d11
      have d12 := hr.2.2 _ rfl ⟨12, .data⟩ (by simp) rfl
      have e46 := hS.at_ (Xm12.out ) d12
      have dg := hr.2.2 _ rfl ⟨7, .guard⟩ (by simp) rfl
      have eg := hS.at_ (Xm7.out ) dg
      refine wpOp_on rfl rfl rfl rfl eg fun K' hK => ?_
      go_simp
      refine (rsame_any 13 13 x z _ _ L7 w' (HNx.out w' hB) (HNz.out w' hB) (by omega) (by omega) HX5.out HZ3.out (by decide) (by decide) (HLo.out w' hB)).mono ?_
      rintro e w1' ⟨rfl, y1⟩
      rw [← Hb2.out]
      exact hK _ _ ⟨hS.put' (Xhn1.out ) (Xhn2.out ) (Xhlt.out ) (Xm13.out ), hB.trans (y1.mono hB.size)⟩
    · obtain ⟨hS, hB⟩ := hI
      have d10 := hr.2.2 _ rfl ⟨10, .data⟩ (by simp) rfl
      have e44 := hS.at_ (Xm10.out ) d10
      have d13 := hr.2.2 _ rfl ⟨13, .data⟩ (by simp) rfl
      have e47 := hS.at_ (Xm13.out ) d13
      have dg := hr.2.2 _ rfl ⟨7, .guard⟩ (by simp) rfl
      have eg := hS.at_ (Xm7.out ) dg
      refine wpOp_on rfl rfl rfl rfl eg fun K' hK => ?_
      go_simp
      try simp only [bne_self_eq_false, beq_self_eq_true, Bool.not_true, decide_true]
      exact hK _ _ ⟨hS.put' (Xhn1.out ) (Xhn2.out ) (Xhlt.out ) (Xm14.out ), hB⟩
    · obtain ⟨hS, hB⟩ := hI
      have d7 := hr.2.2 _ rfl ⟨7, .data⟩ (by simp) rfl
      have e41 := hS.at_ (Xm7.out ) d7
      have d14 := hr.2.2 _ rfl ⟨14, .data⟩ (by simp) rfl
      have e48 := hS.at_ (Xm14.out ) d14
      refine wpOp_plain' rfl rfl fun K' hK => ?_
      go_simp
      exact hK _ _ ⟨hS.put' (Xhn1.out ) (Xhn2.out ) (Xhlt.out ) (Xm15.out ), hB⟩
    · obtain ⟨hS, hB⟩ := hI
      have d15 := hr.2.2 _ rfl ⟨15, .data⟩ (by simp) rfl
      have e49 := hS.at_ (Xm15.out ) d15
      refine wpOp_plain' rfl rfl fun K' hK => ?_
      go_simp
      exact hK _ _ ⟨hS.put' (Xhn1.out ) (Xhn2.out ) (Xhlt.out ) (Xm16.out ), hB⟩
    · obtain ⟨hS, hB⟩ := hI
      obtain ⟨n0, n1, n2, n3, n4, n5, n6, n7, n8, n9, n10, n11⟩ := twelve_box ((hB.block _ (by omega)).trans HBz.out)
      have e13 := hS.at0 13 (.pointer (some ⟨w5.heap.size, 0, none⟩)) (by rw [XhE2.out]; decide) (by rw [Xl0.out]; rfl)
      have dg := hr.2.2 _ rfl ⟨16, .guard⟩ (by simp) rfl
      have eg := hS.at_ (Xm16.out ) dg
      refine wpOp_on rfl rfl rfl rfl eg fun K' hK => ?_
      go_simp
      exact hK _ _ ⟨hS.put' (Xhn1.out ) (Xhn2.out ) (Xhlt.out ) (Xm17.out ), hB⟩
    · obtain ⟨hS, hB⟩ := hI
      obtain ⟨n0, n1, n2, n3, n4, n5, n6, n7, n8, n9, n10, n11⟩ := twelve_box ((hB.block _ (by omega)).trans HBy.out)
      have e12 := hS.at0 12 (.pointer (some ⟨w3.heap.size, 0, none⟩)) (by rw [XhE2.out]; decide) (by rw [Xl0.out]; rfl)
      have dg := hr.2.2 _ rfl ⟨16, .guard⟩ (by simp) rfl
      have eg := hS.at_ (Xm16.out ) dg
      refine wpOp_on rfl rfl rfl rfl eg fun K' hK => ?_
      go_simp
      exact hK _ _ ⟨hS.put' (Xhn1.out ) (Xhn2.out ) (Xhlt.out ) (Xm18.out ), hB⟩
    · obtain ⟨hS, hB⟩ := hI
      have d17 := hr.2.2 _ rfl ⟨17, .data⟩ (by simp) rfl
      have e51 := hS.at_ (Xm17.out ) d17
      have d18 := hr.2.2 _ rfl ⟨18, .data⟩ (by simp) rfl
      have e52 := hS.at_ (Xm18.out ) d18
      have dg := hr.2.2 _ rfl ⟨16, .guard⟩ (by simp) rfl
      have eg := hS.at_ (Xm16.out ) dg
      refine wpOp_on rfl rfl rfl rfl eg fun K' hK => ?_
      go_simp
      refine (same_at 13 13 z y _ _ L7 L7 w' (HNz.out w' hB) (HNy.out w' hB)).mono ?_
      rintro e w1' ⟨rfl, y1⟩
      rw [← Hb3.out]
      exact hK _ _ ⟨hS.put' (Xhn1.out ) (Xhn2.out ) (Xhlt.out ) (Xm19.out ), hB.trans (y1.mono hB.size)⟩
    · obtain ⟨hS, hB⟩ := hI
      obtain ⟨n0, n1, n2, n3, n4, n5, n6, n7, n8, n9, n10, n11⟩ := twelve_box ((hB.block _ (by omega)).trans HBz.out)
      have e13 := hS.at0 13 (.pointer (some ⟨w5.heap.size, 0, none⟩)) (by rw [XhE2.out]; decide) (by rw [Xl0.out]; rfl)
      have dg := hr.2.2 _ rfl ⟨16, .guard⟩ (by simp) rfl
      have eg := hS.at_ (Xm16.out ) dg
      refine wpOp_on rfl rfl rfl rfl eg fun K' hK => ?_
      go_simp
      exact hK _ _ ⟨hS.put' (Xhn1.out ) (Xhn2.out ) (Xhlt.out ) (Xm20.out ), hB⟩
    · obtain ⟨hS, hB⟩ := hI
      obtain ⟨n0, n1, n2, n3, n4, n5, n6, n7, n8, n9, n10, n11⟩ := twelve_box ((hB.block _ (by omega)).trans HBy.out)
      have e12 := hS.at0 12 (.pointer (some ⟨w3.heap.size, 0, none⟩)) (by rw [XhE2.out]; decide) (by rw [Xl0.out]; rfl)
      have dg := hr.2.2 _ rfl ⟨16, .guard⟩ (by simp) rfl
      have eg := hS.at_ (Xm16.out ) dg
      refine wpOp_on rfl rfl rfl rfl eg fun K' hK => ?_
      go_simp
      exact hK _ _ ⟨hS.put' (Xhn1.out ) (Xhn2.out ) (Xhlt.out ) (Xm21.out ), hB⟩
    · obtain ⟨hS, hB⟩ := hI
      have d20 := hr.2.2 _ rfl ⟨20, .data⟩ (by simp) rfl
      have e54 := hS.at_ (Xm20.out ) d20
      have d21 := hr.2.2 _ rfl ⟨21, .data⟩ (by simp) rfl
      have e55 := hS.at_ (Xm21.out ) d21
      have dg := hr.2.2 _ rfl ⟨16, .guard⟩ (by simp) rfl
      have eg := hS.at_ (Xm16.out ) dg
      refine wpOp_on rfl rfl rfl rfl eg fun K' hK => ?_
      go_simp
      refine (rsame_any 13 13 z y _ _ L7 w' (HNz.out w' hB) (HNy.out w' hB) (by omega) (by omega) HZ3.out HY5.out (by decide) (by decide) (HLo.out w' hB)).mono ?_
      rintro e w1' ⟨rfl, y1⟩
      rw [← Hb3.out]
      exact hK _ _ ⟨hS.put' (Xhn1.out ) (Xhn2.out ) (Xhlt.out ) (Xm22.out ), hB.trans (y1.mono hB.size)⟩
    · obtain ⟨hS, hB⟩ := hI
      have d19 := hr.2.2 _ rfl ⟨19, .data⟩ (by simp) rfl
      have e53 := hS.at_ (Xm19.out ) d19
      have d22 := hr.2.2 _ rfl ⟨22, .data⟩ (by simp) rfl
      have e56 := hS.at_ (Xm22.out ) d22
      have dg := hr.2.2 _ rfl ⟨16, .guard⟩ (by simp) rfl
      have eg := hS.at_ (Xm16.out ) dg
      refine wpOp_on rfl rfl rfl rfl eg fun K' hK => ?_
      go_simp
      try simp only [bne_self_eq_false, beq_self_eq_true, Bool.not_true, decide_true]
      exact hK _ _ ⟨hS.put' (Xhn1.out ) (Xhn2.out ) (Xhlt.out ) (Xm23.out ), hB⟩
    · obtain ⟨hS, hB⟩ := hI
      have d16 := hr.2.2 _ rfl ⟨16, .data⟩ (by simp) rfl
      have e50 := hS.at_ (Xm16.out ) d16
      have d23 := hr.2.2 _ rfl ⟨23, .data⟩ (by simp) rfl
      have e57 := hS.at_ (Xm23.out ) d23
      refine wpOp_plain' rfl rfl fun K' hK => ?_
      go_simp
      exact hK _ _ ⟨hS.put' (Xhn1.out ) (Xhn2.out ) (Xhlt.out ) (Xm24.out ), hB⟩
    · obtain ⟨hS, hB⟩ := hI
      have d24 := hr.2.2 _ rfl ⟨24, .data⟩ (by simp) rfl
      have e58 := hS.at_ (Xm24.out ) d24
      refine wpOp_plain' rfl rfl fun K' hK => ?_
      go_simp
      exact hK _ _ ⟨hS.put' (Xhn1.out ) (Xhn2.out ) (Xhlt.out ) (Xm25.out ), hB⟩
    · obtain ⟨hS, hB⟩ := hI
      obtain ⟨n0, n1, n2, n3, n4, n5, n6, n7, n8, n9, n10, n11⟩ := twelve_box ((hB.block _ (by omega)).trans HBx.out)
      have e11 := hS.at0 11 (.pointer (some ⟨w1.heap.size, 0, none⟩)) (by rw [XhE2.out]; decide) (by rw [Xl0.out]; rfl)
      have dg := hr.2.2 _ rfl ⟨25, .guard⟩ (by simp) rfl
      have eg := hS.at_ (Xm25.out ) dg
      refine wpOp_on rfl rfl rfl rfl eg fun K' hK => ?_
      go_simp
      exact hK _ _ ⟨hS.put' (Xhn1.out ) (Xhn2.out ) (Xhlt.out ) (Xm26.out ), hB⟩
    · obtain ⟨hS, hB⟩ := hI
      obtain ⟨n0, n1, n2, n3, n4, n5, n6, n7, n8, n9, n10, n11⟩ := twelve_box ((hB.block _ (by omega)).trans HBx.out)
      have e11 := hS.at0 11 (.pointer (some ⟨w1.heap.size, 0, none⟩)) (by rw [XhE2.out]; decide) (by rw [Xl0.out]; rfl)
      have dg := hr.2.2 _ rfl ⟨25, .guard⟩ (by simp) rfl
      have eg := hS.at_ (Xm25.out ) dg
      refine wpOp_on rfl rfl rfl rfl eg fun K' hK => ?_
      go_simp
      exact hK _ _ ⟨hS.put' (Xhn1.out ) (Xhn2.out ) (Xhlt.out ) (Xm27.out ), hB⟩
    · obtain ⟨hS, hB⟩ := hI
      have d26 := hr.2.2 _ rfl ⟨26, .data⟩ (by simp) rfl
      have e60 := hS.at_ (Xm26.out ) d26
      have d27 := hr.2.2 _ rfl ⟨27, .data⟩ (by simp) rfl
      have e61 := hS.at_ (Xm27.out ) d27
      have dg := hr.2.2 _ rfl ⟨25, .guard⟩ (by simp) rfl
      have eg := hS.at_ (Xm25.out ) dg
      refine wpOp_on rfl rfl rfl rfl eg fun K' hK => ?_
      go_simp
      refine (same_at 13 13 x x _ _ L7 L7 w' (HNx.out w' hB) (HNx.out w' hB)).mono ?_
      rintro e w1' ⟨rfl, y1⟩
      rw [Hbt.out]
      exact hK _ _ ⟨hS.put' (Xhn1.out ) (Xhn2.out ) (Xhlt.out ) (Xm28.out ), hB.trans (y1.mono hB.size)⟩
    · obtain ⟨hS, hB⟩ := hI
      have d28 := hr.2.2 _ rfl ⟨28, .data⟩ (by simp) rfl
      have e62 := hS.at_ (Xm28.out ) d28
      have dg := hr.2.2 _ rfl ⟨25, .guard⟩ (by simp) rfl
      have eg := hS.at_ (Xm25.out ) dg
      refine wpOp_on rfl rfl rfl rfl eg fun K' hK => ?_
      go_simp
      exact hK _ _ ⟨hS.put' (Xhn1.out ) (Xhn2.out ) (Xhlt.out ) (Xm29.out ), hB⟩
    · obtain ⟨hS, hB⟩ := hI
      have d25 := hr.2.2 _ rfl ⟨25, .data⟩ (by simp) rfl
      have e59 := hS.at_ (Xm25.out ) d25
      have d29 := hr.2.2 _ rfl ⟨29, .data⟩ (by simp) rfl
      have e63 := hS.at_ (Xm29.out ) d29
      refine wpOp_plain' rfl rfl fun K' hK => ?_
      go_simp
      exact hK _ _ ⟨hS.put' (Xhn1.out ) (Xhn2.out ) (Xhlt.out ) (Xm30.out ), hB⟩
    · obtain ⟨hS, hB⟩ := hI
      have d30 := hr.2.2 _ rfl ⟨30, .data⟩ (by simp) rfl
      have e64 := hS.at_ (Xm30.out ) d30
      refine wpOp_plain' rfl rfl fun K' hK => ?_
      go_simp
      exact hK _ _ ⟨hS.put' (Xhn1.out ) (Xhn2.out ) (Xhlt.out ) (Xm31.out ), hB⟩
    · obtain ⟨hS, hB⟩ := hI
      obtain ⟨n0, n1, n2, n3, n4, n5, n6, n7, n8, n9, n10, n11⟩ := twelve_box ((hB.block _ (by omega)).trans HBc.out)
      have e14 := hS.at0 14 (.pointer (some ⟨w7.heap.size, 0, none⟩)) (by rw [XhE2.out]; decide) (by rw [Xl0.out]; rfl)
      have dg := hr.2.2 _ rfl ⟨31, .guard⟩ (by simp) rfl
      have eg := hS.at_ (Xm31.out ) dg
      refine wpOp_on rfl rfl rfl rfl eg fun K' hK => ?_
      go_simp
      exact hK _ _ ⟨hS.put' (Xhn1.out ) (Xhn2.out ) (Xhlt.out ) (Xm32.out ), hB⟩
    · obtain ⟨hS, hB⟩ := hI
      obtain ⟨n0, n1, n2, n3, n4, n5, n6, n7, n8, n9, n10, n11⟩ := twelve_box ((hB.block _ (by omega)).trans HBx.out)
      have e11 := hS.at0 11 (.pointer (some ⟨w1.heap.size, 0, none⟩)) (by rw [XhE2.out]; decide) (by rw [Xl0.out]; rfl)
      have dg := hr.2.2 _ rfl ⟨31, .guard⟩ (by simp) rfl
      have eg := hS.at_ (Xm31.out ) dg
      refine wpOp_on rfl rfl rfl rfl eg fun K' hK => ?_
      go_simp
      exact hK _ _ ⟨hS.put' (Xhn1.out ) (Xhn2.out ) (Xhlt.out ) (Xm33.out ), hB⟩
    · obtain ⟨hS, hB⟩ := hI
      have d32 := hr.2.2 _ rfl ⟨32, .data⟩ (by simp) rfl
      have e66 := hS.at_ (Xm32.out ) d32
      have d33 := hr.2.2 _ rfl ⟨33, .data⟩ (by simp) rfl
      have e67 := hS.at_ (Xm33.out ) d33
      have dg := hr.2.2 _ rfl ⟨31, .guard⟩ (by simp) rfl
      have eg := hS.at_ (Xm31.out ) dg
      refine wpOp_on rfl rfl rfl rfl eg fun K' hK => ?_
      go_simp
      refine (rsame_any 13 13 x x _ _ L7 w' (HNc.out w' hB) (HNx.out w' hB) (by omega) (by omega) HX5.out HX5.out (by decide) (by decide) (HLo.out w' hB)).mono ?_
      rintro e w1' ⟨rfl, y1⟩
      rw [Hbt.out]
      exact hK _ _ ⟨hS.put' (Xhn1.out ) (Xhn2.out ) (Xhlt.out ) (Xm34.out ), hB.trans (y1.mono hB.size)⟩
    · obtain ⟨hS, hB⟩ := hI
      have d34 := hr.2.2 _ rfl ⟨34, .data⟩ (by simp) rfl
      have e68 := hS.at_ (Xm34.out ) d34
      have dg := hr.2.2 _ rfl ⟨31, .guard⟩ (by simp) rfl
      have eg := hS.at_ (Xm31.out ) dg
      refine wpOp_on rfl rfl rfl rfl eg fun K' hK => ?_
      go_simp
      exact hK _ _ ⟨hS.put' (Xhn1.out ) (Xhn2.out ) (Xhlt.out ) (Xm35.out ), hB⟩
    · obtain ⟨hS, hB⟩ := hI
      have d31 := hr.2.2 _ rfl ⟨31, .data⟩ (by simp) rfl
      have e65 := hS.at_ (Xm31.out ) d31
      have d35 := hr.2.2 _ rfl ⟨35, .data⟩ (by simp) rfl
      have e69 := hS.at_ (Xm35.out ) d35
      refine wpOp_plain' rfl rfl fun K' hK => ?_
      go_simp
      exact hK _ _ ⟨hS.put' (Xhn1.out ) (Xhn2.out ) (Xhlt.out ) (Xm36.out ), hB⟩
end Go.Proofs.Ytojcciciinklbaa
