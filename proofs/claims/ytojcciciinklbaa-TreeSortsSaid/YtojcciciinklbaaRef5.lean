/- Walks: whether two trees are the same, as the document says it. No claim by itself. -/
import Derived.Test.YtojcciciinklbaaRef4
set_option linter.unusedSimpArgs false
set_option linter.unusedVariables false
namespace Go.Proofs.Ytojcciciinklbaa
open Go.RowKit

/-- An entry's cells, in memory. -/
theorem ents_at {L : Live} {w : World} {xs : List Ent} {A : Option Addr} {n c : Nat} (h : SliceR entR L w xs (.slice A n c)) (i : Nat) (hi : i < xs.length) : ∃ b off Ad cd Aa ca, A = some ⟨b, off, none⟩ ∧
    (nodeR 1).R L w (.mk xs[i].own []) (nodeV xs[i].own (.slice Ad xs[i].own.data.length cd) (.slice Aa xs[i].own.attrs.length ca) (.slice none 0 0)) ∧ xs[i].deep ≤ 1000000 ∧ xs[i].path.size ≤ big ∧
    w.cell? ⟨b, off + i * 14, none⟩ = some (.int .i64 xs[i].deep) ∧ w.cell? ⟨b, off + i * 14 + 1, none⟩ = some (.string xs[i].path) ∧ w.cell? ⟨b, off + i * 14 + 2, none⟩ = some (.int .i64 xs[i].own.kind) ∧ w.cell? ⟨b, off + i * 14 + 3, none⟩ = some (.string xs[i].own.name) ∧ w.cell? ⟨b, off + i * 14 + 4, none⟩ = some (.int .i64 xs[i].own.mode) ∧ w.cell? ⟨b, off + i * 14 + 5, none⟩ = some (.int .i64 xs[i].own.uid) ∧ w.cell? ⟨b, off + i * 14 + 6, none⟩ = some (.int .i64 xs[i].own.gid) ∧ w.cell? ⟨b, off + i * 14 + 7, none⟩ = some (.int .i64 xs[i].own.mtime) ∧
    w.cell? ⟨b, off + i * 14 + 8, none⟩ = some (.slice Ad xs[i].own.data.length cd) ∧ w.cell? ⟨b, off + i * 14 + 9, none⟩ = some (.string xs[i].own.target) ∧ w.cell? ⟨b, off + i * 14 + 10, none⟩ = some (.int .i64 xs[i].own.major) ∧ w.cell? ⟨b, off + i * 14 + 11, none⟩ = some (.int .i64 xs[i].own.minor) ∧ w.cell? ⟨b, off + i * 14 + 12, none⟩ = some (.slice Aa xs[i].own.attrs.length ca) ∧ w.cell? ⟨b, off + i * 14 + 13, none⟩ = some (.slice none 0 0) := by
  obtain ⟨b, off, cs, hA, ⟨vd, va, rfl, h1, h2, h3, h4, h5⟩, hc⟩ := h.get (by decide) i hi
  obtain ⟨Ad, cd, rfl, _, _, _⟩ := h4.form
  obtain ⟨Aa, ca, rfl, _, _, _⟩ := h5.form
  exact ⟨b, off, Ad, cd, Aa, ca, hA, ⟨_, _, _, rfl, h3, h4, h5, SliceR.nil _ _ _⟩, h1, h2, (hc 0 _ rfl).1, (hc 1 _ rfl).1, (hc 2 _ rfl).1, (hc 3 _ rfl).1, (hc 4 _ rfl).1, (hc 5 _ rfl).1, (hc 6 _ rfl).1, (hc 7 _ rfl).1, (hc 8 _ rfl).1, (hc 9 _ rfl).1, (hc 10 _ rfl).1, (hc 11 _ rfl).1, (hc 12 _ rfl).1, (hc 13 _ rfl).1⟩

theorem sownE_any (o p : Own) (Ad1 : Option Addr) (cd1 : Nat) (Aa1 : Option Addr) (ca1 : Nat) (Ad2 : Option Addr) (cd2 : Nat) (Aa2 : Option Addr) (ca2 : Nat) (L1 L2 : Live) (w : World)
    (h1 : (nodeR 1).R L1 w (.mk o []) (nodeV o (.slice Ad1 o.data.length cd1) (.slice Aa1 o.attrs.length ca1) (.slice none 0 0))) (h2 : (nodeR 1).R L2 w (.mk p []) (nodeV p (.slice Ad2 p.data.length cd2) (.slice Aa2 p.attrs.length ca2) (.slice none 0 0))) :
    Calls Try.prog 24 #[.agg #[.int .i64 o.kind, .string o.name, .int .i64 o.mode, .int .i64 o.uid, .int .i64 o.gid, .int .i64 o.mtime, .slice Ad1 o.data.length cd1, .string o.target, .int .i64 o.major, .int .i64 o.minor, .slice Aa1 o.attrs.length ca1, .slice none 0 0], .agg #[.int .i64 p.kind, .string p.name, .int .i64 p.mode, .int .i64 p.uid, .int .i64 p.gid, .int .i64 p.mtime, .slice Ad2 p.data.length cd2, .string p.target, .int .i64 p.major, .int .i64 p.minor, .slice Aa2 p.attrs.length ca2, .slice none 0 0]] w fun e w' => e = .returned (.bool (eqB o p)) ∧ Below w.heap.size w w' := sown_any 1 1 (.mk o []) (.mk p []) _ _ L1 L2 w h1 h2
theorem eqTo_map {α β : Type} {f : α → β} {xs ys : List α} {k : Nat} (h : eqTo (xs.map f) (ys.map f) k) (h1 : k < xs.length) (h2 : k < ys.length) (he : f xs[k] = f ys[k]) : eqTo (xs.map f) (ys.map f) (k + 1) := eqTo_succ h (by simpa using h1) (by simpa using h2) (by simpa using he)
theorem ne_map {α β : Type} {f : α → β} {xs ys : List α} {k : Nat} (h1 : k < xs.length) (h2 : k < ys.length) (h : f xs[k] ≠ f ys[k]) : xs.map f ≠ ys.map f := ne_get (k := k) (by simpa using h1) (by simpa using h2) (by simpa using h)

set_option maxRecDepth 100000 in
set_option maxHeartbeats 8000000 in
theorem rsame_any (n m : Nat) (x y : Nd) (cs ds : List Value) (L : Live) (w : World) (h1 : (nodeR n).R L w x cs) (h2 : (nodeR m).R L w y ds) (hc1 : count x ≤ 1000000) (hc2 : count y ≤ 1000000) (hn1 : namesOk x) (hn2 : namesOk y) (hn : n * 1001 ≤ 1000000) (hm : m * 1001 ≤ 1000000) (hok : LOk L w) :
    Calls Try.prog 30 #[.agg cs.toArray, .agg ds.toArray] w fun e w' => e = .returned (.bool (eqB x y)) ∧ Below w.heap.size w w' := by
  obtain ⟨m1, Ad1, cd1, Aa1, ca1, Ak1, ck1, hm1, rfl, hP1, _, _, _, _, _, _⟩ := node_open h1
  obtain ⟨m2, Ad2, cd2, Aa2, ca2, Ak2, ck2, hm2, rfl, hP2, _, _, _, _, _, _⟩ := node_open h2
  have H1 := Lib.hid h1; have H2 := Lib.hid h2
  have Hn1 := Lib.hid hn1; have Hn2 := Lib.hid hn2; have Hok := Lib.hid hok
  have Hsame := Lib.hid (flat_same x y)
  clear hm1 hm2 h1 h2 hP1 hP2 hn1 hn2 hok
  have c27 := cellsNode
  unfold nodeV
  go_enter Try.func30, Try.ntmps30
  go_wp2_with fail
  have HB : Hid (Boxed w (boxO x.own Ad1 cd1 Aa1 ca1 Ak1 x.kids.length ck1) (boxO y.own Ad2 cd2 Aa2 ca2 Ak2 y.kids.length ck2) ((w.alloc (boxO x.own Ad1 cd1 Aa1 ca1 Ak1 x.kids.length ck1)).alloc (boxO y.own Ad2 cd2 Aa2 ca2 Ak2 y.kids.length ck2))) := Lib.hid boxed
  have HX0 : Hid (Ext L w L ((w.alloc (boxO x.own Ad1 cd1 Aa1 ca1 Ak1 x.kids.length ck1)).alloc (boxO y.own Ad2 cd2 Aa2 ca2 Ak2 y.kids.length ck2))) := Lib.hid (((Ext.refl Hok.out).alloc _).alloc _)
  refine (flat_any n x _ ⟨#[]⟩ 0 L _ ((nodeR n).mono (Ext.sub Hok.out HX0.out) H1.out) hc1 Hn1.out (by simpa [ByteArray.size] using hn) (by omega) HX0.out.ok).mono ?_
  rintro e w3 ⟨v3, cells3, L3, rfl, ho3, hx3⟩
  have hX3 := HX0.out.trans hx3
  have HB3 := Lib.hid (HB.out.step hx3.below)
  obtain ⟨L4, hS4, _, hX4, _⟩ := ho3.publish_ext hX3 (by simp only [World.size_alloc]; omega) (by rw [flatN_len]; simp only [big]; omega)
  obtain ⟨A1, c1, rfl, _, _⟩ := ho3.form
  have HS4 := Lib.hid hS4; have HX4 := Lib.hid hX4
  clear ho3 hx3 hX3 hS4 hX4 HB HX0
  obtain ⟨z0, z1, zb, zs⟩ := HB3.out
  obtain ⟨p0, p1, p2, p3, p4, p5, p6, p7, p8, p9, p10, p11⟩ := twelve z1
  clear z0 z1 zb
  go_wp2_with fail
  refine (flat_any m y _ ⟨#[]⟩ 0 L4 _ ((nodeR m).mono (Ext.sub Hok.out HX4.out) H2.out) hc2 Hn2.out (by simpa [ByteArray.size] using hm) (by omega) HX4.out.ok).mono ?_
  rintro e w5 ⟨v5, cells5, L5, rfl, ho5, hx5⟩
  have hX5 := HX4.out.trans hx5
  have HS5 := Lib.hid (HS4.out.mono (Ext.sub HX4.out.ok hx5))
  obtain ⟨L6, hS6, hsub6, hX6, _⟩ := ho5.publish_ext hX5 (by have := HX4.out.below.size; omega) (by rw [flatN_len]; simp only [big]; omega)
  obtain ⟨A2, c2, rfl, _, _⟩ := ho5.form
  have HT5 := Lib.hid (HS5.out.mono hsub6)
  have HS6 := Lib.hid hS6; have HX6 := Lib.hid hX6.below
  clear ho5 hx5 hX5 hS6 hX6 hsub6 HS5 HS4 HX4 p0 p1 p2 p3 p4 p5 p6 p7 p8 p9 p10 p11 HB3 H1 H2
  obtain ⟨xs, hxs⟩ : ∃ xs, xs = flatN ⟨#[]⟩ 0 x := ⟨_, rfl⟩
  obtain ⟨ys, hys⟩ : ∃ ys, ys = flatN ⟨#[]⟩ 0 y := ⟨_, rfl⟩
  have hxl : xs.length ≤ 1000000 := by rw [hxs, flatN_len]; exact hc1
  have hyl : ys.length ≤ 1000000 := by rw [hys, flatN_len]; exact hc2
  rw [← hxs] at HT5 Hsame ⊢
  rw [← hys] at HS6 Hsame ⊢
  clear hxs hys
  by_cases hl : xs.length = ys.length
  · have hlI : (xs.length : Int) = (ys.length : Int) := by omega
    go_wp2_with fail
    go_loopw [7] (fun i wr => ∃ k : Nat, k ≤ xs.length ∧ i = .int .i64 k ∧ Hid (eqTo (xs.map Ent.two) (ys.map Ent.two) k) ∧ Below w5.heap.size w5 wr) (fun i _ => xs.length - (intOf i).toNat)
    case atStart => exact ⟨0, Nat.zero_le _, rfl, Lib.hid rfl, Below.refl _ _⟩
    case round =>
      obtain ⟨k, hk, rfl, HI, hB⟩ := hrel
      have HB := Lib.hid hB
      clear hB
      by_cases hlt : k < xs.length
      · have hlt2 : k < ys.length := by omega
        have hI1 : (k : Int) < (xs.length : Int) := by omega
        have hI2 : (k : Int) < (ys.length : Int) := by omega
        obtain ⟨b1, o1, Ad1, cd1, Aa1, ca1, rfl, hR1, _, _, c0, c1, c2, c3, c4, c5, c6, c7, c8, c9, c10, c11, c12, c13⟩ := ents_at HT5.out k hlt
        obtain ⟨b2, o2, Ad2, cd2, Aa2, ca2, rfl, hR2, _, _, e0, e1, e2, e3, e4, e5, e6, e7, e8, e9, e10, e11, e12, e13⟩ := ents_at HS6.out k hlt2
        have HJ : Hid (Ent.two xs[k] = Ent.two ys[k] → eqTo (xs.map Ent.two) (ys.map Ent.two) (k + 1)) := Lib.hid (eqTo_map HI.out hlt hlt2)
        have HN : Hid (Ent.two xs[k] ≠ Ent.two ys[k] → xs.map Ent.two ≠ ys.map Ent.two) := Lib.hid (ne_map hlt hlt2)
        obtain ⟨u, hu⟩ : ∃ a, a = xs[k] := ⟨_, rfl⟩
        obtain ⟨v, hv⟩ : ∃ a, a = ys[k] := ⟨_, rfl⟩
        rw [← hu] at HJ HN hR1 c0 c1 c2 c3 c4 c5 c6 c7 c8 c9 c10 c11 c12
        rw [← hv] at HJ HN hR2 e0 e1 e2 e3 e4 e5 e6 e7 e8 e9 e10 e11 e12
        have HS : Hid (∀ w', Below w5.heap.size w5 w' → w'.cell? ⟨b1, o1 + k * 14, none⟩ = some (.int .i64 u.deep) ∧ w'.cell? ⟨b1, o1 + k * 14 + 2, none⟩ = some (.int .i64 u.own.kind) ∧ w'.cell? ⟨b1, o1 + k * 14 + 3, none⟩ = some (.string u.own.name) ∧ w'.cell? ⟨b1, o1 + k * 14 + 4, none⟩ = some (.int .i64 u.own.mode) ∧ w'.cell? ⟨b1, o1 + k * 14 + 5, none⟩ = some (.int .i64 u.own.uid) ∧ w'.cell? ⟨b1, o1 + k * 14 + 6, none⟩ = some (.int .i64 u.own.gid) ∧ w'.cell? ⟨b1, o1 + k * 14 + 7, none⟩ = some (.int .i64 u.own.mtime) ∧ w'.cell? ⟨b1, o1 + k * 14 + 8, none⟩ = some (.slice Ad1 u.own.data.length cd1) ∧ w'.cell? ⟨b1, o1 + k * 14 + 9, none⟩ = some (.string u.own.target) ∧ w'.cell? ⟨b1, o1 + k * 14 + 10, none⟩ = some (.int .i64 u.own.major) ∧ w'.cell? ⟨b1, o1 + k * 14 + 11, none⟩ = some (.int .i64 u.own.minor) ∧ w'.cell? ⟨b1, o1 + k * 14 + 12, none⟩ = some (.slice Aa1 u.own.attrs.length ca1) ∧ w'.cell? ⟨b1, o1 + k * 14 + 13, none⟩ = some (.slice none 0 0) ∧ w'.cell? ⟨b2, o2 + k * 14, none⟩ = some (.int .i64 v.deep) ∧ w'.cell? ⟨b2, o2 + k * 14 + 2, none⟩ = some (.int .i64 v.own.kind) ∧ w'.cell? ⟨b2, o2 + k * 14 + 3, none⟩ = some (.string v.own.name) ∧ w'.cell? ⟨b2, o2 + k * 14 + 4, none⟩ = some (.int .i64 v.own.mode) ∧ w'.cell? ⟨b2, o2 + k * 14 + 5, none⟩ = some (.int .i64 v.own.uid) ∧ w'.cell? ⟨b2, o2 + k * 14 + 6, none⟩ = some (.int .i64 v.own.gid) ∧ w'.cell? ⟨b2, o2 + k * 14 + 7, none⟩ = some (.int .i64 v.own.mtime) ∧ w'.cell? ⟨b2, o2 + k * 14 + 8, none⟩ = some (.slice Ad2 v.own.data.length cd2) ∧ w'.cell? ⟨b2, o2 + k * 14 + 9, none⟩ = some (.string v.own.target) ∧ w'.cell? ⟨b2, o2 + k * 14 + 10, none⟩ = some (.int .i64 v.own.major) ∧ w'.cell? ⟨b2, o2 + k * 14 + 11, none⟩ = some (.int .i64 v.own.minor) ∧ w'.cell? ⟨b2, o2 + k * 14 + 12, none⟩ = some (.slice Aa2 v.own.attrs.length ca2) ∧ w'.cell? ⟨b2, o2 + k * 14 + 13, none⟩ = some (.slice none 0 0)) := Lib.hid (fun w' hb => by
          have kk : ∀ {p : Addr} {u : Value}, w5.cell? p = some u → w'.cell? p = some u := fun hu => (hb.cell (World.block_lt_of_cell? w5 _ hu)).trans hu
          exact ⟨kk c0, kk c2, kk c3, kk c4, kk c5, kk c6, kk c7, kk c8, kk c9, kk c10, kk c11, kk c12, kk c13, kk e0, kk e2, kk e3, kk e4, kk e5, kk e6, kk e7, kk e8, kk e9, kk e10, kk e11, kk e12, kk e13⟩)
        have HR1 := Lib.hid hR1; have HR2 := Lib.hid hR2
        clear hu hv hR1 hR2 c0 c1 c2 c3 c4 c5 c6 c7 c8 c9 c10 c11 c12 c13 e0 e1 e2 e3 e4 e5 e6 e7 e8 e9 e10 e11 e12 e13
        have HBd := Lib.hid (HB.out.drew)
        obtain ⟨c0, c2, c3, c4, c5, c6, c7, c8, c9, c10, c11, c12, c13, e0, e2, e3, e4, e5, e6, e7, e8, e9, e10, e11, e12, e13⟩ := HS.out _ HBd.out
        go_upto_region 8 with fail
        go_region_held3 (fun w' => w'.cell? ⟨b1, o1 + k * 14, none⟩ = some (.int .i64 u.deep) ∧ w'.cell? ⟨b1, o1 + k * 14 + 2, none⟩ = some (.int .i64 u.own.kind) ∧ w'.cell? ⟨b1, o1 + k * 14 + 3, none⟩ = some (.string u.own.name) ∧ w'.cell? ⟨b1, o1 + k * 14 + 4, none⟩ = some (.int .i64 u.own.mode) ∧ w'.cell? ⟨b1, o1 + k * 14 + 5, none⟩ = some (.int .i64 u.own.uid) ∧ w'.cell? ⟨b1, o1 + k * 14 + 6, none⟩ = some (.int .i64 u.own.gid) ∧ w'.cell? ⟨b1, o1 + k * 14 + 7, none⟩ = some (.int .i64 u.own.mtime) ∧ w'.cell? ⟨b1, o1 + k * 14 + 8, none⟩ = some (.slice Ad1 u.own.data.length cd1) ∧ w'.cell? ⟨b1, o1 + k * 14 + 9, none⟩ = some (.string u.own.target) ∧ w'.cell? ⟨b1, o1 + k * 14 + 10, none⟩ = some (.int .i64 u.own.major) ∧ w'.cell? ⟨b1, o1 + k * 14 + 11, none⟩ = some (.int .i64 u.own.minor) ∧ w'.cell? ⟨b1, o1 + k * 14 + 12, none⟩ = some (.slice Aa1 u.own.attrs.length ca1) ∧ w'.cell? ⟨b1, o1 + k * 14 + 13, none⟩ = some (.slice none 0 0) ∧ w'.cell? ⟨b2, o2 + k * 14, none⟩ = some (.int .i64 v.deep) ∧ w'.cell? ⟨b2, o2 + k * 14 + 2, none⟩ = some (.int .i64 v.own.kind) ∧ w'.cell? ⟨b2, o2 + k * 14 + 3, none⟩ = some (.string v.own.name) ∧ w'.cell? ⟨b2, o2 + k * 14 + 4, none⟩ = some (.int .i64 v.own.mode) ∧ w'.cell? ⟨b2, o2 + k * 14 + 5, none⟩ = some (.int .i64 v.own.uid) ∧ w'.cell? ⟨b2, o2 + k * 14 + 6, none⟩ = some (.int .i64 v.own.gid) ∧ w'.cell? ⟨b2, o2 + k * 14 + 7, none⟩ = some (.int .i64 v.own.mtime) ∧ w'.cell? ⟨b2, o2 + k * 14 + 8, none⟩ = some (.slice Ad2 v.own.data.length cd2) ∧ w'.cell? ⟨b2, o2 + k * 14 + 9, none⟩ = some (.string v.own.target) ∧ w'.cell? ⟨b2, o2 + k * 14 + 10, none⟩ = some (.int .i64 v.own.major) ∧ w'.cell? ⟨b2, o2 + k * 14 + 11, none⟩ = some (.int .i64 v.own.minor) ∧ w'.cell? ⟨b2, o2 + k * 14 + 12, none⟩ = some (.slice Aa2 v.own.attrs.length ca2) ∧ w'.cell? ⟨b2, o2 + k * 14 + 13, none⟩ = some (.slice none 0 0))
          (first | with_reducible exact HS.out _ HX7.out | with_reducible exact HS.out _ HBd.out)
          (first
          | (go_at_call 24
             refine (sownE_any u.own v.own _ _ _ _ _ _ _ _ L6 L6 _ ((nodeR 1).mono (sub_same HBd.out) HR1.out) ((nodeR 1).mono (sub_same HBd.out) HR2.out)).mono ?_
             rintro e w7 ⟨rfl, h7⟩
             have HX7 := Lib.hid (HBd.out.trans (h7.mono HBd.out.size))
             clear h7))
        all_goals
          clear c0 c2 c3 c4 c5 c6 c7 c8 c9 c10 c11 c12 c13 e0 e2 e3 e4 e5 e6 e7 e8 e9 e10 e11 e12 e13
          obtain ⟨c0, c2, c3, c4, c5, c6, c7, c8, c9, c10, c11, c12, c13, e0, e2, e3, e4, e5, e6, e7, e8, e9, e10, e11, e12, e13⟩ := HS.out _ HX7.out
          clear c2 c3 c4 c5 c6 c7 c8 c9 c10 c11 c12 c13 e2 e3 e4 e5 e6 e7 e8 e9 e10 e11 e12 e13 HBd
          by_cases heq : u.own = v.own
          · have hq : eqB u.own v.own = true := eqB_true heq
            rw [hq]
            by_cases hde : u.deep = v.deep
            · have HJ' : Hid (eqTo (xs.map Ent.two) (ys.map Ent.two) (k + 1)) := Lib.hid (HJ.out (by unfold Ent.two; rw [heq, hde]))
              have hdI : (u.deep : Int) = (v.deep : Int) := by omega
              have hdB : ((u.deep : Int) != (v.deep : Int)) = false := by rw [hdI]; simp
              clear HJ HN heq hq hde hdI HR1 HR2 HS
              go_wp2
              go_quiet (fail)
              go_wp2
              go_roundw
              case rel => exact ⟨k + 1, by omega, by go_num, HJ', by first | exact bdn HX7.out _ | exact HX7.out.drew | exact HX7.out⟩
              case measure => simp [intOf]; omega
            · have HF : Hid (eqB x y = false) := Lib.hid (eqB_false (fun e => by
                have := HN.out (fun h => hde (by have := congrArg Prod.fst h; simp only [Ent.two] at this; omega))
                exact this (Hsame.out.2 e)))
              have hdI : ¬ (u.deep : Int) = (v.deep : Int) := by omega
              have hdB : ((u.deep : Int) != (v.deep : Int)) = true := by rw [bne, beq_eq_false_iff_ne.2 hdI]; rfl
              clear HJ HN heq hq hde hdI HR1 HR2 HS
              go_wp2
              go_quiet (fail)
              go_wp2
              go_ret
              exact ⟨ret_bool (by rw [HF.out]), HX6.out.trans (by first | exact (bdn HX7.out _).mono HX6.out.size | exact HX7.out.drew.mono HX6.out.size)⟩
          · have hq : eqB u.own v.own = false := eqB_false heq
            have HF : Hid (eqB x y = false) := Lib.hid (eqB_false (fun e => by
              have := HN.out (fun h => heq (congrArg Prod.snd h))
              exact this (Hsame.out.2 e)))
            rw [hq]
            clear HJ HN heq hq HR1 HR2 HS
            go_wp2
            go_quiet (fail)
            go_wp2
            go_ret
            exact ⟨ret_bool (by rw [HF.out]), HX6.out.trans (by first | exact (bdn HX7.out _).mono HX6.out.size | exact HX7.out.drew.mono HX6.out.size)⟩
      · have hke : k = xs.length := by omega
        have hI1 : ¬ (k : Int) < (xs.length : Int) := by omega
        have HF : Hid (eqB x y = true) := Lib.hid (eqB_true (Hsame.out.1 (eqTo_all (by rw [List.length_map, ← hke]; exact HI.out) (by rw [List.length_map, List.length_map, hl]))))
        clear hke
        go_wp2
        go_ret
        exact ⟨ret_bool (by rw [HF.out]), HX6.out.trans (HB.out.mono HX6.out.size)⟩
  · have hlI : ¬ (xs.length : Int) = (ys.length : Int) := by omega
    have hlB : ((xs.length : Int) == (ys.length : Int)) = false := beq_eq_false_iff_ne.2 hlI
    have HF : Hid (eqB x y = false) := Lib.hid (eqB_false (fun e => hl (by have := congrArg List.length (Hsame.out.2 e); simpa using this)))
    clear hl
    go_wp2
    go_ret
    exact ⟨ret_bool (by rw [HF.out]), HX6.out⟩
end Go.Proofs.Ytojcciciinklbaa
