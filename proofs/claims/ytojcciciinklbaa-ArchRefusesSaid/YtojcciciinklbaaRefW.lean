/- ArchRefuses, walked: a tree that may not be has no archive. No claim by itself. -/
import Derived.Test.YtojcciciinklbaaWritesW
import Derived.Test.YtojcciciinklbaaRef13
import Derived.Test.YtojcciciinklbaaOdd
import Derived.Test.YtojcciciinklbaaSlots
import Derived.Deep.DeepCutAuto
import Derived.Deep.CutBlock
set_option linter.unusedSimpArgs false
set_option linter.unusedVariables false
namespace Go.Proofs.Ytojcciciinklbaa
open Go.RowKit

theorem mayGo_own : ∀ (l : List Ent) (K : List Int) (La : List ByteArray), mayGo l K La = true → ∀ e ∈ l, ownR e.own = true
  | [], _, _, _, e, he => absurd he (by simp)
  | a :: l, K, La, h, e, he => by
    rw [mayGo, Bool.and_eq_true] at h
    rcases List.mem_cons.1 he with rfl | he
    · have := h.1
      simp only [entB, Bool.and_eq_true] at this
      exact this.1
    · exact mayGo_own l _ _ h.2 e he
theorem may_own {x : Nd} (hd : depth x ≤ 60) (h : mayI x = 0) : ∀ e ∈ flatN ⟨#[]⟩ 0 x, ownR e.own = true := by
  rw [may_eq x (by omega)] at h
  unfold rmayI at h
  by_cases hb : (rootB x && rmayL (flatN ⟨#[]⟩ 0 x)) = true
  · rw [Bool.and_eq_true] at hb
    exact mayGo_own _ _ _ hb.2
  · rw [if_neg hb] at h; omega
/-- What is known of a tree that has an archive. -/
theorem arch_facts {x : Nd} (hc : count x ≤ 13) (hd : depth x ≤ 12) (hn : namesOk x) (h : mayI x = 0) : (archB x).length ≤ 100000 ∧ writeR (flatN ⟨#[]⟩ 0 x) = archB x ∧ (∀ e ∈ flatN ⟨#[]⟩ 0 x, e.deep ≤ 12 ∧ ownR e.own = true ∧ e.own.name.size ≤ 1000) := by
  have hw := write_flat x ⟨#[]⟩ (dirs_may h)
  have hf : ∀ e ∈ flatN ⟨#[]⟩ 0 x, e.deep ≤ 12 ∧ ownR e.own = true ∧ e.own.name.size ≤ 1000 := fun e he => by
    have h1 := deepest_mem he
    rw [deepest_flat] at h1
    exact ⟨by omega, may_own (by omega) h e he, flatN_names hn e he⟩
  refine ⟨?_, hw, hf⟩
  rw [← hw]
  unfold writeR
  have h1 := rowW_len (flatN ⟨#[]⟩ 0 x) (-1) fun e he => by
    obtain ⟨h2, h3, h4⟩ := hf e he
    exact ⟨ownW_len (own_facts h3) h4, by omega⟩
  rw [flatN_len] at h1
  have h2 : magicB.length = 4 := rfl
  rw [List.length_append]
  have h3 := Nat.mul_le_mul_right 6101 hc
  omega

set_option maxRecDepth 100000 in
set_option maxHeartbeats 4000000 in
theorem rbytes_any (n : Nat) (x : Nd) (cs : List Value) (L : Live) (w : World) (h : (nodeR n).R L w x cs) (hok : LOk L w) (hc : count x ≤ 13) (hd : depth x ≤ 12) (hn : namesOk x) (hn2 : n * 1001 ≤ 1000000) (hm : mayI x = 0) :
    Calls Try.prog 40 #[.agg cs.toArray] w fun e w' => ∃ v, e = .returned v ∧ Blk w' w.heap.size 5 1 v (archB x).length (bytesV (archB x)) ∧ Below w.heap.size w w' := by
  have HR := Lib.hid h
  obtain ⟨m, Ad, cd, Aa, ca, Ak, ck, hm', rfl, hP, d1, d2, a1, a2, k1, k2⟩ := node_open h
  obtain ⟨q1, q2, q3⟩ := arch_facts hc hd hn hm
  have Hok := Lib.hid hok; have Hn := Lib.hid hn; have HQ2 := Lib.hid q2; have HQ3 := Lib.hid q3
  clear h hP hm' hm hok hn q2 q3
  have c27 := cellsNode
  unfold nodeV
  go_enter Try.func40, Try.ntmps40
  go_wp2_with fail
  have HX0 : Hid (Ext L w L (w.alloc (boxO x.own Ad cd Aa ca Ak x.kids.length ck))) := Lib.hid ((Ext.refl Hok.out).alloc _)
  refine (flat_any n x _ ⟨#[]⟩ 0 L _ ((nodeR n).mono (Ext.sub Hok.out HX0.out) HR.out) (by omega) Hn.out (by simpa [ByteArray.size] using hn2) (by omega) HX0.out.ok).mono ?_
  rintro e w3 ⟨v3, cells3, L3, rfl, ho3, hx3⟩
  have hfl : (flatN ⟨#[]⟩ 0 x).length ≤ 13 := by rw [flatN_len]; exact hc
  obtain ⟨L4, hS4, _, hX4, _⟩ := ho3.publish_ext (HX0.out.trans hx3) (by simp only [World.size_alloc]; omega) (by simp only [big]; omega)
  have HS4 := Lib.hid hS4; have HX4 := Lib.hid hX4
  clear ho3 hx3 hS4 hX4 HX0
  go_wp2_with fail
  refine (rwrite_any (flatN ⟨#[]⟩ 0 x) v3 L4 w3 HS4.out (by omega) (fun e he => by have := HQ3.out e he; omega) (fun e he => (HQ3.out e he).2)).mono ?_
  rintro e w5 ⟨v5, rfl, hB5, hX5⟩
  rw [HQ2.out] at hB5
  have HB5 := Lib.hid hB5; have HX5 := Lib.hid hX5
  have hs := HX4.out.below.size
  clear hB5 hX5
  go_wp2_with fail
  go_ret
  exact ⟨_, rfl, HB5.out.lower hs, HX4.out.below.trans (HX5.out.mono hs)⟩

/-- One cell of the k-th node is another one. -/
theorem Out.cell1 {L : Live} {w : World} {base : Nat} {v : Value} {xs : List Ent} {cells : List Value} (h : Out entR L w base 42 v xs cells) (k : Nat) (hk : k < xs.length) {g : Nat} (hg : v.ownBlock = some g) (j : Nat) (hj : j < 12) (u : Value) (o : Own)
    (hset : ∀ vd va, (nodeV xs[k].own vd va (.slice none 0 0)).set j u = nodeV o vd va (.slice none 0 0)) (hF : Fits o) (hD : o.data = xs[k].own.data) (hA : o.attrs = xs[k].own.attrs) :
    ∃ cells', Out entR L (w.setCell ⟨g, k * 14 + 2 + j, none⟩ u) base 42 v (oddE xs k o) cells' := by
  obtain ⟨g', cap, Ad, cd, Aa, ca, rfl, _, _, _, _, _, hcs, hlen, e1, e2, e3, e4, e5, _⟩ := out_at h k hk
  have hd : oddE xs k o = xs.set k ⟨xs[k].deep, xs[k].path, o⟩ := by
    unfold oddE
    rw [List.getD, List.getElem?_eq_getElem hk]; rfl
  rw [hd]
  have e4' : SliceR Rp.byte L w o.data (.slice Ad xs[k].own.data.length cd) := by rw [hD]; exact e4
  have e5' : SliceR attrR L w o.attrs (.slice Aa xs[k].own.attrs.length ca) := by rw [hA]; exact e5
  have := h.put hk hg (y := ⟨xs[k].deep, xs[k].path, o⟩) (o := k * 14 + 2 + j) (vs := [u]) (new := .int .i64 xs[k].deep :: .string xs[k].path :: nodeV o (.slice Ad xs[k].own.data.length cd) (.slice Aa xs[k].own.attrs.length ca) (.slice none 0 0)) ⟨_, _, rfl, e1, e2, hF, e4', e5'⟩ ?_
  · exact ⟨_, this⟩
  show putL cells (k * 14 + 2 + j) [u] = cells.take (k * 14) ++ _ ++ cells.drop ((k + 1) * 14)
  obtain ⟨a, ha⟩ : ∃ a, a = cells.take (k * 14) := ⟨_, rfl⟩
  obtain ⟨b, hb⟩ : ∃ b, b = cells.drop ((k + 1) * 14) := ⟨_, rfl⟩
  have hk14 : k * 14 + 14 ≤ xs.length * 14 := by omega
  have hal : a.length = k * 14 := by rw [ha, List.length_take]; omega
  rw [← ha, ← hb] at hcs ⊢
  show cells.set (k * 14 + 2 + j) u = _
  rw [← hcs, List.append_assoc, List.append_assoc, List.set_append_right _ _ (by omega), hal, show k * 14 + 2 + j - k * 14 = j + 1 + 1 from by omega, List.set_append_left _ _ (by simp [nodeV]; omega), List.set_cons_succ, List.set_cons_succ, hset]

set_option maxRecDepth 100000 in
set_option maxHeartbeats 1200000 in
theorem refuses_walk (gs : List GV) (v : Value) (at_ which n : Int) (s : ByteArray) (W : World) (hS : SliceR gR (Lw W) W gs v) (h1 : I64 at_) (h2 : I64 which) (h3 : I64 n) (h4 : s.size ≤ big) :
    Calls Try.prog 10 #[v, .int .i64 at_, .int .i64 which, .int .i64 n, .string s] W fun e w' => e = .returned (.bool true) ∧ Below W.heap.size W w' := by
  have HS := Lib.hid hS
  have H3 := Lib.hid h3
  unfold I64 at h1 h2 h3
  unfold big at h4
  clear hS
  have hl := row_len gs
  have hp := row_pos gs
  have c27 := cellsNode
  go_enter Try.func10, Try.ntmps10
  go_wp2_with fail
  refine (rrow_any gs v (Lw W) W HS.out (Lw_ok W)).mono ?_
  rintro e w3 ⟨v3, cells3, L3, rfl, ho, hx3⟩
  have hn1 : (0 : Int) < ((rowF gs).length : Int) := by omega
  have HO := Lib.hid ho; have HX3 := Lib.hid hx3
  clear ho hx3
  obtain ⟨g, cap, Ad, cd, Aa, ca, hv3b, hc1, hc2, hgb, hglt, hdead, _⟩ := out_at HO.out 0 hp
  subst hv3b
  have Hdead := Lib.hid hdead
  clear hdead
  go_wp2_with fail
  refine (around_any at_ ((rowF gs).length : Int) _ h1.1 h1.2 hn1 (by omega)).mono ?_
  rintro e w4 ⟨rfl, rfl⟩
  have hr := around_range at_ ((rowF gs).length : Int) hn1
  obtain ⟨k, hk⟩ : ∃ k : Nat, around at_ ((rowF gs).length : Int) = (k : Int) := ⟨(around at_ ((rowF gs).length : Int)).toNat, by omega⟩
  rw [hk] at hr ⊢
  have hkl : k < (rowF gs).length := by omega
  clear hk
  obtain ⟨g', cap', Ad, cd, Aa, ca, hv', _, _, _, _, _, hcs, hclen, _, _, hfu, hDu, hAu, hcell⟩ := out_at HO.out k hkl
  injection hv' with h1' h2' h3'
  injection h1' with h1'
  injection h1' with h1' _ _
  subst h1' h3'
  have HTu : Hid (Tiny (rowF gs)[k].own) := Lib.hid (rowF_tiny gs _ (List.getElem_mem hkl))
  have HFu := Lib.hid hfu
  have hrow : ∀ j, j < 12 → ∃ x, w3.cell? ⟨g, k * 14 + 2 + j, none⟩ = some x ∧ w3.frozen? ⟨g, k * 14 + 2 + j, none⟩ = false := fun j hj => by
    have hkc : k * 14 + 14 ≤ cells3.length := by rw [hclen]; omega
    have hu := List.getElem?_eq_getElem (l := cells3) (i := k * 14 + 2 + j) (by omega)
    exact ⟨_, hcell _ _ hu⟩
  obtain ⟨y0, m0, f0⟩ := hrow 0 (by decide)
  obtain ⟨y1, m1, f1⟩ := hrow 1 (by decide)
  obtain ⟨y2, m2, f2⟩ := hrow 2 (by decide)
  rw [Nat.add_zero] at m0 f0
  clear hrow hcell hcs hclen hfu hDu hAu
  go_wp2_with fail
  refine (around_any which 3 _ h2.1 h2.2 (by decide) (by decide)).mono ?_
  rintro e w5 ⟨rfl, rfl⟩
  have hq := around_range which 3 (by decide)
  obtain ⟨q, hqe⟩ : ∃ q, q = around which 3 := ⟨_, rfl⟩
  rw [← hqe] at hq ⊢
  clear hqe
  go_upto_block 0 with fail
  go_cut [11] (fun z wx => z = .slice (some ⟨g, 0, none⟩) (rowF gs).length cap ∧ ∃ (o' : Own) (cells' : List Value), Hid (Tiny o') ∧ Hid (Out entR L3 wx W.heap.size 42 (.slice (some ⟨g, 0, none⟩) (rowF gs).length cap) (oddE (rowF gs) k o') cells') ∧ Hid (Ext (Lw W) W L3 wx))
  case first =>
    have hcase : q = 0 ∨ q = 1 ∨ q = 2 := by omega
    have HSub : Hid (∀ j u, Ext (Lw W) W L3 (w3.setCell ⟨g, j, none⟩ u)) := Lib.hid (fun j u => HX3.out.setCell (p := ⟨g, j, none⟩) hgb u)
    rcases hcase with rfl | rfl | rfl
    · have HN : Hid (∃ cells', Out entR L3 (w3.setCell ⟨g, k * 14 + 2 + 2, none⟩ (.int .i64 n)) W.heap.size 42 (.slice (some ⟨g, 0, none⟩) (rowF gs).length cap) (oddE (rowF gs) k { (rowF gs)[k].own with mode := n }) cells') := Lib.hid (HO.out.cell1 k hkl rfl 2 (by decide) (.int .i64 n) _ (fun _ _ => rfl) ⟨HFu.out.kind, H3.out, HFu.out.uid, HFu.out.gid, HFu.out.mtime, HFu.out.major, HFu.out.minor, HFu.out.name, HFu.out.target⟩ rfl rfl)
      clear m0 f0 m1 f1
      go_wp2_with fail
      go_meet
      case rel => exact ⟨rfl, { (rowF gs)[k].own with mode := n }, HN.out.choose, Lib.hid ⟨HTu.out.name, HTu.out.data, HTu.out.attrs⟩, Lib.hid HN.out.choose_spec, Lib.hid (HSub.out _ _)⟩
    · have HN : Hid (∃ cells', Out entR L3 (w3.setCell ⟨g, k * 14 + 2, none⟩ (.int .i64 n)) W.heap.size 42 (.slice (some ⟨g, 0, none⟩) (rowF gs).length cap) (oddE (rowF gs) k { (rowF gs)[k].own with kind := n }) cells') := Lib.hid (HO.out.cell1 k hkl rfl 0 (by decide) (.int .i64 n) _ (fun _ _ => rfl) ⟨H3.out, HFu.out.mode, HFu.out.uid, HFu.out.gid, HFu.out.mtime, HFu.out.major, HFu.out.minor, HFu.out.name, HFu.out.target⟩ rfl rfl)
      clear m1 f1 m2 f2
      go_wp2_with fail
      go_meet
      case rel => exact ⟨rfl, { (rowF gs)[k].own with kind := n }, HN.out.choose, Lib.hid ⟨HTu.out.name, HTu.out.data, HTu.out.attrs⟩, Lib.hid HN.out.choose_spec, Lib.hid (HSub.out _ _)⟩
    · have hsz := shortS_size s 30
      have HN : Hid (∃ cells', Out entR L3 (w3.setCell ⟨g, k * 14 + 2 + 1, none⟩ (.string (shortS s 30))) W.heap.size 42 (.slice (some ⟨g, 0, none⟩) (rowF gs).length cap) (oddE (rowF gs) k { (rowF gs)[k].own with name := shortS s 30 }) cells') := Lib.hid (HO.out.cell1 k hkl rfl 1 (by decide) (.string (shortS s 30)) _ (fun _ _ => rfl) ⟨HFu.out.kind, HFu.out.mode, HFu.out.uid, HFu.out.gid, HFu.out.mtime, HFu.out.major, HFu.out.minor, by show (shortS s 30).size ≤ big; simp only [big]; omega, HFu.out.target⟩ rfl rfl)
      clear m0 f0 m2 f2
      go_wp2_with fail
      refine (short_any s 30 _ (by decide) h4).mono ?_
      rintro e w6 ⟨rfl, rfl⟩
      go_wp2_with fail
      go_meet
      case rel => exact ⟨rfl, { (rowF gs)[k].own with name := shortS s 30 }, HN.out.choose, Lib.hid ⟨by show (shortS s 30).size ≤ 1000; omega, HTu.out.data, HTu.out.attrs⟩, Lib.hid HN.out.choose_spec, Lib.hid (HSub.out _ _)⟩
  case rest =>
    obtain ⟨rfl, o', cells', HTo, HOo, HXo⟩ := hcut
    obtain ⟨w6, hw6⟩ : ∃ x, x = wc := ⟨_, rfl⟩
    subst hw6
    have hto := odd_tree gs k o' HTo.out
    obtain ⟨rows, hrows⟩ : ∃ r, r = oddE (rowF gs) k o' := ⟨_, rfl⟩
    have hrl : rows.length = (rowF gs).length := by rw [hrows]; unfold oddE; rw [List.length_set]
    rw [← hrows] at HOo hto
    obtain ⟨t1, t2, t3, t4⟩ := hto
    have Ht3 := Lib.hid t3
    obtain ⟨L4, hS4, _, hX4, _⟩ := HOo.out.publish_ext HXo.out (Nat.le_refl _) (by simp only [big]; omega)
    have hrl1 : 0 < rows.length := by omega
    have hrl2 : rows.length ≤ 13 := by omega
    clear hrl
    have HS4 := Lib.hid hS4; have HX4 := Lib.hid hX4
    clear hS4 hX4 HOo HXo HTo hrows t3 t4 HO HX3 HTu HFu m0 m1 m2 f0 f1 f2
    go_wp2_with fail
    refine (rtree_any 13 rows 0 _ L4 w6 HS4.out (by omega) (by omega) (by omega) HX4.out.ok).mono ?_
    rintro e w7 ⟨cs7, L7, rfl, h7, x7⟩
    obtain ⟨m, Ad, cd, Aa, ca, Ak, ck, hm, rfl, hP, _, _, _, _, _, _⟩ := node_open h7
    have hM : treeF (rows.drop 0) = treeF rows := rfl
    rw [hM] at h7 hP ⊢
    obtain ⟨x, hx⟩ : ∃ x, x = treeF rows := ⟨_, rfl⟩
    rw [← hx] at h7 hP t1 t2 Ht3 ⊢
    have H7 := Lib.hid h7; have HX7 := Lib.hid (HX4.out.trans x7)
    clear h7 hP hm hx x7 hM HX4 HS4
    unfold nodeV
    go_upto_region 10 with fail
    obtain ⟨w8, hw8⟩ : ∃ w8, w8 = w7.alloc (boxO x.own Ad cd Aa ca Ak x.kids.length ck) := ⟨_, rfl⟩
    have HX8 : Hid (Ext (Lw W) W L7 w8) := Lib.hid (by rw [hw8]; exact HX7.out.alloc _)
    have HB8 : Hid (Box1 w7 (boxO x.own Ad cd Aa ca Ak x.kids.length ck) w8) := Lib.hid (by rw [hw8]; exact box1)
    have H8 : Hid ((nodeR 13).R L7 w8 x (nodeV x.own (.slice Ad x.own.data.length cd) (.slice Aa x.own.attrs.length ca) (.slice Ak x.kids.length ck))) := Lib.hid ((nodeR 13).mono (sub_same (by rw [hw8]; exact (Below.refl _ _).alloc (Nat.le_refl _) _)) H7.out)
    have hlt8 : w7.heap.size < w8.heap.size := by rw [hw8]; simp
    unfold boxO at hw8
    rw [← hw8]
    clear hw8 H7 HX7
    have HSt : Hid (∀ w', Below w8.heap.size w8 w' → (w'.cell? ⟨w7.heap.size, 0, none⟩ = some (.int .i64 x.own.kind) ∧ w'.cell? ⟨w7.heap.size, 1, none⟩ = some (.string x.own.name) ∧ w'.cell? ⟨w7.heap.size, 2, none⟩ = some (.int .i64 x.own.mode) ∧ w'.cell? ⟨w7.heap.size, 3, none⟩ = some (.int .i64 x.own.uid) ∧ w'.cell? ⟨w7.heap.size, 4, none⟩ = some (.int .i64 x.own.gid) ∧ w'.cell? ⟨w7.heap.size, 5, none⟩ = some (.int .i64 x.own.mtime) ∧ w'.cell? ⟨w7.heap.size, 6, none⟩ = some (.slice Ad x.own.data.length cd) ∧ w'.cell? ⟨w7.heap.size, 7, none⟩ = some (.string x.own.target) ∧ w'.cell? ⟨w7.heap.size, 8, none⟩ = some (.int .i64 x.own.major) ∧ w'.cell? ⟨w7.heap.size, 9, none⟩ = some (.int .i64 x.own.minor) ∧ w'.cell? ⟨w7.heap.size, 10, none⟩ = some (.slice Aa x.own.attrs.length ca) ∧ w'.cell? ⟨w7.heap.size, 11, none⟩ = some (.slice Ak x.kids.length ck))) := Lib.hid (fun w' hb => by
      obtain ⟨n0, n1, n2, n3, n4, n5, n6, n7, n8, n9, n10, n11⟩ := HB8.out.cells
      have kk : ∀ {j : Nat} {u : Value}, w8.cell? ⟨w7.heap.size, j, none⟩ = some u → w'.cell? ⟨w7.heap.size, j, none⟩ = some u := fun hu => (hb.cell hlt8).trans hu
      exact ⟨kk n0, kk n1, kk n2, kk n3, kk n4, kk n5, kk n6, kk n7, kk n8, kk n9, kk n10, kk n11⟩)
    have HN8 : Hid (∀ w', Below w8.heap.size w8 w' → (nodeR 13).R L7 w' x (nodeV x.own (.slice Ad x.own.data.length cd) (.slice Aa x.own.attrs.length ca) (.slice Ak x.kids.length ck)) ∧ LOk L7 w') := Lib.hid (fun w' hb => ⟨(nodeR 13).mono (sub_same hb) H8.out, fun b i h => Nat.lt_of_lt_of_le (HX8.out.ok b i h) hb.size⟩)
    have HW8 : Hid (Below W.heap.size W w8) := Lib.hid HX8.out.below
    clear HB8 H8 HX8
    have hmr : mayI x = rmayI x := may_eq x (by omega)
    have Hmr := Lib.hid hmr
    clear hmr
    obtain ⟨n0, n1, n2, n3, n4, n5, n6, n7, n8, n9, n10, n11⟩ := HSt.out w8 (Below.refl _ _)
    have hWs := HW8.out.size
    by_cases hm0 : mayI x = 0
    · have Hm0 := Lib.hid hm0
      have HA := Lib.hid (arch_facts t1 t2 Ht3.out hm0)
      clear hm0
      go_wp2_with fail
      refine (awrite_ok 13 x _ L7 w8 (HN8.out _ (Below.refl _ _)).1 (HN8.out _ (Below.refl _ _)).2 (by omega) Hm0.out (by have := HA.out.1; omega)).mono ?_
      rintro e w9 ⟨v9, rfl, h9, y9⟩
      obtain ⟨A9, c9, rfl, _, _⟩ := h9.form
      obtain ⟨ab, hab⟩ : ∃ a, a = archB x := ⟨_, rfl⟩
      have hal : ab.length ≤ 100000 := by rw [hab]; exact HA.out.1
      rw [← hab] at h9 ⊢
      have Hab := Lib.hid hab
      have H9 := Lib.hid h9; have HY9 := Lib.hid y9
      clear h9 y9 hab n0 n1 n2 n3 n4 n5 n6 n7 n8 n9 n10 n11
      obtain ⟨n0, n1, n2, n3, n4, n5, n6, n7, n8, n9, n10, n11⟩ := HSt.out w9 HY9.out
      go_wp2_with fail
      refine (rmay_any 13 x _ L7 w9 (HN8.out _ HY9.out).1 (by omega) Ht3.out (by decide) (by omega) (HN8.out _ HY9.out).2).mono ?_
      rintro e w10 ⟨rfl, y10⟩
      rw [← Hmr.out, Hm0.out]
      have HY10 : Hid (Below w8.heap.size w8 w10) := Lib.hid (HY9.out.trans (y10.mono HY9.out.size))
      have H10 : Hid (Blk w10 w8.heap.size 5 1 (.slice A9 ab.length c9) ab.length (bytesV ab)) := Lib.hid (H9.out.below y10)
      clear y10 H9 HY9 n0 n1 n2 n3 n4 n5 n6 n7 n8 n9 n10 n11
      go_upto_region 14 with fail
      obtain ⟨sx, hsx⟩ : ∃ z, z = mkS ab := ⟨_, rfl⟩
      have Hsx := Lib.hid hsx
      clear hsx
      have HSt2 : Hid (∀ w', Below w10.heap.size w10 w' → (w'.cell? ⟨w7.heap.size, 0, none⟩ = some (.int .i64 x.own.kind) ∧ w'.cell? ⟨w7.heap.size, 1, none⟩ = some (.string x.own.name) ∧ w'.cell? ⟨w7.heap.size, 2, none⟩ = some (.int .i64 x.own.mode) ∧ w'.cell? ⟨w7.heap.size, 3, none⟩ = some (.int .i64 x.own.uid) ∧ w'.cell? ⟨w7.heap.size, 4, none⟩ = some (.int .i64 x.own.gid) ∧ w'.cell? ⟨w7.heap.size, 5, none⟩ = some (.int .i64 x.own.mtime) ∧ w'.cell? ⟨w7.heap.size, 6, none⟩ = some (.slice Ad x.own.data.length cd) ∧ w'.cell? ⟨w7.heap.size, 7, none⟩ = some (.string x.own.target) ∧ w'.cell? ⟨w7.heap.size, 8, none⟩ = some (.int .i64 x.own.major) ∧ w'.cell? ⟨w7.heap.size, 9, none⟩ = some (.int .i64 x.own.minor) ∧ w'.cell? ⟨w7.heap.size, 10, none⟩ = some (.slice Aa x.own.attrs.length ca) ∧ w'.cell? ⟨w7.heap.size, 11, none⟩ = some (.slice Ak x.kids.length ck)) ∧ (convert 23 9 (.slice A9 ab.length c9)).run Try.prog w' = .ok (.string sx) w') := Lib.hid (fun w' hb => by
        refine ⟨HSt.out w' (HY10.out.trans (hb.mono HY10.out.size)), ?_⟩
        rw [Hsx.out]
        exact ((H10.out.below hb).reads (d := Rp.byte) (L := fun _ _ => True) (xs := ab) (bytes_reps _ _ _) rfl (by simp only [big]; omega) (fun _ _ _ _ => trivial)).toStr (P := Try.prog) 23 5 9 Try.underlying23 Try.underlying5 Try.underlying9)
      clear HSt H10
      have hs10 := HY10.out.size
      refine wp_named _ ?_
      intro l0 hl0
      obtain ⟨E, hE⟩ : ∃ E : Option Addr → Nat → List (Nat × Nat × Value), E = fun A7 c7 => [(0, 73, .int .i64 0), (1, 74, .bool false), (2, 75, .bool false), (3, 76, .slice A9 ab.length c9), (4, 77, .string sx), (5, 78, .agg #[.int .i64 x.own.kind, .string x.own.name, .int .i64 x.own.mode, .int .i64 x.own.uid, .int .i64 x.own.gid, .int .i64 x.own.mtime, .slice Ad x.own.data.length cd, .string x.own.target, .int .i64 x.own.major, .int .i64 x.own.minor, .slice Aa x.own.attrs.length ca, .slice Ak x.kids.length ck]), (6, 79, .slice A7 ab.length c7), (7, 80, .string sx), (8, 81, .bool true), (9, 82, .bool true), (10, 83, .bool true), (11, 84, .bool true), (12, 85, .bool true), (13, 10, .bool true)] := ⟨_, rfl⟩
      have hlen : l0.length = 86 := by rw [hl0]; rfl
      have hE1 : ∀ (A7 : Option Addr) (c7 : Nat), (E A7 c7).map (fun t => t.1) = [0, 1, 2, 3, 4, 5, 6, 7, 8, 9, 10, 11, 12, 13] := fun A7 c7 => by rw [hE]; rfl
      have hE2 : ∀ (A7 : Option Addr) (c7 : Nat), (E A7 c7).map (fun t => t.2.1) = [73, 74, 75, 76, 77, 78, 79, 80, 81, 82, 83, 84, 85, 10] := fun A7 c7 => by rw [hE]; rfl
      have m0 : ∀ (A7 : Option Addr) (c7 : Nat), (0, 73, (.int .i64 0 : Value)) ∈ E A7 c7 := fun A7 c7 => by rw [hE]; simp
      have m1 : ∀ (A7 : Option Addr) (c7 : Nat), (1, 74, (.bool false : Value)) ∈ E A7 c7 := fun A7 c7 => by rw [hE]; simp
      have m2 : ∀ (A7 : Option Addr) (c7 : Nat), (2, 75, (.bool false : Value)) ∈ E A7 c7 := fun A7 c7 => by rw [hE]; simp
      have m3 : ∀ (A7 : Option Addr) (c7 : Nat), (3, 76, (.slice A9 ab.length c9 : Value)) ∈ E A7 c7 := fun A7 c7 => by rw [hE]; simp
      have m4 : ∀ (A7 : Option Addr) (c7 : Nat), (4, 77, (.string sx : Value)) ∈ E A7 c7 := fun A7 c7 => by rw [hE]; simp
      have m5 : ∀ (A7 : Option Addr) (c7 : Nat), (5, 78, (.agg #[.int .i64 x.own.kind, .string x.own.name, .int .i64 x.own.mode, .int .i64 x.own.uid, .int .i64 x.own.gid, .int .i64 x.own.mtime, .slice Ad x.own.data.length cd, .string x.own.target, .int .i64 x.own.major, .int .i64 x.own.minor, .slice Aa x.own.attrs.length ca, .slice Ak x.kids.length ck] : Value)) ∈ E A7 c7 := fun A7 c7 => by rw [hE]; simp
      have m6 : ∀ (A7 : Option Addr) (c7 : Nat), (6, 79, (.slice A7 ab.length c7 : Value)) ∈ E A7 c7 := fun A7 c7 => by rw [hE]; simp
      have m7 : ∀ (A7 : Option Addr) (c7 : Nat), (7, 80, (.string sx : Value)) ∈ E A7 c7 := fun A7 c7 => by rw [hE]; simp
      have m8 : ∀ (A7 : Option Addr) (c7 : Nat), (8, 81, (.bool true : Value)) ∈ E A7 c7 := fun A7 c7 => by rw [hE]; simp
      have m9 : ∀ (A7 : Option Addr) (c7 : Nat), (9, 82, (.bool true : Value)) ∈ E A7 c7 := fun A7 c7 => by rw [hE]; simp
      have m10 : ∀ (A7 : Option Addr) (c7 : Nat), (10, 83, (.bool true : Value)) ∈ E A7 c7 := fun A7 c7 => by rw [hE]; simp
      have m11 : ∀ (A7 : Option Addr) (c7 : Nat), (11, 84, (.bool true : Value)) ∈ E A7 c7 := fun A7 c7 => by rw [hE]; simp
      have m12 : ∀ (A7 : Option Addr) (c7 : Nat), (12, 85, (.bool true : Value)) ∈ E A7 c7 := fun A7 c7 => by rw [hE]; simp
      have m13 : ∀ (A7 : Option Addr) (c7 : Nat), (13, 10, (.bool true : Value)) ∈ E A7 c7 := fun A7 c7 => by rw [hE]; simp
      have hn1 : ∀ (A7 : Option Addr) (c7 : Nat), ((E A7 c7).map fun t => t.1).Nodup := fun A7 c7 => by rw [hE1]; decide
      have hn2 : ∀ (A7 : Option Addr) (c7 : Nat), ((E A7 c7).map fun t => t.2.1).Nodup := fun A7 c7 => by rw [hE2]; decide
      have hlt : ∀ (A7 : Option Addr) (c7 : Nat), ∀ t ∈ E A7 c7, t.2.1 < l0.length := fun A7 c7 => fun t ht => by
        have h1 : t.2.1 ∈ (E A7 c7).map fun t => t.2.1 := List.mem_map.2 ⟨t, ht, rfl⟩
        rw [hE2] at h1
        rw [hlen]
        simp only [List.mem_cons, List.mem_nil_iff, or_false] at h1
        omega
      have Xm0 := Lib.hid m0
      have Xm1 := Lib.hid m1
      have Xm2 := Lib.hid m2
      have Xm3 := Lib.hid m3
      have Xm4 := Lib.hid m4
      have Xm5 := Lib.hid m5
      have Xm6 := Lib.hid m6
      have Xm7 := Lib.hid m7
      have Xm8 := Lib.hid m8
      have Xm9 := Lib.hid m9
      have Xm10 := Lib.hid m10
      have Xm11 := Lib.hid m11
      have Xm12 := Lib.hid m12
      have Xm13 := Lib.hid m13
      have Xhn1 := Lib.hid hn1; have Xhn2 := Lib.hid hn2; have Xhlt := Lib.hid hlt; have XhE1 := Lib.hid hE1; have XhE2 := Lib.hid hE2; have XhE := Lib.hid hE; have Xl0 := Lib.hid hl0
      clear m0 m1 m2 m3 m4 m5 m6 m7 m8 m9 m10 m11 m12 m13 hn1 hn2 hlt hE1 hE2 hE hlen hl0
      refine wp_region_any (by kernel_rfl) ?_
      refine wpAny_inv (by kernel_rfl) (fun listed a' w' => ∃ (A7 : Option Addr) (c7 : Nat), Slots (E A7 c7) l0 listed a' ∧ Below w10.heap.size w10 w' ∧ (listed.getD 6 true = true → SliceR Rp.byte (fun _ _ => True) w' ab (.slice A7 ab.length c7))) ?step ?fin _ _ _ _ ?hs ?hf ?init
      case hs => simp
      case hf => simp
      case init =>
        refine ⟨none, 0, ?_, (Below.refl _ _).drew, fun h => ?_⟩
        · exact Slots.start (exp := E (none) (0)) (l0 := l0) (m := 14) (fun t ht => by
            have h1 : t.1 ∈ (E (none) (0)).map fun t => t.1 := List.mem_map.2 ⟨t, ht, rfl⟩
            rw [XhE1.out] at h1
            simp only [List.mem_cons, List.mem_nil_iff, or_false] at h1
            omega)
        · exact absurd (show (Array.replicate 14 false).getD 6 true = true from h) (by decide)
      case fin =>
        intro listed a' w' hls hall ⟨A7, c7, hS, hB, _⟩
        have hf2 : a'.tmps.getD 10 undef = .bool true := hS.done _ (Xm13.out A7 c7) (hall 13 (by show 13 < 14; decide))
        have hf3 : a'.defers = [] := hS.defers
        have HF2' := Lib.hid hf2; have HF3' := Lib.hid hf3
        clear hf2 hf3 hS
        go_wp2
        refine bodyPost_ret (results_tmp rfl _ _ _) HF3'.out ?_
        exact ⟨by rw [HF2'.out], HW8.out.trans ((HY10.out.trans (hB.mono hs10)).mono hWs)⟩
      case step =>
        intro listed a' w' i hls hI hmem
        have hr := ready_of hls hmem
        have hi : i < 14 := hr.1
        have hcase : i = 0 ∨ i = 1 ∨ i = 2 ∨ i = 3 ∨ i = 4 ∨ i = 5 ∨ i = 6 ∨ i = 7 ∨ i = 8 ∨ i = 9 ∨ i = 10 ∨ i = 11 ∨ i = 12 ∨ i = 13 := by omega
        rcases hcase with rfl | rfl | rfl | rfl | rfl | rfl | rfl | rfl | rfl | rfl | rfl | rfl | rfl | rfl
        · obtain ⟨A7, c7, hS, hB, hF0⟩ := hI
          have e16 := hS.at0 16 (.int .i64 0) (by rw [XhE2.out]; decide) (by rw [Xl0.out]; rfl)
          refine wpOp_plain' rfl rfl fun K' hK => ?_
          go_simp
          exact hK _ _ ⟨A7, c7, hS.put' (Xhn1.out A7 c7) (Xhn2.out A7 c7) (Xhlt.out A7 c7) (Xm0.out A7 c7), hB, fun h => hF0 (by rwa [set_get (by decide)] at h)⟩
        · obtain ⟨A7, c7, hS, hB, hF0⟩ := hI
          have d0 := hr.2.2 _ rfl ⟨0, .data⟩ (by simp) rfl
          have e73 := hS.at_ (Xm0.out A7 c7) d0
          refine wpOp_plain' rfl rfl fun K' hK => ?_
          go_simp
          exact hK _ _ ⟨A7, c7, hS.put' (Xhn1.out A7 c7) (Xhn2.out A7 c7) (Xhlt.out A7 c7) (Xm1.out A7 c7), hB, fun h => hF0 (by rwa [set_get (by decide)] at h)⟩
        · obtain ⟨A7, c7, hS, hB, hF0⟩ := hI
          have d1 := hr.2.2 _ rfl ⟨1, .data⟩ (by simp) rfl
          have e74 := hS.at_ (Xm1.out A7 c7) d1
          refine wpOp_plain' rfl rfl fun K' hK => ?_
          go_simp
          exact hK _ _ ⟨A7, c7, hS.put' (Xhn1.out A7 c7) (Xhn2.out A7 c7) (Xhlt.out A7 c7) (Xm2.out A7 c7), hB, fun h => hF0 (by rwa [set_get (by decide)] at h)⟩
        · obtain ⟨A7, c7, hS, hB, hF0⟩ := hI
          have e15 := hS.at0 15 (.slice A9 ab.length c9) (by rw [XhE2.out]; decide) (by rw [Xl0.out]; rfl)
          have dg := hr.2.2 _ rfl ⟨2, .guard⟩ (by simp) rfl
          have eg := hS.at_ (Xm2.out A7 c7) dg
          refine wpOp_on rfl rfl rfl rfl eg fun K' hK => ?_
          go_simp
          exact hK _ _ ⟨A7, c7, hS.put' (Xhn1.out A7 c7) (Xhn2.out A7 c7) (Xhlt.out A7 c7) (Xm3.out A7 c7), hB, fun h => hF0 (by rwa [set_get (by decide)] at h)⟩
        · obtain ⟨A7, c7, hS, hB, hF0⟩ := hI
          obtain ⟨⟨n0, n1, n2, n3, n4, n5, n6, n7, n8, n9, n10, n11⟩, hcv⟩ := HSt2.out w' hB
          have d3 := hr.2.2 _ rfl ⟨3, .data⟩ (by simp) rfl
          have e76 := hS.at_ (Xm3.out A7 c7) d3
          have dg := hr.2.2 _ rfl ⟨2, .guard⟩ (by simp) rfl
          have eg := hS.at_ (Xm2.out A7 c7) dg
          refine wpOp_on rfl rfl rfl rfl eg fun K' hK => ?_
          go_simp
          exact hK _ _ ⟨A7, c7, hS.put' (Xhn1.out A7 c7) (Xhn2.out A7 c7) (Xhlt.out A7 c7) (Xm4.out A7 c7), hB, fun h => hF0 (by rwa [set_get (by decide)] at h)⟩
        · obtain ⟨A7, c7, hS, hB, hF0⟩ := hI
          obtain ⟨⟨n0, n1, n2, n3, n4, n5, n6, n7, n8, n9, n10, n11⟩, hcv⟩ := HSt2.out w' hB
          have e13 := hS.at0 13 (.pointer (some ⟨w7.heap.size, 0, none⟩)) (by rw [XhE2.out]; decide) (by rw [Xl0.out]; rfl)
          have dg := hr.2.2 _ rfl ⟨2, .guard⟩ (by simp) rfl
          have eg := hS.at_ (Xm2.out A7 c7) dg
          refine wpOp_on rfl rfl rfl rfl eg fun K' hK => ?_
          go_simp
          exact hK _ _ ⟨A7, c7, hS.put' (Xhn1.out A7 c7) (Xhn2.out A7 c7) (Xhlt.out A7 c7) (Xm5.out A7 c7), hB, fun h => hF0 (by rwa [set_get (by decide)] at h)⟩
        · obtain ⟨A7, c7, hS, hB, hF0⟩ := hI
          have d5 := hr.2.2 _ rfl ⟨5, .data⟩ (by simp) rfl
          have e78 := hS.at_ (Xm5.out A7 c7) d5
          have dg := hr.2.2 _ rfl ⟨2, .guard⟩ (by simp) rfl
          have eg := hS.at_ (Xm2.out A7 c7) dg
          refine wpOp_on rfl rfl rfl rfl eg fun K' hK => ?_
          go_simp
          refine (rbytes_any 13 x _ L7 w' (HN8.out _ (HY10.out.trans (hB.mono hs10))).1 (HN8.out _ (HY10.out.trans (hB.mono hs10))).2 t1 t2 Ht3.out (by decide) Hm0.out).mono ?_
          rintro e w1 ⟨v7, rfl, h7, y7⟩
          rw [← Hab.out] at h7
          obtain ⟨A7', c7', rfl, _, _⟩ := h7.form
          have hS7 : SliceR Rp.byte (fun _ _ => True) w1 ab (.slice A7' ab.length c7') := h7.reads (d := Rp.byte) (bytes_reps _ _ _) rfl (by simp only [big]; omega) (fun _ _ _ _ => trivial)
          have hS2 : Slots (E A7' c7') l0 listed a' := by
            rw [XhE.out] at hS ⊢
            exact Slots.turn1 (P := [(0, 73, .int .i64 0), (1, 74, .bool false), (2, 75, .bool false), (3, 76, .slice A9 ab.length c9), (4, 77, .string sx), (5, 78, .agg #[.int .i64 x.own.kind, .string x.own.name, .int .i64 x.own.mode, .int .i64 x.own.uid, .int .i64 x.own.gid, .int .i64 x.own.mtime, .slice Ad x.own.data.length cd, .string x.own.target, .int .i64 x.own.major, .int .i64 x.own.minor, .slice Aa x.own.attrs.length ca, .slice Ak x.kids.length ck])]) (Q := [(7, 80, .string sx), (8, 81, .bool true), (9, 82, .bool true), (10, 83, .bool true), (11, 84, .bool true), (12, 85, .bool true), (13, 10, .bool true)]) hS hr.2.1
          exact hK _ _ ⟨A7', c7', hS2.put' (Xhn1.out A7' c7') (Xhn2.out A7' c7') (Xhlt.out A7' c7') (Xm6.out A7' c7'), hB.trans (y7.mono hB.size), fun _ => hS7⟩
        · obtain ⟨A7, c7, hS, hB, hF0⟩ := hI
          obtain ⟨⟨n0, n1, n2, n3, n4, n5, n6, n7, n8, n9, n10, n11⟩, hcv⟩ := HSt2.out w' hB
          have d6 := hr.2.2 _ rfl ⟨6, .data⟩ (by simp) rfl
          have e79 := hS.at_ (Xm6.out A7 c7) d6
          have dg := hr.2.2 _ rfl ⟨2, .guard⟩ (by simp) rfl
          have eg := hS.at_ (Xm2.out A7 c7) dg
          refine wpOp_on rfl rfl rfl rfl eg fun K' hK => ?_
          have hcv7 : (convert 23 9 (.slice A7 ab.length c7)).run Try.prog w' = .ok (.string sx) w' := by rw [Hsx.out]; exact (hF0 d6).toStr (P := Try.prog) 23 5 9 Try.underlying23 Try.underlying5 Try.underlying9
          go_simp
          skip
          exact hK _ _ ⟨A7, c7, hS.put' (Xhn1.out A7 c7) (Xhn2.out A7 c7) (Xhlt.out A7 c7) (Xm7.out A7 c7), hB, fun h => hF0 (by rwa [set_get (by decide)] at h)⟩
        · obtain ⟨A7, c7, hS, hB, hF0⟩ := hI
          have d4 := hr.2.2 _ rfl ⟨4, .data⟩ (by simp) rfl
          have e77 := hS.at_ (Xm4.out A7 c7) d4
          have d7 := hr.2.2 _ rfl ⟨7, .data⟩ (by simp) rfl
          have e80 := hS.at_ (Xm7.out A7 c7) d7
          have dg := hr.2.2 _ rfl ⟨2, .guard⟩ (by simp) rfl
          have eg := hS.at_ (Xm2.out A7 c7) dg
          refine wpOp_on rfl rfl rfl rfl eg fun K' hK => ?_
          go_simp
          exact hK _ _ ⟨A7, c7, hS.put' (Xhn1.out A7 c7) (Xhn2.out A7 c7) (Xhlt.out A7 c7) (Xm8.out A7 c7), hB, fun h => hF0 (by rwa [set_get (by decide)] at h)⟩
        · obtain ⟨A7, c7, hS, hB, hF0⟩ := hI
          have d2 := hr.2.2 _ rfl ⟨2, .data⟩ (by simp) rfl
          have e75 := hS.at_ (Xm2.out A7 c7) d2
          have d8 := hr.2.2 _ rfl ⟨8, .data⟩ (by simp) rfl
          have e81 := hS.at_ (Xm8.out A7 c7) d8
          refine wpOp_plain' rfl rfl fun K' hK => ?_
          go_simp
          exact hK _ _ ⟨A7, c7, hS.put' (Xhn1.out A7 c7) (Xhn2.out A7 c7) (Xhlt.out A7 c7) (Xm9.out A7 c7), hB, fun h => hF0 (by rwa [set_get (by decide)] at h)⟩
        · obtain ⟨A7, c7, hS, hB, hF0⟩ := hI
          have d9 := hr.2.2 _ rfl ⟨9, .data⟩ (by simp) rfl
          have e82 := hS.at_ (Xm9.out A7 c7) d9
          refine wpOp_plain' rfl rfl fun K' hK => ?_
          go_simp
          exact hK _ _ ⟨A7, c7, hS.put' (Xhn1.out A7 c7) (Xhn2.out A7 c7) (Xhlt.out A7 c7) (Xm10.out A7 c7), hB, fun h => hF0 (by rwa [set_get (by decide)] at h)⟩
        · obtain ⟨A7, c7, hS, hB, hF0⟩ := hI
          have dg := hr.2.2 _ rfl ⟨10, .guard⟩ (by simp) rfl
          have eg := hS.at_ (Xm10.out A7 c7) dg
          refine wpOp_on rfl rfl rfl rfl eg fun K' hK => ?_
          go_simp
          refine (lives9_any w').mono ?_
          rintro e w1 ⟨rfl, y1⟩
          exact hK _ _ ⟨A7, c7, hS.put' (Xhn1.out A7 c7) (Xhn2.out A7 c7) (Xhlt.out A7 c7) (Xm11.out A7 c7), hB.trans (y1.mono hB.size), fun h => (hF0 (by rwa [set_get (by decide)] at h)).mono (sub_any y1)⟩
        · obtain ⟨A7, c7, hS, hB, hF0⟩ := hI
          have d10 := hr.2.2 _ rfl ⟨10, .data⟩ (by simp) rfl
          have e83 := hS.at_ (Xm10.out A7 c7) d10
          have d11 := hr.2.2 _ rfl ⟨11, .data⟩ (by simp) rfl
          have e84 := hS.at_ (Xm11.out A7 c7) d11
          refine wpOp_plain' rfl rfl fun K' hK => ?_
          go_simp
          exact hK _ _ ⟨A7, c7, hS.put' (Xhn1.out A7 c7) (Xhn2.out A7 c7) (Xhlt.out A7 c7) (Xm12.out A7 c7), hB, fun h => hF0 (by rwa [set_get (by decide)] at h)⟩
        · obtain ⟨A7, c7, hS, hB, hF0⟩ := hI
          have d12 := hr.2.2 _ rfl ⟨12, .data⟩ (by simp) rfl
          have e85 := hS.at_ (Xm12.out A7 c7) d12
          refine wpOp_plain' rfl rfl fun K' hK => ?_
          go_simp
          exact hK _ _ ⟨A7, c7, hS.put' (Xhn1.out A7 c7) (Xhn2.out A7 c7) (Xhlt.out A7 c7) (Xm13.out A7 c7), hB, fun h => hF0 (by rwa [set_get (by decide)] at h)⟩
    · have hm1 : (mayI x == 0) = false := beq_eq_false_iff_ne.2 hm0
      obtain ⟨M, hM⟩ : ∃ M, M = mayI x := ⟨_, rfl⟩
      have HM := Lib.hid hM
      have hM0 : (M == 0) = false := by rw [hM]; exact hm1
      have hM1 : (M != 0) = true := by rw [bne, hM0]; rfl
      have hM2 : ¬ M = 0 := by rw [hM]; exact hm0
      clear hm1 hM
      go_wp2_with fail
      refine (awrite_no 13 x _ L7 w8 (HN8.out _ (Below.refl _ _)).1 (by omega) hm0).mono ?_
      rintro e w9 ⟨rfl, y9⟩
      rw [← HM.out]
      have HY9 := Lib.hid y9
      clear y9 hm0 n0 n1 n2 n3 n4 n5 n6 n7 n8 n9 n10 n11
      obtain ⟨n0, n1, n2, n3, n4, n5, n6, n7, n8, n9, n10, n11⟩ := HSt.out w9 HY9.out
      go_wp2_with fail
      refine (rmay_any 13 x _ L7 w9 (HN8.out _ HY9.out).1 (by omega) Ht3.out (by decide) (by omega) (HN8.out _ HY9.out).2).mono ?_
      rintro e w10 ⟨rfl, y10⟩
      rw [← Hmr.out, ← HM.out]
      have HY10 : Hid (Below w8.heap.size w8 w10) := Lib.hid (HY9.out.trans (y10.mono HY9.out.size))
      clear y10 HY9 n0 n1 n2 n3 n4 n5 n6 n7 n8 n9 n10 n11
      go_upto_region 14 with fail
      have hs10 := HY10.out.size
      refine wp_named _ ?_
      intro l0 hl0
      obtain ⟨E, hE⟩ : ∃ E : Unit → List (Nat × Nat × Value), E = fun _ => [(0, 73, .int .i64 M), (1, 74, .bool true), (2, 75, .bool true), (3, 76, undef), (4, 77, undef), (5, 78, undef), (6, 79, undef), (7, 80, undef), (8, 81, undef), (9, 82, .bool true), (10, 83, .bool true), (11, 84, .bool true), (12, 85, .bool true), (13, 10, .bool true)] := ⟨_, rfl⟩
      have hlen : l0.length = 86 := by rw [hl0]; rfl
      have hE1 : (E ()).map (fun t => t.1) = [0, 1, 2, 3, 4, 5, 6, 7, 8, 9, 10, 11, 12, 13] := by rw [hE]; rfl
      have hE2 : (E ()).map (fun t => t.2.1) = [73, 74, 75, 76, 77, 78, 79, 80, 81, 82, 83, 84, 85, 10] := by rw [hE]; rfl
      have m0 : (0, 73, (.int .i64 M : Value)) ∈ E () := by rw [hE]; simp
      have m1 : (1, 74, (.bool true : Value)) ∈ E () := by rw [hE]; simp
      have m2 : (2, 75, (.bool true : Value)) ∈ E () := by rw [hE]; simp
      have m3 : (3, 76, (undef : Value)) ∈ E () := by rw [hE]; simp
      have m4 : (4, 77, (undef : Value)) ∈ E () := by rw [hE]; simp
      have m5 : (5, 78, (undef : Value)) ∈ E () := by rw [hE]; simp
      have m6 : (6, 79, (undef : Value)) ∈ E () := by rw [hE]; simp
      have m7 : (7, 80, (undef : Value)) ∈ E () := by rw [hE]; simp
      have m8 : (8, 81, (undef : Value)) ∈ E () := by rw [hE]; simp
      have m9 : (9, 82, (.bool true : Value)) ∈ E () := by rw [hE]; simp
      have m10 : (10, 83, (.bool true : Value)) ∈ E () := by rw [hE]; simp
      have m11 : (11, 84, (.bool true : Value)) ∈ E () := by rw [hE]; simp
      have m12 : (12, 85, (.bool true : Value)) ∈ E () := by rw [hE]; simp
      have m13 : (13, 10, (.bool true : Value)) ∈ E () := by rw [hE]; simp
      have hn1 : ((E ()).map fun t => t.1).Nodup := by rw [hE1]; decide
      have hn2 : ((E ()).map fun t => t.2.1).Nodup := by rw [hE2]; decide
      have hlt : ∀ t ∈ E (), t.2.1 < l0.length := fun t ht => by
        have h1 : t.2.1 ∈ (E ()).map fun t => t.2.1 := List.mem_map.2 ⟨t, ht, rfl⟩
        rw [hE2] at h1
        rw [hlen]
        simp only [List.mem_cons, List.mem_nil_iff, or_false] at h1
        omega
      have Xm0 := Lib.hid m0
      have Xm1 := Lib.hid m1
      have Xm2 := Lib.hid m2
      have Xm3 := Lib.hid m3
      have Xm4 := Lib.hid m4
      have Xm5 := Lib.hid m5
      have Xm6 := Lib.hid m6
      have Xm7 := Lib.hid m7
      have Xm8 := Lib.hid m8
      have Xm9 := Lib.hid m9
      have Xm10 := Lib.hid m10
      have Xm11 := Lib.hid m11
      have Xm12 := Lib.hid m12
      have Xm13 := Lib.hid m13
      have Xhn1 := Lib.hid hn1; have Xhn2 := Lib.hid hn2; have Xhlt := Lib.hid hlt; have XhE1 := Lib.hid hE1; have XhE2 := Lib.hid hE2; have XhE := Lib.hid hE; have Xl0 := Lib.hid hl0
      clear m0 m1 m2 m3 m4 m5 m6 m7 m8 m9 m10 m11 m12 m13 hn1 hn2 hlt hE1 hE2 hE hlen hl0
      refine wp_region_any (by kernel_rfl) ?_
      refine wpAny_inv (by kernel_rfl) (fun listed a' w' => Slots (E ()) l0 listed a' ∧ Below w10.heap.size w10 w') ?step ?fin _ _ _ _ ?hs ?hf ?init
      case hs => simp
      case hf => simp
      case init =>
        refine ⟨?_, (Below.refl _ _).drew⟩
        · exact Slots.start (exp := E ()) (l0 := l0) (m := 14) (fun t ht => by
            have h1 : t.1 ∈ (E ()).map fun t => t.1 := List.mem_map.2 ⟨t, ht, rfl⟩
            rw [XhE1.out] at h1
            simp only [List.mem_cons, List.mem_nil_iff, or_false] at h1
            omega)
      case fin =>
        intro listed a' w' hls hall ⟨hS, hB⟩
        have hf2 : a'.tmps.getD 10 undef = .bool true := hS.done _ (Xm13.out) (hall 13 (by show 13 < 14; decide))
        have hf3 : a'.defers = [] := hS.defers
        have HF2' := Lib.hid hf2; have HF3' := Lib.hid hf3
        clear hf2 hf3 hS
        go_wp2
        refine bodyPost_ret (results_tmp rfl _ _ _) HF3'.out ?_
        exact ⟨by rw [HF2'.out], HW8.out.trans ((HY10.out.trans (hB.mono hs10)).mono hWs)⟩
      case step =>
        intro listed a' w' i hls hI hmem
        have hr := ready_of hls hmem
        have hi : i < 14 := hr.1
        have hcase : i = 0 ∨ i = 1 ∨ i = 2 ∨ i = 3 ∨ i = 4 ∨ i = 5 ∨ i = 6 ∨ i = 7 ∨ i = 8 ∨ i = 9 ∨ i = 10 ∨ i = 11 ∨ i = 12 ∨ i = 13 := by omega
        rcases hcase with rfl | rfl | rfl | rfl | rfl | rfl | rfl | rfl | rfl | rfl | rfl | rfl | rfl | rfl
        · obtain ⟨hS, hB⟩ := hI
          have e16 := hS.at0 16 (.int .i64 M) (by rw [XhE2.out]; decide) (by rw [Xl0.out]; rfl)
          refine wpOp_plain' rfl rfl fun K' hK => ?_
          go_simp
          exact hK _ _ ⟨hS.put' (Xhn1.out ) (Xhn2.out ) (Xhlt.out ) (Xm0.out ), hB⟩
        · obtain ⟨hS, hB⟩ := hI
          have d0 := hr.2.2 _ rfl ⟨0, .data⟩ (by simp) rfl
          have e73 := hS.at_ (Xm0.out ) d0
          refine wpOp_plain' rfl rfl fun K' hK => ?_
          go_simp
          exact hK _ _ ⟨hS.put' (Xhn1.out ) (Xhn2.out ) (Xhlt.out ) (Xm1.out ), hB⟩
        · obtain ⟨hS, hB⟩ := hI
          have d1 := hr.2.2 _ rfl ⟨1, .data⟩ (by simp) rfl
          have e74 := hS.at_ (Xm1.out ) d1
          refine wpOp_plain' rfl rfl fun K' hK => ?_
          go_simp
          exact hK _ _ ⟨hS.put' (Xhn1.out ) (Xhn2.out ) (Xhlt.out ) (Xm2.out ), hB⟩
        · obtain ⟨hS, hB⟩ := hI
          have dg := hr.2.2 _ rfl ⟨2, .guard⟩ (by simp) rfl
          have eg := hS.at_ (Xm2.out ) dg
          refine wpOp_off rfl rfl rfl rfl eg ?_
          exact ⟨hS.put' (Xhn1.out ) (Xhn2.out ) (Xhlt.out ) (Xm3.out ), hB⟩
        · obtain ⟨hS, hB⟩ := hI
          have dg := hr.2.2 _ rfl ⟨2, .guard⟩ (by simp) rfl
          have eg := hS.at_ (Xm2.out ) dg
          refine wpOp_off rfl rfl rfl rfl eg ?_
          exact ⟨hS.put' (Xhn1.out ) (Xhn2.out ) (Xhlt.out ) (Xm4.out ), hB⟩
        · obtain ⟨hS, hB⟩ := hI
          have dg := hr.2.2 _ rfl ⟨2, .guard⟩ (by simp) rfl
          have eg := hS.at_ (Xm2.out ) dg
          refine wpOp_off rfl rfl rfl rfl eg ?_
          exact ⟨hS.put' (Xhn1.out ) (Xhn2.out ) (Xhlt.out ) (Xm5.out ), hB⟩
        · obtain ⟨hS, hB⟩ := hI
          have dg := hr.2.2 _ rfl ⟨2, .guard⟩ (by simp) rfl
          have eg := hS.at_ (Xm2.out ) dg
          refine wpOp_off rfl rfl rfl rfl eg ?_
          exact ⟨hS.put' (Xhn1.out ) (Xhn2.out ) (Xhlt.out ) (Xm6.out ), hB⟩
        · obtain ⟨hS, hB⟩ := hI
          have dg := hr.2.2 _ rfl ⟨2, .guard⟩ (by simp) rfl
          have eg := hS.at_ (Xm2.out ) dg
          refine wpOp_off rfl rfl rfl rfl eg ?_
          exact ⟨hS.put' (Xhn1.out ) (Xhn2.out ) (Xhlt.out ) (Xm7.out ), hB⟩
        · obtain ⟨hS, hB⟩ := hI
          have dg := hr.2.2 _ rfl ⟨2, .guard⟩ (by simp) rfl
          have eg := hS.at_ (Xm2.out ) dg
          refine wpOp_off rfl rfl rfl rfl eg ?_
          exact ⟨hS.put' (Xhn1.out ) (Xhn2.out ) (Xhlt.out ) (Xm8.out ), hB⟩
        · obtain ⟨hS, hB⟩ := hI
          have d2 := hr.2.2 _ rfl ⟨2, .data⟩ (by simp) rfl
          have e75 := hS.at_ (Xm2.out ) d2
          have d8 := hr.2.2 _ rfl ⟨8, .data⟩ (by simp) rfl
          have e81 := hS.at_ (Xm8.out ) d8
          refine wpOp_plain' rfl rfl fun K' hK => ?_
          go_simp
          exact hK _ _ ⟨hS.put' (Xhn1.out ) (Xhn2.out ) (Xhlt.out ) (Xm9.out ), hB⟩
        · obtain ⟨hS, hB⟩ := hI
          have d9 := hr.2.2 _ rfl ⟨9, .data⟩ (by simp) rfl
          have e82 := hS.at_ (Xm9.out ) d9
          refine wpOp_plain' rfl rfl fun K' hK => ?_
          go_simp
          exact hK _ _ ⟨hS.put' (Xhn1.out ) (Xhn2.out ) (Xhlt.out ) (Xm10.out ), hB⟩
        · obtain ⟨hS, hB⟩ := hI
          have dg := hr.2.2 _ rfl ⟨10, .guard⟩ (by simp) rfl
          have eg := hS.at_ (Xm10.out ) dg
          refine wpOp_on rfl rfl rfl rfl eg fun K' hK => ?_
          go_simp
          refine (lives9_any w').mono ?_
          rintro e w1 ⟨rfl, y1⟩
          exact hK _ _ ⟨hS.put' (Xhn1.out ) (Xhn2.out ) (Xhlt.out ) (Xm11.out ), hB.trans (y1.mono hB.size)⟩
        · obtain ⟨hS, hB⟩ := hI
          have d10 := hr.2.2 _ rfl ⟨10, .data⟩ (by simp) rfl
          have e83 := hS.at_ (Xm10.out ) d10
          have d11 := hr.2.2 _ rfl ⟨11, .data⟩ (by simp) rfl
          have e84 := hS.at_ (Xm11.out ) d11
          refine wpOp_plain' rfl rfl fun K' hK => ?_
          go_simp
          exact hK _ _ ⟨hS.put' (Xhn1.out ) (Xhn2.out ) (Xhlt.out ) (Xm12.out ), hB⟩
        · obtain ⟨hS, hB⟩ := hI
          have d12 := hr.2.2 _ rfl ⟨12, .data⟩ (by simp) rfl
          have e85 := hS.at_ (Xm12.out ) d12
          refine wpOp_plain' rfl rfl fun K' hK => ?_
          go_simp
          exact hK _ _ ⟨hS.put' (Xhn1.out ) (Xhn2.out ) (Xhlt.out ) (Xm13.out ), hB⟩
end Go.Proofs.Ytojcciciinklbaa
