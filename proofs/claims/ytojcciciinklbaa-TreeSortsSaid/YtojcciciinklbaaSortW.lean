/- Walks: a node with its kids by their names. No claim by itself. -/
import Derived.Test.YtojcciciinklbaaClone3
import Derived.Test.YtojcciciinklbaaSlots2
set_option linter.unusedSimpArgs false
set_option linter.unusedVariables false
namespace Go.Proofs.Ytojcciciinklbaa
open Go.RowKit

theorem pairs_snoc : ∀ {a z : List Nd} {x y : Nd}, Pairs a z → SortRel x y → Pairs (a ++ [x]) (z ++ [y])
  | [], _, x, y, h, k => by cases h; exact .cons k .nil
  | u :: a, _, x, y, h, k => by
    cases h with
    | cons h1 h2 => exact .cons h1 (pairs_snoc h2 k)
/-- The first kids sorted, the others as they were. -/
def HalfSo (ks : List Nd) (k : Nat) (ys : List Nd) : Prop := ∃ zs, Pairs (ks.take k) zs ∧ ys = zs ++ ks.drop k
theorem HalfSo.len {ks ys : List Nd} {k : Nat} (h : HalfSo ks k ys) : ys.length = ks.length := by
  obtain ⟨zs, h1, rfl⟩ := h
  rw [List.length_append, h1.len, List.length_take, List.length_drop]; omega
theorem HalfSo.at {ks ys : List Nd} {k : Nat} (h : HalfSo ks k ys) (hk : k < ks.length) (hy : k < ys.length) : ys[k] = ks[k] := by
  obtain ⟨zs, h1, rfl⟩ := h
  have hz : zs.length = k := by rw [h1.len, List.length_take]; omega
  rw [List.getElem_append_right (by omega), List.getElem_drop]
  congr 1
  omega
theorem HalfSo.next {ks ys : List Nd} {k : Nat} (h : HalfSo ks k ys) (hk : k < ks.length) {u : Nd} (hu : SortRel ks[k] u) : HalfSo ks (k + 1) (ys.set k u) := by
  obtain ⟨zs, h1, rfl⟩ := h
  have hz : zs.length = k := by rw [h1.len, List.length_take]; omega
  refine ⟨zs ++ [u], by rw [List.take_succ_eq_append_getElem hk]; exact pairs_snoc h1 hu, ?_⟩
  rw [List.drop_eq_getElem_cons hk, List.set_append_right _ _ (by omega), hz, Nat.sub_self, List.set_cons_zero, List.append_assoc]
  rfl
/-- A list of nodes that is being made: one of them, in memory. -/
theorem nout_at {n : Nat} {L : Live} {w : World} {base : Nat} {v : Value} {xs : List Nd} {cells : List Value} (h : Out (nodeR n) L w base 27 v xs cells) (k : Nat) (hk : k < xs.length) :
    ∃ g cap Ad cd Aa ca Ak ck, v = .slice (some ⟨g, 0, none⟩) xs.length cap ∧ base ≤ g ∧ g < w.heap.size ∧ (∀ j, ¬ L g j) ∧ cells.length = xs.length * 12 ∧
      (nodeR n).R L w xs[k] (nodeV xs[k].own (.slice Ad xs[k].own.data.length cd) (.slice Aa xs[k].own.attrs.length ca) (.slice Ak xs[k].kids.length ck)) ∧
      (∀ j u, (nodeV xs[k].own (.slice Ad xs[k].own.data.length cd) (.slice Aa xs[k].own.attrs.length ca) (.slice Ak xs[k].kids.length ck))[j]? = some u → w.cell? ⟨g, k * 12 + j, none⟩ = some u ∧ w.frozen? ⟨g, k * 12 + j, none⟩ = false) := by
  obtain ⟨h1, h2, h3⟩ := h
  have hlen := h2.length
  rw [nodeR_sz] at hlen
  obtain ⟨g, cap, cur, fr, rfl, hg, hh, hf, hc1, hc2, hc3, hcc⟩ := h1.row (by omega)
  obtain ⟨cs, hR, hget⟩ := h2.get k hk
  obtain ⟨m, Ad, cd, Aa, ca, Ak, ck, hm, rfl, hP, _, _, _, _, _, _⟩ := node_open hR
  refine ⟨g, cap, Ad, cd, Aa, ca, Ak, ck, rfl, hg, (Array.getElem?_eq_some_iff.1 hh).1, h3 g rfl, hlen, hR, fun j u hu => ?_⟩
  have hj := hget j u hu
  rw [nodeR_sz] at hj hc3
  refine ⟨hcc _ _ hj, frozen_free hh hf ?_⟩
  have h5 := Nat.mul_le_mul_right 12 hc1
  have := (List.getElem?_eq_some_iff.1 hj).1
  omega
/-- Another node in its place. -/
theorem nout_put {n : Nat} {L : Live} {w : World} {base : Nat} {v : Value} {xs : List Nd} {cells : List Value} (h : Out (nodeR n) L w base 27 v xs cells) (k : Nat) (hk : k < xs.length) {g : Nat} (hg : v.ownBlock = some g) {u : Nd} {cs : List Value} (hu : (nodeR n).R L w u cs) :
    ∃ cells', Out (nodeR n) L (w.setCells g (k * 12) cs) base 27 v (xs.set k u) cells' := by
  have hlen := h.2.1.length
  rw [nodeR_sz] at hlen
  obtain ⟨m, Ad, cd, Aa, ca, Ak, ck, hm, rfl, hP, _, _, _, _, _, _⟩ := node_open hu
  refine ⟨_, h.put hk hg hu ?_⟩
  have hl : (nodeV u.own (.slice Ad u.own.data.length cd) (.slice Aa u.own.attrs.length ca) (.slice Ak u.kids.length ck)).length = 12 := rfl
  rw [nodeR_sz, putL_eq _ _ _ (by rw [hl]; omega), hl, show k * 12 + 12 = (k + 1) * 12 from by omega]

/-- A node that a call has sorted. -/
def MadeSo (n : Nat) (x : Nd) (L : Live) (w : World) (e : Ending) (w' : World) : Prop := ∃ y, SortRel x y ∧ MadeN n y L w e w'
theorem MadeSo.of {n : Nat} {x y : Nd} {cs : List Value} {L L' : Live} {w w' : World} (hs : SortRel x y) (h : Bears n y cs L w L' w') : MadeSo n x L w (.returned (.agg cs.toArray)) w' := ⟨y, hs, MadeN.of h⟩
theorem set12 {w : World} {g o : Nat} {v0 v1 v2 v3 v4 v5 v6 v7 v8 v9 v10 v11 : Value} : ((((((((((((w.setCell ⟨g, o, none⟩ v0).setCell ⟨g, o + 1, none⟩ v1).setCell ⟨g, o + 2, none⟩ v2).setCell ⟨g, o + 3, none⟩ v3).setCell ⟨g, o + 4, none⟩ v4).setCell ⟨g, o + 5, none⟩ v5).setCell ⟨g, o + 6, none⟩ v6).setCell ⟨g, o + 7, none⟩ v7).setCell ⟨g, o + 8, none⟩ v8).setCell ⟨g, o + 9, none⟩ v9).setCell ⟨g, o + 10, none⟩ v10).setCell ⟨g, o + 11, none⟩ v11) = w.setCells g o [v0, v1, v2, v3, v4, v5, v6, v7, v8, v9, v10, v11] := rfl

set_option maxRecDepth 100000 in
set_option maxHeartbeats 8000000 in
theorem sort_any : ∀ (n : Nat) (x : Nd) (cs : List Value) (L : Live) (w : World), (nodeR n).R L w x cs → bulk x ≤ 1000000 → count x ≤ 20 → LOk L w →
    Calls Try.prog 31 #[.agg cs.toArray] w (MadeSo n x L w) := by
  intro n
  induction n with
  | zero => intro x cs L w h; exact h.elim
  | succ n ih =>
    intro x cs L w h hc hct hok
    obtain ⟨m, Ad, cd, Aa, ca, Ak, ck, hm, rfl, hP, d1, d2, a1, a2, k1, k2⟩ := node_open h
    obtain rfl : n = m := by omega
    have H := Lib.hid h
    have Hc := Lib.hid hc
    clear hm h hP
    rw [bulk_eq] at hc
    rw [count_eq] at hct
    have hkl := bulkL_len x.kids
    have hkc := countL_len x.kids
    have Hok := Lib.hid hok
    have hmem : ∀ k (h : k < x.kids.length), bulk x.kids[k] ≤ 1000000 ∧ count x.kids[k] ≤ 20 := fun k h => by have := bulkL_mem h; have := countL_mem h; omega
    have Hmem := Lib.hid hmem
    clear hok hmem
    have c27 := cellsNode
    unfold nodeV
    go_enter Try.func31, Try.ntmps31
    go_upto_region 1 with fail
    obtain ⟨w2, hw2⟩ : ∃ y, y = (w.alloc (boxO x.own Ad cd Aa ca Ak x.kids.length ck)).alloc zeroB := ⟨_, rfl⟩
    have hX2 : Ext L w L w2 := by rw [hw2]; exact ((Ext.refl Hok.out).alloc _).alloc _
    have hx2 : w2.heap[w.heap.size]? = some (boxO x.own Ad cd Aa ca Ak x.kids.length ck) := by rw [hw2]; exact (Below.heap_alloc _ _ _ (by simp)).trans (heap_alloc_new w _)
    have hz2 : w2.heap[w.heap.size + 1]? = some zeroB := by rw [hw2]; have := heap_alloc_new (w.alloc (boxO x.own Ad cd Aa ca Ak x.kids.length ck)) zeroB; rwa [World.size_alloc] at this
    have hs2 : w.heap.size + 2 ≤ w2.heap.size := by rw [hw2]; simp
    have HX2 := Lib.hid hX2; have Hx2 := Lib.hid hx2; have Hz2 := Lib.hid hz2
    have HN2 : Hid (∀ j, ¬ L w.heap.size j ∧ ¬ L (w.heap.size + 1) j) := Lib.hid (fun j => ⟨not_live Hok.out (Nat.le_refl _) j, not_live Hok.out (by omega) j⟩)
    show Code.wp _ _ _ _ ((w.alloc (boxO x.own Ad cd Aa ca Ak x.kids.length ck)).alloc zeroB)
    rw [← hw2]
    clear hX2 hx2 hz2 hw2
    obtain ⟨n0, n1, n2, n3, n4, n5, n6, n7, n8, n9, n10, n11⟩ := twelve_box Hx2.out
    go_wp2_with fail
    refine (clone3_any n x _ L w2 ((nodeR (n + 1)).mono (Ext.sub Hok.out HX2.out) H.out) Hc.out HX2.out.ok).mono ?_
    rintro e w3 ⟨vd, va, vk, kc, L3, rfl, h3⟩
    obtain ⟨Adc, cdc, rfl, _, _, _⟩ := h3.data.form
    obtain ⟨Aac, cac, rfl, _, _, _⟩ := h3.attrs.form
    obtain ⟨Akc, ckc, rfl, _, _⟩ := h3.out.form
    have hx3 := (h3.ext.below.block _ (by omega)).trans Hx2.out
    have hz3 := (h3.ext.below.block _ (by omega)).trans Hz2.out
    have hn3 : ∀ j, ¬ L3 w.heap.size j ∧ ¬ L3 (w.heap.size + 1) j := fun j => ⟨Ext.not_live h3.ext (by omega) (fun j => (HN2.out j).1) j, Ext.not_live h3.ext (by omega) (fun j => (HN2.out j).2) j⟩
    have HB3 : Hid (BearsS n x (.slice Adc x.own.data.length cdc) (.slice Aac x.own.attrs.length cac) (.slice Akc x.kids.length ckc) kc (w.heap.size + 2) L w L3 w3) := Lib.hid ⟨HX2.out.trans h3.ext, h3.fits, h3.data, h3.attrs, h3.out.lower (by omega)⟩
    have Hx3 := Lib.hid hx3; have Hz3 := Lib.hid hz3; have HN3 := Lib.hid hn3
    clear h3 hx3 hz3 hn3 n0 n1 n2 n3 n4 n5 n6 n7 n8 n9 n10 n11 HX2 Hx2 Hz2 HN2
    unfold nodeV
    obtain ⟨n0, n1, n2, n3, n4, n5, n6, n7, n8, n9, n10, n11⟩ := twelve_box Hx3.out
    obtain ⟨f0, f1, f2, f3, f4, f5, f6, f7, f8, f9, f10, f11⟩ := twelve_free Hx3.out
    go_upto_region 2 with fail
    generalize hw5 : World.setCell (World.setCell _ _ _) _ _ = w5
    have hx5 : w5.heap[w.heap.size]? = some (boxO x.own Adc cdc Aac cac Akc x.kids.length ckc) := by rw [← hw5]; exact fill12 (by exact Hx3.out) _ _ _ _ _ _ _ _ _ _ _ _
    have hB5 : BearsS n x (.slice Adc x.own.data.length cdc) (.slice Aac x.own.attrs.length cac) (.slice Akc x.kids.length ckc) kc (w.heap.size + 2) L w L3 w5 := by
      rw [← hw5]
      repeat (first | (with_reducible refine BearsS.set ?_ (Nat.le_refl _) (by omega) (fun j => (HN3.out j).1) _ _) | (with_reducible exact HB3.out))
    have hz5 : w5.heap[w.heap.size + 1]? = some zeroB := by
      rw [← hw5]
      repeat (first | (with_reducible exact Hz3.out) | (refine (heap_set_ne _ _ _ (by omega)).trans ?_))
    have HB5 := Lib.hid hB5; have Hx5 := Lib.hid hx5; have Hz5 := Lib.hid hz5
    obtain ⟨ks, hks⟩ : ∃ ks, ks = x.kids := ⟨_, rfl⟩
    have HSo : Hid (∀ ys' zs, Pairs ks zs → zs.Perm ys' → (ys'.Pairwise fun a b => leS a.own.name b.own.name) → SortRel x (.mk x.own ys')) := Lib.hid (fun ys' zs h1 h2 h3 => by
      have he : x = .mk x.own ks := by rw [hks]; cases x; rfl
      generalize x.own = o at he ⊢
      rw [he]; exact .mk h1 h2 h3)
    have HOut : Hid (Out (nodeR n) L3 w5 (w.heap.size + 2) 27 (.slice Akc ks.length ckc) ks kc) := Lib.hid (by rw [hks]; exact hB5.out)
    rw [← hks] at Hx5 Hmem hkl hkc k1 hct ⊢
    clear hx5 hB5 hz5 hw5 n0 n1 n2 n3 n4 n5 n6 n7 n8 n9 n10 n11 f0 f1 f2 f3 f4 f5 f6 f7 f8 f9 f10 f11 HB3 Hx3 Hz3 hks H
    obtain ⟨n0, n1, n2, n3, n4, n5, n6, n7, n8, n9, n10, n11⟩ := twelve_box Hx5.out
    go_wp2_with fail
    clear n0 n1 n2 n3 n4 n5 n6 n7 n8 n9 n10 n11
    go_loopw [10] (fun i wr => ∃ (k : Nat) (ys : List Nd) (cells : List Value) (Lk : Live), k ≤ ks.length ∧ i = .int .i64 k ∧ Hid (HalfSo ks k ys) ∧ Hid (Out (nodeR n) Lk wr (w.heap.size + 2) 27 (.slice Akc ks.length ckc) ys cells) ∧ Hid (Ext L3 w5 Lk wr ∨ True) ∧ Hid (Ext L w Lk wr) ∧ Hid (SliceR Rp.byte Lk wr x.own.data (.slice Adc x.own.data.length cdc)) ∧ Hid (SliceR attrR Lk wr x.own.attrs (.slice Aac x.own.attrs.length cac)) ∧ Hid (wr.heap[w.heap.size]? = some (boxO x.own Adc cdc Aac cac Akc ks.length ckc)) ∧ Hid (wr.heap[w.heap.size + 1]? = some zeroB) ∧ Hid (∀ j, ¬ Lk w.heap.size j ∧ ¬ Lk (w.heap.size + 1) j)) (fun i _ => ks.length - (intOf i).toNat)
    case atStart => exact ⟨0, ks, kc, L3, Nat.zero_le _, rfl, Lib.hid ⟨[], .nil, rfl⟩, HOut, Lib.hid (.inr trivial), Lib.hid HB5.out.ext, Lib.hid HB5.out.data, Lib.hid HB5.out.attrs, Hx5, Hz5, HN3⟩
    case round =>
      have HFit := Lib.hid HB5.out.fits
      clear HOut HB5 Hx5 Hz5 HN3
      obtain ⟨k, ys, cells, Lk, hk, rfl, HH, HO, _, HX, HD, HA, HBx, HZ, HN⟩ := hrel
      have hb : w.heap.size + 2 ≤ wr.heap.size := by have h1 := (Array.getElem?_eq_some_iff.1 HZ.out).1; omega
      by_cases hlt : k < ks.length
      · have hkI : (k : Int) < (ks.length : Int) := by omega
        have Hly := Lib.hid HH.out.len
        have hky : k < ys.length := by rw [Hly.out]; exact hlt
        obtain ⟨g, cap, Ad', cd', Aa', ca', Ak', ck', he, hg1, hg2, hg3, hcl, hR, hcells⟩ := nout_at HO.out k hky
        simp only [Value.slice.injEq] at he
        obtain ⟨rfl, hlen0, rfl⟩ := he
        clear hlen0
        have hbk := Hmem.out k hlt
        have hyk := HH.out.at hlt hky
        have HNx : Hid (∀ u, SortRel ks[k] u → HalfSo ks (k + 1) (ys.set k u)) := Lib.hid (fun u hu => HH.out.next hlt hu)
        obtain ⟨y, hy⟩ : ∃ y, y = ks[k] := ⟨_, rfl⟩
        rw [hyk, ← hy] at hR hcells
        rw [← hy] at hbk HNx
        clear hyk hy hcl
        have HR := Lib.hid hR
        have HNn : Hid (∀ j, ¬ Lk g j) := Lib.hid hg3
        have n0 := (hcells 0 _ rfl).1; have n1 := (hcells 1 _ rfl).1; have n2 := (hcells 2 _ rfl).1; have n3 := (hcells 3 _ rfl).1; have n4 := (hcells 4 _ rfl).1; have n5 := (hcells 5 _ rfl).1; have n6 := (hcells 6 _ rfl).1; have n7 := (hcells 7 _ rfl).1; have n8 := (hcells 8 _ rfl).1; have n9 := (hcells 9 _ rfl).1; have n10 := (hcells 10 _ rfl).1; have n11 := (hcells 11 _ rfl).1
        simp only [Nat.add_zero] at n0
        have Hcells := Lib.hid hcells
        have Hky := Lib.hid hky
        clear hR hg3 hcells hky
        go_upto_region 5 with fail
        obtain ⟨wb, hwb⟩ : ∃ w5, w5 = wr.alloc (boxO y.own Ad' cd' Aa' ca' Ak' y.kids.length ck') := ⟨_, rfl⟩
        have hXb : Ext Lk wr Lk wb := by rw [hwb]; exact (Ext.refl HX.out.ok).alloc _
        have hbb : wb.heap[wr.heap.size]? = some (boxO y.own Ad' cd' Aa' ca' Ak' y.kids.length ck') := by rw [hwb]; exact heap_alloc_new wr _
        have hsb : wr.heap.size < wb.heap.size := by rw [hwb]; simp
        show Code.wp _ _ _ _ (wr.alloc (boxO y.own Ad' cd' Aa' ca' Ak' y.kids.length ck'))
        rw [← hwb]
        have HXb := Lib.hid hXb; have HBb := Lib.hid hbb
        have HXw : Hid (Ext L w Lk wb) := Lib.hid (HX.out.trans hXb)
        have HRb := Lib.hid ((nodeR n).mono (Ext.sub HX.out.ok hXb) HR.out)
        have HOb := Lib.hid (HO.out.ext HX.out.ok hXb)
        have HBx5 := Lib.hid ((hXb.below.block _ (by omega)).trans HBx.out)
        have HZb := Lib.hid ((hXb.below.block _ (by omega)).trans HZ.out)
        have HDb := Lib.hid (HD.out.mono (Ext.sub HX.out.ok hXb)); have HAb := Lib.hid (HA.out.mono (Ext.sub HX.out.ok hXb))
        have HCb : Hid (∀ j u, (nodeV y.own (.slice Ad' y.own.data.length cd') (.slice Aa' y.own.attrs.length ca') (.slice Ak' y.kids.length ck'))[j]? = some u → wb.cell? ⟨g, k * 12 + j, none⟩ = some u ∧ wb.frozen? ⟨g, k * 12 + j, none⟩ = false) := Lib.hid (fun j u hu => ⟨(World.cell?_of_block (w := wr) (a := ⟨g, k * 12 + j, none⟩) (hXb.below.block g hg2)).trans (Hcells.out j u hu).1, (World.frozen?_of_block (w := wr) (a := ⟨g, k * 12 + j, none⟩) (hXb.below.block g hg2)).trans (Hcells.out j u hu).2⟩)
        have HOkb : Hid (LOk Lk wb) := Lib.hid hXb.ok
        clear hXb hbb hwb n0 n1 n2 n3 n4 n5 n6 n7 n8 n9 n10 n11 HR HO HX HBx HZ HD HA Hcells
        refine wp_named _ ?_
        intro l0 hl0
        obtain ⟨E, hE⟩ : ∃ E : Nd → Option Addr → Nat → Option Addr → Nat → Option Addr → Nat → Live → List (Nat × Nat × Value), E = fun u Ads cds Aas cas Aks cks Ls => [(0, 15, .pointer (some ⟨w.heap.size, 11, none⟩)), (1, 16, .slice (some ⟨g, 0, none⟩) ks.length ckc), (2, 17, .int .i64 k), (3, 18, .agg #[.int .i64 y.own.kind, .string y.own.name, .int .i64 y.own.mode, .int .i64 y.own.uid, .int .i64 y.own.gid, .int .i64 y.own.mtime, .slice Ad' y.own.data.length cd', .string y.own.target, .int .i64 y.own.major, .int .i64 y.own.minor, .slice Aa' y.own.attrs.length ca', .slice Ak' y.kids.length ck']), (4, 19, .agg #[.int .i64 u.own.kind, .string u.own.name, .int .i64 u.own.mode, .int .i64 u.own.uid, .int .i64 u.own.gid, .int .i64 u.own.mtime, .slice Ads u.own.data.length cds, .string u.own.target, .int .i64 u.own.major, .int .i64 u.own.minor, .slice Aas u.own.attrs.length cas, .slice Aks u.kids.length cks]), (5, 20, .pointer (some ⟨g, k * 12, none⟩))] := ⟨_, rfl⟩
        have hlen : l0.length = 26 := by rw [hl0]; rfl
        have hE1 : ∀ (u : Nd) (Ads : Option Addr) (cds : Nat) (Aas : Option Addr) (cas : Nat) (Aks : Option Addr) (cks : Nat) (Ls : Live), (E u Ads cds Aas cas Aks cks Ls).map (fun t => t.1) = [0, 1, 2, 3, 4, 5] := fun u Ads cds Aas cas Aks cks Ls => by rw [hE]; rfl
        have hE2 : ∀ (u : Nd) (Ads : Option Addr) (cds : Nat) (Aas : Option Addr) (cas : Nat) (Aks : Option Addr) (cks : Nat) (Ls : Live), (E u Ads cds Aas cas Aks cks Ls).map (fun t => t.2.1) = [15, 16, 17, 18, 19, 20] := fun u Ads cds Aas cas Aks cks Ls => by rw [hE]; rfl
        have m0 : ∀ (u : Nd) (Ads : Option Addr) (cds : Nat) (Aas : Option Addr) (cas : Nat) (Aks : Option Addr) (cks : Nat) (Ls : Live), (0, 15, (.pointer (some ⟨w.heap.size, 11, none⟩) : Value)) ∈ E u Ads cds Aas cas Aks cks Ls := fun u Ads cds Aas cas Aks cks Ls => by rw [hE]; simp
        have m1 : ∀ (u : Nd) (Ads : Option Addr) (cds : Nat) (Aas : Option Addr) (cas : Nat) (Aks : Option Addr) (cks : Nat) (Ls : Live), (1, 16, (.slice (some ⟨g, 0, none⟩) ks.length ckc : Value)) ∈ E u Ads cds Aas cas Aks cks Ls := fun u Ads cds Aas cas Aks cks Ls => by rw [hE]; simp
        have m2 : ∀ (u : Nd) (Ads : Option Addr) (cds : Nat) (Aas : Option Addr) (cas : Nat) (Aks : Option Addr) (cks : Nat) (Ls : Live), (2, 17, (.int .i64 k : Value)) ∈ E u Ads cds Aas cas Aks cks Ls := fun u Ads cds Aas cas Aks cks Ls => by rw [hE]; simp
        have m3 : ∀ (u : Nd) (Ads : Option Addr) (cds : Nat) (Aas : Option Addr) (cas : Nat) (Aks : Option Addr) (cks : Nat) (Ls : Live), (3, 18, (.agg #[.int .i64 y.own.kind, .string y.own.name, .int .i64 y.own.mode, .int .i64 y.own.uid, .int .i64 y.own.gid, .int .i64 y.own.mtime, .slice Ad' y.own.data.length cd', .string y.own.target, .int .i64 y.own.major, .int .i64 y.own.minor, .slice Aa' y.own.attrs.length ca', .slice Ak' y.kids.length ck'] : Value)) ∈ E u Ads cds Aas cas Aks cks Ls := fun u Ads cds Aas cas Aks cks Ls => by rw [hE]; simp
        have m4 : ∀ (u : Nd) (Ads : Option Addr) (cds : Nat) (Aas : Option Addr) (cas : Nat) (Aks : Option Addr) (cks : Nat) (Ls : Live), (4, 19, (.agg #[.int .i64 u.own.kind, .string u.own.name, .int .i64 u.own.mode, .int .i64 u.own.uid, .int .i64 u.own.gid, .int .i64 u.own.mtime, .slice Ads u.own.data.length cds, .string u.own.target, .int .i64 u.own.major, .int .i64 u.own.minor, .slice Aas u.own.attrs.length cas, .slice Aks u.kids.length cks] : Value)) ∈ E u Ads cds Aas cas Aks cks Ls := fun u Ads cds Aas cas Aks cks Ls => by rw [hE]; simp
        have m5 : ∀ (u : Nd) (Ads : Option Addr) (cds : Nat) (Aas : Option Addr) (cas : Nat) (Aks : Option Addr) (cks : Nat) (Ls : Live), (5, 20, (.pointer (some ⟨g, k * 12, none⟩) : Value)) ∈ E u Ads cds Aas cas Aks cks Ls := fun u Ads cds Aas cas Aks cks Ls => by rw [hE]; simp
        have hn1 : ∀ (u : Nd) (Ads : Option Addr) (cds : Nat) (Aas : Option Addr) (cas : Nat) (Aks : Option Addr) (cks : Nat) (Ls : Live), ((E u Ads cds Aas cas Aks cks Ls).map fun t => t.1).Nodup := fun u Ads cds Aas cas Aks cks Ls => by rw [hE1]; decide
        have hn2 : ∀ (u : Nd) (Ads : Option Addr) (cds : Nat) (Aas : Option Addr) (cas : Nat) (Aks : Option Addr) (cks : Nat) (Ls : Live), ((E u Ads cds Aas cas Aks cks Ls).map fun t => t.2.1).Nodup := fun u Ads cds Aas cas Aks cks Ls => by rw [hE2]; decide
        have hlt : ∀ (u : Nd) (Ads : Option Addr) (cds : Nat) (Aas : Option Addr) (cas : Nat) (Aks : Option Addr) (cks : Nat) (Ls : Live), ∀ t ∈ E u Ads cds Aas cas Aks cks Ls, t.2.1 < l0.length := fun u Ads cds Aas cas Aks cks Ls => fun t ht => by
          have h1 : t.2.1 ∈ (E u Ads cds Aas cas Aks cks Ls).map fun t => t.2.1 := List.mem_map.2 ⟨t, ht, rfl⟩
          rw [hE2] at h1
          rw [hlen]
          simp only [List.mem_cons, List.mem_nil_iff, or_false] at h1
          omega
        have Xm0 := Lib.hid m0
        have Xm1 := Lib.hid m1
        have Xm2 := Lib.hid m2
        have Xm3 := Lib.hid m3
        have Xm4 := Lib.hid m4
        have Xm5 := Lib.hid m5
        have Xhn1 := Lib.hid hn1; have Xhn2 := Lib.hid hn2; have Xhlt := Lib.hid hlt; have XhE1 := Lib.hid hE1; have XhE2 := Lib.hid hE2; have XhE := Lib.hid hE; have Xl0 := Lib.hid hl0
        clear m0 m1 m2 m3 m4 m5 hn1 hn2 hlt hE1 hE2 hE hlen hl0
        refine wp_region_any (by kernel_rfl) ?_
        refine wpAny_inv (by kernel_rfl) (fun listed a' w' => ∃ (u : Nd) (Ads : Option Addr) (cds : Nat) (Aas : Option Addr) (cas : Nat) (Aks : Option Addr) (cks : Nat) (Ls : Live), Slots (E u Ads cds Aas cas Aks cks Ls) l0 listed a' ∧ (listed.getD 6 true = true → (∀ j, j < 6 → listed.getD j true = true) ∧ (SortRel y u ∧ (∃ kc', Out (nodeR n) Ls w' (w.heap.size + 2) 27 (.slice (some ⟨g, 0, none⟩) ks.length ckc) (ys.set k u) kc') ∧ ∃ wp, Ext Lk wb Ls wp ∧ w' = wp.setCells g (k * 12) (nodeV u.own (.slice Ads u.own.data.length cds) (.slice Aas u.own.attrs.length cas) (.slice Aks u.kids.length cks)))) ∧ (listed.getD 6 true = false → Below wb.heap.size wb w' ∧ Ext Lk wb Ls w' ∧ (listed.getD 4 true = true → (SortRel y u ∧ (nodeR n).R Ls w' u (nodeV u.own (.slice Ads u.own.data.length cds) (.slice Aas u.own.attrs.length cas) (.slice Aks u.kids.length cks)))))) ?step5 ?fin5 _ _ _ _ ?hs5 ?hf5 ?init5
        case hs5 => simp
        case hf5 => simp
        case init5 =>
          refine ⟨y, none, 0, none, 0, none, 0, Lk, ?_, fun h => absurd (show (Array.replicate 7 false).getD 6 true = true from h) (by decide), fun _ => ⟨(Below.refl _ _).drew, (Ext.refl HOkb.out).drew, fun h => ?_⟩⟩
          · exact Slots.start (exp := E (y) (none) (0) (none) (0) (none) (0) (Lk)) (l0 := l0) (m := 7) (fun t ht => by
              have h1 : t.1 ∈ (E (y) (none) (0) (none) (0) (none) (0) (Lk)).map fun t => t.1 := List.mem_map.2 ⟨t, ht, rfl⟩
              rw [XhE1.out] at h1
              simp only [List.mem_cons, List.mem_nil_iff, or_false] at h1
              omega)
          · exact absurd (show (Array.replicate 7 false).getD 4 true = true from h) (by decide)
        case fin5 =>
          intro listed a' w7 hls hall ⟨u, Ads, cds, Aas, cas, Aks, cks, Ls, hS, hL, _⟩
          obtain ⟨_, hso, ⟨kc', hO7⟩, wp, hXp, hwp⟩ := hL (hall 6 (by show 6 < 7; decide))
          have hf := hS.frame (fun t ht => hall _ (by
            have h1 : t.1 ∈ (E u Ads cds Aas cas Aks cks Ls).map fun t => t.1 := List.mem_map.2 ⟨t, ht, rfl⟩
            rw [XhE1.out] at h1
            simp only [List.mem_cons, List.mem_nil_iff, or_false] at h1
            show t.1 < 7
            omega)) (Xhn2.out u Ads cds Aas cas Aks cks Ls) (Xhlt.out u Ads cds Aas cas Aks cks Ls)
          rw [XhE.out, Xl0.out] at hf
          simp only [filled, List.foldl_cons, List.foldl_nil, List.set_cons_zero, List.set_cons_succ] at hf
          rw [hf]
          have hgw : wp.grownBy w7 (some g) := by rw [hwp]; exact setCells_grown g _ _ wp
          have hnl : ∀ j, ¬ Ls g j := Ext.not_live hXp (by omega) HNn.out
          have hsub : Sub Ls wp Ls w7 := by rw [hwp]; exact Sub.setCells _ _ wp hnl
          have hsp := hXp.below.size
          have HX7 : Hid (Ext L w Ls w7) := Lib.hid (by rw [hwp]; exact Ext.setCells _ _ (HXw.out.trans hXp) (by omega))
          have HO7 := Lib.hid hO7
          have hsubp := Ext.sub HOkb.out hXp
          have HD7 := Lib.hid (HDb.out.mono (hsubp.trans hsub)); have HA7 := Lib.hid (HAb.out.mono (hsubp.trans hsub))
          have HBx7 := Lib.hid ((hgw.block _ (by omega) (fun e => by injection e with e; omega)).trans ((hXp.below.block _ (by omega)).trans HBx5.out))
          have HZ7 := Lib.hid ((hgw.block _ (by omega) (fun e => by injection e with e; omega)).trans ((hXp.below.block _ (by omega)).trans HZb.out))
          have HN7 : Hid (∀ j, ¬ Ls w.heap.size j ∧ ¬ Ls (w.heap.size + 1) j) := Lib.hid (fun j => ⟨Ext.not_live hXp (by omega) (fun j => (HN.out j).1) j, Ext.not_live hXp (by omega) (fun j => (HN.out j).2) j⟩)
          have HH7 := Lib.hid (HNx.out u hso)
          clear hf hS hL hso hO7 hXp hwp hgw hnl hsub hsp hsubp
          go_wp2
          go_roundw
          case rel => exact ⟨k + 1, ys.set k u, kc', Ls, by omega, by go_num, HH7, HO7, Lib.hid (.inr trivial), HX7, HD7, HA7, HBx7, HZ7, HN7⟩
          case measure => simp [intOf]; omega
        case step5 =>
          intro listed a' w' i hls hI hmem
          have hr := ready_of hls hmem
          have hi : i < 7 := hr.1
          have hcase : i = 0 ∨ i = 1 ∨ i = 2 ∨ i = 3 ∨ i = 4 ∨ i = 5 ∨ i = 6 := by omega
          rcases hcase with rfl | rfl | rfl | rfl | rfl | rfl | rfl
          · obtain ⟨u, Ads, cds, Aas, cas, Aks, cks, Ls, hS, hL, hNo⟩ := hI
            have hl : listed.getD 6 true = false := by
              cases h : listed.getD 6 true with
              | false => rfl
              | true => exact absurd ((hL h).1 0 (by decide)) (by rw [hr.2.1]; decide)
            obtain ⟨hB, hA0, hF0⟩ := hNo hl
            have e1 := hS.at0 1 (.pointer (some ⟨w.heap.size, 0, none⟩)) (by rw [XhE2.out]; decide) (by rw [Xl0.out]; rfl)
            refine wpOp_plain' rfl rfl fun K' hK => ?_
            go_simp
            exact hK _ _ ⟨u, Ads, cds, Aas, cas, Aks, cks, Ls, hS.put' (Xhn1.out u Ads cds Aas cas Aks cks Ls) (Xhn2.out u Ads cds Aas cas Aks cks Ls) (Xhlt.out u Ads cds Aas cas Aks cks Ls) (Xm0.out u Ads cds Aas cas Aks cks Ls), fun h => absurd h (by rw [set_get (by decide), hl]; decide), fun _ => ⟨hB, hA0, fun h => hF0 (by rwa [set_get (by decide)] at h)⟩⟩
          · obtain ⟨u, Ads, cds, Aas, cas, Aks, cks, Ls, hS, hL, hNo⟩ := hI
            have hl : listed.getD 6 true = false := by
              cases h : listed.getD 6 true with
              | false => rfl
              | true => exact absurd ((hL h).1 1 (by decide)) (by rw [hr.2.1]; decide)
            obtain ⟨hB, hA0, hF0⟩ := hNo hl
            obtain ⟨_, _, _, _, _, _, _, _, _, _, _, n11⟩ := twelve_box ((hB.block _ (by omega)).trans HBx5.out)
            have d0 := hr.2.2 _ rfl ⟨0, .data⟩ (by simp) rfl
            have e15 := hS.at_ (Xm0.out u Ads cds Aas cas Aks cks Ls) d0
            refine wpOp_plain' rfl rfl fun K' hK => ?_
            go_simp
            exact hK _ _ ⟨u, Ads, cds, Aas, cas, Aks, cks, Ls, hS.put' (Xhn1.out u Ads cds Aas cas Aks cks Ls) (Xhn2.out u Ads cds Aas cas Aks cks Ls) (Xhlt.out u Ads cds Aas cas Aks cks Ls) (Xm1.out u Ads cds Aas cas Aks cks Ls), fun h => absurd h (by rw [set_get (by decide), hl]; decide), fun _ => ⟨hB, hA0, fun h => hF0 (by rwa [set_get (by decide)] at h)⟩⟩
          · obtain ⟨u, Ads, cds, Aas, cas, Aks, cks, Ls, hS, hL, hNo⟩ := hI
            have hl : listed.getD 6 true = false := by
              cases h : listed.getD 6 true with
              | false => rfl
              | true => exact absurd ((hL h).1 2 (by decide)) (by rw [hr.2.1]; decide)
            obtain ⟨hB, hA0, hF0⟩ := hNo hl
            have e3 := hS.at0 3 (.int .i64 k) (by rw [XhE2.out]; decide) (by rw [Xl0.out]; rfl)
            refine wpOp_plain' rfl rfl fun K' hK => ?_
            go_simp
            exact hK _ _ ⟨u, Ads, cds, Aas, cas, Aks, cks, Ls, hS.put' (Xhn1.out u Ads cds Aas cas Aks cks Ls) (Xhn2.out u Ads cds Aas cas Aks cks Ls) (Xhlt.out u Ads cds Aas cas Aks cks Ls) (Xm2.out u Ads cds Aas cas Aks cks Ls), fun h => absurd h (by rw [set_get (by decide), hl]; decide), fun _ => ⟨hB, hA0, fun h => hF0 (by rwa [set_get (by decide)] at h)⟩⟩
          · obtain ⟨u, Ads, cds, Aas, cas, Aks, cks, Ls, hS, hL, hNo⟩ := hI
            have hl : listed.getD 6 true = false := by
              cases h : listed.getD 6 true with
              | false => rfl
              | true => exact absurd ((hL h).1 3 (by decide)) (by rw [hr.2.1]; decide)
            obtain ⟨hB, hA0, hF0⟩ := hNo hl
            obtain ⟨n0, n1, n2, n3, n4, n5, n6, n7, n8, n9, n10, n11⟩ := twelve_box ((hB.block _ hsb).trans HBb.out)
            have e4 := hS.at0 4 (.pointer (some ⟨wr.heap.size, 0, none⟩)) (by rw [XhE2.out]; decide) (by rw [Xl0.out]; rfl)
            refine wpOp_plain' rfl rfl fun K' hK => ?_
            go_simp
            exact hK _ _ ⟨u, Ads, cds, Aas, cas, Aks, cks, Ls, hS.put' (Xhn1.out u Ads cds Aas cas Aks cks Ls) (Xhn2.out u Ads cds Aas cas Aks cks Ls) (Xhlt.out u Ads cds Aas cas Aks cks Ls) (Xm3.out u Ads cds Aas cas Aks cks Ls), fun h => absurd h (by rw [set_get (by decide), hl]; decide), fun _ => ⟨hB, hA0, fun h => hF0 (by rwa [set_get (by decide)] at h)⟩⟩
          · obtain ⟨u, Ads, cds, Aas, cas, Aks, cks, Ls, hS, hL, hNo⟩ := hI
            have hl : listed.getD 6 true = false := by
              cases h : listed.getD 6 true with
              | false => rfl
              | true => exact absurd ((hL h).1 4 (by decide)) (by rw [hr.2.1]; decide)
            obtain ⟨hB, hA0, hF0⟩ := hNo hl
            have d3 := hr.2.2 _ rfl ⟨3, .data⟩ (by simp) rfl
            have e18 := hS.at_ (Xm3.out u Ads cds Aas cas Aks cks Ls) d3
            refine wpOp_plain' rfl rfl fun K' hK => ?_
            go_simp
            refine (ih y _ Ls w' ((nodeR n).mono (Ext.sub HOkb.out hA0) HRb.out) hbk.1 hbk.2 hA0.ok).mono ?_
            rintro e w1' ⟨u', hu', cs', Ls', rfl, hz', hX'⟩
            obtain ⟨m', Ads', cds', Aas', cas', Aks', cks', _, rfl, _, _, _, _, _, _, _⟩ := node_open hz'
            have hS2 : Slots (E u' Ads' cds' Aas' cas' Aks' cks' Ls') l0 listed a' := by
              rw [XhE.out] at hS ⊢
              exact Slots.turn1 (P := [(0, 15, .pointer (some ⟨w.heap.size, 11, none⟩)), (1, 16, .slice (some ⟨g, 0, none⟩) ks.length ckc), (2, 17, .int .i64 k), (3, 18, .agg #[.int .i64 y.own.kind, .string y.own.name, .int .i64 y.own.mode, .int .i64 y.own.uid, .int .i64 y.own.gid, .int .i64 y.own.mtime, .slice Ad' y.own.data.length cd', .string y.own.target, .int .i64 y.own.major, .int .i64 y.own.minor, .slice Aa' y.own.attrs.length ca', .slice Ak' y.kids.length ck'])]) (Q := [(5, 20, .pointer (some ⟨g, k * 12, none⟩))]) hS hr.2.1
            exact hK _ _ ⟨u', Ads', cds', Aas', cas', Aks', cks', Ls', hS2.put' (Xhn1.out u' Ads' cds' Aas' cas' Aks' cks' Ls') (Xhn2.out u' Ads' cds' Aas' cas' Aks' cks' Ls') (Xhlt.out u' Ads' cds' Aas' cas' Aks' cks' Ls') (Xm4.out u' Ads' cds' Aas' cas' Aks' cks' Ls'), fun h => absurd h (by rw [set_get (by decide), hl]; decide), fun _ => ⟨hB.trans (hX'.below.mono hB.size), hA0.trans hX', fun _ => ⟨hu', hz'⟩⟩⟩
          · obtain ⟨u, Ads, cds, Aas, cas, Aks, cks, Ls, hS, hL, hNo⟩ := hI
            have hl : listed.getD 6 true = false := by
              cases h : listed.getD 6 true with
              | false => rfl
              | true => exact absurd ((hL h).1 5 (by decide)) (by rw [hr.2.1]; decide)
            obtain ⟨hB, hA0, hF0⟩ := hNo hl
            have d1 := hr.2.2 _ rfl ⟨1, .data⟩ (by simp) rfl
            have e16 := hS.at_ (Xm1.out u Ads cds Aas cas Aks cks Ls) d1
            have d2 := hr.2.2 _ rfl ⟨2, .data⟩ (by simp) rfl
            have e17 := hS.at_ (Xm2.out u Ads cds Aas cas Aks cks Ls) d2
            refine wpOp_plain' rfl rfl fun K' hK => ?_
            go_simp
            exact hK _ _ ⟨u, Ads, cds, Aas, cas, Aks, cks, Ls, hS.put' (Xhn1.out u Ads cds Aas cas Aks cks Ls) (Xhn2.out u Ads cds Aas cas Aks cks Ls) (Xhlt.out u Ads cds Aas cas Aks cks Ls) (Xm5.out u Ads cds Aas cas Aks cks Ls), fun h => absurd h (by rw [set_get (by decide), hl]; decide), fun _ => ⟨hB, hA0, fun h => hF0 (by rwa [set_get (by decide)] at h)⟩⟩
          · obtain ⟨u, Ads, cds, Aas, cas, Aks, cks, Ls, hS, hL, hNo⟩ := hI
            have hl : listed.getD 6 true = false := hr.2.1
            obtain ⟨hB, hA0, hF0⟩ := hNo hl
            have d5 := hr.2.2 _ rfl ⟨5, .data⟩ (by simp) rfl
            have e20 := hS.at_ (Xm5.out u Ads cds Aas cas Aks cks Ls) d5
            have d4 := hr.2.2 _ rfl ⟨4, .data⟩ (by simp) rfl
            have e19 := hS.at_ (Xm4.out u Ads cds Aas cas Aks cks Ls) d4
            refine wpOp_plain' rfl rfl fun K' hK => ?_
            have hNz := hF0 (hr.2.2 _ rfl ⟨4, .data⟩ (by simp) rfl)
            have hc' : ∀ j v, (nodeV y.own (.slice Ad' y.own.data.length cd') (.slice Aa' y.own.attrs.length ca') (.slice Ak' y.kids.length ck'))[j]? = some v → w'.cell? ⟨g, k * 12 + j, none⟩ = some v ∧ w'.frozen? ⟨g, k * 12 + j, none⟩ = false := fun j v hv => ⟨(World.cell?_of_block (w := wb) (a := ⟨g, k * 12 + j, none⟩) (hB.block g (by omega))).trans (HCb.out j v hv).1, (World.frozen?_of_block (w := wb) (a := ⟨g, k * 12 + j, none⟩) (hB.block g (by omega))).trans (HCb.out j v hv).2⟩
            obtain ⟨n0, f0⟩ := hc' 0 _ rfl; obtain ⟨n1, f1⟩ := hc' 1 _ rfl; obtain ⟨n2, f2⟩ := hc' 2 _ rfl; obtain ⟨n3, f3⟩ := hc' 3 _ rfl; obtain ⟨n4, f4⟩ := hc' 4 _ rfl; obtain ⟨n5, f5⟩ := hc' 5 _ rfl; obtain ⟨n6, f6⟩ := hc' 6 _ rfl; obtain ⟨n7, f7⟩ := hc' 7 _ rfl; obtain ⟨n8, f8⟩ := hc' 8 _ rfl; obtain ⟨n9, f9⟩ := hc' 9 _ rfl; obtain ⟨n10, f10⟩ := hc' 10 _ rfl; obtain ⟨n11, f11⟩ := hc' 11 _ rfl
            simp only [Nat.add_zero] at n0 f0
            have hO' := HOb.out.ext HOkb.out hA0
            obtain ⟨kc', hP'⟩ := nout_put hO' k Hky.out rfl hNz.2
            go_simp
            skip
            have hall2 : ∀ j, j < 6 → (listed.setIfInBounds 6 true).getD j true = true := fun j hj => by
              rw [set_get (by omega)]
              have hc : j = 0 ∨ j = 1 ∨ j = 2 ∨ j = 3 ∨ j = 4 ∨ j = 5 := by omega
              rcases hc with rfl | rfl | rfl | rfl | rfl | rfl
              · exact hr.2.2 _ rfl ⟨0, .phase⟩ (by simp) rfl
              · exact hr.2.2 _ rfl ⟨1, .phase⟩ (by simp) rfl
              · exact hr.2.2 _ rfl ⟨2, .phase⟩ (by simp) rfl
              · exact hr.2.2 _ rfl ⟨3, .phase⟩ (by simp) rfl
              · exact hr.2.2 _ rfl ⟨4, .data⟩ (by simp) rfl
              · exact hr.2.2 _ rfl ⟨5, .data⟩ (by simp) rfl
            exact hK _ _ ⟨u, Ads, cds, Aas, cas, Aks, cks, Ls, hS.skip' (v := undef) (XhE1.out u Ads cds Aas cas Aks cks Ls) (by decide), fun _ => ⟨hall2, ⟨hNz.1, ⟨kc', hP'⟩, w', hA0, rfl⟩⟩, fun h => absurd (show (listed.setIfInBounds 6 true).getD 6 true = false from h) (by rw [set_self (by rw [hls]; show 6 < 7; decide)]; decide)⟩
      · have hke : k = ks.length := by omega
        have HL : Hid (ys.length = ks.length) := Lib.hid HH.out.len
        have HC : Hid (Calls Try.prog 60 #[.slice Akc ks.length ckc, .func (.func 61) #[] #[]] wr (Sorts n Lk wr (w.heap.size + 2) (.slice Akc ks.length ckc) ys)) := Lib.hid (by
          have := kidsort_any n Lk wr (w.heap.size + 2) Akc ckc ys cells (by rw [HL.out]; exact HO.out) HX.out.ok (by rw [HL.out]; omega)
          rw [HL.out] at this
          exact this)
        have HPr : Hid (∃ zs, Pairs ks zs ∧ ys = zs) := Lib.hid (by
          obtain ⟨zs, h1, h2⟩ := HH.out
          rw [hke, List.take_length] at h1
          rw [hke, List.drop_length, List.append_nil] at h2
          exact ⟨zs, h1, h2⟩)
        obtain ⟨n0, n1, n2, n3, n4, n5, n6, n7, n8, n9, n10, n11⟩ := twelve_box HBx.out
        have hI2 : ¬ (k : Int) < (ks.length : Int) := by omega
        clear hke hlt
        go_wp2_with fail
        refine HC.out.mono ?_
        rintro e w7 ⟨rfl, ys', kc', hp, hso, ho, hgr⟩
        have hrow : ∀ j, (Value.slice Akc ks.length ckc).ownBlock = some j → w.heap.size + 2 ≤ j := fun j hj => (HO.out.1.lt j hj).1
        have hX7 : Ext L w Lk w7 := grown_ext HX.out hgr (fun j hj => by have := hrow j hj; omega)
        have hl' : ys'.length = ks.length := by rw [← hp.length_eq, HL.out]
        obtain ⟨L8, hS8, hsub, hX8, hL8⟩ := ho.publish_ext hX7 (by omega) (by rw [hl']; simp only [big]; omega)
        have hne0 : some w.heap.size ≠ (Value.slice Akc ks.length ckc).ownBlock := fun e => by have := hrow _ e.symm; omega
        have hne1 : some (w.heap.size + 1) ≠ (Value.slice Akc ks.length ckc).ownBlock := fun e => by have := hrow _ e.symm; omega
        have b0 := (hgr.block _ (by omega) hne0).trans HBx.out
        have b1 := (hgr.block _ (by omega) hne1).trans HZ.out
        have m1 : ∀ j, ¬ L8 (w.heap.size + 1) j := fun j hj => by rw [hL8 _ hne1] at hj; exact (HN.out j).2 hj
        have hs := (grown_sub hgr HX.out.ok (fun j hj i => HO.out.2.2 j hj i)).trans hsub
        have hB : Bears (n + 1) (.mk x.own ys') (nodeV x.own (.slice Adc x.own.data.length cdc) (.slice Aac x.own.attrs.length cac) (.slice Akc ks.length ckc)) L w L8 w7 := ⟨hX8, ⟨_, _, _, rfl, HFit.out, HD.out.mono hs, HA.out.mono hs, hS8⟩⟩
        have HSR : Hid (SortRel x (.mk x.own ys')) := Lib.hid (by
          obtain ⟨zs, h1, h2⟩ := HPr.out
          rw [h2] at hp
          exact HSo.out ys' zs h1 hp hso)
        have HBr := Lib.hid hB; have P1 := Lib.hid b1; have M1 := Lib.hid m1
        clear n0 n1 n2 n3 n4 n5 n6 n7 n8 n9 n10 n11
        obtain ⟨n0, n1, n2, n3, n4, n5, n6, n7, n8, n9, n10, n11⟩ := twelve_box b0
        obtain ⟨p0, p1, p2, p3, p4, p5, p6, p7, p8, p9, p10, p11⟩ := twelve b1
        obtain ⟨q0, q1, q2, q3, q4, q5, q6, q7, q8, q9, q10, q11⟩ := twelve_free b1
        clear hp hso ho hgr hrow hX7 hl' hS8 hsub hX8 hL8 hne0 hne1 b0 b1 m1 hs hB HX HO HC HPr HL
        go_wp2
        refine bodyPost_ret (v := .agg (nodeV x.own (.slice Adc x.own.data.length cdc) (.slice Aac x.own.attrs.length cac) (.slice Akc ks.length ckc)).toArray) (results_row rfl _ rfl (fill12 P1.out _ _ _ _ _ _ _ _ _ _ _ _) Try.underlying27 rfl (by kernel_rfl)) rfl ?_
        refine MadeSo.of (L' := L8) HSR.out ?_
        repeat (first | (with_reducible refine Bears.set ?_ (Nat.le_succ _) M1.out _ _) | (with_reducible exact HBr.out))
end Go.Proofs.Ytojcciciinklbaa
