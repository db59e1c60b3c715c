/- Walks: the tree that the document makes of any. No claim by itself. -/
import Derived.Test.YtojcciciinklbaaRef8
import Derived.Test.YtojcciciinklbaaRef10
set_option linter.unusedSimpArgs false
set_option linter.unusedVariables false
namespace Go.Proofs.Ytojcciciinklbaa
open Go.RowKit

theorem rrow_any (gs : List GV) (v : Value) (L : Live) (w : World) (hS : SliceR gR L w gs v) (hok : LOk L w) :
    Calls Try.prog 19 #[v] w (MadeF (rowF gs) L w) := rrow_of (fun g Ab cb L w h1 h2 h3 => rnode_any g Ab cb L w h1 h2 h3) gs v L w hS hok
theorem row_pos (gs : List GV) : 0 < (rowF gs).length := by
  obtain ⟨e, r, he, _⟩ := (row_tree gs).head
  rw [he]; simp
end Go.Proofs.Ytojcciciinklbaa

/- Walks: the tree that the document makes of any: the walk. No claim by itself. -/
set_option linter.unusedSimpArgs false
set_option linter.unusedVariables false
namespace Go.Proofs.Ytojcciciinklbaa
open Go.RowKit

set_option maxRecDepth 100000 in
set_option maxHeartbeats 4000000 in
theorem rmade_any (gs : List GV) (v : Value) (L : Live) (w : World) (hS : SliceR gR L w gs v) (hok : LOk L w) :
    Calls Try.prog 18 #[v] w (MadeN 13 (madeF gs) L w) := by
  have HS := Lib.hid hS; have Hok := Lib.hid hok
  clear hS hok
  have c27 := cellsNode
  go_enter Try.func18, Try.ntmps18
  go_wp2_with fail
  have HX0 : Hid (Ext L w L (w.alloc zeroB)) := Lib.hid ((Ext.refl Hok.out).alloc _)
  have HZ0 : Hid ((w.alloc zeroB).heap[w.heap.size]? = some zeroB) := Lib.hid (heap_alloc_new w _)
  refine (rrow_any gs _ L _ (HS.out.mono (Ext.sub Hok.out HX0.out)) HX0.out.ok).mono ?_
  rintro e w1 ⟨v1, cells, L1, rfl, ho, hx⟩
  have hl := row_len gs
  have hp := row_pos gs
  obtain ⟨L2, hS2, _, hX2, hL2⟩ := ho.publish_ext (HX0.out.trans hx) (by simp only [World.size_alloc]; omega) (by simp only [big]; omega)
  have hz1 := (hx.below.block w.heap.size (by simp)).trans HZ0.out
  have hn2 : ∀ j, ¬ L2 w.heap.size j := fun j hj => by
    rw [hL2 w.heap.size (fun e => by have := (ho.1.lt _ e.symm).1; simp at this; omega)] at hj
    exact Ext.not_live hx (by simp) (not_live Hok.out (Nat.le_refl _)) j hj
  have HN2 := Lib.hid hn2
  have HS2 := Lib.hid hS2; have HX2 := Lib.hid hX2; have HZ1 := Lib.hid hz1
  clear ho hx hS2 hX2 hz1 HX0 HZ0 hn2 hL2
  go_wp2_with fail
  refine (rtree_any 13 (rowF gs) 0 v1 L2 w1 HS2.out hp (by omega) (by omega) HX2.out.ok).mono ?_
  rintro e w3 ⟨cs3, L3, rfl, h3, x3⟩
  obtain ⟨m, Ad, cd, Aa, ca, Ak, ck, hm, rfl, hP, _, _, _, _, _, _⟩ := node_open h3
  have hM : treeF ((rowF gs).drop 0) = madeF gs := rfl
  rw [hM] at h3 hP ⊢
  obtain ⟨x, hx⟩ : ∃ x, x = madeF gs := ⟨_, rfl⟩
  rw [← hx] at h3 hP ⊢
  have HNl : Hid (∀ j, ¬ L3 w.heap.size j) := Lib.hid (Ext.not_live x3 (Array.getElem?_eq_some_iff.1 HZ1.out).1 HN2.out)
  have Hx := Lib.hid hx
  have H3 := Lib.hid h3; have HX3 := Lib.hid (HX2.out.trans x3)
  have hb3 := HX2.out.below.size
  have hz3 := (x3.below.block w.heap.size (Array.getElem?_eq_some_iff.1 HZ1.out).1).trans HZ1.out
  have HZ3 := Lib.hid hz3
  have hlt3 := (Array.getElem?_eq_some_iff.1 hz3).1
  clear h3 hP hm hx x3 hz3 hM
  unfold nodeV
  go_upto_region 2 with fail
  obtain ⟨w4, hw4⟩ : ∃ w4, w4 = w3.alloc (boxO x.own Ad cd Aa ca Ak x.kids.length ck) := ⟨_, rfl⟩
  have hX4 : Ext L w L3 w4 := by rw [hw4]; exact HX3.out.alloc _
  have hb4 : w4.heap[w3.heap.size]? = some (boxO x.own Ad cd Aa ca Ak x.kids.length ck) := by rw [hw4]; exact heap_alloc_new w3 _
  have hz4 : w4.heap[w.heap.size]? = some zeroB := by rw [hw4]; exact (Below.heap_alloc _ _ _ hlt3).trans HZ3.out
  have hB : Bears 13 x (nodeV x.own (.slice Ad x.own.data.length cd) (.slice Aa x.own.attrs.length ca) (.slice Ak x.kids.length ck)) L w L3 w4 := ⟨hX4, by rw [hw4]; exact (nodeR 13).mono (sub_same ((Below.refl _ _).alloc (Nat.le_refl _) _)) H3.out⟩
  have HBr := Lib.hid hB; have HB4 := Lib.hid hb4; have HZ4 := Lib.hid hz4
  show Code.wp _ _ _ _ (w3.alloc (boxO x.own Ad cd Aa ca Ak x.kids.length ck))
  rw [← hw4]
  clear hX4 hb4 hz4 hB hw4
  refine wp_region_lit ?_
  refine wpList_load_row rfl 27 (.tmp 3) rfl w3.heap.size rfl _ _ _ _ (by exact HB4.out) Try.underlying27 rfl (by kernel_rfl) ?_
  refine wpList_store_row rfl 27 (.tmp 2) (.tmp 11) rfl w.heap.size _ rfl rfl _ _ HZ4.out (by kernel_rfl) (by rfl) (by simp [Value.oneCell']) ?_
  refine wpList_nil ?_
  generalize hfr : Act.put (Act.put _ _ _) _ _ = aF
  have hF2 : aF.tmps.getD 2 undef = .pointer (some ⟨w.heap.size, 0, none⟩) := by rw [← hfr]; rfl
  have hF3 : aF.defers = [] := by rw [← hfr]; rfl
  have HF2 := Lib.hid hF2; have HF3 := Lib.hid hF3
  clear hfr hF2 hF3
  go_wp2
  refine bodyPost_ret (v := .agg (nodeV x.own (.slice Ad x.own.data.length cd) (.slice Aa x.own.attrs.length ca) (.slice Ak x.kids.length ck)).toArray) (results_row rfl _ HF2.out (setRow_heap _ _ _ _ _ _ (by exact HZ4.out)) Try.underlying27 rfl (by kernel_rfl)) HF3.out ?_
  rw [← Hx.out]
  refine MadeN.of (L' := L3) ?_
  exact Bears.setRow HBr.out (Nat.le_refl _) HNl.out _
end Go.Proofs.Ytojcciciinklbaa
