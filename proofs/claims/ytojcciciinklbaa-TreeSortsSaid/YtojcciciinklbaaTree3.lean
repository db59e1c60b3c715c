/- Walks: a node's clone. No claim by itself. -/
import Derived.Test.YtojcciciinklbaaTree2
set_option linter.unusedSimpArgs false
set_option linter.unusedVariables false
namespace Go.Proofs.Ytojcciciinklbaa
open Go.RowKit

mutual
/-- How much there is. -/
def bulk : Nd → Nat
  | .mk o ks => o.data.length + o.attrs.length + bulkL ks + 1
def bulkL : List Nd → Nat
  | [] => 0
  | k :: ks => bulk k + bulkL ks
end
theorem bulk_eq (x : Nd) : bulk x = x.own.data.length + x.own.attrs.length + bulkL x.kids + 1 := by cases x; rfl
theorem bulkL_mem : ∀ {xs : List Nd} {k : Nat} (h : k < xs.length), bulk xs[k] ≤ bulkL xs
  | x :: xs, 0, _ => by simp [bulkL]
  | x :: xs, k + 1, h => by
    have := bulkL_mem (xs := xs) (k := k) (by simpa using h)
    simp only [bulkL, List.getElem_cons_succ]; omega
theorem bulkL_len : ∀ xs : List Nd, xs.length ≤ bulkL xs
  | [] => by simp
  | x :: xs => by have := bulkL_len xs; rw [bulkL, bulk_eq]; simp; omega
theorem Try.infoNode : (Try.prog.info? 27).map (fun i => (i.zero, i.size, i.bytes)) = some (some (.agg #[.int .i64 0, .string ⟨#[]⟩, .int .i64 0, .int .i64 0, .int .i64 0, .int .i64 0, .slice none 0 0, .string ⟨#[]⟩, .int .i64 0, .int .i64 0, .slice none 0 0, .slice none 0 0]), 12, 160) := by kernel_rfl

theorem frozen_block {w : World} {g : Nat} {cs : Array Value} {e : Nat} (h : w.heap[g]? = some (.cells cs e (0, 0))) (j : Nat) : w.frozen? ⟨g, j, none⟩ = false := by simp [World.frozen?, h]
theorem heap_setCell_same {w : World} {g e j : Nat} {cs : Array Value} {fr : Nat × Nat} (h : w.heap[g]? = some (.cells cs e fr)) (u : Value) : (w.setCell ⟨g, j, none⟩ u).heap[g]? = some (.cells (cs.setIfInBounds j u) e fr) := by
  simp [World.setCell, Array.getElem?_modify, h]
theorem heap_set_ne {w : World} {g : Nat} (j : Nat) (u : Value) (k : Nat) (h : k ≠ g) : (w.setCell ⟨g, j, none⟩ u).heap[k]? = w.heap[k]? := Below.heap_setCell _ _ _ _ h
/-- Two boxes that were laid, behind a call. -/
theorem two_boxes {w w1 : World} {o1 o2 : Obj} (hX : Below ((w.alloc o1).alloc o2).heap.size ((w.alloc o1).alloc o2) w1) :
    w1.heap[w.heap.size]? = some o1 ∧ w1.heap[w.heap.size + 1]? = some o2 ∧ Below w.heap.size w w1 ∧ w.heap.size + 1 + 1 ≤ w1.heap.size := by
  have hs := hX.size
  simp at hs
  refine ⟨?_, ?_, (((Below.refl _ w).alloc (Nat.le_refl _) _).alloc (by simp) _).trans (hX.mono (by simp; omega)), by omega⟩
  · rw [hX.block _ (by simp; omega), Below.heap_alloc _ _ _ (by simp)]; exact heap_alloc_new w _
  · rw [hX.block _ (by simp)]
    have := heap_alloc_new (w.alloc o1) o2
    simpa using this

/-- A block's twelve cells. -/
theorem twelve {w : World} {b t : Nat} {a0 a1 a2 a3 a4 a5 a6 a7 a8 a9 a10 a11 : Value} {fr : Nat × Nat} (h : w.heap[b]? = some (.cells #[a0, a1, a2, a3, a4, a5, a6, a7, a8, a9, a10, a11] t fr)) :
    w.cell? ⟨b, 0, none⟩ = some a0 ∧ w.cell? ⟨b, 1, none⟩ = some a1 ∧ w.cell? ⟨b, 2, none⟩ = some a2 ∧ w.cell? ⟨b, 3, none⟩ = some a3 ∧ w.cell? ⟨b, 4, none⟩ = some a4 ∧ w.cell? ⟨b, 5, none⟩ = some a5 ∧ w.cell? ⟨b, 6, none⟩ = some a6 ∧ w.cell? ⟨b, 7, none⟩ = some a7 ∧ w.cell? ⟨b, 8, none⟩ = some a8 ∧ w.cell? ⟨b, 9, none⟩ = some a9 ∧ w.cell? ⟨b, 10, none⟩ = some a10 ∧ w.cell? ⟨b, 11, none⟩ = some a11 := by
  refine ⟨?_, ?_, ?_, ?_, ?_, ?_, ?_, ?_, ?_, ?_, ?_, ?_⟩ <;> (rw [cell_block h]; rfl)
theorem twelve_free {w : World} {b t : Nat} {cs : Array Value} (h : w.heap[b]? = some (.cells cs t (0, 0))) :
    w.frozen? ⟨b, 0, none⟩ = false ∧ w.frozen? ⟨b, 1, none⟩ = false ∧ w.frozen? ⟨b, 2, none⟩ = false ∧ w.frozen? ⟨b, 3, none⟩ = false ∧ w.frozen? ⟨b, 4, none⟩ = false ∧ w.frozen? ⟨b, 5, none⟩ = false ∧ w.frozen? ⟨b, 6, none⟩ = false ∧ w.frozen? ⟨b, 7, none⟩ = false ∧ w.frozen? ⟨b, 8, none⟩ = false ∧ w.frozen? ⟨b, 9, none⟩ = false ∧ w.frozen? ⟨b, 10, none⟩ = false ∧ w.frozen? ⟨b, 11, none⟩ = false :=
  ⟨frozen_block h _, frozen_block h _, frozen_block h _, frozen_block h _, frozen_block h _, frozen_block h _, frozen_block h _, frozen_block h _, frozen_block h _, frozen_block h _, frozen_block h _, frozen_block h _⟩

/-- Twelve stores, one behind the other. -/
theorem fill12 {w : World} {b t : Nat} {z0 z1 z2 z3 z4 z5 z6 z7 z8 z9 z10 z11 : Value} {fr : Nat × Nat} (h : w.heap[b]? = some (.cells #[z0, z1, z2, z3, z4, z5, z6, z7, z8, z9, z10, z11] t fr)) (v0 v1 v2 v3 v4 v5 v6 v7 v8 v9 v10 v11 : Value) :
    ((((((((((((w.setCell ⟨b, 0, none⟩ v0).setCell ⟨b, 1, none⟩ v1).setCell ⟨b, 2, none⟩ v2).setCell ⟨b, 3, none⟩ v3).setCell ⟨b, 4, none⟩ v4).setCell ⟨b, 5, none⟩ v5).setCell ⟨b, 6, none⟩ v6).setCell ⟨b, 7, none⟩ v7).setCell ⟨b, 8, none⟩ v8).setCell ⟨b, 9, none⟩ v9).setCell ⟨b, 10, none⟩ v10).setCell ⟨b, 11, none⟩ v11).heap[b]? = some (.cells #[v0, v1, v2, v3, v4, v5, v6, v7, v8, v9, v10, v11] t fr) := by
  have e0 := heap_setCell_same (j := 0) h v0
  rw [show (#[z0, z1, z2, z3, z4, z5, z6, z7, z8, z9, z10, z11] : Array Value).setIfInBounds 0 v0 = #[v0, z1, z2, z3, z4, z5, z6, z7, z8, z9, z10, z11] from rfl] at e0
  have e1 := heap_setCell_same (j := 1) e0 v1
  rw [show (#[v0, z1, z2, z3, z4, z5, z6, z7, z8, z9, z10, z11] : Array Value).setIfInBounds 1 v1 = #[v0, v1, z2, z3, z4, z5, z6, z7, z8, z9, z10, z11] from rfl] at e1
  have e2 := heap_setCell_same (j := 2) e1 v2
  rw [show (#[v0, v1, z2, z3, z4, z5, z6, z7, z8, z9, z10, z11] : Array Value).setIfInBounds 2 v2 = #[v0, v1, v2, z3, z4, z5, z6, z7, z8, z9, z10, z11] from rfl] at e2
  have e3 := heap_setCell_same (j := 3) e2 v3
  rw [show (#[v0, v1, v2, z3, z4, z5, z6, z7, z8, z9, z10, z11] : Array Value).setIfInBounds 3 v3 = #[v0, v1, v2, v3, z4, z5, z6, z7, z8, z9, z10, z11] from rfl] at e3
  have e4 := heap_setCell_same (j := 4) e3 v4
  rw [show (#[v0, v1, v2, v3, z4, z5, z6, z7, z8, z9, z10, z11] : Array Value).setIfInBounds 4 v4 = #[v0, v1, v2, v3, v4, z5, z6, z7, z8, z9, z10, z11] from rfl] at e4
  have e5 := heap_setCell_same (j := 5) e4 v5
  rw [show (#[v0, v1, v2, v3, v4, z5, z6, z7, z8, z9, z10, z11] : Array Value).setIfInBounds 5 v5 = #[v0, v1, v2, v3, v4, v5, z6, z7, z8, z9, z10, z11] from rfl] at e5
  have e6 := heap_setCell_same (j := 6) e5 v6
  rw [show (#[v0, v1, v2, v3, v4, v5, z6, z7, z8, z9, z10, z11] : Array Value).setIfInBounds 6 v6 = #[v0, v1, v2, v3, v4, v5, v6, z7, z8, z9, z10, z11] from rfl] at e6
  have e7 := heap_setCell_same (j := 7) e6 v7
  rw [show (#[v0, v1, v2, v3, v4, v5, v6, z7, z8, z9, z10, z11] : Array Value).setIfInBounds 7 v7 = #[v0, v1, v2, v3, v4, v5, v6, v7, z8, z9, z10, z11] from rfl] at e7
  have e8 := heap_setCell_same (j := 8) e7 v8
  rw [show (#[v0, v1, v2, v3, v4, v5, v6, v7, z8, z9, z10, z11] : Array Value).setIfInBounds 8 v8 = #[v0, v1, v2, v3, v4, v5, v6, v7, v8, z9, z10, z11] from rfl] at e8
  have e9 := heap_setCell_same (j := 9) e8 v9
  rw [show (#[v0, v1, v2, v3, v4, v5, v6, v7, v8, z9, z10, z11] : Array Value).setIfInBounds 9 v9 = #[v0, v1, v2, v3, v4, v5, v6, v7, v8, v9, z10, z11] from rfl] at e9
  have e10 := heap_setCell_same (j := 10) e9 v10
  rw [show (#[v0, v1, v2, v3, v4, v5, v6, v7, v8, v9, z10, z11] : Array Value).setIfInBounds 10 v10 = #[v0, v1, v2, v3, v4, v5, v6, v7, v8, v9, v10, z11] from rfl] at e10
  have e11 := heap_setCell_same (j := 11) e10 v11
  rw [show (#[v0, v1, v2, v3, v4, v5, v6, v7, v8, v9, v10, z11] : Array Value).setIfInBounds 11 v11 = #[v0, v1, v2, v3, v4, v5, v6, v7, v8, v9, v10, v11] from rfl] at e11
  exact e11
theorem results_row {P : Program} {fn : Func} {p : Tmp} {ty t g : Nat} {cs : Array Value} {fr : Nat × Nat} {d : TypeDesc} {w : World} (h : fn.results = #[.cell p ty]) (tmps : Array Value) (hp : tmps.getD p undef = .pointer (some ⟨g, 0, none⟩))
    (hg : w.heap[g]? = some (.cells cs t fr)) (hu : P.underlying ty = some d) (hd : (match d with | .struct _ | .array _ _ => true | _ => false) = true) (hi : (P.info? ty).map (·.size) = some cs.size) :
    (results fn tmps).run P w = .ok (.agg cs) w := by
  have hl := run_loadVar_row (P := P) w g t ty cs fr d hg hu hd hi
  have hp' := hp
  simp only [Array.getD_eq_getD_getElem?] at hp'
  simp only [results, h]
  simp [Sem.run_bind, hp', asAddr, hl]

/-- A node that a call has made. -/
def MadeN (n : Nat) (x : Nd) (L : Live) (w : World) (e : Ending) (w' : World) : Prop := ∃ cs L', e = .returned (.agg cs.toArray) ∧ (nodeR n).R L' w' x cs ∧ Ext L w L' w'

/-- What a node and the old memory bear: stores where nothing lives. -/
structure Bears (n : Nat) (x : Nd) (cs : List Value) (L0 : Live) (w0 : World) (L : Live) (w : World) : Prop where
  ext : Ext L0 w0 L w
  node : (nodeR n).R L w x cs
theorem Bears.set {n : Nat} {x : Nd} {cs : List Value} {L0 L : Live} {w0 w : World} (h : Bears n x cs L0 w0 L w) {g : Nat} (hg : w0.heap.size ≤ g) (hn : ∀ j, ¬ L g j) (j : Nat) (u : Value) : Bears n x cs L0 w0 L (w.setCell ⟨g, j, none⟩ u) :=
  ⟨h.ext.setCell hg u, (nodeR n).mono (sub_set hn) h.node⟩

theorem MadeN.of {n : Nat} {x : Nd} {cs : List Value} {L L' : Live} {w w' : World} (h : Bears n x cs L w L' w') : MadeN n x L w (.returned (.agg cs.toArray)) w' := ⟨cs, L', rfl, h.node, h.ext⟩

set_option maxRecDepth 100000 in
set_option maxHeartbeats 8000000 in
theorem clone_any : ∀ (n : Nat) (x : Nd) (cs : List Value) (L : Live) (w : World), (nodeR n).R L w x cs → bulk x ≤ 1000000 → LOk L w →
    Calls Try.prog 28 #[.agg cs.toArray] w (MadeN n x L w) := by
  intro n
  induction n with
  | zero => intro x cs L w h; exact h.elim
  | succ n ih =>
    intro x cs L w h hc hok
    obtain ⟨m, Ad, cd, Aa, ca, Ak, ck, hm, rfl, hP, d1, d2, a1, a2, k1, k2⟩ := node_open h
    obtain rfl : n = m := by omega
    clear hm h
    rw [bulk_eq] at hc
    have hkl := bulkL_len x.kids
    have HP := Lib.hid hP
    have Hok := Lib.hid hok
    have hmem : ∀ k (h : k < x.kids.length), bulk x.kids[k] ≤ 1000000 := fun k h => by have := bulkL_mem h; omega
    have Hmem := Lib.hid hmem
    clear hP hok hmem
    have c27 := cellsNode
    unfold nodeV
    go_enter Try.func28, Try.ntmps28
    go_wp2_with fail
    refine (bclone_any x.own.data _ L _ (HP.out.data.mono (sub_same (((Below.refl _ w).alloc (Nat.le_refl _) _).alloc (by simp) _))) (by omega)).mono ?_
    rintro e w1 ⟨vd, rfl, h1, x1⟩
    obtain ⟨b0, b1, xb, hsz⟩ := two_boxes x1
    obtain ⟨L1, hd, hx1⟩ := h1.known (d := Rp.byte) x1 (LOk.alloc (LOk.alloc Hok.out _) _) (bytes_reps _ _ _) rfl (by simp only [big]; omega)
    obtain ⟨A1, c1, rfl, _, _⟩ := hd.form
    have HE1 := Lib.hid ((((Ext.refl Hok.out).alloc _).alloc _).trans hx1)
    have HD1 := Lib.hid hd
    have B0 := Lib.hid b0; have B1 := Lib.hid b1
    have HS1 := Lib.hid hsz
    obtain ⟨n0, n1, n2, n3, n4, n5, n6, n7, n8, n9, n10, n11⟩ := twelve b0
    obtain ⟨f0, f1, f2, f3, f4, f5, f6, f7, f8, f9, f10, f11⟩ := twelve_free b0
    have hnl0 : ∀ j, ¬ L1 w.heap.size j := Ext.not_live hx1 (by simp; omega) (not_live Hok.out (Nat.le_refl _))
    have hnl1 : ∀ j, ¬ L1 (w.heap.size + 1) j := Ext.not_live hx1 (by simp) (not_live Hok.out (by omega))
    have HN0 := Lib.hid hnl0; have HN1 := Lib.hid hnl1
    clear h1 x1 xb hx1 hd b0 b1 hsz hnl0 hnl1
    go_wp2_with fail
    obtain ⟨w2, hw2⟩ : ∃ w2, w2 = w1.setCell ⟨w.heap.size, 6, none⟩ (.slice A1 x.own.data.length c1) := ⟨_, rfl⟩
    rw [← hw2]
    have hE2 : Ext L w L1 w2 := by rw [hw2]; exact HE1.out.setCell (Nat.le_refl _) _
    have hS2 : Sub L1 w1 L1 w2 := by rw [hw2]; exact sub_set HN0.out
    have b0 := heap_setCell_same B0.out (j := 6) (.slice A1 x.own.data.length c1)
    have b1 := (heap_set_ne (w := w1) (g := w.heap.size) 6 (.slice A1 x.own.data.length c1) (w.heap.size + 1) (by omega)).trans B1.out
    rw [← hw2] at b0 b1
    simp at b0
    have hsz2 : w2.heap.size = w1.heap.size := by rw [hw2]; simp [World.setCell]
    have HD2 := Lib.hid (HD1.out.mono hS2)
    have HE2 := Lib.hid hE2
    have Hs2 := Lib.hid hsz2
    clear hw2 hE2 hS2 hsz2 HD1 HE1 B0 B1 n0 n1 n2 n3 n4 n5 n6 n7 n8 n9 n10 n11 f0 f1 f2 f3 f4 f5 f6 f7 f8 f9 f10 f11
    refine (aclone_any x.own.attrs _ L1 w2 (HP.out.attrs.mono (Ext.sub Hok.out HE2.out)) (by omega)).mono ?_
    rintro e w3 ⟨va, rfl, h3, x3⟩
    have b0 := (x3.block _ (by have := HS1.out; have := Hs2.out; omega)).trans b0
    have b1 := (x3.block _ (by have := HS1.out; have := Hs2.out; omega)).trans b1
    obtain ⟨L2, ha, hx2⟩ := h3.known (d := attrR) x3 HE2.out.ok (by
      obtain ⟨cells, hs, hr⟩ := (HP.out.attrs.mono (Ext.sub Hok.out HE2.out)).src
      rw [attr_cells hr] at hr
      exact hr.mono (sub_same x3)) rfl (by simp only [big]; omega)
    obtain ⟨A3, c3, rfl, _, _⟩ := ha.form
    have HE3 := Lib.hid (HE2.out.trans hx2)
    have HD3 := Lib.hid (HD2.out.mono (Ext.sub HE2.out.ok hx2))
    have HA3 := Lib.hid ha
    have hs3 : w.heap.size + 1 + 1 ≤ w3.heap.size := by have := HS1.out; have := Hs2.out; have := x3.size; omega
    have HN2 := Lib.hid (Ext.not_live hx2 (by have := HS1.out; have := Hs2.out; omega) HN0.out)
    have HN3 := Lib.hid (Ext.not_live hx2 (by have := HS1.out; have := Hs2.out; omega) HN1.out)
    have B0 := Lib.hid b0; have B1 := Lib.hid b1
    obtain ⟨n0, n1, n2, n3, n4, n5, n6, n7, n8, n9, n10, n11⟩ := twelve b0
    obtain ⟨f0, f1, f2, f3, f4, f5, f6, f7, f8, f9, f10, f11⟩ := twelve_free b0
    clear h3 x3 hx2 ha b0 b1 HN0 HN1 HE2 HD2 Hs2 HS1
    go_wp2_with fail
    obtain ⟨w4, hw4⟩ : ∃ w4, w4 = w3.setCell ⟨w.heap.size, 10, none⟩ (.slice A3 x.own.attrs.length c3) := ⟨_, rfl⟩
    rw [← hw4]
    have hE4 : Ext L w L2 w4 := by rw [hw4]; exact HE3.out.setCell (Nat.le_refl _) _
    have hS4 : Sub L2 w3 L2 w4 := by rw [hw4]; exact sub_set HN2.out
    have b0 := heap_setCell_same B0.out (j := 10) (.slice A3 x.own.attrs.length c3)
    have b1 := (heap_set_ne (w := w3) (g := w.heap.size) 10 (.slice A3 x.own.attrs.length c3) (w.heap.size + 1) (by omega)).trans B1.out
    rw [← hw4] at b0 b1
    simp at b0
    have hs4 : w.heap.size + 1 + 1 ≤ w4.heap.size := by rw [hw4]; simpa [World.setCell] using hs3
    have HD4 := Lib.hid (HD3.out.mono hS4)
    have HA4 := Lib.hid (HA3.out.mono hS4)
    have HE4 := Lib.hid hE4
    have B0 := Lib.hid b0; have B1 := Lib.hid b1
    have hK4 := HP.out.kids.mono (Ext.sub Hok.out hE4)
    have HK4 := Lib.hid hK4
    have HF := Lib.hid HP.out.fits
    have HOwn : Hid (x = .mk x.own x.kids) := Lib.hid (by cases x; rfl)
    obtain ⟨o, ho⟩ : ∃ o, o = x.own := ⟨_, rfl⟩
    obtain ⟨ks, hks⟩ : ∃ ks, ks = x.kids := ⟨_, rfl⟩
    rw [← ho] at HD4 HA4 HF B0 HOwn hc d1 a1 ⊢
    rw [← hks] at HK4 Hmem HOwn hc hkl k1 ⊢
    clear hw4 hE4 hS4 b0 b1 hK4 HP HD3 HA3 HE3 ho hks n0 n1 n2 n3 n4 n5 n6 n7 n8 n9 n10 n11 f0 f1 f2 f3 f4 f5 f6 f7 f8 f9 f10 f11
    go_loopw [3, 17] (fun v i wr => ∃ (k : Nat) (ys : List Nd) (cells : List Value) (Lk : Live), k ≤ ks.length ∧ i = .int .i64 k ∧ ys.length ≤ k ∧ Hid (ys = ks.take k) ∧ Out (nodeR n) Lk wr w4.heap.size 27 v ys cells ∧ Ext L2 w4 Lk wr) (fun _ i _ => ks.length - (intOf i).toNat)
    case atStart => exact ⟨0, [], [], L2, Nat.zero_le _, rfl, Nat.le_refl _, Lib.hid rfl, Out.nil _ _ _ _ _, Ext.refl HE4.out.ok⟩
    case round =>
      obtain ⟨k, ys, cells, Lk, hk, rfl, hyl, HY, hO, hX⟩ := hrel
      obtain ⟨Ao, co, rfl, _, _⟩ := hO.form
      have hb := hX.below.size
      have HO := Lib.hid hO; have HX := Lib.hid hX
      clear hO hX
      by_cases hlt : k < ks.length
      · have hkI : (k : Int) < (ks.length : Int) := by omega
        obtain ⟨b, off, cs, rfl, hR, hat⟩ := nodes_at (HK4.out.mono (Ext.sub HE4.out.ok HX.out)) k hlt
        have hbk := Hmem.out k hlt
        obtain ⟨y, hy⟩ : ∃ y, y = ks[k] := ⟨_, rfl⟩
        have HT : Hid (ys ++ [y] = ks.take (k + 1)) := Lib.hid (by rw [List.take_succ_eq_append_getElem hlt, HY.out, hy])
        rw [← hy] at hR hat hbk
        clear hy
        obtain ⟨m, Ad', cd', Aa', ca', Ak', ck', hm, rfl, hP', _, _, _, _, _, _⟩ := node_open hR
        have hN := hat _ _ _ rfl
        obtain ⟨n0, n1, n2, n3, n4, n5, n6, n7, n8, n9, n10, n11⟩ := hN.all
        have HR := Lib.hid hR
        clear hat hP' hm hR hN
        go_wp2_with fail
        refine (ih y _ Lk _ ((nodeR n).mono (sub_same ((Below.refl _ wr).alloc (Nat.le_refl _) _)) HR.out) hbk (LOk.alloc HX.out.ok _)).mono ?_
        rintro e w5 ⟨cs5, L5, rfl, h5, x5⟩
        have hx5 := ((Ext.refl HX.out.ok).alloc (.cells (nodeV y.own (.slice Ad' y.own.data.length cd') (.slice Aa' y.own.attrs.length ca') (.slice Ak' y.kids.length ck')).toArray 27)).trans x5
        have HO5 := Lib.hid (HO.out.ext HX.out.ok hx5)
        have HX5 := Lib.hid (HX.out.trans hx5)
        have hs5 := HX5.out.below.size
        obtain ⟨m5, Ad5, cd5, Aa5, ca5, Ak5, ck5, hm5, rfl, hP5, _, _, _, _, _, _⟩ := node_open h5
        have H5 := Lib.hid h5
        clear h5 x5 hx5 hP5 hm5 n0 n1 n2 n3 n4 n5 n6 n7 n8 n9 n10 n11
        unfold nodeV
        go_wp2_with (at_builtin; refine wpList_appB rfl (.tmp 21) (.tmp 24) 25 27 rfl w4.heap.size _ 12 160 Try.underlying25 Try.infoNode rfl (by decide) _ _ rfl _ rfl ys.length cells ?c1 1 (nodeV y.own (.slice Ad5 y.own.data.length cd5) (.slice Aa5 y.own.attrs.length ca5) (.slice Ak5 y.kids.length ck5)) ?c2 ?c3 ?c4 ?c5 ?_)
        case c1 => rw [← nodeR_sz n]; exact HO5.out.1.below ((Below.refl _ w5).alloc (Nat.le_refl _) _)
        case c2 => exact Src.new w5 27 12 1 1 (nodeV y.own (.slice Ad5 y.own.data.length cd5) (.slice Aa5 y.own.attrs.length ca5) (.slice Ak5 y.kids.length ck5)) rfl
        case c3 => exact nodeV_one rfl rfl rfl
        case c4 => omega
        case c5 => simp; omega
        intro v6 w6 hB6 hg6 hrow6
        have hO6 := HO5.out.snoc (w1 := w5.alloc (.cells (nodeV y.own (.slice Ad5 y.own.data.length cd5) (.slice Aa5 y.own.attrs.length ca5) (.slice Ak5 y.kids.length ck5)).toArray 27)) HX5.out.ok ((Below.refl _ w5).alloc (Nat.le_refl _) _) (by rw [nodeR_sz]; exact hB6) hg6 (by simpa using hrow6) H5.out
        have HX6 := Lib.hid (grown_ext (HX5.out.alloc _) hg6 (fun g hg => (HO5.out.1.lt g hg).1))
        have HO6 := Lib.hid hO6
        clear hB6 hg6 hrow6 hO6
        go_wp2
        go_roundw
        case rel => exact ⟨k + 1, ys ++ [y], _, L5, by omega, by go_num, by simp; omega, HT, HO6.out, HX6.out⟩
        case measure => simp [intOf]; omega
      · have hke : k = ks.length := by omega
        have hyk : ys = ks := by rw [HY.out, hke, List.take_length]
        have HYK := Lib.hid hyk
        obtain ⟨L7, hS7, _, hX7, _⟩ := HO.out.publish_ext HX.out (Nat.le_refl _) (by simp only [big]; omega)
        have b0 := (hX7.below.block _ (by omega)).trans B0.out
        have b1 := (hX7.below.block _ (by omega)).trans B1.out
        have m0 := Ext.not_live hX7 (by omega) HN2.out
        have m1 := Ext.not_live hX7 (by omega) HN3.out
        have hB : Bears (n + 1) x (nodeV o (.slice A1 o.data.length c1) (.slice A3 o.attrs.length c3) (.slice Ao ys.length co)) L w L7 wr :=
          ⟨HE4.out.trans hX7, by
            rw [HOwn.out]
            exact ⟨_, _, _, rfl, HF.out, HD4.out.mono (Ext.sub HE4.out.ok hX7), HA4.out.mono (Ext.sub HE4.out.ok hX7), by rw [← HYK.out]; exact hS7⟩⟩
        have M0 := Lib.hid m0; have M1 := Lib.hid m1
        have HBr := Lib.hid hB
        obtain ⟨n0, n1, n2, n3, n4, n5, n6, n7, n8, n9, n10, n11⟩ := twelve b0
        obtain ⟨f0, f1, f2, f3, f4, f5, f6, f7, f8, f9, f10, f11⟩ := twelve_free b0
        obtain ⟨p0, p1, p2, p3, p4, p5, p6, p7, p8, p9, p10, p11⟩ := twelve b1
        obtain ⟨q0, q1, q2, q3, q4, q5, q6, q7, q8, q9, q10, q11⟩ := twelve_free b1
        have P1 := Lib.hid b1
        clear hyk hS7 hX7 b0 b1 m0 m1 hB hke
        have b1' := (heap_set_ne (w := wr) (g := w.heap.size) 11 (.slice Ao ys.length co) (w.heap.size + 1) (by omega)).trans P1.out
        have P1' := Lib.hid b1'
        clear b1'
        go_wp2
        refine bodyPost_ret (v := .agg (nodeV o (.slice A1 o.data.length c1) (.slice A3 o.attrs.length c3) (.slice Ao ys.length co)).toArray) (results_row rfl _ rfl (fill12 P1'.out _ _ _ _ _ _ _ _ _ _ _ _) Try.underlying27 rfl (by kernel_rfl)) rfl ?_
        refine MadeN.of (L' := L7) ?_
        repeat (first | (with_reducible refine Bears.set ?_ (Nat.le_refl _) M0.out _ _) | (with_reducible refine Bears.set ?_ (Nat.le_succ _) M1.out _ _) | (with_reducible exact HBr.out))
end Go.Proofs.Ytojcciciinklbaa
