/- Walks: a node that may be, made of any. No claim by itself. -/
import Derived.Test.YtojcciciinklbaaRef9
import Derived.Test.YtojcciciinklbaaSlots
import Derived.Laws.CopyOwn
set_option linter.unusedSimpArgs false
set_option linter.unusedVariables false
namespace Go.Proofs.Ytojcciciinklbaa
open Go.RowKit

/-- What it is made of, in a block of its own. -/
def gB (g : GV) (Ab : Option Addr) (cb : Nat) : Obj := .cells #[.int .i64 g.kind, .int .i64 g.up, .int .i64 g.name, .int .i64 g.n, .slice Ab g.b.length cb, .string g.s] 75
theorem six {w : World} {b : Nat} {g : GV} {Ab : Option Addr} {cb : Nat} (h : w.heap[b]? = some (gB g Ab cb)) :
    w.cell? ⟨b, 0, none⟩ = some (.int .i64 g.kind) ∧ w.cell? ⟨b, 1, none⟩ = some (.int .i64 g.up) ∧ w.cell? ⟨b, 2, none⟩ = some (.int .i64 g.name) ∧ w.cell? ⟨b, 3, none⟩ = some (.int .i64 g.n) ∧ w.cell? ⟨b, 4, none⟩ = some (.slice Ab g.b.length cb) ∧ w.cell? ⟨b, 5, none⟩ = some (.string g.s) := by
  unfold gB at h
  refine ⟨?_, ?_, ?_, ?_, ?_, ?_⟩ <;> (rw [cell_block h]; rfl)

/-- The blocks of the call: what it is made of, the answer's, the node's. -/
structure NodeSt (w : World) (g : GV) (Ab : Option Addr) (cb : Nat) (B : Nat) (o : Own) (Ad : Option Addr) (cd : Nat) (Aa : Option Addr) (ca : Nat) (wx : World) : Prop where
  arg : wx.heap[w.heap.size]? = some (gB g Ab cb)
  res : wx.heap[w.heap.size + 1]? = some zeroB
  node : wx.heap[B]? = some (boxO o Ad cd Aa ca none 0 0)
  lt : w.heap.size + 1 < B
  below : Below w.heap.size w wx
theorem NodeSt.size {w : World} {g : GV} {Ab : Option Addr} {cb B : Nat} {o : Own} {Ad Aa : Option Addr} {cd ca : Nat} {wx : World} (h : NodeSt w g Ab cb B o Ad cd Aa ca wx) : B < wx.heap.size := (Array.getElem?_eq_some_iff.1 h.node).1
theorem NodeSt.step {w : World} {g : GV} {Ab : Option Addr} {cb B : Nat} {o : Own} {Ad Aa : Option Addr} {cd ca : Nat} {wx wy : World} (h : NodeSt w g Ab cb B o Ad cd Aa ca wx) (hb : Below wx.heap.size wx wy) : NodeSt w g Ab cb B o Ad cd Aa ca wy := by
  have hs := h.size
  have hl := h.lt
  exact ⟨(hb.block _ (by omega)).trans h.arg, (hb.block _ (by omega)).trans h.res, (hb.block _ hs).trans h.node, hl, h.below.trans (hb.mono (by omega))⟩

theorem Bears.setRow {n : Nat} {x : Nd} {cs : List Value} {L0 L : Live} {w0 w : World} (h : Bears n x cs L0 w0 L w) {g : Nat} (hg : w0.heap.size ≤ g) (hn : ∀ j, ¬ L g j) (c : Array Value) : Bears n x cs L0 w0 L (w.setRow g c) :=
  ⟨⟨below_setRow h.ext.below hg c, h.ext.live, fun b j hb => by have := h.ext.ok b j hb; simpa using this⟩, (nodeR n).mono (fun b j hb => ⟨hb, fun u hu => by rw [cell_setRow_other _ _ _ _ (fun e => hn j (by rw [← e]; exact hb))]; exact hu⟩) h.node⟩
theorem MadeO.of {o : Own} {vd va : Value} {L L' : Live} {w w' : World} (h : Bears 1 (.mk o []) (nodeV o vd va (.slice none 0 0)) L w L' w') : MadeO o L w (.returned (.agg (nodeV o vd va (.slice none 0 0)).toArray)) w' := by
  obtain ⟨hx, vd', va', vk', he, hF, hD, hA, _⟩ := h
  simp only [nodeV, List.cons.injEq, and_true, true_and] at he
  obtain ⟨_, _, _, _, _, _, rfl, _, _, _, rfl, rfl⟩ := he
  exact ⟨vd, va, L', rfl, hF, hD, hA, hx⟩
theorem node_fits (g : GV) : Fits (nodeO g) := by
  have h1 := around_range g.kind 4 (by decide)
  have h2 := around_range g.n 4096 (by decide)
  have h3 := around_range g.n 1000 (by decide)
  have h4 := around_range g.kind 2147483648 (by decide)
  have h5 := around_range g.n 1099511627777 (by decide)
  have h6 := around_range g.n 256 (by decide)
  have h7 := around_range g.up 256 (by decide)
  refine ⟨?_, ?_, ?_, ?_, ?_, ?_, ?_, ?_, ?_⟩
  · show I64 (1 + around g.kind 4); unfold I64; omega
  · show I64 (around g.n 4096); unfold I64; omega
  · show I64 (around g.n 1000); unfold I64; omega
  · show I64 (around g.kind 2147483648); unfold I64; omega
  · show I64 (around g.n 1099511627777); unfold I64; omega
  · show I64 (if around g.kind 4 = 3 then around g.n 256 else 0); unfold I64; split <;> omega
  · show I64 (if around g.kind 4 = 3 then around g.up 256 else 0); unfold I64; split <;> omega
  · have := (nameB_no47 (nameOf_ok g.name)).2.2
    show (nameOf g.name).size ≤ big
    simp only [big]; omega
  · show (if around g.kind 4 = 2 then (⟨#[120]⟩ : ByteArray) ++ cleanS (shortS g.s 20) else ⟨#[]⟩).size ≤ big
    have a1 := clean_len (shortS g.s 20)
    have a2 := shortS_size g.s 20
    have a3 : (⟨#[120]⟩ : ByteArray).size = 1 := rfl
    split
    · rw [ByteArray.size_append]; simp only [big]; omega
    · decide
def midO (g : GV) : Own := { nodeO g with attrs := [] }
theorem NodeSt.setAny {w : World} {g : GV} {Ab : Option Addr} {cb B : Nat} {o o' : Own} {Ad Aa Ad' Aa' : Option Addr} {cd ca cd' ca' : Nat} {wx : World} (h : NodeSt w g Ab cb B o Ad cd Aa ca wx) (j : Nat) (u : Value)
    (he : (#[.int .i64 o.kind, .string o.name, .int .i64 o.mode, .int .i64 o.uid, .int .i64 o.gid, .int .i64 o.mtime, .slice Ad o.data.length cd, .string o.target, .int .i64 o.major, .int .i64 o.minor, .slice Aa o.attrs.length ca, .slice none 0 0] : Array Value).setIfInBounds j u = #[.int .i64 o'.kind, .string o'.name, .int .i64 o'.mode, .int .i64 o'.uid, .int .i64 o'.gid, .int .i64 o'.mtime, .slice Ad' o'.data.length cd', .string o'.target, .int .i64 o'.major, .int .i64 o'.minor, .slice Aa' o'.attrs.length ca', .slice none 0 0]) :
    NodeSt w g Ab cb B o' Ad' cd' Aa' ca' (wx.setCell ⟨B, j, none⟩ u) := by
  have hl := h.lt
  refine ⟨(heap_set_ne _ _ _ (by omega)).trans h.arg, (heap_set_ne _ _ _ (by omega)).trans h.res, (heap_setCell_same (j := j) h.node u).trans (by rw [he]; rfl), hl, h.below.setCell (by show w.heap.size ≤ B; omega) u⟩
theorem NodeSt.set6 {w : World} {g : GV} {Ab : Option Addr} {cb B : Nat} {o o' : Own} {Ad Aa Ad' Aa' : Option Addr} {cd ca cd' ca' : Nat} {wx : World} (h : NodeSt w g Ab cb B o Ad cd Aa ca wx) (u : Value)
    (he : (#[.int .i64 o.kind, .string o.name, .int .i64 o.mode, .int .i64 o.uid, .int .i64 o.gid, .int .i64 o.mtime, .slice Ad o.data.length cd, .string o.target, .int .i64 o.major, .int .i64 o.minor, .slice Aa o.attrs.length ca, .slice none 0 0] : Array Value).setIfInBounds 6 u = #[.int .i64 o'.kind, .string o'.name, .int .i64 o'.mode, .int .i64 o'.uid, .int .i64 o'.gid, .int .i64 o'.mtime, .slice Ad' o'.data.length cd', .string o'.target, .int .i64 o'.major, .int .i64 o'.minor, .slice Aa' o'.attrs.length ca', .slice none 0 0]) :
    NodeSt w g Ab cb B o' Ad' cd' Aa' ca' (wx.setCell ⟨B, 6, none⟩ u) := h.setAny 6 u he
theorem one_boxd {w w1 : World} {o : Obj} (hX : Below (w.alloc o).drew.heap.size (w.alloc o).drew w1) : w1.heap[w.heap.size]? = some o ∧ Below w.heap.size w w1 ∧ w.heap.size + 1 ≤ w1.heap.size :=
  one_box (w := w) (o := o) ⟨hX.os, hX.tape, hX.output, hX.size, hX.block⟩
def headO (g : GV) : Own := ⟨1 + around g.kind 4, nameOf g.name, around g.n 4096, around g.n 1000, around g.kind 2147483648, around g.n 1099511627777, [], ⟨#[]⟩, 0, 0, []⟩

set_option maxRecDepth 100000 in
set_option maxHeartbeats 8000000 in
theorem rnode_any (g : GV) (Ab : Option Addr) (cb : Nat) (L : Live) (w : World) (hg : GFits g) (hb : SliceR Rp.byte L w g.b (.slice Ab g.b.length cb)) (hok : LOk L w) :
    Calls Try.prog 44 #[.agg #[.int .i64 g.kind, .int .i64 g.up, .int .i64 g.name, .int .i64 g.n, .slice Ab g.b.length cb, .string g.s]] w (MadeO (nodeO g) L w) := by
  have r1 := around_range g.kind 4 (by decide)
  have r2 := around_range g.n 4096 (by decide)
  have r3 := around_range g.n 1000 (by decide)
  have r4 := around_range g.kind 2147483648 (by decide)
  have r5 := around_range g.n 1099511627777 (by decide)
  have c27 := cellsNode
  obtain ⟨⟨k1, k2⟩, ⟨u1, u2⟩, ⟨m1, m2⟩, ⟨n1, n2⟩, hs⟩ := hg
  obtain ⟨g1, hg1⟩ : ∃ x, x = around g.kind 4 := ⟨_, rfl⟩
  obtain ⟨g2, hg2⟩ : ∃ x, x = nameOf g.name := ⟨_, rfl⟩
  obtain ⟨g3, hg3⟩ : ∃ x, x = around g.n 4096 := ⟨_, rfl⟩
  obtain ⟨g4, hg4⟩ : ∃ x, x = around g.n 1000 := ⟨_, rfl⟩
  obtain ⟨g5, hg5⟩ : ∃ x, x = around g.kind 2147483648 := ⟨_, rfl⟩
  obtain ⟨g6, hg6⟩ : ∃ x, x = around g.n 1099511627777 := ⟨_, rfl⟩
  rw [← hg1] at r1
  have hsum : IntKind.i64.wrap (1 + g1) = 1 + g1 := by rw [IntWalk.i64_in _ (by omega)]
  have G1 := Lib.hid hg1; have G2 := Lib.hid hg2; have G3 := Lib.hid hg3; have G4 := Lib.hid hg4; have G5 := Lib.hid hg5; have G6 := Lib.hid hg6
  have HHd : Hid (headO g = ⟨1 + g1, g2, g3, g4, g5, g6, [], ⟨#[]⟩, 0, 0, []⟩) := Lib.hid (by rw [hg1, hg2, hg3, hg4, hg5, hg6]; rfl)
  have Hb := Lib.hid hb; have Hok := Lib.hid hok
  clear hg1 hg2 hg3 hg4 hg5 hg6 hb hok
  go_enter Try.func44, Try.ntmps44
  go_upto_region 1 with fail
  obtain ⟨w0, hw0⟩ : ∃ w0, w0 = (w.alloc (gB g Ab cb)).alloc zeroB := ⟨_, rfl⟩
  have ha0 : w0.heap[w.heap.size]? = some (gB g Ab cb) := by rw [hw0]; exact (Below.heap_alloc _ _ _ (by simp)).trans (heap_alloc_new w _)
  have hz0 : w0.heap[w.heap.size + 1]? = some zeroB := by
    have := heap_alloc_new (w.alloc (gB g Ab cb)) zeroB
    rw [World.size_alloc] at this
    rw [hw0]; exact this
  have hs0 : w0.heap.size = w.heap.size + 2 := by rw [hw0]; simp
  have hX0 : Below w.heap.size w w0 := by rw [hw0]; exact ((Below.refl _ _).alloc (Nat.le_refl _) _).alloc (by simp) _
  show Code.wp _ _ _ _ ((w.alloc (gB g Ab cb)).alloc zeroB)
  rw [← hw0]
  have HA0 := Lib.hid ha0; have HZ0 := Lib.hid hz0; have HX0 := Lib.hid hX0
  have HS : Hid (∀ w', Below w0.heap.size w0 w' → w'.cell? ⟨w.heap.size, 0, none⟩ = some (.int .i64 g.kind) ∧ w'.cell? ⟨w.heap.size, 1, none⟩ = some (.int .i64 g.up) ∧ w'.cell? ⟨w.heap.size, 2, none⟩ = some (.int .i64 g.name) ∧ w'.cell? ⟨w.heap.size, 3, none⟩ = some (.int .i64 g.n) ∧ w'.cell? ⟨w.heap.size, 4, none⟩ = some (.slice Ab g.b.length cb) ∧ w'.cell? ⟨w.heap.size, 5, none⟩ = some (.string g.s)) :=
    Lib.hid (fun w' hb => six ((hb.block _ (by omega)).trans HA0.out))
  have Hs0 := Lib.hid hs0
  clear ha0 hz0 hX0 hw0 hs0
  have HXd : Hid (Below w0.heap.size w0 w0.drew) := Lib.hid (Below.refl _ _).drew
  obtain ⟨c0, c1, c2, c3, c4, c5⟩ := HS.out w0.drew HXd.out
  obtain ⟨E, hE⟩ : ∃ E : Nat → List (Nat × Nat × Value), E = fun B => [(0, 4, .pointer (some ⟨w.heap.size, 0, none⟩)), (1, 5, .int .i64 g.kind), (2, 6, .int .i64 g1), (3, 7, .int .i64 (1 + g1)), (4, 8, .pointer (some ⟨w.heap.size, 2, none⟩)), (5, 9, .int .i64 g.name), (6, 10, .string g2), (7, 11, .pointer (some ⟨w.heap.size, 3, none⟩)), (8, 12, .int .i64 g.n), (9, 13, .int .i64 g3), (10, 14, .pointer (some ⟨w.heap.size, 3, none⟩)), (11, 15, .int .i64 g.n), (12, 16, .int .i64 g4), (13, 17, .pointer (some ⟨w.heap.size, 0, none⟩)), (14, 18, .int .i64 g.kind), (15, 19, .int .i64 g5), (16, 20, .pointer (some ⟨w.heap.size, 3, none⟩)), (17, 21, .int .i64 g.n), (18, 22, .int .i64 g6), (19, 23, .agg #[.int .i64 (1 + g1), .string g2, .int .i64 g3, .int .i64 g4, .int .i64 g5, .int .i64 g6, .slice none 0 0, .string ⟨#[]⟩, .int .i64 0, .int .i64 0, .slice none 0 0, .slice none 0 0]), (20, 3, .pointer (some ⟨B, 0, none⟩))] := ⟨_, rfl⟩
  obtain ⟨l0, hl0⟩ : ∃ l0 : List Value, l0 = [.agg #[.int .i64 g.kind, .int .i64 g.up, .int .i64 g.name, .int .i64 g.n, .slice Ab g.b.length cb, .string g.s], .pointer (some ⟨w.heap.size, 0, none⟩), .pointer (some ⟨w.heap.size + 1, 0, none⟩), undef, undef, undef, undef, undef, undef, undef, undef, undef, undef, undef, undef, undef, undef, undef, undef, undef, undef, undef, undef, undef, undef, undef, undef, undef, undef, undef, undef, undef, undef, undef, undef, undef, undef, undef, undef, undef, undef, undef, undef, undef, undef, undef, undef, undef, undef, undef, undef, undef, undef, undef, undef, undef, undef, undef, undef, undef, undef, undef, undef, undef, undef, undef, undef] := ⟨_, rfl⟩
  have hlen : l0.length = 67 := by rw [hl0]; rfl
  have hE1 : ∀ B, (E B).map (fun t => t.1) = [0, 1, 2, 3, 4, 5, 6, 7, 8, 9, 10, 11, 12, 13, 14, 15, 16, 17, 18, 19, 20] := fun B => by rw [hE]; rfl
  have hE2 : ∀ B, (E B).map (fun t => t.2.1) = [4, 5, 6, 7, 8, 9, 10, 11, 12, 13, 14, 15, 16, 17, 18, 19, 20, 21, 22, 23, 3] := fun B => by rw [hE]; rfl
  have m0 : ∀ B, (0, 4, (.pointer (some ⟨w.heap.size, 0, none⟩) : Value)) ∈ E B := fun B => by rw [hE]; simp
  have m1 : ∀ B, (1, 5, (.int .i64 g.kind : Value)) ∈ E B := fun B => by rw [hE]; simp
  have m2 : ∀ B, (2, 6, (.int .i64 g1 : Value)) ∈ E B := fun B => by rw [hE]; simp
  have m3 : ∀ B, (3, 7, (.int .i64 (1 + g1) : Value)) ∈ E B := fun B => by rw [hE]; simp
  have m4 : ∀ B, (4, 8, (.pointer (some ⟨w.heap.size, 2, none⟩) : Value)) ∈ E B := fun B => by rw [hE]; simp
  have m5 : ∀ B, (5, 9, (.int .i64 g.name : Value)) ∈ E B := fun B => by rw [hE]; simp
  have m6 : ∀ B, (6, 10, (.string g2 : Value)) ∈ E B := fun B => by rw [hE]; simp
  have m7 : ∀ B, (7, 11, (.pointer (some ⟨w.heap.size, 3, none⟩) : Value)) ∈ E B := fun B => by rw [hE]; simp
  have m8 : ∀ B, (8, 12, (.int .i64 g.n : Value)) ∈ E B := fun B => by rw [hE]; simp
  have m9 : ∀ B, (9, 13, (.int .i64 g3 : Value)) ∈ E B := fun B => by rw [hE]; simp
  have m10 : ∀ B, (10, 14, (.pointer (some ⟨w.heap.size, 3, none⟩) : Value)) ∈ E B := fun B => by rw [hE]; simp
  have m11 : ∀ B, (11, 15, (.int .i64 g.n : Value)) ∈ E B := fun B => by rw [hE]; simp
  have m12 : ∀ B, (12, 16, (.int .i64 g4 : Value)) ∈ E B := fun B => by rw [hE]; simp
  have m13 : ∀ B, (13, 17, (.pointer (some ⟨w.heap.size, 0, none⟩) : Value)) ∈ E B := fun B => by rw [hE]; simp
  have m14 : ∀ B, (14, 18, (.int .i64 g.kind : Value)) ∈ E B := fun B => by rw [hE]; simp
  have m15 : ∀ B, (15, 19, (.int .i64 g5 : Value)) ∈ E B := fun B => by rw [hE]; simp
  have m16 : ∀ B, (16, 20, (.pointer (some ⟨w.heap.size, 3, none⟩) : Value)) ∈ E B := fun B => by rw [hE]; simp
  have m17 : ∀ B, (17, 21, (.int .i64 g.n : Value)) ∈ E B := fun B => by rw [hE]; simp
  have m18 : ∀ B, (18, 22, (.int .i64 g6 : Value)) ∈ E B := fun B => by rw [hE]; simp
  have m19 : ∀ B, (19, 23, (.agg #[.int .i64 (1 + g1), .string g2, .int .i64 g3, .int .i64 g4, .int .i64 g5, .int .i64 g6, .slice none 0 0, .string ⟨#[]⟩, .int .i64 0, .int .i64 0, .slice none 0 0, .slice none 0 0] : Value)) ∈ E B := fun B => by rw [hE]; simp
  have m20 : ∀ B, (20, 3, .pointer (some ⟨B, 0, none⟩)) ∈ E B := fun B => by rw [hE]; simp
  have hn1 : ∀ B, ((E B).map fun t => t.1).Nodup := fun B => by rw [hE1]; decide
  have hn2 : ∀ B, ((E B).map fun t => t.2.1).Nodup := fun B => by rw [hE2]; decide
  have hlt : ∀ B, ∀ t ∈ E B, t.2.1 < l0.length := fun B t ht => by
    have h1 : t.2.1 ∈ (E B).map fun t => t.2.1 := List.mem_map.2 ⟨t, ht, rfl⟩
    rw [hE2] at h1
    rw [hlen]
    simp only [List.mem_cons, List.mem_nil_iff, or_false] at h1
    omega
  have hkM : ∀ (listed : Array Bool) (i : Nat), i ≠ 20 → i ≠ 21 → (listed.getD 21 true = true → listed.getD 20 true = true) → ((listed.setIfInBounds i true).getD 21 true = true → (listed.setIfInBounds i true).getD 20 true = true) := fun listed i h1 h2 h => by
    rw [set_get h1, set_get h2]; exact h
  have hkM2 : ∀ (listed : Array Bool), listed.getD 21 true = false → ((listed.setIfInBounds 20 true).getD 21 true = true → (listed.setIfInBounds 20 true).getD 20 true = true) := fun listed h h' => by
    rw [set_get (by decide), h] at h'; cases h'
  have hkN : ∀ (listed : Array Bool) (i B : Nat) (w' wn : World), i ≠ 20 → i ≠ 21 → Below w'.heap.size w' wn → (listed.getD 20 true = true → w0.heap.size ≤ B ∧ w'.heap[B]? = some (if listed.getD 21 true = true then (boxO ⟨1 + g1, g2, g3, g4, g5, g6, [], ⟨#[]⟩, 0, 0, []⟩ none 0 none 0 none 0 0) else zeroB)) → ((listed.setIfInBounds i true).getD 20 true = true → w0.heap.size ≤ B ∧ wn.heap[B]? = some (if (listed.setIfInBounds i true).getD 21 true = true then (boxO ⟨1 + g1, g2, g3, g4, g5, g6, [], ⟨#[]⟩, 0, 0, []⟩ none 0 none 0 none 0 0) else zeroB)) := fun listed i B w' wn h1 h2 hb h => by
    rw [set_get h1, set_get h2]
    intro hl
    obtain ⟨x1, x2⟩ := h hl
    exact ⟨x1, (hb.block _ (Array.getElem?_eq_some_iff.1 x2).1).trans x2⟩
  have Xm0 := Lib.hid m0; have Xm1 := Lib.hid m1; have Xm2 := Lib.hid m2; have Xm3 := Lib.hid m3; have Xm4 := Lib.hid m4; have Xm5 := Lib.hid m5; have Xm6 := Lib.hid m6; have Xm7 := Lib.hid m7; have Xm8 := Lib.hid m8; have Xm9 := Lib.hid m9; have Xm10 := Lib.hid m10; have Xm11 := Lib.hid m11; have Xm12 := Lib.hid m12; have Xm13 := Lib.hid m13; have Xm14 := Lib.hid m14; have Xm15 := Lib.hid m15; have Xm16 := Lib.hid m16; have Xm17 := Lib.hid m17; have Xm18 := Lib.hid m18; have Xm19 := Lib.hid m19; have Xm20 := Lib.hid m20; have XhE1 := Lib.hid hE1; have XhE2 := Lib.hid hE2; have Xhn1 := Lib.hid hn1; have Xhn2 := Lib.hid hn2; have Xhlt := Lib.hid hlt; have XhkM := Lib.hid hkM; have XhkM2 := Lib.hid hkM2; have XhkN := Lib.hid hkN; have Xhlen := Lib.hid hlen
  clear m0 m1 m2 m3 m4 m5 m6 m7 m8 m9 m10 m11 m12 m13 m14 m15 m16 m17 m18 m19 m20 hE1 hE2 hn1 hn2 hlt hkM hkM2 hkN hlen
  go_cut [3] (fun v wx => ∃ B, v = .pointer (some ⟨B, 0, none⟩) ∧ Hid (NodeSt w g Ab cb B (headO g) none 0 none 0 wx))
  case first =>
    refine wp_region_any (by kernel_rfl) ?_
    refine wpAny_inv (by kernel_rfl) (fun listed a' w' => ∃ B, Slots (E B) l0 listed a' ∧ Below w0.heap.size w0 w' ∧ (listed.getD 21 true = true → listed.getD 20 true = true) ∧ (listed.getD 20 true = true → w0.heap.size ≤ B ∧ w'.heap[B]? = some (if listed.getD 21 true = true then (boxO ⟨1 + g1, g2, g3, g4, g5, g6, [], ⟨#[]⟩, 0, 0, []⟩ none 0 none 0 none 0 0) else zeroB))) ?step ?fin _ _ _ _ ?hs ?hf ?init
    case hs => simp
    case hf => simp
    case init =>
      refine ⟨0, ?_, HXd.out, fun h => ?_, fun h => ?_⟩
      · have := Slots.start (exp := E 0) (l0 := l0) (m := 22) (fun t ht => by
          have h1 : t.1 ∈ (E 0).map fun t => t.1 := List.mem_map.2 ⟨t, ht, rfl⟩
          rw [XhE1.out] at h1
          simp only [List.mem_cons, List.mem_nil_iff, or_false] at h1
          omega)
        rw [hl0] at this ⊢
        exact this
      · exact absurd (show (Array.replicate 22 false).getD 21 true = true from h) (by decide)
      · exact absurd (show (Array.replicate 22 false).getD 20 true = true from h) (by decide)
    case fin =>
      intro listed a' w' hls hall ⟨B, hS, hB, hM, hN⟩
      have hf := hS.frame (fun t ht => hall _ (by
        have h1 : t.1 ∈ (E B).map fun t => t.1 := List.mem_map.2 ⟨t, ht, rfl⟩
        rw [XhE1.out] at h1
        simp only [List.mem_cons, List.mem_nil_iff, or_false] at h1
        show t.1 < 22
        omega)) (Xhn2.out B) (Xhlt.out B)
      have hlit : filled (E B) l0 = [.agg #[.int .i64 g.kind, .int .i64 g.up, .int .i64 g.name, .int .i64 g.n, .slice Ab g.b.length cb, .string g.s], .pointer (some ⟨w.heap.size, 0, none⟩), .pointer (some ⟨w.heap.size + 1, 0, none⟩), .pointer (some ⟨B, 0, none⟩), .pointer (some ⟨w.heap.size, 0, none⟩), .int .i64 g.kind, .int .i64 g1, .int .i64 (1 + g1), .pointer (some ⟨w.heap.size, 2, none⟩), .int .i64 g.name, .string g2, .pointer (some ⟨w.heap.size, 3, none⟩), .int .i64 g.n, .int .i64 g3, .pointer (some ⟨w.heap.size, 3, none⟩), .int .i64 g.n, .int .i64 g4, .pointer (some ⟨w.heap.size, 0, none⟩), .int .i64 g.kind, .int .i64 g5, .pointer (some ⟨w.heap.size, 3, none⟩), .int .i64 g.n, .int .i64 g6, .agg #[.int .i64 (1 + g1), .string g2, .int .i64 g3, .int .i64 g4, .int .i64 g5, .int .i64 g6, .slice none 0 0, .string ⟨#[]⟩, .int .i64 0, .int .i64 0, .slice none 0 0, .slice none 0 0], undef, undef, undef, undef, undef, undef, undef, undef, undef, undef, undef, undef, undef, undef, undef, undef, undef, undef, undef, undef, undef, undef, undef, undef, undef, undef, undef, undef, undef, undef, undef, undef, undef, undef, undef, undef, undef, undef, undef, undef, undef, undef, undef] := by rw [hE, hl0]; kernel_rfl
      rw [hlit] at hf
      dsimp only at hf
      obtain ⟨hb0, hb1⟩ := hN (hall 20 (by show 20 < 22; decide))
      rw [if_pos (hall 21 (by show 21 < 22; decide))] at hb1
      have hsz := Hs0.out
      have hst : NodeSt w g Ab cb B (headO g) none 0 none 0 w' := ⟨(hB.block _ (by omega)).trans HA0.out, (hB.block _ (by omega)).trans HZ0.out, by rw [HHd.out]; exact hb1, by omega, HX0.out.trans (hB.mono (by omega))⟩
      have Hst := Lib.hid hst
      rw [hf]
      clear hf hlit hS hN hM hE hl0 XhE1 XhE2 Xhn1 Xhn2 Xhlt XhkM XhkM2 XhkN hst Xm0 Xm1 Xm2 Xm3 Xm4 Xm5 Xm6 Xm7 Xm8 Xm9 Xm10 Xm11 Xm12 Xm13 Xm14 Xm15 Xm16 Xm17 Xm18 Xm19 Xm20
      go_wp2
      go_meet
      case rel => exact ⟨B, rfl, Hst⟩
    case step =>
      intro listed a' w' i hls hI hmem
      have hr := ready_of hls hmem
      have hi22 : i < 22 := hr.1
      have hcase : i = 0 ∨ i = 1 ∨ i = 2 ∨ i = 3 ∨ i = 4 ∨ i = 5 ∨ i = 6 ∨ i = 7 ∨ i = 8 ∨ i = 9 ∨ i = 10 ∨ i = 11 ∨ i = 12 ∨ i = 13 ∨ i = 14 ∨ i = 15 ∨ i = 16 ∨ i = 17 ∨ i = 18 ∨ i = 19 ∨ i = 20 ∨ i = 21 := by omega
      rcases hcase with rfl | rfl | rfl | rfl | rfl | rfl | rfl | rfl | rfl | rfl | rfl | rfl | rfl | rfl | rfl | rfl | rfl | rfl | rfl | rfl | rfl | rfl
      · obtain ⟨B, hS, hB, hM, hN⟩ := hI
        obtain ⟨c0, c1, c2, c3, c4, c5⟩ := HS.out w' hB
        have e1 := hS.at0 1 (.pointer (some ⟨w.heap.size, 0, none⟩)) (by rw [XhE2.out]; decide) (by rw [hl0]; rfl)
        refine wpOp_plain' rfl rfl fun K' hK => ?_
        go_simp
        exact hK _ _ ⟨B, hS.put' (Xhn1.out B) (Xhn2.out B) (Xhlt.out B) (Xm0.out B), hB, XhkM.out _ _ (by decide) (by decide) hM, XhkN.out _ _ _ _ _ (by decide) (by decide) (Below.refl _ _) hN⟩
      · obtain ⟨B, hS, hB, hM, hN⟩ := hI
        obtain ⟨c0, c1, c2, c3, c4, c5⟩ := HS.out w' hB
        have d0 := hr.2.2 _ rfl ⟨0, .data⟩ (by simp) rfl
        have e100 := hS.at_ (Xm0.out B) d0
        refine wpOp_plain' rfl rfl fun K' hK => ?_
        go_simp
        exact hK _ _ ⟨B, hS.put' (Xhn1.out B) (Xhn2.out B) (Xhlt.out B) (Xm1.out B), hB, XhkM.out _ _ (by decide) (by decide) hM, XhkN.out _ _ _ _ _ (by decide) (by decide) (Below.refl _ _) hN⟩
      · obtain ⟨B, hS, hB, hM, hN⟩ := hI
        obtain ⟨c0, c1, c2, c3, c4, c5⟩ := HS.out w' hB
        have d1 := hr.2.2 _ rfl ⟨1, .data⟩ (by simp) rfl
        have e101 := hS.at_ (Xm1.out B) d1
        refine wpOp_plain' rfl rfl fun K' hK => ?_
        go_simp
        refine (around_any _ _ _ (by assumption) (by assumption) (by decide) (by decide)).mono ?_
        rintro e _ ⟨rfl, rfl⟩
        rw [← G1.out]
        exact hK _ _ ⟨B, hS.put' (Xhn1.out B) (Xhn2.out B) (Xhlt.out B) (Xm2.out B), hB, XhkM.out _ _ (by decide) (by decide) hM, XhkN.out _ _ _ _ _ (by decide) (by decide) (Below.refl _ _) hN⟩
      · obtain ⟨B, hS, hB, hM, hN⟩ := hI
        obtain ⟨c0, c1, c2, c3, c4, c5⟩ := HS.out w' hB
        have d2 := hr.2.2 _ rfl ⟨2, .data⟩ (by simp) rfl
        have e102 := hS.at_ (Xm2.out B) d2
        refine wpOp_plain' rfl rfl fun K' hK => ?_
        go_simp
        exact hK _ _ ⟨B, hS.put' (Xhn1.out B) (Xhn2.out B) (Xhlt.out B) (Xm3.out B), hB, XhkM.out _ _ (by decide) (by decide) hM, XhkN.out _ _ _ _ _ (by decide) (by decide) (Below.refl _ _) hN⟩
      · obtain ⟨B, hS, hB, hM, hN⟩ := hI
        obtain ⟨c0, c1, c2, c3, c4, c5⟩ := HS.out w' hB
        have e1 := hS.at0 1 (.pointer (some ⟨w.heap.size, 0, none⟩)) (by rw [XhE2.out]; decide) (by rw [hl0]; rfl)
        refine wpOp_plain' rfl rfl fun K' hK => ?_
        go_simp
        exact hK _ _ ⟨B, hS.put' (Xhn1.out B) (Xhn2.out B) (Xhlt.out B) (Xm4.out B), hB, XhkM.out _ _ (by decide) (by decide) hM, XhkN.out _ _ _ _ _ (by decide) (by decide) (Below.refl _ _) hN⟩
      · obtain ⟨B, hS, hB, hM, hN⟩ := hI
        obtain ⟨c0, c1, c2, c3, c4, c5⟩ := HS.out w' hB
        have d4 := hr.2.2 _ rfl ⟨4, .data⟩ (by simp) rfl
        have e104 := hS.at_ (Xm4.out B) d4
        refine wpOp_plain' rfl rfl fun K' hK => ?_
        go_simp
        exact hK _ _ ⟨B, hS.put' (Xhn1.out B) (Xhn2.out B) (Xhlt.out B) (Xm5.out B), hB, XhkM.out _ _ (by decide) (by decide) hM, XhkN.out _ _ _ _ _ (by decide) (by decide) (Below.refl _ _) hN⟩
      · obtain ⟨B, hS, hB, hM, hN⟩ := hI
        obtain ⟨c0, c1, c2, c3, c4, c5⟩ := HS.out w' hB
        have d5 := hr.2.2 _ rfl ⟨5, .data⟩ (by simp) rfl
        have e105 := hS.at_ (Xm5.out B) d5
        refine wpOp_plain' rfl rfl fun K' hK => ?_
        go_simp
        refine (nameof_any _ _ (by assumption) (by assumption)).mono ?_
        rintro e w1 ⟨rfl, h1⟩
        rw [← G2.out]
        exact hK _ _ ⟨B, hS.put' (Xhn1.out B) (Xhn2.out B) (Xhlt.out B) (Xm6.out B), hB.trans (h1.mono hB.size), XhkM.out _ _ (by decide) (by decide) hM, XhkN.out _ _ _ _ _ (by decide) (by decide) h1 hN⟩
      · obtain ⟨B, hS, hB, hM, hN⟩ := hI
        obtain ⟨c0, c1, c2, c3, c4, c5⟩ := HS.out w' hB
        have e1 := hS.at0 1 (.pointer (some ⟨w.heap.size, 0, none⟩)) (by rw [XhE2.out]; decide) (by rw [hl0]; rfl)
        refine wpOp_plain' rfl rfl fun K' hK => ?_
        go_simp
        exact hK _ _ ⟨B, hS.put' (Xhn1.out B) (Xhn2.out B) (Xhlt.out B) (Xm7.out B), hB, XhkM.out _ _ (by decide) (by decide) hM, XhkN.out _ _ _ _ _ (by decide) (by decide) (Below.refl _ _) hN⟩
      · obtain ⟨B, hS, hB, hM, hN⟩ := hI
        obtain ⟨c0, c1, c2, c3, c4, c5⟩ := HS.out w' hB
        have d7 := hr.2.2 _ rfl ⟨7, .data⟩ (by simp) rfl
        have e107 := hS.at_ (Xm7.out B) d7
        refine wpOp_plain' rfl rfl fun K' hK => ?_
        go_simp
        exact hK _ _ ⟨B, hS.put' (Xhn1.out B) (Xhn2.out B) (Xhlt.out B) (Xm8.out B), hB, XhkM.out _ _ (by decide) (by decide) hM, XhkN.out _ _ _ _ _ (by decide) (by decide) (Below.refl _ _) hN⟩
      · obtain ⟨B, hS, hB, hM, hN⟩ := hI
        obtain ⟨c0, c1, c2, c3, c4, c5⟩ := HS.out w' hB
        have d8 := hr.2.2 _ rfl ⟨8, .data⟩ (by simp) rfl
        have e108 := hS.at_ (Xm8.out B) d8
        refine wpOp_plain' rfl rfl fun K' hK => ?_
        go_simp
        refine (around_any _ _ _ (by assumption) (by assumption) (by decide) (by decide)).mono ?_
        rintro e _ ⟨rfl, rfl⟩
        rw [← G3.out]
        exact hK _ _ ⟨B, hS.put' (Xhn1.out B) (Xhn2.out B) (Xhlt.out B) (Xm9.out B), hB, XhkM.out _ _ (by decide) (by decide) hM, XhkN.out _ _ _ _ _ (by decide) (by decide) (Below.refl _ _) hN⟩
      · obtain ⟨B, hS, hB, hM, hN⟩ := hI
        obtain ⟨c0, c1, c2, c3, c4, c5⟩ := HS.out w' hB
        have e1 := hS.at0 1 (.pointer (some ⟨w.heap.size, 0, none⟩)) (by rw [XhE2.out]; decide) (by rw [hl0]; rfl)
        refine wpOp_plain' rfl rfl fun K' hK => ?_
        go_simp
        exact hK _ _ ⟨B, hS.put' (Xhn1.out B) (Xhn2.out B) (Xhlt.out B) (Xm10.out B), hB, XhkM.out _ _ (by decide) (by decide) hM, XhkN.out _ _ _ _ _ (by decide) (by decide) (Below.refl _ _) hN⟩
      · obtain ⟨B, hS, hB, hM, hN⟩ := hI
        obtain ⟨c0, c1, c2, c3, c4, c5⟩ := HS.out w' hB
        have d10 := hr.2.2 _ rfl ⟨10, .data⟩ (by simp) rfl
        have e110 := hS.at_ (Xm10.out B) d10
        refine wpOp_plain' rfl rfl fun K' hK => ?_
        go_simp
        exact hK _ _ ⟨B, hS.put' (Xhn1.out B) (Xhn2.out B) (Xhlt.out B) (Xm11.out B), hB, XhkM.out _ _ (by decide) (by decide) hM, XhkN.out _ _ _ _ _ (by decide) (by decide) (Below.refl _ _) hN⟩
      · obtain ⟨B, hS, hB, hM, hN⟩ := hI
        obtain ⟨c0, c1, c2, c3, c4, c5⟩ := HS.out w' hB
        have d11 := hr.2.2 _ rfl ⟨11, .data⟩ (by simp) rfl
        have e111 := hS.at_ (Xm11.out B) d11
        refine wpOp_plain' rfl rfl fun K' hK => ?_
        go_simp
        refine (around_any _ _ _ (by assumption) (by assumption) (by decide) (by decide)).mono ?_
        rintro e _ ⟨rfl, rfl⟩
        rw [← G4.out]
        exact hK _ _ ⟨B, hS.put' (Xhn1.out B) (Xhn2.out B) (Xhlt.out B) (Xm12.out B), hB, XhkM.out _ _ (by decide) (by decide) hM, XhkN.out _ _ _ _ _ (by decide) (by decide) (Below.refl _ _) hN⟩
      · obtain ⟨B, hS, hB, hM, hN⟩ := hI
        obtain ⟨c0, c1, c2, c3, c4, c5⟩ := HS.out w' hB
        have e1 := hS.at0 1 (.pointer (some ⟨w.heap.size, 0, none⟩)) (by rw [XhE2.out]; decide) (by rw [hl0]; rfl)
        refine wpOp_plain' rfl rfl fun K' hK => ?_
        go_simp
        exact hK _ _ ⟨B, hS.put' (Xhn1.out B) (Xhn2.out B) (Xhlt.out B) (Xm13.out B), hB, XhkM.out _ _ (by decide) (by decide) hM, XhkN.out _ _ _ _ _ (by decide) (by decide) (Below.refl _ _) hN⟩
      · obtain ⟨B, hS, hB, hM, hN⟩ := hI
        obtain ⟨c0, c1, c2, c3, c4, c5⟩ := HS.out w' hB
        have d13 := hr.2.2 _ rfl ⟨13, .data⟩ (by simp) rfl
        have e113 := hS.at_ (Xm13.out B) d13
        refine wpOp_plain' rfl rfl fun K' hK => ?_
        go_simp
        exact hK _ _ ⟨B, hS.put' (Xhn1.out B) (Xhn2.out B) (Xhlt.out B) (Xm14.out B), hB, XhkM.out _ _ (by decide) (by decide) hM, XhkN.out _ _ _ _ _ (by decide) (by decide) (Below.refl _ _) hN⟩
      · obtain ⟨B, hS, hB, hM, hN⟩ := hI
        obtain ⟨c0, c1, c2, c3, c4, c5⟩ := HS.out w' hB
        have d14 := hr.2.2 _ rfl ⟨14, .data⟩ (by simp) rfl
        have e114 := hS.at_ (Xm14.out B) d14
        refine wpOp_plain' rfl rfl fun K' hK => ?_
        go_simp
        refine (around_any _ _ _ (by assumption) (by assumption) (by decide) (by decide)).mono ?_
        rintro e _ ⟨rfl, rfl⟩
        rw [← G5.out]
        exact hK _ _ ⟨B, hS.put' (Xhn1.out B) (Xhn2.out B) (Xhlt.out B) (Xm15.out B), hB, XhkM.out _ _ (by decide) (by decide) hM, XhkN.out _ _ _ _ _ (by decide) (by decide) (Below.refl _ _) hN⟩
      · obtain ⟨B, hS, hB, hM, hN⟩ := hI
        obtain ⟨c0, c1, c2, c3, c4, c5⟩ := HS.out w' hB
        have e1 := hS.at0 1 (.pointer (some ⟨w.heap.size, 0, none⟩)) (by rw [XhE2.out]; decide) (by rw [hl0]; rfl)
        refine wpOp_plain' rfl rfl fun K' hK => ?_
        go_simp
        exact hK _ _ ⟨B, hS.put' (Xhn1.out B) (Xhn2.out B) (Xhlt.out B) (Xm16.out B), hB, XhkM.out _ _ (by decide) (by decide) hM, XhkN.out _ _ _ _ _ (by decide) (by decide) (Below.refl _ _) hN⟩
      · obtain ⟨B, hS, hB, hM, hN⟩ := hI
        obtain ⟨c0, c1, c2, c3, c4, c5⟩ := HS.out w' hB
        have d16 := hr.2.2 _ rfl ⟨16, .data⟩ (by simp) rfl
        have e116 := hS.at_ (Xm16.out B) d16
        refine wpOp_plain' rfl rfl fun K' hK => ?_
        go_simp
        exact hK _ _ ⟨B, hS.put' (Xhn1.out B) (Xhn2.out B) (Xhlt.out B) (Xm17.out B), hB, XhkM.out _ _ (by decide) (by decide) hM, XhkN.out _ _ _ _ _ (by decide) (by decide) (Below.refl _ _) hN⟩
      · obtain ⟨B, hS, hB, hM, hN⟩ := hI
        obtain ⟨c0, c1, c2, c3, c4, c5⟩ := HS.out w' hB
        have d17 := hr.2.2 _ rfl ⟨17, .data⟩ (by simp) rfl
        have e117 := hS.at_ (Xm17.out B) d17
        refine wpOp_plain' rfl rfl fun K' hK => ?_
        go_simp
        refine (around_any _ _ _ (by assumption) (by assumption) (by decide) (by decide)).mono ?_
        rintro e _ ⟨rfl, rfl⟩
        rw [← G6.out]
        exact hK _ _ ⟨B, hS.put' (Xhn1.out B) (Xhn2.out B) (Xhlt.out B) (Xm18.out B), hB, XhkM.out _ _ (by decide) (by decide) hM, XhkN.out _ _ _ _ _ (by decide) (by decide) (Below.refl _ _) hN⟩
      · obtain ⟨B, hS, hB, hM, hN⟩ := hI
        obtain ⟨c0, c1, c2, c3, c4, c5⟩ := HS.out w' hB
        have d3 := hr.2.2 _ rfl ⟨3, .data⟩ (by simp) rfl
        have e103 := hS.at_ (Xm3.out B) d3
        have d6 := hr.2.2 _ rfl ⟨6, .data⟩ (by simp) rfl
        have e106 := hS.at_ (Xm6.out B) d6
        have d9 := hr.2.2 _ rfl ⟨9, .data⟩ (by simp) rfl
        have e109 := hS.at_ (Xm9.out B) d9
        have d12 := hr.2.2 _ rfl ⟨12, .data⟩ (by simp) rfl
        have e112 := hS.at_ (Xm12.out B) d12
        have d15 := hr.2.2 _ rfl ⟨15, .data⟩ (by simp) rfl
        have e115 := hS.at_ (Xm15.out B) d15
        have d18 := hr.2.2 _ rfl ⟨18, .data⟩ (by simp) rfl
        have e118 := hS.at_ (Xm18.out B) d18
        refine wpOp_plain' rfl rfl fun K' hK => ?_
        go_simp
        exact hK _ _ ⟨B, hS.put' (Xhn1.out B) (Xhn2.out B) (Xhlt.out B) (Xm19.out B), hB, XhkM.out _ _ (by decide) (by decide) hM, XhkN.out _ _ _ _ _ (by decide) (by decide) (Below.refl _ _) hN⟩
      · obtain ⟨B, hS, hB, hM, hN⟩ := hI
        obtain ⟨c0, c1, c2, c3, c4, c5⟩ := HS.out w' hB
        refine wpOp_plain' rfl rfl fun K' hK => ?_
        have h21 : listed.getD 21 true = false := by
          cases hx : listed.getD 21 true with
          | false => rfl
          | true => have := hM hx; rw [hr.2.1] at this; cases this
        go_simp
        refine hK _ _ ⟨w'.heap.size, (hS.turn (exp' := E w'.heap.size) (fun j hj t ht e => ?_) (fun t ht => ?_)).put' (Xhn1.out _) (Xhn2.out _) (Xhlt.out _) (Xm20.out _), hB.alloc hB.size _, XhkM2.out _ h21, fun _ => ⟨hB.size, ?_⟩⟩
        · have h1 : t.2.1 ∈ (E B).map fun t => t.2.1 := List.mem_map.2 ⟨t, ht, rfl⟩
          rw [XhE2.out, ← XhE2.out w'.heap.size, List.mem_map] at h1
          obtain ⟨s, hs, he⟩ := h1
          exact hj s hs (he.trans e)
        · rw [hE] at ht ⊢
          simp only [List.mem_cons, List.mem_nil_iff, or_false] at ht ⊢
          rcases ht with rfl | rfl | rfl | rfl | rfl | rfl | rfl | rfl | rfl | rfl | rfl | rfl | rfl | rfl | rfl | rfl | rfl | rfl | rfl | rfl | rfl <;> first | (left; simp; done) | exact .inr hr.2.1
        · rw [set_get (by decide), h21]
          exact heap_alloc_new w' _
      · obtain ⟨B, hS, hB, hM, hN⟩ := hI
        obtain ⟨c0, c1, c2, c3, c4, c5⟩ := HS.out w' hB
        have d20 := hr.2.2 _ rfl ⟨20, .data⟩ (by simp) rfl
        have e120 := hS.at_ (Xm20.out B) d20
        have d19 := hr.2.2 _ rfl ⟨19, .data⟩ (by simp) rfl
        have e119 := hS.at_ (Xm19.out B) d19
        refine wpOp_plain' rfl rfl fun K' hK => ?_
        obtain ⟨hb0, hb1⟩ := hN d20
        rw [hr.2.1] at hb1
        simp only [Bool.false_eq_true, if_false] at hb1
        obtain ⟨z0, z1, z2, z3, z4, z5, z6, z7, z8, z9, z10, z11⟩ := twelve hb1
        obtain ⟨f0, f1, f2, f3, f4, f5, f6, f7, f8, f9, f10, f11⟩ := twelve_free hb1
        go_simp
        refine hK _ _ ⟨B, hS.skip (v := undef) (fun t ht e => ?_), ?_, fun _ => ?_, fun _ => ⟨hb0, ?_⟩⟩
        · have h1 : t.1 ∈ (E B).map fun t => t.1 := List.mem_map.2 ⟨t, ht, rfl⟩
          rw [XhE1.out, e] at h1
          revert h1; decide
        · repeat (first | with_reducible exact hB | with_reducible refine Below.setCell ?_ hb0 _)
        · rw [set_get (by decide)]; exact d20
        · rw [if_pos (by simp [Array.getD_eq_getD_getElem?, hls])]
          exact fill12 hb1 _ _ _ _ _ _ _ _ _ _ _ _
  case rest =>
    obtain ⟨B, rfl, HN⟩ := hcut
    clear hE hl0 XhE1 XhE2 Xhn1 Xhn2 Xhlt XhkM XhkM2 XhkN Xm0 Xm1 Xm2 Xm3 Xm4 Xm5 Xm6 Xm7 Xm8 Xm9 Xm10 Xm11 Xm12 Xm13 Xm14 Xm15 Xm16 Xm17 Xm18 Xm19 Xm20 HS HXd
    rw [HHd.out] at HN
    have HM1 : Hid (midO g = ⟨1 + g1, g2, g3, g4, g5, g6, if g1 = 1 then g.b.take 60 else [], if g1 = 2 then (⟨#[120]⟩ : ByteArray) ++ cleanS (shortS g.s 20) else ⟨#[]⟩, if g1 = 3 then around g.n 256 else 0, if g1 = 3 then around g.up 256 else 0, []⟩) := Lib.hid (by rw [G1.out, G2.out, G3.out, G4.out, G5.out, G6.out]; rfl)
    have HXw : Hid (Ext L w L wc) := Lib.hid (Ext.of_below Hok.out HN.out.below)
    have hBs := HN.out.lt
    have hBl := HN.out.size
    have hwB : w.heap.size ≤ B := by omega
    have HNL : Hid (∀ j, ¬ L B j ∧ ¬ L (w.heap.size + 1) j) := Lib.hid (fun j => ⟨not_live Hok.out (by omega) j, not_live Hok.out (by omega) j⟩)
    have HBc : Hid (SliceR Rp.byte L wc g.b (.slice Ab g.b.length cb)) := Lib.hid (Hb.out.mono (Ext.sub Hok.out HXw.out))
    obtain ⟨a0, a1, a2, a3, a4, a5⟩ := six HN.out.arg
    obtain ⟨n0, n1', n2', n3, n4, n5, n6, n7, n8, n9, n10, n11⟩ := twelve_box HN.out.node
    obtain ⟨f0, f1, f2, f3, f4, f5, f6, f7, f8, f9, f10, f11⟩ := twelve_free HN.out.node
    dsimp only at n0 n1' n2' n3 n4 n5 n6 n7 n8 n9 n10 n11
    go_upto_block 0 with fail
    go_cut [3] (fun v wx => v = .pointer (some ⟨B, 0, none⟩) ∧ ∃ (Ad : Option Addr) (cd : Nat) (L1 : Live), Hid (NodeSt w g Ab cb B (midO g) Ad cd none 0 wx) ∧ Hid (SliceR Rp.byte L1 wx (midO g).data (.slice Ad (midO g).data.length cd)) ∧ Hid (Ext L w L1 wx) ∧ Hid (∀ j, ¬ L1 B j ∧ ¬ L1 (w.heap.size + 1) j))
    case first =>
      have hcase : g1 = 0 ∨ g1 = 1 ∨ g1 = 2 ∨ g1 = 3 := by omega
      rcases hcase with rfl | rfl | rfl | rfl
      · have hm : midO g = ⟨1 + 0, g2, g3, g4, g5, g6, [], ⟨#[]⟩, 0, 0, []⟩ := by simpa using HM1.out
        have Hm := Lib.hid hm
        clear hm
        go_wp2
        go_meet
        case rel =>
          refine ⟨rfl, none, 0, L, ?_, ?_, HXw, HNL⟩
          · rw [Hm.out]; exact HN
          · rw [Hm.out]; exact Lib.hid (SliceR.nil _ _ _)
      · have hm : midO g = ⟨1 + 1, g2, g3, g4, g5, g6, g.b.take 60, ⟨#[]⟩, 0, 0, []⟩ := by simpa using HM1.out
        obtain ⟨ds, hds⟩ : ∃ ds, ds = g.b.take 60 := ⟨_, rfl⟩
        have hdl : ds.length ≤ 60 := by rw [hds]; exact List.length_take_le _ _
        rw [← hds] at hm
        have Hds := Lib.hid hds
        have Hm := Lib.hid hm
        clear hm hds
        go_wp2_with fail
        refine (few_any g.b _ 60 L _ (by decide) (by decide) HBc.out).mono ?_
        rintro e w1 ⟨v', rfl, h1, x1⟩
        rw [show List.take (Int.toNat 60) g.b = ds from by rw [Hds.out]; rfl] at h1
        obtain ⟨L1, hs1, hx1⟩ := Blk.known (d := Rp.byte) h1 x1 HXw.out.ok (bytes_reps _ _ _) rfl (by simp only [big]; omega)
        obtain ⟨Ad, cd, rfl, _, _, _⟩ := hs1.form
        have hst := HN.out.step hx1.below
        have hnl : ∀ j, ¬ L1 B j ∧ ¬ L1 (w.heap.size + 1) j := fun j => ⟨Ext.not_live hx1 hBl (fun j => (HNL.out j).1) j, Ext.not_live hx1 (by omega) (fun j => (HNL.out j).2) j⟩
        have Hst := Lib.hid hst; have HNl := Lib.hid hnl; have Hs1 := Lib.hid hs1; have HX1 := Lib.hid (HXw.out.trans hx1)
        clear n0 n1' n2' n3 n4 n5 n6 n7 n8 n9 n10 n11 f0 f1 f2 f3 f4 f5 f6 f7 f8 f9 f10 f11 a0 a1 a2 a3 a4 a5 h1 x1 hs1 hx1 hst hnl
        obtain ⟨n0, n1', n2', n3, n4, n5, n6, n7, n8, n9, n10, n11⟩ := twelve_box Hst.out.node
        obtain ⟨f0, f1, f2, f3, f4, f5, f6, f7, f8, f9, f10, f11⟩ := twelve_free Hst.out.node
        go_wp2
        go_meet
        case rel =>
          refine ⟨rfl, Ad, cd, L1, ?_, ?_, Lib.hid (HX1.out.setCell hwB _), HNl⟩
          · rw [Hm.out]
            exact Lib.hid (Hst.out.set6 _ rfl)
          · rw [Hm.out]
            exact Lib.hid (Hs1.out.mono (sub_set fun j => (HNl.out j).1))
      · have hm : midO g = ⟨1 + 2, g2, g3, g4, g5, g6, [], (⟨#[120]⟩ : ByteArray) ++ cleanS (shortS g.s 20), 0, 0, []⟩ := by simpa using HM1.out
        have Hm := Lib.hid hm
        have hcl : (cleanS (shortS g.s 20)).size ≤ 20 := Nat.le_trans (clean_len _) (shortS_size _ _)
        have h1c : (⟨#[120]⟩ : ByteArray).size = 1 := rfl
        obtain ⟨sv, hsv⟩ : ∃ sv, sv = cleanS (shortS g.s 20) := ⟨_, rfl⟩
        rw [← hsv] at hcl Hm
        have Hsv := Lib.hid hsv
        have hsum1 : 1 + sv.size ≤ 9223372036854775807 := by omega
        have hsum2 : (⟨#[120]⟩ : ByteArray).size + sv.size ≤ 9223372036854775807 := by omega
        have hss := shortS_size g.s 20
        clear hm hsv
        go_wp2_with (first
          | (go_at_call 20
             refine (short_any g.s 20 _ (by decide) hs).mono ?_
             rintro e _ ⟨rfl, rfl⟩)
          | (go_at_call 77
             refine (clean_any _ _ (by omega)).mono ?_
             rintro e _ ⟨rfl, rfl⟩
             rw [← Hsv.out]))
        go_meet
        case rel =>
          refine ⟨rfl, none, 0, L, ?_, ?_, Lib.hid (HXw.out.setCell hwB _), HNL⟩
          · rw [Hm.out]
            exact Lib.hid (HN.out.setAny 7 _ rfl)
          · rw [Hm.out]; exact Lib.hid (SliceR.nil _ _ _)
      · have hm : midO g = ⟨1 + 3, g2, g3, g4, g5, g6, [], ⟨#[]⟩, around g.n 256, around g.up 256, []⟩ := by simpa using HM1.out
        obtain ⟨j1, hj1⟩ : ∃ x, x = around g.n 256 := ⟨_, rfl⟩
        obtain ⟨j2, hj2⟩ : ∃ x, x = around g.up 256 := ⟨_, rfl⟩
        rw [← hj1, ← hj2] at hm
        have J1 := Lib.hid hj1; have J2 := Lib.hid hj2
        have Hm := Lib.hid hm
        clear hm hj1 hj2
        go_wp2_with (first
          | (go_at_call 13
             refine (around_any _ _ _ (by assumption) (by assumption) (by decide) (by decide)).mono ?_
             rintro e _ ⟨rfl, rfl⟩
             first | rw [← J1.out] | rw [← J2.out]))
        go_meet
        case rel =>
          refine ⟨rfl, none, 0, L, ?_, ?_, Lib.hid ((HXw.out.setCell hwB _).setCell hwB _), HNL⟩
          · rw [Hm.out]
            exact Lib.hid ((HN.out.setAny (o' := ⟨1 + 3, g2, g3, g4, g5, g6, [], ⟨#[]⟩, j1, 0, []⟩) 8 _ rfl).setAny 9 _ rfl)
          · rw [Hm.out]; exact Lib.hid (SliceR.nil _ _ _)
    case rest =>
      obtain ⟨rfl, Ad, cd, L1, HN1, HD1, HX1, HL1⟩ := hcut
      obtain ⟨wS, hwS⟩ : ∃ x, x = wc := ⟨_, rfl⟩
      subst hwS
      clear n0 n1' n2' n3 n4 n5 n6 n7 n8 n9 n10 n11 f0 f1 f2 f3 f4 f5 f6 f7 f8 f9 f10 f11 a0 a1 a2 a3 a4 a5 HNL HBc HXw HM1
      have hBl := HN1.out.size
      obtain ⟨o, ho⟩ : ∃ o, o = midO g := ⟨_, rfl⟩
      rw [← ho] at HN1 HD1
      have HNo : Hid (nodeO g = { o with attrs := if g.n.tmod 3 = 1 then [(nameOf g.up, shortS g.s 24)] else [] }) := Lib.hid (by rw [ho]; rfl)
      have hoa : o.attrs = [] := by rw [ho]; rfl
      have HFn : Hid (Fits (nodeO g)) := Lib.hid (node_fits g)
      clear ho
      obtain ⟨a0, a1, a2, a3, a4, a5⟩ := six HN1.out.arg
      obtain ⟨n0, n1', n2', n3, n4, n5, n6, n7, n8, n9, n10, n11⟩ := twelve_box HN1.out.node
      obtain ⟨f0, f1, f2, f3, f4, f5, f6, f7, f8, f9, f10, f11⟩ := twelve_free HN1.out.node
      obtain ⟨p0, p1, p2, p3, p4, p5, p6, p7, p8, p9, p10, p11⟩ := twelve HN1.out.res
      obtain ⟨q0, q1, q2, q3, q4, q5, q6, q7, q8, q9, q10, q11⟩ := twelve_free HN1.out.res
      rw [hoa] at n10
      by_cases ha : g.n.tmod 3 = 1
      · have hab : (g.n.tmod 3 == 1) = true := beq_iff_eq.2 ha
        go_upto_region 11 with fail
        obtain ⟨nm, hnm⟩ : ∃ x, x = nameOf g.up := ⟨_, rfl⟩
        obtain ⟨sv, hsv⟩ : ∃ x, x = shortS g.s 24 := ⟨_, rfl⟩
        have Hnm := Lib.hid hnm; have Hsv := Lib.hid hsv
        have hnmz : nm.size ≤ 24 := by rw [hnm]; exact (nameB_no47 (nameOf_ok _)).2.2
        have hsvz : sv.size ≤ 24 := by rw [hsv]; exact shortS_size _ _
        clear hnm hsv
        obtain ⟨E, hE⟩ : ∃ E : Nat → Option Addr → Nat → List (Nat × Nat × Value), E = fun C A2 c2 => [(0, 54, .pointer (some ⟨B, 10, none⟩)), (1, 55, .slice none 0 0), (2, 56, .pointer (some ⟨w.heap.size, 1, none⟩)), (3, 57, .int .i64 g.up), (4, 58, .string nm), (5, 59, .pointer (some ⟨w.heap.size, 5, none⟩)), (6, 60, .string g.s), (7, 61, .string sv), (8, 62, .agg #[.string nm, .string sv]), (9, 63, .slice (some ⟨C, 0, none⟩) 1 1), (10, 64, .slice A2 1 c2), (11, 65, .pointer (some ⟨B, 10, none⟩))] := ⟨_, rfl⟩
        obtain ⟨l0, hl0⟩ : ∃ l0 : List Value, l0 = [.agg #[.int .i64 g.kind, .int .i64 g.up, .int .i64 g.name, .int .i64 g.n, .slice Ab g.b.length cb, .string g.s], .pointer (some ⟨w.heap.size, 0, none⟩), .pointer (some ⟨w.heap.size + 1, 0, none⟩), .pointer (some ⟨B, 0, none⟩), u4, u5, u6, u7, u8, u9, u10, u11, u12, u13, u14, u15, u16, u17, u18, u19, u20, u21, u22, u23, u24, .int .i64 (1 + g1), u26, u27, u28, u29, u30, u31, u32, u33, u34, u35, u36, u37, u38, u39, u40, u41, u42, u43, u44, u45, u46, u47, u48, u49, .pointer (some ⟨w.heap.size, 3, none⟩), .int .i64 g.n, .int .i64 1, .bool true, u54, u55, u56, u57, u58, u59, u60, u61, u62, u63, u64, u65, u66] := ⟨_, rfl⟩
        have hkn : l0.length = 67 := by rw [hl0]; rfl
        have hF1 : ∀ C A2 c2, (E C A2 c2).map (fun t => t.1) = [0, 1, 2, 3, 4, 5, 6, 7, 8, 9, 10, 11] := fun C A2 c2 => by rw [hE]; rfl
        have hF2 : ∀ C A2 c2, (E C A2 c2).map (fun t => t.2.1) = [54, 55, 56, 57, 58, 59, 60, 61, 62, 63, 64, 65] := fun C A2 c2 => by rw [hE]; rfl
        have mm0 : ∀ C A2 c2, (0, 54, (.pointer (some ⟨B, 10, none⟩) : Value)) ∈ E C A2 c2 := fun C A2 c2 => by rw [hE]; simp
        have mm1 : ∀ C A2 c2, (1, 55, (.slice none 0 0 : Value)) ∈ E C A2 c2 := fun C A2 c2 => by rw [hE]; simp
        have mm2 : ∀ C A2 c2, (2, 56, (.pointer (some ⟨w.heap.size, 1, none⟩) : Value)) ∈ E C A2 c2 := fun C A2 c2 => by rw [hE]; simp
        have mm3 : ∀ C A2 c2, (3, 57, (.int .i64 g.up : Value)) ∈ E C A2 c2 := fun C A2 c2 => by rw [hE]; simp
        have mm4 : ∀ C A2 c2, (4, 58, (.string nm : Value)) ∈ E C A2 c2 := fun C A2 c2 => by rw [hE]; simp
        have mm5 : ∀ C A2 c2, (5, 59, (.pointer (some ⟨w.heap.size, 5, none⟩) : Value)) ∈ E C A2 c2 := fun C A2 c2 => by rw [hE]; simp
        have mm6 : ∀ C A2 c2, (6, 60, (.string g.s : Value)) ∈ E C A2 c2 := fun C A2 c2 => by rw [hE]; simp
        have mm7 : ∀ C A2 c2, (7, 61, (.string sv : Value)) ∈ E C A2 c2 := fun C A2 c2 => by rw [hE]; simp
        have mm8 : ∀ C A2 c2, (8, 62, (.agg #[.string nm, .string sv] : Value)) ∈ E C A2 c2 := fun C A2 c2 => by rw [hE]; simp
        have mm9 : ∀ C A2 c2, (9, 63, (.slice (some ⟨C, 0, none⟩) 1 1 : Value)) ∈ E C A2 c2 := fun C A2 c2 => by rw [hE]; simp
        have mm10 : ∀ C A2 c2, (10, 64, (.slice A2 1 c2 : Value)) ∈ E C A2 c2 := fun C A2 c2 => by rw [hE]; simp
        have mm11 : ∀ C A2 c2, (11, 65, (.pointer (some ⟨B, 10, none⟩) : Value)) ∈ E C A2 c2 := fun C A2 c2 => by rw [hE]; simp
        have hk1 : ∀ C A2 c2, ((E C A2 c2).map fun t => t.1).Nodup := fun C A2 c2 => by rw [hF1]; decide
        have hk2 : ∀ C A2 c2, ((E C A2 c2).map fun t => t.2.1).Nodup := fun C A2 c2 => by rw [hF2]; decide
        have hkt : ∀ C A2 c2, ∀ t ∈ E C A2 c2, t.2.1 < l0.length := fun C A2 c2 t ht => by
          have h1 : t.2.1 ∈ (E C A2 c2).map fun t => t.2.1 := List.mem_map.2 ⟨t, ht, rfl⟩
          rw [hF2] at h1
          rw [hkn]
          simp only [List.mem_cons, List.mem_nil_iff, or_false] at h1
          omega
        have hj : ∀ C A2 c2 C' A2' c2' j, (∀ t ∈ E C' A2' c2', t.2.1 ≠ j) → ∀ t ∈ E C A2 c2, t.2.1 ≠ j := fun C A2 c2 C' A2' c2' j hj t ht e => by
          have h1 : t.2.1 ∈ (E C A2 c2).map fun t => t.2.1 := List.mem_map.2 ⟨t, ht, rfl⟩
          rw [hF2, ← hF2 C' A2' c2', List.mem_map] at h1
          obtain ⟨s, hs, he⟩ := h1
          exact hj s hs (he.trans e)
        have ht9 : ∀ (listed : Array Bool) C A2 c2 C', listed.getD 9 true = false → ∀ t ∈ E C' A2 c2, t ∈ E C A2 c2 ∨ listed.getD t.1 true = false := fun listed C A2 c2 C' hl t ht => by
          rw [hE] at ht ⊢
          simp only [List.mem_cons, List.mem_nil_iff, or_false] at ht ⊢
          rcases ht with rfl | rfl | rfl | rfl | rfl | rfl | rfl | rfl | rfl | rfl | rfl | rfl <;> first | (left; simp; done) | exact .inr hl
        have ht10 : ∀ (listed : Array Bool) C A2 c2 A2' c2', listed.getD 10 true = false → ∀ t ∈ E C A2' c2', t ∈ E C A2 c2 ∨ listed.getD t.1 true = false := fun listed C A2 c2 A2' c2' hl t ht => by
          rw [hE] at ht ⊢
          simp only [List.mem_cons, List.mem_nil_iff, or_false] at ht ⊢
          rcases ht with rfl | rfl | rfl | rfl | rfl | rfl | rfl | rfl | rfl | rfl | rfl | rfl <;> first | (left; simp; done) | exact .inr hl
        have Ymm0 := Lib.hid mm0; have Ymm1 := Lib.hid mm1; have Ymm2 := Lib.hid mm2; have Ymm3 := Lib.hid mm3; have Ymm4 := Lib.hid mm4; have Ymm5 := Lib.hid mm5; have Ymm6 := Lib.hid mm6; have Ymm7 := Lib.hid mm7; have Ymm8 := Lib.hid mm8; have Ymm9 := Lib.hid mm9; have Ymm10 := Lib.hid mm10; have Ymm11 := Lib.hid mm11; have YhF1 := Lib.hid hF1; have YhF2 := Lib.hid hF2; have Yhk1 := Lib.hid hk1; have Yhk2 := Lib.hid hk2; have Yhkt := Lib.hid hkt; have Yhkn := Lib.hid hkn; have Yhj := Lib.hid hj; have Yht9 := Lib.hid ht9; have Yht10 := Lib.hid ht10
        clear mm0 mm1 mm2 mm3 mm4 mm5 mm6 mm7 mm8 mm9 mm10 mm11 hF1 hF2 hk1 hk2 hkt hkn hj ht9 ht10
        have HCell : Hid (∀ wb, Below wS.heap.size wS wb → wb.cell? ⟨w.heap.size, 1, none⟩ = some (.int .i64 g.up) ∧ wb.cell? ⟨w.heap.size, 5, none⟩ = some (.string g.s) ∧ wb.cell? ⟨B, 10, none⟩ = some (.slice none 0 0) ∧ wb.frozen? ⟨B, 10, none⟩ = false) := Lib.hid (fun wb hb => by
          have h1 := six (HN1.out.step hb).arg
          have h2 := twelve_box (HN1.out.step hb).node
          have h3 := twelve_free (HN1.out.step hb).node
          have h4 := h2.2.2.2.2.2.2.2.2.2.2.1
          rw [hoa] at h4
          exact ⟨h1.2.1, h1.2.2.2.2.2, h4, h3.2.2.2.2.2.2.2.2.2.2.1⟩)
        clear n0 n1' n2' n3 n4 n5 n6 n7 n8 n9 n10 n11 f0 f1 f2 f3 f4 f5 f6 f7 f8 f9 f10 f11 a0 a1 a2 a3 a4 a5 p0 p1 p2 p3 p4 p5 p6 p7 p8 p9 p10 p11 q0 q1 q2 q3 q4 q5 q6 q7 q8 q9 q10 q11
        refine wp_region_any (by kernel_rfl) ?_
        refine wpAny_inv (by kernel_rfl) (fun listed a' w' => ∃ C A2 c2 wb, Slots (E C A2 c2) l0 listed a' ∧ Below wS.heap.size wS wb ∧ (listed.getD 9 true = true → wb.heap[C]? = some (.cells #[.string nm, .string sv] 88 (0, 0))) ∧ (listed.getD 10 true = true → listed.getD 9 true = true ∧ Blk wb wS.heap.size 88 2 (.slice A2 1 c2) 1 [.string nm, .string sv]) ∧ (listed.getD 12 true = true → ∀ j, j < 12 → listed.getD j true = true) ∧ w' = (if listed.getD 12 true = true then wb.setCell ⟨B, 10, none⟩ (.slice A2 1 c2) else wb)) ?step ?fin _ _ _ _ ?hs ?hf ?init
        case hs => simp
        case hf => simp
        case init =>
          refine ⟨0, none, 0, _, ?_, (Below.refl wS.heap.size wS).drew, fun h => ?_, fun h => ?_, fun h => ?_, ?_⟩
          · have := Slots.start (exp := E 0 none 0) (l0 := l0) (m := 13) (fun t ht => by
              have h1 : t.1 ∈ (E 0 none 0).map fun t => t.1 := List.mem_map.2 ⟨t, ht, rfl⟩
              rw [YhF1.out] at h1
              simp only [List.mem_cons, List.mem_nil_iff, or_false] at h1
              omega)
            rw [hl0] at this ⊢
            exact this
          · exact absurd (show (Array.replicate 13 false).getD 9 true = true from h) (by decide)
          · exact absurd (show (Array.replicate 13 false).getD 10 true = true from h) (by decide)
          · exact absurd (show (Array.replicate 13 false).getD 12 true = true from h) (by decide)
          · exact (if_neg (show ¬ (Array.replicate 13 false).getD 12 true = true by decide)).symm
        case fin =>
          intro listed a' w' hls hall ⟨C, A2, c2, wb, hS, hB, h9, h10, h12, hw⟩
          have hf := hS.frame (fun t ht => hall _ (by
            have h1 : t.1 ∈ (E C A2 c2).map fun t => t.1 := List.mem_map.2 ⟨t, ht, rfl⟩
            rw [YhF1.out] at h1
            simp only [List.mem_cons, List.mem_nil_iff, or_false] at h1
            show t.1 < 13
            omega)) (Yhk2.out C A2 c2) (Yhkt.out C A2 c2)
          have hlit : filled (E C A2 c2) l0 = [.agg #[.int .i64 g.kind, .int .i64 g.up, .int .i64 g.name, .int .i64 g.n, .slice Ab g.b.length cb, .string g.s], .pointer (some ⟨w.heap.size, 0, none⟩), .pointer (some ⟨w.heap.size + 1, 0, none⟩), .pointer (some ⟨B, 0, none⟩), u4, u5, u6, u7, u8, u9, u10, u11, u12, u13, u14, u15, u16, u17, u18, u19, u20, u21, u22, u23, u24, .int .i64 (1 + g1), u26, u27, u28, u29, u30, u31, u32, u33, u34, u35, u36, u37, u38, u39, u40, u41, u42, u43, u44, u45, u46, u47, u48, u49, .pointer (some ⟨w.heap.size, 3, none⟩), .int .i64 g.n, .int .i64 1, .bool true, .pointer (some ⟨B, 10, none⟩), .slice none 0 0, .pointer (some ⟨w.heap.size, 1, none⟩), .int .i64 g.up, .string nm, .pointer (some ⟨w.heap.size, 5, none⟩), .string g.s, .string sv, .agg #[.string nm, .string sv], .slice (some ⟨C, 0, none⟩) 1 1, .slice A2 1 c2, .pointer (some ⟨B, 10, none⟩), u66] := by rw [hE, hl0]; kernel_rfl
          rw [hlit] at hf
          dsimp only at hf
          rw [if_pos (hall 12 (by show 12 < 13; decide))] at hw
          obtain ⟨_, hblk⟩ := h10 (hall 10 (by show 10 < 13; decide))
          rw [hf, hw]
          obtain ⟨L2, hA2, hx2⟩ := Blk.known (d := attrR) (xs := [(nm, sv)]) hblk hB HX1.out.ok (Reps.single ⟨rfl, by simp only [big]; omega, by simp only [big]; omega⟩) rfl (by decide)
          have hn : nodeO g = { o with attrs := [(nm, sv)] } := by rw [HNo.out, if_pos ha, Hnm.out, Hsv.out]
          have hst := (HN1.out.step hB).setAny (o' := { o with attrs := [(nm, sv)] }) (Ad' := Ad) (cd' := cd) (Aa' := A2) (ca' := c2) 10 (.slice A2 1 c2) (by rfl)
          have hl2 : ∀ j, ¬ L2 B j ∧ ¬ L2 (w.heap.size + 1) j := fun j => ⟨Ext.not_live hx2 hBl (fun j => (HL1.out j).1) j, Ext.not_live hx2 (by have := HN1.out.lt; omega) (fun j => (HL1.out j).2) j⟩
          have HFo : Hid (Fits ({ o with attrs := [(nm, sv)] } : Own)) := Lib.hid (by rw [← hn]; exact HFn.out)
          have hnd : (nodeR 1).R L2 wb (.mk { o with attrs := [(nm, sv)] } []) (nodeV { o with attrs := [(nm, sv)] } (.slice Ad o.data.length cd) (.slice A2 1 c2) (.slice none 0 0)) := ⟨_, _, _, rfl, HFo.out, HD1.out.mono (Ext.sub HX1.out.ok hx2), hA2, SliceR.nil _ _ _⟩
          have hb : Bears 1 (.mk { o with attrs := [(nm, sv)] } []) (nodeV { o with attrs := [(nm, sv)] } (.slice Ad o.data.length cd) (.slice A2 1 c2) (.slice none 0 0)) L w L2 (wb.setCell ⟨B, 10, none⟩ (.slice A2 1 c2)) :=
            Bears.set (w := wb) ⟨HX1.out.trans hx2, hnd⟩ hwB (fun j => (hl2 j).1) 10 _
          have HBr := Lib.hid hb; have Hn := Lib.hid hn; have HL2 := Lib.hid hl2; have Hst := Lib.hid hst
          obtain ⟨wF, hwF⟩ : ∃ x, x = wb.setCell ⟨B, 10, none⟩ (.slice A2 1 c2) := ⟨_, rfl⟩
          rw [← hwF] at HBr Hst ⊢
          obtain ⟨n0, n1', n2', n3, n4, n5, n6, n7, n8, n9, n10, n11⟩ := twelve_box Hst.out.node
          obtain ⟨p0, p1, p2, p3, p4, p5, p6, p7, p8, p9, p10, p11⟩ := twelve Hst.out.res
          obtain ⟨q0, q1, q2, q3, q4, q5, q6, q7, q8, q9, q10, q11⟩ := twelve_free Hst.out.res
          clear hnd hf hlit hS hB h9 h10 h12 hE hl0 hw hblk hA2 hx2 hn hst hl2 hb hwF hall hls Ymm0 Ymm1 Ymm2 Ymm3 Ymm4 Ymm5 Ymm6 Ymm7 Ymm8 Ymm9 Ymm10 Ymm11 YhF1 YhF2 Yhk1 Yhk2 Yhkt Yhkn Yhj Yht9 Yht10 HCell
          go_upto_region 12 with fail
          refine wp_region_lit ?_
          refine wpList_load_row rfl 27 (.tmp 3) rfl B rfl _ _ _ _ (by exact Hst.out.node) Try.underlying27 rfl (by kernel_rfl) ?_
          refine wpList_store_row rfl 27 (.tmp 2) (.tmp 66) rfl (w.heap.size + 1) _ rfl rfl _ _ Hst.out.res (by kernel_rfl) (by rfl) (by simp [Value.oneCell']) ?_
          refine wpList_nil ?_
          generalize hfr : Act.put (Act.put _ _ _) _ _ = aF
          have hF2 : aF.tmps.getD 2 undef = .pointer (some ⟨w.heap.size + 1, 0, none⟩) := by rw [← hfr]; rfl
          have hF3 : aF.defers = [] := by rw [← hfr]; rfl
          have HF2 := Lib.hid hF2; have HF3 := Lib.hid hF3
          clear hfr hF2 hF3
          go_wp2
          refine bodyPost_ret (v := .agg (nodeV { o with attrs := [(nm, sv)] } (.slice Ad o.data.length cd) (.slice A2 1 c2) (.slice none 0 0)).toArray) (results_row rfl _ HF2.out (setRow_heap _ _ _ _ _ _ (by exact Hst.out.res)) Try.underlying27 rfl (by kernel_rfl)) HF3.out ?_
          rw [Hn.out]
          refine MadeO.of (L' := L2) ?_
          exact Bears.setRow HBr.out (Nat.le_succ _) (fun j => (HL2.out j).2) _
        case step =>
          intro listed a' w' i hls hI hmem
          have hr := ready_of hls hmem
          have hi13 : i < 13 := hr.1
          obtain ⟨C, A2, c2, wb, hS, hB, h9, h10, h12, hw⟩ := hI
          have hcase : i = 0 ∨ i = 1 ∨ i = 2 ∨ i = 3 ∨ i = 4 ∨ i = 5 ∨ i = 6 ∨ i = 7 ∨ i = 8 ∨ i = 9 ∨ i = 10 ∨ i = 11 ∨ i = 12 := by omega
          rcases hcase with rfl | rfl | rfl | rfl | rfl | rfl | rfl | rfl | rfl | rfl | rfl | rfl | rfl
          · have hf12 : listed.getD 12 true = false := by
              cases hx : listed.getD 12 true with
              | false => rfl
              | true => have := h12 hx 0 (by decide); rw [hr.2.1] at this; cases this
            rw [if_neg (by rw [hf12]; decide)] at hw
            subst hw
            obtain ⟨c1, c5, c10, c10f⟩ := HCell.out w' hB
            have e1 := hS.at0 3 (.pointer (some ⟨B, 0, none⟩)) (by rw [YhF2.out]; decide) (by rw [hl0]; rfl)
            refine wpOp_plain' rfl rfl fun K' hK => ?_
            go_simp
            exact hK _ _ ⟨C, A2, c2, w', hS.put' (Yhk1.out C A2 c2) (Yhk2.out C A2 c2) (Yhkt.out C A2 c2) (Ymm0.out C A2 c2), hB, (fun h => h9 (by rwa [set_get (by decide)] at h)), (fun h => by rw [set_get (by decide)] at h; rw [set_get (by decide)]; exact h10 h), (fun h => by rw [set_get (by decide)] at h; rw [hf12] at h; cases h), by rw [set_get (by decide), if_neg (by rw [hf12]; decide)]⟩
          · have hf12 : listed.getD 12 true = false := by
              cases hx : listed.getD 12 true with
              | false => rfl
              | true => have := h12 hx 1 (by decide); rw [hr.2.1] at this; cases this
            rw [if_neg (by rw [hf12]; decide)] at hw
            subst hw
            obtain ⟨c1, c5, c10, c10f⟩ := HCell.out w' hB
            have d0 := hr.2.2 _ rfl ⟨0, .data⟩ (by simp) rfl
            have e100 := hS.at_ (Ymm0.out C A2 c2) d0
            refine wpOp_plain' rfl rfl fun K' hK => ?_
            go_simp
            exact hK _ _ ⟨C, A2, c2, w', hS.put' (Yhk1.out C A2 c2) (Yhk2.out C A2 c2) (Yhkt.out C A2 c2) (Ymm1.out C A2 c2), hB, (fun h => h9 (by rwa [set_get (by decide)] at h)), (fun h => by rw [set_get (by decide)] at h; rw [set_get (by decide)]; exact h10 h), (fun h => by rw [set_get (by decide)] at h; rw [hf12] at h; cases h), by rw [set_get (by decide), if_neg (by rw [hf12]; decide)]⟩
          · have hf12 : listed.getD 12 true = false := by
              cases hx : listed.getD 12 true with
              | false => rfl
              | true => have := h12 hx 2 (by decide); rw [hr.2.1] at this; cases this
            rw [if_neg (by rw [hf12]; decide)] at hw
            subst hw
            obtain ⟨c1, c5, c10, c10f⟩ := HCell.out w' hB
            have e1 := hS.at0 1 (.pointer (some ⟨w.heap.size, 0, none⟩)) (by rw [YhF2.out]; decide) (by rw [hl0]; rfl)
            refine wpOp_plain' rfl rfl fun K' hK => ?_
            go_simp
            exact hK _ _ ⟨C, A2, c2, w', hS.put' (Yhk1.out C A2 c2) (Yhk2.out C A2 c2) (Yhkt.out C A2 c2) (Ymm2.out C A2 c2), hB, (fun h => h9 (by rwa [set_get (by decide)] at h)), (fun h => by rw [set_get (by decide)] at h; rw [set_get (by decide)]; exact h10 h), (fun h => by rw [set_get (by decide)] at h; rw [hf12] at h; cases h), by rw [set_get (by decide), if_neg (by rw [hf12]; decide)]⟩
          · have hf12 : listed.getD 12 true = false := by
              cases hx : listed.getD 12 true with
              | false => rfl
              | true => have := h12 hx 3 (by decide); rw [hr.2.1] at this; cases this
            rw [if_neg (by rw [hf12]; decide)] at hw
            subst hw
            obtain ⟨c1, c5, c10, c10f⟩ := HCell.out w' hB
            have d2 := hr.2.2 _ rfl ⟨2, .data⟩ (by simp) rfl
            have e102 := hS.at_ (Ymm2.out C A2 c2) d2
            refine wpOp_plain' rfl rfl fun K' hK => ?_
            go_simp
            exact hK _ _ ⟨C, A2, c2, w', hS.put' (Yhk1.out C A2 c2) (Yhk2.out C A2 c2) (Yhkt.out C A2 c2) (Ymm3.out C A2 c2), hB, (fun h => h9 (by rwa [set_get (by decide)] at h)), (fun h => by rw [set_get (by decide)] at h; rw [set_get (by decide)]; exact h10 h), (fun h => by rw [set_get (by decide)] at h; rw [hf12] at h; cases h), by rw [set_get (by decide), if_neg (by rw [hf12]; decide)]⟩
          · have hf12 : listed.getD 12 true = false := by
              cases hx : listed.getD 12 true with
              | false => rfl
              | true => have := h12 hx 4 (by decide); rw [hr.2.1] at this; cases this
            rw [if_neg (by rw [hf12]; decide)] at hw
            subst hw
            obtain ⟨c1, c5, c10, c10f⟩ := HCell.out w' hB
            have d3 := hr.2.2 _ rfl ⟨3, .data⟩ (by simp) rfl
            have e103 := hS.at_ (Ymm3.out C A2 c2) d3
            refine wpOp_plain' rfl rfl fun K' hK => ?_
            go_simp
            refine (nameof_any _ _ (by assumption) (by assumption)).mono ?_
            rintro e w1 ⟨rfl, x1⟩
            rw [← Hnm.out]
            exact hK _ _ ⟨C, A2, c2, w1, hS.put' (Yhk1.out C A2 c2) (Yhk2.out C A2 c2) (Yhkt.out C A2 c2) (Ymm4.out C A2 c2), hB.trans (x1.mono hB.size), fun h => (by have h' := h9 (by rwa [set_get (by decide)] at h); exact (x1.block _ (Array.getElem?_eq_some_iff.1 h').1).trans h'), fun h => (by rw [set_get (by decide)] at h; rw [set_get (by decide)]; exact ⟨(h10 h).1, (h10 h).2.below x1⟩), (fun h => by rw [set_get (by decide)] at h; rw [hf12] at h; cases h), by rw [set_get (by decide), if_neg (by rw [hf12]; decide)]⟩
          · have hf12 : listed.getD 12 true = false := by
              cases hx : listed.getD 12 true with
              | false => rfl
              | true => have := h12 hx 5 (by decide); rw [hr.2.1] at this; cases this
            rw [if_neg (by rw [hf12]; decide)] at hw
            subst hw
            obtain ⟨c1, c5, c10, c10f⟩ := HCell.out w' hB
            have e1 := hS.at0 1 (.pointer (some ⟨w.heap.size, 0, none⟩)) (by rw [YhF2.out]; decide) (by rw [hl0]; rfl)
            refine wpOp_plain' rfl rfl fun K' hK => ?_
            go_simp
            exact hK _ _ ⟨C, A2, c2, w', hS.put' (Yhk1.out C A2 c2) (Yhk2.out C A2 c2) (Yhkt.out C A2 c2) (Ymm5.out C A2 c2), hB, (fun h => h9 (by rwa [set_get (by decide)] at h)), (fun h => by rw [set_get (by decide)] at h; rw [set_get (by decide)]; exact h10 h), (fun h => by rw [set_get (by decide)] at h; rw [hf12] at h; cases h), by rw [set_get (by decide), if_neg (by rw [hf12]; decide)]⟩
          · have hf12 : listed.getD 12 true = false := by
              cases hx : listed.getD 12 true with
              | false => rfl
              | true => have := h12 hx 6 (by decide); rw [hr.2.1] at this; cases this
            rw [if_neg (by rw [hf12]; decide)] at hw
            subst hw
            obtain ⟨c1, c5, c10, c10f⟩ := HCell.out w' hB
            have d5 := hr.2.2 _ rfl ⟨5, .data⟩ (by simp) rfl
            have e105 := hS.at_ (Ymm5.out C A2 c2) d5
            refine wpOp_plain' rfl rfl fun K' hK => ?_
            go_simp
            exact hK _ _ ⟨C, A2, c2, w', hS.put' (Yhk1.out C A2 c2) (Yhk2.out C A2 c2) (Yhkt.out C A2 c2) (Ymm6.out C A2 c2), hB, (fun h => h9 (by rwa [set_get (by decide)] at h)), (fun h => by rw [set_get (by decide)] at h; rw [set_get (by decide)]; exact h10 h), (fun h => by rw [set_get (by decide)] at h; rw [hf12] at h; cases h), by rw [set_get (by decide), if_neg (by rw [hf12]; decide)]⟩
          · have hf12 : listed.getD 12 true = false := by
              cases hx : listed.getD 12 true with
              | false => rfl
              | true => have := h12 hx 7 (by decide); rw [hr.2.1] at this; cases this
            rw [if_neg (by rw [hf12]; decide)] at hw
            subst hw
            obtain ⟨c1, c5, c10, c10f⟩ := HCell.out w' hB
            have d6 := hr.2.2 _ rfl ⟨6, .data⟩ (by simp) rfl
            have e106 := hS.at_ (Ymm6.out C A2 c2) d6
            refine wpOp_plain' rfl rfl fun K' hK => ?_
            go_simp
            refine (short_any _ 24 _ (by decide) hs).mono ?_
            rintro e _ ⟨rfl, rfl⟩
            rw [← Hsv.out]
            exact hK _ _ ⟨C, A2, c2, w', hS.put' (Yhk1.out C A2 c2) (Yhk2.out C A2 c2) (Yhkt.out C A2 c2) (Ymm7.out C A2 c2), hB, (fun h => h9 (by rwa [set_get (by decide)] at h)), (fun h => by rw [set_get (by decide)] at h; rw [set_get (by decide)]; exact h10 h), (fun h => by rw [set_get (by decide)] at h; rw [hf12] at h; cases h), by rw [set_get (by decide), if_neg (by rw [hf12]; decide)]⟩
          · have hf12 : listed.getD 12 true = false := by
              cases hx : listed.getD 12 true with
              | false => rfl
              | true => have := h12 hx 8 (by decide); rw [hr.2.1] at this; cases this
            rw [if_neg (by rw [hf12]; decide)] at hw
            subst hw
            obtain ⟨c1, c5, c10, c10f⟩ := HCell.out w' hB
            have d4 := hr.2.2 _ rfl ⟨4, .data⟩ (by simp) rfl
            have e104 := hS.at_ (Ymm4.out C A2 c2) d4
            have d7 := hr.2.2 _ rfl ⟨7, .data⟩ (by simp) rfl
            have e107 := hS.at_ (Ymm7.out C A2 c2) d7
            refine wpOp_plain' rfl rfl fun K' hK => ?_
            go_simp
            exact hK _ _ ⟨C, A2, c2, w', hS.put' (Yhk1.out C A2 c2) (Yhk2.out C A2 c2) (Yhkt.out C A2 c2) (Ymm8.out C A2 c2), hB, (fun h => h9 (by rwa [set_get (by decide)] at h)), (fun h => by rw [set_get (by decide)] at h; rw [set_get (by decide)]; exact h10 h), (fun h => by rw [set_get (by decide)] at h; rw [hf12] at h; cases h), by rw [set_get (by decide), if_neg (by rw [hf12]; decide)]⟩
          · have hf12 : listed.getD 12 true = false := by
              cases hx : listed.getD 12 true with
              | false => rfl
              | true => have := h12 hx 9 (by decide); rw [hr.2.1] at this; cases this
            rw [if_neg (by rw [hf12]; decide)] at hw
            subst hw
            obtain ⟨c1, c5, c10, c10f⟩ := HCell.out w' hB
            have d8 := hr.2.2 _ rfl ⟨8, .data⟩ (by simp) rfl
            have e108 := hS.at_ (Ymm8.out C A2 c2) d8
            refine wpOp_plain' rfl rfl fun K' hK => ?_
            have hf10 : listed.getD 10 true = false := by
              cases hx : listed.getD 10 true with
              | false => rfl
              | true => have := (h10 hx).1; rw [hr.2.1] at this; cases this
            go_simp
            refine hK _ _ ⟨w'.heap.size, A2, c2, _, (hS.turn (exp' := E w'.heap.size A2 c2) (fun j hj => Yhj.out _ _ _ _ _ _ j hj) (fun t ht => Yht9.out _ _ _ _ _ hr.2.1 t ht)).put' (Yhk1.out _ _ _) (Yhk2.out _ _ _) (Yhkt.out _ _ _) (Ymm9.out _ _ _), hB.alloc hB.size _, fun _ => heap_alloc_new w' _, fun h => ?_, (fun h => by rw [set_get (by decide)] at h; rw [hf12] at h; cases h), ?_⟩
            · rw [set_get (by decide), hf10] at h; cases h
            · rw [set_get (by decide), if_neg (by rw [hf12]; decide)]
          · have hf12 : listed.getD 12 true = false := by
              cases hx : listed.getD 12 true with
              | false => rfl
              | true => have := h12 hx 10 (by decide); rw [hr.2.1] at this; cases this
            rw [if_neg (by rw [hf12]; decide)] at hw
            subst hw
            obtain ⟨c1, c5, c10, c10f⟩ := HCell.out w' hB
            have d1 := hr.2.2 _ rfl ⟨1, .data⟩ (by simp) rfl
            have e101 := hS.at_ (Ymm1.out C A2 c2) d1
            have d9 := hr.2.2 _ rfl ⟨9, .data⟩ (by simp) rfl
            have e109 := hS.at_ (Ymm9.out C A2 c2) d9
            refine wpOp_plain' rfl rfl fun K' hK => ?_
            have hc := h9 d9
            refine wp_appB (.tmp 55) (.tmp 63) 24 88 rfl wS.heap.size _ 2 32 Try.underlying24 Try.infoAttr rfl (by decide) w' (.slice none 0 0) (by simpa [Act.eval] using e101) (.slice (some ⟨C, 0, none⟩) 1 1) (by simpa [Act.eval] using e109) 0 [] (Blk.nil _ _ _ _) 1 [.string nm, .string sv] (Src.block 2 1 1 hc rfl) (attrR.one (L := L1) (w := wS) (x := (nm, sv)) ⟨rfl, by simp only [big]; omega, by simp only [big]; omega⟩) (by decide) hB.size ?_
            intro v1 w1 hB1 hg1 hrow1
            obtain ⟨A3, c3, rfl, _, _⟩ := hB1.form
            rw [Nat.zero_add] at hB1 ⊢
            refine hK _ _ ⟨C, A3, c3, w1, (hS.turn (exp' := E C A3 c3) (fun j hj => Yhj.out _ _ _ _ _ _ j hj) (fun t ht => Yht10.out _ _ _ _ _ _ hr.2.1 t ht)).put' (Yhk1.out _ _ _) (Yhk2.out _ _ _) (Yhkt.out _ _ _) (Ymm10.out _ _ _), hB.grown hg1 hB.size (fun k hk => by simp [Value.ownBlock] at hk), fun h => ?_, fun h => ⟨?_, hB1⟩, (fun h => by rw [set_get (by decide)] at h; rw [hf12] at h; cases h), ?_⟩
            · exact (hg1.block _ (Array.getElem?_eq_some_iff.1 hc).1 (by simp [Value.ownBlock])).trans hc
            · rw [set_get (by decide)]; exact d9
            · rw [set_get (by decide), if_neg (by rw [hf12]; decide)]
          · have hf12 : listed.getD 12 true = false := by
              cases hx : listed.getD 12 true with
              | false => rfl
              | true => have := h12 hx 11 (by decide); rw [hr.2.1] at this; cases this
            rw [if_neg (by rw [hf12]; decide)] at hw
            subst hw
            obtain ⟨c1, c5, c10, c10f⟩ := HCell.out w' hB
            have e1 := hS.at0 3 (.pointer (some ⟨B, 0, none⟩)) (by rw [YhF2.out]; decide) (by rw [hl0]; rfl)
            refine wpOp_plain' rfl rfl fun K' hK => ?_
            go_simp
            exact hK _ _ ⟨C, A2, c2, w', hS.put' (Yhk1.out C A2 c2) (Yhk2.out C A2 c2) (Yhkt.out C A2 c2) (Ymm11.out C A2 c2), hB, (fun h => h9 (by rwa [set_get (by decide)] at h)), (fun h => by rw [set_get (by decide)] at h; rw [set_get (by decide)]; exact h10 h), (fun h => by rw [set_get (by decide)] at h; rw [hf12] at h; cases h), by rw [set_get (by decide), if_neg (by rw [hf12]; decide)]⟩
          · have hf12 : listed.getD 12 true = false := by
              cases hx : listed.getD 12 true with
              | false => rfl
              | true => rw [hr.2.1] at hx; cases hx
            rw [if_neg (by rw [hf12]; decide)] at hw
            subst hw
            obtain ⟨c1, c5, c10, c10f⟩ := HCell.out w' hB
            have d10 := hr.2.2 _ rfl ⟨10, .data⟩ (by simp) rfl
            have e110 := hS.at_ (Ymm10.out C A2 c2) d10
            have d11 := hr.2.2 _ rfl ⟨11, .data⟩ (by simp) rfl
            have e111 := hS.at_ (Ymm11.out C A2 c2) d11
            refine wpOp_plain' rfl rfl fun K' hK => ?_
            go_simp
            refine hK _ _ ⟨C, A2, c2, w', hS.skip (v := undef) (fun t ht e => ?_), hB, (fun h => h9 (by rwa [set_get (by decide)] at h)), (fun h => by rw [set_get (by decide)] at h; rw [set_get (by decide)]; exact h10 h), fun _ j hj => ?_, ?_⟩
            · have h1 : t.1 ∈ (E C A2 c2).map fun t => t.1 := List.mem_map.2 ⟨t, ht, rfl⟩
              rw [YhF1.out, e] at h1
              revert h1; decide
            · rw [set_get (by omega)]
              have hc2 : j = 0 ∨ j = 1 ∨ j = 2 ∨ j = 3 ∨ j = 4 ∨ j = 5 ∨ j = 6 ∨ j = 7 ∨ j = 8 ∨ j = 9 ∨ j = 10 ∨ j = 11 := by omega
              rcases hc2 with rfl | rfl | rfl | rfl | rfl | rfl | rfl | rfl | rfl | rfl | rfl | rfl
              all_goals first | exact d10 | exact d11 | exact hr.2.2 _ rfl ⟨_, .phase⟩ (by simp) rfl
            · rw [if_pos (by simp [Array.getD_eq_getD_getElem?, hls])]
      · have hab : (g.n.tmod 3 == 1) = false := beq_eq_false_iff_ne.2 ha
        have hn : nodeO g = o := by
          rw [HNo.out, if_neg ha]
          cases o; simp at hoa; subst hoa; rfl
        have HFo : Hid (Fits o) := Lib.hid (by rw [← hn]; exact HFn.out)
        have Hn := Lib.hid hn
        have hb : Bears 1 (.mk o []) (nodeV o (.slice Ad o.data.length cd) (.slice none 0 0) (.slice none 0 0)) L w L1 wS := ⟨HX1.out, _, _, _, rfl, HFo.out, HD1.out, by show SliceR attrR L1 wS o.attrs _; rw [hoa]; exact SliceR.nil _ _ _, SliceR.nil _ _ _⟩
        have HBr := Lib.hid hb
        have Hoa := Lib.hid hoa
        clear hn hb hoa
        simp only [List.length_nil] at n10
        go_upto_region 12 with fail
        refine wp_region_lit ?_
        refine wpList_load_row rfl 27 (.tmp 3) rfl B rfl _ _ _ _ (by exact HN1.out.node) Try.underlying27 rfl (by kernel_rfl) ?_
        refine wpList_store_row rfl 27 (.tmp 2) (.tmp 66) rfl (w.heap.size + 1) _ rfl rfl _ _ HN1.out.res (by kernel_rfl) (by rfl) (by simp [Value.oneCell']) ?_
        refine wpList_nil ?_
        rw [Hoa.out]
        generalize hfr : Act.put (Act.put _ _ _) _ _ = aF
        have hF2 : aF.tmps.getD 2 undef = .pointer (some ⟨w.heap.size + 1, 0, none⟩) := by rw [← hfr]; rfl
        have hF3 : aF.defers = [] := by rw [← hfr]; rfl
        have HF2 := Lib.hid hF2; have HF3 := Lib.hid hF3
        clear hfr hF2 hF3
        go_wp2
        refine bodyPost_ret (v := .agg (nodeV o (.slice Ad o.data.length cd) (.slice none 0 0) (.slice none 0 0)).toArray) (results_row rfl _ HF2.out (setRow_heap _ _ _ _ _ _ (by exact HN1.out.res)) Try.underlying27 rfl (by kernel_rfl)) HF3.out ?_
        rw [Hn.out]
        refine MadeO.of (L' := L1) ?_
        exact Bears.setRow HBr.out (Nat.le_succ _) (fun j => (HL1.out j).2) _
end Go.Proofs.Ytojcciciinklbaa
