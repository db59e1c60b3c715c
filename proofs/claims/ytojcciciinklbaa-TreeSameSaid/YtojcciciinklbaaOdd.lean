/- Rows of which one entry is changed in its place: what memory bears. No claim by itself. -/
import Derived.Test.YtojcciciinklbaaRef12
import Derived.Test.YtojcciciinklbaaFlat6
import Derived.Test.YtojcciciinklbaaOpen
import Derived.Deep.MidRow
set_option linter.unusedSimpArgs false
set_option linter.unusedVariables false
namespace Go.Proofs.Ytojcciciinklbaa
open Go.RowKit

/-- Small enough, however it is changed. -/
structure Tiny (o : Own) : Prop where
  name : o.name.size ≤ 1000
  data : o.data.length ≤ 5000
  attrs : o.attrs.length ≤ 100
theorem Tiny.small {o : Own} (h : Tiny o) : Small o := by
  refine ⟨h.name, ?_⟩
  have h1 := h.data
  have h2 := h.attrs
  simp only [bulk, bulkL]; omega
theorem rowF_tiny (gs : List GV) : ∀ e ∈ rowF gs, Tiny e.own := fun e he => by
  rcases rowF_own gs e he with rfl | ⟨g, _, h⟩
  · exact ⟨by decide, by decide, by decide⟩
  · rw [h]
    have h1 : (nodeO g).name = nameOf g.name := rfl
    have h2 : (nodeO g).data = if around g.kind 4 = 1 then g.b.take 60 else [] := rfl
    have h3 : (nodeO g).attrs = if g.n.tmod 3 = 1 then [(nameOf g.up, shortS g.s 24)] else [] := rfl
    have h4 := (nameB_no47 (nameOf_ok g.name)).2.2
    have h5 : (nodeO g).data.length ≤ 60 := by
      rw [h2]; split
      · exact List.length_take_le _ _
      · simp
    have h6 : (nodeO g).attrs.length ≤ 1 := by
      rw [h3]; split <;> simp
    exact ⟨by rw [h1]; exact Nat.le_trans h4 (by decide), by omega, by omega⟩

/-- The k-th of a list that is being made, as it lies. -/
theorem out_at {L : Live} {w : World} {base : Nat} {v : Value} {xs : List Ent} {cells : List Value} (h : Out entR L w base 42 v xs cells) (k : Nat) (hk : k < xs.length) :
    ∃ g cap Ad cd Aa ca, v = .slice (some ⟨g, 0, none⟩) xs.length cap ∧ xs.length ≤ cap ∧ cap ≤ 9223372036854775807 ∧ base ≤ g ∧ g < w.heap.size ∧ (∀ j, ¬ L g j) ∧
      cells.take (k * 14) ++ (.int .i64 xs[k].deep :: .string xs[k].path :: nodeV xs[k].own (.slice Ad xs[k].own.data.length cd) (.slice Aa xs[k].own.attrs.length ca) (.slice none 0 0)) ++ cells.drop ((k + 1) * 14) = cells ∧ cells.length = xs.length * 14 ∧
      xs[k].deep ≤ 1000000 ∧ xs[k].path.size ≤ big ∧ Fits xs[k].own ∧ SliceR Rp.byte L w xs[k].own.data (.slice Ad xs[k].own.data.length cd) ∧ SliceR attrR L w xs[k].own.attrs (.slice Aa xs[k].own.attrs.length ca) ∧
      (∀ j u, cells[j]? = some u → w.cell? ⟨g, j, none⟩ = some u ∧ w.frozen? ⟨g, j, none⟩ = false) := by
  obtain ⟨h1, h2, h3⟩ := h
  have hlen := h2.length
  obtain ⟨g, cap, cur, fr, rfl, hg, hh, hf, hc1, hc2, hc3, hcc⟩ := h1.row (by omega)
  obtain ⟨cs, ⟨vd, va, rfl, e1, e2, e3, e4, e5⟩, hget⟩ := h2.get k hk
  obtain ⟨Ad, cd, rfl, _, _, _⟩ := e4.form
  obtain ⟨Aa, ca, rfl, _, _, _⟩ := e5.form
  refine ⟨g, cap, Ad, cd, Aa, ca, rfl, hc1, hc2, hg, (Array.getElem?_eq_some_iff.1 hh).1, h3 g rfl, ?_, hlen, e1, e2, e3, e4, e5, fun j u hu => ⟨hcc j u hu, ?_⟩⟩
  · apply List.ext_getElem?
    intro j
    have hl14 : cells.length = xs.length * 14 := hlen
    have hk14 : k * 14 + 14 ≤ xs.length * 14 := by omega
    by_cases h1 : j < k * 14
    · rw [List.append_assoc, List.getElem?_append_left (by rw [List.length_take]; omega), List.getElem?_take_of_lt h1]
    · by_cases h2 : j < (k + 1) * 14
      · rw [List.append_assoc, List.getElem?_append_right (by rw [List.length_take]; omega), List.length_take, Nat.min_eq_left (by omega), List.getElem?_append_left (by simp [nodeV]; omega)]
        obtain ⟨i, hi⟩ : ∃ i, j = k * 14 + i := ⟨j - k * 14, by omega⟩
        subst hi
        rw [Nat.add_sub_cancel_left]
        have hi14 : i < 14 := by omega
        have hu : (Value.int .i64 xs[k].deep :: .string xs[k].path :: nodeV xs[k].own (.slice Ad xs[k].own.data.length cd) (.slice Aa xs[k].own.attrs.length ca) (.slice none 0 0))[i]? = some ((Value.int .i64 xs[k].deep :: .string xs[k].path :: nodeV xs[k].own (.slice Ad xs[k].own.data.length cd) (.slice Aa xs[k].own.attrs.length ca) (.slice none 0 0))[i]'(by simp [nodeV]; omega)) := List.getElem?_eq_getElem _
        rw [hu]
        exact (hget i _ hu).symm
      · rw [List.getElem?_append_right (by simp [nodeV]; omega), List.getElem?_drop]
        congr 1
        simp [nodeV]; omega
  · have hj := (List.getElem?_eq_some_iff.1 hu).1
    have hsz : (entR).sz = 14 := rfl
    exact frozen_free hh hf (by
      have h5 := Nat.mul_le_mul_right 14 hc1
      rw [hsz] at hc3
      have hl14 : cells.length = xs.length * 14 := hlen
      omega)
/-- With a node of other own fields. -/
theorem Out.node {L : Live} {w : World} {base : Nat} {v : Value} {xs : List Ent} {cells : List Value} (h : Out entR L w base 42 v xs cells) (k : Nat) (hk : k < xs.length) {g : Nat} (hg : v.ownBlock = some g) (o : Own) (Ad : Option Addr) (cd : Nat) (Aa : Option Addr) (ca : Nat)
    (hF : Fits o) (hD : SliceR Rp.byte L w o.data (.slice Ad o.data.length cd)) (hA : SliceR attrR L w o.attrs (.slice Aa o.attrs.length ca)) :
    ∃ cells', Out entR L (w.setCells g (k * 14 + 2) (nodeV o (.slice Ad o.data.length cd) (.slice Aa o.attrs.length ca) (.slice none 0 0))) base 42 v (oddE xs k o) cells' := by
  obtain ⟨g', cap, Ad0, cd0, Aa0, ca0, rfl, _, _, _, _, _, hcs, hlen, e1, e2, _⟩ := out_at h k hk
  simp only [Value.ownBlock, Option.map_some, Option.some.injEq] at hg
  have hd : oddE xs k o = xs.set k ⟨xs[k].deep, xs[k].path, o⟩ := by
    unfold oddE
    rw [List.getD, List.getElem?_eq_getElem hk]; rfl
  rw [hd]
  refine ⟨_, h.put hk (by simpa [Value.ownBlock] using hg) (new := .int .i64 xs[k].deep :: .string xs[k].path :: nodeV o (.slice Ad o.data.length cd) (.slice Aa o.attrs.length ca) (.slice none 0 0)) ⟨_, _, rfl, e1, e2, hF, hD, hA⟩ ?_⟩
  show putL cells (k * 14 + 2) _ = cells.take (k * 14) ++ _ ++ cells.drop ((k + 1) * 14)
  have hk14 : k * 14 + 14 ≤ xs.length * 14 := by omega
  rw [putL_eq _ _ _ (by simp [nodeV]; omega)]
  obtain ⟨a, ha⟩ : ∃ a, a = cells.take (k * 14) := ⟨_, rfl⟩
  obtain ⟨b, hb⟩ : ∃ b, b = cells.drop ((k + 1) * 14) := ⟨_, rfl⟩
  have hal : a.length = k * 14 := by rw [ha, List.length_take]; omega
  have h1 : cells.drop (k * 14 + 2 + (nodeV o (.slice Ad o.data.length cd) (.slice Aa o.attrs.length ca) (.slice none 0 0)).length) = b := by rw [hb]; congr 1; simp [nodeV]; omega
  have h2 : cells.take (k * 14 + 2) = a ++ [.int .i64 xs[k].deep, .string xs[k].path] := by
    rw [← ha, ← hb] at hcs
    rw [← hcs, List.append_assoc, List.take_append, List.take_of_length_le (by omega), hal, Nat.add_sub_cancel_left]
    rfl
  rw [h1, h2, ← ha, ← hb]
  simp

/-- A call that makes a row's tree, one of the row's nodes with other own fields. -/
def OddMade (L : Live) (w : World) (e : Ending) (w' : World) : Prop := ∃ y cs L', e = .returned (.agg cs.toArray) ∧ (nodeR 13).R L' w' y cs ∧ Ext L w L' w' ∧ count y ≤ 13 ∧ depth y ≤ 12 ∧ namesOk y ∧ bulk y ≤ 1000000
theorem odd_tree (gs : List GV) (k : Nat) (o : Own) (ho : Tiny o) : count (treeF (oddE (rowF gs) k o)) ≤ 13 ∧ depth (treeF (oddE (rowF gs) k o)) ≤ 12 ∧ namesOk (treeF (oddE (rowF gs) k o)) ∧ bulk (treeF (oddE (rowF gs) k o)) ≤ 1000000 := by
  have h1 := row_pos gs
  have h2 := row_len gs
  exact row_small (by unfold oddE; rw [List.length_set]; exact h1) (by unfold oddE; rw [List.length_set]; exact h2) (odd_small (rowF_small gs) ho.small)

/-- The node that is being changed, in a variable of its own; the row; what is asked of. -/
structure OddSt (L0 : Live) (w0 : World) (Bx Bz Bn : Nat) (vr : Value) (xs : List Ent) (xo : Obj) (ox : Own) (Adx : Option Addr) (cdx : Nat) (Aax : Option Addr) (cax : Nat) (o : Own) (Ad : Option Addr) (cd : Nat) (Aa : Option Addr) (ca : Nat) (L1 : Live) (wx : World) : Prop where
  ext : Ext L0 w0 L1 wx
  row : ∃ cells, Out entR L1 wx (w0.heap.size + 2) 42 vr xs cells
  xbox : wx.heap[Bx]? = some xo
  zero : wx.heap[Bz]? = some zeroB
  node : wx.heap[Bn]? = some (boxO o Ad cd Aa ca none 0 0)
  fits : Fits o
  tiny : Tiny o
  data : SliceR Rp.byte L1 wx o.data (.slice Ad o.data.length cd)
  attrs : SliceR attrR L1 wx o.attrs (.slice Aa o.attrs.length ca)
  xdata : SliceR Rp.byte L1 wx ox.data (.slice Adx ox.data.length cdx)
  xattrs : SliceR attrR L1 wx ox.attrs (.slice Aax ox.attrs.length cax)
  dead : ∀ j, ¬ L1 Bz j ∧ ¬ L1 Bn j
  apart : Bx = w0.heap.size ∧ Bz = w0.heap.size + 1 ∧ w0.heap.size + 1 < Bn ∧ vr.ownBlock ≠ some Bn
theorem OddSt.to {L0 : Live} {w0 : World} {Bx Bz Bn : Nat} {vr : Value} {xs : List Ent} {xo : Obj} {ox : Own} {Adx : Option Addr} {cdx : Nat} {Aax : Option Addr} {cax : Nat} {o : Own} {Ad : Option Addr} {cd : Nat} {Aa : Option Addr} {ca : Nat} {L1 L2 : Live} {wx wy : World}
    (h : OddSt L0 w0 Bx Bz Bn vr xs xo ox Adx cdx Aax cax o Ad cd Aa ca L1 wx) (hx : Ext L1 wx L2 wy) : OddSt L0 w0 Bx Bz Bn vr xs xo ox Adx cdx Aax cax o Ad cd Aa ca L2 wy := by
  obtain ⟨cells, hc⟩ := h.row
  have lt := fun {B : Nat} {ob : Obj} (e : wx.heap[B]? = some ob) => (Array.getElem?_eq_some_iff.1 e).1
  have hs := Ext.sub h.ext.ok hx
  exact ⟨h.ext.trans hx, ⟨cells, hc.ext h.ext.ok hx⟩, (hx.below.block _ (lt h.xbox)).trans h.xbox, (hx.below.block _ (lt h.zero)).trans h.zero, (hx.below.block _ (lt h.node)).trans h.node, h.fits, h.tiny, h.data.mono hs, h.attrs.mono hs, h.xdata.mono hs, h.xattrs.mono hs,
    fun j => ⟨hx.not_live (lt h.zero) (fun j => (h.dead j).1) j, hx.not_live (lt h.node) (fun j => (h.dead j).2) j⟩, h.apart⟩
theorem OddSt.step {L0 : Live} {w0 : World} {Bx Bz Bn : Nat} {vr : Value} {xs : List Ent} {xo : Obj} {ox : Own} {Adx : Option Addr} {cdx : Nat} {Aax : Option Addr} {cax : Nat} {o : Own} {Ad : Option Addr} {cd : Nat} {Aa : Option Addr} {ca : Nat} {L1 : Live} {wx wy : World}
    (h : OddSt L0 w0 Bx Bz Bn vr xs xo ox Adx cdx Aax cax o Ad cd Aa ca L1 wx) (hb : Below wx.heap.size wx wy) : OddSt L0 w0 Bx Bz Bn vr xs xo ox Adx cdx Aax cax o Ad cd Aa ca L1 wy := h.to (Ext.of_below h.ext.ok hb)
/-- The cells of a node in a variable. -/
def boxC (o : Own) (Ad : Option Addr) (cd : Nat) (Aa : Option Addr) (ca : Nat) : Array Value := #[.int .i64 o.kind, .string o.name, .int .i64 o.mode, .int .i64 o.uid, .int .i64 o.gid, .int .i64 o.mtime, .slice Ad o.data.length cd, .string o.target, .int .i64 o.major, .int .i64 o.minor, .slice Aa o.attrs.length ca, .slice none 0 0]
/-- One field is another one. -/
theorem OddSt.set {L0 : Live} {w0 : World} {Bx Bz Bn : Nat} {vr : Value} {xs : List Ent} {xo : Obj} {ox : Own} {Adx : Option Addr} {cdx : Nat} {Aax : Option Addr} {cax : Nat} {o : Own} {Ad : Option Addr} {cd : Nat} {Aa : Option Addr} {ca : Nat} {L1 : Live} {wx : World}
    (h : OddSt L0 w0 Bx Bz Bn vr xs xo ox Adx cdx Aax cax o Ad cd Aa ca L1 wx) (j : Nat) (u : Value) (o' : Own) (Ad' : Option Addr) (cd' : Nat) (Aa' : Option Addr) (ca' : Nat) (hb : (boxC o Ad cd Aa ca).setIfInBounds j u = boxC o' Ad' cd' Aa' ca') (hF : Fits o') (hT : Tiny o')
    (hD : SliceR Rp.byte L1 wx o'.data (.slice Ad' o'.data.length cd')) (hA : SliceR attrR L1 wx o'.attrs (.slice Aa' o'.attrs.length ca')) :
    OddSt L0 w0 Bx Bz Bn vr xs xo ox Adx cdx Aax cax o' Ad' cd' Aa' ca' L1 (wx.setCell ⟨Bn, j, none⟩ u) := by
  obtain ⟨cells, hc⟩ := h.row
  obtain ⟨a1, a2, a3, a4⟩ := h.apart
  have hs : Sub L1 wx L1 (wx.setCell ⟨Bn, j, none⟩ u) := sub_set fun j => (h.dead j).2
  have hk : ∀ k, k ≠ Bn → (wx.setCell ⟨Bn, j, none⟩ u).heap[k]? = wx.heap[k]? := fun k hk => Below.heap_setCell wx ⟨Bn, j, none⟩ u k hk
  refine ⟨h.ext.setCell (p := ⟨Bn, j, none⟩) (by show w0.heap.size ≤ Bn; omega) u, ⟨cells, hc.1.kept fun k e => hk k (fun e' => a4 (by rw [e, e'])), hc.2.1.mono hs, hc.2.2⟩, (hk _ (by omega)).trans h.xbox, (hk _ (by omega)).trans h.zero, ?_, hF, hT, hD.mono hs, hA.mono hs, h.xdata.mono hs, h.xattrs.mono hs, h.dead, h.apart⟩
  have hn : wx.heap[Bn]? = some (.cells (boxC o Ad cd Aa ca) 27) := h.node
  show (wx.setCell ⟨Bn, j, none⟩ u).heap[Bn]? = some (.cells (boxC o' Ad' cd' Aa' ca') 27)
  rw [← hb]
  simp [World.setCell, Array.getElem?_modify, hn]
/-- Its cells may be written. -/
theorem OddSt.free {L0 : Live} {w0 : World} {Bx Bz Bn : Nat} {vr : Value} {xs : List Ent} {xo : Obj} {ox : Own} {Adx : Option Addr} {cdx : Nat} {Aax : Option Addr} {cax : Nat} {o : Own} {Ad : Option Addr} {cd : Nat} {Aa : Option Addr} {ca : Nat} {L1 : Live} {wx : World}
    (h : OddSt L0 w0 Bx Bz Bn vr xs xo ox Adx cdx Aax cax o Ad cd Aa ca L1 wx) (j : Nat) : wx.frozen? ⟨Bn, j, none⟩ = false := by
  have hn : wx.heap[Bn]? = some (.cells (boxC o Ad cd Aa ca) 27) := h.node
  simp [World.frozen?, hn]
end Go.Proofs.Ytojcciciinklbaa
