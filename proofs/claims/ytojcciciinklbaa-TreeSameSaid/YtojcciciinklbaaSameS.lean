/- A clone that is being changed. No claim by itself. -/
import Derived.Test.YtojcciciinklbaaClone2
set_option linter.unusedSimpArgs false
set_option linter.unusedVariables false
namespace Go.Proofs.Ytojcciciinklbaa
open Go.RowKit

theorem u8_next (b : UInt8) : ∃ c : UInt8, IntKind.u8.wrap ((b.toNat : Int) + 1) = (c.toNat : Int) := by
  refine ⟨b + 1, ?_⟩
  have hb := b.toNat_lt
  rw [UInt8.toNat_add]
  show IntKind.u8.wrap ((b.toNat : Int) + 1) = (((b.toNat + 1) % 256 : Nat) : Int)
  by_cases h : b.toNat = 255
  · rw [h]; decide
  · rw [IntWalk.u8_in _ (by omega)]; omega
/-- A store of a byte, wherever it goes. -/
theorem DataOk.byte {B n g j : Nat} {w : World} {v : Value} (h : DataOk B w v n) (b : UInt8) : DataOk B (w.setCell ⟨g, j, none⟩ (.int .u8 b.toNat)) v n := by
  obtain ⟨xs, h⟩ := h
  by_cases hn : 0 < n
  · obtain ⟨go, hv, hs⟩ := h.store j (.int .u8 b.toNat) hn
    by_cases e : go = g
    · subst e
      rw [bytesV_set] at hs
      exact ⟨_, hs⟩
    · refine ⟨xs, h.kept fun k hk => heap_set_ne j _ k (fun e' => e ?_)⟩
      rw [hv] at hk; injection hk with hk; rw [hk, e']
  · rcases h.2 with ⟨rfl, h0⟩ | ⟨go, cap, cur, fr, rfl, hg, hh, hf, h1, h2, h3, h4⟩
    · exact ⟨xs, h.kept fun k hk => by simp [Value.ownBlock] at hk⟩
    · have hn0 : n = 0 := by omega
      subst hn0
      have hx : xs = [] := by have := h.1; simpa [bytesV] using this
      subst hx
      by_cases e : go = g
      · subst e
        refine ⟨[], rfl, .inr ⟨go, cap, cur.setIfInBounds j _, fr, rfl, hg, heap_setCell_same hh _, by unfold Free at hf ⊢; simpa using hf, h1, h2, by simpa using h3, by simp [bytesV]⟩⟩
      · exact ⟨[], rfl, .inr ⟨go, cap, cur, fr, rfl, hg, (heap_set_ne j _ go e).trans hh, hf, h1, h2, h3, h4⟩⟩
theorem DataOk.at_ {B n : Nat} {w : World} {v : Value} (h : DataOk B w v n) (k : Nat) (hk : k < n) : ∃ g c b, v = .slice (some ⟨g, 0, none⟩) n c ∧ n ≤ c ∧ c ≤ 9223372036854775807 ∧ B ≤ g ∧ w.cell? ⟨g, k, none⟩ = some (.int .u8 (UInt8.toNat b)) ∧ w.frozen? ⟨g, k, none⟩ = false ∧ (∃ cur fr, w.heap[g]? = some (.cells cur 5 fr)) := by
  obtain ⟨xs, h⟩ := h
  have hl : xs.length = n := by have := h.1; simpa [bytesV] using this
  obtain ⟨g, cap, cur, fr, rfl, hg, hh, hf, h1, h2, h3, h4⟩ := h.row (by omega)
  exact ⟨g, cap, _, rfl, h1, h2, hg, h4 k _ (bytesV_get xs k (by omega)), frozen_free hh hf (by omega), cur, fr, hh⟩
theorem DataOk.form {B n : Nat} {w : World} {v : Value} (h : DataOk B w v n) : ∃ A c, v = .slice A n c ∧ n ≤ c ∧ c ≤ 9223372036854775807 := by
  obtain ⟨xs, h⟩ := h
  exact h.form

/-- The clone that is being changed: its kids lie in a row of their own, each kid's bytes too. -/
structure Cl (B : Nat) (w0 : World) (cb : Nat) (vk : Value) (ys : List Nd) (w : World) : Prop where
  below : Below B w0 w
  own : B ≤ cb
  cell : w.cell? ⟨cb, 11, none⟩ = some vk
  node : ∃ cur fr, w.heap[cb]? = some (.cells cur 27 fr)
  lt : ∀ k, vk.ownBlock = some k → k < cb
  kids : ∃ kc, Blk w B 27 12 vk ys.length kc ∧ KidsOk B w ys kc
section
variable {B cb : Nat} {w0 w : World} {vk : Value} {ys : List Nd}
theorem Cl.step (h : Cl B w0 cb vk ys w) {w' : World} (hb : Below w.heap.size w w') (hB : B ≤ w.heap.size) : Cl B w0 cb vk ys w' := by
  obtain ⟨kc, h1, h2⟩ := h.kids
  obtain ⟨cur, fr, hn⟩ := h.node
  exact ⟨h.below.trans (hb.mono hB), h.own, (hb.cell (World.block_lt_of_cell? w _ h.cell)).trans h.cell, ⟨cur, fr, (hb.block _ (Array.getElem?_eq_some_iff.1 hn).1).trans hn⟩, h.lt, kc, h1.below hb, h2.below hb⟩
theorem Cl.drew (h : Cl B w0 cb vk ys w) : Cl B w0 cb vk ys w.drew := by
  obtain ⟨kc, h1, h2⟩ := h.kids
  exact ⟨h.below.drew, h.own, h.cell, h.node, h.lt, kc, h1.kept fun _ _ => rfl, fun i hi => by obtain ⟨u, hu, xs, hx⟩ := h2 i hi; exact ⟨u, hu, xs, hx.kept fun _ _ => rfl⟩⟩
/-- What a kid's cells hold. -/
theorem Cl.at_ (h : Cl B w0 cb vk ys w) (i : Nat) (hi : i < ys.length) : ∃ g cap A c, vk = .slice (some ⟨g, 0, none⟩) ys.length cap ∧ ys.length ≤ cap ∧ cap ≤ 9223372036854775807 ∧ (∃ u, w.cell? ⟨g, i * 12 + 1, none⟩ = some u) ∧ w.frozen? ⟨g, i * 12 + 1, none⟩ = false ∧ w.cell? ⟨g, i * 12 + 6, none⟩ = some (.slice A ys[i].own.data.length c) ∧ ys[i].own.data.length ≤ c ∧ c ≤ 9223372036854775807 ∧ DataOk B w (.slice A ys[i].own.data.length c) ys[i].own.data.length ∧ g < cb ∧ (∃ cur fr, w.heap[g]? = some (.cells cur 27 fr)) ∧ B ≤ g := by
  obtain ⟨kc, h1, h2⟩ := h.kids
  obtain ⟨u, hu, hd⟩ := h2 i hi
  obtain ⟨A, c, rfl, c1, c2⟩ := hd.form
  obtain ⟨g, cap, cur, fr, hv, hg, hh, hf, k1, k2, k3, k4⟩ := h1.row (by omega)
  have hl := h1.1
  have h12 : i * 12 + 12 ≤ ys.length * 12 := by omega
  have hx : kc[i * 12 + 1]? = some kc[i * 12 + 1] := List.getElem?_eq_getElem (by omega)
  exact ⟨g, cap, A, c, hv, k1, k2, ⟨_, k4 _ _ hx⟩, frozen_free hh hf (by omega), k4 _ _ hu, c1, c2, hd, h.lt g (by rw [hv]; rfl), ⟨cur, fr, hh⟩, hg⟩
/-- A kid's name is another one. -/
theorem Cl.name (h : Cl B w0 cb vk ys w) (i : Nat) (hi : i < ys.length) {g cap : Nat} (hv : vk = .slice (some ⟨g, 0, none⟩) ys.length cap) (u : Value) : Cl B w0 cb vk ys (w.setCell ⟨g, i * 12 + 1, none⟩ u) := by
  obtain ⟨kc, h1, h2⟩ := h.kids
  obtain ⟨cur, fr, hn⟩ := h.node
  have hgc := h.lt g (by rw [hv]; rfl)
  have hgb := (h1.lt g (by rw [hv]; rfl)).1
  obtain ⟨cg, fg, hg⟩ := h1.type g (by rw [hv]; rfl)
  obtain ⟨g', hg', hs⟩ := h1.store (i * 12 + 1) u (by omega)
  have he : g' = g := by rw [hv] at hg'; injection hg' with e; exact e.symm
  subst he
  have hne : cb ≠ g' := by omega
  refine ⟨h.below.setCell hgb _, h.own, (World.cell?_of_block (a := ⟨cb, 11, none⟩) (heap_set_ne _ _ cb hne)).trans h.cell, ⟨cur, fr, (heap_set_ne _ _ cb hne).trans hn⟩, h.lt, _, hs, fun j hj => ?_⟩
  obtain ⟨x, hx, hd⟩ := h2 j hj
  exact ⟨x, by rw [List.getElem?_set_ne (by omega)]; exact hx, hd.set hg (by decide)⟩
/-- A byte of a kid's is another one. -/
theorem Cl.byte (h : Cl B w0 cb vk ys w) {g j : Nat} (hgB : B ≤ g) (ht : ∃ cur fr, w.heap[g]? = some (.cells cur 5 fr)) (b : UInt8) : Cl B w0 cb vk ys (w.setCell ⟨g, j, none⟩ (.int .u8 b.toNat)) := by
  obtain ⟨kc, h1, h2⟩ := h.kids
  obtain ⟨cur, fr, hn⟩ := h.node
  obtain ⟨cg, fg, hg⟩ := ht
  have hty : ∀ k c f, w.heap[k]? = some (.cells c 27 f) → k ≠ g := fun k c f hk e => by
    rw [e, hg] at hk
    simp only [Option.some.injEq, Obj.cells.injEq] at hk
    exact absurd hk.2.1 (by decide)
  have hne := hty cb _ _ hn
  refine ⟨h.below.setCell hgB _, h.own, (World.cell?_of_block (a := ⟨cb, 11, none⟩) (heap_set_ne _ _ cb hne)).trans h.cell, ⟨cur, fr, (heap_set_ne _ _ cb hne).trans hn⟩, h.lt, kc, h1.kept fun k hk => ?_, fun i hi => ?_⟩
  · obtain ⟨c1, f1, h3⟩ := h1.type k hk
    exact heap_set_ne _ _ k (hty k _ _ h3)
  · obtain ⟨x, hx, hd⟩ := h2 i hi
    exact ⟨x, hx, hd.byte b⟩
theorem Cl.le (h : Cl B w0 cb vk ys w) : B ≤ w.heap.size := by
  obtain ⟨cur, fr, hn⟩ := h.node
  have := (Array.getElem?_eq_some_iff.1 hn).1
  have := h.own
  omega
end
/-- One kid of it, its bytes being changed. -/
structure Inn (B : Nat) (w0 : World) (cb : Nat) (vk : Value) (ys : List Nd) (g k : Nat) (A : Option Addr) (n c : Nat) (w : World) : Prop where
  cl : Cl B w0 cb vk ys w
  cell : w.cell? ⟨g, k * 12 + 6, none⟩ = some (.slice A n c)
  data : DataOk B w (.slice A n c) n
  gt : ∃ cur fr, w.heap[g]? = some (.cells cur 27 fr)
section
variable {B cb : Nat} {w0 w : World} {vk : Value} {ys : List Nd} {g k n c : Nat} {A : Option Addr}
theorem Inn.step (h : Inn B w0 cb vk ys g k A n c w) {w' : World} (hb : Below w.heap.size w w') : Inn B w0 cb vk ys g k A n c w' := by
  obtain ⟨cur, fr, hn⟩ := h.gt
  exact ⟨h.cl.step hb h.cl.le, (hb.cell (World.block_lt_of_cell? w _ h.cell)).trans h.cell, h.data.below hb, cur, fr, (hb.block _ (Array.getElem?_eq_some_iff.1 hn).1).trans hn⟩
theorem Inn.byte (h : Inn B w0 cb vk ys g k A n c w) {gd j : Nat} (hgB : B ≤ gd) (ht : ∃ cur fr, w.heap[gd]? = some (.cells cur 5 fr)) (b : UInt8) : Inn B w0 cb vk ys g k A n c (w.setCell ⟨gd, j, none⟩ (.int .u8 b.toNat)) := by
  obtain ⟨cur, fr, hn⟩ := h.gt
  obtain ⟨cg, fg, hg⟩ := ht
  have hne : g ≠ gd := fun e => by
    rw [e, hg] at hn
    simp only [Option.some.injEq, Obj.cells.injEq] at hn
    exact absurd hn.2.1 (by decide)
  exact ⟨h.cl.byte hgB ⟨cg, fg, hg⟩ b, (World.cell?_of_block (a := ⟨g, k * 12 + 6, none⟩) (heap_set_ne _ _ g hne)).trans h.cell, h.data.byte b, cur, fr, (heap_set_ne _ _ g hne).trans hn⟩
theorem Cl.inn (h : Cl B w0 cb vk ys w) (i : Nat) (hi : i < ys.length) {cap : Nat} (hv : vk = .slice (some ⟨g, 0, none⟩) ys.length cap) (hc : w.cell? ⟨g, i * 12 + 6, none⟩ = some (.slice A n c)) (hd : DataOk B w (.slice A n c) n) (ht : ∃ cur fr, w.heap[g]? = some (.cells cur 27 fr)) (u : Value) : Inn B w0 cb vk ys g i A n c (w.setCell ⟨g, i * 12 + 1, none⟩ u) := by
  obtain ⟨cur, fr, hn⟩ := ht
  refine ⟨h.name i hi hv u, ?_, hd.set hn (by decide), _, fr, heap_setCell_same hn u⟩
  rw [cell_block (heap_setCell_same hn u)]
  rw [cell_block hn] at hc
  rw [Array.getElem?_setIfInBounds_ne (by omega)]
  exact hc
end
end Go.Proofs.Ytojcciciinklbaa
