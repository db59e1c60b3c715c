/- A list that is being made, in a row of its own, of which nothing lives yet. No claim by itself. -/
import Derived.Test.YtojcciciinklbaaBase
import Derived.Laws.MakeOwn
set_option linter.unusedVariables false
namespace Go.Proofs.Ytojcciciinklbaa
open Go.RowKit

variable {α : Type} {d : Rp α} {L L' L0 : Live} {w w' w0 : World} {base e : Nat} {v v' : Value} {xs : List α}

/-- No cell of a value's own row lives. -/
def Own0 (L : Live) (v : Value) : Prop := ∀ g, v.ownBlock = some g → ∀ j, ¬ L g j

/-- What is being made. -/
def Out (d : Rp α) (L : Live) (w : World) (base e : Nat) (v : Value) (xs : List α) (cells : List Value) : Prop :=
  Blk w base e d.sz v xs.length cells ∧ Reps d L w xs cells ∧ Own0 L v

theorem Out.nil (d : Rp α) (L : Live) (w : World) (base e : Nat) : Out d L w base e (.slice none 0 0) [] [] :=
  ⟨Blk.nil w base e d.sz, .nil, fun g hg => by simp [Value.ownBlock] at hg⟩
theorem Out.ext {cells : List Value} (h : Out d L w base e v xs cells) (hok : LOk L w) (hx : Ext L w L' w') : Out d L' w' base e v xs cells :=
  ⟨h.1.below hx.below, h.2.1.mono (Ext.sub hok hx), fun g hg j hl => by
    rw [hx.live g (h.1.lt g hg).2] at hl
    exact h.2.2 g hg j hl⟩
theorem Out.lower {cells : List Value} {base' : Nat} (h : Out d L w base e v xs cells) (hb : base' ≤ base) : Out d L w base' e v xs cells := ⟨h.1.lower hb, h.2⟩
theorem Out.form {cells : List Value} (h : Out d L w base e v xs cells) : ∃ A c, v = .slice A xs.length c ∧ xs.length ≤ c ∧ c ≤ 9223372036854775807 := h.1.form

/-- What only touches a row of which nothing lives. -/
theorem grown_sub {row : Option Nat} (hg : w.grownBy w' row) (hok : LOk L w) (h0 : ∀ g, row = some g → ∀ j, ¬ L g j) : Sub L w L w' := fun b j hb =>
  ⟨hb, fun u hu => by
    have hlt := hok b j hb
    have := hg.block b hlt (fun e => h0 b e.symm j hb)
    exact (World.cell?_of_block (w := w) (a := ⟨b, j, none⟩) this).trans hu⟩
theorem grown_ok {row : Option Nat} (hg : w.grownBy w' row) (hok : LOk L w) : LOk L w' := fun b j hb => Nat.lt_of_lt_of_le (hok b j hb) hg.size
theorem grown_ext {row : Option Nat} (hx : Ext L0 w0 L w) (hg : w.grownBy w' row) (hb : ∀ k, row = some k → w0.heap.size ≤ k) : Ext L0 w0 L w' :=
  ⟨hx.below.grown hg hx.below.size hb, hx.live, grown_ok hg hx.ok⟩

/-- One more, as append leaves it. -/
theorem Out.snoc {cells new : List Value} {y : α} {w1 w2 : World} {v2 : Value} (h : Out d L w base e v xs cells) (hok : LOk L w) (hb1 : Below w.heap.size w w1) (hB : Blk w2 base e d.sz v2 (xs.length + 1) (cells ++ new))
    (hg : w1.grownBy w2 v.ownBlock) (hrow : v2.ownBlock = v.ownBlock ∨ v2.ownBlock = some w1.heap.size) (hy : d.R L w y new) : Out d L w2 base e v2 (xs ++ [y]) (cells ++ new) := by
  have hs1 : Sub L w L w1 := fun b j hb => ⟨hb, fun u hu => (hb1.cell (World.block_lt_of_cell? w _ hu)).trans hu⟩
  have hok1 : LOk L w1 := fun b j hb => Nat.lt_of_lt_of_le (hok b j hb) hb1.size
  have hs := hs1.trans (grown_sub hg hok1 h.2.2)
  refine ⟨by rw [List.length_append]; exact hB, (h.2.1.append (.single hy)).mono hs, fun g hg2 j hl => ?_⟩
  rcases hrow with hr | hr
  · rw [hr] at hg2; exact h.2.2 g hg2 j hl
  · rw [hr] at hg2
    injection hg2 with hg2
    have := hok g j hl
    have := hb1.size
    omega

/-- Several more, as append leaves them. -/
theorem Out.app {cells new : List Value} {ys : List α} {w1 w2 : World} {v2 : Value} (h : Out d L w base e v xs cells) (hok : LOk L w) (hb1 : Below w.heap.size w w1) (hB : Blk w2 base e d.sz v2 (xs.length + ys.length) (cells ++ new))
    (hg : w1.grownBy w2 v.ownBlock) (hrow : v2.ownBlock = v.ownBlock ∨ v2.ownBlock = some w1.heap.size) (hy : Reps d L w ys new) : Out d L w2 base e v2 (xs ++ ys) (cells ++ new) := by
  have hs1 : Sub L w L w1 := fun b j hb => ⟨hb, fun u hu => (hb1.cell (World.block_lt_of_cell? w _ hu)).trans hu⟩
  have hok1 : LOk L w1 := fun b j hb => Nat.lt_of_lt_of_le (hok b j hb) hb1.size
  have hs := hs1.trans (grown_sub hg hok1 h.2.2)
  refine ⟨by rw [List.length_append]; exact hB, (h.2.1.append hy).mono hs, fun g hg2 j hl => ?_⟩
  rcases hrow with hr | hr
  · rw [hr] at hg2; exact h.2.2 g hg2 j hl
  · rw [hr] at hg2
    injection hg2 with hg2
    have := hok g j hl
    have := hb1.size
    omega
theorem Blk.src {size n : Nat} {cells : List Value} (h : Blk w base e size v n cells) : Src w v n size cells := by
  refine ⟨h.1, ?_⟩
  rcases h.2 with h0 | ⟨g, cap, cur, fr, rfl, hg, hh, hf, h1, h2, h3, h4⟩
  · exact .inl h0
  · refine .inr ⟨_, cap, rfl, fun j u hu => ?_⟩
    have hj := (List.getElem?_eq_some_iff.1 hu).1
    rw [addr_add, Nat.zero_add, cell_block hh, ← hu, ← h4, List.getElem?_take_of_lt (by rw [← h.1]; exact hj)]; simp

/-- It is made known. -/
theorem Out.publish {cells : List Value} (h : Out d L w base e v xs cells) (hok : LOk L w) (hn : xs.length ≤ big) : ∃ L', SliceR d L' w xs v ∧ Sub L w L' w ∧ LOk L' w ∧ ∀ b, some b ≠ v.ownBlock → L' b = L b := by
  obtain ⟨L', h1, h2, h3, h4, h5⟩ := h.1.publish hok h.2.1 rfl hn (fun g hg j => h.2.2 g hg j)
  exact ⟨L', h1, h3, h4, h5⟩
theorem Out.publish_ext {cells : List Value} (h : Out d L w base e v xs cells) (hx : Ext L0 w0 L w) (hb : w0.heap.size ≤ base) (hn : xs.length ≤ big) : ∃ L', SliceR d L' w xs v ∧ Sub L w L' w ∧ Ext L0 w0 L' w ∧ ∀ b, some b ≠ v.ownBlock → L' b = L b := by
  obtain ⟨L', h1, h2, h3, h4⟩ := h.publish hx.ok hn
  exact ⟨L', h1, h2, ⟨hx.below, fun b hlt => by rw [h4 b (fun e' => by have := (h.1.lt b e'.symm).1; omega)]; exact hx.live b hlt, h3⟩, h4⟩

/-- What a call has made is made known. -/
theorem Blk.known {cells : List Value} {n : Nat} (h : Blk w' w.heap.size e d.sz v n cells) (hb : Below w.heap.size w w') (hok : LOk L w) (hr : Reps d L w' xs cells) (hn : xs.length = n) (hm : n ≤ big) : ∃ L', SliceR d L' w' xs v ∧ Ext L w L' w' := by
  subst hn
  have ho : Out d L w' w.heap.size e v xs cells := ⟨h, hr, fun g hg j hl => by have := (h.lt g hg).1; have := hok g j hl; omega⟩
  obtain ⟨L', h1, _, h3, _⟩ := ho.publish_ext (Ext.of_below hok hb) (Nat.le_refl _) hm
  exact ⟨L', h1, h3⟩
/-- A store where nothing lives. -/
theorem sub_set {g o : Nat} {u : Value} (h : ∀ j, ¬ L g j) : Sub L w L (w.setCell ⟨g, o, none⟩ u) := fun b j hb => ⟨hb, fun _ hu => by
  have hne : b ≠ g := fun e => h j (by rw [← e]; exact hb)
  have := Below.heap_setCell w ⟨g, o, none⟩ u b hne
  exact (World.cell?_of_block (w := w) (a := ⟨b, j, none⟩) this).trans hu⟩
theorem Ext.subB (hok : LOk L w) (h : Ext L w L' w') : Sub L w L' w' := Ext.sub hok h
theorem Ext.not_live {g : Nat} (h : Ext L w L' w') (hg : g < w.heap.size) (h0 : ∀ j, ¬ L g j) : ∀ j, ¬ L' g j := fun j hl => h0 j (by rw [← h.live g hg]; exact hl)
theorem not_live {g : Nat} (hok : LOk L w) (hg : w.heap.size ≤ g) : ∀ j, ¬ L g j := fun j hl => by have := hok g j hl; omega
end Go.Proofs.Ytojcciciinklbaa

/- A row of cells that is kept in memory: reads, stores. No claim by itself. -/
set_option linter.unusedVariables false
namespace Go.Proofs.Ytojcciciinklbaa
open Go.RowKit

/-- A row of cells, none of them frozen. -/
def RowAt (w : World) (g t : Nat) (cells : List Value) : Prop := w.heap[g]? = some (.cells cells.toArray t (0, 0))
theorem RowAt.lt {w : World} {g t : Nat} {cells : List Value} (h : RowAt w g t cells) : g < w.heap.size := (Array.getElem?_eq_some_iff.1 h).1
theorem RowAt.cell {w : World} {g t : Nat} {cells : List Value} (h : RowAt w g t cells) (j : Nat) : w.cell? ⟨g, j, none⟩ = cells[j]? := by
  rw [cell_block h]; simp
theorem RowAt.free {w : World} {g t : Nat} {cells : List Value} (h : RowAt w g t cells) (j : Nat) : w.frozen? ⟨g, j, none⟩ = false := by
  simp [World.frozen?, show w.heap[g]? = _ from h]
theorem RowAt.set {w : World} {g t : Nat} {cells : List Value} (h : RowAt w g t cells) (j : Nat) (u : Value) : RowAt (w.setCell ⟨g, j, none⟩ u) g t (cells.set j u) := by
  unfold RowAt at h ⊢
  simp [World.setCell, Array.getElem?_modify, h, List.setIfInBounds_toArray]
theorem RowAt.other {w : World} {g t : Nat} {cells : List Value} (h : RowAt w g t cells) {p : Addr} (hp : g ≠ p.block) (u : Value) : RowAt (w.setCell p u) g t cells := by
  unfold RowAt at h ⊢
  rw [Below.heap_setCell w p u g hp]; exact h
theorem RowAt.below {w w' : World} {g t : Nat} {cells : List Value} (h : RowAt w g t cells) {B : Nat} (hb : Below B w w') (hg : g < B) : RowAt w' g t cells := (hb.block g hg).trans h
theorem RowAt.keep {w w' : World} {g t : Nat} {cells : List Value} (h : RowAt w g t cells) (hb : Below w.heap.size w w') : RowAt w' g t cells := h.below hb h.lt
theorem RowAt.drew {w : World} {g t : Nat} {cells : List Value} (h : RowAt w g t cells) : RowAt w.drew g t cells := h
theorem RowAt.drewN {w : World} {g t : Nat} {cells : List Value} (h : RowAt w g t cells) (n : Nat) : RowAt (w.drewN n) g t cells := h
theorem RowAt.alloc {w : World} {g t : Nat} {cells : List Value} (h : RowAt w g t cells) (o : Obj) : RowAt (w.alloc o) g t cells := (Below.heap_alloc w o g h.lt).trans h
theorem RowAt.new (w : World) (t : Nat) (cells : List Value) : RowAt (w.alloc (.cells cells.toArray t)) w.heap.size t cells := heap_alloc_new w _
theorem map_set' {α : Type} (f : α → Value) (xs : List α) (j : Nat) (x : α) : (xs.map f).set j (f x) = (xs.set j x).map f := by simp [List.map_set]
theorem map_getD {α : Type} (f : α → Value) (xs : List α) (j : Nat) (d : α) (h : j < xs.length) : (xs.map f)[j]? = some (f (xs.getD j d)) := by
  rw [List.getElem?_map, List.getElem?_eq_getElem h, List.getD, List.getElem?_eq_getElem h]; rfl
/-- make, of a length that is known. -/
theorem make_run {P : Program} (t e : TypeId) (z : Value) (size bytes n : Nat) (cells : Array Value) (ht : P.underlying t = some (.slice e)) (hinfo : (P.info? e).map (fun i => (i.zero, i.size, i.bytes)) = some (some z, size, bytes)) (hb : bytes * n ≤ 1000000) (hn : n ≤ 1000000) (hc : madeCells z.cells (n * size) = cells) (w : World) :
    (Instr.makeSlice t (.int .i64 n) (.int .i64 n)).run P w = .ok (.slice (some ⟨w.heap.size, 0, none⟩) n n) (w.alloc (.cells cells e)) := by
  obtain ⟨i, hi, hzz⟩ := Option.map_eq_some_iff.1 hinfo
  simp only [Prod.mk.injEq] at hzz
  obtain ⟨hz0, rfl, rfl⟩ := hzz
  have h1 : ((i.bytes : Int) * (n : Int)) ≤ 281474976710656 := by
    have : ((i.bytes * n : Nat) : Int) ≤ 1000000 := by omega
    rw [Int.natCast_mul] at this; omega
  have := run_make w t e i z ht hi hz0 .i64 .i64 n n (by omega) (Int.le_refl _) h1 (by omega)
  rw [Int.toNat_natCast, hc] at this
  exact this
theorem Try.infoInt : (Try.prog.info? 3).map (fun i => (i.zero, i.size, i.bytes)) = some (some (.int .i64 0), 1, 8) := by kernel_rfl
theorem Try.infoStr : (Try.prog.info? 9).map (fun i => (i.zero, i.size, i.bytes)) = some (some (.string ⟨#[]⟩), 1, 16) := by kernel_rfl
end Go.Proofs.Ytojcciciinklbaa

/- A list that is being made, of which one is changed in its place. No claim by itself. -/
set_option linter.unusedVariables false
namespace Go.Proofs.Ytojcciciinklbaa
open Go.RowKit

/-- Cells, with some of them other ones. -/
def putL (cells : List Value) (o : Nat) : List Value → List Value
  | [] => cells
  | u :: r => putL (cells.set o u) (o + 1) r
theorem putL_eq : ∀ (vs cells : List Value) (o : Nat), o + vs.length ≤ cells.length → putL cells o vs = cells.take o ++ vs ++ cells.drop (o + vs.length)
  | [], cells, o, _ => by simp [putL]
  | u :: r, cells, o, h => by
    simp only [List.length_cons] at h
    rw [putL, putL_eq r (cells.set o u) (o + 1) (by simp; omega)]
    have h1 : (cells.set o u).take (o + 1) = cells.take o ++ [u] := by
      rw [List.take_succ_eq_append_getElem (by simp; omega), List.take_set, List.set_eq_of_length_le (by rw [List.length_take]; omega)]
      simp
    have h2 : (cells.set o u).drop (o + 1 + r.length) = cells.drop (o + (u :: r).length) := by
      rw [List.drop_set, if_pos (by omega), List.length_cons, show o + 1 + r.length = o + (r.length + 1) from by omega]
    rw [h1, h2]; simp
theorem Blk.stores {base e size n : Nat} {v : Value} : ∀ (vs : List Value) (o : Nat) (w : World) (cells : List Value), Blk w base e size v n cells → 0 < n → ∀ g, v.ownBlock = some g → Blk (w.setCells g o vs) base e size v n (putL cells o vs)
  | [], _, _, _, h, _, _, _ => h
  | u :: r, o, w, cells, h, hn, g, hg => by
    obtain ⟨g', hg', h1⟩ := h.store o u hn
    rw [hg] at hg'
    injection hg' with hg'
    subst hg'
    exact Blk.stores r (o + 1) _ _ h1 hn g hg
/-- Cells that are one thing's, in the cells of a list: with them other ones, of another thing. -/
theorem Reps.put {α : Type} {d : Rp α} {L : Live} {w : World} {xs : List α} {cells new : List Value} {y : α} {k : Nat} (h : Reps d L w xs cells) (hk : k < xs.length) (hy : d.R L w y new) : Reps d L w (xs.set k y) (cells.take (k * d.sz) ++ new ++ cells.drop ((k + 1) * d.sz)) := by
  have e : xs.set k y = xs.take k ++ [y] ++ xs.drop (k + 1) := by
    rw [List.set_eq_take_append_cons_drop, if_pos hk]; simp
  rw [e]
  exact ((h.take k).append (.single hy)).append (h.drop (k + 1))
theorem Sub.setCells {L : Live} {g : Nat} : ∀ (vs : List Value) (o : Nat) (w : World), (∀ j, ¬ L g j) → Sub L w L (w.setCells g o vs)
  | [], _, w, _ => Sub.refl L w
  | u :: r, o, w, h => (sub_set (o := o) (u := u) h).trans (Sub.setCells r (o + 1) _ h)
/-- One of the list is another one. -/
theorem Out.put {α : Type} {d : Rp α} {L : Live} {w : World} {base e : Nat} {v : Value} {xs : List α} {cells new : List Value} {y : α} {k o : Nat} {vs : List Value} (h : Out d L w base e v xs cells) (hk : k < xs.length) {g : Nat} (hg : v.ownBlock = some g)
    (hy : d.R L w y new) (hp : putL cells o vs = cells.take (k * d.sz) ++ new ++ cells.drop ((k + 1) * d.sz)) : Out d L (w.setCells g o vs) base e v (xs.set k y) (putL cells o vs) := by
  refine ⟨by rw [List.length_set]; exact h.1.stores vs o w cells (by omega) g hg, ?_, h.2.2⟩
  rw [hp]
  exact (h.2.1.put hk hy).mono (Sub.setCells vs o w (h.2.2 g hg))
theorem Ext.setCells {L L' : Live} {g : Nat} : ∀ (vs : List Value) (o : Nat) {w w' : World}, Ext L w L' w' → w.heap.size ≤ g → Ext L w L' (w'.setCells g o vs)
  | [], _, _, _, h, _ => h
  | u :: r, o, _, _, h, hg => Ext.setCells r (o + 1) (h.setCell (p := ⟨g, o, none⟩) hg u) hg
end Go.Proofs.Ytojcciciinklbaa
