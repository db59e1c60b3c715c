/- A list that is being made, in a row of its own, of which nothing lives yet. No claim by itself. -/
import Derived.Test.YtojcciciinklbaaBase
set_option linter.unusedVariables false
namespace Go.Proofs.Ytojcciciinklbaa
open Go.RowKit

variable {α : Type} {d : Rp α} {L L' L0 : Live} {w w' w0 : World} {base e : Nat} {v v' : Value} {xs : List α}

/-- No cell of a value's own row lives. -/
def Own0 (L : Live) (v : Value) : Prop := ∀ g, v.ownBlock = some g → ∀ j, ¬ L g j

/-- What is being made. -/
def Out (d : Rp α) (L : Live) (w : World) (base e : Nat) (v : Value) (xs : List α) (cells : List Value) : Prop :=
  Blk w base e d.sz v xs.length cells ∧ Reps d L w xs cells ∧ Own0 L v

theorem Out.nil (d : Rp α) (L : Live) (w : World) (base e : Nat) : Out d L w base e (.slice none 0 0) [] [] :=
  ⟨Blk.nil w base e d.sz, .nil, fun g hg => by simp [Value.ownBlock] at hg⟩
theorem Out.ext {cells : List Value} (h : Out d L w base e v xs cells) (hok : LOk L w) (hx : Ext L w L' w') : Out d L' w' base e v xs cells :=
  ⟨h.1.below hx.below, h.2.1.mono (Ext.sub hok hx), fun g hg j hl => by
    rw [hx.live g (h.1.lt g hg).2] at hl
    exact h.2.2 g hg j hl⟩
theorem Out.lower {cells : List Value} {base' : Nat} (h : Out d L w base e v xs cells) (hb : base' ≤ base) : Out d L w base' e v xs cells := ⟨h.1.lower hb, h.2⟩
theorem Out.form {cells : List Value} (h : Out d L w base e v xs cells) : ∃ A c, v = .slice A xs.length c ∧ xs.length ≤ c ∧ c ≤ 9223372036854775807 := h.1.form

/-- What only touches a row of which nothing lives. -/
theorem grown_sub {row : Option Nat} (hg : w.grownBy w' row) (hok : LOk L w) (h0 : ∀ g, row = some g → ∀ j, ¬ L g j) : Sub L w L w' := fun b j hb =>
  ⟨hb, fun u hu => by
    have hlt := hok b j hb
    have := hg.block b hlt (fun e => h0 b e.symm j hb)
    exact (World.cell?_of_block (w := w) (a := ⟨b, j, none⟩) this).trans hu⟩
theorem grown_ok {row : Option Nat} (hg : w.grownBy w' row) (hok : LOk L w) : LOk L w' := fun b j hb => Nat.lt_of_lt_of_le (hok b j hb) hg.size
theorem grown_ext {row : Option Nat} (hx : Ext L0 w0 L w) (hg : w.grownBy w' row) (hb : ∀ k, row = some k → w0.heap.size ≤ k) : Ext L0 w0 L w' :=
  ⟨hx.below.grown hg hx.below.size hb, hx.live, grown_ok hg hx.ok⟩

/-- One more, as append leaves it. -/
theorem Out.snoc {cells new : List Value} {y : α} {w1 w2 : World} {v2 : Value} (h : Out d L w base e v xs cells) (hok : LOk L w) (hb1 : Below w.heap.size w w1) (hB : Blk w2 base e d.sz v2 (xs.length + 1) (cells ++ new))
    (hg : w1.grownBy w2 v.ownBlock) (hrow : v2.ownBlock = v.ownBlock ∨ v2.ownBlock = some w1.heap.size) (hy : d.R L w y new) : Out d L w2 base e v2 (xs ++ [y]) (cells ++ new) := by
  have hs1 : Sub L w L w1 := fun b j hb => ⟨hb, fun u hu => (hb1.cell (World.block_lt_of_cell? w _ hu)).trans hu⟩
  have hok1 : LOk L w1 := fun b j hb => Nat.lt_of_lt_of_le (hok b j hb) hb1.size
  have hs := hs1.trans (grown_sub hg hok1 h.2.2)
  refine ⟨by rw [List.length_append]; exact hB, (h.2.1.append (.single hy)).mono hs, fun g hg2 j hl => ?_⟩
  rcases hrow with hr | hr
  · rw [hr] at hg2; exact h.2.2 g hg2 j hl
  · rw [hr] at hg2
    injection hg2 with hg2
    have := hok g j hl
    have := hb1.size
    omega

/-- Several more, as append leaves them. -/
theorem Out.app {cells new : List Value} {ys : List α} {w1 w2 : World} {v2 : Value} (h : Out d L w base e v xs cells) (hok : LOk L w) (hb1 : Below w.heap.size w w1) (hB : Blk w2 base e d.sz v2 (xs.length + ys.length) (cells ++ new))
    (hg : w1.grownBy w2 v.ownBlock) (hrow : v2.ownBlock = v.ownBlock ∨ v2.ownBlock = some w1.heap.size) (hy : Reps d L w ys new) : Out d L w2 base e v2 (xs ++ ys) (cells ++ new) := by
  have hs1 : Sub L w L w1 := fun b j hb => ⟨hb, fun u hu => (hb1.cell (World.block_lt_of_cell? w _ hu)).trans hu⟩
  have hok1 : LOk L w1 := fun b j hb => Nat.lt_of_lt_of_le (hok b j hb) hb1.size
  have hs := hs1.trans (grown_sub hg hok1 h.2.2)
  refine ⟨by rw [List.length_append]; exact hB, (h.2.1.append hy).mono hs, fun g hg2 j hl => ?_⟩
  rcases hrow with hr | hr
  · rw [hr] at hg2; exact h.2.2 g hg2 j hl
  · rw [hr] at hg2
    injection hg2 with hg2
    have := hok g j hl
    have := hb1.size
    omega
theorem Blk.src {size n : Nat} {cells : List Value} (h : Blk w base e size v n cells) : Src w v n size cells := by
  refine ⟨h.1, ?_⟩
  rcases h.2 with h0 | ⟨g, cap, cur, fr, rfl, hg, hh, hf, h1, h2, h3, h4⟩
  · exact .inl h0
  · refine .inr ⟨_, cap, rfl, fun j u hu => ?_⟩
    have hj := (List.getElem?_eq_some_iff.1 hu).1
    rw [addr_add, Nat.zero_add, cell_block hh, ← hu, ← h4, List.getElem?_take_of_lt (by rw [← h.1]; exact hj)]; simp

/-- It is made known. -/
theorem Out.publish {cells : List Value} (h : Out d L w base e v xs cells) (hok : LOk L w) (hn : xs.length ≤ big) : ∃ L', SliceR d L' w xs v ∧ Sub L w L' w ∧ LOk L' w ∧ ∀ b, some b ≠ v.ownBlock → L' b = L b := by
  obtain ⟨L', h1, h2, h3, h4, h5⟩ := h.1.publish hok h.2.1 rfl hn (fun g hg j => h.2.2 g hg j)
  exact ⟨L', h1, h3, h4, h5⟩
theorem Out.publish_ext {cells : List Value} (h : Out d L w base e v xs cells) (hx : Ext L0 w0 L w) (hb : w0.heap.size ≤ base) (hn : xs.length ≤ big) : ∃ L', SliceR d L' w xs v ∧ Sub L w L' w ∧ Ext L0 w0 L' w ∧ ∀ b, some b ≠ v.ownBlock → L' b = L b := by
  obtain ⟨L', h1, h2, h3, h4⟩ := h.publish hx.ok hn
  exact ⟨L', h1, h2, ⟨hx.below, fun b hlt => by rw [h4 b (fun e' => by have := (h.1.lt b e'.symm).1; omega)]; exact hx.live b hlt, h3⟩, h4⟩

/-- What a call has made is made known. -/
theorem Blk.known {cells : List Value} {n : Nat} (h : Blk w' w.heap.size e d.sz v n cells) (hb : Below w.heap.size w w') (hok : LOk L w) (hr : Reps d L w' xs cells) (hn : xs.length = n) (hm : n ≤ big) : ∃ L', SliceR d L' w' xs v ∧ Ext L w L' w' := by
  subst hn
  have ho : Out d L w' w.heap.size e v xs cells := ⟨h, hr, fun g hg j hl => by have := (h.lt g hg).1; have := hok g j hl; omega⟩
  obtain ⟨L', h1, _, h3, _⟩ := ho.publish_ext (Ext.of_below hok hb) (Nat.le_refl _) hm
  exact ⟨L', h1, h3⟩
/-- A store where nothing lives. -/
theorem sub_set {g o : Nat} {u : Value} (h : ∀ j, ¬ L g j) : Sub L w L (w.setCell ⟨g, o, none⟩ u) := fun b j hb => ⟨hb, fun _ hu => by
  have hne : b ≠ g := fun e => h j (by rw [← e]; exact hb)
  have := Below.heap_setCell w ⟨g, o, none⟩ u b hne
  exact (World.cell?_of_block (w := w) (a := ⟨b, j, none⟩) this).trans hu⟩
theorem Ext.subB (hok : LOk L w) (h : Ext L w L' w') : Sub L w L' w' := Ext.sub hok h
theorem Ext.not_live {g : Nat} (h : Ext L w L' w') (hg : g < w.heap.size) (h0 : ∀ j, ¬ L g j) : ∀ j, ¬ L' g j := fun j hl => h0 j (by rw [← h.live g hg]; exact hl)
theorem not_live {g : Nat} (hok : LOk L w) (hg : w.heap.size ≤ g) : ∀ j, ¬ L g j := fun j hl => by have := hok g j hl; omega
end Go.Proofs.Ytojcciciinklbaa
