/- What is read: lists and records in memory, kept by whatever leaves the live cells alone; append as one law. No claim by itself. -/
import Derived.Test.YtojcciciinklbaaProg
import Derived.Below
import Derived.Deep.Draws
import Derived.Deep.AppendLies
import Derived.Maps.AppendAt
import Derived.OwnWalk
import Derived.Laws.BytesArg
import Derived.Laws.MakeOwn
import Derived.Laws.OwnMore
import Derived.Tactics
import Derived.Lib.ConvBytes
import Derived.Laws.Slices
import Derived.WalkKit
import Derived.KernelRfl
import Derived.RowKit3
import Derived.WideLaws
import Derived.ArgAppend
import Derived.Laws.IdiomCopy
namespace Go.Proofs.Ytojcciciinklbaa
open Go.RowKit

/-- The cells that hold for good: which of a block. -/
abbrev Live := Nat → Nat → Prop

/-- Live cells lie in blocks that are there. -/
def LOk (L : Live) (w : World) : Prop := ∀ b i, L b i → b < w.heap.size

/-- What was live is live, and reads as it did. -/
def Sub (L : Live) (w : World) (L' : Live) (w' : World) : Prop := ∀ b i, L b i → L' b i ∧ ∀ u, w.cell? ⟨b, i, none⟩ = some u → w'.cell? ⟨b, i, none⟩ = some u

theorem Sub.refl (L : Live) (w : World) : Sub L w L w := fun _ _ h => ⟨h, fun _ h => h⟩
theorem Sub.trans {L L1 L2 : Live} {w w1 w2 : World} (h : Sub L w L1 w1) (k : Sub L1 w1 L2 w2) : Sub L w L2 w2 := fun b i hb => ⟨(k b i (h b i hb).1).1, fun u hu => (k b i (h b i hb).1).2 u ((h b i hb).2 u hu)⟩

/-- From the start of a call on: old memory is as it was, and lives as it did. -/
structure Ext (L : Live) (w : World) (L' : Live) (w' : World) : Prop where
  below : Below w.heap.size w w'
  live : ∀ b, b < w.heap.size → L' b = L b
  ok : LOk L' w'

theorem Ext.refl {L : Live} {w : World} (h : LOk L w) : Ext L w L w := ⟨Below.refl _ _, fun _ _ => rfl, h⟩
theorem Ext.trans {L L1 L2 : Live} {w w1 w2 : World} (h : Ext L w L1 w1) (k : Ext L1 w1 L2 w2) : Ext L w L2 w2 :=
  ⟨h.below.trans (k.below.mono h.below.size), fun b hb => (k.live b (Nat.lt_of_lt_of_le hb h.below.size)).trans (h.live b hb), k.ok⟩
theorem Ext.sub {L L' : Live} {w w' : World} (hl : LOk L w) (h : Ext L w L' w') : Sub L w L' w' := fun b i hb => by
  have hlt := hl b i hb
  exact ⟨by rw [h.live b hlt]; exact hb, fun u hu => (h.below.cell (p := ⟨b, i, none⟩) hlt).trans hu⟩
theorem Ext.of_below {L : Live} {w w' : World} (hl : LOk L w) (h : Below w.heap.size w w') : Ext L w L w' := ⟨h, fun _ _ => rfl, fun b i hb => Nat.lt_of_lt_of_le (hl b i hb) h.size⟩
theorem Ext.alloc {L L' : Live} {w w' : World} (h : Ext L w L' w') (o : Obj) : Ext L w L' (w'.alloc o) :=
  ⟨h.below.alloc h.below.size o, h.live, fun b i hb => by have := h.ok b i hb; simp; omega⟩
theorem Ext.drew {L L' : Live} {w w' : World} (h : Ext L w L' w') : Ext L w L' w'.drew := ⟨h.below.drew, h.live, h.ok⟩
theorem Ext.drewN {L L' : Live} {w w' : World} (h : Ext L w L' w') (n : Nat) : Ext L w L' (w'.drewN n) := ⟨⟨h.below.os, h.below.tape, h.below.output, h.below.size, h.below.block⟩, h.live, h.ok⟩
theorem Ext.setCell {L L' : Live} {w w' : World} (h : Ext L w L' w') {p : Addr} (hp : w.heap.size ≤ p.block) (u : Value) : Ext L w L' (w'.setCell p u) :=
  ⟨h.below.setCell hp u, h.live, fun b i hb => by have := h.ok b i hb; simpa [World.setCell] using this⟩

theorem Sub.alloc {L L' : Live} {w w' : World} (h : Sub L w L' w') (hl : LOk L' w') (o : Obj) : Sub L w L' (w'.alloc o) := h.trans fun b i hb =>
  ⟨hb, fun _ hu => ((Below.refl w'.heap.size w').alloc (Nat.le_refl _) o |>.cell (p := ⟨b, i, none⟩) (hl b i hb)).trans hu⟩
theorem Sub.drew {L L' : Live} {w w' : World} (h : Sub L w L' w') : Sub L w L' w'.drew := h.trans fun _ _ hb => ⟨hb, fun _ hu => hu⟩
theorem Sub.drewN {L L' : Live} {w w' : World} (h : Sub L w L' w') (n : Nat) : Sub L w L' (w'.drewN n) := h.trans fun _ _ hb => ⟨hb, fun _ hu => hu⟩
theorem LOk.alloc {L : Live} {w : World} (h : LOk L w) (o : Obj) : LOk L (w.alloc o) := fun b i hb => by have := h b i hb; simp; omega
theorem LOk.drew {L : Live} {w : World} (h : LOk L w) : LOk L w.drew := h
theorem LOk.drewN {L : Live} {w : World} (h : LOk L w) (n : Nat) : LOk L (w.drewN n) := h

/-- How a value of a kind lies in cells. -/
structure Rp (α : Type) where
  sz : Nat
  R : Live → World → α → List Value → Prop
  len : ∀ {L w x cs}, R L w x cs → cs.length = sz
  mono : ∀ {L w L' w' x cs}, Sub L w L' w' → R L w x cs → R L' w' x cs
  one : ∀ {L w x cs}, R L w x cs → ∀ u ∈ cs, u.oneCell' = true

/-- Elements one behind the other. -/
inductive Reps {α : Type} (d : Rp α) (L : Live) (w : World) : List α → List Value → Prop
  | nil : Reps d L w [] []
  | cons {x : α} {cs : List Value} {xs : List α} {r : List Value} (h : d.R L w x cs) (t : Reps d L w xs r) : Reps d L w (x :: xs) (cs ++ r)

variable {α : Type} {d : Rp α} {L L' : Live} {w w' : World}

theorem Reps.length {xs : List α} {cells : List Value} (h : Reps d L w xs cells) : cells.length = xs.length * d.sz := by
  induction h with
  | nil => simp
  | cons h t ih => rw [List.length_append, d.len h, ih, List.length_cons, Nat.add_mul, Nat.one_mul]; omega
theorem Reps.mono (hs : Sub L w L' w') {xs : List α} {cells : List Value} (h : Reps d L w xs cells) : Reps d L' w' xs cells := by
  induction h with
  | nil => exact .nil
  | cons h t ih => exact .cons (d.mono hs h) ih
theorem Reps.one {xs : List α} {cells : List Value} (h : Reps d L w xs cells) : ∀ u ∈ cells, u.oneCell' = true := by
  induction h with
  | nil => simp
  | cons h t ih => intro u hu; rcases List.mem_append.1 hu with hu | hu; exact d.one h u hu; exact ih u hu
theorem Reps.append {xs ys : List α} {cx cy : List Value} (h : Reps d L w xs cx) (k : Reps d L w ys cy) : Reps d L w (xs ++ ys) (cx ++ cy) := by
  induction h with
  | nil => exact k
  | cons h t ih => rw [List.append_assoc]; exact .cons h ih
theorem Reps.single {x : α} {cs : List Value} (h : d.R L w x cs) : Reps d L w [x] cs := by simpa using Reps.cons h Reps.nil
theorem Reps.get {xs : List α} {cells : List Value} (h : Reps d L w xs cells) : ∀ (i : Nat) (hi : i < xs.length), ∃ cs, d.R L w xs[i] cs ∧ ∀ j u, cs[j]? = some u → cells[i * d.sz + j]? = some u := by
  induction h with
  | nil => intro i hi; simp at hi
  | @cons x cs xs r h t ih =>
    intro i hi
    cases i with
    | zero =>
      refine ⟨cs, h, fun j u hu => ?_⟩
      have hj := (List.getElem?_eq_some_iff.1 hu).1
      rw [Nat.zero_mul, Nat.zero_add, List.getElem?_append_left hj]; exact hu
    | succ i =>
      obtain ⟨c, hc, hg⟩ := ih i (by simpa using hi)
      refine ⟨c, hc, fun j u hu => ?_⟩
      have hl := d.len h
      rw [List.getElem?_append_right (by rw [hl, Nat.add_mul]; omega), hl, show (i + 1) * d.sz + j - d.sz = i * d.sz + j from by rw [Nat.add_mul]; omega]
      exact hg j u hu
theorem Reps.take {xs : List α} {cells : List Value} (h : Reps d L w xs cells) : ∀ k : Nat, Reps d L w (xs.take k) (cells.take (k * d.sz)) := by
  induction h with
  | nil => intro k; simp; exact .nil
  | @cons x cs xs r h t ih =>
    intro k
    cases k with
    | zero => simp; exact .nil
    | succ k =>
      have hl := d.len h
      rw [List.take_succ_cons, List.take_append, hl, show (k + 1) * d.sz - d.sz = k * d.sz from by rw [Nat.add_mul]; omega, List.take_of_length_le (l := cs) (by rw [hl, Nat.add_mul]; omega)]
      exact .cons h (ih k)
theorem Reps.drop {xs : List α} {cells : List Value} (h : Reps d L w xs cells) : ∀ k : Nat, Reps d L w (xs.drop k) (cells.drop (k * d.sz)) := by
  induction h with
  | nil => intro k; simp; exact .nil
  | @cons x cs xs r h t ih =>
    intro k
    cases k with
    | zero => simp; exact .cons h t
    | succ k =>
      have hl := d.len h
      rw [List.drop_succ_cons, List.drop_append, hl, show (k + 1) * d.sz - d.sz = k * d.sz from by rw [Nat.add_mul]; omega, show cs.drop ((k + 1) * d.sz) = [] from List.drop_eq_nil_of_le (by rw [hl, Nat.add_mul]; omega), List.nil_append]
      exact ih k

theorem addr_add (b off j : Nat) : (⟨b, off, none⟩ : Addr).add j = ⟨b, off + j, none⟩ := by unfold Addr.add; split <;> simp_all

/-- The largest length that is spoken of. -/
def big : Nat := 9223372036854775807
/-- The largest number of bytes that is made. -/
def room : Nat := 140737488355328

/-- A list, as the cell that holds its slice. -/
def SliceR (d : Rp α) (L : Live) (w : World) (xs : List α) (v : Value) : Prop :=
  ∃ (A : Option Addr) (c : Nat) (cells : List Value), v = .slice A xs.length c ∧ xs.length ≤ c ∧ xs.length ≤ big ∧ c ≤ maxLen ∧ Reps d L w xs cells ∧ (A = none → c = 0) ∧
    (cells ≠ [] → ∃ b off, A = some ⟨b, off, none⟩ ∧ ∀ j u, cells[j]? = some u → w.cell? ⟨b, off + j, none⟩ = some u ∧ L b (off + j))

theorem SliceR.mono (hs : Sub L w L' w') {xs : List α} {v : Value} (h : SliceR d L w xs v) : SliceR d L' w' xs v := by
  obtain ⟨A, c, cells, rfl, h1, h2, h2', h3, h4, h5⟩ := h
  refine ⟨A, c, cells, rfl, h1, h2, h2', h3.mono hs, h4, fun hne => ?_⟩
  obtain ⟨b, off, rfl, hc⟩ := h5 hne
  exact ⟨b, off, rfl, fun j u hu => ⟨(hs b _ (hc j u hu).2).2 u (hc j u hu).1, (hs b _ (hc j u hu).2).1⟩⟩

theorem SliceR.form {xs : List α} {v : Value} (h : SliceR d L w xs v) : ∃ A c, v = .slice A xs.length c ∧ xs.length ≤ c ∧ xs.length ≤ 9223372036854775807 ∧ c ≤ 9223372036854775807 := by
  obtain ⟨A, c, _, rfl, h1, h2, h3, _⟩ := h; exact ⟨A, c, rfl, h1, h2, h3⟩

theorem SliceR.nil (d : Rp α) (L : Live) (w : World) : SliceR d L w [] (.slice none 0 0) := ⟨none, 0, [], rfl, Nat.le_refl _, Nat.zero_le _, Nat.zero_le _, .nil, fun _ => rfl, fun h => absurd rfl h⟩

/-- The i-th element: where it lies, and how it reads. -/
theorem SliceR.get {xs : List α} {A : Option Addr} {n c : Nat} (h : SliceR d L w xs (.slice A n c)) (hd : 0 < d.sz) (i : Nat) (hi : i < xs.length) :
    ∃ b off cs, A = some ⟨b, off, none⟩ ∧ d.R L w xs[i] cs ∧ ∀ j u, cs[j]? = some u → w.cell? ⟨b, off + i * d.sz + j, none⟩ = some u ∧ L b (off + i * d.sz + j) := by
  obtain ⟨A', c', cells, he, h1, h2, h2', h3, h4, h5⟩ := h
  injection he with e1 e2 e3
  subst e1
  obtain ⟨cs, hcs, hg⟩ := h3.get i hi
  have hne : cells ≠ [] := by
    have hl := h3.length
    intro e; subst e
    have := Nat.mul_pos (show 0 < xs.length by omega) hd
    simp at hl; omega
  obtain ⟨b, off, rfl, hc⟩ := h5 hne
  refine ⟨b, off, cs, rfl, hcs, fun j u hu => ?_⟩
  have := hc _ _ (hg j u hu)
  rw [Nat.add_assoc]; exact this

theorem SliceR.take {xs : List α} {A : Option Addr} {n c : Nat} (h : SliceR d L w xs (.slice A n c)) (k : Nat) (hk : k ≤ xs.length) : SliceR d L w (xs.take k) (.slice A k c) := by
  obtain ⟨A', c', cells, he, h1, h2, h2', h3, h4, h5⟩ := h
  injection he with e1 e2 e3
  subst e1 e3
  have hl : (xs.take k).length = k := by rw [List.length_take]; omega
  refine ⟨A, c, cells.take (k * d.sz), by rw [hl], by omega, by omega, h2', h3.take k, h4, fun hne => ?_⟩
  obtain ⟨b, off, rfl, hc⟩ := h5 (fun e => hne (by rw [e]; simp))
  exact ⟨b, off, rfl, fun j u hu => hc j u (by
    have hj := (List.getElem?_eq_some_iff.1 hu).1
    rw [List.length_take] at hj
    rwa [List.getElem?_take_of_lt (by omega)] at hu)⟩
theorem SliceR.drop {xs : List α} {A : Option Addr} {n c : Nat} (h : SliceR d L w xs (.slice A n c)) (k : Nat) (hk : k ≤ xs.length) (A1 : Option Addr) (hA : k < c → A1 = A.map (fun a => a.add (k * d.sz))) : SliceR d L w (xs.drop k) (.slice A1 (xs.length - k) (c - k)) := by
  obtain ⟨A', c', cells, he, h1, h2, h2', h3, h4, h5⟩ := h
  injection he with e1 e2 e3
  subst e1 e3
  refine ⟨A1, c - k, cells.drop (k * d.sz), by rw [List.length_drop], by rw [List.length_drop]; omega, by rw [List.length_drop]; omega, by omega, h3.drop k, fun e => ?_, fun hne => ?_⟩
  · by_cases hkc : k < c
    · have := hA hkc; rw [e] at this
      cases A with
      | none => have := h4 rfl; omega
      | some a => simp at this
    · omega
  · obtain ⟨b, off, rfl, hc⟩ := h5 (fun e => hne (by rw [e]; simp))
    have hkc : k < c := by
      apply Classical.byContradiction; intro hn
      apply hne
      apply List.drop_eq_nil_of_le
      rw [h3.length]
      exact Nat.mul_le_mul_right _ (by omega)
    rw [hA hkc]
    refine ⟨b, off + k * d.sz, by simp [addr_add], fun j u hu => ?_⟩
    rw [List.getElem?_drop] at hu
    have := hc _ _ hu
    rwa [← Nat.add_assoc] at this

def Rp.int (k : IntKind) : Rp Int where
  sz := 1
  R := fun _ _ x cs => cs = [.int k x]
  len := fun h => by subst h; rfl
  mono := fun _ h => h
  one := fun h u hu => by subst h; simp at hu; subst hu; rfl
def Rp.str : Rp ByteArray where
  sz := 1
  R := fun _ _ x cs => cs = [.string x] ∧ x.size ≤ big
  len := fun h => by obtain ⟨rfl, _⟩ := h; rfl
  mono := fun _ h => h
  one := fun h u hu => by obtain ⟨rfl, _⟩ := h; simp at hu; subst hu; rfl
/-- A byte. -/
def Rp.byte : Rp UInt8 where
  sz := 1
  R := fun _ _ x cs => cs = [.int .u8 x.toNat]
  len := fun h => by subst h; rfl
  mono := fun _ h => h
  one := fun h u hu => by subst h; simp at hu; subst hu; rfl
/-- Bytes, as cells. -/
def bytesV (xs : List UInt8) : List Value := xs.map fun b => .int .u8 b.toNat
theorem bytesV_length (xs : List UInt8) : (bytesV xs).length = xs.length := by simp [bytesV]
theorem bytesV_append (xs ys : List UInt8) : bytesV (xs ++ ys) = bytesV xs ++ bytesV ys := by simp [bytesV]
theorem bytesV_get (xs : List UInt8) (j : Nat) (h : j < xs.length) : (bytesV xs)[j]? = some (.int .u8 xs[j].toNat) := by simp [bytesV, List.getElem?_eq_getElem h]
theorem bytesV_getD (xs : List UInt8) (j : Nat) (h : j < xs.length) : (bytesV xs)[j]? = some (.int .u8 (xs.getD j 0).toNat) := by simp [bytesV, List.getElem?_eq_getElem h, List.getD]
theorem bytesV_set (xs : List UInt8) (j : Nat) (b : UInt8) : (bytesV xs).set j (.int .u8 b.toNat) = bytesV (xs.set j b) := by simp [bytesV, List.map_set]
theorem bytes_reps (L : Live) (w : World) (xs : List UInt8) : Reps Rp.byte L w xs (bytesV xs) := by
  induction xs with
  | nil => exact .nil
  | cons x xs ih => exact .cons (cs := [.int .u8 x.toNat]) rfl ih
theorem bytes_cells {L : Live} {w : World} {xs : List UInt8} {cells : List Value} (h : Reps Rp.byte L w xs cells) : cells = bytesV xs := by
  induction h with
  | nil => rfl
  | cons h t ih => rw [ih, h]; rfl
/-- A byte, where it lies. -/
theorem bytes_at {xs : List UInt8} {A : Option Addr} {n c : Nat} (h : SliceR Rp.byte L w xs (.slice A n c)) (i : Nat) (hi : i < xs.length) : ∃ b off, A = some ⟨b, off, none⟩ ∧ w.cell? ⟨b, off + i, none⟩ = some (.int .u8 xs[i].toNat) ∧ L b (off + i) := by
  obtain ⟨b, off, cs, hA, hcs, hc⟩ := h.get (by decide) i hi
  have := hc 0 (.int .u8 xs[i].toNat) (by rw [hcs]; rfl)
  have e : off + i * Rp.byte.sz + 0 = off + i := by show off + i * 1 + 0 = _; omega
  rw [e] at this
  exact ⟨b, off, hA, this⟩

def Rp.slice (d : Rp α) : Rp (List α) where
  sz := 1
  R := fun L w xs cs => ∃ v, cs = [v] ∧ SliceR d L w xs v
  len := fun h => by obtain ⟨v, rfl, _⟩ := h; rfl
  mono := fun hs h => by obtain ⟨v, rfl, h⟩ := h; exact ⟨v, rfl, h.mono hs⟩
  one := fun h u hu => by
    obtain ⟨v, rfl, h⟩ := h
    obtain ⟨A, c, rfl, _⟩ := h.form
    simp at hu; subst hu; rfl

/-- No cell of the row is frozen. -/
def Free (cur : Array Value) (fr : Nat × Nat) : Prop := fr = (0, 0) ∨ cur.size ≤ fr.1

/-- A slice that lies at the head of a row of its own, and of whose row nothing lives behind its length. -/
def Tip (L : Live) (w : World) (base e size : Nat) (v : Value) (n : Nat) : Prop :=
  (v = .slice none 0 0 ∧ n = 0) ∨ ∃ g cap cur fr, v = .slice (some ⟨g, 0, none⟩) n cap ∧ base ≤ g ∧ w.heap[g]? = some (.cells cur e fr) ∧ Free cur fr ∧ n ≤ cap ∧ cap ≤ maxLen ∧ cap * size ≤ cur.size ∧ ∀ i, L g i → i < n * size

theorem Tip.nil (L : Live) (w : World) (base e size : Nat) : Tip L w base e size (.slice none 0 0) 0 := .inl ⟨rfl, rfl⟩
theorem Tip.lower {base base' e size n : Nat} {v : Value} (h : Tip L w base e size v n) (hb : base' ≤ base) : Tip L w base' e size v n := by
  rcases h with h | ⟨g, cap, cur, fr, h1, h2, h3⟩
  · exact .inl h
  · exact .inr ⟨g, cap, cur, fr, h1, Nat.le_trans hb h2, h3⟩
theorem Tip.lt {base e size n : Nat} {v : Value} (h : Tip L w base e size v n) : ∀ k, v.ownBlock = some k → base ≤ k ∧ k < w.heap.size := by
  intro k hk
  rcases h with ⟨rfl, _⟩ | ⟨g, cap, cur, fr, rfl, hg, hh, _⟩
  · simp [Value.ownBlock] at hk
  · simp [Value.ownBlock] at hk; subst hk
    exact ⟨hg, (Array.getElem?_eq_some_iff.1 hh).1⟩
/-- What leaves the tip's own block alone leaves the tip. -/
theorem Tip.kept {base e size n : Nat} {v : Value} (h : Tip L w base e size v n) (hk : ∀ k, v.ownBlock = some k → w'.heap[k]? = w.heap[k]? ∧ L' k = L k) : Tip L' w' base e size v n := by
  rcases h with h | ⟨g, cap, cur, fr, rfl, hg, hh, h0, h1, h2, h3, h4⟩
  · exact .inl h
  · obtain ⟨e1, e2⟩ := hk g rfl
    exact .inr ⟨g, cap, cur, fr, rfl, hg, by rw [e1]; exact hh, h0, h1, h2, h3, by rw [e2]; exact h4⟩
theorem Tip.ext {base e size n : Nat} {v : Value} (h : Tip L w base e size v n) (hx : Ext L w L' w') : Tip L' w' base e size v n :=
  h.kept fun k hk => ⟨hx.below.block k (h.lt k hk).2, hx.live k (h.lt k hk).2⟩

/-- What is appended: nothing, or cells that are there. -/
def Src (w : World) (x : Value) (m size : Nat) (news : List Value) : Prop :=
  news.length = m * size ∧ ((x = .slice none 0 0 ∧ m = 0) ∨ ∃ a c, x = .slice (some a) m c ∧ ∀ j u, news[j]? = some u → w.cell? (a.add j) = some u)

theorem SliceR.src {xs : List α} {v : Value} (h : SliceR d L w xs v) : ∃ cells, Src w v xs.length d.sz cells ∧ Reps d L w xs cells := by
  obtain ⟨A, c, cells, rfl, h1, h2, h2', h3, h4, h5⟩ := h
  refine ⟨cells, ⟨h3.length, ?_⟩, h3⟩
  by_cases hne : cells = []
  · subst hne
    cases A with
    | none => have := h4 rfl; subst this; exact .inl ⟨by rw [show xs.length = 0 by omega], by omega⟩
    | some a => exact .inr ⟨a, c, rfl, fun j u hu => by simp at hu⟩
  · obtain ⟨b, off, rfl, hc⟩ := h5 hne
    exact .inr ⟨_, c, rfl, fun j u hu => by rw [addr_add]; exact (hc j u hu).1⟩
theorem Src.block {w : World} {g e : Nat} {cs : Array Value} {fr : Nat × Nat} (size m c : Nat) (hb : w.heap[g]? = some (.cells cs e fr)) (hs : cs.size = m * size) : Src w (.slice (some ⟨g, 0, none⟩) m c) m size cs.toList :=
  ⟨by simpa using hs, .inr ⟨_, _, rfl, World.news_of_block hb⟩⟩
theorem Src.new (w : World) (e size m c : Nat) (cs : List Value) (hs : cs.length = m * size) : Src (w.alloc (.cells cs.toArray e)) (.slice (some ⟨w.heap.size, 0, none⟩) m c) m size cs := by
  have := Src.block (w := w.alloc (.cells cs.toArray e)) (g := w.heap.size) (e := e) (cs := cs.toArray) (fr := (0, 0)) size m c (heap_alloc_new w _) (by simpa using hs)
  simpa using this
theorem Src.keep {w w' : World} {x : Value} {m size : Nat} {news : List Value} (h : Src w x m size news) (hk : ∀ a u, w.cell? a = some u → w'.cell? a = some u) : Src w' x m size news := by
  obtain ⟨h1, h2⟩ := h
  refine ⟨h1, ?_⟩
  rcases h2 with h2 | ⟨a, c, hx, hc⟩
  · exact .inl h2
  · exact .inr ⟨a, c, hx, fun j u hu => hk _ _ (hc j u hu)⟩

/-- What an append leaves. -/
structure Appended (L : Live) (w : World) (base e size : Nat) (v : Value) (n : Nat) (all : List Value) (L' : Live) (w' : World) (v' : Value) : Prop where
  tip : Tip L' w' base e size v' n
  grown : w.grownBy w' v.ownBlock
  row : v'.ownBlock = v.ownBlock ∨ v'.ownBlock = some w.heap.size
  live : ∀ b, some b ≠ v'.ownBlock → L' b = L b
  sub : Sub L w L' w'
  ok : LOk L' w'
  form : ∃ A c, v' = .slice A n c ∧ n ≤ c ∧ c ≤ maxLen ∧ (A = none → c = 0) ∧ (all ≠ [] → ∃ g, A = some ⟨g, 0, none⟩ ∧ ∀ j u, all[j]? = some u → w'.cell? ⟨g, j, none⟩ = some u ∧ L' g j)

theorem cell_block {w : World} {g : Nat} {cs : Array Value} {e : Nat} {fr : Nat × Nat} (h : w.heap[g]? = some (.cells cs e fr)) (j : Nat) : w.cell? ⟨g, j, none⟩ = cs[j]? := by
  simp [World.cell?, h]

theorem frozen_free {w : World} {g : Nat} {cs : Array Value} {e : Nat} {fr : Nat × Nat} (h : w.heap[g]? = some (.cells cs e fr)) (hf : Free cs fr) {j : Nat} (hj : j < cs.size) : w.frozen? ⟨g, j, none⟩ = false := by
  obtain ⟨lo, hi⟩ := fr
  rcases hf with hf | hf
  · injection hf with h1 h2; subst h1 h2; simp [World.frozen?, h]
  · simp only at hf
    simp only [World.frozen?, h]
    simp; omega

theorem setCells_row (g : Nat) : ∀ (vs : List Value) (o : Nat) (w : World) (cur : Array Value) (e : Nat) (fr : Nat × Nat), w.heap[g]? = some (.cells cur e fr) → ∃ cur', (w.setCells g o vs).heap[g]? = some (.cells cur' e fr) ∧ cur'.size = cur.size
  | [], _, _, cur, _, _, h => ⟨cur, h, rfl⟩
  | v :: r, o, w, cur, e, fr, h => by
    have h1 : (w.setCell ⟨g, o, none⟩ v).heap[g]? = some (.cells (cur.setIfInBounds o v) e fr) := by simp [World.setCell, Array.getElem?_modify, h]
    obtain ⟨cur', h2, h3⟩ := setCells_row g r (o + 1) _ _ e fr h1
    exact ⟨cur', h2, by rw [h3]; simp⟩
theorem setCells_grown (g : Nat) : ∀ (vs : List Value) (o : Nat) (w : World), w.grownBy (w.setCells g o vs) (some g)
  | [], _, _ => ⟨rfl, rfl, rfl, Nat.le_refl _, fun _ _ _ => rfl⟩
  | v :: r, o, w => by
    have h := setCells_grown g r (o + 1) (w.setCell ⟨g, o, none⟩ v)
    refine ⟨h.os, h.tape, h.output, ?_, fun k hk hn => ?_⟩
    · have h0 : (w.setCell ⟨g, o, none⟩ v).heap.size = w.heap.size := by simp [World.setCell]
      have := h.size
      rw [World.setCells]; omega
    · rw [World.setCells, h.block k (by simpa [World.setCell] using hk) hn]
      exact Below.heap_setCell w ⟨g, o, none⟩ v k (fun e => hn (by rw [e]))

/-- THE LAW OF append, on a tip. -/
theorem run_append_tip {P : Program} (w : World) (base : Nat) (t ty e : TypeId) (i : TypeInfo) (z : Value) (size bytes : Nat) (ht : P.underlying t = some (.slice e)) (hi : P.info? e = some i) (hz : i.zero = some z)
    (hsize : i.size = size) (hby : i.bytes = bytes) (hzs : z.cells.size = size) (hok : LOk L w)
    (v : Value) (n : Nat) (xs : List Value) (htip : Tip L w base e size v n) (hxs : xs.length = n * size) (hcells : ∀ g, v.ownBlock = some g → ∀ j u, xs[j]? = some u → w.cell? ⟨g, j, none⟩ = some u)
    (x : Value) (m : Nat) (news : List Value) (hsrc : Src w x m size news) (h1 : ∀ u ∈ news, u.oneCell' = true)
    (h63 : n + m ≤ maxLen) (hbytes : (n + m) * bytes ≤ 140737488355328) (hbase : base ≤ w.heap.size) :
    ∃ v' w' L', (Builtin.append_ #[t, t] ty #[v, x]).run P w = .ok v' w' ∧ Appended L w base e size v (n + m) (xs ++ news) L' w' v' := by
  subst hsize
  subst hby
  obtain ⟨hl, hsrc⟩ := hsrc
  have hsmall : n + m ≤ 9223372036854775807 := by simp only [maxLen] at h63; omega
  have hlen : (xs ++ news).length = (n + m) * i.size := by rw [List.length_append, hxs, hl, Nat.add_mul]
  -- the arm in which a new row is made
  have grown : ∀ (old : Nat), old < n + m → ∃ L', Appended L w base e i.size v (n + m) (xs ++ news) L'
      (w.drew.alloc (.cells (xs.toArray ++ news.toArray ++ Builtin.zeroCells z.cells (grownCap w (n + m) old e - (n + m))) e)) (.slice (some ⟨w.heap.size, 0, none⟩) (n + m) (grownCap w (n + m) old e)) := by
    intro old ho
    have hge := grownCap_ge w (n + m) old e
    have hcm : grownCap w (n + m) old e ≤ maxLen := grownCap_le_maxLen w (n + m) old e h63
    have hnew : (w.drew.alloc (.cells (xs.toArray ++ news.toArray ++ Builtin.zeroCells z.cells (grownCap w (n + m) old e - (n + m))) e)).heap[w.heap.size]? = some (.cells (xs.toArray ++ news.toArray ++ Builtin.zeroCells z.cells (grownCap w (n + m) old e - (n + m))) e (0, 0)) := heap_alloc_new w.drew _
    refine ⟨fun b j => (b ≠ w.heap.size ∧ L b j) ∨ (b = w.heap.size ∧ j < (n + m) * i.size), .inr ⟨w.heap.size, _, _, _, rfl, hbase, hnew, .inl rfl, hge, hcm, ?_, ?_⟩, ⟨rfl, rfl, rfl, by simp, fun k hk _ => Below.heap_alloc w.drew _ k hk⟩, .inr rfl, ?_, ?_, ?_, ⟨_, _, rfl, hge, hcm, fun h => by simp at h, fun _ => ⟨_, rfl, fun j u hu => ⟨?_, .inr ⟨rfl, ?_⟩⟩⟩⟩⟩
    · simp only [Array.size_append, List.size_toArray, size_zeroCells, hzs, hxs, hl, ← Nat.add_mul]
      exact Nat.mul_le_mul_right _ (by omega)
    · intro j hj; rcases hj with hj | hj
      · exact absurd rfl hj.1
      · exact hj.2
    · intro b hb; funext j; have hne : b ≠ w.heap.size := fun e => hb (by rw [e]; rfl)
      simp [hne]
    · intro b j hb
      have hlt := hok b j hb
      refine ⟨.inl ⟨by omega, hb⟩, fun u hu => ?_⟩
      exact (World.cell?_of_block (w := w) (a := ⟨b, j, none⟩) (Below.heap_alloc w.drew _ b hlt)).trans hu
    · intro b j hb
      rcases hb with ⟨_, hb⟩ | ⟨rfl, _⟩
      · have := hok b j hb; simp; omega
      · simp
    · rw [cell_block hnew]
      have hj := (List.getElem?_eq_some_iff.1 hu).1
      rw [Array.getElem?_append_left (by simpa using hj), List.append_toArray, List.getElem?_toArray]; exact hu
    · have hj := (List.getElem?_eq_some_iff.1 hu).1
      omega
  -- nothing is appended
  have none_ : m = 0 → ∀ A c, v = .slice A n c → n ≤ c → c ≤ maxLen → (A = none → c = 0) → (xs ≠ [] → ∃ g, A = some ⟨g, 0, none⟩ ∧ ∀ j u, xs[j]? = some u → w.cell? ⟨g, j, none⟩ = some u) → ∃ L', Appended L w base e i.size v (n + m) (xs ++ news) L' w v := by
    intro hm A c hv hnc hcm hA hx
    subst hm
    have hn : news = [] := List.eq_nil_of_length_eq_zero (by simpa using hl)
    subst hn
    refine ⟨fun b j => L b j ∨ (some b = v.ownBlock ∧ j < n * i.size), ?_, ⟨rfl, rfl, rfl, Nat.le_refl _, fun _ _ _ => rfl⟩, .inl rfl, ?_, ?_, ?_, ⟨A, c, hv, hnc, hcm, hA, fun hne => ?_⟩⟩
    · rcases htip with h | ⟨g, cap, cur, fr, rfl, h2, h3, h3', h4, h5, h6, h7⟩
      · exact .inl ⟨h.1, by omega⟩
      · exact .inr ⟨g, cap, cur, fr, rfl, h2, h3, h3', h4, h5, h6, fun j hj => hj.elim (h7 j) (fun h => h.2)⟩
    · intro b hb; funext j; simp [hb]
    · intro b j hb; exact ⟨.inl hb, fun u hu => hu⟩
    · intro b j hb
      rcases hb with hb | ⟨hb, _⟩
      · exact hok b j hb
      · exact (htip.lt b hb.symm).2
    · simp only [List.append_nil] at hne ⊢
      obtain ⟨g, rfl, hc⟩ := hx hne
      exact ⟨g, rfl, fun j u hu => ⟨hc j u hu, .inr ⟨by rw [hv]; rfl, by have := (List.getElem?_eq_some_iff.1 hu).1; omega⟩⟩⟩
  rcases htip with ⟨rfl, rfl⟩ | ⟨g, cap, cur, fr, rfl, hbg, hg, hfr, hnc, hcm, hcs, htl⟩
  · have hx : xs = [] := List.eq_nil_of_length_eq_zero (by simpa using hxs)
    subst hx
    by_cases hm : m = 0
    · obtain ⟨L', hA⟩ := none_ hm none 0 rfl (Nat.le_refl _) (Nat.zero_le _) (fun _ => rfl) (fun h => absurd rfl h)
      refine ⟨_, w, L', ?_, hA⟩
      subst hm
      have hn : news = [] := List.eq_nil_of_length_eq_zero (by simpa using hl)
      rcases hsrc with ⟨rfl, _⟩ | ⟨a, c, rfl, _⟩
      · simp [Builtin.append_, run_underlying ht, sizeOf, typeInfo, hi, Builtin.lenOf, Builtin.firstCells]
      · simp [Builtin.append_, run_underlying ht, sizeOf, typeInfo, hi, Builtin.lenOf, Builtin.firstCells, loadCells, loadCellsFrom]
    · obtain ⟨L', hA⟩ := grown 0 (by omega)
      rcases hsrc with ⟨_, h0⟩ | ⟨a, c, rfl, hnews⟩
      · exact absurd h0 hm
      · have hr := run_append_nil (P := P) w t ty e i z ht hi hz a m c news hl hnews (by omega) (by omega) (by have hb := hbytes; simp only [Nat.zero_add] at hb; omega)
        simp only [Nat.zero_add, List.nil_append, Array.empty_append] at hA ⊢
        exact ⟨_, _, L', hr, hA⟩
  · by_cases hm : m = 0
    · obtain ⟨L', hA⟩ := none_ hm _ cap rfl hnc hcm (fun h => by simp at h) (fun _ => ⟨g, rfl, hcells g rfl⟩)
      subst hm
      have hn : news = [] := List.eq_nil_of_length_eq_zero (by simpa using hl)
      subst hn
      refine ⟨_, w, L', ?_, hA⟩
      rcases hsrc with ⟨rfl, _⟩ | ⟨a, c, rfl, _⟩
      · simp [Builtin.append_, run_underlying ht, sizeOf, typeInfo, hi, Builtin.lenOf, Builtin.firstCells, hnc, storeCells]
      · simp [Builtin.append_, run_underlying ht, sizeOf, typeInfo, hi, Builtin.lenOf, Builtin.firstCells, hnc, storeCells, loadCells, loadCellsFrom]
    · rcases hsrc with ⟨_, h0⟩ | ⟨a, c, rfl, hnews⟩
      · exact absurd h0 hm
      by_cases hroom : n + m ≤ cap
      · have hfit : n * i.size + news.length ≤ cur.size := by rw [hl, ← Nat.add_mul]; exact Nat.le_trans (Nat.mul_le_mul_right _ hroom) hcs
        have hc0 : ∀ j, j < news.length → (w.cell? ⟨g, 0 + n * i.size + j, none⟩).isSome = true := fun j hj => by
          rw [Nat.zero_add, cell_block hg, Array.getElem?_eq_getElem (by omega)]; rfl
        have hr := run_append_room_cells (P := P) w t ty e i ht hi g 0 n cap a m c news hl hnews h1 hroom hc0 (fun j hj => frozen_free hg hfr (by omega))
        rw [Nat.zero_add] at hr hc0
        obtain ⟨cur', hrow, hsz⟩ := setCells_row g news (n * i.size) w cur e fr hg
        have hglt := (Array.getElem?_eq_some_iff.1 hg).1
        refine ⟨_, _, fun b j => L b j ∨ (b = g ∧ j < (n + m) * i.size), hr, .inr ⟨g, cap, _, fr, rfl, hbg, hrow, by unfold Free at hfr ⊢; rw [hsz]; exact hfr, hroom, hcm, by rw [hsz]; exact hcs, ?_⟩, setCells_grown g news (n * i.size) w, .inl rfl, ?_, ?_, ?_, ⟨_, _, rfl, hroom, hcm, fun h => by simp at h, fun _ => ⟨_, rfl, fun j u hu => ⟨?_, .inr ⟨rfl, ?_⟩⟩⟩⟩⟩
        · intro j hj
          rcases hj with hj | hj
          · have := htl j hj; have := Nat.mul_le_mul_right i.size (show n ≤ n + m by omega); omega
          · exact hj.2
        · intro b hb; funext j
          have hne : b ≠ g := fun e => hb (by rw [e]; rfl)
          simp [hne]
        · intro b j hb
          refine ⟨.inl hb, fun u hu => ?_⟩
          rw [World.cell?_setCells_out g news _ w ⟨b, j, none⟩ (fun e1 _ => .inl (htl j (by subst e1; exact hb)))]
          exact hu
        · intro b j hb
          have hsize := (setCells_grown g news (n * i.size) w).size
          rcases hb with hb | ⟨rfl, _⟩
          · have := hok b j hb; omega
          · omega
        · have hj := (List.getElem?_eq_some_iff.1 hu).1
          by_cases hjx : j < xs.length
          · rw [World.cell?_setCells_out g news _ w ⟨g, j, none⟩ (fun _ _ => .inl (by simp only; omega))]
            rw [List.getElem?_append_left hjx] at hu
            exact hcells g rfl j u hu
          · rw [List.getElem?_append_right (by omega)] at hu
            have hj' := (List.getElem?_eq_some_iff.1 hu).1
            have := World.cell?_setCells_in g news (n * i.size) w hc0 (j - xs.length) hj'
            rw [show n * i.size + (j - xs.length) = j from by omega] at this
            rw [this, ← hu, List.getElem?_eq_getElem hj']
        · have hj := (List.getElem?_eq_some_iff.1 hu).1
          omega
      · have hr := run_append_grow (P := P) w t ty e i z ht hi hz ⟨g, 0, none⟩ n cap xs hxs (fun j u hu => by rw [addr_add, Nat.zero_add]; exact hcells g rfl j u hu) a m c news hl hnews (by omega) (by omega) (growslice_fits (by omega) hbytes)
        obtain ⟨L', hA⟩ := grown cap (by omega)
        exact ⟨_, _, L', hr, hA⟩

theorem Ext.appended {L0 L L' : Live} {w0 w w' : World} {base e size n : Nat} {v v' : Value} {all : List Value} (h : Ext L0 w0 L w) (hA : Appended L w base e size v n all L' w' v') (hb : w0.heap.size ≤ base) (hv : ∀ k, v.ownBlock = some k → base ≤ k) : Ext L0 w0 L' w' :=
  ⟨h.below.grown hA.grown h.below.size (fun k hk => Nat.le_trans hb (hv k hk)), fun b hlt => by
    rw [hA.live b (fun e => by have := (hA.tip.lt b e.symm).1; omega)]; exact h.live b hlt, hA.ok⟩

/-- THE LAW OF append, on a list that is read. -/
theorem run_append_list {P : Program} (d : Rp α) (w : World) (base : Nat) (t ty e : TypeId) (z : Value) (size bytes : Nat) (ht : P.underlying t = some (.slice e)) (hinfo : (P.info? e).map (fun i => (i.zero, i.size, i.bytes)) = some (some z, size, bytes)) (hsz : size = d.sz) (hzs : z.cells.size = size) (hok : LOk L w)
    (v : Value) (xs : List α) (HS : SliceR d L w xs v) (HT : Tip L w base e size v xs.length)
    (x : Value) (ys : List α) (news : List Value) (hsrc : Src w x ys.length size news) (hr : Reps d L w ys news)
    (hb0 : 0 < bytes) (hbytes : (xs.length + ys.length) * bytes ≤ 140737488355328) (hbase : base ≤ w.heap.size) :
    ∃ v' w' L' all, (Builtin.append_ #[t, t] ty #[v, x]).run P w = .ok v' w' ∧ SliceR d L' w' (xs ++ ys) v' ∧ Tip L' w' base e size v' (xs ++ ys).length ∧ Appended L w base e size v (xs.length + ys.length) all L' w' v' := by
  subst hsz
  obtain ⟨i0, hi, hzz⟩ := Option.map_eq_some_iff.1 hinfo
  simp only [Prod.mk.injEq] at hzz
  obtain ⟨hz0, hz1, hz2⟩ := hzz
  have hlen : xs.length + ys.length ≤ 140737488355328 := Nat.le_trans (Nat.le_mul_of_pos_right _ hb0) hbytes
  have HS' := HS
  obtain ⟨A, c, cells, rfl, h1, h2, h2', h3, h4, h5⟩ := HS
  have hc : ∀ g, (Value.slice A xs.length c).ownBlock = some g → ∀ j u, cells[j]? = some u → w.cell? ⟨g, j, none⟩ = some u := by
    intro g hg j u hu
    have hne : cells ≠ [] := by intro e; subst e; simp at hu
    obtain ⟨b, off, rfl, hcc⟩ := h5 hne
    simp [Value.ownBlock] at hg
    subst hg
    rcases HT with ⟨hh, _⟩ | ⟨g, cap, cur, fr, hh, _⟩
    · simp at hh
    · simp at hh
      obtain ⟨⟨rfl, rfl⟩, _⟩ := hh
      simpa using (hcc j u hu).1
  obtain ⟨v', w', L', hrun, hA⟩ := run_append_tip (P := P) (L := L) w base t ty e i0 z d.sz bytes ht hi hz0 hz1 hz2 hzs hok _ _ cells HT h3.length hc x _ news hsrc hr.one (by simp only [maxLen]; omega) hbytes hbase
  refine ⟨v', w', L', _, hrun, ?_, by rw [List.length_append]; exact hA.tip, hA⟩
  obtain ⟨A', c', rfl, e1, e2, e3, e4⟩ := hA.form
  refine ⟨A', c', cells ++ news, by rw [List.length_append], by rw [List.length_append]; exact e1, by rw [List.length_append]; exact Nat.le_trans hlen (by decide), e2, (h3.mono hA.sub).append (hr.mono hA.sub), e3, fun hne => ?_⟩
  obtain ⟨g, rfl, hcc⟩ := e4 hne
  exact ⟨g, 0, rfl, fun j u hu => by simpa using hcc j u hu⟩

/-- A slice at the head of a row of its own, and what its row holds. -/
def Blk (w : World) (base e size : Nat) (v : Value) (n : Nat) (cells : List Value) : Prop :=
  cells.length = n * size ∧ ((v = .slice none 0 0 ∧ n = 0) ∨ ∃ g cap cur fr, v = .slice (some ⟨g, 0, none⟩) n cap ∧ base ≤ g ∧ w.heap[g]? = some (.cells cur e fr) ∧ Free cur fr ∧ n ≤ cap ∧ cap ≤ maxLen ∧ cap * size ≤ cur.size ∧ cur.toList.take (n * size) = cells)

section
variable {base e size n : Nat} {v : Value} {cells : List Value}
theorem Blk.lt (h : Blk w base e size v n cells) : ∀ k, v.ownBlock = some k → base ≤ k ∧ k < w.heap.size := by
  intro k hk
  rcases h.2 with ⟨rfl, _⟩ | ⟨g, cap, cur, fr, rfl, hg, hh, _⟩
  · simp [Value.ownBlock] at hk
  · simp [Value.ownBlock] at hk; subst hk
    exact ⟨hg, (Array.getElem?_eq_some_iff.1 hh).1⟩
theorem Blk.type (h : Blk w base e size v n cells) : ∀ k, v.ownBlock = some k → ∃ cur fr, w.heap[k]? = some (.cells cur e fr) := by
  intro k hk
  rcases h.2 with ⟨rfl, _⟩ | ⟨g, cap, cur, fr, rfl, hg, hh, _⟩
  · simp [Value.ownBlock] at hk
  · simp [Value.ownBlock] at hk; subst hk
    exact ⟨cur, fr, hh⟩
theorem Blk.kept (h : Blk w base e size v n cells) (hk : ∀ k, v.ownBlock = some k → w'.heap[k]? = w.heap[k]?) : Blk w' base e size v n cells := by
  obtain ⟨h1, h2⟩ := h
  refine ⟨h1, ?_⟩
  rcases h2 with h2 | ⟨g, cap, cur, fr, rfl, e1, e2, e3⟩
  · exact .inl h2
  · exact .inr ⟨g, cap, cur, fr, rfl, e1, by rw [hk g rfl]; exact e2, e3⟩
theorem Blk.below (h : Blk w base e size v n cells) (hb : Below w.heap.size w w') : Blk w' base e size v n cells := h.kept fun k hk => hb.block k (h.lt k hk).2
theorem Blk.lower {base' : Nat} (h : Blk w base e size v n cells) (hb : base' ≤ base) : Blk w base' e size v n cells := by
  obtain ⟨h1, h2⟩ := h
  refine ⟨h1, ?_⟩
  rcases h2 with h2 | ⟨g, cap, cur, fr, rfl, e1, e3⟩
  · exact .inl h2
  · exact .inr ⟨g, cap, cur, fr, rfl, Nat.le_trans hb e1, e3⟩
theorem Blk.form (h : Blk w base e size v n cells) : ∃ A c, v = .slice A n c ∧ n ≤ c ∧ c ≤ 9223372036854775807 := by
  rcases h.2 with ⟨rfl, rfl⟩ | ⟨g, cap, cur, fr, rfl, hg, hh, h0, h1, h2, _⟩
  · exact ⟨none, 0, rfl, Nat.le_refl _, by omega⟩
  · exact ⟨_, cap, rfl, h1, h2⟩
/-- Where it has an element: the row. -/
theorem Blk.row (h : Blk w base e size v n cells) (hn : 0 < n) : ∃ g cap cur fr, v = .slice (some ⟨g, 0, none⟩) n cap ∧ base ≤ g ∧ w.heap[g]? = some (.cells cur e fr) ∧ Free cur fr ∧ n ≤ cap ∧ cap ≤ 9223372036854775807 ∧ cap * size ≤ cur.size ∧ ∀ j u, cells[j]? = some u → w.cell? ⟨g, j, none⟩ = some u := by
  rcases h.2 with ⟨rfl, h0⟩ | ⟨g, cap, cur, fr, rfl, hg, hh, hf, h1, h2, h3, h4⟩
  · omega
  · refine ⟨g, cap, cur, fr, rfl, hg, hh, hf, h1, h2, h3, fun j u hu => ?_⟩
    have hj := (List.getElem?_eq_some_iff.1 hu).1
    rw [cell_block hh, ← hu, ← h4, List.getElem?_take_of_lt (by rw [← h.1]; exact hj)]; simp
/-- A store. -/
theorem Blk.store (h : Blk w base e size v n cells) (j : Nat) (u : Value) (hn : 0 < n) : ∃ g, v.ownBlock = some g ∧ Blk (w.setCell ⟨g, j, none⟩ u) base e size v n (cells.set j u) := by
  rcases h.2 with ⟨rfl, h0⟩ | ⟨g, cap, cur, fr, rfl, hg, hh, hf, h1, h2, h3, h4⟩
  · omega
  · refine ⟨g, rfl, by rw [List.length_set]; exact h.1, .inr ⟨g, cap, cur.setIfInBounds j u, fr, rfl, hg, ?_, by unfold Free at hf ⊢; simpa using hf, h1, h2, by simpa using h3, ?_⟩⟩
    · simp [World.setCell, Array.getElem?_modify, hh]
    · rw [← h4, Array.toList_setIfInBounds, List.take_set]
/-- It is read as a list. -/
theorem Blk.reads {d : Rp α} (h : Blk w base e d.sz v n cells) {xs : List α} (hr : Reps d L w xs cells) (hn : xs.length = n) (hb : n ≤ big) (hl : ∀ g, v.ownBlock = some g → ∀ j, j < n * d.sz → L g j) : SliceR d L w xs v := by
  subst hn
  rcases h.2 with ⟨rfl, h0⟩ | ⟨g, cap, cur, fr, rfl, hg, hh, hf, h1, h2, h3, h4⟩
  · have : xs = [] := List.eq_nil_of_length_eq_zero h0
    subst this
    exact SliceR.nil d L w
  · refine ⟨_, cap, cells, rfl, h1, hb, h2, hr, fun e => by simp at e, fun _ => ⟨g, 0, rfl, fun j u hu => ?_⟩⟩
    have hj := (List.getElem?_eq_some_iff.1 hu).1
    rw [Nat.zero_add]
    refine ⟨?_, hl g rfl j (by rw [← h.1]; exact hj)⟩
    rw [cell_block hh, ← hu, ← h4, List.getElem?_take_of_lt (by rw [← h.1]; exact hj)]; simp
/-- It is a tip, where nothing of its row lives. -/
theorem Blk.tip (h : Blk w base e size v n cells) (hl : ∀ g, v.ownBlock = some g → ∀ j, L g j → j < n * size) : Tip L w base e size v n := by
  rcases h.2 with h0 | ⟨g, cap, cur, fr, rfl, hg, hh, hf, h1, h2, h3, h4⟩
  · exact .inl h0
  · exact .inr ⟨g, cap, cur, fr, rfl, hg, hh, hf, h1, h2, h3, hl g rfl⟩
/-- What was made is made known: it lives from here on. -/
theorem Blk.publish {d : Rp α} (h : Blk w base e d.sz v n cells) (hok : LOk L w) {xs : List α} (hr : Reps d L w xs cells) (hn : xs.length = n) (hb : n ≤ big) (hl : ∀ g, v.ownBlock = some g → ∀ j, ¬ L g j) :
    ∃ L', SliceR d L' w xs v ∧ Tip L' w base e d.sz v n ∧ Sub L w L' w ∧ LOk L' w ∧ ∀ b, some b ≠ v.ownBlock → L' b = L b := by
  have hs : Sub L w (fun b j => L b j ∨ (some b = v.ownBlock ∧ j < n * d.sz)) w := fun b j hb => ⟨.inl hb, fun _ hu => hu⟩
  refine ⟨_, h.reads (hr.mono hs) hn hb (fun g hg j hj => .inr ⟨hg.symm, hj⟩), h.tip (fun g hg j hj => hj.elim (fun x => absurd x (hl g hg j)) (fun x => x.2)), hs, ?_, fun b hb => by funext j; simp [hb]⟩
  intro b j hj
  rcases hj with hj | ⟨hj, _⟩
  · exact hok b j hj
  · exact (h.lt b hj.symm).2
end
/-- A list that is read, on a tip: the row that it lies in. -/
theorem SliceR.blk {d : Rp α} {xs : List α} {v : Value} {base e n : Nat} (h : SliceR d L w xs v) (ht : Tip L w base e d.sz v n) (hn : xs.length = n) : ∃ cells, Blk w base e d.sz v n cells ∧ Reps d L w xs cells := by
  subst hn
  obtain ⟨A, c, cells, rfl, h1, h2, h2', h3, h4, h5⟩ := h
  refine ⟨cells, ⟨h3.length, ?_⟩, h3⟩
  rcases ht with h0 | ⟨g, cap, cur, fr, he, hg, hh, e0, e1, e2, e3, e4⟩
  · exact .inl h0
  · refine .inr ⟨g, cap, cur, fr, he, hg, hh, e0, e1, e2, e3, ?_⟩
    injection he with he1 he2 he3
    subst he1 he3
    apply List.ext_getElem?
    intro j
    have hl := h3.length
    by_cases hj : j < xs.length * d.sz
    · rw [List.getElem?_take_of_lt hj]
      have hu : cells[j]? = some cells[j] := List.getElem?_eq_getElem (by omega)
      obtain ⟨b, off, he, hc⟩ := h5 (fun e => by subst e; simp at hl; omega)
      simp at he
      obtain ⟨rfl, rfl⟩ := he
      have := (hc j _ hu).1
      rw [Nat.zero_add, cell_block hh] at this
      rw [hu, ← this]; simp
    · rw [List.getElem?_eq_none (by rw [List.length_take]; omega), List.getElem?_eq_none (by omega)]
theorem SliceR.reps {d : Rp α} {xs : List α} {v : Value} (h : SliceR d L w xs v) : ∃ cells, Reps d L w xs cells := by obtain ⟨_, _, cells, _, _, _, _, h3, _⟩ := h; exact ⟨cells, h3⟩

section
variable {P : Program} {ops : Array Oper} {rest : List Oper} {o : Oper} {a : Act} {Q : Exit → Act → World → Prop} {K : Act → World → Prop}

/-- At a plain region's operation. -/
theorem wpList_app (d : Rp α) (hgd : o.guard = none) (s x : Operand) (t e : TypeId) (ho : o.op = .call { callee := .builtin .append, args := #[s, x], argTypes := #[t, t] })
    (base : Nat) (z : Value) (size bytes : Nat) (ht : P.underlying t = some (.slice e)) (hinfo : (P.info? e).map (fun i => (i.zero, i.size, i.bytes)) = some (some z, size, bytes)) (hsz : size = d.sz) (hzs : z.cells.size = size) (hb0 : 0 < bytes)
    (w : World) (v : Value) (hs : a.eval s = v) (xv : Value) (hx : a.eval x = xv) (hok : LOk L w) (xs : List α) (HS : SliceR d L w xs v) (HT : Tip L w base e size v xs.length)
    (ys : List α) (news : List Value) (hsrc : Src w xv ys.length size news) (hr : Reps d L w ys news) (hbytes : (xs.length + ys.length) * bytes ≤ 140737488355328) (hbase : base ≤ w.heap.size)
    (h : ∀ v1 w1 L1 all, SliceR d L1 w1 (xs ++ ys) v1 → Tip L1 w1 base e size v1 (xs ++ ys).length → Appended L w base e size v (xs.length + ys.length) all L1 w1 v1 → wpList P ops Q rest (a.put o.dst v1) w1) : wpList P ops Q (o :: rest) a w := by
  refine wpList_plain hgd fun K hK => ?_
  obtain ⟨v', w', L', all, hrun, r1, r2, r3⟩ := run_append_list (P := P) d w base t o.type e z size bytes ht hinfo hsz hzs hok v xs HS HT xv ys news hsrc hr hb0 hbytes hbase
  unfold Oper.wp execOp
  simp only [ho, resolve, invoke, builtin, Sem.run_bind, Sem.run_pure, Result.andThen_ok, List.map_toArray, List.map_cons, List.map_nil, hs, hx, hrun]
  exact hK _ _ (h v' w' L' all r1 r2 r3)

/-- At a step of a region that draws its order. -/
theorem step_app (d : Rp α) (hgd : o.guard = none) (s x : Operand) (t e : TypeId) (ho : o.op = .call { callee := .builtin .append, args := #[s, x], argTypes := #[t, t] })
    (base : Nat) (z : Value) (size bytes : Nat) (ht : P.underlying t = some (.slice e)) (hinfo : (P.info? e).map (fun i => (i.zero, i.size, i.bytes)) = some (some z, size, bytes)) (hsz : size = d.sz) (hzs : z.cells.size = size) (hb0 : 0 < bytes)
    (w : World) (v : Value) (hs : a.eval s = v) (xv : Value) (hx : a.eval x = xv) (hok : LOk L w) (xs : List α) (HS : SliceR d L w xs v) (HT : Tip L w base e size v xs.length)
    (ys : List α) (news : List Value) (hsrc : Src w xv ys.length size news) (hr : Reps d L w ys news) (hbytes : (xs.length + ys.length) * bytes ≤ 140737488355328) (hbase : base ≤ w.heap.size) {E : Prop}
    (h : ∀ v1 w1 L1 all, SliceR d L1 w1 (xs ++ ys) v1 → Tip L1 w1 base e size v1 (xs ++ ys).length → Appended L w base e size v (xs.length + ys.length) all L1 w1 v1 → K (a.put o.dst v1) w1) :
    if Region.wanted o (yielded ops a.tmps) = true then Oper.wp P o a w K Q else E := by
  have hw : Region.wanted o (yielded ops a.tmps) = true := by simp [Region.wanted, hgd]
  rw [if_pos hw]
  obtain ⟨v', w', L', all, hrun, r1, r2, r3⟩ := run_append_list (P := P) d w base t o.type e z size bytes ht hinfo hsz hzs hok v xs HS HT xv ys news hsrc hr hb0 hbytes hbase
  unfold Oper.wp execOp
  simp only [ho, resolve, invoke, builtin, Sem.run_bind, Sem.run_pure, Result.andThen_ok, List.map_toArray, List.map_cons, List.map_nil, hs, hx, hrun]
  exact h v' w' L' all r1 r2 r3
end
theorem bytes_blk (w : World) (base e : Nat) (s : ByteArray) (hb : base ≤ w.heap.size) (hs : s.size ≤ 140737488355328) : Blk (Lib.bytesWorld w e s) base e 1 (.slice (some ⟨w.heap.size, 0, none⟩) s.size (grownCap w s.size 0 e)) s.size (bytesV s.data.toList) := by
  have hl : s.data.toList.length = s.size := by rw [Array.length_toList]; rfl
  have hge := grownCap_ge w s.size 0 e
  have hcm := grownCap_le_maxLen w s.size 0 e (by simp only [maxLen]; omega)
  refine ⟨by rw [bytesV_length, hl]; omega, .inr ⟨w.heap.size, _, _, _, rfl, hb, Lib.bytesWorld_at_new w e s, .inr (Nat.le_refl _), hge, hcm, ?_, ?_⟩⟩
  · have : s.data.size = s.size := rfl
    simp [Lib.bytesCells]; omega
  · simp only [Lib.bytesCells, Array.toList_append, Array.toList_map, Nat.mul_one]
    rw [← hl]
    exact List.take_left' (by simp)
theorem bytes_below (w : World) (e : TypeId) (s : ByteArray) : Below w.heap.size w (Lib.bytesWorld w e s) :=
  ⟨by simp [Lib.bytesWorld, World.freeze, World.alloc, World.drew, -World.alloc_eq, -World.drew_eq], by simp [Lib.bytesWorld, World.freeze, World.alloc, World.drew, -World.alloc_eq, -World.drew_eq], by simp [Lib.bytesWorld, World.freeze, World.alloc, World.drew, -World.alloc_eq, -World.drew_eq], by rw [Lib.bytesWorld_size]; omega, fun k hk => Lib.bytesWorld_at_old w e s k hk⟩

/-- THE LAW OF append, on a row that is known whole. -/
theorem run_append_blk {P : Program} (w : World) (base : Nat) (t ty e : TypeId) (z : Value) (size bytes : Nat) (ht : P.underlying t = some (.slice e)) (hinfo : (P.info? e).map (fun i => (i.zero, i.size, i.bytes)) = some (some z, size, bytes)) (hzs : z.cells.size = size)
    (v : Value) (n : Nat) (cells : List Value) (hb : Blk w base e size v n cells) (x : Value) (m : Nat) (news : List Value) (hsrc : Src w x m size news) (h1 : ∀ u ∈ news, u.oneCell' = true)
    (hb0 : 0 < bytes) (hbytes : (n + m) * bytes ≤ 140737488355328) (hbase : base ≤ w.heap.size) :
    ∃ v' w', (Builtin.append_ #[t, t] ty #[v, x]).run P w = .ok v' w' ∧ Blk w' base e size v' (n + m) (cells ++ news) ∧ w.grownBy w' v.ownBlock ∧ (v'.ownBlock = v.ownBlock ∨ v'.ownBlock = some w.heap.size) := by
  obtain ⟨i0, hi, hzz⟩ := Option.map_eq_some_iff.1 hinfo
  simp only [Prod.mk.injEq] at hzz
  obtain ⟨hz0, hz1, hz2⟩ := hzz
  have hlen : n + m ≤ 140737488355328 := Nat.le_trans (Nat.le_mul_of_pos_right _ hb0) hbytes
  have hc : ∀ g, v.ownBlock = some g → ∀ j u, cells[j]? = some u → w.cell? ⟨g, j, none⟩ = some u := by
    intro g hg j u hu
    by_cases hn : 0 < n
    · obtain ⟨g', cap, cur, fr, rfl, _, _, _, _, _, _, hcc⟩ := hb.row hn
      simp [Value.ownBlock] at hg; subst hg
      exact hcc j u hu
    · have : cells = [] := List.eq_nil_of_length_eq_zero (by rw [hb.1]; simp [show n = 0 by omega])
      subst this; simp at hu
  obtain ⟨v', w', L', hrun, hA⟩ := run_append_tip (P := P) (L := fun _ _ => False) w base t ty e i0 z size bytes ht hi hz0 hz1 hz2 hzs (fun _ _ h => h.elim) v n cells (hb.tip (fun _ _ _ h => h.elim)) hb.1 hc x m news hsrc h1 (by simp only [maxLen]; omega) hbytes hbase
  have hl : (cells ++ news).length = (n + m) * size := by rw [List.length_append, hb.1, hsrc.1, Nat.add_mul]
  refine ⟨v', w', hrun, ⟨hl, ?_⟩, hA.grown, hA.row⟩
  rcases hA.tip with h0 | ⟨g, cap, cur, fr, rfl, e1, e2, e3, e4, e5, e6, _⟩
  · exact .inl h0
  · refine .inr ⟨g, cap, cur, fr, rfl, e1, e2, e3, e4, e5, e6, ?_⟩
    obtain ⟨A, c, he, _, _, _, hf⟩ := hA.form
    injection he with he1 he2 he3
    apply List.ext_getElem?
    intro j
    have hle := Nat.mul_le_mul_right size e4
    by_cases hj : j < (n + m) * size
    · rw [List.getElem?_take_of_lt hj]
      have hu : (cells ++ news)[j]? = some (cells ++ news)[j] := List.getElem?_eq_getElem (by omega)
      obtain ⟨g', hA', hcc⟩ := hf (fun e => by rw [e] at hl; simp at hl; omega)
      rw [← he1] at hA'
      simp at hA'; subst hA'
      have := (hcc j _ hu).1
      rw [cell_block e2] at this
      rw [hu, ← this]; simp
    · rw [List.getElem?_eq_none (by rw [List.length_take]; omega), List.getElem?_eq_none (by omega)]

section
variable {P : Program} {ops : Array Oper} {rest : List Oper} {o : Oper} {a : Act} {Q : Exit → Act → World → Prop} {K : Act → World → Prop}
theorem wpList_appB (hgd : o.guard = none) (s x : Operand) (t e : TypeId) (ho : o.op = .call { callee := .builtin .append, args := #[s, x], argTypes := #[t, t] })
    (base : Nat) (z : Value) (size bytes : Nat) (ht : P.underlying t = some (.slice e)) (hinfo : (P.info? e).map (fun i => (i.zero, i.size, i.bytes)) = some (some z, size, bytes)) (hzs : z.cells.size = size) (hb0 : 0 < bytes)
    (w : World) (v : Value) (hs : a.eval s = v) (xv : Value) (hx : a.eval x = xv) (n : Nat) (cells : List Value) (hb : Blk w base e size v n cells) (m : Nat) (news : List Value) (hsrc : Src w xv m size news) (h1 : ∀ u ∈ news, u.oneCell' = true)
    (hbytes : (n + m) * bytes ≤ 140737488355328) (hbase : base ≤ w.heap.size)
    (h : ∀ v1 w1, Blk w1 base e size v1 (n + m) (cells ++ news) → w.grownBy w1 v.ownBlock → (v1.ownBlock = v.ownBlock ∨ v1.ownBlock = some w.heap.size) → wpList P ops Q rest (a.put o.dst v1) w1) : wpList P ops Q (o :: rest) a w := by
  refine wpList_plain hgd fun K hK => ?_
  obtain ⟨v', w', hrun, r1, r2, r3⟩ := run_append_blk (P := P) w base t o.type e z size bytes ht hinfo hzs v n cells hb xv m news hsrc h1 hb0 hbytes hbase
  unfold Oper.wp execOp
  simp only [ho, resolve, invoke, builtin, Sem.run_bind, Sem.run_pure, Result.andThen_ok, List.map_toArray, List.map_cons, List.map_nil, hs, hx, hrun]
  exact hK _ _ (h v' w' r1 r2 r3)
theorem step_appB (hgd : o.guard = none) (s x : Operand) (t e : TypeId) (ho : o.op = .call { callee := .builtin .append, args := #[s, x], argTypes := #[t, t] })
    (base : Nat) (z : Value) (size bytes : Nat) (ht : P.underlying t = some (.slice e)) (hinfo : (P.info? e).map (fun i => (i.zero, i.size, i.bytes)) = some (some z, size, bytes)) (hzs : z.cells.size = size) (hb0 : 0 < bytes)
    (w : World) (v : Value) (hs : a.eval s = v) (xv : Value) (hx : a.eval x = xv) (n : Nat) (cells : List Value) (hb : Blk w base e size v n cells) (m : Nat) (news : List Value) (hsrc : Src w xv m size news) (h1 : ∀ u ∈ news, u.oneCell' = true)
    (hbytes : (n + m) * bytes ≤ 140737488355328) (hbase : base ≤ w.heap.size) {E : Prop}
    (h : ∀ v1 w1, Blk w1 base e size v1 (n + m) (cells ++ news) → w.grownBy w1 v.ownBlock → (v1.ownBlock = v.ownBlock ∨ v1.ownBlock = some w.heap.size) → K (a.put o.dst v1) w1) :
    if Region.wanted o (yielded ops a.tmps) = true then Oper.wp P o a w K Q else E := by
  have hw : Region.wanted o (yielded ops a.tmps) = true := by simp [Region.wanted, hgd]
  rw [if_pos hw]
  obtain ⟨v', w', hrun, r1, r2, r3⟩ := run_append_blk (P := P) w base t o.type e z size bytes ht hinfo hzs v n cells hb xv m news hsrc h1 hb0 hbytes hbase
  unfold Oper.wp execOp
  simp only [ho, resolve, invoke, builtin, Sem.run_bind, Sem.run_pure, Result.andThen_ok, List.map_toArray, List.map_cons, List.map_nil, hs, hx, hrun]
  exact h v' w' r1 r2 r3
end
theorem Blk.nil (w : World) (base e size : Nat) : Blk w base e size (.slice none 0 0) 0 [] := ⟨by simp, .inl ⟨rfl, rfl⟩⟩
/-- Where the rows of two types are told apart. -/
theorem Blk.other {base e size n : Nat} {v : Value} {cells : List Value} (h : Blk w base e size v n cells) {row : Option Nat} (hg : w.grownBy w' row) (hne : ∀ k, row = some k → ∃ cur t fr, w.heap[k]? = some (.cells cur t fr) ∧ t ≠ e) : Blk w' base e size v n cells := h.kept fun k hk => by
  refine hg.block k (h.lt k hk).2 fun e' => ?_
  obtain ⟨cur, t, fr, hc, ht⟩ := hne k e'.symm
  obtain ⟨cur', fr', hc'⟩ := h.type k hk
  rw [hc] at hc'; simp at hc'; exact ht hc'.2.1
theorem Blk.types {base e size n : Nat} {v : Value} {cells : List Value} (h : Blk w base e size v n cells) {e' : Nat} (hne : e ≠ e') : ∀ k, v.ownBlock = some k → ∃ cur t fr, w.heap[k]? = some (.cells cur t fr) ∧ t ≠ e' := fun k hk => by
  obtain ⟨cur, fr, hc⟩ := h.type k hk
  exact ⟨cur, e, fr, hc, hne⟩

theorem addr_of_cell {w : World} {a : Addr} {v : Value} (h : w.cell? a = some v) : a = ⟨a.block, a.off, none⟩ := by
  obtain ⟨b, o, s⟩ := a
  cases s with
  | none => rfl
  | some s =>
    unfold World.cell? at h
    split at h <;> simp at h

/-- Bytes that came in. -/
theorem slice_of_ints {w : World} {a : Addr} {len cap : Nat} {zs : List Int} (hl : len ≤ cap) (hm : cap ≤ maxLen) (hz : zs.length = cap) (hc : ∀ i, i < zs.length → w.cell? (a.add i) = some (.int .u8 (zs.getD i 0)))
    (hw : ∀ n ∈ zs, (Lit.int .u8 n).wf = true) : ∃ xs, SliceR Rp.byte (fun _ _ => True) w xs (.slice (some a) len cap) := by
  have hb : ∀ n ∈ zs, 0 ≤ n ∧ n < 256 := fun n hn => by
    have := hw n hn
    simp [Lit.wf] at this
    have h1 : IntKind.u8.min = 0 := rfl
    have h2 : IntKind.u8.max = 255 := rfl
    omega
  have hlen : ((zs.take len).map fun n => UInt8.ofNat n.toNat).length = len := by simp; omega
  have hcell : bytesV ((zs.take len).map fun n => UInt8.ofNat n.toNat) = (zs.take len).map (Value.int .u8) := by
    unfold bytesV
    rw [List.map_map]
    apply List.map_congr_left
    intro n hn
    have := hb n (List.mem_of_mem_take hn)
    simp; omega
  refine ⟨(zs.take len).map fun n => UInt8.ofNat n.toNat, some a, cap, bytesV _, by rw [hlen], by rw [hlen]; exact hl, by rw [hlen]; exact Nat.le_trans hl hm, hm, bytes_reps _ _ _, fun h => by simp at h, fun hne => ?_⟩
  have h0 : 0 < zs.length := by
    rcases Nat.eq_zero_or_pos zs.length with h | h
    · exfalso; apply hne; rw [List.length_eq_zero_iff] at h; subst h; simp [bytesV]
    · exact h
  have ha := addr_of_cell (hc 0 h0)
  have ha' : a = ⟨a.block, a.off, none⟩ := by simpa [Addr.add] using ha
  refine ⟨a.block, a.off, by rw [← ha'], fun j u hu => ⟨?_, trivial⟩⟩
  rw [hcell] at hu
  have hj : j < len := by
    have := (List.getElem?_eq_some_iff.1 hu).1
    simp at this; omega
  have := hc j (by omega)
  rw [ha', addr_add] at this
  rw [this, ← hu]
  simp [List.getD, hj, show j < zs.length by omega]

/-- A text out of its bytes. -/
def mkS (xs : List UInt8) : ByteArray := ⟨xs.toArray⟩
theorem mkS_size (xs : List UInt8) : (mkS xs).size = xs.length := rfl
theorem mkS_data (xs : List UInt8) : (mkS xs).data.toList = xs := rfl
theorem mkS_inj {xs ys : List UInt8} (h : mkS xs = mkS ys) : xs = ys := by have := congrArg (fun s => s.data.toList) h; simpa [mkS] using this
theorem mkS_of (s : ByteArray) : mkS s.data.toList = s := rfl

theorem str_beq (s t : ByteArray) : (s == t) = decide (s = t) := by
  have h : (s == t) = (s.data == t.data) := rfl
  rw [h, Bool.eq_iff_iff, beq_iff_eq, decide_eq_true_eq]
  constructor
  · intro e; cases s; cases t; simp at e; subst e; rfl
  · intro e; rw [e]
theorem str_bne (s t : ByteArray) : (s != t) = !decide (s = t) := by rw [bne, str_beq]
theorem str_beq_self (s : ByteArray) : (s == s) = true := by rw [str_beq]; simp
theorem str_bne_self (s : ByteArray) : (s != s) = false := by rw [str_bne]; simp

/-- 'string(b)'. -/
theorem SliceR.toStr {P : Program} {xs : List UInt8} {A : Option Addr} {n c : Nat} (h : SliceR Rp.byte L w xs (.slice A n c)) (src e dst : TypeId) (hs : P.underlying src = some (.slice e)) (he : P.underlying e = some (.int .u8)) (hd : P.underlying dst = some .string) :
    (convert src dst (.slice A n c)).run P w = .ok (.string (mkS xs)) w := by
  obtain ⟨A', c', hh, _⟩ := h.form
  injection hh with e1 e2 e3
  subst e1 e2 e3
  by_cases hx : xs = []
  · subst hx
    cases A with
    | none => exact run_convert_bytes_nil w src e hs he 0 c dst hd
    | some a =>
      rw [run_convert_bytes_string w src dst e _ _ c hs he hd]
      exact run_bytesToString w a 0 c [] (by simp [loadCells, loadCellsFrom])
  · have hpos : 0 < xs.length := List.length_pos_iff.2 hx
    obtain ⟨b, off, rfl, _⟩ := bytes_at h 0 hpos
    have hc : ∀ i, i < xs.length → w.cell? ⟨b, off + i, none⟩ = some (.int .u8 ((xs.map fun b => (b.toNat : Int)).getD i 0)) := by
      intro i hi
      obtain ⟨b', off', hA, hcell, _⟩ := bytes_at h i hi
      simp at hA
      obtain ⟨rfl, rfl⟩ := hA
      rw [hcell]; simp [List.getD, List.getElem?_eq_getElem hi]
    have := run_convert_bytes_arg (P := P) w src e hs he b off xs.length c (xs.map fun b => (b.toNat : Int)) (by simp) hc dst hd
    rw [this]
    congr 2
    simp only [strOfNums, mkS, List.map_map]
    congr 2
    exact (List.map_congr_left (fun x _ => by simp)).trans (List.map_id _)

/-- Behind a call that left all that was there: old cells and old marks read as before. -/
theorem bcell {B : Nat} {W w1 : World} (hb : Below B W w1) : (∀ b o, b < B → w1.cell? ⟨b, o, none⟩ = W.cell? ⟨b, o, none⟩) ∧ (∀ b o, b < B → w1.frozen? ⟨b, o, none⟩ = W.frozen? ⟨b, o, none⟩) :=
  ⟨fun b o h => hb.cell (p := ⟨b, o, none⟩) h, fun b o h => hb.frozen (p := ⟨b, o, none⟩) h⟩

theorem sub_any {Lb : Live} {w w' : World} (hb : Below w.heap.size w w') : Sub Lb w (fun _ _ => True) w' := fun _ _ _ => ⟨trivial, fun _ hu => (hb.cell (World.block_lt_of_cell? w _ hu)).trans hu⟩

section
variable {P : Program} {ops : Array Oper} {rest : List Oper} {o : Oper} {a : Act} {Q : Exit → Act → World → Prop}
/-- '[]byte(s)' , at a plain region's operation. -/
theorem wpList_bytes (hgd : o.guard = none) (x : Operand) (src dst e : TypeId) {u : TypeDesc} (ho : o.op = .convert src dst x) (hs : P.underlying src = some u) (hd : P.underlying dst = some (.slice e)) (he : P.underlying e = some (.int .u8))
    (w : World) (base B : Nat) (hB : w.heap.size = B) (s : ByteArray) (hx : a.eval x = .string s) (hb : base ≤ B) (hsz : s.size ≤ 140737488355328)
    (h : ∀ c w1, Blk w1 base e 1 (.slice (some ⟨B, 0, none⟩) s.size c) s.size (bytesV s.data.toList) → Below B w w1 → w1.heap.size = B + 1 → wpList P ops Q rest (a.put o.dst (.slice (some ⟨B, 0, none⟩) s.size c)) w1) : wpList P ops Q (o :: rest) a w := by
  subst hB
  refine wpList_plain hgd fun K hK => ?_
  have hrun := Lib.run_convert_string_bytes (P := P) w src dst e s hs hd he
  unfold Oper.wp execOp
  simp only [ho, hx, hrun, Sem.run_bind, Sem.run_pure, Result.andThen_ok]
  exact hK _ _ (h _ _ (bytes_blk w base e s hb hsz) (bytes_below w e s) (Lib.bytesWorld_size w e s))
end
end Go.Proofs.Ytojcciciinklbaa
