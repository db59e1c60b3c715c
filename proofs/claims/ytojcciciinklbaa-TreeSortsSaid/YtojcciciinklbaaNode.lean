/- Nodes, as they lie in memory. No claim by itself. -/
import Derived.Test.YtojcciciinklbaaPath1
import Derived.Test.YtojcciciinklbaaOpen
set_option linter.unusedVariables false
namespace Go.Proofs.Ytojcciciinklbaa
open Go.RowKit

/-- A node's own fields. -/
structure Own where
  kind : Int
  name : ByteArray
  mode : Int
  uid : Int
  gid : Int
  mtime : Int
  data : List UInt8
  target : ByteArray
  major : Int
  minor : Int
  attrs : List (ByteArray × ByteArray)
deriving Inhabited
/-- A node, and all below it. -/
inductive Nd where
  | mk (o : Own) (ks : List Nd)
deriving Inhabited
def Nd.own : Nd → Own | .mk o _ => o
def Nd.kids : Nd → List Nd | .mk _ ks => ks

/-- An attribute. -/
def attrR : Rp (ByteArray × ByteArray) where
  sz := 2
  R := fun _ _ x cs => cs = [.string x.1, .string x.2] ∧ x.1.size ≤ big ∧ x.2.size ≤ big
  len := fun h => by obtain ⟨rfl, _⟩ := h; rfl
  mono := fun _ h => h
  one := fun h u hu => by
    obtain ⟨rfl, _⟩ := h
    simp at hu
    rcases hu with rfl | rfl <;> rfl
theorem attrR_any {L L' : Live} {w w' : World} {x : ByteArray × ByteArray} {cs : List Value} (h : attrR.R L w x cs) : attrR.R L' w' x cs := h

/-- A whole number of 64 bits. -/
def I64 (n : Int) : Prop := -9223372036854775808 ≤ n ∧ n ≤ 9223372036854775807
/-- The numbers and texts fit. -/
structure Fits (o : Own) : Prop where
  kind : I64 o.kind
  mode : I64 o.mode
  uid : I64 o.uid
  gid : I64 o.gid
  mtime : I64 o.mtime
  major : I64 o.major
  minor : I64 o.minor
  name : o.name.size ≤ big
  target : o.target.size ≤ big

/-- A node's cells. -/
def nodeV (o : Own) (vd va vk : Value) : List Value := [.int .i64 o.kind, .string o.name, .int .i64 o.mode, .int .i64 o.uid, .int .i64 o.gid, .int .i64 o.mtime, vd, .string o.target, .int .i64 o.major, .int .i64 o.minor, va, vk]

theorem slice_one {α : Type} {d : Rp α} {L : Live} {w : World} {xs : List α} {v : Value} (h : SliceR d L w xs v) : v.oneCell' = true := by
  obtain ⟨A, c, rfl, _⟩ := h.form; rfl

theorem nodeV_one {o : Own} {vd va vk : Value} (h1 : vd.oneCell' = true) (h2 : va.oneCell' = true) (h3 : vk.oneCell' = true) : ∀ u ∈ nodeV o vd va vk, u.oneCell' = true := by
  intro u hu
  simp [nodeV] at hu
  rcases hu with rfl | rfl | rfl | rfl | rfl | rfl | rfl | rfl | rfl | rfl | rfl | rfl <;> first | rfl | assumption

/-- A node of at most so many floors, as it lies. -/
def nodeR : Nat → Rp Nd
  | 0 => { sz := 12, R := fun _ _ _ _ => False, len := fun h => h.elim, mono := fun _ h => h, one := fun h => h.elim }
  | n + 1 => {
      sz := 12
      R := fun L w x cs => ∃ vd va vk, cs = nodeV x.own vd va vk ∧ Fits x.own ∧ SliceR Rp.byte L w x.own.data vd ∧ SliceR attrR L w x.own.attrs va ∧ SliceR (nodeR n) L w x.kids vk
      len := fun h => by obtain ⟨vd, va, vk, rfl, _⟩ := h; rfl
      mono := fun hs h => by
        obtain ⟨vd, va, vk, rfl, hf, h1, h2, h3⟩ := h
        exact ⟨vd, va, vk, rfl, hf, h1.mono hs, h2.mono hs, h3.mono hs⟩
      one := fun h => by
        obtain ⟨vd, va, vk, rfl, hf, h1, h2, h3⟩ := h
        exact nodeV_one (slice_one h1) (slice_one h2) (slice_one h3) }
theorem nodeR_sz (n : Nat) : (nodeR n).sz = 12 := by cases n <;> rfl
theorem sub_same {L : Live} {w w' : World} (hb : Below w.heap.size w w') : Sub L w L w' := fun _ _ hl => ⟨hl, fun _ hu => (hb.cell (World.block_lt_of_cell? w _ hu)).trans hu⟩

/-- A node's twelve cells, in memory. -/
structure NodeAt (w : World) (b o : Nat) (x : Own) (vd va vk : Value) : Prop where
  c0 : w.cell? ⟨b, o, none⟩ = some (.int .i64 x.kind)
  c1 : w.cell? ⟨b, o + 1, none⟩ = some (.string x.name)
  c2 : w.cell? ⟨b, o + 2, none⟩ = some (.int .i64 x.mode)
  c3 : w.cell? ⟨b, o + 3, none⟩ = some (.int .i64 x.uid)
  c4 : w.cell? ⟨b, o + 4, none⟩ = some (.int .i64 x.gid)
  c5 : w.cell? ⟨b, o + 5, none⟩ = some (.int .i64 x.mtime)
  c6 : w.cell? ⟨b, o + 6, none⟩ = some vd
  c7 : w.cell? ⟨b, o + 7, none⟩ = some (.string x.target)
  c8 : w.cell? ⟨b, o + 8, none⟩ = some (.int .i64 x.major)
  c9 : w.cell? ⟨b, o + 9, none⟩ = some (.int .i64 x.minor)
  c10 : w.cell? ⟨b, o + 10, none⟩ = some va
  c11 : w.cell? ⟨b, o + 11, none⟩ = some vk
theorem NodeAt.below {w w' : World} {b o : Nat} {x : Own} {vd va vk : Value} (h : NodeAt w b o x vd va vk) (hb : Below w.heap.size w w') : NodeAt w' b o x vd va vk := by
  have k : ∀ {p : Addr} {u : Value}, w.cell? p = some u → w'.cell? p = some u := fun hu => (hb.cell (World.block_lt_of_cell? w _ hu)).trans hu
  exact ⟨k h.c0, k h.c1, k h.c2, k h.c3, k h.c4, k h.c5, k h.c6, k h.c7, k h.c8, k h.c9, k h.c10, k h.c11⟩
theorem NodeAt.all {w : World} {b o : Nat} {x : Own} {vd va vk : Value} (h : NodeAt w b o x vd va vk) :
    w.cell? ⟨b, o, none⟩ = some (.int .i64 x.kind) ∧ w.cell? ⟨b, o + 1, none⟩ = some (.string x.name) ∧ w.cell? ⟨b, o + 2, none⟩ = some (.int .i64 x.mode) ∧ w.cell? ⟨b, o + 3, none⟩ = some (.int .i64 x.uid) ∧ w.cell? ⟨b, o + 4, none⟩ = some (.int .i64 x.gid) ∧ w.cell? ⟨b, o + 5, none⟩ = some (.int .i64 x.mtime) ∧
    w.cell? ⟨b, o + 6, none⟩ = some vd ∧ w.cell? ⟨b, o + 7, none⟩ = some (.string x.target) ∧ w.cell? ⟨b, o + 8, none⟩ = some (.int .i64 x.major) ∧ w.cell? ⟨b, o + 9, none⟩ = some (.int .i64 x.minor) ∧ w.cell? ⟨b, o + 10, none⟩ = some va ∧ w.cell? ⟨b, o + 11, none⟩ = some vk :=
  ⟨h.c0, h.c1, h.c2, h.c3, h.c4, h.c5, h.c6, h.c7, h.c8, h.c9, h.c10, h.c11⟩

/-- What is known of a node: its parts. -/
structure NodeP (n : Nat) (L : Live) (w : World) (x : Nd) (vd va vk : Value) : Prop where
  fits : Fits x.own
  data : SliceR Rp.byte L w x.own.data vd
  attrs : SliceR attrR L w x.own.attrs va
  kids : SliceR (nodeR n) L w x.kids vk
theorem NodeP.mono {n : Nat} {L L' : Live} {w w' : World} {x : Nd} {vd va vk : Value} (h : NodeP n L w x vd va vk) (hs : Sub L w L' w') : NodeP n L' w' x vd va vk := ⟨h.fits, h.data.mono hs, h.attrs.mono hs, h.kids.mono hs⟩
theorem NodeP.mk' {n : Nat} {L : Live} {w : World} {x : Nd} {vd va vk : Value} (h : NodeP n L w x vd va vk) : (nodeR (n + 1)).R L w x (nodeV x.own vd va vk) := ⟨vd, va, vk, rfl, h.fits, h.data, h.attrs, h.kids⟩
/-- A node is some floors high, and its parts are slices. -/
theorem node_open {n : Nat} {L : Live} {w : World} {x : Nd} {cs : List Value} (h : (nodeR n).R L w x cs) : ∃ m Ad cd Aa ca Ak ck, n = m + 1 ∧ cs = nodeV x.own (.slice Ad x.own.data.length cd) (.slice Aa x.own.attrs.length ca) (.slice Ak x.kids.length ck) ∧ NodeP m L w x (.slice Ad x.own.data.length cd) (.slice Aa x.own.attrs.length ca) (.slice Ak x.kids.length ck) ∧
    x.own.data.length ≤ cd ∧ cd ≤ 9223372036854775807 ∧ x.own.attrs.length ≤ ca ∧ ca ≤ 9223372036854775807 ∧ x.kids.length ≤ ck ∧ ck ≤ 9223372036854775807 := by
  cases n with
  | zero => exact h.elim
  | succ m =>
    obtain ⟨vd, va, vk, rfl, hf, h1, h2, h3⟩ := h
    obtain ⟨Ad, cd, rfl, d1, d2, d3⟩ := h1.form
    obtain ⟨Aa, ca, rfl, a1, a2, a3⟩ := h2.form
    obtain ⟨Ak, ck, rfl, k1, k2, k3⟩ := h3.form
    exact ⟨m, Ad, cd, Aa, ca, Ak, ck, rfl, rfl, ⟨hf, h1, h2, h3⟩, d1, d3, a1, a3, k1, k3⟩
/-- The i-th of a list of nodes. -/
theorem nodes_at {n : Nat} {L : Live} {w : World} {xs : List Nd} {A : Option Addr} {len c : Nat} (h : SliceR (nodeR n) L w xs (.slice A len c)) (i : Nat) (hi : i < xs.length) : ∃ b off cs, A = some ⟨b, off, none⟩ ∧ (nodeR n).R L w xs[i] cs ∧ ∀ vd va vk, cs = nodeV xs[i].own vd va vk → NodeAt w b (off + i * 12) xs[i].own vd va vk := by
  obtain ⟨b, off, cs, hA, hR, hc⟩ := h.get (by rw [nodeR_sz]; decide) i hi
  refine ⟨b, off, cs, hA, hR, fun vd va vk e => ?_⟩
  rw [nodeR_sz] at hc
  subst e
  exact ⟨(hc 0 _ rfl).1, (hc 1 _ rfl).1, (hc 2 _ rfl).1, (hc 3 _ rfl).1, (hc 4 _ rfl).1, (hc 5 _ rfl).1, (hc 6 _ rfl).1, (hc 7 _ rfl).1, (hc 8 _ rfl).1, (hc 9 _ rfl).1, (hc 10 _ rfl).1, (hc 11 _ rfl).1⟩

/-! ### Numbers of nodes -/
mutual
def count : Nd → Nat
  | .mk _ ks => countL ks + 1
def countL : List Nd → Nat
  | [] => 0
  | k :: ks => count k + countL ks
end
mutual
def depth : Nd → Nat
  | .mk _ ks => depthL ks
def depthL : List Nd → Nat
  | [] => 0
  | k :: ks => max (depth k + 1) (depthL ks)
end
theorem count_eq (x : Nd) : count x = countL x.kids + 1 := by cases x; rfl
theorem depth_eq (x : Nd) : depth x = depthL x.kids := by cases x; rfl
theorem countL_app : ∀ (xs ys : List Nd), countL (xs ++ ys) = countL xs + countL ys
  | [], ys => by simp [countL]
  | x :: xs, ys => by simp [countL, countL_app xs ys]; omega
theorem depthL_app : ∀ (xs ys : List Nd), depthL (xs ++ ys) = max (depthL xs) (depthL ys)
  | [], ys => by simp [depthL]
  | x :: xs, ys => by simp only [List.cons_append, depthL, depthL_app xs ys]; omega
theorem countL_take {xs : List Nd} {k : Nat} (h : k < xs.length) : countL (xs.take (k + 1)) = countL (xs.take k) + count xs[k] := by
  rw [List.take_succ_eq_append_getElem h, countL_app]; simp [countL]
theorem depthL_take {xs : List Nd} {k : Nat} (h : k < xs.length) : depthL (xs.take (k + 1)) = max (depthL (xs.take k)) (depth xs[k] + 1) := by
  rw [List.take_succ_eq_append_getElem h, depthL_app]; simp [depthL]
theorem countL_le {xs : List Nd} (k : Nat) : countL (xs.take k) ≤ countL xs := by
  have := countL_app (xs.take k) (xs.drop k)
  rw [List.take_append_drop] at this; omega
theorem countL_mem {xs : List Nd} {k : Nat} (h : k < xs.length) : count xs[k] ≤ countL xs := by
  have h1 := countL_take h
  have h2 := countL_le (xs := xs) (k + 1)
  omega
theorem countL_len : ∀ xs : List Nd, xs.length ≤ countL xs
  | [] => by simp
  | x :: xs => by have := countL_len xs; rw [countL, count_eq]; simp; omega
theorem depthL_le : ∀ (xs : List Nd), depthL xs ≤ countL xs
  | [] => by simp [depthL]
  | .mk o ks :: xs => by
    have h1 := depthL_le ks
    have h2 := depthL_le xs
    simp only [depthL, depth, countL, count]; omega
end Go.Proofs.Ytojcciciinklbaa
