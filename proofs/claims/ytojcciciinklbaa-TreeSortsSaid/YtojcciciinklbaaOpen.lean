/- What came in, as it is read: lists of whatever is told of cell by cell. No claim by itself. -/
import Derived.Test.YtojcciciinklbaaBase
import Derived.ProofKit
import Derived.ChangeArms
import Derived.Deep.Strs
import Derived.Lib.SmallJoins
set_option linter.unusedVariables false
namespace Go.Proofs.Ytojcciciinklbaa
open Go.RowKit

/-- An int, in its range. -/
def Rp.i64 : Rp Int where
  sz := 1
  R := fun _ _ x cs => cs = [.int .i64 x] ∧ -9223372036854775808 ≤ x ∧ x ≤ 9223372036854775807
  len := fun h => by obtain ⟨rfl, _⟩ := h; rfl
  mono := fun _ h => h
  one := fun h u hu => by obtain ⟨rfl, _⟩ := h; simp at hu; subst hu; rfl
/-- A bool. -/
def Rp.bool : Rp Bool where
  sz := 1
  R := fun _ _ x cs => cs = [.bool x]
  len := fun h => by subst h; rfl
  mono := fun _ h => h
  one := fun h u hu => by subst h; simp at hu; subst hu; rfl

def All : Live := fun _ _ => True

section
variable {H : Type} {enc : TypeId × Value → H} {P : Program} {w : World} {base : Nat} {spare : Nat → Bool} {held : Bool} {α β : Type}

/-- Whatever reads as a value of the type is of the kind. -/
def Opens (enc : TypeId × Value → H) (P : Program) (w : World) (base : Nat) (spare : Nat → Bool) (held : Bool) (e : TypeId) (d : Rp α) : Prop :=
  ∀ (fuel : Nat) (cs : List Value) (x : DataW H × List MemPlace), DataW.trod enc P w base spare held fuel e cs = some x → ∃ y, d.R All w y cs

theorem wf_i64 {n : Int} (h : (Lit.int .i64 n).wf = true) : -9223372036854775808 ≤ n ∧ n ≤ 9223372036854775807 := by
  simp [Lit.wf] at h
  have h1 : IntKind.i64.min = -9223372036854775808 := rfl
  have h2 : IntKind.i64.max = 9223372036854775807 := rfl
  omega
theorem wf_u8 {n : Int} (h : (Lit.int .u8 n).wf = true) : 0 ≤ n ∧ n < 256 := by
  simp [Lit.wf] at h
  have h1 : IntKind.u8.min = 0 := rfl
  have h2 : IntKind.u8.max = 255 := rfl
  omega
theorem opens_i64 {e : TypeId} (he : P.underlying e = some (.int .i64)) : Opens enc P w base spare held e Rp.i64 := fun fuel cs x h => by
  obtain ⟨n, rfl, _, hw⟩ := DataW.trod_int he h
  exact ⟨n, rfl, wf_i64 hw⟩
theorem opens_byte {e : TypeId} (he : P.underlying e = some (.int .u8)) : Opens enc P w base spare held e Rp.byte := fun fuel cs x h => by
  obtain ⟨n, rfl, _, hw⟩ := DataW.trod_int he h
  have := wf_u8 hw
  refine ⟨UInt8.ofNat n.toNat, ?_⟩
  show [Value.int .u8 n] = [.int .u8 ((UInt8.ofNat n.toNat).toNat : Int)]
  simp; omega
theorem opens_str {e : TypeId} (he : P.underlying e = some .string) : Opens enc P w base spare held e Rp.str := fun fuel cs x h => by
  obtain ⟨s, rfl, _, hw⟩ := DataW.trod_string he h
  exact ⟨s, rfl, hw⟩
theorem opens_bool {e : TypeId} (he : P.underlying e = some .bool) : Opens enc P w base spare held e Rp.bool := fun fuel cs x h => by
  cases fuel with
  | zero => simp [DataW.trod] at h
  | succ n =>
    unfold DataW.trod at h
    rw [he] at h
    split at h <;> try simp at h
    all_goals first | exact ⟨_, rfl⟩ | skip
    all_goals simp_all

theorem add_add (a : Addr) (i j : Nat) : (a.add i).add j = a.add (i + j) := by
  unfold Addr.add
  by_cases hi : i = 0
  · subst hi; simp
  · by_cases hj : j = 0
    · subst hj; simp
    · simp [hi, hj]; omega
theorem cells_get {a : Addr} {n : Nat} {cs : List Value} (h : w.cells? base a n = some cs) : cs.length = n ∧ ∀ j u, cs[j]? = some u → w.cell? (a.add j) = some u := by
  obtain ⟨_, hl, hc⟩ := World.cells?_some h
  refine ⟨hl, fun j u hu => ?_⟩
  have hj := (List.getElem?_eq_some_iff.1 hu).1
  rw [hc j (by omega)]; exact hu

theorem opens_slice {t e : TypeId} {d : Rp α} (ht : P.underlying t = some (.slice e)) (hc : P.cellsOf e = d.sz) (he : Opens enc P w base spare held e d) (fuel : Nat) (cs : List Value) (x : DataW H × List MemPlace) (h : DataW.trod enc P w base spare held fuel t cs = some x) :
    ∃ v xs, cs = [v] ∧ SliceR d All w xs v := by
  rcases DataW.trod_slice ht h with ⟨rfl, _⟩ | ⟨a, len, cap, elems, rest, n, _, rfl, _, hb, hl, hm, hlen, hel, _, _⟩
  · exact ⟨_, [], rfl, SliceR.nil _ _ _⟩
  have build : ∀ m, m ≤ len → ∃ xs cells, Reps d All w xs cells ∧ xs.length = m ∧ ∀ j u, cells[j]? = some u → w.cell? (a.add j) = some u := by
    intro m
    induction m with
    | zero => intro _; exact ⟨[], [], .nil, rfl, fun j u hu => by simp at hu⟩
    | succ m ih =>
      intro hm'
      obtain ⟨xs, cells, hr, hx, hcc⟩ := ih (by omega)
      have h1 := hel m (by omega)
      rw [List.getElem?_eq_getElem (show m < elems.length by omega), Option.bind_eq_some_iff] at h1
      obtain ⟨cm, hcm, htr⟩ := h1
      obtain ⟨y, hy⟩ := he _ _ _ htr
      obtain ⟨hcl, hcg⟩ := cells_get hcm
      refine ⟨xs ++ [y], cells ++ cm, hr.append (.single hy), by simp [hx], fun j u hu => ?_⟩
      have hcells := hr.length
      by_cases hj : j < cells.length
      · rw [List.getElem?_append_left hj] at hu; exact hcc j u hu
      · rw [List.getElem?_append_right (by omega)] at hu
        have := hcg _ u hu
        rw [add_add] at this
        rwa [show m * P.cellsOf e + (j - cells.length) = j from by rw [hc]; rw [hx] at hcells; omega] at this
  obtain ⟨xs, cells, hr, hx, hcc⟩ := build len (Nat.le_refl _)
  refine ⟨_, xs, rfl, some a, cap, cells, by rw [hx], by omega, by rw [hx]; exact Nat.le_trans hl hm, hm, hr, fun e => by simp at e, fun hne => ?_⟩
  have h0 : 0 < cells.length := List.length_pos_iff.2 hne
  have ha := addr_of_cell (hcc 0 _ (List.getElem?_eq_getElem h0))
  have ha' : a = ⟨a.block, a.off, none⟩ := by simpa [Addr.add] using ha
  refine ⟨a.block, a.off, by rw [← ha'], fun j u hu => ⟨?_, trivial⟩⟩
  have := hcc j u hu
  rw [ha', addr_add] at this
  exact this
theorem opens_list {t e : TypeId} {d : Rp α} (ht : P.underlying t = some (.slice e)) (hc : P.cellsOf e = d.sz) (he : Opens enc P w base spare held e d) : Opens enc P w base spare held t (Rp.slice d) := fun fuel cs x h => by
  obtain ⟨v, xs, rfl, hS⟩ := opens_slice ht hc he fuel cs x h
  exact ⟨xs, v, rfl, hS⟩
/-- An argument that is a slice. -/
theorem arg_slice {t e : TypeId} {d : Rp α} (ht : P.underlying t = some (.slice e)) (hc : P.cellsOf e = d.sz) (he : Opens enc P w base spare held e d) {A : Option Addr} {n c : Nat} {dd : DataW H} {ps : List MemPlace} (h : DataW.Trod enc P w base spare held t (.slice A n c) dd ps) : ∃ xs, SliceR d All w xs (.slice A n c) := by
  obtain ⟨fuel, hf⟩ := h
  obtain ⟨v, xs, hv, hS⟩ := opens_slice ht hc he fuel _ _ hf
  simp [Value.cells] at hv
  subst hv
  exact ⟨xs, hS⟩
end
end Go.Proofs.Ytojcciciinklbaa

/- What came in, as it is read, of the memory that is there. No claim by itself. -/
set_option linter.unusedVariables false
namespace Go.Proofs.Ytojcciciinklbaa
open Go.RowKit

/-- All that is there lives. -/
def Lw (w : World) : Live := fun b _ => b < w.heap.size
theorem Lw_ok (w : World) : LOk (Lw w) w := fun _ _ h => h
section
variable {H : Type} {enc : TypeId × Value → H} {P : Program} {w : World} {base : Nat} {spare : Nat → Bool} {held : Bool} {α β : Type}
/-- Whatever reads as a value of the type is of the kind. -/
def OpensL (enc : TypeId × Value → H) (P : Program) (w : World) (base : Nat) (spare : Nat → Bool) (held : Bool) (e : TypeId) (d : Rp α) : Prop :=
  ∀ (fuel : Nat) (cs : List Value) (x : DataW H × List MemPlace), DataW.trod enc P w base spare held fuel e cs = some x → ∃ y, d.R (Lw w) w y cs

theorem opens_i64L {e : TypeId} (he : P.underlying e = some (.int .i64)) : OpensL enc P w base spare held e Rp.i64 := fun fuel cs x h => by
  obtain ⟨n, rfl, _, hw⟩ := DataW.trod_int he h
  exact ⟨n, rfl, wf_i64 hw⟩
theorem opens_byteL {e : TypeId} (he : P.underlying e = some (.int .u8)) : OpensL enc P w base spare held e Rp.byte := fun fuel cs x h => by
  obtain ⟨n, rfl, _, hw⟩ := DataW.trod_int he h
  have := wf_u8 hw
  refine ⟨UInt8.ofNat n.toNat, ?_⟩
  show [Value.int .u8 n] = [.int .u8 ((UInt8.ofNat n.toNat).toNat : Int)]
  simp; omega
theorem opens_strL {e : TypeId} (he : P.underlying e = some .string) : OpensL enc P w base spare held e Rp.str := fun fuel cs x h => by
  obtain ⟨s, rfl, _, hw⟩ := DataW.trod_string he h
  exact ⟨s, rfl, hw⟩
theorem opens_boolL {e : TypeId} (he : P.underlying e = some .bool) : OpensL enc P w base spare held e Rp.bool := fun fuel cs x h => by
  cases fuel with
  | zero => simp [DataW.trod] at h
  | succ n =>
    unfold DataW.trod at h
    rw [he] at h
    split at h <;> try simp at h
    all_goals first | exact ⟨_, rfl⟩ | skip
    all_goals simp_all

theorem opens_sliceL {t e : TypeId} {d : Rp α} (ht : P.underlying t = some (.slice e)) (hc : P.cellsOf e = d.sz) (he : OpensL enc P w base spare held e d) (fuel : Nat) (cs : List Value) (x : DataW H × List MemPlace) (h : DataW.trod enc P w base spare held fuel t cs = some x) :
    ∃ v xs, cs = [v] ∧ SliceR d (Lw w) w xs v := by
  rcases DataW.trod_slice ht h with ⟨rfl, _⟩ | ⟨a, len, cap, elems, rest, n, _, rfl, _, hb, hl, hm, hlen, hel, _, _⟩
  · exact ⟨_, [], rfl, SliceR.nil _ _ _⟩
  have build : ∀ m, m ≤ len → ∃ xs cells, Reps d (Lw w) w xs cells ∧ xs.length = m ∧ ∀ j u, cells[j]? = some u → w.cell? (a.add j) = some u := by
    intro m
    induction m with
    | zero => intro _; exact ⟨[], [], .nil, rfl, fun j u hu => by simp at hu⟩
    | succ m ih =>
      intro hm'
      obtain ⟨xs, cells, hr, hx, hcc⟩ := ih (by omega)
      have h1 := hel m (by omega)
      rw [List.getElem?_eq_getElem (show m < elems.length by omega), Option.bind_eq_some_iff] at h1
      obtain ⟨cm, hcm, htr⟩ := h1
      obtain ⟨y, hy⟩ := he _ _ _ htr
      obtain ⟨hcl, hcg⟩ := cells_get hcm
      refine ⟨xs ++ [y], cells ++ cm, hr.append (.single hy), by simp [hx], fun j u hu => ?_⟩
      have hcells := hr.length
      by_cases hj : j < cells.length
      · rw [List.getElem?_append_left hj] at hu; exact hcc j u hu
      · rw [List.getElem?_append_right (by omega)] at hu
        have := hcg _ u hu
        rw [add_add] at this
        rwa [show m * P.cellsOf e + (j - cells.length) = j from by rw [hc]; rw [hx] at hcells; omega] at this
  obtain ⟨xs, cells, hr, hx, hcc⟩ := build len (Nat.le_refl _)
  refine ⟨_, xs, rfl, some a, cap, cells, by rw [hx], by omega, by rw [hx]; exact Nat.le_trans hl hm, hm, hr, fun e => by simp at e, fun hne => ?_⟩
  have h0 : 0 < cells.length := List.length_pos_iff.2 hne
  have ha := addr_of_cell (hcc 0 _ (List.getElem?_eq_getElem h0))
  have ha' : a = ⟨a.block, a.off, none⟩ := by simpa [Addr.add] using ha
  refine ⟨a.block, a.off, by rw [← ha'], fun j u hu => ⟨?_, ?_⟩⟩
  · have := hcc j u hu
    rw [ha', addr_add] at this
    exact this
  · have := hcc 0 _ (List.getElem?_eq_getElem h0)
    rw [ha', addr_add] at this
    exact World.block_lt_of_cell? w ⟨a.block, a.off + 0, none⟩ this
theorem opens_listL {t e : TypeId} {d : Rp α} (ht : P.underlying t = some (.slice e)) (hc : P.cellsOf e = d.sz) (he : OpensL enc P w base spare held e d) : OpensL enc P w base spare held t (Rp.slice d) := fun fuel cs x h => by
  obtain ⟨v, xs, rfl, hS⟩ := opens_sliceL ht hc he fuel cs x h
  exact ⟨xs, v, rfl, hS⟩
/-- An argument that is a slice. -/
theorem arg_sliceL {t e : TypeId} {d : Rp α} (ht : P.underlying t = some (.slice e)) (hc : P.cellsOf e = d.sz) (he : OpensL enc P w base spare held e d) {A : Option Addr} {n c : Nat} {dd : DataW H} {ps : List MemPlace} (h : DataW.Trod enc P w base spare held t (.slice A n c) dd ps) : ∃ xs, SliceR d (Lw w) w xs (.slice A n c) := by
  obtain ⟨fuel, hf⟩ := h
  obtain ⟨v, xs, hv, hS⟩ := opens_sliceL ht hc he fuel _ _ hf
  simp [Value.cells] at hv
  subst hv
  exact ⟨xs, hS⟩
end
end Go.Proofs.Ytojcciciinklbaa
