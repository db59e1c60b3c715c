/- What came in, as it is read: what nodes are made of; attributes. No claim by itself. -/
import Derived.Test.YtojcciciinklbaaOpen
import Derived.Test.YtojcciciinklbaaRef1
set_option linter.unusedVariables false
namespace Go.Proofs.Ytojcciciinklbaa
open Go.RowKit
section
variable {H : Type} {enc : TypeId × Value → H} {w : World} {base : Nat} {spare : Nat → Bool} {held : Bool}
set_option maxRecDepth 100000 in
theorem opens_gv : OpensL enc Try.prog w base spare held 75 gR := fun fuel cs x h => by
  obtain ⟨xs, n, rfl, rfl, hl, hxl, hf⟩ := DataW.trod_struct Try.underlying75 h
  have hC : Try.prog.cellsOf 75 = 6 := by kernel_rfl
  have k3 : Try.prog.cellsOf 3 = 1 := by kernel_rfl
  have k9 : Try.prog.cellsOf 9 = 1 := by kernel_rfl
  have k22 : Try.prog.cellsOf 23 = 1 := by kernel_rfl
  match cs, hl.trans hC with
  | [c0, c1, c2, c3, c4, c5], _ =>
    match xs, hxl with
    | [y0, y1, y2, y3, y4, y5], _ =>
      have h0 : DataW.trod enc Try.prog w base spare held n 3 [c0] = some y0 := by simpa [k3] using hf 0 _ rfl
      have h1 : DataW.trod enc Try.prog w base spare held n 3 [c1] = some y1 := by simpa [k3] using hf 1 _ rfl
      have h2 : DataW.trod enc Try.prog w base spare held n 3 [c2] = some y2 := by simpa [k3] using hf 2 _ rfl
      have h3 : DataW.trod enc Try.prog w base spare held n 3 [c3] = some y3 := by simpa [k3] using hf 3 _ rfl
      have h4 : DataW.trod enc Try.prog w base spare held n 23 [c4] = some y4 := by simpa [k3, k22] using hf 4 _ rfl
      have h5 : DataW.trod enc Try.prog w base spare held n 9 [c5] = some y5 := by simpa [k3, k22, k9] using hf 5 _ rfl
      obtain ⟨a0, e0, b0⟩ := opens_i64L Try.underlying3 n _ _ h0
      obtain ⟨a1, e1, b1⟩ := opens_i64L Try.underlying3 n _ _ h1
      obtain ⟨a2, e2, b2⟩ := opens_i64L Try.underlying3 n _ _ h2
      obtain ⟨a3, e3, b3⟩ := opens_i64L Try.underlying3 n _ _ h3
      obtain ⟨v, ys, hv, hS⟩ := opens_sliceL (d := Rp.byte) Try.underlying23 (by kernel_rfl) (opens_byteL Try.underlying5) n _ _ h4
      obtain ⟨a5, e5, b5⟩ := opens_strL Try.underlying9 n _ _ h5
      simp only [List.cons.injEq, and_true] at e0 e1 e2 e3 hv e5
      subst e0 e1 e2 e3 hv e5
      exact ⟨⟨a0, a1, a2, a3, ys, a5⟩, _, rfl, ⟨b0, b1, b2, b3, b5⟩, hS⟩
set_option maxRecDepth 100000 in
theorem opens_attr : OpensL enc Try.prog w base spare held 88 attrR := fun fuel cs x h => by
  obtain ⟨xs, n, rfl, rfl, hl, hxl, hf⟩ := DataW.trod_struct Try.underlying88 h
  have hC : Try.prog.cellsOf 88 = 2 := by kernel_rfl
  have k9 : Try.prog.cellsOf 9 = 1 := by kernel_rfl
  match cs, hl.trans hC with
  | [c0, c1], _ =>
    match xs, hxl with
    | [y0, y1], _ =>
      have h0 : DataW.trod enc Try.prog w base spare held n 9 [c0] = some y0 := by simpa [k9] using hf 0 _ rfl
      have h1 : DataW.trod enc Try.prog w base spare held n 9 [c1] = some y1 := by simpa [k9] using hf 1 _ rfl
      obtain ⟨a0, e0, b0⟩ := opens_strL Try.underlying9 n _ _ h0
      obtain ⟨a1, e1, b1⟩ := opens_strL Try.underlying9 n _ _ h1
      simp only [List.cons.injEq, and_true] at e0 e1
      subst e0 e1
      exact ⟨(a0, a1), rfl, b0, b1⟩
end
/-- A list of what nodes are made of. -/
theorem arg_gs {H : Type} {enc : TypeId × Value → H} {w : World} {base : Nat} {spare : Nat → Bool} {held : Bool} {A : Option Addr} {n c : Nat} {dd : DataW H} {ps : List MemPlace} (h : DataW.Trod enc Try.prog w base spare held 33 (.slice A n c) dd ps) : ∃ xs, SliceR gR (Lw w) w xs (.slice A n c) :=
  arg_sliceL Try.underlying33 (by kernel_rfl) opens_gv h
theorem arg_attrs {H : Type} {enc : TypeId × Value → H} {w : World} {base : Nat} {spare : Nat → Bool} {held : Bool} {A : Option Addr} {n c : Nat} {dd : DataW H} {ps : List MemPlace} (h : DataW.Trod enc Try.prog w base spare held 24 (.slice A n c) dd ps) : ∃ xs, SliceR attrR (Lw w) w xs (.slice A n c) :=
  arg_sliceL Try.underlying24 (by kernel_rfl) opens_attr h
theorem arg_bytes {H : Type} {enc : TypeId × Value → H} {w : World} {base : Nat} {spare : Nat → Bool} {held : Bool} {A : Option Addr} {n c : Nat} {dd : DataW H} {ps : List MemPlace} (h : DataW.Trod enc Try.prog w base spare held 23 (.slice A n c) dd ps) : ∃ xs, SliceR Rp.byte (Lw w) w xs (.slice A n c) :=
  arg_sliceL Try.underlying23 (by kernel_rfl) (opens_byteL Try.underlying5) h
end Go.Proofs.Ytojcciciinklbaa
