/- What came in, as it is read: things that are done. No claim by itself. -/
import Derived.Test.YtigogjbngphadaaOpen
import Derived.Test.YtigogjbngphadaaLawPlays
set_option linter.unusedVariables false
namespace Go.Proofs.Ytigogjbngphadaa
open Go.RowKit
section
variable {H : Type} {enc : TypeId × Value → H} {w : World} {base : Nat} {spare : Nat → Bool} {held : Bool}
theorem opens_op : Opens enc Try.prog w base spare held 56 opR := fun fuel cs x h => by
  obtain ⟨xs, n, rfl, rfl, hl, hxl, hf⟩ := DataW.trod_struct Try.underlying56 h
  have hC : Try.prog.cellsOf 56 = 4 := by kernel_rfl
  have k3 : Try.prog.cellsOf 3 = 1 := by kernel_rfl
  have k22 : Try.prog.cellsOf 22 = 1 := by kernel_rfl
  match cs, hl.trans hC with
  | [c0, c1, c2, c3], _ =>
    match xs, hxl with
    | [y0, y1, y2, y3], _ =>
      have h0 : DataW.trod enc Try.prog w base spare held n 3 [c0] = some y0 := by simpa [k3] using hf 0 _ rfl
      have h1 : DataW.trod enc Try.prog w base spare held n 3 [c1] = some y1 := by simpa [k3] using hf 1 _ rfl
      have h2 : DataW.trod enc Try.prog w base spare held n 3 [c2] = some y2 := by simpa [k3] using hf 2 _ rfl
      have h3 : DataW.trod enc Try.prog w base spare held n 22 [c3] = some y3 := by simpa [k22] using hf 3 _ rfl
      obtain ⟨a, ha, hb⟩ := opens_i64 Try.underlying3 n _ _ h0
      obtain ⟨b, hb', _⟩ := opens_i64 Try.underlying3 n _ _ h1
      obtain ⟨c, hc, _⟩ := opens_i64 Try.underlying3 n _ _ h2
      obtain ⟨v, ys, hv, hS⟩ := opens_slice (d := Rp.byte) Try.underlying22 (by kernel_rfl) (opens_byte Try.underlying5) n _ _ h3
      simp only [List.cons.injEq, and_true] at ha hb' hc hv
      subst ha hb' hc hv
      exact ⟨(a, b, c, ys), _, rfl, hS, hb⟩
end
end Go.Proofs.Ytigogjbngphadaa
