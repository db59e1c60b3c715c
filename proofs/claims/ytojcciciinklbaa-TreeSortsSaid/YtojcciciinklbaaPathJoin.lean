/- Walks: what is joined, as the path says it. No claim by itself. -/
import Derived.Test.YtojcciciinklbaaPath3
import Derived.Test.YtojcciciinklbaaJoin
import Derived.Test.YtojcciciinklbaaShelf
set_option linter.unusedSimpArgs false
set_option linter.unusedVariables false
namespace Go.Proofs.Ytojcciciinklbaa
open Go.RowKit

set_option maxHeartbeats 400000 in
theorem pjoin_any (base : Nat) (v : Value) (xs : List ByteArray) (w : World) (h : SL w base v xs) (hl : xs.length ≤ 10000) (hz : ∀ x ∈ xs, x.size ≤ 1000000) :
    Calls Try.prog 107 #[v] w fun e w' => e = .returned (.string (joinS xs)) ∧ Below w.heap.size w w' := by
  have hz' : ∀ x ∈ xs.map (·.data.toList), x.length ≤ 1000000 := fun x hx => by
    obtain ⟨y, hy, rfl⟩ := List.mem_map.1 hx
    exact hz y hy
  have hjl := jn_len 1000000 _ hz'
  rw [List.length_map] at hjl
  have hm := Nat.mul_le_mul_right (1000000 + 1) hl
  have Hz := Lib.hid hjl
  clear hz hz' hjl
  by_cases h0 : xs.length = 0
  · obtain rfl := List.eq_nil_of_length_eq_zero h0
    obtain ⟨A, c, rfl, _, _⟩ := h.form
    clear h h0 Hz
    go_enter Try.func107, Try.ntmps107
    go_wp2_with fail
    refine (Try.strings_Join_none A c ⟨#[47]⟩ w).mono ?_
    rintro e w1 ⟨rfl, rfl⟩
    go_wp2
    go_ret
    exact ⟨rfl, Below.refl _ _⟩
  · obtain ⟨r, cap, rfl, hb, hr, hc1, hc2, hat⟩ := h.at_ (by omega)
    have HC : Hid (∀ (j : Nat) x, xs[j]? = some x → w.cell? ⟨r, 0 + j, none⟩ = some (.string x)) := Lib.hid (fun j x hx => by
      obtain ⟨hj, rfl⟩ := List.getElem?_eq_some_iff.1 hx
      rw [Nat.zero_add]; exact hat j hj)
    have HE : Hid ((Lib.join (xs.map (·.data.toList)) (⟨#[47]⟩ : ByteArray).data.toList) = jn (xs.map (·.data.toList))) := Lib.hid (jn_lib _)
    clear h hat h0
    go_enter Try.func107, Try.ntmps107
    go_wp2_with fail
    refine (Try.strings_Join r 0 cap xs ⟨#[47]⟩ w HC.out hr (by omega) hc1 (by rw [HE.out]; have := Hz.out; omega)).mono ?_
    rintro e w1 ⟨rfl, h1⟩
    have H1 := Lib.hid h1; clear h1
    go_wp2
    go_ret
    exact ⟨ret_str (by rw [HE.out]; rfl), H1.out⟩
end Go.Proofs.Ytojcciciinklbaa
