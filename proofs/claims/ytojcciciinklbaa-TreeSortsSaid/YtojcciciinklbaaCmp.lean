/- How texts, and lists of texts, stand: an order. No claim by itself. -/
import Derived.Test.YtojcciciinklbaaPath3
set_option linter.unusedSimpArgs false
set_option linter.unusedVariables false
namespace Go.Proofs.Ytojcciciinklbaa
open Go.RowKit

theorem bl_irrefl : ∀ l : List UInt8, Op.bytesLess l l = false
  | [] => rfl
  | a :: l => by simp [Op.bytesLess, bl_irrefl l]
theorem bl_trans : ∀ a b c : List UInt8, Op.bytesLess a b = true → Op.bytesLess b c = true → Op.bytesLess a c = true
  | [], [], c, h, _ => by simp [Op.bytesLess] at h
  | [], b :: bs, [], _, h => by simp [Op.bytesLess] at h
  | [], b :: bs, c :: cs, _, _ => rfl
  | a :: u, [], c, h, _ => by simp [Op.bytesLess] at h
  | a :: u, b :: bs, [], _, h => by simp [Op.bytesLess] at h
  | a :: u, b :: bs, c :: cs, h1, h2 => by
    simp only [Op.bytesLess, Bool.or_eq_true, decide_eq_true_eq, Bool.and_eq_true, beq_iff_eq] at h1 h2 ⊢
    rcases h1 with h1 | ⟨rfl, h1⟩
    · rcases h2 with h2 | ⟨rfl, h2⟩
      · exact .inl (UInt8.lt_trans h1 h2)
      · exact .inl h1
    · rcases h2 with h2 | ⟨rfl, h2⟩
      · exact .inl h2
      · exact .inr ⟨rfl, bl_trans u bs cs h1 h2⟩
theorem bl_tri : ∀ a b : List UInt8, Op.bytesLess a b = false → Op.bytesLess b a = false → a = b
  | [], [], _, _ => rfl
  | [], b :: bs, h, _ => by simp [Op.bytesLess] at h
  | a :: u, [], _, h => by simp [Op.bytesLess] at h
  | a :: u, b :: bs, h1, h2 => by
    simp only [Op.bytesLess, Bool.or_eq_false_iff, decide_eq_false_iff_not, Bool.and_eq_false_iff, beq_eq_false_iff_ne] at h1 h2
    have e : a = b := by
      have h3 := UInt8.not_lt.1 h1.1
      have h4 := UInt8.not_lt.1 h2.1
      exact UInt8.le_antisymm h4 h3
    subst e
    rcases h1.2 with h | h
    · exact absurd rfl h
    · rcases h2.2 with k | k
      · exact absurd rfl k
      · rw [bl_tri u bs h k]

/-- One text stands ahead of another one. -/
def ltS (a b : ByteArray) : Bool := Op.bytesLess a.toList b.toList
theorem toL_inj {a b : ByteArray} (h : a.toList = b.toList) : a = b := by
  rw [ByteArray.toList_eq, ByteArray.toList_eq] at h
  exact Go.WideShapes.bytes_inj h
theorem ltS_irrefl (a : ByteArray) : ltS a a = false := bl_irrefl _
theorem ltS_trans {a b c : ByteArray} (h : ltS a b = true) (k : ltS b c = true) : ltS a c = true := bl_trans _ _ _ h k
theorem ltS_tri {a b : ByteArray} (h : ltS a b = false) (k : ltS b a = false) : a = b := toL_inj (bl_tri _ _ h k)
theorem ltS_asymm {a b : ByteArray} (h : ltS a b = true) : ltS b a = false := by
  cases hb : ltS b a with
  | false => rfl
  | true => have := ltS_trans h hb; rw [ltS_irrefl] at this; cases this

/-- How texts stand. -/
def cmpS (a b : ByteArray) : Int := if ltS a b = true then -1 else if a = b then 0 else 1
theorem cmpS_lt {a b : ByteArray} (h : ltS a b = true) : cmpS a b = -1 := by simp [cmpS, h]
theorem cmpS_eq (a : ByteArray) : cmpS a a = 0 := by simp [cmpS, ltS_irrefl]
theorem cmpS_gt {a b : ByteArray} (h : ltS b a = true) : cmpS a b = 1 := by
  have h1 := ltS_asymm h
  have h2 : a ≠ b := fun e => by subst e; rw [h1] at h; cases h
  simp [cmpS, h1, h2]
/-- The three ways. -/
theorem three (a b : ByteArray) : (ltS a b = true ∧ ltS b a = false ∧ a ≠ b) ∨ a = b ∨ (ltS b a = true ∧ ltS a b = false ∧ a ≠ b) := by
  cases h : ltS a b with
  | true => exact .inl ⟨rfl, ltS_asymm h, fun e => by subst e; rw [ltS_irrefl] at h; cases h⟩
  | false =>
    cases k : ltS b a with
    | true => exact .inr (.inr ⟨rfl, rfl, fun e => by subst e; rw [ltS_irrefl] at k; cases k⟩)
    | false => exact .inr (.inl (ltS_tri h k))

/-- How lists of texts stand. -/
def cmpP : List ByteArray → List ByteArray → Int
  | [], [] => 0
  | [], _ :: _ => -1
  | _ :: _, [] => 1
  | a :: x, b :: y => if a = b then cmpP x y else cmpS a b
theorem cmpP_anti : ∀ x y, cmpP y x = - cmpP x y
  | [], [] => rfl
  | [], _ :: _ => rfl
  | _ :: _, [] => rfl
  | a :: x, b :: y => by
    unfold cmpP
    rcases three a b with ⟨h1, h2, h3⟩ | h | ⟨h1, h2, h3⟩
    · rw [if_neg h3, if_neg (Ne.symm h3), cmpS_lt h1, cmpS_gt h1]; rfl
    · subst h; rw [if_pos rfl, if_pos rfl]; exact cmpP_anti x y
    · rw [if_neg h3, if_neg (Ne.symm h3), cmpS_lt h1, cmpS_gt h1]
theorem cmpP_zero : ∀ x y, cmpP x y = 0 ↔ x = y
  | [], [] => by simp [cmpP]
  | [], _ :: _ => by simp [cmpP]
  | _ :: _, [] => by simp [cmpP]
  | a :: x, b :: y => by
    unfold cmpP
    rcases three a b with ⟨h1, h2, h3⟩ | h | ⟨h1, h2, h3⟩
    · rw [if_neg h3, cmpS_lt h1]; simp [h3]
    · subst h; rw [if_pos rfl]; simp [cmpP_zero x y]
    · rw [if_neg h3, cmpS_gt h1]; simp [h3]
theorem cmpP_range : ∀ x y, cmpP x y = -1 ∨ cmpP x y = 0 ∨ cmpP x y = 1
  | [], [] => .inr (.inl rfl)
  | [], _ :: _ => .inl rfl
  | _ :: _, [] => .inr (.inr rfl)
  | a :: x, b :: y => by
    unfold cmpP
    rcases three a b with ⟨h1, h2, h3⟩ | h | ⟨h1, h2, h3⟩
    · rw [if_neg h3, cmpS_lt h1]; exact .inl rfl
    · subst h; rw [if_pos rfl]; exact cmpP_range x y
    · rw [if_neg h3, cmpS_gt h1]; exact .inr (.inr rfl)
theorem cmpP_trans : ∀ x y z, cmpP x y ≤ 0 → cmpP y z ≤ 0 → cmpP x z ≤ 0
  | [], _, [], _, _ => by simp [cmpP]
  | [], _, _ :: _, _, _ => by simp [cmpP]
  | a :: x, [], z, h, _ => by simp [cmpP] at h
  | a :: x, b :: y, [], _, h => by simp [cmpP] at h
  | a :: x, b :: y, c :: z, h1, h2 => by
    unfold cmpP at h1 h2 ⊢
    rcases three a b with ⟨p1, p2, p3⟩ | p | ⟨p1, p2, p3⟩
    · rcases three b c with ⟨q1, q2, q3⟩ | q | ⟨q1, q2, q3⟩
      · have := ltS_trans p1 q1
        rw [if_neg (fun e => by subst e; rw [ltS_irrefl] at this; cases this), cmpS_lt this]; decide
      · subst q; rw [if_neg p3, cmpS_lt p1]; decide
      · rw [if_neg q3, cmpS_gt q1] at h2; exact absurd h2 (by decide)
    · subst p
      rw [if_pos rfl] at h1
      by_cases q : a = c
      · subst q; rw [if_pos rfl] at h2 ⊢; exact cmpP_trans x y z h1 h2
      · rw [if_neg q] at h2 ⊢; exact h2
    · rw [if_neg p3, cmpS_gt p1] at h1; exact absurd h1 (by decide)

theorem cmpP_hit {x y : List ByteArray} {k : Nat} (h1 : k < x.length) (h2 : k < y.length) : cmpP (x.drop k) (y.drop k) = if x[k] = y[k] then cmpP (x.drop (k + 1)) (y.drop (k + 1)) else cmpS x[k] y[k] := by
  rw [List.drop_eq_getElem_cons h1, List.drop_eq_getElem_cons h2]; rfl
theorem cmpP_end {x y : List ByteArray} {k : Nat} (h : x.length ≤ k) : cmpP (x.drop k) (y.drop k) = if k < y.length then -1 else 0 := by
  rw [List.drop_of_length_le h]
  by_cases h2 : k < y.length
  · rw [List.drop_eq_getElem_cons h2, if_pos h2]; rfl
  · rw [List.drop_of_length_le (by omega), if_neg h2]; rfl
theorem cmpP_over {x y : List ByteArray} {k : Nat} (h1 : k < x.length) (h : y.length ≤ k) : cmpP (x.drop k) (y.drop k) = 1 := by
  rw [List.drop_of_length_le h, List.drop_eq_getElem_cons h1]; rfl
end Go.Proofs.Ytojcciciinklbaa
