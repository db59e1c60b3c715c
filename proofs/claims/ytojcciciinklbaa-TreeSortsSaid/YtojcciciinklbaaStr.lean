/- Names, told of bytes; how a range over a text decodes. No claim by itself. -/
import Derived.Test.YtojcciciinklbaaBase
import Derived.Laws.RangeAny
set_option linter.unusedSimpArgs false
set_option linter.unusedVariables false
namespace Go.Proofs.Ytojcciciinklbaa
open Go.RowKit

/-- A byte that a name may hold. -/
def okB (b : UInt8) : Bool := b != 0 && b != 47

theorem get_getD (s : ByteArray) (k : Nat) : s.get! k = s.data.toList.getD k 0 := by
  show s.data[k]! = _
  simp [List.getD, getElem!_def]
  cases s.data[k]? <;> rfl

theorem dec_high (s : ByteArray) (pos : Nat) (h : pos < s.size) (ha : 128 ≤ (s.data.toList.getD pos 0).toNat) : ∀ j, j < (Utf8.decode s pos).2 → pos + j < s.size ∧ 128 ≤ (s.data.toList.getD (pos + j) 0).toNat := by
  have hn : ¬ (s.data.toList.getD (pos + 0) 0).toNat < 128 := by rw [Nat.add_zero]; omega
  have c : ∀ k, (decide (pos + k < s.size) && ((s.data.toList.getD (pos + k) 0).toNat / 64 == 2)) = true → pos + k < s.size ∧ 128 ≤ (s.data.toList.getD (pos + k) 0).toNat := fun k hk => by
    simp only [Bool.and_eq_true, decide_eq_true_eq, beq_iff_eq] at hk
    omega
  have k1 : ∀ j, j < 1 → pos + j < s.size ∧ 128 ≤ (s.data.toList.getD (pos + j) 0).toNat := fun j hj => by
    obtain rfl : j = 0 := by omega
    rw [Nat.add_zero]; exact ⟨h, ha⟩
  simp only [Utf8.decode, get_getD, hn, if_false]
  split
  · next h1 =>
    rw [Bool.and_eq_true] at h1
    have e1 := c 1 h1.2
    split
    · intro j hj
      have : j = 0 ∨ j = 1 := by omega
      rcases this with rfl | rfl
      · exact k1 0 (by omega)
      · exact e1
    · exact k1
  · split
    · next h1 =>
      rw [Bool.and_eq_true, Bool.and_eq_true] at h1
      have e1 := c 1 h1.1.2
      have e2 := c 2 h1.2
      split
      · intro j hj
        have : j = 0 ∨ j = 1 ∨ j = 2 := by omega
        rcases this with rfl | rfl | rfl
        · exact k1 0 (by omega)
        · exact e1
        · exact e2
      · exact k1
    · split
      · next h1 =>
        rw [Bool.and_eq_true, Bool.and_eq_true, Bool.and_eq_true] at h1
        have e1 := c 1 h1.1.1.2
        have e2 := c 2 h1.1.2
        have e3 := c 3 h1.2
        split
        · intro j hj
          have : j = 0 ∨ j = 1 ∨ j = 2 ∨ j = 3 := by omega
          rcases this with rfl | rfl | rfl | rfl
          · exact k1 0 (by omega)
          · exact e1
          · exact e2
          · exact e3
        · exact k1
      · exact k1

/-- The first bytes may all be of a name. -/
def okTo (l : List UInt8) (k : Nat) : Prop := ∀ j, j < k → okB (l.getD j 0) = true

theorem idx_getD (s : ByteArray) (pos : Nat) (h : pos < s.size) : s[pos]'h = s.data.toList.getD pos 0 := by
  have : s[pos]'h = s.data[pos] := rfl
  rw [this]
  rw [List.getD, Array.getElem?_toList, Array.getElem?_eq_getElem (show pos < s.data.size from h)]; rfl

/-- One rune more: its number tells whether its bytes may be of a name. -/
theorem dec_step (s : ByteArray) (pos : Nat) (h : pos < s.size) :
    1 ≤ (Utf8.decode s pos).2 ∧ (((Utf8.decode s pos).1 = 0 ∨ (Utf8.decode s pos).1 = 47) → okB (s.data.toList.getD pos 0) = false) ∧
    ((Utf8.decode s pos).1 ≠ 0 → (Utf8.decode s pos).1 ≠ 47 → okTo s.data.toList pos → okTo s.data.toList (pos + (Utf8.decode s pos).2) ∧ pos + (Utf8.decode s pos).2 ≤ s.size) := by
  by_cases ha : (s.data.toList.getD pos 0).toNat < 128
  · have hd : Utf8.decode s pos = ((s.data.toList.getD pos 0).toNat, 1) := by
      rw [decode_ascii s pos h (by rw [idx_getD]; exact ha), idx_getD]
    rw [hd]
    refine ⟨Nat.le_refl _, fun h0 => ?_, fun h0 h1 hk => ⟨fun j hj => ?_, by simp only; omega⟩⟩
    · simp only at h0
      unfold okB
      rcases h0 with h0 | h0
      · have : s.data.toList.getD pos 0 = 0 := UInt8.toNat_inj.1 h0
        rw [this]; rfl
      · have : s.data.toList.getD pos 0 = 47 := UInt8.toNat_inj.1 h0
        rw [this]; rfl
    · simp only at h0 h1 hj
      by_cases hj' : j < pos
      · exact hk j hj'
      · obtain rfl : j = pos := by omega
        unfold okB
        have e0 : s.data.toList.getD j 0 ≠ 0 := fun e => h0 (by rw [e]; rfl)
        have e1 : s.data.toList.getD j 0 ≠ 47 := fun e => h1 (by rw [e]; rfl)
        simp only [Bool.and_eq_true, bne_iff_ne, ne_eq]
        exact ⟨e0, e1⟩
  · have hhi := decode_high s pos h (by rw [idx_getD]; omega)
    have hd := dec_high s pos h (by omega)
    refine ⟨hhi.2, fun h0 => by omega, fun _ _ hk => ⟨fun j hj => ?_, ?_⟩⟩
    · by_cases hj' : j < pos
      · exact hk j hj'
      · have := (hd (j - pos) (by omega)).2
        rw [show pos + (j - pos) = j from by omega] at this
        unfold okB
        have e0 : s.data.toList.getD j 0 ≠ 0 := fun e => by rw [e] at this; simp at this
        have e1 : s.data.toList.getD j 0 ≠ 47 := fun e => by rw [e] at this; simp at this
        simp only [Bool.and_eq_true, bne_iff_ne, ne_eq]
        exact ⟨e0, e1⟩
    · have := (hd ((Utf8.decode s pos).2 - 1) (by omega)).1
      omega

/-- What a name is. -/
def nameB (s : ByteArray) : Bool := s.data.toList.all okB && !decide (s = ⟨#[]⟩) && !decide (s = ⟨#[46]⟩) && !decide (s = ⟨#[46, 46]⟩) && decide (s.size ≤ 24)

theorem okTo_all {l : List UInt8} (h : okTo l l.length) : l.all okB = true := by
  rw [List.all_eq_true]
  intro x hx
  obtain ⟨i, hi, rfl⟩ := List.mem_iff_getElem.1 hx
  have := h i hi
  simpa [List.getD, List.getElem?_eq_getElem hi] using this
theorem okTo_not {l : List UInt8} {k : Nat} (hk : k < l.length) (h : okB (l.getD k 0) = false) : l.all okB = false := by
  rw [List.all_eq_false]
  refine ⟨l[k], List.getElem_mem hk, ?_⟩
  have : l.getD k 0 = l[k] := by simp [List.getD, List.getElem?_eq_getElem hk]
  rw [this] at h; rw [h]; simp
end Go.Proofs.Ytojcciciinklbaa
