/- Walks: what a name is, as the path says it and as the document says it. No claim by itself. -/
import Derived.Test.YtojcciciinklbaaStr
import Derived.WalkLawsBesides
import Derived.WalkSpells
import Derived.Lib.Hide
set_option linter.unusedSimpArgs false
set_option linter.unusedVariables false
namespace Go.Proofs.Ytojcciciinklbaa
open Go.RowKit

theorem ret_bool {a b : Bool} (h : a = b) : Ending.returned (.bool a) = .returned (.bool b) := by rw [h]
theorem ret_int {k : IntKind} {a b : Int} (h : a = b) : Ending.returned (.int k a) = .returned (.int k b) := by rw [h]
theorem ret_str {a b : ByteArray} (h : a = b) : Ending.returned (.string a) = .returned (.string b) := by rw [h]

theorem nameB_no {s : ByteArray} (h : s.data.toList.all okB = false) : nameB s = false := by simp [nameB, h]
theorem nameB_yes {s : ByteArray} (h : s.data.toList.all okB = true) : nameB s = (!decide (s = ⟨#[]⟩) && !decide (s = ⟨#[46]⟩) && !decide (s = ⟨#[46, 46]⟩) && decide (s.size ≤ 24)) := by simp [nameB, h]

theorem toL_eq (s : ByteArray) (l : List UInt8) : s.toList = l ↔ s = mkS l := by
  rw [ByteArray.toList_eq]
  constructor
  · intro h; rw [← h]; rfl
  · intro h; rw [h]; rfl
theorem toL_ne {s : ByteArray} {l : List UInt8} (h : s ≠ mkS l) : (s.toList == l) = false := beq_eq_false_iff_ne.2 fun e => h ((toL_eq s l).1 e)
theorem toL_emp {s : ByteArray} (h : s ≠ ⟨#[]⟩) : s.toList.isEmpty = false := by
  rw [ByteArray.toList_eq]
  cases hs : s.data.toList with
  | nil => exact absurd (by rw [← mkS_of s, hs]; rfl) h
  | cons a b => rfl

set_option maxHeartbeats 1000000 in
theorem name_any (s : ByteArray) (w : World) :
    Calls Try.prog 72 #[.string s] w fun e w' => e = .returned (.bool (nameB s)) ∧ Below w.heap.size w w' := by
  go_enter Try.func72, Try.ntmps72
  go_wp2
  go_loopw [2] (fun v wr => ∃ pos : Nat, pos ≤ s.size ∧ okTo s.data.toList pos ∧ w.iter s pos = wr ∧ v = .bool false) (fun _ wr => s.size - wr.iterPos w.heap.size)
  case atStart => exact ⟨0, Nat.zero_le _, fun j hj => by omega, rfl, rfl⟩
  case round =>
    obtain ⟨pos, hpos, hok, rfl, rfl⟩ := hrel
    have Hok := Lib.hid hok; clear hok
    by_cases hp : pos < s.size
    · have hnx : ∀ ty, (Instr.next (.pointer (some ⟨w.heap.size, 0, none⟩)) true ty).run Try.prog (w.iter s pos) = _ := fun ty => run_next_any w s pos ty hp
      have hs := dec_step s pos hp
      obtain ⟨r, hr⟩ : ∃ r, r = (Utf8.decode s pos).1 := ⟨_, rfl⟩
      obtain ⟨n, hn⟩ : ∃ n, n = (Utf8.decode s pos).2 := ⟨_, rfl⟩
      rw [← hr, ← hn] at hs hnx
      clear hr hn
      obtain ⟨hn1, hs1, hs2⟩ := hs
      have Hs1 := Lib.hid hs1
      have Hs2 := Lib.hid hs2
      clear hs1 hs2
      by_cases h0 : r = 0
      · subst h0
        have Hf := Lib.hid (nameB_no (okTo_not (k := pos) hp (Hs1.out (.inl rfl))))
        go_wp2
        go_ret
        exact ⟨ret_bool Hf.out.symm, (Below.refl _ w).alloc (Nat.le_refl _) _⟩
      by_cases h1 : r = 47
      · subst h1
        have Hf := Lib.hid (nameB_no (okTo_not (k := pos) hp (Hs1.out (.inr rfl))))
        go_wp2
        go_ret
        exact ⟨ret_bool Hf.out.symm, (Below.refl _ w).alloc (Nat.le_refl _) _⟩
      have d0 : ((r : Int) == 0) = false := beq_eq_false_iff_ne.2 (by omega)
      have d1 : ((r : Int) == 47) = false := beq_eq_false_iff_ne.2 (by omega)
      have Hn := Lib.hid (Hs2.out h0 h1 Hok.out)
      clear h0 h1
      go_wp2
      go_roundw
      case rel => exact ⟨pos + n, Hn.out.2, Hn.out.1, rfl, rfl⟩
      case measure => simp; omega
    · have hnx : ∀ ty, (Instr.next (.pointer (some ⟨w.heap.size, 0, none⟩)) true ty).run Try.prog (w.iter s pos) = _ := fun ty => run_next_end w s pos ty hp
      have he : pos = s.size := by omega
      have hl : s.data.toList.length = s.size := rfl
      have Hy := Lib.hid (nameB_yes (okTo_all (l := s.data.toList) (by rw [hl, ← he]; exact Hok.out)))
      have HB : Hid (Below w.heap.size w (w.iter s pos)) := Lib.hid ((Below.refl _ w).alloc (Nat.le_refl _) _)
      clear he hl Hok hpos
      by_cases e0 : s = ⟨#[]⟩
      · subst e0
        go_wp2
        go_ret
        exact ⟨ret_bool (by rw [Hy.out]; rfl), HB.out⟩
      by_cases e1 : s = ⟨#[46]⟩
      · subst e1
        go_wp2
        go_ret
        exact ⟨ret_bool (by rw [Hy.out]; rfl), HB.out⟩
      by_cases e2 : s = ⟨#[46, 46]⟩
      · subst e2
        go_wp2
        go_ret
        exact ⟨ret_bool (by rw [Hy.out]; rfl), HB.out⟩
      have q0 := toL_emp e0
      have q1 := toL_ne (l := [46]) e1
      have q2 := toL_ne (l := [46, 46]) e2
      have n0 : ¬ s.toList = [] := fun e => e0 ((toL_eq s []).1 e)
      have n1 : ¬ s.toList = [46] := fun e => e1 ((toL_eq s [46]).1 e)
      have n2 : ¬ s.toList = [46, 46] := fun e => e2 ((toL_eq s [46, 46]).1 e)
      have He := Lib.hid (And.intro e0 (And.intro e1 e2))
      clear e0 e1 e2
      go_wp2
      go_ret
      exact ⟨ret_bool (by rw [Hy.out]; simp [He.out.1, He.out.2.1, He.out.2.2]; omega), HB.out⟩
end Go.Proofs.Ytojcciciinklbaa
