/- Walks: what a name is, as the document says it. No claim by itself. -/
import Derived.Test.YtojcciciinklbaaPath1
set_option linter.unusedSimpArgs false
set_option linter.unusedVariables false
namespace Go.Proofs.Ytojcciciinklbaa
open Go.RowKit

set_option maxHeartbeats 1000000 in
theorem rname_any (s : ByteArray) (w : World) (hs : s.size ≤ 9223372036854775807) :
    Calls Try.prog 54 #[.string s] w fun e w' => e = .returned (.bool (nameB s)) ∧ w = w' := by
  go_enter Try.func54, Try.ntmps54
  go_wp2
  go_loop [2, 3] (fun v i => ∃ k : Nat, k ≤ s.size ∧ okTo s.data.toList k ∧ v = .bool false ∧ i = .int .i64 k) (fun _ i => s.size - (intOf i).toNat)
  case atStart => exact ⟨0, Nat.zero_le _, fun j hj => by omega, rfl, rfl⟩
  case round =>
    obtain ⟨k, hk, hok, rfl, rfl⟩ := hrel
    have Hok := Lib.hid hok; clear hok
    by_cases hlt : k < s.size
    · obtain ⟨c, hc⟩ : ∃ c, s[k]'hlt = c := ⟨_, rfl⟩
      have Hc : Hid (s.data.toList.getD k 0 = c) := Lib.hid (by rw [← hc, idx_getD])
      have hkI : (k : Int) < (s.size : Int) := by omega
      by_cases h0 : c = 0
      · subst h0
        have Hf := Lib.hid (nameB_no (okTo_not (k := k) hlt (by rw [Hc.out]; rfl)))
        go_wp2
        go_ret
        exact ⟨ret_bool Hf.out.symm, rfl⟩
      by_cases h1 : c = 47
      · subst h1
        have Hf := Lib.hid (nameB_no (okTo_not (k := k) hlt (by rw [Hc.out]; rfl)))
        go_wp2
        go_ret
        exact ⟨ret_bool Hf.out.symm, rfl⟩
      have d0 : ((c.toNat : Int) == 0) = false := beq_eq_false_iff_ne.2 fun e => h0 (UInt8.toNat_inj.1 (by have : (0 : UInt8).toNat = 0 := rfl; omega))
      have d1 : ((c.toNat : Int) == 47) = false := beq_eq_false_iff_ne.2 fun e => h1 (UInt8.toNat_inj.1 (by have : (47 : UInt8).toNat = 47 := rfl; omega))
      have Hn : Hid (okTo s.data.toList (k + 1)) := Lib.hid fun j hj => by
        by_cases hj' : j < k
        · exact Hok.out j hj'
        · obtain rfl : j = k := by omega
          rw [Hc.out]
          unfold okB
          simp only [Bool.and_eq_true, bne_iff_ne, ne_eq]
          exact ⟨h0, h1⟩
      clear h0 h1
      go_wp2
      go_round
      case rel => exact ⟨k + 1, by omega, Hn.out, rfl, by go_num⟩
      case measure => simp [intOf]; omega
    · have he : k = s.size := by omega
      have hl : s.data.toList.length = s.size := rfl
      have Hy := Lib.hid (nameB_yes (okTo_all (l := s.data.toList) (by rw [hl, ← he]; exact Hok.out)))
      have hge : ¬ ((k : Int) < (s.size : Int)) := by omega
      subst he
      clear hl Hok
      by_cases e0 : s = ⟨#[]⟩
      · subst e0
        go_wp2
        go_ret
        exact ⟨ret_bool (by rw [Hy.out]; rfl), rfl⟩
      have hpos : 0 < s.size := by
        rcases Nat.eq_zero_or_pos s.size with h | h
        · exact absurd (by obtain ⟨⟨l⟩⟩ := s; cases l with | nil => rfl | cons a b => simp [ByteArray.size] at h) e0
        · exact h
      have hposI : 0 < (s.size : Int) := by omega
      by_cases e1 : s = ⟨#[46]⟩
      · subst e1
        go_wp2
        go_ret
        exact ⟨ret_bool (by rw [Hy.out]; rfl), rfl⟩
      by_cases e2 : s = ⟨#[46, 46]⟩
      · subst e2
        go_wp2
        go_ret
        exact ⟨ret_bool (by rw [Hy.out]; rfl), rfl⟩
      have q1 := toL_ne (l := [46]) e1
      have q2 := toL_ne (l := [46, 46]) e2
      have n1 : ¬ s.toList = [46] := fun e => e1 ((toL_eq s [46]).1 e)
      have n2 : ¬ s.toList = [46, 46] := fun e => e2 ((toL_eq s [46, 46]).1 e)
      have He := Lib.hid (And.intro e0 (And.intro e1 e2))
      clear e0 e1 e2
      by_cases h25 : s.size < 25
      · have d25 : decide ((s.size : Int) < 25) = true := by simp; omega
        have d25' : (s.size : Int) < 25 := by omega
        go_wp2
        go_ret
        exact ⟨ret_bool (by rw [Hy.out]; simp [He.out.1, He.out.2.1, He.out.2.2]; omega), rfl⟩
      · have d25 : decide ((s.size : Int) < 25) = false := by simp; omega
        have d25' : ¬ (s.size : Int) < 25 := by omega
        go_wp2
        go_ret
        exact ⟨ret_bool (by rw [Hy.out]; simp [He.out.1, He.out.2.1, He.out.2.2]; omega), rfl⟩
end Go.Proofs.Ytojcciciinklbaa
