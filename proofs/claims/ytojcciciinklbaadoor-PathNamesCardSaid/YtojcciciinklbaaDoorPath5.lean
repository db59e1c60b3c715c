/- Walks: how texts and paths stand, as the path says it and as the document says it. No claim by itself. -/
import Derived.Test.YtojcciciinklbaaDoorCmp
import Derived.Test.YtojcciciinklbaaDoorSplit
import Derived.BigQuiet
import Derived.Deep.QuietTactic
set_option linter.unusedSimpArgs false
set_option linter.unusedVariables false
namespace Go.Proofs.YtojcciciinklbaaDoor
open Go.RowKit

theorem toL_nb {a b : ByteArray} (h : a ≠ b) : (a.toList == b.toList) = false := beq_eq_false_iff_ne.2 fun e => h (toL_inj e)
theorem toL_np {a b : ByteArray} (h : a ≠ b) : ¬ a.toList = b.toList := fun e => h (toL_inj e)

set_option maxHeartbeats 400000 in
theorem cmpc_any (a b : ByteArray) (w : World) :
    Calls Tryd.prog 59 #[.string a, .string b] w fun e w' => e = .returned (.int .i64 (cmpS a b)) ∧ w = w' := by
  rcases three a b with ⟨h1, h2, h3⟩ | rfl | ⟨h1, h2, h3⟩
  · have Hc := Lib.hid (cmpS_lt h1)
    have l1 : Op.bytesLess a.toList b.toList = true := h1
    clear h1 h2 h3
    go_enter Tryd.func59, Tryd.ntmps59
    go_wp2
    go_ret
    exact ⟨ret_int Hc.out.symm, rfl⟩
  · have Hc := Lib.hid (cmpS_eq a)
    have l1 : Op.bytesLess a.toList a.toList = false := bl_irrefl _
    go_enter Tryd.func59, Tryd.ntmps59
    go_wp2
    go_ret
    exact ⟨ret_int Hc.out.symm, rfl⟩
  · have Hc := Lib.hid (cmpS_gt h1)
    have l1 : Op.bytesLess a.toList b.toList = false := h2
    have l2 := toL_nb h3
    have l3 := toL_np h3
    clear h1 h2 h3
    go_enter Tryd.func59, Tryd.ntmps59
    go_wp2
    go_ret
    exact ⟨ret_int Hc.out.symm, rfl⟩

theorem cmpS_ne {a b : ByteArray} (h : a ≠ b) : cmpS a b ≠ 0 := by
  rcases three a b with ⟨h1, h2, h3⟩ | h1 | ⟨h1, h2, h3⟩
  · rw [cmpS_lt h1]; decide
  · exact absurd h1 h
  · rw [cmpS_gt h1]; decide

set_option maxHeartbeats 1000000 in
theorem cmpl_any (b1 b2 : Nat) (v1 v2 : Value) (xs ys : List ByteArray) (w : World) (h1 : SL w b1 v1 xs) (h2 : SL w b2 v2 ys) (hx : xs.length ≤ 1000000) (hy : ys.length ≤ 1000000) :
    Calls Tryd.prog 41 #[v1, v2] w fun e w' => e = .returned (.int .i64 (cmpP xs ys)) ∧ w = w' := by
  obtain ⟨A1, c1, rfl, hnc1, hn1⟩ := h1.form
  obtain ⟨A2, c2, rfl, hnc2, hn2⟩ := h2.form
  have H1 := Lib.hid h1; clear h1
  have H2 := Lib.hid h2; clear h2
  go_enter Tryd.func41, Tryd.ntmps41
  go_wp2
  go_loop [11] (fun i => ∃ k : Nat, k ≤ xs.length ∧ k ≤ ys.length ∧ i = .int .i64 k ∧ Hid (cmpP (xs.drop k) (ys.drop k) = cmpP xs ys)) (fun i => xs.length - (intOf i).toNat)
  case atStart => exact ⟨0, Nat.zero_le _, Nat.zero_le _, rfl, Lib.hid rfl⟩
  case round =>
    obtain ⟨k, hk1, hk2, rfl, HI⟩ := hrel
    by_cases hl1 : k < xs.length
    · obtain ⟨r1, cap1, he1, _, _, _, _, hat1⟩ := SL.at_ H1.out (by omega)
      simp at he1
      obtain ⟨rfl, rfl⟩ := he1
      have c1 := hat1 k hl1
      have hI1 : (k : Int) < (xs.length : Int) := by omega
      clear hat1
      by_cases hl2 : k < ys.length
      · obtain ⟨r2, cap2, he2, _, _, _, _, hat2⟩ := SL.at_ H2.out (by omega)
        simp at he2
        obtain ⟨rfl, rfl⟩ := he2
        have c2 := hat2 k hl2
        have hI2 : (k : Int) < (ys.length : Int) := by omega
        have hI3 : ¬ ((ys.length : Int) ≤ (k : Int)) := by omega
        have HH := Lib.hid (cmpP_hit hl1 hl2)
        clear hat2
        by_cases he : xs[k] = ys[k]
        · have hc0 := cmpS_eq ys[k]
          have HJ : Hid (cmpP (xs.drop (k + 1)) (ys.drop (k + 1)) = cmpP xs ys) := Lib.hid (by rw [← HI.out, HH.out, if_pos he])
          rw [he] at c1
          clear he
          go_wp2_with fail
          refine (cmpc_any _ _ w).mono ?_
          rintro e w1 ⟨rfl, rfl⟩
          rw [hc0]
          go_wp2
          go_round
          case rel => exact ⟨k + 1, by omega, by omega, by go_num, HJ⟩
          case measure => simp [intOf]; omega
        · have hne := cmpS_ne he
          have HJ : Hid (cmpS xs[k] ys[k] = cmpP xs ys) := Lib.hid (by rw [← HI.out, HH.out, if_neg he])
          obtain ⟨z, hz⟩ : ∃ z, z = cmpS xs[k] ys[k] := ⟨_, rfl⟩
          rw [← hz] at hne HJ
          have Hz := Lib.hid hz
          have hb : ((z : Int) != 0) = true := by simpa using hne
          clear he hz
          go_wp2_with fail
          refine (cmpc_any _ _ w).mono ?_
          rintro e w1 ⟨rfl, rfl⟩
          rw [← Hz.out]
          go_wp2
          go_ret
          exact ⟨ret_int HJ.out, rfl⟩
      · have hI3 : ((ys.length : Int) ≤ (k : Int)) := by omega
        have HJ : Hid (1 = cmpP xs ys) := Lib.hid (by rw [← HI.out, cmpP_over hl1 (by omega)])
        go_wp2
        go_ret
        exact ⟨ret_int HJ.out, rfl⟩
    · have hke : k = xs.length := by omega
      subst hke
      have HJ := Lib.hid (cmpP_end (x := xs) (y := ys) (k := xs.length) (Nat.le_refl _))
      by_cases hl2 : xs.length < ys.length
      · have hI2 : (xs.length : Int) < (ys.length : Int) := by omega
        go_wp2
        go_ret
        exact ⟨ret_int (by rw [← HI.out, HJ.out, if_pos hl2]), rfl⟩
      · have hI2 : ¬ (xs.length : Int) < (ys.length : Int) := by omega
        go_wp2
        go_ret
        exact ⟨ret_int (by rw [← HI.out, HJ.out, if_neg hl2]), rfl⟩
end Go.Proofs.YtojcciciinklbaaDoor
