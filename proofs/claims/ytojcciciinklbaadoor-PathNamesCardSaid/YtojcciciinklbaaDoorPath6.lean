/- Walks: how paths stand, and which is under which, as the path says it and as the document says it. No claim by itself. -/
import Derived.Test.YtojcciciinklbaaDoorPath5
set_option linter.unusedSimpArgs false
set_option linter.unusedVariables false
namespace Go.Proofs.YtojcciciinklbaaDoor
open Go.RowKit

theorem below_drew (w : World) : Below w.heap.size w w.drew := ⟨rfl, rfl, rfl, Nat.le_refl _, fun _ _ => rfl⟩
theorem below_drewN (w : World) (n : Nat) : Below w.heap.size w (w.drewN n) := ⟨rfl, rfl, rfl, Nat.le_refl _, fun _ _ => rfl⟩

theorem bdn {B : Nat} {a w : World} (h : Below B a w) (n : Nat) : Below B a (w.drewN n) := ⟨h.os, h.tape, h.output, h.size, h.block⟩
theorem spl_len (cur l : List UInt8) : (spl cur l).length ≤ l.length + 1 := by
  induction l generalizing cur with
  | nil => simp [spl]
  | cons c r ih =>
    unfold spl
    split
    · have := ih []; simp; omega
    · have := ih (cur ++ [c]); simp; omega
theorem pieces_len (p : ByteArray) : (pieces p).length ≤ p.size + 1 := by
  unfold pieces
  split
  · simp
  · rw [List.length_map]; exact spl_len _ _

set_option maxHeartbeats 1000000 in
theorem pcompare_any (a b : ByteArray) (w : World) (ha : a.size ≤ 100000) (hb : b.size ≤ 100000) :
    Calls Tryd.prog 20 #[.string a, .string b] w fun e w' => e = .returned (.int .i64 (cmpP (pieces a) (pieces b))) ∧ Below w.heap.size w w' := by
  have hla := pieces_len a
  have hlb := pieces_len b
  go_enter Tryd.func20, Tryd.ntmps20
  go_wp2_with fail
  refine (names_any a w (by omega)).mono ?_
  rintro e w1 ⟨v1, rfl, h1, x1⟩
  have H1 := Lib.hid h1; have X1 := Lib.hid x1; clear h1 x1
  go_wp2_with fail
  refine (names_any b w1 (by omega)).mono ?_
  rintro e w2 ⟨v2, rfl, h2, x2⟩
  have H1 := Lib.hid (H1.out.below x2)
  have H2 := Lib.hid h2; have X2 := Lib.hid (X1.out.trans (x2.mono X1.out.size)); clear h2 x2
  go_wp2_with fail
  refine (cmpl_any _ _ v1 v2 _ _ w2 H1.out H2.out (by omega) (by omega)).mono ?_
  rintro e w3 ⟨rfl, rfl⟩
  go_wp2
  go_ret
  exact ⟨rfl, X2.out⟩

set_option maxHeartbeats 2000000 in
theorem rcompare_any (a b : ByteArray) (w : World) (ha : a.size ≤ 100000) (hb : b.size ≤ 100000) :
    Calls Tryd.prog 25 #[.string a, .string b] w fun e w' => e = .returned (.int .i64 (cmpP (pieces a) (pieces b))) ∧ Below w.heap.size w w' := by
  have hla := pieces_len a
  have hlb := pieces_len b
  obtain ⟨xs, hxs⟩ : ∃ xs, xs = pieces a := ⟨_, rfl⟩
  obtain ⟨ys, hys⟩ : ∃ ys, ys = pieces b := ⟨_, rfl⟩
  rw [← hxs] at hla
  rw [← hys] at hlb
  rw [← hxs, ← hys]
  have HA := Lib.hid hxs
  have HY := Lib.hid hys
  clear hxs hys
  go_enter Tryd.func25, Tryd.ntmps25
  go_wp2_with fail
  refine (rpieces_any a w (by omega)).mono ?_
  rintro e w1 ⟨v1, rfl, h1, x1⟩
  rw [← HA.out] at h1
  have H1 := Lib.hid h1; have X1 := Lib.hid x1; clear h1 x1
  go_wp2_with fail
  refine (rpieces_any b w1 (by omega)).mono ?_
  rintro e w2 ⟨v2, rfl, h2, x2⟩
  rw [← HY.out] at h2
  have H1 := Lib.hid (H1.out.below x2)
  have H2 := Lib.hid h2; have X2 := Lib.hid (X1.out.trans (x2.mono X1.out.size)); clear h2 x2 X1
  obtain ⟨A1, c1, rfl, hnc1, hn1⟩ := H1.out.form
  obtain ⟨A2, c2, rfl, hnc2, hn2⟩ := H2.out.form
  go_wp2_with fail
  go_loopw [7] (fun i wr => ∃ k : Nat, k ≤ xs.length ∧ k ≤ ys.length ∧ i = .int .i64 k ∧ Hid (cmpP (xs.drop k) (ys.drop k) = cmpP xs ys) ∧ Below w2.heap.size w2 wr) (fun i _ => xs.length - (intOf i).toNat)
  case atStart => exact ⟨0, Nat.zero_le _, Nat.zero_le _, rfl, Lib.hid rfl, Below.refl _ _⟩
  case round =>
    obtain ⟨k, hk1, hk2, rfl, HI, hB⟩ := hrel
    have HB := Lib.hid hB
    clear hB
    by_cases hl1 : k < xs.length
    · have d1 : decide ((k : Int) < (xs.length : Int)) = true := by simp; omega
      have hI1 : (k : Int) < (xs.length : Int) := by omega
      by_cases hl2 : k < ys.length
      · have d2 : decide ((k : Int) < (ys.length : Int)) = true := by simp; omega
        obtain ⟨r1, cap1, he1, _, _, _, _, hat1⟩ := SL.at_ (H1.out.below HB.out) (by omega)
        simp at he1
        obtain ⟨rfl, rfl⟩ := he1
        have c1 := hat1 k hl1
        clear hat1
        obtain ⟨r2, cap2, he2, _, _, _, _, hat2⟩ := SL.at_ (H2.out.below HB.out) (by omega)
        simp at he2
        obtain ⟨rfl, rfl⟩ := he2
        have c2 := hat2 k hl2
        have hI2 : (k : Int) < (ys.length : Int) := by omega
        have HH := Lib.hid (cmpP_hit hl1 hl2)
        clear hat2
        rcases three xs[k] ys[k] with ⟨h1, h2, h3⟩ | he | ⟨h1, h2, h3⟩
        · have HJ : Hid (-1 = cmpP xs ys) := Lib.hid (by rw [← HI.out, HH.out, if_neg h3, cmpS_lt h1])
          have l1 : Op.bytesLess (xs[k]).toList (ys[k]).toList = true := h1
          clear h1 h2 h3
          go_wp2
          go_quiet (fail)
          go_wp2
          go_ret
          first | exact ⟨ret_int HJ.out, X2.out.trans ((bdn HB.out _).mono X2.out.size)⟩ | exact ⟨ret_int HJ.out, X2.out.trans ((bdn (bdn HB.out _) _).mono X2.out.size)⟩
        · have HJ : Hid (cmpP (xs.drop (k + 1)) (ys.drop (k + 1)) = cmpP xs ys) := Lib.hid (by rw [← HI.out, HH.out, if_pos he])
          rw [he] at c1
          have l1 : Op.bytesLess (ys[k]).toList (ys[k]).toList = false := bl_irrefl _
          clear he
          go_wp2
          go_quiet (fail)
          go_wp2
          go_quiet (fail)
          go_wp2
          go_roundw
          case rel => exact ⟨k + 1, by omega, by omega, by go_num, HJ, by first | exact bdn HB.out _ | exact bdn (bdn HB.out _) _⟩
          case measure => simp [intOf]; omega
        · have HJ : Hid (1 = cmpP xs ys) := Lib.hid (by rw [← HI.out, HH.out, if_neg h3, cmpS_gt h1])
          have l1 : Op.bytesLess (xs[k]).toList (ys[k]).toList = false := h2
          have l2 := toL_nb h3
          have l3 := toL_np h3
          clear h1 h2 h3
          go_wp2
          go_quiet (fail)
          go_wp2
          go_quiet (fail)
          go_wp2
          go_ret
          first | exact ⟨ret_int HJ.out, X2.out.trans ((bdn HB.out _).mono X2.out.size)⟩ | exact ⟨ret_int HJ.out, X2.out.trans ((bdn (bdn HB.out _) _).mono X2.out.size)⟩
      · have d2 : decide ((k : Int) < (ys.length : Int)) = false := by simp; omega
        have HJ : Hid (1 = cmpP xs ys) := Lib.hid (by rw [← HI.out, cmpP_over hl1 (by omega)])
        have hI4 : ¬ ((xs.length : Int) < (ys.length : Int)) := by omega
        have hI5 : ((ys.length : Int) < (xs.length : Int)) := by omega
        have hI6 : ¬ ((k : Int) < (ys.length : Int)) := by omega
        go_wp2
        go_ret
        exact ⟨ret_int HJ.out, X2.out.trans (HB.out.mono X2.out.size)⟩
    · have hke : k = xs.length := by omega
      subst hke
      have HJ := Lib.hid (cmpP_end (x := xs) (y := ys) (k := xs.length) (Nat.le_refl _))
      have d1 : decide ((xs.length : Int) < (xs.length : Int)) = false := by simp
      by_cases hl2 : xs.length < ys.length
      · have hI2 : (xs.length : Int) < (ys.length : Int) := by omega
        go_wp2
        go_ret
        exact ⟨ret_int (by rw [← HI.out, HJ.out, if_pos hl2]), X2.out.trans (HB.out.mono X2.out.size)⟩
      · have hI2 : ¬ (xs.length : Int) < (ys.length : Int) := by omega
        have hI3 : ¬ (ys.length : Int) < (xs.length : Int) := by omega
        go_wp2
        go_ret
        exact ⟨ret_int (by rw [← HI.out, HJ.out, if_neg hl2]), X2.out.trans (HB.out.mono X2.out.size)⟩
end Go.Proofs.YtojcciciinklbaaDoor
