/- Walks: how paths stand, as the document says it; names of a small world. No claim by itself. -/
import Derived.Test.YtojcciciinklbaaPathJoin
import Derived.Test.YtojcciciinklbaaCmp
import Derived.Test.YtojcciciinklbaaRef01
import Derived.Test.YtojcciciinklbaaOpen
set_option linter.unusedSimpArgs false
set_option linter.unusedVariables false
namespace Go.Proofs.Ytojcciciinklbaa
open Go.RowKit

theorem toL_nb {a b : ByteArray} (h : a ≠ b) : (a.toList == b.toList) = false := beq_eq_false_iff_ne.2 fun e => h (toL_inj e)
theorem toL_np {a b : ByteArray} (h : a ≠ b) : ¬ a.toList = b.toList := fun e => h (toL_inj e)
theorem below_drew (w : World) : Below w.heap.size w w.drew := ⟨rfl, rfl, rfl, Nat.le_refl _, fun _ _ => rfl⟩
theorem below_drewN (w : World) (n : Nat) : Below w.heap.size w (w.drewN n) := ⟨rfl, rfl, rfl, Nat.le_refl _, fun _ _ => rfl⟩

theorem bdn {B : Nat} {a w : World} (h : Below B a w) (n : Nat) : Below B a (w.drewN n) := ⟨h.os, h.tape, h.output, h.size, h.block⟩
theorem spl_len (cur l : List UInt8) : (spl cur l).length ≤ l.length + 1 := by
  induction l generalizing cur with
  | nil => simp [spl]
  | cons c r ih =>
    unfold spl
    split
    · have := ih []; simp; omega
    · have := ih (cur ++ [c]); simp; omega
theorem pieces_len (p : ByteArray) : (pieces p).length ≤ p.size + 1 := by
  unfold pieces
  split
  · simp
  · rw [List.length_map]; exact spl_len _ _

set_option maxHeartbeats 2000000 in
theorem rcompare_any (a b : ByteArray) (w : World) (ha : a.size ≤ 100000) (hb : b.size ≤ 100000) :
    Calls Try.prog 46 #[.string a, .string b] w fun e w' => e = .returned (.int .i64 (cmpP (pieces a) (pieces b))) ∧ Below w.heap.size w w' := by
  have hla := pieces_len a
  have hlb := pieces_len b
  obtain ⟨xs, hxs⟩ : ∃ xs, xs = pieces a := ⟨_, rfl⟩
  obtain ⟨ys, hys⟩ : ∃ ys, ys = pieces b := ⟨_, rfl⟩
  rw [← hxs] at hla
  rw [← hys] at hlb
  rw [← hxs, ← hys]
  have HA := Lib.hid hxs
  have HY := Lib.hid hys
  clear hxs hys
  go_enter Try.func46, Try.ntmps46
  go_wp2_with fail
  refine (rpieces_any a w (by omega)).mono ?_
  rintro e w1 ⟨v1, rfl, h1, x1⟩
  rw [← HA.out] at h1
  have H1 := Lib.hid h1; have X1 := Lib.hid x1; clear h1 x1
  go_wp2_with fail
  refine (rpieces_any b w1 (by omega)).mono ?_
  rintro e w2 ⟨v2, rfl, h2, x2⟩
  rw [← HY.out] at h2
  have H1 := Lib.hid (H1.out.below x2)
  have H2 := Lib.hid h2; have X2 := Lib.hid (X1.out.trans (x2.mono X1.out.size)); clear h2 x2 X1
  obtain ⟨A1, c1, rfl, hnc1, hn1⟩ := H1.out.form
  obtain ⟨A2, c2, rfl, hnc2, hn2⟩ := H2.out.form
  go_wp2_with fail
  go_loopw [7] (fun i wr => ∃ k : Nat, k ≤ xs.length ∧ k ≤ ys.length ∧ i = .int .i64 k ∧ Hid (cmpP (xs.drop k) (ys.drop k) = cmpP xs ys) ∧ Below w2.heap.size w2 wr) (fun i _ => xs.length - (intOf i).toNat)
  case atStart => exact ⟨0, Nat.zero_le _, Nat.zero_le _, rfl, Lib.hid rfl, Below.refl _ _⟩
  case round =>
    obtain ⟨k, hk1, hk2, rfl, HI, hB⟩ := hrel
    have HB := Lib.hid hB
    clear hB
    by_cases hl1 : k < xs.length
    · have d1 : decide ((k : Int) < (xs.length : Int)) = true := by simp; omega
      have hI1 : (k : Int) < (xs.length : Int) := by omega
      by_cases hl2 : k < ys.length
      · have d2 : decide ((k : Int) < (ys.length : Int)) = true := by simp; omega
        obtain ⟨r1, cap1, he1, _, _, _, _, hat1⟩ := SL.at_ (H1.out.below HB.out) (by omega)
        simp at he1
        obtain ⟨rfl, rfl⟩ := he1
        have c1 := hat1 k hl1
        clear hat1
        obtain ⟨r2, cap2, he2, _, _, _, _, hat2⟩ := SL.at_ (H2.out.below HB.out) (by omega)
        simp at he2
        obtain ⟨rfl, rfl⟩ := he2
        have c2 := hat2 k hl2
        have hI2 : (k : Int) < (ys.length : Int) := by omega
        have HH := Lib.hid (cmpP_hit hl1 hl2)
        clear hat2
        rcases three xs[k] ys[k] with ⟨h1, h2, h3⟩ | he | ⟨h1, h2, h3⟩
        · have HJ : Hid (-1 = cmpP xs ys) := Lib.hid (by rw [← HI.out, HH.out, if_neg h3, cmpS_lt h1])
          have l1 : Op.bytesLess (xs[k]).toList (ys[k]).toList = true := h1
          clear h1 h2 h3
          go_wp2
          go_quiet (fail)
          go_wp2
          go_ret
          first | exact ⟨ret_int HJ.out, X2.out.trans ((bdn HB.out _).mono X2.out.size)⟩ | exact ⟨ret_int HJ.out, X2.out.trans ((bdn (bdn HB.out _) _).mono X2.out.size)⟩
        · have HJ : Hid (cmpP (xs.drop (k + 1)) (ys.drop (k + 1)) = cmpP xs ys) := Lib.hid (by rw [← HI.out, HH.out, if_pos he])
          rw [he] at c1
          have l1 : Op.bytesLess (ys[k]).toList (ys[k]).toList = false := bl_irrefl _
          clear he
          go_wp2
          go_quiet (fail)
          go_wp2
          go_quiet (fail)
          go_wp2
          go_roundw
          case rel => exact ⟨k + 1, by omega, by omega, by go_num, HJ, by first | exact bdn HB.out _ | exact bdn (bdn HB.out _) _⟩
          case measure => simp [intOf]; omega
        · have HJ : Hid (1 = cmpP xs ys) := Lib.hid (by rw [← HI.out, HH.out, if_neg h3, cmpS_gt h1])
          have l1 : Op.bytesLess (xs[k]).toList (ys[k]).toList = false := h2
          have l2 := toL_nb h3
          have l3 := toL_np h3
          clear h1 h2 h3
          go_wp2
          go_quiet (fail)
          go_wp2
          go_quiet (fail)
          go_wp2
          go_ret
          first | exact ⟨ret_int HJ.out, X2.out.trans ((bdn HB.out _).mono X2.out.size)⟩ | exact ⟨ret_int HJ.out, X2.out.trans ((bdn (bdn HB.out _) _).mono X2.out.size)⟩
      · have d2 : decide ((k : Int) < (ys.length : Int)) = false := by simp; omega
        have HJ : Hid (1 = cmpP xs ys) := Lib.hid (by rw [← HI.out, cmpP_over hl1 (by omega)])
        have hI4 : ¬ ((xs.length : Int) < (ys.length : Int)) := by omega
        have hI5 : ((ys.length : Int) < (xs.length : Int)) := by omega
        have hI6 : ¬ ((k : Int) < (ys.length : Int)) := by omega
        go_wp2
        go_ret
        exact ⟨ret_int HJ.out, X2.out.trans (HB.out.mono X2.out.size)⟩
    · have hke : k = xs.length := by omega
      subst hke
      have HJ := Lib.hid (cmpP_end (x := xs) (y := ys) (k := xs.length) (Nat.le_refl _))
      have d1 : decide ((xs.length : Int) < (xs.length : Int)) = false := by simp
      by_cases hl2 : xs.length < ys.length
      · have hI2 : (xs.length : Int) < (ys.length : Int) := by omega
        go_wp2
        go_ret
        exact ⟨ret_int (by rw [← HI.out, HJ.out, if_pos hl2]), X2.out.trans (HB.out.mono X2.out.size)⟩
      · have hI2 : ¬ (xs.length : Int) < (ys.length : Int) := by omega
        have hI3 : ¬ (ys.length : Int) < (xs.length : Int) := by omega
        go_wp2
        go_ret
        exact ⟨ret_int (by rw [← HI.out, HJ.out, if_neg hl2]), X2.out.trans (HB.out.mono X2.out.size)⟩
/-- The names of the small world. -/
def names10 : List ByteArray := [⟨#[97]⟩, ⟨#[98]⟩, ⟨#[97, 98]⟩, ⟨#[97, 46, 98]⟩, ⟨#[97, 45]⟩, ⟨#[122]⟩, ⟨#[66]⟩, ⟨#[46, 46, 46]⟩, ⟨#[97, 32, 98]⟩, ⟨#[97, 97, 97, 97, 97, 97, 97, 97, 97, 97, 97, 97, 97, 97, 97, 97, 97, 97, 97, 97, 97, 97, 97, 97]⟩]
def nameOf (n : Int) : ByteArray := names10.getD (around n 10).toNat ⟨#[]⟩
theorem names10_ok : ∀ x ∈ names10, nameB x = true := by decide +kernel
theorem nameOf_mem (n : Int) : nameOf n ∈ names10 := by
  have h := around_range n 10 (by decide)
  have : (around n 10).toNat < names10.length := by show _ < 10; omega
  unfold nameOf
  rw [List.getD, List.getElem?_eq_getElem this]
  exact List.getElem_mem this
theorem nameOf_ok (n : Int) : nameB (nameOf n) = true := names10_ok _ (nameOf_mem n)

theorem ints_at {L : Live} {w : World} {xs : List Int} {A : Option Addr} {n c : Nat} (h : SliceR Rp.i64 L w xs (.slice A n c)) (i : Nat) (hi : i < xs.length) : ∃ b off, A = some ⟨b, off, none⟩ ∧ w.cell? ⟨b, off + i, none⟩ = some (.int .i64 xs[i]) ∧ -9223372036854775808 ≤ xs[i] ∧ xs[i] ≤ 9223372036854775807 := by
  obtain ⟨b, off, cs, hA, ⟨rfl, hb⟩, hc⟩ := h.get (by decide) i hi
  have := (hc 0 _ rfl).1
  have e : off + i * Rp.i64.sz + 0 = off + i := by show off + i * 1 + 0 = _; omega
  rw [e] at this
  exact ⟨b, off, hA, this, hb⟩

set_option maxHeartbeats 1000000 in
theorem nameof_any (n : Int) (w : World) (h1 : -9223372036854775808 ≤ n) (h2 : n ≤ 9223372036854775807) :
    Calls Try.prog 47 #[.int .i64 n] w fun e w' => e = .returned (.string (nameOf n)) ∧ Below w.heap.size w w' := by
  have hr := around_range n 10 (by decide)
  obtain ⟨k, hk⟩ := Int.eq_ofNat_of_zero_le hr.1
  have hk10 : k < 10 := by omega
  have HE : Hid (names10[k]? = some (nameOf n)) := Lib.hid (by
    unfold nameOf
    rw [hk, Int.toNat_natCast, List.getD, List.getElem?_eq_getElem (show k < names10.length from hk10)]; rfl)
  have Hk := Lib.hid hk
  clear hr hk
  go_enter Try.func47, Try.ntmps47
  go_wp2_with fail
  refine (around_any n 10 _ h1 h2 (by decide) (by decide)).mono ?_
  rintro e w1 ⟨rfl, rfl⟩
  rw [Hk.out]
  have hcase : k = 0 ∨ k = 1 ∨ k = 2 ∨ k = 3 ∨ k = 4 ∨ k = 5 ∨ k = 6 ∨ k = 7 ∨ k = 8 ∨ k = 9 := by omega
  rcases hcase with rfl | rfl | rfl | rfl | rfl | rfl | rfl | rfl | rfl | rfl
  all_goals
    go_wp2
    go_ret
    exact ⟨ret_str (Option.some.inj HE.out), (Below.refl _ _).alloc (Nat.le_refl _) _⟩

end Go.Proofs.Ytojcciciinklbaa
