/- Walks: the document's numbers and short texts, as bytes. No claim by itself. -/
import Derived.Test.YtojcciciinklbaaLay0
import Derived.Test.YtojcciciinklbaaRef01
import Derived.Test.YtojcciciinklbaaAppStr
import Derived.Deep.RegionHeld3
import Derived.Deep.CutRange
set_option linter.unusedSimpArgs false
set_option linter.unusedVariables false
namespace Go.Proofs.Ytojcciciinklbaa
open Go.RowKit

theorem numB_nat (k m : Nat) : numB (k + 1) (m : Int) = UInt8.ofNat (m % 256) :: numB k ((m / 256 : Nat) : Int) := by
  rw [numB]
  have h1 : ((m : Int) % 256).toNat = m % 256 := by omega
  have h2 : (m : Int) / 256 = ((m / 256 : Nat) : Int) := by omega
  rw [h1, h2]
set_option maxHeartbeats 1000000 in
set_option maxRecDepth 100000 in
theorem rnumber_any (n K : Nat) (w : World) (hK : K ≤ 100) (hn : n ≤ 9223372036854775807) :
    Calls Try.prog 82 #[.int .i64 n, .int .i64 K] w fun e w' => ∃ v', e = .returned v' ∧ Blk w' w.heap.size 5 1 v' K (bytesV (numB K n)) ∧ Below w.heap.size w w' := by
  go_enter Try.func82, Try.ntmps82
  go_wp2
  go_loopw [0, 5, 6] (fun nv v i wr => ∃ (k m : Nat) (xs : List UInt8), k ≤ K ∧ i = .int .i64 k ∧ nv = .int .i64 m ∧ m ≤ n ∧ Hid (xs ++ numB (K - k) m = numB K n) ∧ Blk wr w.heap.size 5 1 v k (bytesV xs) ∧ Below w.heap.size w wr) (fun _ _ i _ => K - (intOf i).toNat)
  case atStart => exact ⟨0, n, [], Nat.zero_le _, rfl, rfl, Nat.le_refl _, Lib.hid rfl, Blk.nil _ _ _ _, Below.refl _ _⟩
  case round =>
    obtain ⟨k, m, xs, hk, rfl, rfl, hm, HX, hB, hX⟩ := hrel
    obtain ⟨Ap, cp, rfl, _, _⟩ := hB.form
    have hs := hX.size
    have HB := Lib.hid hB
    have HXw := Lib.hid hX
    clear hB hX
    by_cases hlt : k < K
    · have hkI : (k : Int) < (K : Int) := by omega
      obtain ⟨r, hr⟩ : ∃ r, r = m % 256 := ⟨_, rfl⟩
      obtain ⟨q, hq⟩ : ∃ q, q = UInt8.ofNat r := ⟨_, rfl⟩
      have HN : Hid ((xs ++ [q]) ++ numB (K - (k + 1)) ((m / 256 : Nat) : Int) = numB K n) := Lib.hid (by
        rw [← HX.out, show K - k = (K - (k + 1)) + 1 from by omega, numB_nat, hq, hr]; simp)
      have hqn : (q.toNat : Int) = (r : Int) := by rw [hq, hr]; simp
      have hw1 : IntKind.u8.wrap (r : Int) = (q.toNat : Int) := by rw [hqn, IntKind.wrap_u8]; omega
      have hr1 : (m : Int).tmod 256 = (r : Int) := by rw [Int.tmod_eq_emod_of_nonneg (by omega)]; omega
      have hr2 : (m : Int) % 256 = (r : Int) := by omega
      have hd1 : (m : Int).tdiv 256 = ((m / 256 : Nat) : Int) := by rw [Int.tdiv_eq_ediv_of_nonneg (by omega)]; omega
      have hm2 : m / 256 ≤ n := by omega
      obtain ⟨z, hz⟩ : ∃ z, z = m / 256 := ⟨_, rfl⟩
      rw [← hz] at hd1 hm2 HN
      clear hz hr
      have HBV : Hid (bytesV (xs ++ [q]) = bytesV xs ++ [.int .u8 (q.toNat : Int)]) := Lib.hid (by rw [bytesV_append]; rfl)
      clear hq hqn
      go_wp2_with (at_builtin; refine wpList_appB rfl (.tmp 12) (.tmp 16) 23 5 rfl w.heap.size _ 1 1 Try.underlying23 Try.info5 rfl (by decide) _ _ rfl _ rfl k (bytesV xs) ?c1 1 [.int .u8 (q.toNat : Int)] ?c2 ?c3 ?c4 ?c5 ?_)
      case c1 => exact HB.out.below ((Below.refl _ wr).alloc (Nat.le_refl _) _)
      case c2 => first | exact Src.new wr 5 1 1 1 [_] rfl | (have := Src.new wr 5 1 1 1 [.int .u8 (q.toNat : Int)] rfl; rw [← hw1] at this ⊢; exact this)
      case c3 => first | (intro u hu; simp at hu; subst hu; rfl) | rfl
      case c4 => omega
      case c5 => first | omega | (simp; omega)
      intro v1 w1 hB1 hg1 _
      rw [← HBV.out] at hB1
      have HB1 := Lib.hid hB1
      have HX1 : Hid (Below w.heap.size w w1) := Lib.hid ((HXw.out.alloc hs _).grown hg1 (by simp; omega) (fun k hk => (HB.out.lt k hk).1))
      clear hB1 hg1
      go_wp2
      go_roundw
      case rel => exact ⟨k + 1, z, xs ++ [q], by omega, by go_num, by first | rfl | rw [hd1] | (simp; omega), hm2, HN, HB1.out, HX1.out⟩
      case measure => simp [intOf]; omega
    · have hke : k = K := by omega
      subst hke
      have hI : ¬ (k : Int) < (k : Int) := by omega
      have HEq : Hid (xs = numB k n) := Lib.hid (by rw [← HX.out, Nat.sub_self]; simp [numB])
      go_wp2
      go_ret
      exact ⟨_, rfl, by rw [← HEq.out]; exact HB.out, HXw.out⟩

theorem rnumber_int (n : Int) (K : Nat) (w : World) (hK : K ≤ 100) (h0 : 0 ≤ n) (hn : n ≤ 9223372036854775807) :
    Calls Try.prog 82 #[.int .i64 n, .int .i64 K] w fun e w' => ∃ v', e = .returned v' ∧ Blk w' w.heap.size 5 1 v' K (bytesV (numB K n)) ∧ Below w.heap.size w w' := by
  obtain ⟨m, rfl⟩ := Int.eq_ofNat_of_zero_le h0
  exact rnumber_any m K w hK (by omega)
set_option maxRecDepth 100000 in
set_option maxHeartbeats 1000000 in
theorem rshort_any (s : ByteArray) (w : World) (hs : s.size ≤ 1000000) :
    Calls Try.prog 83 #[.string s] w fun e w' => ∃ v', e = .returned v' ∧ Blk w' w.heap.size 5 1 v' (shortB s).length (bytesV (shortB s)) ∧ Below w.heap.size w w' := by
  have HL : Hid (bytesV (numB 1 s.size) ++ bytesV s.data.toList = bytesV (shortB s)) := Lib.hid (by unfold shortB; rw [bytesV_append])
  have HN : Hid (1 + s.size = (shortB s).length) := Lib.hid (by rw [shortB_len]; omega)
  go_enter Try.func83, Try.ntmps83
  go_wp2_with fail
  refine (rnumber_any s.size 1 _ (by omega) (by omega)).mono ?_
  rintro e w1 ⟨v1, rfl, hB1, hX1⟩
  obtain ⟨A1, c1, rfl, _, _⟩ := hB1.form
  have hz := hX1.size
  have HB1 := Lib.hid hB1; have HX1 := Lib.hid hX1
  clear hB1 hX1
  go_wp2_with (first
    | (refine wpList_bytes (o := ⟨some 7, _, _, _, _, _⟩) rfl (.tmp 6) 9 23 5 rfl Try.underlying9 Try.underlying23 Try.underlying5 _ w.heap.size w1.heap.size rfl s rfl hz (by omega) ?_
       intro c2 w2 hblk hbel hsz
       have HB2 := Lib.hid hblk
       have HX2 := Lib.hid hbel
       clear hblk hbel)
    | (at_builtin
       refine wpList_appB rfl (.tmp 5) (.tmp 7) 23 5 rfl w.heap.size _ 1 1 Try.underlying23 Try.info5 rfl (by decide) _ _ rfl _ rfl 1 (bytesV (numB 1 s.size)) ?d1 s.size (bytesV s.data.toList) ?d2 ?d3 ?d4 ?d5 ?_))
  case d1 => exact HB1.out.below HX2.out
  case d2 => exact Blk.src HB2.out
  case d3 => exact bytesV_one _
  case d4 => omega
  case d5 => omega
  intro v4 w4 hB4 hg4 _
  rw [HL.out, HN.out] at hB4
  have HB4 := Lib.hid hB4
  have HX4 : Hid (Below w.heap.size w w4) := Lib.hid ((HX1.out.trans (HX2.out.mono hz)).grown hg4 (by omega) (fun k hk => (HB1.out.lt k hk).1))
  clear hB4 hg4
  go_wp2
  go_ret
  exact ⟨_, rfl, HB4.out, HX4.out⟩
end Go.Proofs.Ytojcciciinklbaa
