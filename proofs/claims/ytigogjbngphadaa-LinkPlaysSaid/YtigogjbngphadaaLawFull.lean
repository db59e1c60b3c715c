/- LinkFull: there are 64 packets at most, sent or copied. -/
import Derived.Test.YtigogjbngphadaaLink8
import Derived.Test.YtigogjbngphadaaLawTurns
import Derived.Test.YtigogjbngphadaaOpen
set_option linter.unusedSimpArgs false
set_option linter.unusedVariables false
namespace Go.Proofs.Ytigogjbngphadaa
open Go.RowKit

theorem bools_at {L : Live} {w : World} {xs : List Bool} {A : Option Addr} {n c : Nat} (h : SliceR Rp.bool L w xs (.slice A n c)) (i : Nat) (hi : i < xs.length) : ∃ b off, A = some ⟨b, off, none⟩ ∧ w.cell? ⟨b, off + i, none⟩ = some (.bool xs[i]) := by
  obtain ⟨b, off, cs, hA, hcs, hc⟩ := h.get (by decide) i hi
  have := (hc 0 (.bool xs[i]) (by rw [hcs]; rfl)).1
  have e : off + i * Rp.bool.sz + 0 = off + i := by show off + i * 1 + 0 = _; omega
  rw [e] at this
  exact ⟨b, off, hA, this⟩

/-- What a step of filling comes to. -/
def Filled (L : Live) (base g : Nat) (w : World) (n : Nat) (e : Ending) (w' : World) : Prop :=
  ∃ xs, e = .returned (.int .i64 (if n < 64 then 0 else 5)) ∧ xs.length = min (n + 1) 64 ∧ LinkAt L w' base g xs ∧ LStep L base w w'

theorem copy_fill (g base : Nat) (L : Live) (w : World) (xs : List Pk) (h1 : 1 ≤ xs.length) (h2 : xs.length ≤ 64) (hL : LinkAt L w base g xs) (hok : LOk L w) (hbase : base ≤ w.heap.size) :
    Calls Try.prog 12 #[.pointer (some ⟨g, 0, none⟩), .int .i64 0] w (Filled L base g w xs.length) := by
  by_cases h : xs.length < 64
  · refine (copy_any 0 g base L w xs (by omega) h hL hok hbase).mono ?_
    rintro e w' ⟨rfl, e1, e2⟩
    exact ⟨_, by rw [if_pos h], by rw [List.length_append, List.length_singleton]; omega, e1, e2⟩
  · refine (copy_full 0 g base L w xs (by omega) (by omega) hL hok).mono ?_
    rintro e w' ⟨rfl, e1⟩
    exact ⟨xs, by rw [if_neg h], by omega, hL.ext e1, LStep.of_below hok hbase e1.below⟩
theorem send_fill (to : Int) (bs : List UInt8) (v : Value) (g base : Nat) (L Lb : Live) (w : World) (xs : List Pk) (hto : to = 0 ∨ to = 1) (hS : SliceR Rp.byte Lb w bs v) (hbs : bs.length ≤ 140737488355328) (h2 : xs.length ≤ 64) (hL : LinkAt L w base g xs) (hok : LOk L w) (hbase : base ≤ w.heap.size) :
    Calls Try.prog 11 #[.pointer (some ⟨g, 0, none⟩), .int .i64 to, v] w (Filled L base g w xs.length) := by
  by_cases h : xs.length < 64
  · refine (send_any to bs v g base L Lb w xs hto hS hbs h hL hok hbase).mono ?_
    rintro e w' ⟨rfl, e1, e2⟩
    exact ⟨_, by rw [if_pos h], by rw [List.length_append, List.length_singleton]; omega, e1, e2⟩
  · refine (send_full to bs v g base L Lb w xs hto hS (by omega) hL hok).mono ?_
    rintro e w' ⟨rfl, e1⟩
    exact ⟨xs, by rw [if_neg h], by omega, hL.ext e1, LStep.of_below hok hbase e1.below⟩

theorem one_byte (w : World) (y : UInt8) : SliceR Rp.byte (fun _ _ => True) (w.alloc (.cells #[.int .u8 (y.toNat : Int)] 5)) [y] (.slice (some ⟨w.heap.size, 0, none⟩) 1 1) :=
  Blk.reads (d := Rp.byte) (base := 0) (e := 5) (n := 1) (cells := bytesV [y]) ⟨rfl, .inr ⟨_, 1, #[.int .u8 (y.toNat : Int)], (0, 0), rfl, Nat.zero_le _, heap_alloc_new _ _, .inl rfl, Nat.le_refl _, by decide, Nat.le_refl _, rfl⟩⟩ (bytes_reps _ _ _) rfl (by decide) (fun _ _ _ _ => trivial)

set_option maxHeartbeats 4000000 in
theorem law_full (n : Int) (cs : List Bool) (v : Value) (Lb : Live) (w : World) (hn1 : -9223372036854775808 ≤ n) (hn2 : n ≤ 9223372036854775807) (hS : SliceR Rp.bool Lb w cs v) :
    Calls Try.prog 6 #[.int .i64 n, v] w fun e w' => e = .returned (.bool true) ∧ Below w.heap.size w w' := by
  have hok : LOk (fun b _ => b < w.heap.size) w := fun b i h => h
  obtain ⟨L, hL⟩ : ∃ L : Live, L = fun b _ => b < w.heap.size := ⟨_, rfl⟩
  rw [← hL] at hok
  clear hL
  obtain ⟨A, c, rfl, hnc, hc1, hc2⟩ := hS.form
  have HS := Lib.hid hS; clear hS
  have Hok := Lib.hid hok; clear hok
  go_enter Try.func6, Try.ntmps6
  go_wp2_with fail
  refine (new_any L w Hok.out).mono ?_; rintro e w1 ⟨g, rfl, hL1, hX1⟩
  have HL1 := Lib.hid hL1; have HX1 := Lib.hid hX1; clear hL1 hX1
  go_wp2_with fail
  refine (around_any n 11 w1 hn1 hn2 (by decide) (by decide)).mono ?_
  rintro e w1' ⟨rfl, rfl⟩
  have hkr := around_range n 11 (by decide)
  obtain ⟨kk, hkk⟩ := Int.eq_ofNat_of_zero_le hkr.1
  rw [hkk] at hkr ⊢
  have hkb : kk ≤ 10 := by omega
  clear hkk hkr
  go_wp2_with fail
  go_loopw [7] (fun i wr => ∃ j : Nat, j ≤ 60 + kk ∧ i = .int .i64 j ∧ ∃ xs, xs.length = min j 64 ∧ LinkAt L wr w.heap.size g xs ∧ Ext L w L wr) (fun i _ => 60 + kk - (intOf i).toNat)
  case atStart => exact ⟨0, Nat.zero_le _, rfl, [], rfl, HL1.out, HX1.out⟩
  case round =>
    obtain ⟨j, hj, rfl, xs, hxs, hL, hX⟩ := hrel
    clear HL1 HX1
    have HX := Lib.hid hX; have HL := Lib.hid hL; have Hxs := Lib.hid hxs
    have hxl : xs.length ≤ 64 := by omega
    have hXb := hX.below.size
    clear hX hL hxs
    by_cases hlt : j < 60 + kk
    · have hltI : (j : Int) < 60 + (kk : Int) := by omega
      cases j with
      | zero =>
        have hx0 : xs.length = 0 := by have := Hxs.out; omega
        go_wp2_with fail
        refine (send_fill 0 [0] _ g w.heap.size L (fun _ _ => True) _ xs (.inl rfl) (one_byte wr 0) (by decide) hxl (HL.out.ext ((Ext.refl HX.out.ok).alloc _)) (LOk.alloc HX.out.ok _) (by simp; omega)).mono ?_
        rintro e w2 ⟨ys, rfl, hys, hL2, hX2⟩
        rw [if_pos (by omega)]
        have HE : Hid (ys.length = min (0 + 1) 64 ∧ LinkAt L w2 w.heap.size g ys ∧ Ext L w L w2) := Lib.hid ⟨by omega, hL2, hX2.ext (HX.out.alloc _) (Nat.le_refl _)⟩
        clear hys hL2 hX2 hx0 hxl HL HX
        go_wp2
        go_roundw
        case rel => exact ⟨1, by omega, by go_num, ys, HE.out.1, HE.out.2.1, HE.out.2.2⟩
        case measure => simp [intOf] <;> omega
      | succ m =>
        have hx1 : 1 ≤ xs.length := by have := Hxs.out; omega
        have hmod : (m : Int) + 1 = ((m + 1 : Nat) : Int) := by omega
        have hcase : (decide ((m : Int) < (cs.length : Int)) = true ∧ ∃ h : m < cs.length, cs[m] = true) ∨ (decide ((m : Int) < (cs.length : Int)) = true ∧ ∃ h : m < cs.length, cs[m] = false) ∨ decide ((m : Int) < (cs.length : Int)) = false := by
          by_cases h : m < cs.length
          · cases hb : cs[m] with
            | true => exact .inl ⟨by simpa using h, h, hb⟩
            | false => exact .inr (.inl ⟨by simpa using h, h, hb⟩)
          · exact .inr (.inr (by simpa using h))
        clear hmod
        have hmw : m < 69 := by omega
        obtain ⟨y, hy⟩ : ∃ y : UInt8, (y.toNat : Int) = (m : Int) + 1 := ⟨UInt8.ofNat (m + 1), by simp; omega⟩
        have Hy := Lib.hid hy
        have hto : ((y.toNat : Int) % 2 = 0) ∨ ((y.toNat : Int) % 2 = 1) := by omega
        clear hy
        rcases hcase with ⟨hd, hm, hbit⟩ | ⟨hd, hm, hbit⟩ | hd
        focus
          obtain ⟨b, off, rfl, d0⟩ := bools_at HS.out m hm
          rw [hbit] at d0
          have c0 := (HX.out.below.cell (World.block_lt_of_cell? w _ d0)).trans d0
          have hmx : max ((cs.length : Int) - 1) 0 = (cs.length : Int) - 1 := by omega
          have hmn : min (m : Int) ((cs.length : Int) - 1) = m := by omega
          have hml : (m : Int) < (cs.length : Int) := by omega
          clear d0 hbit
          go_wp2_with fail
          refine (copy_fill g w.heap.size L wr xs hx1 hxl HL.out HX.out.ok hXb).mono ?_
          rintro e w2 ⟨ys, rfl, hys, hL2, hX2⟩
          have hX3 := hX2.ext HX.out (Nat.le_refl _)
          clear c0 hmx hmn hml
        rotate_left
        focus
          obtain ⟨b, off, rfl, d0⟩ := bools_at HS.out m hm
          rw [hbit] at d0
          have c0 := (HX.out.below.cell (World.block_lt_of_cell? w _ d0)).trans d0
          have hmx : max ((cs.length : Int) - 1) 0 = (cs.length : Int) - 1 := by omega
          have hmn : min (m : Int) ((cs.length : Int) - 1) = m := by omega
          have hml : (m : Int) < (cs.length : Int) := by omega
          clear d0 hbit
          go_wp2_with fail
          have hy := Hy.out
          rw [← hy]
          refine (send_fill _ [y] _ g w.heap.size L (fun _ _ => True) _ xs hto (one_byte wr y) (by simp) hxl (HL.out.ext ((Ext.refl HX.out.ok).alloc _)) (LOk.alloc HX.out.ok _) (by simp; omega)).mono ?_
          rintro e w2 ⟨ys, rfl, hys, hL2, hX2⟩
          have hX3 := hX2.ext (HX.out.alloc _) (Nat.le_refl _)
          rw [hy]
          clear c0 hmx hmn hml hy
        rotate_left
        focus
          have hml : (cs.length : Int) ≤ (m : Int) := by simpa using hd
          go_wp2_with fail
          have hy := Hy.out
          rw [← hy]
          refine (send_fill _ [y] _ g w.heap.size L (fun _ _ => True) _ xs hto (one_byte wr y) (by simp) hxl (HL.out.ext ((Ext.refl HX.out.ok).alloc _)) (LOk.alloc HX.out.ok _) (by simp; omega)).mono ?_
          rintro e w2 ⟨ys, rfl, hys, hL2, hX2⟩
          have hX3 := hX2.ext (HX.out.alloc _) (Nat.le_refl _)
          rw [hy]
          clear hy
        rotate_left
        all_goals
          have HE : Hid (ys.length = min (m + 1 + 1) 64 ∧ LinkAt L w2 w.heap.size g ys ∧ Ext L w L w2) := Lib.hid ⟨by have := Hxs.out; omega, hL2, hX3⟩
          clear hys hL2 hX2 hX3
          by_cases h64 : xs.length < 64
          · have hd64 : decide ((m : Int) + 1 < 64) = true := by have := Hxs.out; simp; omega
            rw [if_pos h64]
            clear h64 hxl hx1 HL HX
            go_wp2
            go_roundw
            case rel => exact ⟨m + 1 + 1, by omega, by go_num, ys, HE.out.1, HE.out.2.1, HE.out.2.2⟩
            case measure => simp [intOf] <;> omega
          · have hd64 : decide ((m : Int) + 1 < 64) = false := by have := Hxs.out; simp; omega
            rw [if_neg h64]
            clear h64 hxl hx1 HL HX
            go_wp2
            go_roundw
            case rel => exact ⟨m + 1 + 1, by omega, by go_num, ys, HE.out.1, HE.out.2.1, HE.out.2.2⟩
            case measure => simp [intOf] <;> omega
    · have hje : j = 60 + kk := by omega
      subst hje
      have hxn : xs.length = min (60 + kk) 64 := Hxs.out
      have hpos : 0 < xs.length := by omega
      have hcase : ∃ N : Int, (xs.length : Int) = N ∧ ((64 < 60 + (kk : Int) ∧ N = 64) ∨ (60 + (kk : Int) ≤ 64 ∧ N = 60 + (kk : Int))) := by
        by_cases h : 4 < kk
        · exact ⟨64, by omega, .inl ⟨by omega, rfl⟩⟩
        · exact ⟨60 + (kk : Int), by omega, .inr ⟨by omega, rfl⟩⟩
      clear hxn Hxs hj hlt
      obtain ⟨N, hIx, hcase⟩ := hcase
      have HIx := Lib.hid hIx
      clear hIx
      rcases hcase with ⟨h64, rfl⟩ | ⟨h64, rfl⟩
      all_goals
        go_wp2_with fail
        refine (len_any L wr w.heap.size g xs HL.out).mono ?_
        rintro e w2 ⟨rfl, rfl⟩
        rw [HIx.out]
        go_wp2_with fail
        refine (late_any 0 g w.heap.size L wr xs hpos hxl HL.out HX.out.ok hXb).mono ?_
        rintro e w2 ⟨rfl, hL2, hX2⟩
        obtain ⟨ys, hys⟩ : ∃ ys, ys = lateL xs 0 hpos := ⟨_, rfl⟩
        have hyl : ys.length = xs.length := by rw [hys]; simp [lateL]; omega
        rw [← hys] at hL2
        have hyI : (ys.length : Int) = (xs.length : Int) := by omega
        have HL2 := Lib.hid hL2
        have HX2 := Lib.hid (hX2.ext HX.out (Nat.le_refl _))
        clear hL2 hX2 hys HL HX hXb
        go_wp2_with fail
        refine (len_any L w2 w.heap.size g ys HL2.out).mono ?_
        rintro e w2' ⟨rfl, rfl⟩
        rw [hyI, HIx.out]
        have Hyl := Lib.hid hyl
        clear hyI hyl
        go_wp2_with fail
        go_loopw [9] (fun i wr => ∃ j : Nat, j ≤ xs.length ∧ i = .int .i64 j ∧ ∃ zs, zs.length = j ∧ LinkAt L wr w.heap.size g zs ∧ Ext L w L wr) (fun i _ => (intOf i).toNat)
        case atStart => exact ⟨xs.length, Nat.le_refl _, by rw [HIx.out], ys, Hyl.out, HL2.out, HX2.out⟩
        case round =>
          obtain ⟨j, hj, rfl, zs, hzs, hL3, hX3⟩ := hrel
          clear HL2 HX2
          have HL3 := Lib.hid hL3; have HX3 := Lib.hid hX3; have Hzs := Lib.hid hzs
          have hzl : zs.length ≤ 64 := by omega
          have hX3b := hX3.below.size
          clear hL3 hX3 hzs
          cases j with
          | succ m =>
            have hz0 : 0 < zs.length := by have := Hzs.out; omega
            have hpm : 0 < (m : Int) + 1 := by omega
            go_wp2_with fail
            refine (take_any 0 g w.heap.size L _ zs hz0 hzl HL3.out HX3.out.ok hX3b).mono ?_
            rintro e w4 ⟨v4, rfl, hB4, hL4, hX4⟩
            obtain ⟨A4, c4, rfl, _, _⟩ := hB4.form
            have HX4 := Lib.hid (hX4.ext HX3.out (Nat.le_refl _))
            have HL4 := Lib.hid (hL4.ext ((Ext.refl HX4.out.ok).alloc (.cells #[.int .i64 zs[0].1, .slice A4 zs[0].2.size c4] 34)))
            obtain ⟨us, hus⟩ : ∃ us, us = zs.take 0 ++ zs.drop (0 + 1) := ⟨_, rfl⟩
            have hul : us.length = m := by have := Hzs.out; rw [hus]; simp; omega
            rw [← hus] at HL4
            have hulI : (us.length : Int) = (m : Int) := by omega
            have Hul := Lib.hid hul
            clear hL4 hX4 hB4 hus HL3 HX3 hul
            go_wp2_with fail
            refine (len_any L _ w.heap.size g us HL4.out).mono ?_
            rintro e w4' ⟨rfl, rfl⟩
            rw [hulI]
            clear hulI
            go_wp2
            go_roundw
            case rel => exact ⟨m, by omega, by go_num, us, Hul.out, HL4.out, HX4.out.alloc _⟩
            case measure => simp [intOf]
          | zero =>
            obtain rfl : zs = [] := List.eq_nil_of_length_eq_zero Hzs.out
            go_wp2_with fail
            refine (take_none 0 g w.heap.size L _ [] (by simp) HL3.out HX3.out.ok).mono ?_
            rintro e w4 ⟨rfl, hX4⟩
            have HX4 := Lib.hid ((HX3.out.trans hX4).alloc (.cells #[.int .i64 0, .slice none 0 0] 34))
            have HL4 := Lib.hid ((HL3.out.ext hX4).ext ((Ext.refl hX4.ok).alloc (.cells #[.int .i64 0, .slice none 0 0] 34)))
            clear hX4 HL3 HX3
            go_wp2_with fail
            refine (first_any 0 g w.heap.size L _ [] (by simp) HL4.out).mono ?_
            rintro e w5 ⟨rfl, hB5⟩
            have HX5 := Lib.hid (HX4.out.trans (Ext.of_below HX4.out.ok hB5))
            have h1 : firstOf 0 [] = -1 := rfl
            clear hB5 HX4 HL4
            go_wp2_with fail
            refine (lives_any L w5 HX5.out.ok).mono ?_
            rintro e w6 ⟨rfl, hX6⟩
            have HX6 := Lib.hid (HX5.out.trans hX6)
            clear hX6
            go_wp2
            go_ret
            exact ⟨rfl, HX6.out.below⟩
end Go.Proofs.Ytigogjbngphadaa
