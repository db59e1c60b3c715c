/- PathRound: what is joined of names is split into them again. -/
import Derived.Test.YtojcciciinklbaaDoorPath10
set_option linter.unusedSimpArgs false
set_option linter.unusedVariables false
namespace Go.Proofs.YtojcciciinklbaaDoor
open Go.RowKit

set_option maxHeartbeats 4000000 in
theorem law_round (l : List Int) (v : Value) (L : Live) (w : World) (hS : SliceR Rp.i64 L w l v) :
    Calls Tryd.prog 5 #[v] w fun e w' => e = .returned (.bool true) ∧ Below w.heap.size w w' := by
  obtain ⟨A, c, rfl, hnc, hn1, hn2⟩ := hS.form
  have HS := Lib.hid hS; clear hS
  go_enter Tryd.func5, Tryd.ntmps5
  go_wp2
  go_loopw [3, 4] (fun v i wr => ∃ (k : Nat) (xs : List ByteArray), k ≤ l.length ∧ k ≤ 6 ∧ i = .int .i64 k ∧ xs.length ≤ k ∧ Hid (xs = (l.take k).map nameOf) ∧ SL wr w.heap.size v xs ∧ Below w.heap.size w wr) (fun _ i _ => l.length - (intOf i).toNat)
  case atStart => exact ⟨0, [], Nat.zero_le _, Nat.zero_le _, rfl, Nat.le_refl _, Lib.hid rfl, SL.nil _ _, Below.refl _ _⟩
  case round =>
    obtain ⟨k, xs, hk, hk6, rfl, hxl, HX, hS, hB⟩ := hrel
    obtain ⟨Ap, cp, rfl, _, _⟩ := hS.form
    have hB' := hB.size
    have Hv := Lib.hid hS
    have HB := Lib.hid hB
    clear hS hB
    have hcase : (decide ((k : Int) < (l.length : Int)) = true ∧ decide ((k : Int) < 6) = true ∧ k < l.length ∧ k < 6) ∨ (((decide ((k : Int) < (l.length : Int)) = true ∧ decide ((k : Int) < 6) = false ∧ 6 ≤ (k : Int) ∧ (k : Int) < (l.length : Int)) ∨ (decide ((k : Int) < (l.length : Int)) = false ∧ (l.length : Int) ≤ (k : Int)))) := by
      by_cases h : k < l.length
      · by_cases h8 : k < 6
        · exact .inl ⟨by simpa using h, by simp; omega, h, h8⟩
        · exact .inr (.inl ⟨by simpa using h, by simp; omega, by omega, by omega⟩)
      · exact .inr (.inr ⟨by simpa using h, by omega⟩)
    rcases hcase with ⟨d1, d2, hlt, hlt6⟩ | hend
    · obtain ⟨b, off, rfl, d0, hb1, hb2⟩ := ints_at HS.out k hlt
      have c0 := (HB.out.cell (World.block_lt_of_cell? w _ d0)).trans d0
      have hkI : (k : Int) < (l.length : Int) := by omega
      have HT : Hid (xs ++ [nameOf l[k]] = (l.take (k + 1)).map nameOf) := Lib.hid (by rw [List.take_succ_eq_append_getElem hlt, List.map_append, HX.out]; rfl)
      obtain ⟨nm, hnm⟩ : ∃ nm, nm = nameOf l[k] := ⟨_, rfl⟩
      rw [← hnm] at HT
      have Hnm := Lib.hid hnm
      clear d0 hnm
      go_wp2_with fail
      refine (nameof_any l[k] wr hb1 hb2).mono ?_
      rintro e w1 ⟨rfl, x1⟩
      rw [← Hnm.out]
      have Hv1 := Lib.hid (Hv.out.below x1)
      have X1 := Lib.hid (HB.out.trans (x1.mono hB'))
      have X1s := X1.out.size
      clear x1 c0
      go_wp2_with (at_builtin; refine wpList_appB rfl (.tmp 18) (.tmp 24) 26 9 rfl w.heap.size _ 1 16 Tryd.underlying26 Tryd.infoStr rfl (by decide) _ _ rfl _ rfl xs.length (strV xs) ?c1 1 [.string nm] ?c2 ?c3 ?c4 ?c5 ?_)
      case c1 => exact Blk.below Hv1.out ((Below.refl _ w1).alloc (Nat.le_refl _) _)
      case c2 => exact Src.new w1 9 1 1 1 [_] rfl
      case c3 => first | exact strV_one [nm] | rfl
      case c4 => omega
      case c5 => first | omega | (simp; omega)
      intro v2 w2 hB2 hg2 _
      have HS2 := Lib.hid (SL.snoc rfl hB2)
      have HB2 : Hid (Below w.heap.size w w2) := Lib.hid ((X1.out.alloc X1s _).grown hg2 (by simp; omega) (fun k hk => (Blk.lt Hv1.out k hk).1))
      clear hB2 hg2
      go_wp2
      go_roundw
      case rel => exact ⟨k + 1, xs ++ [nm], by omega, by omega, by go_num, by simp; omega, HT, HS2.out, HB2.out⟩
      case measure => simp [intOf]; omega
    · have HE : Hid (xs = madeN l) := Lib.hid (by
        rw [HX.out]
        unfold madeN
        rcases hend with ⟨_, _, h, _⟩ | ⟨_, h⟩
        · rw [show k = 6 from by omega]
        · rw [List.take_of_length_le (by omega), List.take_of_length_le (by omega)])
      have hok : ∀ x ∈ xs, nameB x = true := fun x hx => madeN_ok l x (by rw [← HE.out]; exact hx)
      have HO : Hid (∀ x ∈ xs, x.size ≤ 1000000) := Lib.hid (fun x hx => Nat.le_trans (nameB_no47 (hok x hx)).2.2 (by decide))
      have hpp := pieces_join hok
      have hsp := split_good (p := joinS xs) (by rw [hpp, List.all_eq_true]; exact hok) (by rw [hpp]; omega)
      have hsz := joinS_size xs 24 (fun x hx => (nameB_no47 (hok x hx)).2.2)
      obtain ⟨P, hP⟩ : ∃ P, P = joinS xs := ⟨_, rfl⟩
      rw [← hP] at hpp hsp hsz
      have hPs : P.size ≤ 100000 := by have := Nat.mul_le_mul_right (24 + 1) (Nat.le_trans hxl hk6); omega
      have HP := Lib.hid hP
      have HS := Lib.hid (And.intro hsp.1 (hsp.2.trans hpp))
      clear hP hpp hsp hsz hok
      rcases hend with ⟨d1, d2, d3, d4⟩ | ⟨d1, d3⟩
      all_goals
        go_wp2_with fail
        refine (pjoin_any _ _ _ wr Hv.out (by omega) HO.out).mono ?_
        rintro e w1 ⟨rfl, x1⟩
        rw [← HP.out]
        have Hv1 := Lib.hid (Hv.out.below x1)
        have X1 := Lib.hid (HB.out.trans (x1.mono hB'))
        clear x1
        go_wp2_with fail
        refine (psplit_any P w1 hPs).mono ?_
        rintro e w2 ⟨v2, rfl, h2, x2⟩
        rw [HS.out.1]
        rw [HS.out.2] at h2
        have H2 := Lib.hid h2
        have Hv2 := Lib.hid (Hv1.out.below x2)
        have X2 := Lib.hid (X1.out.trans (x2.mono X1.out.size))
        clear x2 h2
        go_wp2_with fail
        refine (sametexts_any _ _ _ _ xs xs w2 H2.out Hv2.out (by omega) (by omega)).mono ?_
        rintro e w3 ⟨rfl, x3⟩
        rw [decide_eq_true (rfl : xs = xs)]
        have X3 := Lib.hid (X2.out.trans (x3.mono X2.out.size))
        clear x3
        go_wp2_with fail
        refine (plives_any w3).mono ?_
        rintro e w4 ⟨rfl, x4⟩
        have X4 := Lib.hid (X3.out.trans (x4.mono X3.out.size))
        clear x4
        go_wp2
        go_ret
        exact ⟨rfl, X4.out⟩
end Go.Proofs.YtojcciciinklbaaDoor
