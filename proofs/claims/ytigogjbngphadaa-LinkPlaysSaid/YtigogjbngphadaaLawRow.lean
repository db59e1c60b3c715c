/- LinkRow: what was sent is under way in its row, but for one that is late. -/
import Derived.Test.YtigogjbngphadaaLink9
import Derived.Test.YtigogjbngphadaaLawFull
set_option linter.unusedSimpArgs false
set_option linter.unusedVariables false
namespace Go.Proofs.Ytigogjbngphadaa
open Go.RowKit

/-- A list of byte rows: the row at a place. -/
theorem rows_at {L : Live} {w : World} {bss : List (List UInt8)} {A : Option Addr} {n c : Nat} (h : SliceR (Rp.slice Rp.byte) L w bss (.slice A n c)) (i : Nat) (hi : i < bss.length) : ∃ b off A' c', A = some ⟨b, off, none⟩ ∧ w.cell? ⟨b, off + i, none⟩ = some (.slice A' bss[i].length c') ∧ SliceR Rp.byte L w bss[i] (.slice A' bss[i].length c') := by
  obtain ⟨b, off, cs, hA, ⟨v, rfl, hv⟩, hc⟩ := h.get (by decide) i hi
  have := (hc 0 v rfl).1
  have e : off + i * (Rp.slice Rp.byte).sz + 0 = off + i := by show off + i * 1 + 0 = _; omega
  rw [e] at this
  obtain ⟨A', c', rfl, _⟩ := hv.form
  exact ⟨b, off, A', c', hA, this, hv⟩

theorem lateL_len (xs : List Pk) (k : Nat) (hk : k < xs.length) : (lateL xs k hk).length = xs.length := by simp [lateL]; omega
theorem Src.belo {w w' : World} {x : Value} {m size : Nat} {news : List Value} (h : Src w x m size news) (hb : Below w.heap.size w w') : Src w' x m size news := h.keep fun a u hu => (hb.cell (World.block_lt_of_cell? w _ hu)).trans hu

set_option maxHeartbeats 4000000 in
theorem law_row (bss : List (List UInt8)) (v : Value) (n : Int) (Lb : Live) (w : World) (hS : SliceR (Rp.slice Rp.byte) Lb w bss v) (hn1 : -9223372036854775808 ≤ n) (hn2 : n ≤ 9223372036854775807) :
    Calls Try.prog 4 #[v, .int .i64 n] w fun e w' => e = .returned (.bool true) ∧ Below w.heap.size w w' := by
  have hok : LOk (fun b _ => b < w.heap.size) w := fun b i h => h
  obtain ⟨L, hL⟩ : ∃ L : Live, L = fun b _ => b < w.heap.size := ⟨_, rfl⟩
  rw [← hL] at hok
  clear hL
  obtain ⟨A, c, rfl, hnc, hc1, hc2⟩ := hS.form
  have HS := Lib.hid hS; clear hS
  have Hok := Lib.hid hok; clear hok
  go_enter Try.func4, Try.ntmps4
  go_wp2_with fail
  refine (new_any L w Hok.out).mono ?_; rintro e w1 ⟨g, rfl, hL1, hX1⟩
  have HL1 := Lib.hid hL1; have HX1 := Lib.hid hX1; clear hL1 hX1
  go_wp2_with fail
  go_loopw [6, 7] (fun sent i wr => ∃ j : Nat, j ≤ bss.length ∧ j ≤ 8 ∧ i = .int .i64 j ∧ ∃ xs : List Pk, xs.length = j ∧ PL wr w.heap.size sent xs ∧ LinkAt L wr w.heap.size g xs ∧ Ext L w L wr) (fun _ i _ => bss.length - (intOf i).toNat)
  case atStart => exact ⟨0, Nat.zero_le _, Nat.zero_le _, rfl, [], rfl, Blk.nil _ _ _ _, HL1.out, HX1.out⟩
  case round =>
    obtain ⟨j, hj, hj8, rfl, xs, hxs, hP, hL, hX⟩ := hrel
    clear HL1 HX1
    have HX := Lib.hid hX; have HL := Lib.hid hL; have Hxs := Lib.hid hxs
    obtain ⟨Ap, cp, rfl, _, _⟩ := hP.form
    have HP := Lib.hid hP
    have hXb := hX.below.size
    clear hX hL hxs hP
    have hcase : (decide ((j : Int) < (bss.length : Int)) = true ∧ decide ((j : Int) < 8) = true ∧ j < bss.length ∧ j < 8) ∨ (((decide ((j : Int) < (bss.length : Int)) = true ∧ decide ((j : Int) < 8) = false ∧ 8 ≤ (j : Int) ∧ (j : Int) < (bss.length : Int)) ∨ (decide ((j : Int) < (bss.length : Int)) = false ∧ (bss.length : Int) ≤ (j : Int)))) := by
      by_cases h : j < bss.length
      · by_cases h8 : j < 8
        · exact .inl ⟨by simpa using h, by simp; omega, h, h8⟩
        · exact .inr (.inl ⟨by simpa using h, by simp; omega, by omega, by omega⟩)
      · exact .inr (.inr ⟨by simpa using h, by omega⟩)
    rcases hcase with ⟨d1, d2, hlt, hlt8⟩ | hend
    · obtain ⟨b, off, A', c', rfl, d0, hrow⟩ := rows_at HS.out j hlt
      have c0 := (HX.out.below.cell (World.block_lt_of_cell? w _ d0)).trans d0
      have hjI : (j : Int) < (bss.length : Int) := by omega
      have HR := Lib.hid (hrow.mono (sub_any HX.out.below))
      have hto : (j : Int) % 2 = 0 ∨ (j : Int) % 2 = 1 := by omega
      obtain ⟨to, hto'⟩ : ∃ to : Int, to = (j : Int) % 2 := ⟨_, rfl⟩
      rw [← hto'] at hto
      have Hto := Lib.hid hto'
      clear d0 hrow hto'
      go_wp2_with fail
      refine (few_any bss[j] _ 9 (fun _ _ => True) wr (by decide) (by decide) HR.out).mono ?_
      rintro e w2 ⟨v2, rfl, hB2, hX2⟩
      obtain ⟨tl, htl⟩ : ∃ tl : List UInt8, tl = bss[j].take (Int.toNat 9) := ⟨_, rfl⟩
      have htl9 : tl.length ≤ 9 := by rw [htl, List.length_take]; have : Int.toNat 9 = 9 := rfl; omega
      rw [← htl] at hB2
      clear htl
      obtain ⟨A2, c2, rfl, _, _⟩ := hB2.form
      have HX2 := Lib.hid (HX.out.trans (Ext.of_below HX.out.ok hX2))
      have HL2 := Lib.hid (HL.out.kept hX2 (fun _ _ => rfl))
      have HB2 := Lib.hid (hB2.lower hXb)
      have HP2 := Lib.hid (Blk.below HP.out hX2)
      clear hB2 hX2 HL HX HP c0 HR hXb
      go_wp2_with fail
      rw [← Hto.out]
      refine (send_any to tl _ g w.heap.size L _ w2 xs hto (HB2.out.list rfl (by omega)) (by omega) (by have := Hxs.out; omega) HL2.out HX2.out.ok HX2.out.below.size).mono ?_
      rintro e w3 ⟨rfl, hL3, hX3⟩
      have HB3 := Lib.hid (HB2.out.lstep hX3 (by decide) (by decide))
      have HP3 := Lib.hid (Blk.lstep HP2.out hX3 (by decide) (by decide))
      have HX3 := Lib.hid (hX3.ext HX2.out (Nat.le_refl _))
      have HL3 := Lib.hid hL3
      have kc := SliceR.toStr (P := Try.prog) (HB3.out.list rfl (by omega)) 22 5 9 Try.underlying22 Try.underlying5 Try.underlying9
      clear hL3 hX3 HL2 HX2 HB2 HP2
      rw [Hto.out]
      go_wp2_with (at_builtin; refine wpList_appB rfl (.tmp 34) (.tmp 40) 38 40 rfl w.heap.size _ 2 24 Try.underlying38 Try.info40 rfl (by decide) _ _ rfl _ rfl xs.length (pkV xs) ?c1 1 [.int .i64 ((j : Int) % 2), .string (mkS tl)] ?c2 ?c3 ?c4 ?c5 ?_)
      case c1 => exact Blk.below HP3.out ((Below.refl _ w3).alloc (Nat.le_refl _) _)
      case c2 => exact Src.new w3 40 2 1 1 [_, _] rfl
      case c3 => exact pkV_one [((j : Int) % 2, mkS tl)]
      case c4 => have := Hxs.out; omega
      case c5 => have := HX3.out.below.size; simp; omega
      intro v4 w4 hB4 hg4 _
      have HE : Hid (∃ ys : List Pk, ys.length = j + 1 ∧ PL w4 w.heap.size v4 ys ∧ LinkAt L w4 w.heap.size g ys ∧ Ext L w L w4) := Lib.hid ⟨xs ++ [(to, mkS tl)], by simp; exact Hxs.out, by
          unfold PL
          rw [List.length_append, pkV_append, Hto.out]
          exact hB4, HL3.out.other (grown_pre1 hg4) (fun k hk => by
            obtain ⟨cur, fr, hc⟩ := Blk.type HP3.out k hk
            exact ⟨cur, 40, fr, hc, by decide, by decide⟩), HX3.out.grown (grown_pre1 hg4) (fun k hk => (Blk.lt HP3.out k hk).1)⟩
      clear hB4 hg4 kc HB3 HP3 HX3 HL3
      go_wp2
      go_roundw
      case rel => exact ⟨j + 1, by omega, by omega, by go_num, HE.out⟩
      case measure => simp [intOf]; omega
    · have hlk : xs.length ≤ 8 := by rw [Hxs.out]; exact hj8
      have hsz := Lib.hid (link_size HL.out)
      by_cases hz : xs.length = 0
      · obtain rfl := List.eq_nil_of_length_eq_zero hz
        clear Hxs hlk hz
        rcases hend with ⟨d1, d2, d3, d4⟩ | ⟨d1, d3⟩
        all_goals
          go_wp2_with fail
          refine (late_none n g w.heap.size L wr [] (by simp) HL.out).mono ?_
          rintro e w2 ⟨rfl, rfl⟩
          go_wp2_with fail
          refine (lives_any L wr HX.out.ok).mono ?_
          rintro e w3 ⟨rfl, hX3⟩
          have HX3 := Lib.hid (HX.out.trans hX3)
          clear hX3
          go_wp2
          go_ret
          exact ⟨rfl, HX3.out.below⟩
      · have hpos : 1 ≤ xs.length := by omega
        clear hz Hxs
        have hkr := around_range n xs.length (by omega)
        obtain ⟨kk, hkk⟩ := Int.eq_ofNat_of_zero_le hkr.1
        rw [hkk] at hkr
        have hk : kk < xs.length := by omega
        clear hkr
        have HK := Lib.hid hkk
        clear hkk
        have hkw : ∀ ys' : List Pk, ys'.length = xs.length → (around n (ys'.length : Int)) = (kk : Int) := fun ys' h => by rw [h]; exact HK.out
        have hjl : (xs.length : Int) = (xs.length : Int) := rfl
        have hposI : 0 < (xs.length : Int) := by omega
        have hposb : ((xs.length : Int) == 0) = false := beq_eq_false_iff_ne.2 (by omega)
        have hkc : (kk : Int) < (xs.length : Int) := by omega
        have Hkw := Lib.hid hkw
        clear hkw hjl
        rcases hend with ⟨d1, d2, d3, d4⟩ | ⟨d1, d3⟩
        all_goals
          go_wp2_with fail
          refine (around_any n (xs.length : Int) wr hn1 hn2 (by omega) (by omega)).mono ?_
          rintro e w2 ⟨rfl, rfl⟩
          rw [HK.out]
          go_wp2_with fail
          refine (all_any g w.heap.size L wr xs (by omega) HL.out).mono ?_
          rintro e w5 ⟨vl, vs, rfl, hT5, hX5⟩
          have HT5 := Lib.hid hT5
          have HP5 := Lib.hid (Blk.below HP.out hX5)
          have HL5 := Lib.hid (HL.out.kept hX5 (fun _ _ => rfl))
          have HX5 := Lib.hid (HX.out.trans (Ext.of_below HX.out.ok hX5))
          obtain ⟨Al, cl, rfl, _, _⟩ := hT5.row.form
          clear hT5 hX5 HP HL HX
          go_wp2_with fail
          refine (as_any _ w5 _ xs vs HT5.out (by omega) (fun x hx => by obtain ⟨i, hi, rfl⟩ := List.mem_iff_getElem.1 hx; exact hsz.out i hi)).mono ?_
          rintro e w6 ⟨vp, rfl, hP6, hX6⟩
          have HQ6 := Lib.hid hP6
          obtain ⟨Aq, cq, rfl, _, _⟩ := hP6.form
          have HP6 := Lib.hid (Blk.below HP5.out hX6)
          have HL6 := Lib.hid (HL5.out.kept hX6 (fun _ _ => rfl))
          have HX6 := Lib.hid (HX5.out.trans (Ext.of_below HX5.out.ok hX6))
          clear hP6 hX6 HP5 HL5 HX5 HT5
          go_wp2_with fail
          refine (same_eq _ _ w6 _ _ xs HQ6.out HP6.out (by omega)).mono ?_
          rintro e w7 ⟨rfl, hX7⟩
          have HP7 := Lib.hid (Blk.below HP6.out hX7)
          have HL7 := Lib.hid (HL6.out.kept hX7 (fun _ _ => rfl))
          have HX7 := Lib.hid (HX6.out.trans (Ext.of_below HX6.out.ok hX7))
          clear hX7 HP6 HL6 HX6 HQ6
          go_wp2_with fail
          refine (late_any kk g w.heap.size L w7 xs hk (by omega) HL7.out HX7.out.ok HX7.out.below.size).mono ?_
          rintro e w8 ⟨rfl, hL8, hX8⟩
          have HP8 := Lib.hid (Blk.lstep HP7.out hX8 (by decide) (by decide))
          have HL8 := Lib.hid hL8
          have HX8 := Lib.hid (hX8.ext HX7.out (Nat.le_refl _))
          clear hX8 hL8 HP7 HL7 HX7
          obtain ⟨r, cap, he, _, _, _, hat⟩ := PL.at_ HP8.out hpos
          simp at he
          obtain ⟨rfl, rfl⟩ := he
          obtain ⟨s0, s1⟩ := hat kk hk
          have HC : Hid (∀ W', Below w8.heap.size w8 W' → W'.cell? ⟨r, kk * 2, none⟩ = some (.int .i64 xs[kk].1) ∧ W'.cell? ⟨r, kk * 2 + 1, none⟩ = some (.string xs[kk].2)) :=
            Lib.hid (fun W' hW => ⟨(hW.cell (World.block_lt_of_cell? w8 _ s0)).trans s0, (hW.cell (World.block_lt_of_cell? w8 _ s1)).trans s1⟩)
          have hll := lateL_len xs kk hk
          obtain ⟨zs, hzs⟩ : ∃ zs, zs = xs.take kk ++ xs.drop (kk + 1) := ⟨_, rfl⟩
          obtain ⟨ls, hls⟩ : ∃ ls, ls = lateL xs kk hk := ⟨_, rfl⟩
          have hlz : ls = zs ++ [xs[kk]] := by rw [hls, hzs]; rfl
          rw [← hls] at hll HL8
          have hzl : zs.length + 1 = ls.length := by rw [hlz]; simp
          have hsz2 := link_size HL8.out
          have Hsz2 : Hid (∀ x ∈ ls, x.2.size ≤ room) := Lib.hid (fun x hx => by obtain ⟨i, hi, rfl⟩ := List.mem_iff_getElem.1 hx; exact hsz2 i hi)
          have Hzs := Lib.hid hzs
          have Hlz := Lib.hid hlz
          have HN : Hid (ls.length ≤ 8 ∧ zs.length ≤ 8) := Lib.hid ⟨by omega, by omega⟩
          clear hat hzs hls hlz hzl hsz2 hll
          go_wp2
          go_region_law (first
            | (refine step_appB rfl (.tmp 73) (.tmp 78) 38 40 rfl wb.heap.size _ 2 24 Try.underlying38 Try.info40 rfl (by decide) _ vc rfl _ rfl zs.length (pkV zs) (Blk.below HPc.out (by first | exact Below.refl _ _ | exact below_drew _ | exact (Below.refl _ _).alloc (Nat.le_refl _) _ | exact ((Below.refl _ _).alloc (Nat.le_refl _) _).drew)) 1 [.int .i64 xs[kk].1, .string xs[kk].2] (by first | exact Src.new wc 40 2 1 1 [_, _] rfl | exact (Src.new wb 40 2 1 1 [_, _] rfl).belo HXc.out | exact ((Src.new wa 40 2 1 1 [_, _] rfl).belo HXb.out).belo HXc.out | exact (((src_new1 w8 40 2 1 1 [_, _] rfl).belo HXa.out).belo HXb.out).belo HXc.out) (pkV_one [xs[kk]]) (by have := HN.out; omega) (by have := HBc.out.size; simp; omega) ?_
               intro v1 wd hBd hgd _
               have HPd : Hid (PL wd wb.heap.size v1 ls) := Lib.hid (by unfold PL; rw [Hlz.out, List.length_append, pkV_append]; exact hBd)
               have HBd : Hid (Below wb.heap.size wb wd) := Lib.hid ((HBc.out.trans (Below.mono (show Below wc.heap.size wc _ from (by first | exact Below.refl _ _ | exact below_drew _ | exact (Below.refl _ _).alloc (Nat.le_refl _) _ | exact ((Below.refl _ _).alloc (Nat.le_refl _) _).drew)) HBc.out.size)).grown hgd (by have := HBc.out.size; simp; omega) (fun k hk => (HPc.out.lt k hk).1))
               clear hBd hgd)
            | (go_simp
               go_wp2_with (first
                 | (go_at_call 14
                    refine (all_any g w.heap.size L _ ls (by have := HN.out; omega) (HL8.out.kept (by first | exact Below.refl _ _ | exact below_drew _ | exact (Below.refl _ _).alloc (Nat.le_refl _) _ | exact ((Below.refl _ _).alloc (Nat.le_refl _) _).drew) (fun _ _ => rfl))).mono ?_
                    rintro e wa ⟨va, vt, rfl, hTa, hXa⟩
                    obtain ⟨Aa, ca, rfl, _, _⟩ := hTa.row.form
                    have HTa := Lib.hid hTa
                    have HXa := Lib.hid hXa
                    have HBa : Hid (Below w8.heap.size w8 wa) := Lib.hid (Below.trans (show Below w8.heap.size w8 _ from (by first | exact Below.refl _ _ | exact below_drew _ | exact (Below.refl _ _).alloc (Nat.le_refl _) _ | exact ((Below.refl _ _).alloc (Nat.le_refl _) _).drew)) (hXa.mono (by simp)))
                    clear hTa hXa
                    obtain ⟨s0, s1⟩ := HC.out _ HBa.out)
                 | (go_at_call 18
                    refine (as_any _ _ _ ls vt (HTa.out.below (by first | exact Below.refl _ _ | exact below_drew _ | exact (Below.refl _ _).alloc (Nat.le_refl _) _ | exact ((Below.refl _ _).alloc (Nat.le_refl _) _).drew)) (by have := HN.out; omega) Hsz2.out).mono ?_
                    rintro e wb ⟨vb, rfl, hPb, hXb⟩
                    have HPb := Lib.hid hPb
                    have HXb := Lib.hid hXb
                    have HBb : Hid (Below w8.heap.size w8 wb) := Lib.hid (HBa.out.trans (Below.mono (Below.trans (show Below wa.heap.size wa _ from (by first | exact Below.refl _ _ | exact below_drew _ | exact (Below.refl _ _).alloc (Nat.le_refl _) _ | exact ((Below.refl _ _).alloc (Nat.le_refl _) _).drew)) (hXb.mono (by simp))) HBa.out.size))
                    clear hPb hXb
                    obtain ⟨s0, s1⟩ := HC.out _ HBb.out)
                 | (go_at_call 19
                    refine (without_any w.heap.size kk _ _ xs hk (by omega) (Blk.below HP8.out (HBb.out.trans (Below.mono (show Below wb.heap.size wb _ from (by first | exact Below.refl _ _ | exact below_drew _ | exact (Below.refl _ _).alloc (Nat.le_refl _) _ | exact ((Below.refl _ _).alloc (Nat.le_refl _) _).drew)) HBb.out.size)))).mono ?_
                    rintro e wc ⟨vc, rfl, hPc, hXc⟩
                    rw [← Hzs.out] at hPc
                    have HPc : Hid (PL wc wb.heap.size vc zs) := Lib.hid (Blk.lower hPc (by simp))
                    have HXc := Lib.hid hXc
                    have HBc : Hid (Below wb.heap.size wb wc) := Lib.hid (Below.trans (show Below wb.heap.size wb _ from (by first | exact Below.refl _ _ | exact below_drew _ | exact (Below.refl _ _).alloc (Nat.le_refl _) _ | exact ((Below.refl _ _).alloc (Nat.le_refl _) _).drew)) (hXc.mono (by simp)))
                    clear hPc hXc
                    obtain ⟨s0, s1⟩ := HC.out _ (HBb.out.trans (HBc.out.mono HBb.out.size)))
                 | (go_at_call 17
                    refine (same_eq _ _ _ _ _ ls (Blk.below HPb.out HBd.out) HPd.out (by have := HN.out; omega)).mono ?_
                    rintro e we ⟨rfl, hXe⟩
                    have HXe := Lib.hid (HX8.out.trans (Ext.of_below HX8.out.ok (HBb.out.trans ((HBd.out.trans (hXe.mono HBd.out.size)).mono HBb.out.size))))
                    clear hXe)
                 | (go_at_call 15
                    refine (lives_any L _ HXe.out.ok).mono ?_
                    rintro e wf ⟨rfl, hXf⟩
                    have HXf := Lib.hid (HXe.out.trans hXf)
                    clear hXf))))
          all_goals
            go_wp2
            go_ret
            exact ⟨rfl, HXf.out.below⟩
end Go.Proofs.Ytigogjbngphadaa
