/- PathSplits: a path's names, or the error, is the document's. -/
import Derived.Test.YtojcciciinklbaaDoorPath10
import Derived.Deep.CutBlock
import Derived.Deep.DeepCutAuto
set_option linter.unusedSimpArgs false
set_option linter.unusedVariables false
namespace Go.Proofs.YtojcciciinklbaaDoor
open Go.RowKit

theorem strs_at {L : Live} {w : World} {xs : List ByteArray} {A : Option Addr} {n c : Nat} (h : SliceR Rp.str L w xs (.slice A n c)) (i : Nat) (hi : i < xs.length) : ∃ b off, A = some ⟨b, off, none⟩ ∧ w.cell? ⟨b, off + i, none⟩ = some (.string xs[i]) ∧ xs[i].size ≤ 9223372036854775807 := by
  obtain ⟨b, off, cs, hA, ⟨rfl, hb⟩, hc⟩ := h.get (by decide) i hi
  have := (hc 0 _ rfl).1
  have e : off + i * Rp.str.sz + 0 = off + i := by show off + i * 1 + 0 = _; omega
  rw [e] at this
  exact ⟨b, off, hA, this, hb⟩

set_option maxRecDepth 100000 in
set_option maxHeartbeats 8000000 in
theorem law_splits (s : ByteArray) (l : List ByteArray) (ns : List Int) (v1 v2 : Value) (L : Live) (w : World) (hs : s.size ≤ 9223372036854775807) (hS1 : SliceR Rp.str L w l v1) (hS2 : SliceR Rp.i64 L w ns v2) :
    Calls Tryd.prog 7 #[.string s, v1, v2] w fun e w' => e = .returned (.bool true) ∧ Below w.heap.size w w' := by
  obtain ⟨A1, c1, rfl, hnc1, hn11, hn12⟩ := hS1.form
  obtain ⟨A2, c2, rfl, hnc2, hn21, hn22⟩ := hS2.form
  have HS1 := Lib.hid hS1
  have HSS : Hid (∀ w', Below w.heap.size w w' → SliceR Rp.i64 (fun _ _ => True) w' ns (.slice A2 ns.length c2)) := Lib.hid (fun w' h => hS2.mono (sub_any h))
  clear hS1 hS2
  go_enter Tryd.func7, Tryd.ntmps7
  go_upto_block 0 with fail
  go_cut [7, 8] (fun v i wr => ∃ xs : List ByteArray, xs.length ≤ 8 ∧ Hid (∀ x ∈ xs, x.size ≤ 30) ∧ SL wr w.heap.size v xs ∧ Below w.heap.size w wr)
  case first =>
    go_wp2_with fail
    go_loopw [7, 8] (fun v i wr => ∃ (k : Nat) (xs : List ByteArray), k ≤ l.length ∧ k ≤ 8 ∧ i = .int .i64 k ∧ xs.length ≤ k ∧ Hid (xs = (l.take k).map (shortS · 30)) ∧ SL wr w.heap.size v xs ∧ Below w.heap.size w wr) (fun _ i _ => l.length - (intOf i).toNat)
    case atStart => exact ⟨0, [], Nat.zero_le _, Nat.zero_le _, rfl, Nat.le_refl _, Lib.hid rfl, SL.nil _ _, Below.refl _ _⟩
    case round =>
      obtain ⟨k, xs, hk, hk8, rfl, hxl, HX, hS, hB⟩ := hrel
      obtain ⟨Ap, cp, rfl, _, _⟩ := hS.form
      have hB' := hB.size
      have Hv := Lib.hid hS
      have HB := Lib.hid hB
      clear hS hB
      have hcase : (decide ((k : Int) < (l.length : Int)) = true ∧ decide ((k : Int) < 8) = true ∧ k < l.length ∧ k < 8) ∨ (((decide ((k : Int) < (l.length : Int)) = true ∧ decide ((k : Int) < 8) = false ∧ 8 ≤ (k : Int) ∧ (k : Int) < (l.length : Int)) ∨ (decide ((k : Int) < (l.length : Int)) = false ∧ (l.length : Int) ≤ (k : Int)))) := by
        by_cases h : k < l.length
        · by_cases h8 : k < 8
          · exact .inl ⟨by simpa using h, by simp; omega, h, h8⟩
          · exact .inr (.inl ⟨by simpa using h, by simp; omega, by omega, by omega⟩)
        · exact .inr (.inr ⟨by simpa using h, by omega⟩)
      rcases hcase with ⟨d1, d2, hlt, hlt8⟩ | hend
      · obtain ⟨b, off, rfl, d0, hb1⟩ := strs_at HS1.out k hlt
        have c0 := (HB.out.cell (World.block_lt_of_cell? w _ d0)).trans d0
        have hkI : (k : Int) < (l.length : Int) := by omega
        have HT : Hid (xs ++ [shortS l[k] 30] = (l.take (k + 1)).map (shortS · 30)) := Lib.hid (by rw [List.take_succ_eq_append_getElem hlt, List.map_append, HX.out]; rfl)
        obtain ⟨nm, hnm⟩ : ∃ nm, nm = shortS l[k] 30 := ⟨_, rfl⟩
        rw [← hnm] at HT
        have Hnm := Lib.hid hnm
        clear d0 hnm
        go_wp2_with fail
        refine (short_any l[k] 30 wr (by decide) hb1).mono ?_
        rintro e w1 ⟨rfl, rfl⟩
        rw [← Hnm.out]
        have Hv1 := Hv
        have X1 := HB
        have X1s := hB'
        clear c0
        go_wp2_with (at_builtin; refine wpList_appB rfl (.tmp 27) (.tmp 33) 26 9 rfl w.heap.size _ 1 16 Tryd.underlying26 Tryd.infoStr rfl (by decide) _ _ rfl _ rfl xs.length (strV xs) ?c1 1 [.string nm] ?c2 ?c3 ?c4 ?c5 ?_)
        case c1 => exact Blk.below Hv1.out ((Below.refl _ wr).alloc (Nat.le_refl _) _)
        case c2 => exact Src.new wr 9 1 1 1 [_] rfl
        case c3 => first | exact strV_one [nm] | rfl
        case c4 => omega
        case c5 => first | omega | (simp; omega)
        intro v2 w2 hB2 hg2 _
        have HS2 := Lib.hid (SL.snoc rfl hB2)
        have HB2 : Hid (Below w.heap.size w w2) := Lib.hid ((X1.out.alloc X1s _).grown hg2 (by simp; omega) (fun k hk => (Blk.lt Hv1.out k hk).1))
        clear hB2 hg2
        go_wp2
        go_roundw
        case rel => exact ⟨k + 1, xs ++ [nm], by omega, by omega, by go_num, by simp; omega, HT, HS2.out, HB2.out⟩
        case measure => simp [intOf]; omega
      · rcases hend with ⟨d1, d2, d3, d4⟩ | ⟨d1, d3⟩
        all_goals
          go_wp2_with fail
          go_meet
          exact ⟨xs, Nat.le_trans hxl hk8, Lib.hid (fun x hx => by
            rw [HX.out] at hx
            obtain ⟨y, _, rfl⟩ := List.mem_map.1 hx
            exact shortS_size y 30), Hv.out, HB.out⟩
  case rest =>
    obtain ⟨xs, hx8, Hxz, hV, hB⟩ := hcut
    obtain ⟨wA, hwA⟩ : ∃ wA, wA = wc := ⟨_, rfl⟩
    rw [← hwA] at hV hB ⊢
    clear hwA
    obtain ⟨Ax, cx, rfl, _, _⟩ := hV.form
    have HW := Lib.hid hV; have HBw := Lib.hid hB
    have hB' := hB.size
    clear hV hB
    have HS2 := Lib.hid (HSS.out wA HBw.out)
    go_upto_block 2 with fail
    go_cut [9, 10] (fun v i wr => ∃ ys : List ByteArray, ys.length ≤ 8 ∧ Hid (∀ x ∈ ys, x.size ≤ 24) ∧ SL wr wA.heap.size v ys ∧ Below wA.heap.size wA wr)
    case first =>
      go_wp2_with fail
      go_loopw [9, 10] (fun v i wr => ∃ (k : Nat) (ys : List ByteArray), k ≤ ns.length ∧ k ≤ 8 ∧ i = .int .i64 k ∧ ys.length ≤ k ∧ Hid (ys = (ns.take k).map nameOf) ∧ SL wr wA.heap.size v ys ∧ Below wA.heap.size wA wr) (fun _ i _ => ns.length - (intOf i).toNat)
      case atStart => exact ⟨0, [], Nat.zero_le _, Nat.zero_le _, rfl, Nat.le_refl _, Lib.hid rfl, SL.nil _ _, Below.refl _ _⟩
      case round =>
        obtain ⟨k, ys, hk, hk8, rfl, hyl, HX, hS, hB⟩ := hrel
        obtain ⟨Ap, cp, rfl, _, _⟩ := hS.form
        have hB' := hB.size
        have Hv := Lib.hid hS
        have HB := Lib.hid hB
        clear hS hB
        have hcase : (decide ((k : Int) < (ns.length : Int)) = true ∧ decide ((k : Int) < 8) = true ∧ k < ns.length ∧ k < 8) ∨ (((decide ((k : Int) < (ns.length : Int)) = true ∧ decide ((k : Int) < 8) = false ∧ 8 ≤ (k : Int) ∧ (k : Int) < (ns.length : Int)) ∨ (decide ((k : Int) < (ns.length : Int)) = false ∧ (ns.length : Int) ≤ (k : Int)))) := by
          by_cases h : k < ns.length
          · by_cases h8 : k < 8
            · exact .inl ⟨by simpa using h, by simp; omega, h, h8⟩
            · exact .inr (.inl ⟨by simpa using h, by simp; omega, by omega, by omega⟩)
          · exact .inr (.inr ⟨by simpa using h, by omega⟩)
        rcases hcase with ⟨d1, d2, hlt, hlt8⟩ | hend
        · obtain ⟨b, off, rfl, d0, hb1, hb2⟩ := ints_at HS2.out k hlt
          have c0 := (HB.out.cell (World.block_lt_of_cell? wA _ d0)).trans d0
          have hkI : (k : Int) < (ns.length : Int) := by omega
          have HT : Hid (ys ++ [nameOf ns[k]] = (ns.take (k + 1)).map nameOf) := Lib.hid (by rw [List.take_succ_eq_append_getElem hlt, List.map_append, HX.out]; rfl)
          obtain ⟨nm, hnm⟩ : ∃ nm, nm = nameOf ns[k] := ⟨_, rfl⟩
          rw [← hnm] at HT
          have Hnm := Lib.hid hnm
          clear d0 hnm
          go_wp2_with fail
          refine (nameof_any ns[k] wr hb1 hb2).mono ?_
          rintro e w1 ⟨rfl, x1⟩
          rw [← Hnm.out]
          have Hv1 := Lib.hid (Hv.out.below x1)
          have X1 := Lib.hid (HB.out.trans (x1.mono hB'))
          have X1s := X1.out.size
          clear x1 c0
          go_wp2_with (at_builtin; refine wpList_appB rfl (.tmp 45) (.tmp 51) 26 9 rfl wA.heap.size _ 1 16 Tryd.underlying26 Tryd.infoStr rfl (by decide) _ _ rfl _ rfl ys.length (strV ys) ?c1 1 [.string nm] ?c2 ?c3 ?c4 ?c5 ?_)
          case c1 => exact Blk.below Hv1.out ((Below.refl _ w1).alloc (Nat.le_refl _) _)
          case c2 => exact Src.new w1 9 1 1 1 [_] rfl
          case c3 => first | exact strV_one [nm] | rfl
          case c4 => omega
          case c5 => first | omega | (simp; omega)
          intro v2 w2 hB2 hg2 _
          have HS2 := Lib.hid (SL.snoc rfl hB2)
          have HB2 : Hid (Below wA.heap.size wA w2) := Lib.hid ((X1.out.alloc X1s _).grown hg2 (by simp; omega) (fun k hk => (Blk.lt Hv1.out k hk).1))
          clear hB2 hg2
          go_wp2
          go_roundw
          case rel => exact ⟨k + 1, ys ++ [nm], by omega, by omega, by go_num, by simp; omega, HT, HS2.out, HB2.out⟩
          case measure => simp [intOf]; omega
        · rcases hend with ⟨d1, d2, d3, d4⟩ | ⟨d1, d3⟩
          all_goals
            go_wp2_with fail
            go_meet
            exact ⟨ys, Nat.le_trans hyl hk8, Lib.hid (fun x hx => by
              rw [HX.out] at hx
              obtain ⟨y, _, rfl⟩ := List.mem_map.1 hx
              exact (nameB_no47 (nameOf_ok y)).2.2), Hv.out, HB.out⟩
    case rest =>
      obtain ⟨ys, hy8, Hyz, hV, hB⟩ := hcut
      obtain ⟨wB, hwB⟩ : ∃ wA, wA = wc := ⟨_, rfl⟩
      rw [← hwB] at hV hB ⊢
      clear hwB
      obtain ⟨Ay, cy, rfl, _, _⟩ := hV.form
      have Hv := Lib.hid hV; have HB := Lib.hid hB
      clear hV hB
      have j1 := joinS_size xs 30 Hxz.out
      have j2 := joinS_size ys 24 Hyz.out
      have j1' := Nat.mul_le_mul_right (30 + 1) hx8
      have j2' := Nat.mul_le_mul_right (24 + 1) hy8
      have H30 : Hid (∀ x ∈ xs, x.size ≤ 1000) := Lib.hid (fun x hx => Nat.le_trans (Hxz.out x hx) (by decide))
      have H24 : Hid (∀ x ∈ ys, x.size ≤ 1000) := Lib.hid (fun x hx => Nat.le_trans (Hyz.out x hx) (by decide))
      have H30m : Hid (∀ x ∈ xs, x.size ≤ 1000000) := Lib.hid (fun x hx => Nat.le_trans (Hxz.out x hx) (by decide))
      have H24m : Hid (∀ x ∈ ys, x.size ≤ 1000000) := Lib.hid (fun x hx => Nat.le_trans (Hyz.out x hx) (by decide))
      obtain ⟨T1, hT1⟩ : ∃ T, T = joinS xs := ⟨_, rfl⟩
      obtain ⟨T2, hT2⟩ : ∃ T, T = joinS ys := ⟨_, rfl⟩
      have t0 := shortS_size s 60
      obtain ⟨T0, hT0⟩ : ∃ T, T = shortS s 60 := ⟨_, rfl⟩
      rw [← hT1] at j1
      rw [← hT2] at j2
      rw [← hT0] at t0
      have HT0 := Lib.hid hT0; have HT1 := Lib.hid hT1; have HT2 := Lib.hid hT2
      clear hT0 hT1 hT2
      have HV1 := Lib.hid (HW.out.below HB.out)
      have HBW := Lib.hid (HBw.out.trans (HB.out.mono HBw.out.size))
      have Htz : Hid (∀ x ∈ [T0, T1, T2], x.size ≤ 100000) := Lib.hid (fun x hx => by
        simp only [List.mem_cons, List.mem_nil_iff, or_false] at hx
        rcases hx with rfl | rfl | rfl <;> omega)
      go_wp2_with fail
      refine (short_any s 60 wB (by decide) hs).mono ?_
      rintro e w1 ⟨rfl, rfl⟩
      rw [← HT0.out]
      go_wp2_with fail
      refine (rjoin_any _ _ xs wB HV1.out (by omega) H30.out).mono ?_
      rintro e w1 ⟨rfl, rfl⟩
      rw [← HT1.out]
      go_wp2_with fail
      refine (rjoin_any _ _ ys wB Hv.out (by omega) H24.out).mono ?_
      rintro e w1 ⟨rfl, rfl⟩
      rw [← HT2.out]
      obtain ⟨w5, hw5⟩ : ∃ w5, w5 = wB.alloc (.cells #[.string T0, .string T1, .string T2] 9) := ⟨_, rfl⟩
      have x5 : Below wB.heap.size wB w5 := by rw [hw5]; exact (Below.refl _ _).alloc (Nat.le_refl _) _
      have s5 : SL w5 wB.heap.size (.slice (some ⟨wB.heap.size, 0, none⟩) 3 3) [T0, T1, T2] := by
        rw [hw5]
        exact ⟨rfl, .inr ⟨wB.heap.size, 3, _, (0, 0), rfl, Nat.le_refl _, heap_alloc_new wB _, .inl rfl, Nat.le_refl _, by decide, by simp, rfl⟩⟩
      obtain ⟨B5, hB5⟩ : ∃ B, B = wB.heap.size := ⟨_, rfl⟩
      have H5 := Lib.hid s5
      have X5 := Lib.hid (HBW.out.trans (x5.mono HBW.out.size))
      have HV1 := Lib.hid (HV1.out.below x5)
      have HV2 := Lib.hid (Hv.out.below x5)
      have Hw5 := Lib.hid hw5
      clear s5 x5 hw5
      go_wp2_with fail
      rw [← Hw5.out]
      rw [← hB5] at H5 ⊢
      clear hB5
      go_loopw [12] (fun i wr => ∃ k : Nat, k ≤ 3 ∧ i = .int .i64 k ∧ Below w5.heap.size w5 wr) (fun i _ => 3 - (intOf i).toNat)
      case atStart => exact ⟨0, by omega, rfl, Below.refl _ _⟩
      case round =>
        obtain ⟨k, hk, rfl, hBq⟩ := hrel
        have HBq := Lib.hid hBq
        clear hBq
        obtain ⟨r1, cap1, he1, _, _, _, _, hat1⟩ := SL.at_ (H5.out.below HBq.out) (by simp)
        simp at he1
        obtain ⟨rfl, rfl⟩ := he1
        by_cases h3 : k < 3
        · obtain ⟨T, hT⟩ : ∃ T, T = [T0, T1, T2][k]'h3 := ⟨_, rfl⟩
          have hTz : T.size ≤ 100000 := by rw [hT]; exact Htz.out _ (List.getElem_mem h3)
          have ck := hat1 k h3
          rw [← hT] at ck
          clear hT hat1
          have hk3 : (k : Int) < 3 := by omega
          go_wp2_with fail
          refine (psplit_any T wr hTz).mono ?_
          rintro e w6 ⟨v6, rfl, h6, x6⟩
          obtain ⟨z, hz⟩ : ∃ z, z = splitE T := ⟨_, rfl⟩
          rw [← hz]
          have Hz := Lib.hid hz
          have hl6 : (splitL T).length ≤ 1000000 := by
            unfold splitL
            split
            · have := pieces_len T; omega
            · simp
          have H6 := Lib.hid h6
          have ck6 := (x6.cell (World.block_lt_of_cell? wr _ ck)).trans ck
          have HB6 := Lib.hid (HBq.out.trans (x6.mono HBq.out.size))
          clear h6 x6 ck hz
          go_wp2_with fail
          refine (rsplit_any T w6 hTz).mono ?_
          rintro e w7 ⟨v7, rfl, h7, x7⟩
          rw [← Hz.out]
          have H7 := Lib.hid h7
          have H6 := Lib.hid (H6.out.below x7)
          have HB7 := Lib.hid (HB6.out.trans (x7.mono HB6.out.size))
          clear h7 x7 ck6
          go_wp2_with fail
          refine (sametexts_any _ _ _ _ _ _ w7 H6.out H7.out hl6 hl6).mono ?_
          rintro e w8 ⟨rfl, x8⟩
          rw [decide_eq_true (rfl : splitL T = splitL T)]
          have HB8 := Lib.hid (HB7.out.trans (x8.mono HB7.out.size))
          clear x8
          go_wp2
          go_roundw
          case rel => exact ⟨k + 1, by omega, by go_num, HB8.out⟩
          case measure => simp [intOf]; omega
        · have hk3 : ¬ (k : Int) < 3 := by omega
          have e1 := hat1 1 (by simp)
          have e2 := hat1 2 (by simp)
          simp at e1 e2
          have HC : Hid (∀ W', Below wr.heap.size wr W' → W'.cell? ⟨B5, 1, none⟩ = some (.string T1) ∧ W'.cell? ⟨B5, 2, none⟩ = some (.string T2)) :=
            Lib.hid (fun W' hW => ⟨(hW.cell (World.block_lt_of_cell? wr _ e1)).trans e1, (hW.cell (World.block_lt_of_cell? wr _ e2)).trans e2⟩)
          have HV1 := Lib.hid (HV1.out.below HBq.out)
          have HV2 := Lib.hid (HV2.out.below HBq.out)
          clear hat1
          go_wp2
          go_region_with (first
            | (go_at_call 22
               refine (pjoin_any _ _ xs _ (SL.below HV1.out (by first | exact Below.refl _ _ | exact below_drew _ | exact below_drewN _ _)) (by omega) H30m.out).mono ?_
               rintro e wa ⟨rfl, xa⟩
               rw [← HT1.out]
               have XA : Hid (Below wr.heap.size wr wa) := Lib.hid (Below.trans (show Below wr.heap.size wr _ from (by first | exact Below.refl _ _ | exact below_drew _ | exact below_drewN _ _)) xa)
               obtain ⟨e1, e2⟩ := HC.out _ XA.out
               clear xa)
            | (go_at_call 22
               refine (pjoin_any _ _ ys _ (SL.below HV2.out XA.out) (by omega) H24m.out).mono ?_
               rintro e wb ⟨rfl, xb⟩
               rw [← HT2.out]
               have XB : Hid (Below wr.heap.size wr wb) := Lib.hid (XA.out.trans (xb.mono XA.out.size))
               obtain ⟨e1, e2⟩ := HC.out _ XB.out
               clear xb)
            | (go_at_call 15
               refine (plives_any _).mono ?_
               rintro e wc ⟨rfl, xc⟩
               have XC := Lib.hid (XB.out.trans (xc.mono XB.out.size))
               clear xc))
          all_goals
            go_wp2
            go_ret
            exact ⟨rfl, X5.out.trans ((HBq.out.trans (XC.out.mono HBq.out.size)).mono X5.out.size)⟩
end Go.Proofs.YtojcciciinklbaaDoor
