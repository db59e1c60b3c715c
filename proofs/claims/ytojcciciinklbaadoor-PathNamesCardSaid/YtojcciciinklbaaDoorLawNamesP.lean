/- PathNames: which texts are names is told as the document says. -/
import Derived.Test.YtojcciciinklbaaDoorPath10
import Derived.Deep.CutBlock
import Derived.Deep.DeepCutAuto
set_option linter.unusedSimpArgs false
set_option linter.unusedVariables false
namespace Go.Proofs.YtojcciciinklbaaDoor
open Go.RowKit

theorem Blk.list {w : World} {base e n : Nat} {v : Value} {xs : List UInt8} (h : Blk w base e 1 v n (bytesV xs)) (hn : xs.length = n) (hb : n ≤ 9223372036854775807) : SliceR Rp.byte (fun _ _ => True) w xs v := Blk.reads (d := Rp.byte) h (bytes_reps _ _ _) hn hb (fun _ _ _ _ => trivial)

/-- Bytes that were just laid. -/
theorem new_bytes (w : World) (xs : List UInt8) (e : TypeId) (hb : xs.length ≤ 1000000) : SliceR Rp.byte (fun _ _ => True) (w.alloc (.cells (bytesV xs).toArray e (xs.length, xs.length + 1))) xs (.slice (some ⟨w.heap.size, 0, none⟩) xs.length xs.length) := by
  have h : Blk (w.alloc (.cells (bytesV xs).toArray e (xs.length, xs.length + 1))) w.heap.size e 1 (.slice (some ⟨w.heap.size, 0, none⟩) xs.length xs.length) xs.length (bytesV xs) :=
    ⟨by rw [bytesV_length]; omega, .inr ⟨w.heap.size, xs.length, _, (xs.length, xs.length + 1), rfl, Nat.le_refl _, heap_alloc_new w _, .inr (by simp [bytesV_length]), Nat.le_refl _, by simp only [maxLen]; omega, by simp [bytesV_length], by
      rw [List.take_of_length_le (by simp [bytesV_length])]⟩⟩
  exact h.list rfl (by omega)

theorem SliceR.drw {α : Type} {d : Rp α} {L : Live} {w : World} {xs : List α} {v : Value} (h : SliceR d L w xs v) : SliceR d L w.drew xs v := SliceR.mono (w := w) (L' := L) (w' := w.drew) (fun _ _ hb => ⟨hb, fun _ hu => hu⟩) h
theorem new_x (w : World) : SliceR Rp.byte (fun _ _ => True) (w.alloc (.cells #[.int .u8 120] 5 (1, 2))) [120] (.slice (some ⟨w.heap.size, 0, none⟩) 1 1) := new_bytes w [120] _ (by decide)

set_option maxRecDepth 100000 in
set_option maxHeartbeats 8000000 in
theorem law_names (s : ByteArray) (c : UInt8) (at_ n : Int) (w : World) (hs : s.size ≤ 9223372036854775807) (ha1 : -9223372036854775808 ≤ at_) (ha2 : at_ ≤ 9223372036854775807) (hn1 : -9223372036854775808 ≤ n) (hn2 : n ≤ 9223372036854775807) :
    Calls Tryd.prog 3 #[.string s, .int .u8 c.toNat, .int .i64 at_, .int .i64 n] w fun e w' => e = .returned (.bool true) ∧ Below w.heap.size w w' := by
  have r1 := around_range n 26 (by decide)
  obtain ⟨m, hm⟩ := Int.eq_ofNat_of_zero_le r1.1
  have hm26 : m < 26 := by omega
  have HM := Lib.hid hm
  have r3 := around_range n 31 (by decide)
  obtain ⟨q, hq⟩ := Int.eq_ofNat_of_zero_le r3.1
  have hq31 : q < 31 := by omega
  have HQ := Lib.hid hq
  obtain ⟨M, hMm⟩ : ∃ M, M = m + 1 := ⟨_, rfl⟩
  have hsum : 1 + (m : Int) = (M : Int) := by omega
  have HS1 := Lib.hid hsum
  have r2 := around_range at_ (M : Int) (by omega)
  obtain ⟨p, hp⟩ := Int.eq_ofNat_of_zero_le r2.1
  have hpm : p < M := by omega
  have hM26 : M ≤ 26 := by omega
  have hM0 : 0 < (M : Int) := by omega
  have HPp := Lib.hid hp
  clear r1 r2 r3 hm hq hp hsum hMm
  have s0 := new_bytes w [97, 98, 46] 5 (by decide)
  have S0 := Lib.hid s0
  clear s0
  have kc := Lib.run_convert_bytes_const (P := Tryd.prog) w 22 5 #[.int .u8 97, .int .u8 98, .int .u8 46] 3 3 Tryd.underlying22 Tryd.underlying5
  go_enter Tryd.func3, Tryd.ntmps3
  go_wp2_with fail
  refine (around_any n 26 _ hn1 hn2 (by decide) (by decide)).mono ?_
  rintro e w1 ⟨rfl, rfl⟩
  rw [HM.out]
  go_wp2_with fail
  rw [HS1.out]
  refine (fill_any [97, 98, 46] _ M (fun _ _ => True) _ (by omega) S0.out).mono ?_
  rintro e w1 ⟨v1, rfl, h1, x1⟩
  obtain ⟨A1, c1, rfl, _, _⟩ := h1.form
  have H1 := Lib.hid (h1.lower (base' := w.heap.size) (by simp))
  have X1 : Hid (Below w.heap.size w w1) := Lib.hid (((Below.refl _ w).alloc (Nat.le_refl _) _).trans (x1.mono (by simp)))
  clear h1 x1 S0 kc
  have hpI : (p : Int) < (M : Int) := by omega
  go_wp2_with fail
  refine (around_any at_ (M : Int) w1 ha1 ha2 hM0 (by omega)).mono ?_
  rintro e w2 ⟨rfl, rfl⟩
  rw [HPp.out]
  obtain ⟨g1, cap1, cur1, fr1, he1, hg1, hh1, hf1, hc11, hc12, hc13, hc14⟩ := H1.out.row (by omega)
  simp at he1
  obtain ⟨rfl, rfl⟩ := he1
  have cp := hc14 p _ (bytesV_getD _ p (by rw [fillL_len]; exact hpm))
  have fp : w1.frozen? ⟨g1, p, none⟩ = false := frozen_free hh1 hf1 (by omega)
  obtain ⟨old, hold⟩ : ∃ old, w1.cell? ⟨g1, p, none⟩ = some old := ⟨_, cp⟩
  have hB2 : Blk (w1.setCell ⟨g1, p, none⟩ (.int .u8 (c.toNat : Int))) w.heap.size 5 1 (.slice (some ⟨g1, 0, none⟩) M c1) M (bytesV ((fillL [97, 98, 46] M).set p c)) := by
    obtain ⟨g', hg', hs⟩ := H1.out.store p (.int .u8 (c.toNat : Int)) (by omega)
    simp [Value.ownBlock] at hg'
    subst hg'
    rw [← bytesV_set]; exact hs
  have HB2 := Lib.hid hB2
  have HX2 : Hid (Below w.heap.size w (w1.setCell ⟨g1, p, none⟩ (.int .u8 (c.toNat : Int)))) := Lib.hid (X1.out.setCell hg1 _)
  clear hB2 cp hh1 hf1 hc13 hc14 hg1
  obtain ⟨w3, hw3⟩ : ∃ w3, w3 = w1.setCell ⟨g1, p, none⟩ (.int .u8 (c.toNat : Int)) := ⟨_, rfl⟩
  rw [← hw3] at HB2 HX2
  have Hw3 := Lib.hid hw3
  clear hw3
  go_upto_region 3 with fail
  clear hold fp
  rw [← Hw3.out]
  have hl3 : ((fillL [97, 98, 46] M).set p c).length = M := by rw [List.length_set, fillL_len]
  obtain ⟨bs, hbs⟩ : ∃ bs, bs = (fillL [97, 98, 46] M).set p c := ⟨_, rfl⟩
  rw [← hbs] at HB2 hl3
  clear hbs
  have Hl3 := Lib.hid hl3; clear hl3
  have HC : Hid (∀ W', Below w3.heap.size w3 W' → (convert 22 9 (.slice (some ⟨g1, 0, none⟩) M c1)).run Tryd.prog W' = .ok (.string (mkS bs)) W') := Lib.hid (fun W' hW =>
    SliceR.toStr ((HB2.out.list Hl3.out (by omega)).mono (sub_any hW)) 22 5 9 Tryd.underlying22 Tryd.underlying5 Tryd.underlying9)
  have k0 := HC.out _ (Below.refl _ _)
  have k1 : ∀ n, _ := fun n => HC.out (w3.drewN n) (below_drewN _ _)
  have k2 := HC.out w3.drew (below_drew _)
  have k3 : ∀ o, _ := fun o => HC.out (w3.alloc o) ((Below.refl _ _).alloc (Nat.le_refl _) o)
  have k4 : ∀ o, _ := fun o => HC.out (w3.alloc o).drew (((Below.refl _ _).alloc (Nat.le_refl _) o).drew)
  have kc : ∀ W : World, _ := fun W => Lib.run_convert_bytes_const (P := Tryd.prog) W 22 5 #[.int .u8 120] 1 1 Tryd.underlying22 Tryd.underlying5
  have kd : (convert 22 22 (.slice (some ⟨w3.heap.size, 0, none⟩) 1 1)).run Tryd.prog (w3.alloc (.cells #[.int .u8 120] 5)).drew = .ok (.slice (some ⟨w3.heap.size, 0, none⟩) 1 1) (w3.alloc (.cells #[.int .u8 120] 5 (1, 2))).drew := Lib.run_convert_bytes_const (P := Tryd.prog) w3.drew 22 5 #[.int .u8 120] 1 1 Tryd.underlying22 Tryd.underlying5
  go_cut [10] (fun v wr => ∃ (ts : List ByteArray) (base : Nat), ts.length = 6 ∧ Hid (∀ x ∈ ts, x.size ≤ 9223372036854775807) ∧ SL wr base v ts ∧ Below w.heap.size w wr)
  case first =>
    go_region_with (first
      | (go_at_call 12
         refine (short_any s 40 _ (by decide) hs).mono ?_
         rintro e wa ⟨rfl, rfl⟩)
      | (go_at_call 11
         refine (around_any n 31 _ hn1 hn2 (by decide) (by decide)).mono ?_
         rintro e wa ⟨rfl, rfl⟩
         rw [HQ.out])
      | (go_at_call 10
         refine (fill_any [120] _ q (fun _ _ => True) _ (by omega) (by first | exact new_x w3 | exact (new_x w3).drw)).mono ?_
         rintro e w4 ⟨v4, rfl, h4, x4⟩
         obtain ⟨A4, c4, rfl, _, _⟩ := h4.form
         have X4 : Hid (Below w3.heap.size w3 w4) := Lib.hid (Below.trans (show Below w3.heap.size w3 _ from (by first | exact (Below.refl _ _).alloc (Nat.le_refl _) _ | exact ((Below.refl _ _).alloc (Nat.le_refl _) _).drew)) (x4.mono (by simp)))
         have l0 := HC.out _ X4.out
         have l1 := SliceR.toStr (P := Tryd.prog) (h4.list (fillL_len _ _) (by omega)) 22 5 9 Tryd.underlying22 Tryd.underlying5 Tryd.underlying9
         clear h4 x4))
    all_goals
      go_wp2_with fail
      go_meet
      refine ⟨[shortS s 40, mkS bs, mkS (fillL [120] q), ⟨#[46]⟩, ⟨#[46, 46]⟩, ⟨#[46, 46, 46]⟩], w4.heap.size, rfl, Lib.hid (fun x hx => ?_), ⟨rfl, .inr ⟨w4.heap.size, 6, _, (0, 0), rfl, Nat.le_refl _, heap_alloc_new w4 _, .inl rfl, Nat.le_refl _, by decide, by simp, rfl⟩⟩, (HX2.out.trans (X4.out.mono HX2.out.size)).alloc (Nat.le_trans HX2.out.size X4.out.size) _⟩
      simp only [List.mem_cons, List.mem_nil_iff, or_false] at hx
      rcases hx with rfl | rfl | rfl | rfl | rfl | rfl
      · exact Nat.le_trans (shortS_size s 40) (by decide)
      · rw [mkS_size, Hl3.out]; omega
      · rw [mkS_size, fillL_len]; omega
      · decide
      · decide
      · decide
  case rest =>
    obtain ⟨ts, base, hts, Hz, hS, hB⟩ := hcut
    obtain ⟨wA, hwA⟩ : ∃ wA, wA = wc := ⟨_, rfl⟩
    rw [← hwA] at hS hB ⊢
    clear hwA k0 k1 k2 k3 k4 kc kd
    obtain ⟨A5, c5, rfl, _, _⟩ := hS.form
    have HS := Lib.hid hS; have HB := Lib.hid hB
    have Hts := Lib.hid hts
    have ht6 : ts.length ≤ 6 := by omega
    clear hS hB hts
    go_wp2_with fail
    go_loopw [11] (fun i wr => ∃ k : Nat, k ≤ ts.length ∧ i = .int .i64 k ∧ Below wA.heap.size wA wr) (fun i _ => ts.length - (intOf i).toNat)
    case atStart => exact ⟨0, Nat.zero_le _, rfl, Below.refl _ _⟩
    case round =>
      obtain ⟨k, hk, rfl, hBq⟩ := hrel
      have HBq := Lib.hid hBq
      clear hBq
      by_cases hlt : k < ts.length
      · obtain ⟨r1, cap1, he1, _, _, _, _, hat1⟩ := SL.at_ (HS.out.below HBq.out) (by omega)
        simp at he1
        obtain ⟨rfl, rfl⟩ := he1
        obtain ⟨T, hT⟩ : ∃ T, T = ts[k] := ⟨_, rfl⟩
        have hTz : T.size ≤ 9223372036854775807 := by rw [hT]; exact Hz.out _ (List.getElem_mem hlt)
        have ck := hat1 k hlt
        rw [← hT] at ck
        clear hT hat1
        have hkI : (k : Int) < (ts.length : Int) := by omega
        have HC2 : Hid (∀ W', Below wr.heap.size wr W' → W'.cell? ⟨r1, k, none⟩ = some (.string T)) := Lib.hid (fun W' hW => (hW.cell (World.block_lt_of_cell? wr _ ck)).trans ck)
        obtain ⟨b, hb⟩ : ∃ b, b = nameB T := ⟨_, rfl⟩
        have Hb := Lib.hid hb
        clear hb
        go_wp2
        go_region_with (first
          | (go_at_call 13
             refine (name_any T _).mono ?_
             rintro e wb ⟨rfl, xb⟩
             rw [← Hb.out]
             have XB : Hid (Below wr.heap.size wr wb) := Lib.hid (Below.trans (show Below wr.heap.size wr _ from (by first | exact Below.refl _ _ | exact below_drew _ | exact below_drewN _ _)) xb)
             have ck := HC2.out _ XB.out
             clear xb)
          | (go_at_call 14
             refine (rname_any T _ hTz).mono ?_
             rintro e wd ⟨rfl, rfl⟩
             rw [← Hb.out]))
        all_goals
          go_wp2
          go_roundw
          case rel => exact ⟨k + 1, by omega, by go_num, HBq.out.trans (XB.out.mono HBq.out.size)⟩
          case measure => simp [intOf]; omega
      · have hI : ¬ (k : Int) < (ts.length : Int) := by omega
        go_wp2_with fail
        refine (plives_any wr).mono ?_
        rintro e wd ⟨rfl, xd⟩
        have XD := Lib.hid (HB.out.trans ((HBq.out.trans (xd.mono HBq.out.size)).mono HB.out.size))
        clear xd
        go_wp2
        go_ret
        exact ⟨rfl, XD.out⟩
end Go.Proofs.YtojcciciinklbaaDoor
