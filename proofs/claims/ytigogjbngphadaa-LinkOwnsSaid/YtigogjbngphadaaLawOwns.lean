/- LinkOwns: what was sent, and what is told, may be changed, and the packet stays. -/
import Derived.Test.YtigogjbngphadaaLink7
import Derived.Test.YtigogjbngphadaaLawTurns
import Derived.Deep.RegionWith
set_option linter.unusedSimpArgs false
set_option linter.unusedVariables false
namespace Go.Proofs.Ytigogjbngphadaa
open Go.RowKit

/-- A byte turned in a row of one's own. -/
theorem own_turn {L : Live} {w wr : World} {base g B o n c e : Nat} {xs : List Pk} {ys : List UInt8} (hB : Blk wr w.heap.size 5 1 (.slice (some ⟨o, 0, none⟩) n c) n (bytesV ys)) (hL : LinkAt L wr base g xs) (hX : Ext L w L wr) (hn : 0 < n) (i : Nat) (q : UInt8) :
    Blk (wr.setCell ⟨o, i, none⟩ (.int .u8 (q.toNat : Int))) w.heap.size 5 1 (.slice (some ⟨o, 0, none⟩) n c) n (bytesV (ys.set i q)) ∧ LinkAt L (wr.setCell ⟨o, i, none⟩ (.int .u8 (q.toNat : Int))) base g xs ∧ Ext L w L (wr.setCell ⟨o, i, none⟩ (.int .u8 (q.toNat : Int))) := by
  obtain ⟨g', hg', hs⟩ := hB.store i (.int .u8 (q.toNat : Int)) hn
  simp [Value.ownBlock] at hg'
  subst hg'
  obtain ⟨cur, fr, hc⟩ := hB.type o rfl
  exact ⟨by rw [← bytesV_set]; exact hs, hL.set_type hc (by decide) (by decide) i _, hX.setCell (hB.lt o rfl).1 _⟩

set_option maxHeartbeats 4000000 in
theorem law_owns (bs : List UInt8) (v : Value) (y : UInt8) (Lb : Live) (w : World) (hS : SliceR Rp.byte Lb w bs v) :
    Calls Try.prog 5 #[v, .int .u8 y.toNat] w fun e w' => e = .returned (.bool true) ∧ Below w.heap.size w w' := by
  have hok : LOk (fun b _ => b < w.heap.size) w := fun b i h => h
  obtain ⟨L, hL⟩ : ∃ L : Live, L = fun b _ => b < w.heap.size := ⟨_, rfl⟩
  rw [← hL] at hok
  clear hL
  obtain ⟨A, c, rfl, hnc, hn1, hn2⟩ := hS.form
  have HS := Lib.hid hS; clear hS
  have Hok := Lib.hid hok; clear hok
  go_enter Try.func5, Try.ntmps5
  go_wp2_with fail
  refine (new_any L w Hok.out).mono ?_; rintro e w1 ⟨g, rfl, hL1, hX1⟩
  have HL1 := Lib.hid hL1; have HX1 := Lib.hid hX1; clear hL1 hX1
  go_wp2_with fail
  refine (few_any bs _ 12 (fun _ _ => True) w1 (by decide) (by decide) (HS.out.mono (sub_any HX1.out.below))).mono ?_
  rintro e w2 ⟨v2, rfl, hB2, hX2⟩
  obtain ⟨ow, hl12⟩ : ∃ l : List UInt8, l = bs.take (Int.toNat 12) := ⟨_, rfl⟩
  have hol : ow.length ≤ 12 := by rw [hl12, List.length_take]; omega
  rw [← hl12] at hB2
  have How := Lib.hid hl12
  clear hl12
  have HX2 := Lib.hid (HX1.out.trans (Ext.of_below HX1.out.ok hX2))
  have HL2 := Lib.hid (HL1.out.kept hX2 (fun _ _ => rfl))
  have HB2 := Lib.hid (hB2.lower HX1.out.below.size)
  obtain ⟨A2, c2, rfl, hc21, hc22⟩ := hB2.form
  clear hB2 hX2 HL1
  go_wp2_with fail
  refine (send_any 1 ow _ g w.heap.size L _ w2 [] (.inr rfl) (HB2.out.list rfl (by omega)) (by omega) (by decide) HL2.out HX2.out.ok HX2.out.below.size).mono ?_
  rintro e w3 ⟨rfl, hL3, hX3⟩
  have HB3 := Lib.hid (HB2.out.lstep hX3 (by decide) (by decide))
  have HX3 := Lib.hid (hX3.ext HX2.out (Nat.le_refl _))
  have HL3 : Hid (LinkAt L w3 w.heap.size g [(1, mkS ow)]) := Lib.hid hL3
  clear hL3 hX3 HL2 HX2 HB2
  go_wp2_with fail
  go_loopw [8] (fun i wr => ∃ k : Nat, k ≤ ow.length ∧ i = .int .i64 k ∧ ∃ ys : List UInt8, ys.length = ow.length ∧ Blk wr w.heap.size 5 1 (.slice A2 ow.length c2) ow.length (bytesV ys) ∧ LinkAt L wr w.heap.size g [(1, mkS ow)] ∧ Ext L w L wr) (fun i _ => ow.length - (intOf i).toNat)
  case atStart => exact ⟨0, Nat.zero_le _, rfl, ow, rfl, HB3.out, HL3.out, HX3.out⟩
  case round =>
    obtain ⟨k, hk, rfl, ys, hys, hB, hL, hX⟩ := hrel
    clear HB3 HL3 HX3
    by_cases hlt : k < ow.length
    · obtain ⟨o, cap, cur, fr, he, ho, hh, hf, h1, h2, h3, h4⟩ := hB.row (by omega)
      simp at he
      obtain ⟨rfl, rfl⟩ := he
      have o0 := h4 k _ (bytesV_getD ys k (by omega))
      have o1 : wr.frozen? ⟨o, k, none⟩ = false := frozen_free hh hf (by omega)
      obtain ⟨z, hz⟩ : ∃ z : UInt8, z = ys.getD k 0 := ⟨_, rfl⟩
      rw [← hz] at o0
      have kx0 := xor_u8 z y
      obtain ⟨q, hq⟩ : ∃ q : UInt8, q = z ^^^ y := ⟨_, rfl⟩
      have kx : bits .xor .u8 (z.toNat : Int) (y.toNat : Int) = (q.toNat : Int) := by rw [hq]; exact kx0
      have HE := Lib.hid (own_turn (B := 0) (e := 0) hB hL hX (by omega) k q)
      have Hys := Lib.hid hys
      clear hB hL hX h4 hh hf kx0 hq hz h3 hys
      go_wp2
      go_roundw
      case rel => exact ⟨k + 1, by omega, by go_num, ys.set k q, by rw [List.length_set]; exact Hys.out, HE.out.1, HE.out.2.1, HE.out.2.2⟩
      case measure => simp [intOf]; omega
    · have HB := Lib.hid hB; have HL := Lib.hid hL; have HX := Lib.hid hX
      clear hB hL hX hys
      have hke : k = ow.length := by omega
      subst hke
      clear hk hlt HB
      go_wp2_with fail
      refine (all_any g w.heap.size L wr [(1, mkS ow)] (by simp) HL.out).mono ?_
      rintro e w4 ⟨vl, vs, rfl, hT4, hX4⟩
      obtain ⟨r, cap, cur, fr, rfl, hr1, hr2, _, hrh, hat⟩ := hT4.at_ (by simp)
      obtain ⟨A3, c3, _, a1, _, hB4⟩ := hat 0 (by simp) (by show ow.length ≤ big; unfold big; omega)
      replace a1 : w4.cell? ⟨r, 1, none⟩ = some (.slice A3 ow.length c3) := a1
      replace hB4 : Blk w4 w.heap.size 5 1 (.slice A3 ow.length c3) ow.length (bytesV ow) := hB4.lower HX.out.below.size
      have HB4 := Lib.hid hB4
      have HL4 := Lib.hid (HL.out.kept hX4 (fun _ _ => rfl))
      have HX4 := Lib.hid (HX.out.trans (Ext.of_below HX.out.ok hX4))
      have Hrh := Lib.hid hrh
      clear hat hT4 hB4 hX4 hrh HL HX
      go_wp2_with fail
      go_loopw [10] (fun i wr => ∃ k : Nat, k ≤ ow.length ∧ i = .int .i64 k ∧ ∃ ys : List UInt8, ys.length = ow.length ∧ Blk wr w.heap.size 5 1 (.slice A3 ow.length c3) ow.length (bytesV ys) ∧ wr.cell? ⟨r, 1, none⟩ = some (.slice A3 ow.length c3) ∧ (∃ cur fr, wr.heap[r]? = some (.cells cur 34 fr)) ∧ LinkAt L wr w.heap.size g [(1, mkS ow)] ∧ Ext L w L wr) (fun i _ => ow.length - (intOf i).toNat)
      case atStart => exact ⟨0, Nat.zero_le _, rfl, ow, rfl, HB4.out, a1, ⟨_, _, Hrh.out⟩, HL4.out, HX4.out⟩
      case round =>
        obtain ⟨k, hk, rfl, ys, hys, hB, ha1, ⟨cur1, fr1, hr34⟩, hL, hX⟩ := hrel
        clear HB4 HL4 HX4 Hrh a1
        by_cases hlt : k < ow.length
        · obtain ⟨o, cap', cur, fr, he, ho, hh, hf, h1, h2, h3, h4⟩ := hB.row (by omega)
          simp at he
          obtain ⟨rfl, rfl⟩ := he
          have hro : r ≠ o := by intro e; subst e; rw [hh] at hr34; simp at hr34
          have o0 := h4 k _ (bytesV_getD ys k (by omega))
          have o1 : wr.frozen? ⟨o, k, none⟩ = false := frozen_free hh hf (by omega)
          obtain ⟨z, hz⟩ : ∃ z : UInt8, z = ys.getD k 0 := ⟨_, rfl⟩
          rw [← hz] at o0
          have kx0 := xor_u8 z y
          obtain ⟨q, hq⟩ : ∃ q : UInt8, q = z ^^^ y := ⟨_, rfl⟩
          have kx : bits .xor .u8 (z.toNat : Int) (y.toNat : Int) = (q.toNat : Int) := by rw [hq]; exact kx0
          have HE := Lib.hid (own_turn (B := 0) (e := 0) hB hL hX (by omega) k q)
          have HR : Hid (∃ cur fr, (wr.setCell ⟨o, k, none⟩ (.int .u8 (q.toNat : Int))).heap[r]? = some (.cells cur 34 fr)) := Lib.hid ⟨cur1, fr1, by rw [Below.heap_setCell _ _ _ _ hro]; exact hr34⟩
          have HA : Hid ((wr.setCell ⟨o, k, none⟩ (.int .u8 (q.toNat : Int))).cell? ⟨r, 1, none⟩ = some (.slice (some ⟨o, 0, none⟩) ow.length c3)) := Lib.hid ((World.cell?_of_block (a := ⟨r, 1, none⟩) (Below.heap_setCell wr ⟨o, k, none⟩ _ r hro)).trans ha1)
          have Hys := Lib.hid hys
          have hkl : (k : Int) < (ow.length : Int) := by omega
          clear hB hL hX h4 hh hf kx0 hq hz h3 hys hr34
          go_wp2
          go_region
          all_goals
            go_wp2
            go_roundw
            case rel => exact ⟨k + 1, by omega, by go_num, ys.set k q, by rw [List.length_set]; exact Hys.out, HE.out.1, HA.out, HR.out, HE.out.2.1.kept (below_drew _) (fun _ _ => rfl), HE.out.2.2.drew⟩
            case measure => simp [intOf]; omega
        · have HL := Lib.hid hL; have HX := Lib.hid hX
          have hke : k = ow.length := by omega
          subst hke
          clear hB hL hX hys hk hlt hr34
          go_wp2_with fail
          refine (take_any 0 g w.heap.size L wr [(1, mkS ow)] (by simp) (by simp) HL.out HX.out.ok HX.out.below.size).mono ?_
          rintro e w5 ⟨v5, rfl, hB5, hL5, hX5⟩
          have HX5 := Lib.hid (hX5.ext HX.out (Nat.le_refl _))
          replace hB5 : Blk w5 wr.heap.size 5 1 v5 ow.length (bytesV ow) := hB5
          obtain ⟨A5, c5, rfl, _, _⟩ := hB5.form
          have HB5 := Lib.hid hB5
          clear hL5 hX5 hB5 HL HX ha1
          have kcp : ∀ W', Below w5.heap.size w5 W' → (convert 22 9 (.slice A5 ow.length c5)).run Try.prog W' = .ok (.string (mkS ow)) W' := fun W' hW => SliceR.toStr ((HB5.out.below hW).list rfl (by omega)) 22 5 9 Try.underlying22 Try.underlying5 Try.underlying9
          have hbW : Below w5.heap.size w5 ((w5.alloc (.cells #[.int .i64 1, .slice A5 ow.length c5] 34)).drew) := ((Below.refl _ w5).alloc (Nat.le_refl _) _).drew
          have HXW := Lib.hid ((HX5.out.alloc (.cells #[.int .i64 1, .slice A5 ow.length c5] 34)).drew)
          have es : (mkS ow == mkS ow) = true := str_beq_self _
          go_wp2
          go_region_with (first | (go_at_call 9; refine (few_any bs _ 12 (fun _ _ => True) _ (by decide) (by decide) (HS.out.mono (sub_any HXW.out.below))).mono ?_; rintro e w6 ⟨v6, rfl, hB6, hX6⟩; obtain ⟨hc6, hf6⟩ := bcell hX6; rw [← How.out] at hB6; obtain ⟨A6, c6, rfl, _, _⟩ := hB6.form; have kc6 := SliceR.toStr (P := Try.prog) (hB6.list rfl (by omega)) 22 5 9 Try.underlying22 Try.underlying5 Try.underlying9; have hb6 : Below w5.heap.size w5 w6 := hbW.trans (hX6.mono (by simp)); have HX6 := Lib.hid (HXW.out.trans (Ext.of_below HXW.out.ok hX6)); clear hB6 hX6) | (go_at_call 15; refine (lives_any L _ HX6.out.ok).mono ?_; rintro e w7 ⟨rfl, hX7⟩; have HX7 := Lib.hid (HX6.out.trans hX7); clear hX7))
          all_goals
            go_wp2
            go_ret
            exact ⟨rfl, HX7.out.below⟩
end Go.Proofs.Ytigogjbngphadaa
