/- LinkPlays: what is told, and what is under way, is the document's, behind whatever is done. -/
import Derived.Test.YtigogjbngphadaaLink14
import Derived.Test.YtigogjbngphadaaLink15
set_option linter.unusedSimpArgs false
set_option linter.unusedVariables false
namespace Go.Proofs.Ytigogjbngphadaa
open Go.RowKit

abbrev OpD := Int × Int × Int × List UInt8

/-- Something that is done, as it lies. -/
def opR : Rp OpD where
  sz := 4
  R := fun L w x cs => ∃ vb, cs = [.int .i64 x.1, .int .i64 x.2.1, .int .i64 x.2.2.1, vb] ∧ SliceR Rp.byte L w x.2.2.2 vb ∧ -9223372036854775808 ≤ x.1 ∧ x.1 ≤ 9223372036854775807
  len := fun h => by obtain ⟨vb, rfl, _⟩ := h; rfl
  mono := fun hs h => by obtain ⟨vb, rfl, h, hb⟩ := h; exact ⟨vb, rfl, h.mono hs, hb⟩
  one := fun h u hu => by
    obtain ⟨vb, rfl, h, _⟩ := h
    obtain ⟨A, c, rfl, _⟩ := h.form
    simp at hu
    rcases hu with rfl | rfl | rfl | rfl <;> rfl

theorem ops_at {L : Live} {w : World} {xs : List OpD} {A : Option Addr} {n c : Nat} (h : SliceR opR L w xs (.slice A n c)) (i : Nat) (hi : i < xs.length) : ∃ b off A' c', A = some ⟨b, off, none⟩ ∧
    w.cell? ⟨b, off + i * 4, none⟩ = some (.int .i64 xs[i].1) ∧ w.cell? ⟨b, off + i * 4 + 1, none⟩ = some (.int .i64 xs[i].2.1) ∧ w.cell? ⟨b, off + i * 4 + 2, none⟩ = some (.int .i64 xs[i].2.2.1) ∧
    w.cell? ⟨b, off + i * 4 + 3, none⟩ = some (.slice A' xs[i].2.2.2.length c') ∧ SliceR Rp.byte L w xs[i].2.2.2 (.slice A' xs[i].2.2.2.length c') ∧ -9223372036854775808 ≤ xs[i].1 ∧ xs[i].1 ≤ 9223372036854775807 := by
  obtain ⟨b, off, cs, hA, ⟨v, rfl, hv, hb⟩, hc⟩ := h.get (by decide) i hi
  obtain ⟨A', c', rfl, _⟩ := hv.form
  exact ⟨b, off, A', c', hA, (hc 0 _ rfl).1, (hc 1 _ rfl).1, (hc 2 _ rfl).1, (hc 3 _ rfl).1, hv, hb⟩

theorem Good.mono {n m : Nat} {xs : List Pk} (h : Good n xs) (k : n ≤ m) : Good m xs := ⟨Nat.le_trans h.len k, h.to⟩
theorem u8_wrap (K : Int) : ∃ y : UInt8, IntKind.u8.wrap K = (y.toNat : Int) := by
  have h : IntKind.u8.wrap K = K % 256 := by
    have : IntKind.u8.wrap K = _ := rfl
    simp [IntKind.wrap, IntKind.bits, IntKind.signed] 
  refine ⟨UInt8.ofNat (K % 256).toNat, ?_⟩
  rw [h]
  simp
  omega

set_option maxHeartbeats 8000000 in
theorem law_plays (ops : List OpD) (v : Value) (Lb : Live) (w : World) (hS : SliceR opR Lb w ops v) :
    Calls Try.prog 7 #[v] w fun e w' => e = .returned (.bool true) ∧ Below w.heap.size w w' := by
  have hok : LOk (fun b _ => b < w.heap.size) w := fun b i h => h
  obtain ⟨L, hL⟩ : ∃ L : Live, L = fun b _ => b < w.heap.size := ⟨_, rfl⟩
  rw [← hL] at hok
  clear hL
  obtain ⟨A, c, rfl, hnc, hc1, hc2⟩ := hS.form
  have HS := Lib.hid hS; clear hS
  have Hok := Lib.hid hok; clear hok
  go_enter Try.func7, Try.ntmps7
  go_wp2_with fail
  refine (new_any L w Hok.out).mono ?_; rintro e w1 ⟨g, rfl, hL1, hX1⟩
  have HL1 := Lib.hid hL1; have HX1 := Lib.hid hX1; clear hL1 hX1
  go_wp2_with fail
  go_loopw [4, 5] (fun sent i wr => ∃ j : Nat, j ≤ ops.length ∧ j ≤ 24 ∧ i = .int .i64 j ∧ ∃ xs : List Pk, Good j xs ∧ PL wr w.heap.size sent xs ∧ LinkAt L wr w.heap.size g xs ∧ Ext L w L wr) (fun _ i _ => ops.length - (intOf i).toNat)
  case atStart => exact ⟨0, Nat.zero_le _, Nat.zero_le _, rfl, [], ⟨Nat.le_refl _, fun i h => by simp at h⟩, Blk.nil _ _ _ _, HL1.out, HX1.out⟩
  case round =>
    obtain ⟨j, hj, hj8, rfl, xs, hG, hP, hL, hX⟩ := hrel
    clear HL1 HX1
    have HX := Lib.hid hX; have HL := Lib.hid hL; have HG := Lib.hid hG
    obtain ⟨Ap, cp, rfl, _, _⟩ := hP.form
    have HP := Lib.hid hP
    have hXb := hX.below.size
    clear hX hL hG hP
    have hcase : (decide ((j : Int) < (ops.length : Int)) = true ∧ decide ((j : Int) < 24) = true ∧ j < ops.length ∧ j < 24) ∨ (((decide ((j : Int) < (ops.length : Int)) = true ∧ decide ((j : Int) < 24) = false ∧ 24 ≤ (j : Int) ∧ (j : Int) < (ops.length : Int)) ∨ (decide ((j : Int) < (ops.length : Int)) = false ∧ (ops.length : Int) ≤ (j : Int)))) := by
      by_cases h : j < ops.length
      · by_cases h8 : j < 24
        · exact .inl ⟨by simpa using h, by simp; omega, h, h8⟩
        · exact .inr (.inl ⟨by simpa using h, by simp; omega, by omega, by omega⟩)
      · exact .inr (.inr ⟨by simpa using h, by omega⟩)
    rcases hcase with ⟨d1, d2, hlt, hlt8⟩ | hend
    · obtain ⟨b, off, A', c', rfl, o0, o1, o2, o3, hrow, hK1, hK2⟩ := ops_at HS.out j hlt
      have hbw := World.block_lt_of_cell? w _ o0
      simp only at hbw
      obtain ⟨y, hy⟩ := u8_wrap ops[j].1
      obtain ⟨K, hK⟩ : ∃ K, K = ops[j].1 := ⟨_, rfl⟩
      obtain ⟨N, hN⟩ : ∃ K, K = ops[j].2.1 := ⟨_, rfl⟩
      obtain ⟨M, hM⟩ : ∃ K, K = ops[j].2.2.1 := ⟨_, rfl⟩
      obtain ⟨bs, hbs⟩ : ∃ K, K = ops[j].2.2.2 := ⟨_, rfl⟩
      rw [← hK] at hy hK1 hK2 o0
      rw [← hN] at o1
      rw [← hM] at o2
      rw [← hbs] at o3 hrow
      clear hK hN hM hbs
      have HC : Hid (∀ W', Below w.heap.size w W' → W'.cell? ⟨b, off + j * 4, none⟩ = some (.int .i64 K) ∧ W'.cell? ⟨b, off + j * 4 + 1, none⟩ = some (.int .i64 N) ∧ W'.cell? ⟨b, off + j * 4 + 2, none⟩ = some (.int .i64 M) ∧ W'.cell? ⟨b, off + j * 4 + 3, none⟩ = some (.slice A' bs.length c')) :=
        Lib.hid (fun W' hW => ⟨(hW.cell (World.block_lt_of_cell? w _ o0)).trans o0, (hW.cell (World.block_lt_of_cell? w _ o1)).trans o1, (hW.cell (World.block_lt_of_cell? w _ o2)).trans o2, (hW.cell (World.block_lt_of_cell? w _ o3)).trans o3⟩)
      clear o0 o1 o2 o3
      obtain ⟨o0, o1, o2, o3⟩ := HC.out _ HX.out.below
      have HR : Hid (∀ W', Below w.heap.size w W' → SliceR Rp.byte (fun _ _ => True) W' bs (.slice A' bs.length c')) := Lib.hid (fun W' hW => hrow.mono (sub_any hW))
      obtain ⟨ys, p, ec, hst⟩ := Stp.total (around K 9) N M y bs xs
      have hG23 : Good 23 xs := HG.out.mono (by omega)
      have HG' := Lib.hid (Stp.good hst HG.out)
      have Hst := Lib.hid hst
      have HG23 := Lib.hid hG23
      have Hy := Lib.hid hy
      have hjI : (j : Int) < (ops.length : Int) := by omega
      clear hrow hst hG23 HG hy
      have c56 : Try.prog.cellsOf 56 = 4 := by kernel_rfl
      go_wp2_with fail
      refine (rdo_any K N M y bs _ _ w.heap.size (fun _ _ => True) wr xs ys p ec hK1 hK2 Hy.out HG23.out (link_size HL.out) (HR.out _ HX.out.below) HP.out hXb Hst.out).mono ?_
      rintro e w1 ⟨v1, rfl, hP1, hX1⟩
      have HP1 := Lib.hid hP1
      have HX1 := Lib.hid (HX.out.trans (Ext.of_below HX.out.ok hX1))
      have HL1 := Lib.hid (HL.out.kept hX1 (fun _ _ => rfl))
      clear hP1 hX1 HP HL HX hXb o0 o1 o2 o3
      obtain ⟨o0, o1, o2, o3⟩ := HC.out _ HX1.out.below
      have hbw1 : b < w1.heap.size := Nat.lt_of_lt_of_le hbw HX1.out.below.size
      have hok1 : LOk L (w1.alloc (.cells #[.int .i64 p.1, .string p.2] 40)) := LOk.alloc HX1.out.ok _
      have hxx : Ext L w L (w1.alloc (.cells #[.int .i64 p.1, .string p.2] 40)) := HX1.out.alloc _
      have hll : LinkAt L (w1.alloc (.cells #[.int .i64 p.1, .string p.2] 40)) w.heap.size g xs := HL1.out.kept ((Below.refl _ _).alloc (Nat.le_refl _) _) (fun _ _ => rfl)
      have Hok1 := Lib.hid hok1; have Hxx := Lib.hid hxx; have Hll := Lib.hid hll
      clear hok1 hxx hll
      go_wp2_with fail
      refine (do_any K N M y bs _ w.heap.size g L (fun _ _ => True) _ xs ys p ec hK1 hK2 Hy.out HG23.out (HR.out _ Hxx.out.below) Hll.out Hok1.out (Hxx.out.below.size) Hst.out).mono ?_
      rintro e w2 ⟨rfl, hL2, hX2⟩
      have x1 := (hX2.others _ _ _ _ (heap_alloc_new w1 _) (by decide) (by decide)).trans (heap_alloc_new w1 _)
      have n0 := cell_block x1 0
      have n1 := cell_block x1 1
      have f0 := frozen_block x1 0
      have f1 := frozen_block x1 1
      simp at n0 n1
      have hs1 : w1.heap.size < w2.heap.size := by have := (Array.getElem?_eq_some_iff.1 x1).1; exact this
      have HP2 := Lib.hid (Blk.lstep (Blk.below HP1.out ((Below.refl _ _).alloc (Nat.le_refl _) _)) hX2 (by decide) (by decide))
      have HX2 := Lib.hid (hX2.ext Hxx.out (Nat.le_refl _))
      have HL2 := Lib.hid hL2
      have hsz := link_size hL2
      have Hsz : Hid (∀ x ∈ ys, x.2.size ≤ room) := Lib.hid (fun x hx => by obtain ⟨i, hi, rfl⟩ := List.mem_iff_getElem.1 hx; exact hsz i hi)
      have hyl : ys.length ≤ 24 := by have := HG'.out.len; omega
      have e1 : (p.2 == p.2) = true := str_beq_self _
      have e2 : (p.2 != p.2) = false := str_bne_self _
      obtain ⟨A1, c1, rfl, _, _⟩ := Blk.form HP2.out
      clear x1 hL2 hX2 hsz HP1 HX1 HL1 Hok1 Hxx Hll o0 o1 o2 o3 hbw1
      go_wp2_with fail
      refine (all_any g w.heap.size L _ ys (by omega) (HL2.out.kept ((Below.refl _ _).alloc (Nat.le_refl _) _) (fun _ _ => rfl))).mono ?_
      rintro e w5 ⟨vl, vs, rfl, hT5, hX5⟩
      have hX5' : Below w2.heap.size w2 w5 := ((Below.refl _ w2).alloc (Nat.le_refl _) _).trans (hX5.mono (by simp))
      have HT5 := Lib.hid hT5
      have HP5 := Lib.hid (Blk.below HP2.out hX5')
      have HL5 := Lib.hid (HL2.out.kept hX5' (fun _ _ => rfl))
      have HX5 := Lib.hid (HX2.out.trans (Ext.of_below HX2.out.ok hX5'))
      obtain ⟨Al, cl, rfl, _, _⟩ := hT5.row.form
      clear hT5 hX5 hX5' HP2 HL2 HX2 n0 n1 f0 f1 hs1
      go_wp2_with fail
      refine (as_any _ w5 _ ys vs HT5.out (by omega) Hsz.out).mono ?_
      rintro e w6 ⟨vp, rfl, hP6, hX6⟩
      have HQ6 := Lib.hid hP6
      obtain ⟨Aq, cq, rfl, _, _⟩ := hP6.form
      have HP6 := Lib.hid (Blk.below HP5.out hX6)
      have HL6 := Lib.hid (HL5.out.kept hX6 (fun _ _ => rfl))
      have HX6 := Lib.hid (HX5.out.trans (Ext.of_below HX5.out.ok hX6))
      clear hP6 hX6 HP5 HL5 HX5 HT5
      go_wp2_with fail
      refine (same_eq _ _ w6 _ _ ys HQ6.out HP6.out (by omega)).mono ?_
      rintro e w7 ⟨rfl, hX7⟩
      have HP7 := Lib.hid (Blk.below HP6.out hX7)
      have HL7 := Lib.hid (HL6.out.kept hX7 (fun _ _ => rfl))
      have HX7 := Lib.hid (HX6.out.trans (Ext.of_below HX6.out.ok hX7))
      clear hX7 HP6 HL6 HX6 HQ6
      go_wp2_with fail
      refine (len_any L w7 w.heap.size g ys HL7.out).mono ?_
      rintro e w8 ⟨rfl, rfl⟩
      go_wp2_with fail
      go_loopw [11] (fun i wr => ∃ t : Int, -1 ≤ t ∧ t ≤ 3 ∧ i = .int .i64 t ∧ PL wr w.heap.size (.slice A1 ys.length c1) ys ∧ LinkAt L wr w.heap.size g ys ∧ Ext L w L wr) (fun i _ => (3 - intOf i).toNat)
      case atStart => exact ⟨-1, by omega, by omega, rfl, HP7.out, HL7.out, HX7.out⟩
      case round =>
        obtain ⟨t, ht1, ht2, rfl, hP, hL, hX⟩ := hrel
        clear HP7 HL7 HX7
        have HX := Lib.hid hX; have HL := Lib.hid hL
        have HP := Lib.hid hP
        clear hX hL hP
        by_cases h3 : t < 3
        · have hd3 : decide (t < 3) = true := by simpa using h3
          go_wp2_with fail
          refine (first_any t g w.heap.size L _ ys (by omega) HL.out).mono ?_
          rintro e wa ⟨rfl, hXa⟩
          have HXa := Lib.hid (HX.out.trans (Ext.of_below HX.out.ok hXa))
          have HLa := Lib.hid (HL.out.kept hXa (fun _ _ => rfl))
          have HPa := Lib.hid (Blk.below HP.out hXa)
          clear hXa HX HL HP
          go_wp2_with fail
          refine (rfirst_any t w.heap.size _ _ ys (by omega) HPa.out).mono ?_
          rintro e wb ⟨rfl, rfl⟩
          go_wp2_with fail
          go_roundw
          case rel => exact ⟨t + 1, by omega, by omega, by go_num, HPa.out, HLa.out, HXa.out⟩
          case measure => simp [intOf]; omega
        · have hd3 : decide (t < 3) = false := by simpa using h3
          go_wp2_with fail
          go_roundw
          case rel => exact ⟨j + 1, by omega, by omega, by go_num, ys, HG'.out, HP.out, HL.out, HX.out⟩
          case measure => simp [intOf]; omega
    · rcases hend with ⟨d1, d2, d3, d4⟩ | ⟨d1, d3⟩
      all_goals
        go_wp2_with fail
        refine (lives_any L wr HX.out.ok).mono ?_
        rintro e w3 ⟨rfl, hX3⟩
        have HX3 := Lib.hid (HX.out.trans hX3)
        clear hX3
        go_wp2
        go_ret
        exact ⟨rfl, HX3.out.below⟩
end Go.Proofs.Ytigogjbngphadaa
