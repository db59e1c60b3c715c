/- Walks of what the link's statements call, the fourth part: the document's example. No claim by itself. -/
import Derived.Test.YtigogjbngphadaaLink4
import Derived.Lib.SlBytesConst
import Derived.BigQuiet
import Derived.Deep.QuietTactic
namespace Go.Proofs.Ytigogjbngphadaa
open Go.RowKit

theorem flatV_get : ∀ (tos : List Int) (vs : List Value) (_ : vs.length = tos.length) (i : Nat) (hi : i < tos.length) (hv : i < vs.length), (flatV tos vs)[i * 2]? = some (.int .i64 tos[i]) ∧ (flatV tos vs)[i * 2 + 1]? = some vs[i]
  | [], _, _, i, hi, _ => by simp at hi
  | _ :: _, [], h, _, _, _ => by simp at h
  | t :: tos, v :: vs, h, 0, _, _ => ⟨rfl, rfl⟩
  | t :: tos, v :: vs, h, i + 1, hi, hv => by
    have := flatV_get tos vs (by simpa using h) i (by simpa using hi) (by simpa using hv)
    rw [show (i + 1) * 2 = i * 2 + 1 + 1 from by omega]
    exact this

theorem Told.at_ {w : World} {base : Nat} {v : Value} {xs : List Pk} {vs : List Value} (h : Told w base v xs vs) (hn : 0 < xs.length) : ∃ r cap cur fr, v = .slice (some ⟨r, 0, none⟩) xs.length cap ∧ xs.length ≤ cap ∧ cap ≤ 9223372036854775807 ∧ base ≤ r ∧ w.heap[r]? = some (.cells cur 34 fr) ∧ 
    ∀ i (hi : i < xs.length), xs[i].2.size ≤ big → ∃ A c, w.cell? ⟨r, i * 2, none⟩ = some (.int .i64 xs[i].1) ∧ w.cell? ⟨r, i * 2 + 1, none⟩ = some (.slice A xs[i].2.size c) ∧ SliceR Rp.byte (fun _ _ => True) w xs[i].2.data.toList (.slice A xs[i].2.size c) ∧
      Blk w base 5 1 (.slice A xs[i].2.size c) xs[i].2.size (bytesV xs[i].2.data.toList) := by
  obtain ⟨r, cap, cur, fr, e0, e1, e2, e3, e4, e5, e6, e7⟩ := h.row.row hn
  refine ⟨r, cap, cur, fr, e0, e4, e5, e1, e2, fun i hi hz => ?_⟩
  have hv : i < vs.length := by rw [h.len]; exact hi
  obtain ⟨g0, g1⟩ := flatV_get (xs.map (·.1)) vs (by simp [h.len]) i (by simpa using hi) hv
  have hb := h.each i hv hi
  have hR : SliceR Rp.byte (fun _ _ => True) w xs[i].2.data.toList vs[i] := Blk.reads (d := Rp.byte) hb (bytes_reps _ _ _) rfl hz (fun _ _ _ _ => trivial)
  obtain ⟨A, c, hA, _⟩ := hb.form
  rw [hA] at hb hR
  refine ⟨A, c, ?_, ?_, hR, hb⟩
  · have := e7 _ _ g0; simpa using this
  · have := e7 _ _ g1; rw [hA] at this; exact this

set_option maxHeartbeats 1000000 in
theorem lives_any (L : Live) (w : World) (hok : LOk L w) :
    Calls Try.prog 15 #[] w fun e w' => e = .returned (.bool true) ∧ Ext L w L w' := by
  have Hok := Lib.hid hok; clear hok
  go_enter Try.func15, Try.ntmps15
  go_wp2_with fail
  refine (new_any L w Hok.out).mono ?_; rintro e w1 ⟨g, rfl, hL1, hX1⟩
  have HL1 := Lib.hid hL1; have HX1 := Lib.hid hX1; clear hL1 hX1
  have kc := Lib.run_convert_bytes_const (P := Try.prog) w1 22 5 #[.int .u8 120] 1 1 Try.underlying22 Try.underlying5
  go_wp2_with fail
  have hx2 := (Ext.refl HX1.out.ok).alloc (.cells #[.int .u8 120] 5 (1, 2))
  have hS : SliceR Rp.byte (fun _ _ => True) (w1.alloc (.cells #[.int .u8 120] 5 (1, 2))) [120] (.slice (some ⟨w1.heap.size, 0, none⟩) 1 1) :=
    Blk.reads (d := Rp.byte) (base := 0) (e := 5) (n := 1) (cells := bytesV [120]) ⟨rfl, .inr ⟨_, 1, #[.int .u8 120], (1, 2), rfl, Nat.zero_le _, heap_alloc_new _ _, .inr (Nat.le_refl _), Nat.le_refl _, by decide, by decide, rfl⟩⟩ (bytes_reps _ _ _) rfl (by decide) (fun _ _ _ _ => trivial)
  refine (send_any 1 [120] _ g w.heap.size L _ _ [] (.inr rfl) hS (by decide) (by decide) (HL1.out.ext hx2) hx2.ok (by have := HX1.out.below.size; simp; omega)).mono ?_
  rintro e w2 ⟨rfl, hL2, hX2⟩
  have HX2 := Lib.hid (hX2.ext (HX1.out.trans hx2) (Nat.le_refl _))
  have HL2 := Lib.hid hL2
  clear hL2 hX2 hS hx2 HL1 HX1 kc
  go_wp2_with fail
  refine (copy_any 0 g w.heap.size L w2 [(1, mkS [120])] (by decide) (by decide) HL2.out HX2.out.ok HX2.out.below.size).mono ?_
  rintro e w3 ⟨rfl, hL3, hX3⟩
  have HX3 := Lib.hid (hX3.ext HX2.out (Nat.le_refl _))
  have HL3 := Lib.hid hL3
  clear hL3 hX3 HL2 HX2
  go_wp2_with fail
  refine (turn_any 1 0 1 g w.heap.size L w3 [(1, mkS [120]), (1, mkS [120])] (by decide) (by decide) HL3.out HX3.out.ok HX3.out.below.size).mono ?_
  rintro e w4 ⟨rfl, hL4, hX4⟩
  have HX4 := Lib.hid (hX4.ext HX3.out (Nat.le_refl _))
  have HL4 := Lib.hid hL4
  clear hL4 hX4 HL3 HX3
  go_wp2_with fail
  refine (all_any g w.heap.size L w4 [(1, mkS [120]), (1, mkS [121])] (by decide) HL4.out).mono ?_
  rintro e w5 ⟨v, vs, rfl, hT, hB⟩
  obtain ⟨r, cap, cur, fr, rfl, hc1, hc2, _, _, hat⟩ := hT.at_ (by decide)
  obtain ⟨A0, k0, a0, a1, hR0, _⟩ := hat 0 (by decide) (by decide)
  obtain ⟨A1, k1, b0, b1, hR1, _⟩ := hat 1 (by decide) (by decide)
  have HX5 := Lib.hid (HX4.out.trans (Ext.of_below HX4.out.ok hB))
  have kc0 : (convert 22 9 (.slice A0 1 k0)).run Try.prog w5 = .ok (.string ⟨#[120]⟩) w5 := SliceR.toStr (P := Try.prog) hR0 22 5 9 Try.underlying22 Try.underlying5 Try.underlying9
  have kc1 : (convert 22 9 (.slice A1 1 k1)).run Try.prog w5 = .ok (.string ⟨#[121]⟩) w5 := SliceR.toStr (P := Try.prog) hR1 22 5 9 Try.underlying22 Try.underlying5 Try.underlying9
  replace a1 : w5.cell? ⟨r, 1, none⟩ = some (.slice A0 1 k0) := a1
  replace b1 : w5.cell? ⟨r, 3, none⟩ = some (.slice A1 1 k1) := b1
  replace b0 : w5.cell? ⟨r, 2, none⟩ = some (.int .i64 1) := b0
  clear hat hT hB hR0 hR1 HL4 HX4
  clear a0
  go_wp2
  go_ret
  exact ⟨rfl, HX5.out⟩
end Go.Proofs.Ytigogjbngphadaa
