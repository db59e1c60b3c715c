/- Walks of what the link's statements call, the tenth part: the document's Take and Turn. No claim by itself. -/
import Derived.Test.YtigogjbngphadaaLink10
set_option linter.unusedSimpArgs false
set_option linter.unusedVariables false
namespace Go.Proofs.Ytigogjbngphadaa
open Go.RowKit

set_option maxHeartbeats 2000000 in
theorem rtake_any (k : Nat) (v : Value) (base : Nat) (w : World) (xs : List Pk) (hk : k < xs.length) (hlt : xs.length ≤ 64) (h : PL w base v xs) (hbase : base ≤ w.heap.size) :
    Calls Try.prog 33 #[v, .int .i64 k] w fun e w' => ∃ v', e = .returned (.tuple #[v', .agg #[.int .i64 xs[k].1, .string xs[k].2], .int .i64 0]) ∧ PL w' w.heap.size v' (xs.take k ++ xs.drop (k + 1)) ∧ Below w.heap.size w w' := by
  have hb := inB_true hk
  obtain ⟨r, cap, rfl, _, hcl, hcm, hat⟩ := PL.at_ h (by omega)
  obtain ⟨s0, s1⟩ := hat k hk
  have hkI : (k : Int) < (xs.length : Int) := by omega
  have HC : Hid (∀ W', Below w.heap.size w W' → W'.cell? ⟨r, k * 2, none⟩ = some (.int .i64 xs[k].1) ∧ W'.cell? ⟨r, k * 2 + 1, none⟩ = some (.string xs[k].2)) :=
    Lib.hid (fun W' hW => ⟨(hW.cell (World.block_lt_of_cell? w _ s0)).trans s0, (hW.cell (World.block_lt_of_cell? w _ s1)).trans s1⟩)
  have HP := Lib.hid h
  clear h hat s0 s1
  go_enter Try.func33, Try.ntmps33
  go_wp2_with fail
  refine (rin_any k _ base _ xs (Blk.below HP.out ((Below.refl _ w).alloc (Nat.le_refl _) _))).mono ?_; rintro e w' ⟨rfl, rfl⟩
  go_wp2
  obtain ⟨w1, hw1⟩ : ∃ w1, w1 = w.alloc (.cells #[.int .i64 0, .string ⟨#[]⟩] 40) := ⟨_, rfl⟩
  have hbox : w1.heap[w.heap.size]? = some (.cells #[.int .i64 0, .string ⟨#[]⟩] 40 (0, 0)) := by rw [hw1]; exact heap_alloc_new w _
  have hB1 : Below w.heap.size w w1 := by rw [hw1]; exact (Below.refl _ w).alloc (Nat.le_refl _) _
  have hs1 : w1.heap.size = w.heap.size + 1 := by rw [hw1]; simp
  rw [← hw1]
  clear hw1
  have HB1 := Lib.hid hB1
  have Hbox := Lib.hid hbox
  have HP1 : Hid (PL w1 base _ xs) := Lib.hid (Blk.below HP.out hB1)
  have Hs1 := Lib.hid hs1
  obtain ⟨s0, s1⟩ := HC.out _ hB1
  have n0 := cell_block hbox 0
  have n1 := cell_block hbox 1
  have f0 := frozen_block hbox 0
  have f1 := frozen_block hbox 1
  simp at n0 n1
  clear hB1 hbox hs1
  go_region_with (go_at_call 19
                  refine (without_any base k _ _ xs hk (by omega) (Blk.below HP1.out (below_drew _))).mono ?_
                  rintro e wc ⟨vc, rfl, hPc, hXc⟩
                  have HPc := Lib.hid hPc
                  have HBc : Hid (Below w1.heap.size w1 wc) := Lib.hid ((below_drew w1).trans hXc)
                  have hboxc := (HBc.out.block w.heap.size (by have := Hs1.out; omega)).trans Hbox.out
                  have n0 := cell_block hboxc 0
                  have n1 := cell_block hboxc 1
                  have f0 := frozen_block hboxc 0
                  have f1 := frozen_block hboxc 1
                  simp at n0 n1
                  obtain ⟨s0, s1⟩ := HC.out _ (HB1.out.trans (HBc.out.mono HB1.out.size))
                  have Hboxc := Lib.hid hboxc
                  clear hPc hXc hboxc)
  all_goals
    go_wp2
    refine bodyPost_ret (v := .tuple #[vc, .agg #[.int .i64 xs[k].1, .string xs[k].2], .int .i64 0]) (by simp [results, Try.results33, go_sem, n0, n1]) rfl ?_
    refine ⟨_, rfl, ?_, ?_⟩
    · refine Blk.lower (base := w1.drew.heap.size) (Blk.kept HPc.out fun k hk => ?_) (by have := Hs1.out; simp; omega)
      have := (HPc.out.lt k hk).1
      have h1 := Hs1.out
      simp at this
      rw [heap_ne _ _ _ (by omega), heap_ne _ _ _ (by omega)]
    · exact ((HB1.out.trans (HBc.out.mono HB1.out.size)).setCell (Nat.le_refl _) _).setCell (Nat.le_refl _) _

end Go.Proofs.Ytigogjbngphadaa
