/- Walks of what the link's statements call, the fifth part: what is taken out. No claim by itself. -/
import Derived.Test.YtigogjbngphadaaLink5
set_option linter.unusedSimpArgs false
set_option linter.unusedVariables false
namespace Go.Proofs.Ytigogjbngphadaa
open Go.RowKit

/-- The cells of a link's row, packet by packet. -/
theorem LRow.cells {w : World} {base : Nat} {v : Value} {xs : List Pk} (h : LRow w base v xs) : ∃ cells, Blk w base 66 2 v xs.length cells ∧ Reps ownR Bot w xs cells := by
  obtain ⟨cells, h1, h2, _⟩ := h; exact ⟨cells, h1, h2⟩

theorem other_row {w w1 : World} {g r t base : Nat} {cs : Array Value} (hg : w.heap[g]? = some (.cells cs t (0, 0))) (hT : base ≤ r ∧ ∃ cur fr, w.heap[r]? = some (.cells cur 66 fr)) (hgr : w.grownBy w1 (some r)) (hne : t ≠ 66) : w1.heap[g]? = some (.cells cs t (0, 0)) := by
  rw [hgr.block g (Array.getElem?_eq_some_iff.1 hg).1 fun e => ?_]
  · exact hg
  · injection e with e
    obtain ⟨_, cur, fr, hc⟩ := hT
    rw [← e, hg] at hc; simp at hc; exact hne hc.2.1

theorem out_boxes {w w1 : World} {r t : Nat} {x0 x1 y0 y1 : Value} (hr : r < w.heap.size) (hg : ((w.alloc (.cells #[x0, x1] t)).alloc (.cells #[y0, y1] t)).drew.grownBy w1 (some r)) :
    w1.cell? ⟨w.heap.size, 0, none⟩ = some x0 ∧ w1.cell? ⟨w.heap.size, 1, none⟩ = some x1 ∧ w1.cell? ⟨w.heap.size + 1, 0, none⟩ = some y0 ∧ w1.cell? ⟨w.heap.size + 1, 1, none⟩ = some y1 ∧ w1.frozen? ⟨w.heap.size, 0, none⟩ = false ∧ w1.frozen? ⟨w.heap.size, 1, none⟩ = false ∧ w.heap.size + 1 < w1.heap.size := by
  have h0 : w1.heap[w.heap.size]? = some (.cells #[x0, x1] t (0, 0)) := by
    rw [hg.block _ (by simp; omega) (by simp; omega)]
    show ((w.alloc _).alloc _).heap[w.heap.size]? = _
    rw [Below.heap_alloc _ _ _ (by simp)]
    exact heap_alloc_new w _
  have h1 : w1.heap[w.heap.size + 1]? = some (.cells #[y0, y1] t (0, 0)) := by
    rw [hg.block _ (by simp) (by simp; omega)]
    show ((w.alloc _).alloc _).heap[w.heap.size + 1]? = _
    have := heap_alloc_new (w.alloc (.cells #[x0, x1] t)) (.cells #[y0, y1] t)
    simp only [World.size_alloc] at this
    exact this
  have hs := hg.size
  simp at hs
  exact ⟨cell_block h0 0, cell_block h0 1, cell_block h1 0, cell_block h1 1, frozen_block h0 0, frozen_block h0 1, by omega⟩

theorem LinkAt.set_new {L : Live} {w : World} {base g n : Nat} {xs : List Pk} (h : LinkAt L w base g xs) (hn : ∀ v, w.heap[g]? = some (.cells #[v] 63 (0, 0)) → v.ownBlock ≠ some n) (hng : g ≠ n) (j : Nat) (u : Value) : LinkAt L (w.setCell ⟨n, j, none⟩ u) base g xs := by
  obtain ⟨v, h1, h2, h3, h4, h5⟩ := h
  exact ⟨v, by rw [Below.heap_setCell _ _ _ _ hng]; exact h1, h2, h3, h4.kept fun k hk => Below.heap_setCell _ _ _ _ (fun e => hn v h1 (by rw [hk, e])), h5⟩
theorem LStep.set_new {L : Live} {base n : Nat} {w w' : World} (h : LStep L base w w') (hok : LOk L w) (hn : w.heap.size ≤ n) (hb : base ≤ w.heap.size) (j : Nat) (u : Value) : LStep L base w (w'.setCell ⟨n, j, none⟩ u) :=
  ⟨h.below.setCell (Nat.le_trans hb hn) u, fun b i hbi x hx => ((World.cell?_of_block (a := ⟨b, i, none⟩) (Below.heap_setCell w' ⟨n, j, none⟩ u b (by have := hok b i hbi; simp only; omega))).trans (h.live b i hbi x hx)),
   fun k cs t fr hk h1 h2 => by
    have := (Array.getElem?_eq_some_iff.1 hk).1
    rw [Below.heap_setCell _ _ _ _ (by simp only; omega)]; exact h.others k cs t fr hk h1 h2⟩
theorem heap_set_self {w : World} {g : Nat} {v u x : Value} (h : w.heap[g]? = some (.cells #[v] 63 (0, 0))) (hx : (w.setCell ⟨g, 0, none⟩ u).heap[g]? = some (.cells #[x] 63 (0, 0))) : x = u := by
  rw [heap_setCell_same h] at hx
  simp at hx; exact hx.symm

theorem out_end {L : Live} {w w1 : World} {base g r c k : Nat} {v1 a b : Value} {xs : List Pk} {cells : List Value} {o1 o2 : Obj} (hg : w.heap[g]? = some (.cells #[.slice (some ⟨r, 0, none⟩) xs.length c] 63 (0, 0))) (hbg : base ≤ g) (hLg : ∀ i, ¬ L g i)
    (hT : ∀ k, (Value.slice (some ⟨r, 0, none⟩) xs.length c).ownBlock = some k → base ≤ k ∧ ∃ cur fr, w.heap[k]? = some (.cells cur 66 fr)) (hLv : ∀ k, (Value.slice (some ⟨r, 0, none⟩) xs.length c).ownBlock = some k → ∀ i, ¬ L k i) (hok : LOk L w) (hbase : base ≤ w.heap.size)
    (hR : Reps ownR Bot w xs cells) (hB : Blk w1 base 66 2 v1 (k + (xs.length - (k + 1))) (cells.take (k * 2) ++ cells.drop ((k + 1) * 2))) (hk : k < xs.length) (hlt : xs.length ≤ 64) (hgr : ((w.alloc o1).alloc o2).drew.grownBy w1 (some r)) (hr : v1.ownBlock = some r ∨ v1.ownBlock = some (w.heap.size + 1 + 1)) :
    LinkAt L (((w1.setCell ⟨g, 0, none⟩ v1).setCell ⟨w.heap.size, 0, none⟩ a).setCell ⟨w.heap.size, 1, none⟩ b) base g (xs.take k ++ xs.drop (k + 1)) ∧ LStep L base w (((w1.setCell ⟨g, 0, none⟩ v1).setCell ⟨w.heap.size, 0, none⟩ a).setCell ⟨w.heap.size, 1, none⟩ b) := by
  have hgl : g < w.heap.size := (Array.getElem?_eq_some_iff.1 hg).1
  obtain ⟨_, cur, fr, hrh⟩ := hT r rfl
  have hrl : r < w.heap.size := (Array.getElem?_eq_some_iff.1 hrh).1
  have hgw := grown_pre hgr
  have hg1 := other_row hg (hT r rfl) hgw (by decide)
  have hlen : (xs.take k ++ xs.drop (k + 1)).length = k + (xs.length - (k + 1)) := by rw [List.length_append, List.length_take, List.length_drop]; omega
  have hrow : LRow w1 base v1 (xs.take k ++ xs.drop (k + 1)) := ⟨_, by rw [hlen]; exact hB, ownR_any ((hR.take k).append (hR.drop (k + 1))), by rw [hlen]; unfold big; omega⟩
  obtain ⟨e1, e2⟩ := link_end (v1 := v1) hg hbg hLg hT hLv hok hbase hrow (hr.imp id (fun e k' hk' => by rw [e] at hk'; simp at hk'; omega)) hgw
  have hne : ∀ v, (w1.setCell ⟨g, 0, none⟩ v1).heap[g]? = some (.cells #[v] 63 (0, 0)) → v.ownBlock ≠ some w.heap.size := by
    intro v hv
    have := heap_set_self hg1 hv
    subst this
    rcases hr with hr | hr <;> rw [hr] <;> simp <;> omega
  have e3 := e1.set_new (n := w.heap.size) hne (by omega) 0 a
  have e4 := e3.set_new (n := w.heap.size) (fun v hv => hne v (by rw [Below.heap_setCell _ _ _ _ (show g ≠ w.heap.size by omega)] at hv; exact hv)) (by omega) 1 b
  exact ⟨e4, (e2.set_new hok (Nat.le_refl _) hbase 0 a).set_new hok (Nat.le_refl _) hbase 1 b⟩

theorem out_src {w : World} {base r c k : Nat} {xs : List Pk} {cells : List Value} (hB : Blk w base 66 2 (.slice (some ⟨r, 0, none⟩) xs.length c) xs.length cells) (hk : k < xs.length) (hnc : xs.length ≤ c) :
    ∃ ad : Addr, (if c = k + 1 then (some (⟨r, 0, none⟩ : Addr)) else some ⟨r, (k + 1) * 2, none⟩) = some ad ∧ Src w (.slice (some ad) (xs.length - (k + 1)) (c - (k + 1))) (xs.length - (k + 1)) 2 (cells.drop ((k + 1) * 2)) := by
  obtain ⟨r', cap, cur, fr, he, _, _, _, _, _, _, hc⟩ := hB.row (by omega)
  simp at he
  obtain ⟨rfl, rfl⟩ := he
  have hl : (cells.drop ((k + 1) * 2)).length = (xs.length - (k + 1)) * 2 := by rw [List.length_drop, hB.1, Nat.sub_mul]
  by_cases h : c = k + 1
  · refine ⟨_, if_pos h, hl, .inr ⟨_, _, rfl, fun j u hu => ?_⟩⟩
    have hj := (List.getElem?_eq_some_iff.1 hu).1
    rw [hl] at hj; omega
  · refine ⟨_, if_neg h, hl, .inr ⟨_, _, rfl, fun j u hu => ?_⟩⟩
    rw [List.getElem?_drop] at hu
    rw [addr_add]
    exact hc _ u hu
theorem out_blk {w : World} {base r c k : Nat} {xs : List Pk} {cells : List Value} (hB : Blk w base 66 2 (.slice (some ⟨r, 0, none⟩) xs.length c) xs.length cells) (hk : k < xs.length) : Blk w base 66 2 (.slice (some ⟨r, 0, none⟩) k k) k (cells.take (k * 2)) := by
  obtain ⟨h1, h2⟩ := hB
  rcases h2 with ⟨_, h0⟩ | ⟨g, cap, cur, fr, he, e1, e2, e3, e4, e5, e6, e7⟩
  · omega
  · simp at he
    obtain ⟨rfl, rfl⟩ := he
    refine ⟨by rw [List.length_take, h1]; omega, .inr ⟨r, k, cur, fr, rfl, e1, e2, e3, Nat.le_refl _, by simp only [maxLen] at e5 ⊢; omega, by have := Nat.mul_le_mul_right 2 (show k ≤ c by omega); omega, ?_⟩⟩
    rw [← e7, List.take_take, Nat.min_eq_left (by omega)]

set_option maxHeartbeats 1000000 in
theorem out_any (k : Nat) (g base : Nat) (L : Live) (w : World) (xs : List Pk) (hk : k < xs.length) (hlt : xs.length ≤ 64) (hL : LinkAt L w base g xs) (hok : LOk L w) (hbase : base ≤ w.heap.size) :
    Calls Try.prog 30 #[.pointer (some ⟨g, 0, none⟩), .int .i64 k] w fun e w' => e = .returned (.agg #[.int .i64 xs[k].1, .string xs[k].2]) ∧ LinkAt L w' base g (xs.take k ++ xs.drop (k + 1)) ∧ LStep L base w w' := by
  obtain ⟨v, hg, hbg, hLg, hrow, hLv⟩ := hL
  have hTt : ∀ k, v.ownBlock = some k → base ≤ k ∧ ∃ cur fr, w.heap[k]? = some (.cells cur 66 fr) := fun k hk => ⟨(hrow.lt k hk).1, by obtain ⟨_, h1, _⟩ := hrow; exact h1.type k hk⟩
  obtain ⟨r, c, cur, fr, rfl, hbb, hbh, hbf, hnc, hn2, hsz, c0, c1, hz'⟩ := hrow.row k hk
  obtain ⟨cells, hB, hR⟩ := hrow.cells
  have hcell := cell_block hg 0
  simp at hcell
  have hgl : g < w.heap.size := (Array.getElem?_eq_some_iff.1 hg).1
  have hrl : r < w.heap.size := (Array.getElem?_eq_some_iff.1 hbh).1
  have hk1 : k + 1 ≤ xs.length := hk
  have hkc : k + 1 ≤ c := by omega
  have hkc0 : k ≤ c := by omega
  have hw1 : IntKind.i64.wrap ((k : Int) + 1) = (k : Int) + 1 := IntWalk.i64_in _ (by omega)
  have hw2 : 0 ≤ (k : Int) + 1 := by omega
  have hw3 : ((k : Int) + 1).toNat = k + 1 := by omega
  have hw4 : (k : Int) + 1 ≤ (xs.length : Int) := by omega
  obtain ⟨ad, had, hsrc⟩ := out_src hB hk hnc
  have Hg := Lib.hid hg; clear hg
  have HTt := Lib.hid hTt; clear hTt
  have HLv := Lib.hid hLv; clear hLv
  have HLg := Lib.hid hLg; clear hLg
  have Hok := Lib.hid hok; clear hok
  have HB := Lib.hid hB; clear hB
  have HSr := Lib.hid hsrc; clear hsrc
  have HR := Lib.hid hR; clear hR
  clear hbh hbf hsz hrow hz'
  go_enter Try.func30, Try.ntmps30
  go_wp2
  go_region_law (refine step_appB rfl (.tmp 20) (.tmp 27) 61 66 rfl base _ 2 24 Try.underlying61 Try.info66 rfl (by decide) _ (.slice (some ⟨r, 0, none⟩) k k) rfl _ rfl k (cells.take (k * 2)) ((out_blk HB.out hk).below ((((Below.refl _ w).alloc (Nat.le_refl _) _).alloc (by simp) _).drew)) (xs.length - (k + 1)) (cells.drop ((k + 1) * 2)) (HSr.out.keep (fun a u hu => ((((Below.refl _ w).alloc (Nat.le_refl _) _).alloc (by simp) _).drew.cell (World.block_lt_of_cell? w _ hu)).trans hu)) (fun u hu => HR.out.one u (List.mem_of_mem_drop hu)) (by omega) (by simp; omega) ?_; intro v1 w1 hB1 hg1 hr1; have HB1 := Lib.hid hB1; have hgr := grown_pre hg1; have Hgr := Lib.hid hg1; have Hr1 : Hid (v1.ownBlock = some r ∨ v1.ownBlock = some (w.heap.size + 1 + 1)) := Lib.hid (hr1.imp id (fun e => by simpa using e)); have hgc := (cell_block (other_row Hg.out (t := 63) (HTt.out r rfl) hgr (by decide)) 0); simp at hgc; have hgf := frozen_block (other_row Hg.out (t := 63) (HTt.out r rfl) hgr (by decide)) 0; obtain ⟨A1, c1', rfl, _, _⟩ := hB1.form; obtain ⟨n0, n1, n2, n3, n4, n5, n6⟩ := out_boxes (x0 := .int .i64 0) (x1 := .string ⟨#[]⟩) (y0 := .int .i64 xs[k].1) (y1 := .string xs[k].2) hrl hg1; clear hB1 hg1 hr1 hgr)
  all_goals
    go_wp2
    refine bodyPost_ret (v := .agg #[.int .i64 xs[k].1, .string xs[k].2]) (by simp [results, Try.results30, go_sem, n0, n1, n2, n3, hgl, Nat.ne_of_gt hgl, Nat.ne_of_lt hgl]) rfl ?_
    exact ⟨rfl, out_end Hg.out hbg HLg.out HTt.out HLv.out Hok.out hbase HR.out HB1.out hk hlt Hgr.out Hr1.out⟩
end Go.Proofs.Ytigogjbngphadaa
