/- Walks of what the link's statements call, the sixth part: Take, Drop, Late. No claim by itself. -/
import Derived.Test.YtigogjbngphadaaLink6
set_option linter.unusedSimpArgs false
set_option linter.unusedVariables false
namespace Go.Proofs.Ytigogjbngphadaa
open Go.RowKit

theorem LinkAt.set_type {L : Live} {w : World} {base g n t : Nat} {xs : List Pk} {cs : Array Value} {fr : Nat × Nat} (h : LinkAt L w base g xs) (hn : w.heap[n]? = some (.cells cs t fr)) (h63 : t ≠ 63) (h66 : t ≠ 66) (j : Nat) (u : Value) : LinkAt L (w.setCell ⟨n, j, none⟩ u) base g xs := by
  have h' := h
  obtain ⟨v, h1, h2, h3, h4, h5⟩ := h'
  refine h.set_new (fun v' hv' e => ?_) (fun e => ?_) j u
  · rw [h1] at hv'; simp at hv'; subst hv'
    obtain ⟨_, hb, _⟩ := h4
    obtain ⟨cur, fr', hc⟩ := hb.type n e
    rw [hn] at hc; simp at hc; exact h66 hc.2.1
  · rw [e, hn] at h1; simp at h1; exact h63 h1.2.1

theorem late_none (k : Int) (g base : Nat) (L : Live) (w : World) (xs : List Pk) (hk : ¬ (0 ≤ k ∧ k < xs.length)) (hL : LinkAt L w base g xs) :
    Calls Try.prog 16 #[.pointer (some ⟨g, 0, none⟩), .int .i64 k] w fun e w' => e = .returned (.int .i64 4) ∧ w = w' := by
  have hb := inB_false hk
  have HL := Lib.hid hL; clear hL
  go_enter Try.func16, Try.ntmps16
  go_wp2_with (go_at_call 27; refine (in_any k L w base g xs HL.out).mono ?_; rintro e w' ⟨rfl, rfl⟩)
  go_ret
  exact ⟨rfl, rfl⟩

/-- What is late. -/
def lateL (xs : List Pk) (k : Nat) (hk : k < xs.length) : List Pk := xs.take k ++ xs.drop (k + 1) ++ [xs[k]]

theorem link_size {L : Live} {w : World} {base g : Nat} {xs : List Pk} (h : LinkAt L w base g xs) (k : Nat) (hk : k < xs.length) : xs[k].2.size ≤ room := by
  obtain ⟨v, _, _, _, h4, _⟩ := h
  obtain ⟨_, _, _, _, _, _, _, _, _, _, _, _, _, hz⟩ := h4.row k hk
  exact hz

set_option maxHeartbeats 400000 in
theorem late_any (k : Nat) (g base : Nat) (L : Live) (w : World) (xs : List Pk) (hk : k < xs.length) (hlt : xs.length ≤ 64) (hL : LinkAt L w base g xs) (hok : LOk L w) (hbase : base ≤ w.heap.size) :
    Calls Try.prog 16 #[.pointer (some ⟨g, 0, none⟩), .int .i64 k] w fun e w' => e = .returned (.int .i64 0) ∧ LinkAt L w' base g (lateL xs k hk) ∧ LStep L base w w' := by
  have hb := inB_true hk
  have hz := Lib.hid (link_size hL k hk)
  have HL := Lib.hid hL; clear hL
  have Hok := Lib.hid hok; clear hok
  have hl2 : (xs.take k ++ xs.drop (k + 1)).length < 64 := by rw [List.length_append, List.length_take, List.length_drop]; omega
  have Hl2 := Lib.hid hl2; clear hl2
  go_enter Try.func16, Try.ntmps16
  go_wp2_with fail
  refine (in_any k L w base g xs HL.out).mono ?_; rintro e w' ⟨rfl, rfl⟩
  go_wp2_with fail
  refine (out_any k g base L w xs hk hlt HL.out Hok.out hbase).mono ?_
  rintro e w1 ⟨rfl, h1, h2⟩
  have H1 := Lib.hid h1; have H2 := Lib.hid h2; have hs := h2.below.size; clear h1 h2
  go_wp2_with fail
  refine (put_any _ _ hz.out L w1 base g _ Hl2.out H1.out (H2.out.ok Hok.out) (by omega)).mono ?_
  rintro e w2 ⟨rfl, h3, h4⟩
  have H3 := Lib.hid h3; have H4 := Lib.hid h4; clear h3 h4
  go_wp2
  go_ret
  exact ⟨rfl, H3.out, H2.out.trans H4.out⟩

set_option maxHeartbeats 400000 in
theorem take_none (k : Int) (g base : Nat) (L : Live) (w : World) (xs : List Pk) (hk : ¬ (0 ≤ k ∧ k < xs.length)) (hL : LinkAt L w base g xs) (hok : LOk L w) :
    Calls Try.prog 20 #[.pointer (some ⟨g, 0, none⟩), .int .i64 k] w fun e w' => e = .returned (.tuple #[.agg #[.int .i64 0, .slice none 0 0], .int .i64 4]) ∧ Ext L w L w' := by
  have hb := inB_false hk
  have HL := Lib.hid hL; clear hL
  have Hok := Lib.hid hok; clear hok
  go_enter Try.func20, Try.ntmps20
  go_wp2_with fail
  refine (in_any k L _ base g xs (HL.out.ext ((Ext.refl Hok.out).alloc _))).mono ?_; rintro e w' ⟨rfl, rfl⟩
  go_wp2
  refine bodyPost_ret (v := .tuple #[.agg #[.int .i64 0, .slice none 0 0], .int .i64 4]) (by simp [results, Try.results20, go_sem]) rfl ?_
  exact ⟨rfl, (Ext.refl Hok.out).alloc _⟩

set_option maxHeartbeats 1000000 in
theorem take_any (k : Nat) (g base : Nat) (L : Live) (w : World) (xs : List Pk) (hk : k < xs.length) (hlt : xs.length ≤ 64) (hL : LinkAt L w base g xs) (hok : LOk L w) (hbase : base ≤ w.heap.size) :
    Calls Try.prog 20 #[.pointer (some ⟨g, 0, none⟩), .int .i64 k] w fun e w' => ∃ v, e = .returned (.tuple #[.agg #[.int .i64 xs[k].1, v], .int .i64 0]) ∧ Blk w' w.heap.size 5 1 v xs[k].2.size (bytesV xs[k].2.data.toList) ∧ LinkAt L w' base g (xs.take k ++ xs.drop (k + 1)) ∧ LStep L base w w' := by
  have hb := inB_true hk
  have hz := link_size hL k hk
  have HL := Lib.hid hL; clear hL
  have Hok := Lib.hid hok; clear hok
  go_enter Try.func20, Try.ntmps20
  go_wp2_with fail
  refine (in_any k L _ base g xs (HL.out.ext ((Ext.refl Hok.out).alloc _))).mono ?_; rintro e w' ⟨rfl, rfl⟩
  go_wp2_with fail
  refine (out_any k g base L _ xs hk hlt (HL.out.ext ((Ext.refl Hok.out).alloc _)) (LOk.alloc Hok.out _) (by simp; omega)).mono ?_
  rintro e w1 ⟨rfl, h1, h2⟩
  have H1 := Lib.hid h1; have H2 := Lib.hid h2; have hs := h2.below.size
  have hbox := h2.others w.heap.size _ 34 (0, 0) (heap_alloc_new w _) (by decide) (by decide)
  rw [heap_alloc_new w _] at hbox
  simp at hs
  clear h1 h2
  go_wp2_with fail
  refine (told_any _ _ w1 hz).mono ?_
  rintro e w2 ⟨v2, rfl, h3, h4⟩
  have hbox2 := (h4.block w.heap.size (by omega)).trans hbox
  have n0 := cell_block hbox2 0
  have n1 := cell_block hbox2 1
  have f0 := frozen_block hbox2 0
  have f1 := frozen_block hbox2 1
  simp at n0 n1
  obtain ⟨A, c, rfl, _, _⟩ := h3.form
  have H3 := Lib.hid h3
  have H4 := Lib.hid h4
  have Hbox2 := Lib.hid hbox2
  clear h3 h4 hbox hbox2
  go_wp2
  refine bodyPost_ret (v := .tuple #[.agg #[.int .i64 xs[k].1, .slice A xs[k].2.size c], .int .i64 0]) (by simp [results, Try.results20, go_sem, n0, n1]) rfl ?_
  have e1 := (H1.out.kept H4.out (fun _ _ => rfl)).set_type Hbox2.out (by decide) (by decide) 0 (.int .i64 xs[k].1)
  have e2 := e1.set_type (heap_setCell_same Hbox2.out _) (by decide) (by decide) 1 (.slice A xs[k].2.size c)
  have hL1 : LStep L base w w1 := (LStep.of_below Hok.out hbase ((Below.refl _ w).alloc (Nat.le_refl _) _)).trans H2.out
  have hL2 : LStep L base w w2 := hL1.trans (LStep.of_below (H2.out.ok (LOk.alloc Hok.out _)) (by omega) H4.out)
  refine ⟨_, rfl, ((H3.out.lower (by omega)).kept fun k' hk' => ?_), e2, (hL2.set_new Hok.out (Nat.le_refl _) hbase 0 _).set_new Hok.out (Nat.le_refl _) hbase 1 _⟩
  have := H3.out.lt k' hk'
  rw [Below.heap_setCell _ _ _ _ (by show k' ≠ w.heap.size; omega), Below.heap_setCell _ _ _ _ (by show k' ≠ w.heap.size; omega)]

set_option maxHeartbeats 400000 in
theorem drop_none (k : Int) (g base : Nat) (L : Live) (w : World) (xs : List Pk) (hk : ¬ (0 ≤ k ∧ k < xs.length)) (hL : LinkAt L w base g xs) (hok : LOk L w) :
    Calls Try.prog 38 #[.pointer (some ⟨g, 0, none⟩), .int .i64 k] w fun e w' => e = .returned (.int .i64 4) ∧ Ext L w L w' := by
  have HL := Lib.hid hL; clear hL
  have Hok := Lib.hid hok; clear hok
  go_enter Try.func38, Try.ntmps38
  go_wp2_with (go_at_call 20; refine (take_none k g base L w xs hk HL.out Hok.out).mono ?_; rintro e w' ⟨rfl, h1⟩; have H1 := Lib.hid h1; clear h1)
  go_ret
  exact ⟨rfl, H1.out.alloc _⟩

set_option maxHeartbeats 400000 in
theorem drop_any (k : Nat) (g base : Nat) (L : Live) (w : World) (xs : List Pk) (hk : k < xs.length) (hlt : xs.length ≤ 64) (hL : LinkAt L w base g xs) (hok : LOk L w) (hbase : base ≤ w.heap.size) :
    Calls Try.prog 38 #[.pointer (some ⟨g, 0, none⟩), .int .i64 k] w fun e w' => e = .returned (.int .i64 0) ∧ LinkAt L w' base g (xs.take k ++ xs.drop (k + 1)) ∧ LStep L base w w' := by
  have HL := Lib.hid hL; clear hL
  have Hok := Lib.hid hok; clear hok
  go_enter Try.func38, Try.ntmps38
  go_wp2_with fail
  refine (take_any k g base L w xs hk hlt HL.out Hok.out hbase).mono ?_
  rintro e w1 ⟨v, rfl, h1, h2, h3⟩
  obtain ⟨A, c, rfl, _, _⟩ := h1.form
  have H2 := Lib.hid h2; have H3 := Lib.hid h3; clear h1 h2 h3
  go_wp2
  go_ret
  exact ⟨rfl, H2.out.kept ((Below.refl _ _).alloc (Nat.le_refl _) _) (fun _ _ => rfl), H3.out.trans (LStep.of_below (H3.out.ok Hok.out) (Nat.le_trans hbase H3.out.below.size) ((Below.refl _ _).alloc (Nat.le_refl _) _))⟩
end Go.Proofs.Ytigogjbngphadaa
