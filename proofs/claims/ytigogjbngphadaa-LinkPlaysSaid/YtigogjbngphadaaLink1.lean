/- The link's own row, and what put does to it. No claim by itself. -/
import Derived.Test.YtigogjbngphadaaBase
import Derived.Deep.RegionLaw
import Derived.Lib.Hide
namespace Go.Proofs.Ytigogjbngphadaa
open Go.RowKit

/-- A packet that is under way. -/
abbrev Pk := Int × ByteArray
def ownR : Rp Pk where
  sz := 2
  R := fun _ _ x cs => cs = [.int .i64 x.1, .string x.2] ∧ x.2.size ≤ room
  len := fun h => by obtain ⟨rfl, _⟩ := h; rfl
  mono := fun _ h => h
  one := fun h u hu => by
    obtain ⟨rfl, _⟩ := h
    rcases List.mem_cons.1 hu with rfl | hu
    · rfl
    · simp at hu; subst hu; rfl

theorem ownR_any {L L' : Live} {w w' : World} {xs : List Pk} {cs : List Value} (h : Reps ownR L w xs cs) : Reps ownR L' w' xs cs := by
  induction h with
  | nil => exact .nil
  | cons h t ih => exact .cons h ih

def Bot : Live := fun _ _ => False
theorem bot_ok (w : World) : LOk Bot w := fun _ _ h => h.elim

/-- The row of a link. -/
def LRow (w : World) (base : Nat) (v : Value) (xs : List Pk) : Prop := ∃ cells, Blk w base 66 2 v xs.length cells ∧ Reps ownR Bot w xs cells ∧ xs.length ≤ big

theorem LRow.kept {w w' : World} {base : Nat} {v : Value} {xs : List Pk} (h : LRow w base v xs) (hk : ∀ k, v.ownBlock = some k → w'.heap[k]? = w.heap[k]?) : LRow w' base v xs := by
  obtain ⟨cells, h1, h2, h3⟩ := h
  exact ⟨cells, h1.kept hk, ownR_any h2, h3⟩
theorem LRow.list {w : World} {base : Nat} {v : Value} {xs : List Pk} (h : LRow w base v xs) : ∃ L, LOk L w ∧ Tip L w base 66 2 v xs.length ∧ SliceR ownR L w xs v := by
  obtain ⟨cells, h1, h2, h3⟩ := h
  obtain ⟨L', e1, e2, _, e4, _⟩ := Blk.publish (d := ownR) (L := Bot) h1 (bot_ok w) h2 rfl h3 (fun _ _ _ h => h)
  exact ⟨L', e4, e2, e1⟩
theorem LRow.of_list {L : Live} {w : World} {base : Nat} {v : Value} {xs : List Pk} (hT : Tip L w base 66 2 v xs.length) (hS : SliceR ownR L w xs v) : LRow w base v xs := by
  obtain ⟨cells, h1, h2⟩ := SliceR.blk (d := ownR) hS hT rfl
  obtain ⟨_, _, _, _, h3, _⟩ := hS.form
  exact ⟨cells, h1, ownR_any h2, h3⟩
theorem LRow.lt {w : World} {base : Nat} {v : Value} {xs : List Pk} (h : LRow w base v xs) : ∀ k, v.ownBlock = some k → base ≤ k ∧ k < w.heap.size := by obtain ⟨_, h1, _⟩ := h; exact h1.lt
theorem LRow.ne {w : World} {base : Nat} {v : Value} {xs : List Pk} (h : LRow w base v xs) {g t : Nat} {cs : Array Value} {fr : Nat × Nat} (hg : w.heap[g]? = some (.cells cs t fr)) (ht : t ≠ 66) : ∀ k, v.ownBlock = some k → k ≠ g := by
  intro k hk e
  subst e
  obtain ⟨_, h1, _⟩ := h
  obtain ⟨cur, fr, hc⟩ := h1.type k hk
  rw [hg] at hc; simp at hc; exact ht hc.2.1

theorem LRow.row {w : World} {base : Nat} {v : Value} {xs : List Pk} (h : LRow w base v xs) (k : Nat) (hk : k < xs.length) : ∃ r cap cur fr, v = .slice (some ⟨r, 0, none⟩) xs.length cap ∧ base ≤ r ∧ w.heap[r]? = some (.cells cur 66 fr) ∧ Free cur fr ∧ xs.length ≤ cap ∧ cap ≤ 9223372036854775807 ∧ cap * 2 ≤ cur.size ∧
    w.cell? ⟨r, k * 2, none⟩ = some (.int .i64 xs[k].1) ∧ w.cell? ⟨r, k * 2 + 1, none⟩ = some (.string xs[k].2) ∧ xs[k].2.size ≤ 140737488355328 := by
  obtain ⟨cells, h1, h2, h3⟩ := h
  obtain ⟨r, cap, cur, fr, e0, e1, e2, e3, e4, e5, e6, e7⟩ := h1.row (by omega)
  obtain ⟨cs, ⟨rfl, hz⟩, hg⟩ := h2.get k hk
  exact ⟨r, cap, cur, fr, e0, e1, e2, e3, e4, e5, e6, e7 _ _ (hg 0 _ rfl), e7 _ _ (hg 1 _ rfl), hz⟩
theorem ownR_set {L : Live} {w : World} {xs : List Pk} {cells : List Value} (h : Reps ownR L w xs cells) (s : ByteArray) (hs : s.size ≤ room) : ∀ (k : Nat) (hk : k < xs.length), Reps ownR L w (xs.set k (xs[k].1, s)) (cells.set (k * 2 + 1) (.string s)) := by
  induction h with
  | nil => intro k hk; simp at hk
  | @cons x cs xs r h t ih =>
    intro k hk
    obtain ⟨rfl, hz⟩ := h
    cases k with
    | zero => exact .cons (cs := [.int .i64 x.1, .string s]) ⟨rfl, hs⟩ t
    | succ k =>
      have := ih k (by simpa using hk)
      rw [show (k + 1) * 2 + 1 = k * 2 + 1 + 1 + 1 from by omega]
      exact .cons (cs := [.int .i64 x.1, .string x.2]) ⟨rfl, hz⟩ this
theorem LRow.set {w : World} {base r : Nat} {v : Value} {xs : List Pk} (h : LRow w base v xs) (hr : v.ownBlock = some r) (s : ByteArray) (hs : s.size ≤ room) (k : Nat) (hk : k < xs.length) : LRow (w.setCell ⟨r, k * 2 + 1, none⟩ (.string s)) base v (xs.set k (xs[k].1, s)) := by
  obtain ⟨cells, h1, h2, h3⟩ := h
  obtain ⟨g, hg, h4⟩ := h1.store (k * 2 + 1) (.string s) (by omega)
  rw [hr] at hg; injection hg with hg; subst hg
  exact ⟨_, by rw [List.length_set]; exact h4, ownR_any (ownR_set h2 s hs k hk), by rw [List.length_set]; exact h3⟩

/-- A link that holds these. -/
def LinkAt (L : Live) (w : World) (base g : Nat) (xs : List Pk) : Prop :=
  ∃ v, w.heap[g]? = some (.cells #[v] 63 (0, 0)) ∧ base ≤ g ∧ (∀ i, ¬ L g i) ∧ LRow w base v xs ∧ ∀ k, v.ownBlock = some k → ∀ i, ¬ L k i

/-- What a link's method may turn: the link's own blocks alone. -/
structure LStep (L : Live) (base : Nat) (w w' : World) : Prop where
  below : Below base w w'
  live : ∀ b i, L b i → ∀ u, w.cell? ⟨b, i, none⟩ = some u → w'.cell? ⟨b, i, none⟩ = some u
  others : ∀ (k : Nat) (cs : Array Value) (t : TypeId) (fr : Nat × Nat), w.heap[k]? = some (Obj.cells cs t fr) → t ≠ 63 → t ≠ 66 → w'.heap[k]? = w.heap[k]?

theorem Try.info66 : (Try.prog.info? 66).map (fun i => (i.zero, i.size, i.bytes)) = some (some (.agg #[.int .i64 0, .string ⟨#[]⟩]), 2, 24) := by kernel_rfl


theorem frozen_block {w : World} {g : Nat} {cs : Array Value} {e : Nat} (h : w.heap[g]? = some (.cells cs e (0, 0))) (j : Nat) : w.frozen? ⟨g, j, none⟩ = false := by simp [World.frozen?, h]

/-- A block of another type than the tip's stays, where the tip's row is turned or a new one made; two new blocks and a draw beside. -/
theorem other_block {w w1 : World} {o1 o2 : Obj} {g t base e size n : Nat} {cs : Array Value} {v : Value} {L : Live} (hg : w.heap[g]? = some (.cells cs t (0, 0))) (hlt : g < w.heap.size) (hT : Tip L w base e size v n) (hgr : ((w.alloc o1).alloc o2).drew.grownBy w1 v.ownBlock) (hne : t ≠ e) : w1.heap[g]? = some (.cells cs t (0, 0)) := by
  have h1 : ((w.alloc o1).alloc o2).drew.heap[g]? = some (.cells cs t (0, 0)) := by
    show (((w.alloc o1).alloc o2)).heap[g]? = _
    rw [Below.heap_alloc _ _ _ (by simp; omega), Below.heap_alloc _ _ _ hlt]; exact hg
  rw [hgr.block g (by simp; omega) ?_]
  · exact h1
  · intro e'
    rcases hT with ⟨rfl, _⟩ | ⟨g', cap, cur, fr, rfl, _, hh, _⟩
    · simp [Value.ownBlock] at e'
    · simp [Value.ownBlock] at e'; subst e'
      rw [hg] at hh; simp at hh; exact hne hh.2.1

theorem src_new2 (w : World) (o1 : Obj) (e size m c : Nat) (cs : List Value) (hs : cs.length = m * size) : Src ((w.alloc o1).alloc (.cells cs.toArray e)).drew (.slice (some ⟨w.heap.size + 1, 0, none⟩) m c) m size cs := by
  have := Src.new (w.alloc o1) e size m c cs hs
  simp only [World.size_alloc] at this
  exact this

/-- A stored cell, read again. -/
theorem heap_setCell_same {w : World} {g e j : Nat} {cs : Array Value} {fr : Nat × Nat} (h : w.heap[g]? = some (.cells cs e fr)) (u : Value) : (w.setCell ⟨g, j, none⟩ u).heap[g]? = some (.cells (cs.setIfInBounds j u) e fr) := by
  simp [World.setCell, Array.getElem?_modify, h]

theorem LStep.refl (L : Live) (base : Nat) (w : World) : LStep L base w w := ⟨Below.refl _ _, fun _ _ _ _ h => h, fun _ _ _ _ _ _ _ => rfl⟩
theorem LStep.trans {L : Live} {base : Nat} {w w1 w2 : World} (h : LStep L base w w1) (k : LStep L base w1 w2) : LStep L base w w2 :=
  ⟨h.below.trans k.below, fun b i hb u hu => k.live b i hb u (h.live b i hb u hu), fun k' cs t fr hk h1 h2 => by
    have := h.others k' cs t fr hk h1 h2
    exact (k.others k' cs t fr (this.trans hk) h1 h2).trans this⟩
theorem LStep.of_below {L : Live} {base : Nat} {w w1 : World} (hok : LOk L w) (hbase : base ≤ w.heap.size) (h : Below w.heap.size w w1) : LStep L base w w1 :=
  ⟨h.mono hbase, fun b i hb _ hu => (h.cell (p := ⟨b, i, none⟩) (hok b i hb)).trans hu, fun k _ _ _ hk _ _ => h.block k (Array.getElem?_eq_some_iff.1 hk).1⟩
theorem LStep.ok {L : Live} {base : Nat} {w w1 : World} (h : LStep L base w w1) (hok : LOk L w) : LOk L w1 := fun b i hb => Nat.lt_of_lt_of_le (hok b i hb) h.below.size
theorem LStep.sub {L : Live} {base : Nat} {w w1 : World} (h : LStep L base w w1) : Sub L w L w1 := fun b i hb => ⟨hb, h.live b i hb⟩
theorem LStep.ext {L0 L : Live} {base : Nat} {w0 w w1 : World} (h : LStep L base w w1) (k : Ext L0 w0 L w) (hb : w0.heap.size ≤ base) : Ext L0 w0 L w1 :=
  ⟨k.below.trans (h.below.mono hb), k.live, h.ok k.ok⟩

/-- A link that nobody touched. -/
theorem LinkAt.kept {L L' : Live} {w w' : World} {base g : Nat} {xs : List Pk} (h : LinkAt L w base g xs) (hb : Below w.heap.size w w') (hl : ∀ b, b < w.heap.size → L' b = L b) : LinkAt L' w' base g xs := by
  obtain ⟨v, h1, h2, h3, h4, h5⟩ := h
  have hlt := (Array.getElem?_eq_some_iff.1 h1).1
  exact ⟨v, by rw [hb.block g hlt]; exact h1, h2, by rw [hl g hlt]; exact h3, h4.kept fun k hk => hb.block k (h4.lt k hk).2, fun k hk => by rw [hl k (h4.lt k hk).2]; exact h5 k hk⟩
theorem LinkAt.ext {L L' : Live} {w w' : World} {base g : Nat} {xs : List Pk} (h : LinkAt L w base g xs) (k : Ext L w L' w') : LinkAt L' w' base g xs := h.kept k.below k.live

/-- What a store of the link's field leaves. -/
theorem link_end {L : Live} {w w1 : World} {base g : Nat} {v0 v1 : Value} {ys : List Pk} (hg : w.heap[g]? = some (.cells #[v0] 63 (0, 0))) (hbg : base ≤ g) (hLg : ∀ i, ¬ L g i) (hT : ∀ k, v0.ownBlock = some k → base ≤ k ∧ ∃ cur fr, w.heap[k]? = some (.cells cur 66 fr))
    (hLv : ∀ k, v0.ownBlock = some k → ∀ i, ¬ L k i) (hok : LOk L w) (hbase : base ≤ w.heap.size) (hrow : LRow w1 base v1 ys) (hr : v1.ownBlock = v0.ownBlock ∨ ∀ k, v1.ownBlock = some k → w.heap.size ≤ k)
    (hgr : w.grownBy w1 v0.ownBlock) : LinkAt L (w1.setCell ⟨g, 0, none⟩ v1) base g ys ∧ LStep L base w (w1.setCell ⟨g, 0, none⟩ v1) := by
  have hglt : g < w.heap.size := (Array.getElem?_eq_some_iff.1 hg).1
  have hgv : some g ≠ v0.ownBlock := fun e => by obtain ⟨_, cur, _, hc⟩ := hT g e.symm; rw [hg] at hc; simp at hc
  have hg1 : w1.heap[g]? = some (.cells #[v0] 63 (0, 0)) := (hgr.block g hglt hgv).trans hg
  have hne := hrow.ne hg1 (by decide)
  have hold : ∀ k, k < w.heap.size → some k ≠ v0.ownBlock → w1.heap[k]? = w.heap[k]? := fun k hk hn => hgr.block k hk hn
  have hbel : Below base w w1 := (Below.refl base w).grown hgr hbase (fun k hk => (hT k hk).1)
  refine ⟨⟨v1, by rw [heap_setCell_same hg1]; rfl, hbg, hLg, hrow.kept fun k hk => Below.heap_setCell _ _ _ _ (hne k hk), ?_⟩, ⟨hbel.setCell hbg _, ?_, ?_⟩⟩
  · intro k hk i hl
    rcases hr with hr | hr
    · rw [hr] at hk; exact hLv k hk i hl
    · have := hok k i hl; have := hr k hk; omega
  · intro b i hb u hu
    have hlt := hok b i hb
    have hbg' : b ≠ g := fun e => hLg i (e ▸ hb)
    have hbv : some b ≠ v0.ownBlock := fun e => hLv b e.symm i hb
    exact ((World.cell?_of_block (a := ⟨b, i, none⟩) (Below.heap_setCell w1 ⟨g, 0, none⟩ v1 b hbg')).trans (World.cell?_of_block (a := ⟨b, i, none⟩) (hold b hlt hbv))).trans hu
  · intro k cs t fr hk h63 h66
    have hlt := (Array.getElem?_eq_some_iff.1 hk).1
    rw [Below.heap_setCell _ _ _ _ (fun e => by subst e; rw [hg] at hk; simp at hk; exact h63 hk.2.1.symm)]
    refine hold k hlt fun e => ?_
    obtain ⟨_, cur, _, hc⟩ := hT k e.symm
    rw [hk] at hc; simp at hc; exact h66 hc.2.1

theorem grown_pre {w w1 : World} {o1 o2 : Obj} {row : Option Nat} (h : ((w.alloc o1).alloc o2).drew.grownBy w1 row) : w.grownBy w1 row :=
  ⟨h.os, h.tape, h.output, Nat.le_trans (by simp; omega) h.size, fun k hk hn => by
    rw [h.block k (by simp; omega) hn]
    show (((w.alloc o1).alloc o2)).heap[k]? = _
    rw [Below.heap_alloc _ _ _ (by simp; omega), Below.heap_alloc _ _ _ hk]⟩

set_option maxHeartbeats 400000 in
theorem put_any (to : Int) (b : ByteArray) (hb : b.size ≤ room) (L : Live) (w : World) (base g : Nat) (xs : List Pk) (hlt : xs.length < 64) (hL : LinkAt L w base g xs) (hok : LOk L w) (hbase : base ≤ w.heap.size) :
    Calls Try.prog 26 #[.pointer (some ⟨g, 0, none⟩), .agg #[.int .i64 to, .string b]] w fun e w' => e = .returned (.int .i64 0) ∧ LinkAt L w' base g (xs ++ [(to, b)]) ∧ LStep L base w w' := by
  obtain ⟨v, hg, hbg, hLg, hrow, hLv⟩ := hL
  have hTt : ∀ k, v.ownBlock = some k → base ≤ k ∧ ∃ cur fr, w.heap[k]? = some (.cells cur 66 fr) := fun k hk => ⟨(hrow.lt k hk).1, by obtain ⟨_, h1, _⟩ := hrow; exact h1.type k hk⟩
  obtain ⟨L1, hok1, hT, hS⟩ := hrow.list
  clear hrow
  obtain ⟨A, c, rfl, hnc, hn1, hn2⟩ := hS.form
  have hcell := cell_block hg 0
  simp at hcell
  have hfr : w.frozen? ⟨g, 0, none⟩ = false := by simp [World.frozen?, hg]
  have h64 : ((xs.length : Int) < 64) := by omega
  have hlen : decide (64 ≤ (xs.length : Int)) = false := by simp; omega
  have hglt : g < w.heap.size := (Array.getElem?_eq_some_iff.1 hg).1
  have Hg := Lib.hid hg; clear hg
  have HT := Lib.hid hT; clear hT
  have HTt := Lib.hid hTt; clear hTt
  have HS := Lib.hid hS; clear hS
  have HLv := Lib.hid hLv; clear hLv
  have HLg := Lib.hid hLg; clear hLg
  have Hok := Lib.hid hok; clear hok
  have Hok1 := Lib.hid hok1; clear hok1
  have Hb := Lib.hid hb; clear hb
  go_enter Try.func26, Try.ntmps26
  go_wp2
  go_region_law (refine step_app ownR rfl (.tmp 15) (.tmp 17) 61 66 rfl base _ 2 24 Try.underlying61 Try.info66 rfl rfl (by decide) _ (.slice A xs.length c) rfl _ rfl (LOk.drew (LOk.alloc (LOk.alloc Hok1.out _) _)) xs (HS.out.mono (((Ext.refl Hok1.out).alloc _ |>.alloc _ |>.drew).sub Hok1.out)) (HT.out.ext ((Ext.refl Hok1.out).alloc _ |>.alloc _ |>.drew)) [(to, b)] [.int .i64 to, .string b] (src_new2 w _ 66 2 1 1 [_, _] rfl) (.single ⟨rfl, Hb.out⟩) (by simp; omega) (by simp; omega) ?_; intro v1 w1 L2 all hS2 hT2 hA2; obtain ⟨A1, c1, hv1, hn3, hn4, hn5⟩ := hS2.form; simp only [List.length_append, List.length_singleton] at hv1; subst hv1; have hg1 := Lib.hid (other_block Hg.out (t := 63) (by omega) HT.out hA2.grown (by decide)); have hcell1 := (cell_block hg1.out 0); simp at hcell1; have hfr1 := frozen_block hg1.out 0; have HS2 := Lib.hid hS2; have HT2 := Lib.hid hT2; have HA2 := Lib.hid hA2; clear hS2 hT2 hA2)
  all_goals
    go_wp2
    go_ret
    exact ⟨rfl, link_end Hg.out hbg HLg.out HTt.out HLv.out Hok.out hbase (LRow.of_list HT2.out HS2.out) (HA2.out.row.imp id (fun e k hk => by rw [e] at hk; simp at hk; omega)) (grown_pre HA2.out.grown)⟩

theorem ret_bool {a b : Bool} (h : a = b) : Ending.returned (.bool a) = .returned (.bool b) := by rw [h]
theorem ret_int {k : IntKind} {a b : Int} (h : a = b) : Ending.returned (.int k a) = .returned (.int k b) := by rw [h]

/-- At 64 there is no room. -/
theorem put_full (to : Int) (b : ByteArray) (L : Live) (w : World) (base g : Nat) (xs : List Pk) (hlt : 64 ≤ xs.length) (hL : LinkAt L w base g xs) (hok : LOk L w) :
    Calls Try.prog 26 #[.pointer (some ⟨g, 0, none⟩), .agg #[.int .i64 to, .string b]] w fun e w' => e = .returned (.int .i64 5) ∧ Ext L w L w' := by
  obtain ⟨v, hg, _, _, hrow, _⟩ := hL
  obtain ⟨_, _, _, hS⟩ := hrow.list
  obtain ⟨A, c, rfl, hnc, hn1, hn2⟩ := hS.form
  have hcell := cell_block hg 0
  simp at hcell
  have h64 : (64 ≤ (xs.length : Int)) := by omega
  have hlen : decide (64 ≤ (xs.length : Int)) = true := by simp; omega
  have hglt : g < w.heap.size := (Array.getElem?_eq_some_iff.1 hg).1
  clear hg hS hrow
  have Hok := Lib.hid hok; clear hok
  go_enter Try.func26, Try.ntmps26
  go_wp2
  go_ret
  exact ⟨rfl, (Ext.refl Hok.out).alloc _⟩

theorem new_any (L : Live) (w : World) (hok : LOk L w) :
    Calls Try.prog 8 #[] w fun e w' => ∃ g, e = .returned (.pointer (some ⟨g, 0, none⟩)) ∧ LinkAt L w' w.heap.size g [] ∧ Ext L w L w' := by
  have Hok := Lib.hid hok; clear hok
  go_enter Try.func8, Try.ntmps8
  go_wp2
  go_ret
  refine ⟨_, rfl, ⟨.slice none 0 0, heap_alloc_new _ _, Nat.le_refl _, fun i h => by have := Hok.out _ i h; omega, ⟨[], ⟨rfl, .inl ⟨rfl, rfl⟩⟩, .nil, Nat.zero_le _⟩, fun k hk => by simp [Value.ownBlock] at hk⟩, (Ext.refl Hok.out).alloc _⟩

theorem len_any (L : Live) (w : World) (base g : Nat) (xs : List Pk) (hL : LinkAt L w base g xs) :
    Calls Try.prog 21 #[.pointer (some ⟨g, 0, none⟩)] w fun e w' => e = .returned (.int .i64 xs.length) ∧ w = w' := by
  obtain ⟨v, hg, _, _, hrow, _⟩ := hL
  obtain ⟨_, _, _, hS⟩ := hrow.list
  obtain ⟨A, c, rfl, hnc, hn1, hn2⟩ := hS.form
  have hcell := cell_block hg 0
  simp at hcell
  clear hg hS hrow
  go_enter Try.func21, Try.ntmps21
  go_wp2
  go_ret
  exact ⟨rfl, rfl⟩

/-- Is there a packet of this number? -/
def inB (n : Nat) (k : Int) : Bool := decide (0 ≤ k) && decide (k < n)

theorem in_any (k : Int) (L : Live) (w : World) (base g : Nat) (xs : List Pk) (hL : LinkAt L w base g xs) :
    Calls Try.prog 27 #[.pointer (some ⟨g, 0, none⟩), .int .i64 k] w fun e w' => e = .returned (.bool (inB xs.length k)) ∧ w = w' := by
  obtain ⟨v, hg, _, _, hrow, _⟩ := hL
  obtain ⟨_, _, _, hS⟩ := hrow.list
  obtain ⟨A, c, rfl, hnc, hn1, hn2⟩ := hS.form
  have hcell := cell_block hg 0
  simp at hcell
  clear hg hS hrow
  by_cases h0 : 0 ≤ k
  · have hd : decide (0 ≤ k) = true := by simpa using h0
    go_enter Try.func27, Try.ntmps27
    go_wp2
    go_ret
    exact ⟨by simp [inB, h0], rfl⟩
  · have hd : decide (0 ≤ k) = false := by simpa using h0
    go_enter Try.func27, Try.ntmps27
    go_wp2
    go_ret
    exact ⟨ret_bool (by simp [inB]; omega), rfl⟩
end Go.Proofs.Ytigogjbngphadaa
