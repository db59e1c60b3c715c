/- Walks of what the link's statements call, the third part: Turn. No claim by itself. -/
import Derived.Test.YtigogjbngphadaaLink3
import Derived.WalkSpells
import Derived.RegionTactic
import Derived.Laws.BitsAllLaws
namespace Go.Proofs.Ytigogjbngphadaa
open Go.RowKit

set_option maxHeartbeats 400000 in
theorem clone_any (xs : List UInt8) (a : Addr) (n c : Nat) (L : Live) (w : World) (hS : SliceR Rp.byte L w xs (.slice (some a) n c)) (hnr : xs.length ≤ 140737488355328) :
    Calls Try.prog 28 #[.slice (some a) n c] w fun e w' => ∃ v', e = .returned v' ∧ Blk w' w.heap.size 5 1 v' xs.length (bytesV xs) ∧ Below w.heap.size w w' := by
  obtain ⟨A, c', he, hnc, hn1, hn2⟩ := hS.form
  injection he with e1 e2 e3
  subst e1 e2 e3
  obtain ⟨cells, hsrc, hrep⟩ := hS.src
  obtain rfl := bytes_cells hrep
  have HS := Lib.hid hsrc; clear hS hsrc hrep
  have kn := Lib.run_eql_slice_nil (P := Try.prog) w 22 5 (some a) xs.length c 0 0 Try.underlying22
  go_enter Try.func28, Try.ntmps28
  go_wp2_with (at_builtin; go_loud (refine wpList_appB rfl (.tmp 5) (.tmp 6) 22 5 rfl w.heap.size _ 1 1 Try.underlying22 Try.info5 rfl (by decide) _ _ rfl _ rfl 0 [] ?c1 xs.length (bytesV xs) ?c2 ?c3 ?c4 ?c5 ?_))
  case c1 => exact ⟨rfl, .inr ⟨w.heap.size, 0, #[], _, rfl, Nat.le_refl _, heap_alloc_new w _, .inl rfl, Nat.le_refl _, Nat.zero_le _, by simp, rfl⟩⟩
  case c2 => exact HS.out.keep fun a u hu => ((Below.refl _ w).alloc (Nat.le_refl _) _ |>.cell (World.block_lt_of_cell? w _ hu)).trans hu
  case c3 => exact (bytes_reps L w xs).one
  case c4 => omega
  case c5 => simp
  intro v1 w1 h1 h2 _
  have H1 := Lib.hid h1
  have H2 := Lib.hid h2
  clear h1 h2
  go_wp2
  go_ret
  exact ⟨_, rfl, H1.out, ((Below.refl _ w).alloc (Nat.le_refl _) _).grown H2.out (by simp) (fun k hk => by simp [Value.ownBlock] at hk; omega)⟩

theorem turn_none (k place : Int) (y : UInt8) (g base : Nat) (L : Live) (w : World) (xs : List Pk) (hk : ¬ (0 ≤ k ∧ k < xs.length)) (hL : LinkAt L w base g xs) :
    Calls Try.prog 13 #[.pointer (some ⟨g, 0, none⟩), .int .i64 k, .int .i64 place, .int .u8 y.toNat] w fun e w' => e = .returned (.int .i64 4) ∧ w = w' := by
  have hb := inB_false hk
  have HL := Lib.hid hL; clear hL
  go_enter Try.func13, Try.ntmps13
  go_wp2_with (go_at_call 27; refine (in_any k L w base g xs HL.out).mono ?_; rintro e w' ⟨rfl, rfl⟩)
  go_ret
  exact ⟨rfl, rfl⟩

set_option maxHeartbeats 400000 in
theorem turn_range (k : Nat) (place : Int) (y : UInt8) (g base : Nat) (L : Live) (w : World) (xs : List Pk) (hk : k < xs.length) (hp : ¬ (0 ≤ place ∧ place < xs[k].2.size)) (hL : LinkAt L w base g xs) :
    Calls Try.prog 13 #[.pointer (some ⟨g, 0, none⟩), .int .i64 k, .int .i64 place, .int .u8 y.toNat] w fun e w' => e = .returned (.int .i64 3) ∧ w = w' := by
  have hb := inB_true hk
  have hL' := hL
  obtain ⟨v, hg, _, _, hrow, _⟩ := hL'
  obtain ⟨_, _, _, hS⟩ := hrow.list
  obtain ⟨A, c, rfl, hnc, hn1, hn2⟩ := hS.form
  have hcell := cell_block hg 0
  simp at hcell
  obtain ⟨b, off, cs, rfl, ⟨rfl, hz⟩, hcc⟩ := hS.get (by decide) k hk
  have c1 : w.cell? ⟨b, off + k * 2 + 1, none⟩ = some (.string xs[k].2) := (hcc 1 _ rfl).1
  clear hcc hS hrow hg
  have HL := Lib.hid hL; clear hL
  have hz' : xs[k].2.size ≤ 140737488355328 := hz
  clear hz
  by_cases h0 : place < 0
  · have hd : decide (place < 0) = true := by simpa using h0
    clear hp
    go_enter Try.func13, Try.ntmps13
    go_wp2_with (go_at_call 27; refine (in_any k L w base g xs HL.out).mono ?_; rintro e w' ⟨rfl, rfl⟩)
    go_ret
    exact ⟨rfl, rfl⟩
  · have hd : decide (place < 0) = false := by simpa using h0
    have hge : (xs[k].2.size : Int) ≤ place := by omega
    have hd2 : decide ((xs[k].2.size : Int) ≤ place) = true := by simpa using hge
    clear hp
    go_enter Try.func13, Try.ntmps13
    go_wp2_with (go_at_call 27; refine (in_any k L w base g xs HL.out).mono ?_; rintro e w' ⟨rfl, rfl⟩)
    go_ret
    exact ⟨rfl, rfl⟩

theorem xor_u8 (a b : UInt8) : bits .xor .u8 (a.toNat : Int) (b.toNat : Int) = ((a ^^^ b).toNat : Int) := by
  rw [u8_xor_nat _ _ a.toNat_lt b.toNat_lt]; simp

/-- A packet one of whose bytes is turned. -/
def turnP (x : Pk) (place : Nat) (y : UInt8) : Pk := (x.1, mkS (x.2.data.toList.set place (x.2.data.toList.getD place 0 ^^^ y)))

theorem turn_end {L : Live} {w w3 : World} {base g b c : Nat} {xs : List Pk} {q : List UInt8} {p : Pk} (hg : w.heap[g]? = some (.cells #[.slice (some ⟨b, 0, none⟩) xs.length c] 63 (0, 0))) (hbg : base ≤ g) (hLg : ∀ i, ¬ L g i) (hrow : LRow w base (.slice (some ⟨b, 0, none⟩) xs.length c) xs)
    (hLv : ∀ k, (Value.slice (some ⟨b, 0, none⟩) xs.length c).ownBlock = some k → ∀ i, ¬ L k i) (hok : LOk L w) (hbase : base ≤ w.heap.size) (hB : Below w.heap.size w w3) (hz : q.length ≤ room) (k : Nat) (hk : k < xs.length) (hp : p = (xs[k].1, mkS q)) :
    LinkAt L (w3.setCell ⟨b, k * 2 + 1, none⟩ (.string (mkS q))).drew base g (xs.set k p) ∧ LStep L base w (w3.setCell ⟨b, k * 2 + 1, none⟩ (.string (mkS q))).drew := by
  subst hp
  show LinkAt L (w3.drew.setCell ⟨b, k * 2 + 1, none⟩ (.string (mkS q))) base g _ ∧ LStep L base w (w3.drew.setCell ⟨b, k * 2 + 1, none⟩ (.string (mkS q)))
  have hgl : g < w.heap.size := (Array.getElem?_eq_some_iff.1 hg).1
  obtain ⟨hbb, hbl⟩ := hrow.lt b rfl
  have hne : b ≠ g := hrow.ne hg (by decide) b rfl
  have hB' : Below w.heap.size w w3.drew := hB.drew
  have hrow3 : LRow w3.drew base (.slice (some ⟨b, 0, none⟩) xs.length c) xs := hrow.kept fun k' hk' => hB'.block k' (hrow.lt k' hk').2
  have hLb : ∀ i, ¬ L b i := hLv b rfl
  refine ⟨⟨_, ?_, hbg, hLg, hrow3.set rfl (mkS q) hz k hk, hLv⟩, ⟨(hB'.mono hbase).setCell hbb _, ?_, ?_⟩⟩
  · rw [Below.heap_setCell _ _ _ _ (Ne.symm hne), hB'.block g hgl]; exact hg
  · intro b' i hb' u hu
    have hlt := hok b' i hb'
    have hbb' : b' ≠ b := fun e => hLb i (e ▸ hb')
    exact ((World.cell?_of_block (a := ⟨b', i, none⟩) (Below.heap_setCell w3.drew ⟨b, k * 2 + 1, none⟩ _ b' hbb')).trans (hB'.cell (p := ⟨b', i, none⟩) hlt)).trans hu
  · intro k' cs t fr hk' h63 h66
    have hlt := (Array.getElem?_eq_some_iff.1 hk').1
    have hkb : k' ≠ b := by
      intro e; subst e
      obtain ⟨_, h1, _⟩ := hrow
      obtain ⟨cur, fr', hc⟩ := h1.type k' rfl
      rw [hk'] at hc; simp at hc; exact h66 hc.2.1
    rw [Below.heap_setCell _ _ _ _ hkb]
    exact hB'.block k' hlt

set_option maxHeartbeats 800000 in
theorem turn_any (k place : Nat) (y : UInt8) (g base : Nat) (L : Live) (w : World) (xs : List Pk) (hk : k < xs.length) (hp : place < xs[k].2.size) (hL : LinkAt L w base g xs) (hok : LOk L w) (hbase : base ≤ w.heap.size) :
    Calls Try.prog 13 #[.pointer (some ⟨g, 0, none⟩), .int .i64 k, .int .i64 place, .int .u8 y.toNat] w fun e w' => e = .returned (.int .i64 0) ∧ LinkAt L w' base g (xs.set k (turnP xs[k] place y)) ∧ LStep L base w w' := by
  have hb := inB_true hk
  have hL' := hL
  obtain ⟨v, hg, hbg, hLg, hrow, hLv⟩ := hL'
  obtain ⟨b, c, cur, fr, rfl, hbb, hbh, hbf, hnc, hn2, hsz, c0, c1, hz'⟩ := hrow.row k hk
  have hcell := cell_block hg 0
  simp at hcell
  have hd : decide ((place : Int) < 0) = false := by simp
  have hd2 : decide ((xs[k].2.size : Int) ≤ (place : Int)) = false := by simp; omega
  have hgl : g < w.heap.size := (Array.getElem?_eq_some_iff.1 hg).1
  have hbl : b < w.heap.size := (Array.getElem?_eq_some_iff.1 hbh).1
  have f1 : w.frozen? ⟨b, k * 2 + 1, none⟩ = false := frozen_free hbh hbf (by omega)
  have Hg := Lib.hid hg; clear hg
  have Hbh := Lib.hid hbh; clear hbh hbf hsz
  have Hrow := Lib.hid hrow; clear hrow
  have HLv := Lib.hid hLv; clear hLv
  have HLg := Lib.hid hLg; clear hLg
  have HL := Lib.hid hL; clear hL
  have Hok := Lib.hid hok; clear hok
  go_enter Try.func13, Try.ntmps13
  go_wp2_with fail
  refine (in_any k L w base g xs HL.out).mono ?_; rintro e w' ⟨rfl, rfl⟩
  go_wp2_with (refine wpList_bytes (o := ⟨some 39, _, _, _, _, _⟩) rfl (.tmp 38) 9 22 5 rfl Try.underlying9 Try.underlying22 Try.underlying5 _ w.heap.size w.heap.size rfl xs[k].2 rfl (Nat.le_refl _) hz' ?_; intro c2 w1 hblk hbel hsz; have HB := Lib.hid hblk; have HX := Lib.hid hbel; clear hblk hbel)
  refine (clone_any xs[k].2.data.toList _ _ _ (fun _ _ => True) _ (HB.out.reads (bytes_reps _ _ _) rfl (Nat.le_trans hz' (by decide)) (fun _ _ _ _ => trivial)) hz').mono ?_; rintro e w2 ⟨v2, rfl, h1, h2⟩
  have hlen : xs[k].2.data.toList.length = xs[k].2.size := rfl
  obtain ⟨g2, cap2, cur2, fr2, rfl, hg2, hh2, hf2, hc21, hc22, hc23, hc24⟩ := h1.row (by omega)
  have hcc := hc24 place _ (bytesV_getD _ place (by omega))
  obtain ⟨z, hz⟩ : ∃ z : UInt8, z = xs[k].2.data.toList.getD place 0 := ⟨_, rfl⟩
  rw [← hz] at hcc
  have kx0 := xor_u8 z y
  obtain ⟨q, hq⟩ : ∃ q : UInt8, q = z ^^^ y := ⟨_, rfl⟩
  have kx : bits .xor .u8 (z.toNat : Int) (y.toNat : Int) = (q.toNat : Int) := by rw [hq]; exact kx0
  clear kx0
  have Hq := Lib.hid hq; clear hq
  have hff : w2.frozen? ⟨g2, place, none⟩ = false := frozen_free hh2 hf2 (by omega)
  have h1' := h1.lower (base' := w.heap.size) (by omega)
  have H1 := Lib.hid h1'
  have H2 := Lib.hid (HX.out.trans (h2.mono (by omega)))
  have hg2' : w.heap.size ≤ g2 := by omega
  have Hz := Lib.hid hz
  clear h1 h2 hf2 hc24 hh2 hc23 hg2 HB HX hz h1'
  clear hsz hlen
  go_wp2
  obtain ⟨w3, hw3⟩ : ∃ w3, w3 = w2.setCell ⟨g2, place, none⟩ (.int .u8 (q.toNat : Int)) := ⟨_, rfl⟩
  rw [← hw3]
  have hB3 : Below w.heap.size w w3 := by rw [hw3]; exact H2.out.setCell hg2' _
  have hK3 : Blk w3 w.heap.size 5 1 (.slice (some ⟨g2, 0, none⟩) xs[k].2.size cap2) xs[k].2.size (bytesV (xs[k].2.data.toList.set place q)) := by
    obtain ⟨g', hg', hs⟩ := H1.out.store place (.int .u8 (q.toNat : Int)) (by have : xs[k].2.data.toList.length = xs[k].2.size := rfl; omega)
    simp [Value.ownBlock] at hg'
    subst hg'
    rw [hw3, ← bytesV_set]; exact hs
  clear hw3 hcc hff kx
  have hR3 : SliceR Rp.byte (fun _ _ => True) w3.drew (xs[k].2.data.toList.set place q) (.slice (some ⟨g2, 0, none⟩) xs[k].2.size cap2) := by
    refine SliceR.mono (L := fun _ _ => True) (w := w3) (w' := w3.drew) (fun _ _ _ => ⟨trivial, fun _ h => h⟩) (Blk.reads (d := Rp.byte) hK3 (bytes_reps _ _ _) (List.length_set ..) (Nat.le_trans hz' (by decide)) (fun _ _ _ _ => trivial))
  have kc := SliceR.toStr (P := Try.prog) hR3 22 5 9 Try.underlying22 Try.underlying5 Try.underlying9
  replace hcell := (hB3.cell (p := ⟨g, 0, none⟩) hgl).trans hcell
  replace c1 := (hB3.cell (p := ⟨b, k * 2 + 1, none⟩) hbl).trans c1
  replace f1 := (hB3.frozen (p := ⟨b, k * 2 + 1, none⟩) hbl).trans f1
  have HB3 := Lib.hid hB3
  clear hR3 hK3 H1 H2 hB3 c0
  go_region
  go_wp2
  go_ret
  exact ⟨rfl, turn_end (q := xs[k].2.data.toList.set place q) Hg.out hbg HLg.out Hrow.out HLv.out Hok.out hbase HB3.out (by rw [List.length_set]; exact hz') k hk (by rw [turnP, ← Hz.out, ← Hq.out])⟩
end Go.Proofs.Ytigogjbngphadaa
