/- LinkTurns: one that is copied is changed without the other one; a change made twice is none. -/
import Derived.Test.YtigogjbngphadaaLink5
import Derived.StillTailTactics
namespace Go.Proofs.Ytigogjbngphadaa
open Go.RowKit

theorem Blk.lstep {L : Live} {base base' e size n : Nat} {w w' : World} {v : Value} {cells : List Value} (h : Blk w base e size v n cells) (hs : LStep L base' w w') (h1 : e ≠ 63) (h2 : e ≠ 66) : Blk w' base e size v n cells :=
  h.kept fun k hk => by
    obtain ⟨cur, fr, hc⟩ := h.type k hk
    exact hs.others k cur e fr hc h1 h2

theorem turnP_twice (t : Int) (l : List UInt8) (k : Nat) (y : UInt8) (hk : k < l.length) : turnP (turnP (t, mkS l) k y) k y = (t, mkS l) := by
  have : (l.set k (l.getD k 0 ^^^ y)).set k ((l.set k (l.getD k 0 ^^^ y)).getD k 0 ^^^ y) = l := by
    rw [List.set_set]
    have e : (l.set k (l.getD k 0 ^^^ y)).getD k 0 = l.getD k 0 ^^^ y := by simp [List.getD, hk]
    rw [e, UInt8.xor_assoc, UInt8.xor_self, UInt8.xor_zero]
    simp [List.getD, hk]
  simp only [turnP, mkS_data]
  exact congrArg (fun x => (t, mkS x)) this
theorem turnP_zero (t : Int) (l : List UInt8) (k : Nat) (hk : k < l.length) : turnP (t, mkS l) k 0 = (t, mkS l) := by
  simp only [turnP, mkS_data, UInt8.xor_zero]
  have : l.set k (l.getD k 0) = l := by simp [List.getD, hk]
  rw [this]

theorem LinkAt.other {L : Live} {w w' : World} {base g : Nat} {xs : List Pk} {row : Option Nat} (h : LinkAt L w base g xs) (hg : w.grownBy w' row) (hr : ∀ k, row = some k → ∃ cur t fr, w.heap[k]? = some (.cells cur t fr) ∧ t ≠ 63 ∧ t ≠ 66) : LinkAt L w' base g xs := by
  obtain ⟨v, h1, h2, h3, h4, h5⟩ := h
  refine ⟨v, ?_, h2, h3, h4.kept fun k hk => hg.block k (h4.lt k hk).2 fun e => ?_, h5⟩
  · rw [hg.block g (Array.getElem?_eq_some_iff.1 h1).1 fun e => ?_]
    · exact h1
    · obtain ⟨cur, t, fr, hc, h63, _⟩ := hr g e.symm
      rw [h1] at hc; simp at hc; exact h63 hc.2.1.symm
  · obtain ⟨cur, t, fr, hc, _, h66⟩ := hr k e.symm
    obtain ⟨_, hb, _⟩ := h4
    obtain ⟨cur', fr', hc'⟩ := hb.type k hk
    rw [hc'] at hc; simp at hc; exact h66 hc.2.1.symm
theorem grown_pre1 {w w1 : World} {o1 : Obj} {row : Option Nat} (h : (w.alloc o1).grownBy w1 row) : w.grownBy w1 row :=
  ⟨h.os, h.tape, h.output, Nat.le_trans (by simp) h.size, fun k hk hn => by rw [h.block k (by simp; omega) hn, Below.heap_alloc _ _ _ hk]⟩
theorem Ext.grown {L0 L : Live} {w0 w w' : World} {row : Option Nat} (h : Ext L0 w0 L w) (hg : w.grownBy w' row) (hr : ∀ k, row = some k → w0.heap.size ≤ k) : Ext L0 w0 L w' :=
  ⟨h.below.grown hg h.below.size hr, h.live, fun b i hb => Nat.lt_of_lt_of_le (h.ok b i hb) hg.size⟩
theorem Blk.list {w : World} {base e n : Nat} {v : Value} {xs : List UInt8} (h : Blk w base e 1 v n (bytesV xs)) (hn : xs.length = n) (hb : n ≤ 9223372036854775807) : SliceR Rp.byte (fun _ _ => True) w xs v := Blk.reads (d := Rp.byte) h (bytes_reps _ _ _) hn hb (fun _ _ _ _ => trivial)

theorem toStrN {P : Program} {L : Live} {w : World} {xs : List UInt8} {A : Option Addr} {n c : Nat} (m : Nat) (h : SliceR Rp.byte L w xs (.slice A n c)) (src e dst : TypeId) (hs : P.underlying src = some (.slice e)) (he : P.underlying e = some (.int .u8)) (hd : P.underlying dst = some .string) :
    (convert src dst (.slice A n c)).run P (w.drewN m) = .ok (.string (mkS xs)) (w.drewN m) :=
  SliceR.toStr (SliceR.mono (w := w) (L' := L) (w' := w.drewN m) (fun _ _ hb => ⟨hb, fun _ hu => hu⟩) h) src e dst hs he hd

theorem toStrD {P : Program} {L : Live} {w : World} {xs : List UInt8} {A : Option Addr} {n c : Nat} (h : SliceR Rp.byte L w xs (.slice A n c)) (src e dst : TypeId) (hs : P.underlying src = some (.slice e)) (he : P.underlying e = some (.int .u8)) (hd : P.underlying dst = some .string) :
    (convert src dst (.slice A n c)).run P w.drew = .ok (.string (mkS xs)) w.drew :=
  SliceR.toStr (SliceR.mono (w := w) (L' := L) (w' := w.drew) (fun _ _ hb => ⟨hb, fun _ hu => hu⟩) h) src e dst hs he hd
theorem below_drewN (w : World) (n : Nat) : Below w.heap.size w (w.drewN n) := ⟨rfl, rfl, rfl, Nat.le_refl _, fun _ _ => rfl⟩
theorem below_drew (w : World) : Below w.heap.size w w.drew := ⟨rfl, rfl, rfl, Nat.le_refl _, fun _ _ => rfl⟩

/-- A change by nothing. -/
theorem turn_id (place : Int) (g base : Nat) (L : Live) (w : World) (t : Int) (l : List UInt8) (x : Pk) (hL : LinkAt L w base g [(t, mkS l), x]) (hok : LOk L w) (hbase : base ≤ w.heap.size) :
    Calls Try.prog 13 #[.pointer (some ⟨g, 0, none⟩), .int .i64 0, .int .i64 place, .int .u8 0] w fun e w' => e = .returned (.int .i64 (if 0 ≤ place ∧ place < l.length then 0 else 3)) ∧ LinkAt L w' base g [(t, mkS l), x] ∧ LStep L base w w' := by
  by_cases h : 0 ≤ place ∧ place < l.length
  · obtain ⟨p, rfl⟩ := Int.eq_ofNat_of_zero_le h.1
    have hp : p < l.length := by omega
    rw [if_pos h]
    refine (turn_any 0 p 0 g base L w [(t, mkS l), x] (by simp) hp hL hok hbase).mono ?_
    rintro e w' ⟨rfl, h1, h2⟩
    refine ⟨rfl, ?_, h2⟩
    have e1 : [(t, mkS l), x].set 0 (turnP ([(t, mkS l), x][0]) p 0) = [(t, mkS l), x] := by
      show [turnP (t, mkS l) p 0, x] = _
      rw [turnP_zero t l p hp]
    rw [e1] at h1
    exact h1
  · rw [if_neg h]
    refine (turn_range 0 place 0 g base L w [(t, mkS l), x] (by simp) h hL).mono ?_
    rintro e w' ⟨rfl, rfl⟩
    exact ⟨rfl, hL, LStep.refl _ _ _⟩

set_option maxHeartbeats 4000000 in
theorem law_turns (bs : List UInt8) (v : Value) (place : Int) (y : UInt8) (Lb : Live) (w : World) (hS : SliceR Rp.byte Lb w bs v) (hp1 : -9223372036854775808 ≤ place) (hp2 : place ≤ 9223372036854775807) :
    Calls Try.prog 3 #[v, .int .i64 place, .int .u8 y.toNat] w fun e w' => e = .returned (.bool true) ∧ Below w.heap.size w w' := by
  have hok : LOk (fun b _ => b < w.heap.size) w := fun b i h => h
  obtain ⟨L, hL⟩ : ∃ L : Live, L = fun b _ => b < w.heap.size := ⟨_, rfl⟩
  rw [← hL] at hok
  clear hL
  obtain ⟨A, c, rfl, hnc, hn1, hn2⟩ := hS.form
  have HS := Lib.hid hS; clear hS
  have Hok := Lib.hid hok; clear hok
  go_enter Try.func3, Try.ntmps3
  go_wp2_with fail
  refine (new_any L w Hok.out).mono ?_; rintro e w1 ⟨g, rfl, hL1, hX1⟩
  have HL1 := Lib.hid hL1; have HX1 := Lib.hid hX1; clear hL1 hX1
  go_wp2_with fail
  refine (few_any bs _ 12 (fun _ _ => True) w1 (by decide) (by decide) (HS.out.mono (sub_any HX1.out.below))).mono ?_
  rintro e w2 ⟨v2, rfl, hB2, hX2⟩
  obtain ⟨l12, hl12⟩ : ∃ l : List UInt8, l = bs.take (Int.toNat 12) := ⟨_, rfl⟩
  have hlen12 : l12.length ≤ 12 := by rw [hl12, List.length_take]; omega
  rw [← hl12] at hB2
  clear hl12
  have HX2 := Lib.hid (HX1.out.trans (Ext.of_below HX1.out.ok hX2))
  have HL2 := Lib.hid (HL1.out.kept hX2 (fun _ _ => rfl))
  have HB2 := Lib.hid (hB2.lower HX1.out.below.size)
  clear hB2 hX2 HL1
  go_wp2_with (at_builtin; refine wpList_appB rfl (.tmp 20) (.tmp 21) 22 5 rfl w.heap.size _ 1 1 Try.underlying22 Try.info5 rfl (by decide) _ _ rfl _ rfl l12.length (bytesV l12) ?c1 1 (bytesV [5]) ?c2 ?c3 ?c4 ?c5 ?_)
  case c1 => exact HB2.out.below ((Below.refl _ w2).alloc (Nat.le_refl _) _)
  case c2 => exact Src.new w2 5 1 1 1 [_] rfl
  case c3 => exact (bytes_reps L w [5]).one
  case c4 => omega
  case c5 => have := HX2.out.below.size; simp; omega
  intro v3 w3 hB3 hg3 _
  obtain ⟨ow, how⟩ : ∃ ow : List UInt8, ow = l12 ++ [5] := ⟨_, rfl⟩
  have hol : ow.length = l12.length + 1 := by rw [how]; simp
  have hB3' : Blk w3 w.heap.size 5 1 v3 ow.length (bytesV ow) := by rw [hol, how, bytesV_append]; exact hB3
  have hol1 : 1 ≤ ow.length := by omega
  have hol2 : ow.length ≤ 13 := by omega
  have HB3 := Lib.hid hB3'
  have HL3 := Lib.hid (HL2.out.other (grown_pre1 hg3) (fun k hk => by
    obtain ⟨cur, fr, hc⟩ := HB2.out.type k hk
    exact ⟨cur, 5, fr, hc, by decide, by decide⟩))
  have HX3 := Lib.hid (HX2.out.grown (grown_pre1 hg3) (fun k hk => (HB2.out.lt k hk).1))
  obtain ⟨A3, c3, rfl, hc31, hc32⟩ := hB3'.form
  clear hB3 hB3' hg3 how hol HL2 HX2 HB2 hlen12 hn1 hn2 hnc
  go_wp2_with fail
  refine (around_any place _ w3 hp1 hp2 (by omega) (by omega)).mono ?_
  rintro e w3' ⟨rfl, rfl⟩
  have hkr := around_range place ow.length (by omega)
  obtain ⟨kk, hkk⟩ := Int.eq_ofNat_of_zero_le hkr.1
  rw [hkk] at hkr ⊢
  have hk : kk < ow.length := by omega
  have Hkk := Lib.hid hkk
  clear hkk hkr
  go_wp2_with fail
  refine (send_any 0 ow _ g w.heap.size L _ w3 [] (.inl rfl) (HB3.out.list rfl (by omega)) (by omega) (by decide) HL3.out HX3.out.ok HX3.out.below.size).mono ?_
  rintro e w4 ⟨rfl, hL4, hX4⟩
  have HB4 := Lib.hid (HB3.out.lstep hX4 (by decide) (by decide))
  have HX4 := Lib.hid (hX4.ext HX3.out (Nat.le_refl _))
  have HL4 := Lib.hid hL4
  clear hL4 hX4 HL3 HX3 HB3
  go_wp2_with fail
  refine (copy_any 0 g w.heap.size L w4 [(0, mkS ow)] (by simp) (by simp) HL4.out HX4.out.ok HX4.out.below.size).mono ?_
  rintro e w5 ⟨rfl, hL5, hX5⟩
  have HB5 := Lib.hid (HB4.out.lstep hX5 (by decide) (by decide))
  have HX5 := Lib.hid (hX5.ext HX4.out (Nat.le_refl _))
  have HL5 := Lib.hid hL5
  clear hL5 hX5 HL4 HX4 HB4
  go_wp2_with fail
  refine (turn_any 1 kk y g w.heap.size L w5 [(0, mkS ow), (0, mkS ow)] (by simp) hk HL5.out HX5.out.ok HX5.out.below.size).mono ?_
  rintro e w6 ⟨rfl, hL6, hX6⟩
  have HB6 := Lib.hid (HB5.out.lstep hX6 (by decide) (by decide))
  have HX6 := Lib.hid (hX6.ext HX5.out (Nat.le_refl _))
  have HL6 : Hid (LinkAt L w6 w.heap.size g [(0, mkS ow), turnP (0, mkS ow) kk y]) := Lib.hid hL6
  clear hL6 hX6 HL5 HX5 HB5
  go_wp2_with fail
  refine (all_any g w.heap.size L w6 [(0, mkS ow), turnP (0, mkS ow) kk y] (by simp) HL6.out).mono ?_
  rintro e w7 ⟨vl, vs, rfl, hT7, hX7⟩
  have HT7 := Lib.hid hT7
  have HB7 := Lib.hid (HB6.out.below hX7)
  have HL7 := Lib.hid (HL6.out.kept hX7 (fun _ _ => rfl))
  have HX7 := Lib.hid (HX6.out.trans (Ext.of_below HX6.out.ok hX7))
  clear hT7 hX7 HB6 HL6 HX6
  go_wp2_with fail
  refine (few_any ow _ 20 (fun _ _ => True) w7 (by decide) (by decide) (HB7.out.list rfl (by omega))).mono ?_
  rintro e w8 ⟨v8, rfl, hB8, hX8⟩
  rw [show List.take (Int.toNat 20) ow = ow from List.take_of_length_le (by show ow.length ≤ 20; omega)] at hB8
  obtain ⟨go, cap8, cur8, fr8, rfl, hg8, hh8, hf8, hc81, hc82, hc83, hc84⟩ := hB8.row (by omega)
  have o0 := hc84 kk _ (bytesV_getD ow kk hk)
  have o1 : w8.frozen? ⟨go, kk, none⟩ = false := frozen_free hh8 hf8 (by omega)
  obtain ⟨z, hz⟩ : ∃ z : UInt8, z = ow.getD kk 0 := ⟨_, rfl⟩
  rw [← hz] at o0
  have kx0 := xor_u8 z y
  obtain ⟨q, hq⟩ : ∃ q : UInt8, q = z ^^^ y := ⟨_, rfl⟩
  have kx : bits .xor .u8 (z.toNat : Int) (y.toNat : Int) = (q.toNat : Int) := by rw [hq]; exact kx0
  have Hzq : Hid (q = ow.getD kk 0 ^^^ y) := by rw [hq, hz]; rfl
  have HX8 := Lib.hid hX8
  have HB8 := Lib.hid hB8
  obtain ⟨r, cap, cur, fr, rfl, hr1, hr2, _, _, _⟩ := HT7.out.at_ (by simp)
  clear hB8 hX8 hc84 hh8 hf8 hc83 hz hq kx0
  go_wp2
  -- behind the store
  obtain ⟨w9, hw9⟩ : ∃ w9, w9 = w8.setCell ⟨go, kk, none⟩ (.int .u8 (q.toNat : Int)) := ⟨_, rfl⟩
  rw [← hw9]
  have hX9 : Below w7.heap.size w7 w9 := by rw [hw9]; exact HX8.out.setCell hg8 _
  have hO9 : Blk w9 w7.heap.size 5 1 (.slice (some ⟨go, 0, none⟩) ow.length cap8) ow.length (bytesV (ow.set kk q)) := by
    obtain ⟨g', hg', hs⟩ := HB8.out.store kk (.int .u8 (q.toNat : Int)) (by omega)
    simp [Value.ownBlock] at hg'
    subst hg'
    rw [hw9, ← bytesV_set]; exact hs
  have HT9 := Lib.hid (HT7.out.below hX9)
  have HB9 := Lib.hid (HB7.out.below hX9)
  have HL9 := Lib.hid (HL7.out.kept hX9 (fun _ _ => rfl))
  have HX9 := Lib.hid (HX7.out.trans (Ext.of_below HX7.out.ok hX9))
  have HO9 := Lib.hid hO9
  clear hX9 hO9 hw9 o0 o1 kx HX8 HB8 HT7 HB7 HL7 HX7
  obtain ⟨r', cap', cur', fr', he, _, _, _, _, hat⟩ := HT9.out.at_ (by simp)
  simp at he
  obtain ⟨rfl, rfl⟩ := he
  obtain ⟨A0, k0, a0, a1, hR0, _⟩ := hat 0 (by simp) (by show ow.length ≤ big; unfold big; omega)
  obtain ⟨A1, k1, b0, b1, hR1, _⟩ := hat 1 (by simp) (by show (List.set _ _ _).length ≤ big; rw [List.length_set]; show ow.length ≤ big; unfold big; omega)
  have hs1 : (turnP (0, mkS ow) kk y).2.size = ow.length := List.length_set ..
  have hl1 : (turnP (0, mkS ow) kk y).2.data.toList = ow.set kk q := by rw [Hzq.out]; rfl
  replace a1 : w9.cell? ⟨r, 1, none⟩ = some (.slice A0 ow.length k0) := a1
  replace b1 : w9.cell? ⟨r, 3, none⟩ = some (.slice A1 ow.length k1) := by rw [← hs1]; exact b1
  replace hR0 : SliceR Rp.byte (fun _ _ => True) w9 ow (.slice A0 ow.length k0) := hR0
  replace hR1 : SliceR Rp.byte (fun _ _ => True) w9 (ow.set kk q) (.slice A1 ow.length k1) := by rw [← hs1, ← hl1]; exact hR1
  have kc0 := fun n => toStrN (P := Try.prog) n hR0 22 5 9 Try.underlying22 Try.underlying5 Try.underlying9
  have kc1 := fun n => toStrN (P := Try.prog) n hR1 22 5 9 Try.underlying22 Try.underlying5 Try.underlying9
  have kc2 := fun n => toStrN (P := Try.prog) n (HB9.out.list rfl (by omega)) 22 5 9 Try.underlying22 Try.underlying5 Try.underlying9
  have kc3 := fun n => toStrN (P := Try.prog) n (HO9.out.list (List.length_set ..) (by omega)) 22 5 9 Try.underlying22 Try.underlying5 Try.underlying9
  have e0 : (mkS ow != mkS ow) = false := str_bne_self _
  have e1 : (mkS (ow.set kk q) != mkS (ow.set kk q)) = false := str_bne_self _
  clear hat a0 b0 hR0 hR1 hs1 hl1
  have HS1 := Lib.hid (show SliceR Rp.byte (fun _ _ => True) w9 ow (.slice A3 ow.length c3) from HB9.out.list rfl (by omega))
  go_quiet (fail)
  clear kc0 kc1 kc2 kc3 a1 b1 e0 e1 HT9 HO9
  rename_i nq _
  have HB10 : Hid (Blk (w9.drewN nq) w.heap.size 5 1 (.slice A3 ow.length c3) ow.length (bytesV ow)) := Lib.hid HB9.out
  have HL10 : Hid (LinkAt L (w9.drewN nq) w.heap.size g [(0, mkS ow), turnP (0, mkS ow) kk y]) := Lib.hid (HL9.out.kept (below_drewN w9 nq) (fun _ _ => rfl))
  have HX10 := Lib.hid (HX9.out.drewN nq)
  clear HB9 HL9 HX9 HS1
  generalize w9.drewN nq = w10 at HB10 HL10 HX10 ⊢
  obtain ⟨e1, he1⟩ : ∃ e1 : Int, e1 = if 0 ≤ place ∧ place < ow.length then 0 else 3 := ⟨_, rfl⟩
  have hcase : (decide (0 ≤ place) = true ∧ decide (place < (ow.length : Int)) = true ∧ e1 = 0) ∨ (decide (0 ≤ place) = true ∧ decide (place < (ow.length : Int)) = false ∧ e1 = 3) ∨ (decide (0 ≤ place) = false ∧ e1 = 3) := by
    by_cases h0 : 0 ≤ place
    · by_cases h1 : place < ow.length
      · rw [if_pos ⟨h0, h1⟩] at he1; exact .inl ⟨by simpa using h0, by simpa using h1, he1⟩
      · rw [if_neg (fun h => h1 h.2)] at he1; exact .inr (.inl ⟨by simpa using h0, by simpa using h1, he1⟩)
    · rw [if_neg (fun h => h0 h.1)] at he1; exact .inr (.inr ⟨by simpa using h0, he1⟩)
  have He1 := Lib.hid he1
  clear he1
  have HLw : Hid (turnP (turnP (0, mkS ow) kk y) kk y = (0, mkS ow)) := Lib.hid (turnP_twice 0 ow kk y hk)
  have hkt : kk < (turnP (0, mkS ow) kk y).2.size := by show kk < (List.set _ _ _).length; rw [List.length_set]; exact hk
  clear HS Hok HX1 Hkk Hzq
  rcases hcase with ⟨d0, d1, rfl⟩ | ⟨d0, d1, rfl⟩ | ⟨d0, rfl⟩
  all_goals
    go_wp2_with fail
    refine (turn_id place g w.heap.size L w10 0 ow _ HL10.out HX10.out.ok HX10.out.below.size).mono ?_
    rintro e w11 ⟨rfl, hL11, hX11⟩
    rw [← He1.out]
    have HB11 := Lib.hid (HB10.out.lstep hX11 (by decide) (by decide))
    have HX11 := Lib.hid (hX11.ext HX10.out (Nat.le_refl _))
    have HL11 := Lib.hid hL11
    clear hL11 hX11
    go_wp2_with fail
    refine (turn_any 1 kk y g w.heap.size L w11 [(0, mkS ow), turnP (0, mkS ow) kk y] (by simp) hkt HL11.out HX11.out.ok HX11.out.below.size).mono ?_
    rintro e w12 ⟨rfl, hL12, hX12⟩
    have hL12' : LinkAt L w12 w.heap.size g [(0, mkS ow), (0, mkS ow)] := by
      have h0 : LinkAt L w12 w.heap.size g [(0, mkS ow), turnP (turnP (0, mkS ow) kk y) kk y] := hL12
      rw [HLw.out] at h0; exact h0
    have HB12 := Lib.hid (HB11.out.lstep hX12 (by decide) (by decide))
    have HX12 := Lib.hid (hX12.ext HX11.out (Nat.le_refl _))
    have HL12 := Lib.hid hL12'
    clear hL12 hL12' hX12 HL11 HX11 HB11
    go_wp2_with fail
    refine (all_any g w.heap.size L w12 [(0, mkS ow), (0, mkS ow)] (by simp) HL12.out).mono ?_
    rintro e w13 ⟨vl, vs, rfl, hT13, hX13⟩
    have HB13 := Lib.hid (HB12.out.below hX13)
    have HL13 := Lib.hid (HL12.out.kept hX13 (fun _ _ => rfl))
    have HX13 := Lib.hid (HX12.out.trans (Ext.of_below HX12.out.ok hX13))
    clear HL12 HX12 HB12 hX13
    obtain ⟨r3, cap3, cur3, fr3, rfl, hr31, hr32, _, _, hat⟩ := hT13.at_ (by simp)
    obtain ⟨A1, k1, b0, b1, hR1, _⟩ := hat 1 (by simp) (by show ow.length ≤ big; unfold big; omega)
    replace b1 : w13.cell? ⟨r3, 3, none⟩ = some (.slice A1 ow.length k1) := b1
    replace hR1 : SliceR Rp.byte (fun _ _ => True) w13 ow (.slice A1 ow.length k1) := hR1
    have kc1 := toStrD (P := Try.prog) hR1 22 5 9 Try.underlying22 Try.underlying5 Try.underlying9
    have kc2 := toStrD (P := Try.prog) (HB13.out.list rfl (by omega)) 22 5 9 Try.underlying22 Try.underlying5 Try.underlying9
    have e1 : (mkS ow == mkS ow) = true := str_beq_self _
    clear hat hT13 hR1 b0
    go_wp2_with fail
    go_still_tail 31, (by kernel_rfl)
    change wpList _ _ _ _ _ w13.drew
    have HB14 : Hid (LinkAt L w13.drew w.heap.size g [(0, mkS ow), (0, mkS ow)]) := Lib.hid (HL13.out.kept (below_drew w13) (fun _ _ => rfl))
    have HX14 := Lib.hid HX13.out.drew
    clear kc1 kc2 b1 e1 HL13 HX13 HB13
    generalize w13.drew = w14 at HB14 HX14 ⊢
    go_wp2_with fail
    refine (turn_none 2 0 1 g w.heap.size L w14 [(0, mkS ow), (0, mkS ow)] (by simp) HB14.out).mono ?_
    rintro e w15 ⟨rfl, rfl⟩
    go_wp2_with fail
    refine (lives_any L w14 HX14.out.ok).mono ?_
    rintro e w15 ⟨rfl, hX15⟩
    have HX15 := Lib.hid (HX14.out.trans hX15)
    clear hX15 HB14 HX14
    go_wp2
    go_ret
    exact ⟨rfl, HX15.out.below⟩
end Go.Proofs.Ytigogjbngphadaa
