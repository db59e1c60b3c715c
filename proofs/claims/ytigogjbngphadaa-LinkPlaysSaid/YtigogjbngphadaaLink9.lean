/- Walks of what the link's statements call, the eighth part: packets as the document has them. No claim by itself. -/
import Derived.Test.YtigogjbngphadaaLink8
import Derived.Test.YtigogjbngphadaaLawTurns
import Derived.Test.YtigogjbngphadaaOpen
import Derived.Deep.RegionLaw
set_option linter.unusedSimpArgs false
set_option linter.unusedVariables false
namespace Go.Proofs.Ytigogjbngphadaa
open Go.RowKit

theorem Try.info40 : (Try.prog.info? 40).map (fun i => (i.zero, i.size, i.bytes)) = some (some (.agg #[.int .i64 0, .string ⟨#[]⟩]), 2, 24) := by kernel_rfl

/-- The cells of packets. -/
def pkV (xs : List Pk) : List Value := xs.flatMap fun x => [.int .i64 x.1, .string x.2]
theorem pkV_length (xs : List Pk) : (pkV xs).length = xs.length * 2 := by
  induction xs with
  | nil => rfl
  | cons x xs ih => rw [pkV, List.flatMap_cons, List.length_append, show (xs.flatMap fun x => [Value.int .i64 x.1, .string x.2]) = pkV xs from rfl, ih, List.length_cons]; simp; omega
theorem pkV_append (xs ys : List Pk) : pkV (xs ++ ys) = pkV xs ++ pkV ys := by simp [pkV]
theorem pkV_take (xs : List Pk) (k : Nat) : pkV (xs.take k) = (pkV xs).take (k * 2) := by
  induction xs generalizing k with
  | nil => simp [pkV]
  | cons x xs ih =>
    cases k with
    | zero => simp [pkV]
    | succ k =>
      have := ih k
      rw [List.take_succ_cons, show (k + 1) * 2 = k * 2 + 1 + 1 from by omega]
      show [Value.int .i64 x.1, .string x.2] ++ pkV (xs.take k) = ([Value.int .i64 x.1, .string x.2] ++ pkV xs).take _
      rw [this]; rfl
theorem pkV_drop (xs : List Pk) (k : Nat) : pkV (xs.drop k) = (pkV xs).drop (k * 2) := by
  induction xs generalizing k with
  | nil => simp [pkV]
  | cons x xs ih =>
    cases k with
    | zero => simp [pkV]
    | succ k =>
      have := ih k
      rw [List.drop_succ_cons, show (k + 1) * 2 = k * 2 + 1 + 1 from by omega, this]
      rfl
theorem pkV_get (xs : List Pk) (i : Nat) (hi : i < xs.length) : (pkV xs)[i * 2]? = some (.int .i64 xs[i].1) ∧ (pkV xs)[i * 2 + 1]? = some (.string xs[i].2) := by
  induction xs generalizing i with
  | nil => simp at hi
  | cons x xs ih =>
    cases i with
    | zero => exact ⟨rfl, rfl⟩
    | succ i =>
      have := ih i (by simpa using hi)
      rw [show (i + 1) * 2 = i * 2 + 1 + 1 from by omega]
      exact this
theorem pkV_one (xs : List Pk) : ∀ u ∈ pkV xs, u.oneCell' = true := by
  intro u hu
  simp only [pkV, List.mem_flatMap] at hu
  obtain ⟨x, _, hu⟩ := hu
  simp at hu
  rcases hu with rfl | rfl <;> rfl

/-- A list of the document's packets, in a row of its own. -/
def PL (w : World) (base : Nat) (v : Value) (xs : List Pk) : Prop := Blk w base 40 2 v xs.length (pkV xs)
theorem PL.at_ {w : World} {base : Nat} {v : Value} {xs : List Pk} (h : PL w base v xs) (hn : 0 < xs.length) : ∃ r cap, v = .slice (some ⟨r, 0, none⟩) xs.length cap ∧ base ≤ r ∧ xs.length ≤ cap ∧ cap ≤ 9223372036854775807 ∧
    ∀ i (hi : i < xs.length), w.cell? ⟨r, i * 2, none⟩ = some (.int .i64 xs[i].1) ∧ w.cell? ⟨r, i * 2 + 1, none⟩ = some (.string xs[i].2) := by
  obtain ⟨r, cap, cur, fr, e0, e1, e2, e3, e4, e5, e6, e7⟩ := h.row hn
  exact ⟨r, cap, e0, e1, e4, e5, fun i hi => ⟨e7 _ _ (pkV_get xs i hi).1, e7 _ _ (pkV_get xs i hi).2⟩⟩

theorem as_pre {w : World} {base k : Nat} {out : Value} {xs : List Pk} {o : Obj} (h : PL w base out (xs.take k)) (hlk : (xs.take k).length = k) : Blk (w.alloc o).drew base 40 2 out k (pkV (xs.take k)) := by
  have : Blk (w.alloc o).drew base 40 2 out (xs.take k).length (pkV (xs.take k)) := h.below (((Below.refl _ w).alloc (Nat.le_refl _) _).drew)
  rw [hlk] at this; exact this
theorem src_new1 (w : World) (e size m c : Nat) (cs : List Value) (hs : cs.length = m * size) : Src (w.alloc (.cells cs.toArray e)).drew (.slice (some ⟨w.heap.size, 0, none⟩) m c) m size cs :=
  (Src.new w e size m c cs hs).keep fun _ _ h => h
theorem as_round {w0 w w1 : World} {o : Obj} {out out' : Value} {xs : List Pk} {k : Nat} (hP : PL w w0.heap.size out (xs.take k)) (hlk : (xs.take k).length = k) (hk : k < xs.length) (hB : Below w0.heap.size w0 w)
    (hr : Blk w1 w0.heap.size 40 2 out' (k + 1) (pkV (xs.take k) ++ [.int .i64 xs[k].1, .string xs[k].2])) (hg : (w.alloc o).drew.grownBy w1 out.ownBlock) : PL w1 w0.heap.size out' (xs.take (k + 1)) ∧ Below w0.heap.size w0 w1 := by
  have hbs := hB.size
  refine ⟨?_, (hB.alloc hbs o).drew.grown hg (by simp; omega) (fun k hk => (hP.lt k hk).1)⟩
  have e : xs.take (k + 1) = xs.take k ++ [xs[k]] := List.take_succ_eq_append_getElem hk
  have hl : (xs.take (k + 1)).length = k + 1 := by rw [e, List.length_append, hlk]; rfl
  unfold PL
  rw [hl, e, pkV_append]
  exact hr

set_option maxHeartbeats 800000 in
theorem as_any (base : Nat) (w : World) (v : Value) (xs : List Pk) (vs : List Value) (hT : Told w base v xs vs) (hlt : xs.length ≤ 1000) (hz : ∀ x ∈ xs, x.2.size ≤ room) :
    Calls Try.prog 18 #[v] w fun e w' => ∃ v', e = .returned v' ∧ PL w' w.heap.size v' xs ∧ Below w.heap.size w w' := by
  obtain ⟨A, c, rfl, hnc, hn1⟩ := hT.row.form
  have HT := Lib.hid hT; clear hT
  have HZ := Lib.hid hz; clear hz
  go_enter Try.func18, Try.ntmps18
  go_wp2
  go_loopw [3, 4] (fun out i wr => ∃ k : Nat, k ≤ xs.length ∧ i = .int .i64 k ∧ PL wr w.heap.size out (xs.take k) ∧ Below w.heap.size w wr) (fun _ i _ => xs.length - (intOf i).toNat)
  case atStart => exact ⟨0, Nat.zero_le _, rfl, Blk.nil _ _ _ _, Below.refl _ _⟩
  case round =>
    obtain ⟨k, hk, rfl, hP, hB⟩ := hrel
    have hbsz := hB.size
    by_cases hlt' : k < xs.length
    · obtain ⟨r, cap, cur, fr, he, _, _, _, _, hat⟩ := (HT.out.below hB).at_ (by omega)
      simp at he
      obtain ⟨rfl, rfl⟩ := he
      obtain ⟨A1, c1, a0, a1, hR, _⟩ := hat k hlt' (Nat.le_trans (HZ.out _ (List.getElem_mem _)) (by decide))
      have hsz : xs[k].2.size ≤ room := HZ.out _ (List.getElem_mem _)
      have hlk : (xs.take k).length = k := by rw [List.length_take]; omega
      have hkI : (k : Int) < (xs.length : Int) := by omega
      have hkc : (k : Int) < (c : Int) := by omega
      have kc := toStrD (P := Try.prog) hR 22 5 9 Try.underlying22 Try.underlying5 Try.underlying9
      rw [mkS_of] at kc
      have HP := Lib.hid hP
      have HB := Lib.hid hB
      have Hlk := Lib.hid hlk
      clear hat hR hP hB hlk
      go_wp2
      go_region_law (refine step_appB rfl (.tmp 11) (.tmp 24) 38 40 rfl w.heap.size _ 2 24 Try.underlying38 Try.info40 rfl (by decide) _ _ rfl _ rfl k (pkV (xs.take k)) (as_pre HP.out Hlk.out) 1 [.int .i64 xs[k].1, .string xs[k].2] (src_new1 wr 40 2 1 1 [_, _] rfl) (pkV_one [xs[k]]) (by omega) (by simp; omega) ?_; intro v1 w1 hB1 hg1 _; have HE := Lib.hid (as_round HP.out Hlk.out hlt' HB.out hB1 hg1); clear hB1 hg1)
      all_goals
        go_wp2
        go_roundw
        case rel => exact ⟨k + 1, by omega, by go_num, HE.out.1, HE.out.2⟩
        case measure => simp [intOf]; omega
    · have hke : k = xs.length := by omega
      subst hke
      rw [List.take_length] at hP
      have HP := Lib.hid hP
      have HB := Lib.hid hB
      clear hP hB
      go_wp2
      go_ret
      exact ⟨_, rfl, HP.out, HB.out⟩

set_option maxHeartbeats 800000 in
theorem same_eq (b1 b2 : Nat) (w : World) (v1 v2 : Value) (xs : List Pk) (h1 : PL w b1 v1 xs) (h2 : PL w b2 v2 xs) (hlt : xs.length ≤ 1000) :
    Calls Try.prog 17 #[v1, v2] w fun e w' => e = .returned (.bool true) ∧ Below w.heap.size w w' := by
  obtain ⟨A1, c1, rfl, hnc1, hn1⟩ := h1.form
  obtain ⟨A2, c2, rfl, hnc2, hn2⟩ := h2.form
  have H1 := Lib.hid h1; clear h1
  have H2 := Lib.hid h2; clear h2
  go_enter Try.func17, Try.ntmps17
  go_wp2
  go_loopw [5] (fun i wr => ∃ k : Nat, k ≤ xs.length ∧ i = .int .i64 k ∧ Below w.heap.size w wr) (fun i _ => xs.length - (intOf i).toNat)
  case atStart => exact ⟨0, Nat.zero_le _, rfl, Below.refl _ _⟩
  case round =>
    obtain ⟨k, hk, rfl, hB⟩ := hrel
    by_cases hlt' : k < xs.length
    · obtain ⟨r1, cap1, he1, _, _, _, hat1⟩ := PL.at_ (H1.out.below hB) (by omega)
      obtain ⟨r2, cap2, he2, _, _, _, hat2⟩ := PL.at_ (H2.out.below hB) (by omega)
      simp at he1 he2
      obtain ⟨rfl, rfl⟩ := he1
      obtain ⟨rfl, rfl⟩ := he2
      obtain ⟨a0, a1⟩ := hat1 k hlt'
      obtain ⟨b0, b1⟩ := hat2 k hlt'
      obtain ⟨x, hx⟩ : ∃ x, x = xs[k].1 := ⟨_, rfl⟩
      obtain ⟨s, hs⟩ : ∃ s, s = xs[k].2 := ⟨_, rfl⟩
      rw [← hx] at a0 b0
      rw [← hs] at a1 b1
      have e1 : (s == s) = true := str_beq_self _
      have e2 : (s != s) = false := str_bne_self _
      have hkI : (k : Int) < (xs.length : Int) := by omega
      have HB := Lib.hid hB
      clear hat1 hat2 hB hx hs
      go_wp2
      go_quiet (fail)
      rename_i nq _
      go_wp2
      go_roundw
      case rel => exact ⟨k + 1, by omega, by go_num, HB.out.trans (⟨rfl, rfl, rfl, Nat.le_refl _, fun _ _ => rfl⟩)⟩
      case measure => simp [intOf]; omega
    · have hke : k = xs.length := by omega
      subst hke
      have HB := Lib.hid hB
      clear hB
      go_wp2
      go_ret
      exact ⟨rfl, HB.out⟩

theorem getElem?_of_take {α : Type} {l : List α} {n j : Nat} {u : α} (h : (l.take n)[j]? = some u) : l[j]? = some u := by
  have hj := (List.getElem?_eq_some_iff.1 h).1
  rw [List.length_take] at hj
  rwa [List.getElem?_take_of_lt (by omega)] at h

set_option maxHeartbeats 800000 in
theorem without_any (base k : Nat) (w : World) (v : Value) (xs : List Pk) (hk : k < xs.length) (hlt : xs.length ≤ 1000) (h : PL w base v xs) :
    Calls Try.prog 19 #[v, .int .i64 k] w fun e w' => ∃ v', e = .returned v' ∧ PL w' w.heap.size v' (xs.take k ++ xs.drop (k + 1)) ∧ Below w.heap.size w w' := by
  obtain ⟨A, c, rfl, hnc, hn1⟩ := h.form
  obtain ⟨r, c', cur, fr, he, _, _, _, _, _, _, hc⟩ := h.row (by omega)
  simp at he
  obtain ⟨rfl, rfl⟩ := he
  have hk1 : k + 1 ≤ xs.length := hk
  have hkc : k + 1 ≤ c := by omega
  have hkc0 : k ≤ c := by omega
  have hw1 : IntKind.i64.wrap ((k : Int) + 1) = (k : Int) + 1 := IntWalk.i64_in _ (by omega)
  have hw2 : 0 ≤ (k : Int) + 1 := by omega
  have hw3 : ((k : Int) + 1).toNat = k + 1 := by omega
  have hw4 : (k : Int) + 1 ≤ (xs.length : Int) := by omega
  have HC := Lib.hid hc; clear hc
  have HP := Lib.hid h; clear h
  obtain ⟨ad, had, hsrc⟩ : ∃ ad : Addr, (if c = k + 1 then (some (⟨r, 0, none⟩ : Addr)) else some ⟨r, (k + 1) * 2, none⟩) = some ad ∧ Src w (.slice (some ad) (xs.length - (k + 1)) (c - (k + 1))) (xs.drop (k + 1)).length 2 (pkV (xs.drop (k + 1))) := by
    have hl : (xs.drop (k + 1)).length = xs.length - (k + 1) := List.length_drop ..
    by_cases h : c = k + 1
    · have h0 : xs.drop (k + 1) = [] := List.drop_eq_nil_of_le (by omega)
      exact ⟨_, if_pos h, by rw [h0]; rfl, .inr ⟨_, _, by rw [hl], fun j u hu => by rw [h0] at hu; simp [pkV] at hu⟩⟩
    · refine ⟨_, if_neg h, pkV_length _, .inr ⟨_, _, by rw [hl], fun j u hu => ?_⟩⟩
      rw [pkV_drop, List.getElem?_drop] at hu
      rw [addr_add]
      exact HC.out _ u hu
  have hl2 : (xs.drop (k + 1)).length = xs.length - (k + 1) := List.length_drop ..
  have HS2 := Lib.hid hsrc; clear hsrc
  have HL2 := Lib.hid hl2; clear hl2
  go_enter Try.func19, Try.ntmps19
  go_wp2_with (at_builtin; refine wpList_appB rfl (.tmp 6) (.tmp 9) 38 40 rfl w.heap.size _ 2 24 Try.underlying38 Try.info40 rfl (by decide) w (.slice none 0 0) rfl _ rfl 0 [] (Blk.nil _ _ _ _) k (pkV (xs.take k)) ?d1 ?d2 ?d3 ?d4 ?_)
  case d1 => exact ⟨by rw [pkV_length, List.length_take]; congr 1; omega, .inr ⟨_, _, rfl, fun j u hu => by rw [addr_add, Nat.zero_add]; rw [pkV_take] at hu; exact HC.out j u (getElem?_of_take hu)⟩⟩
  case d2 => exact pkV_one _
  case d3 => omega
  case d4 => exact Nat.le_refl _
  intro v1 w1 hB1 hg1 _
  obtain ⟨A1, c1, rfl, hc11, hc12⟩ := hB1.form
  have HB1 := Lib.hid hB1
  have HX1 := Lib.hid ((Below.refl w.heap.size w).grown hg1 (Nat.le_refl _) (fun k h => by simp [Value.ownBlock] at h))
  clear hB1 hg1
  go_wp2_with (at_builtin; refine wpList_appB rfl (.tmp 11) (.tmp 15) 38 40 rfl w.heap.size _ 2 24 Try.underlying38 Try.info40 rfl (by decide) w1 _ rfl _ rfl k (pkV (xs.take k)) HB1.out (xs.drop (k + 1)).length (pkV (xs.drop (k + 1))) ?e1 ?e2 ?e3 ?e4 ?_)
  case e1 => exact HS2.out.keep (fun a u hu => (HX1.out.cell (World.block_lt_of_cell? w _ hu)).trans hu)
  case e2 => exact pkV_one _
  case e3 => rw [HL2.out]; omega
  case e4 => exact HX1.out.size
  intro v2 w2 hB2 hg2 _
  have HB2 := Lib.hid hB2
  have HX2 := Lib.hid (HX1.out.grown hg2 HX1.out.size (fun k h => (HB1.out.lt k h).1))
  clear hB2 hg2
  go_wp2
  go_ret
  refine ⟨_, rfl, ?_, HX2.out⟩
  have hlt2 : (xs.take k).length = k := by rw [List.length_take]; omega
  unfold PL
  rw [List.length_append, hlt2, pkV_append, HL2.out]
  exact HB2.out
end Go.Proofs.Ytigogjbngphadaa
