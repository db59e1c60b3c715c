/- Walks of what the link's statements call, the ninth part: the document's functions. No claim by itself. -/
import Derived.Test.YtigogjbngphadaaLawRow
set_option linter.unusedSimpArgs false
set_option linter.unusedVariables false
namespace Go.Proofs.Ytigogjbngphadaa
open Go.RowKit

theorem Blk.src {w : World} {base e size n : Nat} {v : Value} {cells : List Value} (h : Blk w base e size v n cells) : Src w v n size cells := by
  refine ⟨h.1, ?_⟩
  rcases h.2 with h0 | ⟨g, cap, cur, fr, rfl, hg, hh, hf, h1, h2, h3, h4⟩
  · exact .inl h0
  · refine .inr ⟨_, cap, rfl, fun j u hu => ?_⟩
    have hj := (List.getElem?_eq_some_iff.1 hu).1
    rw [addr_add, Nat.zero_add, cell_block hh, ← hu, ← h4, List.getElem?_take_of_lt (by rw [← h.1]; exact hj)]; simp

theorem rin_any (k : Int) (v : Value) (base : Nat) (w : World) (xs : List Pk) (h : PL w base v xs) :
    Calls Try.prog 39 #[v, .int .i64 k] w fun e w' => e = .returned (.bool (inB xs.length k)) ∧ w = w' := by
  obtain ⟨A, c, rfl, hnc, hn1⟩ := h.form
  clear h
  by_cases h0 : 0 ≤ k
  · have hd : decide (0 ≤ k) = true := by simpa using h0
    go_enter Try.func39, Try.ntmps39
    go_wp2
    go_ret
    exact ⟨by simp [inB, h0], rfl⟩
  · have hd : decide (0 ≤ k) = false := by simpa using h0
    go_enter Try.func39, Try.ntmps39
    go_wp2
    go_ret
    exact ⟨ret_bool (by simp [inB]; omega), rfl⟩

set_option maxHeartbeats 800000 in
theorem rfirst_any (to : Int) (base : Nat) (v : Value) (w : World) (xs : List Pk) (hlt : xs.length ≤ 1000) (h : PL w base v xs) :
    Calls Try.prog 25 #[v, .int .i64 to] w fun e w' => e = .returned (.int .i64 (firstOf to xs)) ∧ w = w' := by
  obtain ⟨A, c, rfl, hnc, hn1⟩ := h.form
  have HP := Lib.hid h; clear h
  go_enter Try.func25, Try.ntmps25
  go_wp2
  go_loopw [5] (fun i wr => ∃ k : Nat, k ≤ xs.length ∧ i = .int .i64 k ∧ firstFrom to (xs.drop k) k = firstOf to xs ∧ w = wr) (fun i _ => xs.length - (intOf i).toNat)
  case atStart => exact ⟨0, Nat.zero_le _, rfl, rfl, rfl⟩
  case round =>
    obtain ⟨k, hk, rfl, hf, rfl⟩ := hrel
    by_cases hlt' : k < xs.length
    · obtain ⟨r, cap, he, _, _, _, hat⟩ := PL.at_ HP.out (by omega)
      simp at he
      obtain ⟨rfl, rfl⟩ := he
      obtain ⟨c0, c1⟩ := hat k hlt'
      have hkI : (k : Int) < (xs.length : Int) := by omega
      have Hf := Lib.hid hf
      clear hat hf c1
      by_cases ht : xs[k].1 = to
      · have hd : (xs[k].1 == to) = true := by simpa using ht
        have Hh := Lib.hid (firstFrom_hit to xs k hlt' ht)
        clear ht
        go_wp2
        go_ret
        exact ⟨ret_int (by rw [← Hf.out, Hh.out]), rfl⟩
      · have hd : (xs[k].1 == to) = false := by simpa using ht
        have Hh := Lib.hid (firstFrom_step to xs k hlt' ht)
        clear ht
        go_wp2
        go_roundw
        case rel => exact ⟨k + 1, by omega, by go_num, by rw [← Hh.out, Hf.out], by first | rfl | trivial⟩
        case measure => simp [intOf]; omega
    · have hke : k = xs.length := by omega
      subst hke
      have Hf := Lib.hid hf
      clear hf
      go_wp2
      go_ret
      exact ⟨ret_int (by rw [← Hf.out, List.drop_length]; rfl), by first | rfl | trivial⟩

theorem rsend_bad (to : Int) (s v : Value) (w : World) (h0 : to ≠ 0) (h1 : to ≠ 1) :
    Calls Try.prog 37 #[v, .int .i64 to, s] w fun e w' => e = .returned (.tuple #[v, .int .i64 1]) ∧ w = w' := by
  have h0' : ((to : Int) != 0) = true := by simpa using h0
  have h1' : ((to : Int) != 1) = true := by simpa using h1
  go_enter Try.func37, Try.ntmps37
  go_wp2
  refine bodyPost_ret (v := .tuple #[v, .int .i64 1]) (by simp [results, Try.results37, go_sem]) rfl ?_
  exact ⟨rfl, rfl⟩

set_option maxHeartbeats 800000 in
theorem rsend_any (to : Int) (s : ByteArray) (v : Value) (base : Nat) (w : World) (xs : List Pk) (hto : to = 0 ∨ to = 1) (hlt : xs.length < 64) (h : PL w base v xs) (hbase : base ≤ w.heap.size) :
    Calls Try.prog 37 #[v, .int .i64 to, .string s] w fun e w' => ∃ v', e = .returned (.tuple #[v', .int .i64 0]) ∧ PL w' w.heap.size v' (xs ++ [(to, s)]) ∧ Below w.heap.size w w' := by
  have h0 : ((to : Int) != 0 && to != 1) = false := by rcases hto with rfl | rfl <;> rfl
  obtain ⟨A, c, rfl, hnc, hn1⟩ := h.form
  have HP := Lib.hid h; clear h
  have h64 : ((xs.length : Int) < 64) := by omega
  have hlen : decide (64 ≤ (xs.length : Int)) = false := by simp; omega
  have hcase : ((to : Int) != 0) = false ∨ (((to : Int) != 0) = true ∧ ((to : Int) != 1) = false) := by rcases hto with rfl | rfl; exact .inl rfl; exact .inr ⟨rfl, rfl⟩
  clear h0 hto
  rcases hcase with q0 | ⟨q0, q1⟩
  all_goals
    go_enter Try.func37, Try.ntmps37
    go_wp2_with (at_builtin; refine wpList_appB rfl (.tmp 20) (.tmp 21) 38 40 rfl w.heap.size _ 2 24 Try.underlying38 Try.info40 rfl (by decide) w (.slice none 0 0) rfl _ rfl 0 [] (Blk.nil _ _ _ _) xs.length (pkV xs) ?d1 ?d2 ?d3 ?d4 ?_)
    case d1 => exact Blk.src HP.out
    case d2 => exact pkV_one _
    case d3 => omega
    case d4 => exact Nat.le_refl _
    intro v1 w1 hB1 hg1 _
    have HB1 := Lib.hid hB1
    have HX1 := Lib.hid ((Below.refl w.heap.size w).grown hg1 (Nat.le_refl _) (fun k h => by simp [Value.ownBlock] at h))
    clear hB1 hg1
    go_wp2_with (at_builtin; refine wpList_appB rfl (.tmp 23) (.tmp 27) 38 40 rfl w.heap.size _ 2 24 Try.underlying38 Try.info40 rfl (by decide) _ v1 rfl _ rfl xs.length (pkV xs) ?e1 1 (pkV [(to, s)]) ?e2 ?e3 ?e4 ?e5 ?_)
    case e1 => exact HB1.out.below ((Below.refl _ w1).alloc (Nat.le_refl _) _)
    case e2 => exact Src.new w1 40 2 1 1 [_, _] rfl
    case e3 => exact pkV_one _
    case e4 => omega
    case e5 => have := HX1.out.size; simp; omega
    intro v2 w2 hB2 hg2 _
    have HB2 := Lib.hid hB2
    have HX2 := Lib.hid (HX1.out.grown (grown_pre1 hg2) HX1.out.size (fun k h => (HB1.out.lt k h).1))
    clear hB2 hg2
    go_wp2
    refine bodyPost_ret (v := .tuple #[v2, .int .i64 0]) (by simp [results, Try.results37, go_sem]) rfl ?_
    refine ⟨_, rfl, ?_, HX2.out⟩
    unfold PL
    rw [List.length_append, pkV_append]
    have := HB2.out
    simpa using this
theorem heap_ne {w : World} {g : Nat} (j : Nat) (u : Value) (k : Nat) (h : k ≠ g) : (w.setCell ⟨g, j, none⟩ u).heap[k]? = w.heap[k]? := Below.heap_setCell _ _ _ _ h

theorem rcopy_none (k : Int) (v : Value) (base : Nat) (w : World) (xs : List Pk) (hk : ¬ (0 ≤ k ∧ k < xs.length)) (h : PL w base v xs) :
    Calls Try.prog 34 #[v, .int .i64 k] w fun e w' => e = .returned (.tuple #[v, .int .i64 4]) ∧ w = w' := by
  have hb := inB_false hk
  have HP := Lib.hid h; clear h
  go_enter Try.func34, Try.ntmps34
  go_wp2_with fail
  refine (rin_any k v base w xs HP.out).mono ?_; rintro e w' ⟨rfl, rfl⟩
  go_wp2
  refine bodyPost_ret (v := .tuple #[v, .int .i64 4]) (by simp [results, Try.results34, go_sem]) rfl ?_
  exact ⟨rfl, rfl⟩

theorem rlate_none (k : Int) (v : Value) (base : Nat) (w : World) (xs : List Pk) (hk : ¬ (0 ≤ k ∧ k < xs.length)) (h : PL w base v xs) :
    Calls Try.prog 35 #[v, .int .i64 k] w fun e w' => e = .returned (.tuple #[v, .int .i64 4]) ∧ w = w' := by
  have hb := inB_false hk
  have HP := Lib.hid h; clear h
  go_enter Try.func35, Try.ntmps35
  go_wp2_with fail
  refine (rin_any k v base w xs HP.out).mono ?_; rintro e w' ⟨rfl, rfl⟩
  go_wp2
  refine bodyPost_ret (v := .tuple #[v, .int .i64 4]) (by simp [results, Try.results35, go_sem]) rfl ?_
  exact ⟨rfl, rfl⟩

theorem rturn_none (k place : Int) (y : UInt8) (v : Value) (base : Nat) (w : World) (xs : List Pk) (hk : ¬ (0 ≤ k ∧ k < xs.length)) (h : PL w base v xs) :
    Calls Try.prog 36 #[v, .int .i64 k, .int .i64 place, .int .u8 y.toNat] w fun e w' => e = .returned (.tuple #[v, .int .i64 4]) ∧ w = w' := by
  have hb := inB_false hk
  have HP := Lib.hid h; clear h
  go_enter Try.func36, Try.ntmps36
  go_wp2_with fail
  refine (rin_any k v base w xs HP.out).mono ?_; rintro e w' ⟨rfl, rfl⟩
  go_wp2
  refine bodyPost_ret (v := .tuple #[v, .int .i64 4]) (by simp [results, Try.results36, go_sem]) rfl ?_
  exact ⟨rfl, rfl⟩

theorem rtake_none (k : Int) (v : Value) (base : Nat) (w : World) (xs : List Pk) (hk : ¬ (0 ≤ k ∧ k < xs.length)) (h : PL w base v xs) :
    Calls Try.prog 33 #[v, .int .i64 k] w fun e w' => e = .returned (.tuple #[v, .agg #[.int .i64 0, .string ⟨#[]⟩], .int .i64 4]) ∧ Below w.heap.size w w' := by
  have hb := inB_false hk
  have HP := Lib.hid h; clear h
  go_enter Try.func33, Try.ntmps33
  go_wp2_with fail
  refine (rin_any k v base _ xs (Blk.below HP.out ((Below.refl _ w).alloc (Nat.le_refl _) _))).mono ?_; rintro e w' ⟨rfl, rfl⟩
  go_wp2
  refine bodyPost_ret (v := .tuple #[v, .agg #[.int .i64 0, .string ⟨#[]⟩], .int .i64 4]) (by simp [results, Try.results33, go_sem]) rfl ?_
  exact ⟨rfl, (Below.refl _ w).alloc (Nat.le_refl _) _⟩

set_option maxHeartbeats 800000 in
theorem rturn_range (k : Nat) (place : Int) (y : UInt8) (v : Value) (base : Nat) (w : World) (xs : List Pk) (hk : k < xs.length) (hp : ¬ (0 ≤ place ∧ place < xs[k].2.size)) (hz : xs[k].2.size ≤ room) (h : PL w base v xs) :
    Calls Try.prog 36 #[v, .int .i64 k, .int .i64 place, .int .u8 y.toNat] w fun e w' => e = .returned (.tuple #[v, .int .i64 3]) ∧ w = w' := by
  have hb := inB_true hk
  have hz' : xs[k].2.size ≤ 140737488355328 := hz
  obtain ⟨r, cap, rfl, _, hcl, hcm, hat⟩ := PL.at_ h (by omega)
  obtain ⟨c0, c1⟩ := hat k hk
  have hkI : (k : Int) < (xs.length : Int) := by omega
  have HP := Lib.hid h
  clear h hat c0 hz
  by_cases h0 : place < 0
  · have hd : decide (place < 0) = true := by simpa using h0
    clear hp
    go_enter Try.func36, Try.ntmps36
    go_wp2_with fail
    refine (rin_any k _ base w xs HP.out).mono ?_; rintro e w' ⟨rfl, rfl⟩
    go_wp2
    refine bodyPost_ret (v := .tuple #[.slice (some ⟨r, 0, none⟩) xs.length cap, .int .i64 3]) (by simp [results, Try.results36, go_sem]) rfl ?_
    exact ⟨rfl, rfl⟩
  · have hd : decide (place < 0) = false := by simpa using h0
    have hge : (xs[k].2.size : Int) ≤ place := by omega
    have hd2 : decide ((xs[k].2.size : Int) ≤ place) = true := by simpa using hge
    clear hp
    go_enter Try.func36, Try.ntmps36
    go_wp2_with fail
    refine (rin_any k _ base w xs HP.out).mono ?_; rintro e w' ⟨rfl, rfl⟩
    go_wp2
    refine bodyPost_ret (v := .tuple #[.slice (some ⟨r, 0, none⟩) xs.length cap, .int .i64 3]) (by simp [results, Try.results36, go_sem]) rfl ?_
    exact ⟨rfl, rfl⟩

set_option maxHeartbeats 1000000 in
theorem rcopy_any (k : Nat) (v : Value) (base : Nat) (w : World) (xs : List Pk) (hk : k < xs.length) (hto : xs[k].1 = 0 ∨ xs[k].1 = 1) (hlt : xs.length < 64) (h : PL w base v xs) (hbase : base ≤ w.heap.size) :
    Calls Try.prog 34 #[v, .int .i64 k] w fun e w' => ∃ v', e = .returned (.tuple #[v', .int .i64 0]) ∧ PL w' w.heap.size v' (xs ++ [xs[k]]) ∧ Below w.heap.size w w' := by
  have hb := inB_true hk
  obtain ⟨r, cap, rfl, _, hcl, hcm, hat⟩ := PL.at_ h (by omega)
  obtain ⟨c0, c1⟩ := hat k hk
  have hkI : (k : Int) < (xs.length : Int) := by omega
  have HP := Lib.hid h
  have HT := Lib.hid hto
  clear h hat hto
  go_enter Try.func34, Try.ntmps34
  go_wp2_with fail
  refine (rin_any k _ base w xs HP.out).mono ?_; rintro e w' ⟨rfl, rfl⟩
  go_wp2
  go_region_with (go_at_call 37; refine (rsend_any _ _ _ base _ xs HT.out hlt (Blk.below HP.out (below_drew _)) (by simpa using hbase)).mono ?_; rintro e w1 ⟨v1, rfl, h1, h2⟩; have H1 := Lib.hid h1; have H2 := Lib.hid h2; clear h1 h2)
  all_goals
    go_wp2
    refine bodyPost_ret (v := .tuple #[v1, .int .i64 0]) (by simp [results, Try.results34, go_sem]) rfl ?_
    exact ⟨_, rfl, H1.out, (below_drew _).trans H2.out⟩

set_option maxHeartbeats 2000000 in
theorem rlate_any (k : Nat) (v : Value) (base : Nat) (w : World) (xs : List Pk) (hk : k < xs.length) (hlt : xs.length ≤ 64) (h : PL w base v xs) (hbase : base ≤ w.heap.size) :
    Calls Try.prog 35 #[v, .int .i64 k] w fun e w' => ∃ v', e = .returned (.tuple #[v', .int .i64 0]) ∧ PL w' w.heap.size v' (lateL xs k hk) ∧ Below w.heap.size w w' := by
  have hb := inB_true hk
  obtain ⟨r, cap, rfl, _, hcl, hcm, hat⟩ := PL.at_ h (by omega)
  obtain ⟨s0, s1⟩ := hat k hk
  have hkI : (k : Int) < (xs.length : Int) := by omega
  have HC : Hid (∀ W', Below w.heap.size w W' → W'.cell? ⟨r, k * 2, none⟩ = some (.int .i64 xs[k].1) ∧ W'.cell? ⟨r, k * 2 + 1, none⟩ = some (.string xs[k].2)) :=
    Lib.hid (fun W' hW => ⟨(hW.cell (World.block_lt_of_cell? w _ s0)).trans s0, (hW.cell (World.block_lt_of_cell? w _ s1)).trans s1⟩)
  obtain ⟨zs, hzs⟩ : ∃ zs, zs = xs.take k ++ xs.drop (k + 1) := ⟨_, rfl⟩
  have hzl : zs.length + 1 = xs.length := by rw [hzs]; simp; omega
  have HP := Lib.hid h
  have Hzs := Lib.hid hzs
  have HN : Hid (zs.length ≤ 64) := Lib.hid (by omega)
  clear h hat hzs hzl
  go_enter Try.func35, Try.ntmps35
  go_wp2_with fail
  refine (rin_any k _ base w xs HP.out).mono ?_; rintro e w' ⟨rfl, rfl⟩
  go_wp2
  go_region_law (first
    | (refine step_appB rfl (.tmp 15) (.tmp 20) 38 40 rfl w.heap.size _ 2 24 Try.underlying38 Try.info40 rfl (by decide) _ vc rfl _ rfl zs.length (pkV zs) (Blk.below HPc.out (by first | exact Below.refl _ _ | exact below_drew _ | exact (Below.refl _ _).alloc (Nat.le_refl _) _ | exact ((Below.refl _ _).alloc (Nat.le_refl _) _).drew)) 1 [.int .i64 xs[k].1, .string xs[k].2] (by first | exact Src.new wc 40 2 1 1 [_, _] rfl | exact (src_new1 w 40 2 1 1 [_, _] rfl).belo HXc.out) (pkV_one [xs[k]]) (by have := HN.out; omega) (by have := HBc.out.size; simp; omega) ?_
       intro v1 wd hBd hgd _
       have HPd : Hid (PL wd w.heap.size v1 (lateL xs k hk)) := Lib.hid (by unfold PL lateL; rw [← Hzs.out, List.length_append, pkV_append]; exact hBd)
       have HBd : Hid (Below w.heap.size w wd) := Lib.hid ((HBc.out.trans (Below.mono (show Below wc.heap.size wc _ from (by first | exact Below.refl _ _ | exact below_drew _ | exact (Below.refl _ _).alloc (Nat.le_refl _) _ | exact ((Below.refl _ _).alloc (Nat.le_refl _) _).drew)) HBc.out.size)).grown hgd (by have := HBc.out.size; simp; omega) (fun k hk => (HPc.out.lt k hk).1))
       clear hBd hgd)
    | (go_simp
       go_wp2_with (go_at_call 19
                    refine (without_any base k _ _ xs hk (by omega) (Blk.below HP.out (by first | exact Below.refl _ _ | exact below_drew _ | exact (Below.refl _ _).alloc (Nat.le_refl _) _ | exact ((Below.refl _ _).alloc (Nat.le_refl _) _).drew))).mono ?_
                    rintro e wc ⟨vc, rfl, hPc, hXc⟩
                    rw [← Hzs.out] at hPc
                    have HPc : Hid (PL wc w.heap.size vc zs) := Lib.hid (Blk.lower hPc (by simp))
                    have HXc := Lib.hid hXc
                    have HBc : Hid (Below w.heap.size w wc) := Lib.hid (Below.trans (show Below w.heap.size w _ from (by first | exact Below.refl _ _ | exact below_drew _ | exact (Below.refl _ _).alloc (Nat.le_refl _) _ | exact ((Below.refl _ _).alloc (Nat.le_refl _) _).drew)) (hXc.mono (by simp)))
                    clear hPc hXc
                    obtain ⟨s0, s1⟩ := HC.out _ HBc.out)))
  all_goals
    go_wp2
    refine bodyPost_ret (v := .tuple #[v1, .int .i64 0]) (by simp [results, Try.results35, go_sem]) rfl ?_
    exact ⟨_, rfl, HPd.out, HBd.out⟩
end Go.Proofs.Ytigogjbngphadaa
