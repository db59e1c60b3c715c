/- Walks: a path's names or the error, as the path says it and as the document says it. No claim by itself. -/
import Derived.Test.YtojcciciinklbaaDoorPath6
set_option linter.unusedSimpArgs false
set_option linter.unusedVariables false
namespace Go.Proofs.YtojcciciinklbaaDoor
open Go.RowKit

set_option maxHeartbeats 400000 in
theorem notname_any (s : ByteArray) (w : World) :
    Calls Tryd.prog 44 #[.string s] w fun e w' => e = .returned (.bool (!nameB s)) ∧ Below w.heap.size w w' := by
  go_enter Tryd.func44, Tryd.ntmps44
  go_wp2_with fail
  refine (name_any s w).mono ?_
  rintro e w1 ⟨rfl, h1⟩
  have H1 := Lib.hid h1; clear h1
  go_wp2
  go_ret
  exact ⟨rfl, H1.out⟩

/-- The first one that is no name, from a number on. -/
def badFrom : List ByteArray → Nat → Int
  | [], _ => -1
  | x :: xs, i => if nameB x = true then badFrom xs (i + 1) else (i : Int)
theorem badFrom_step {xs : List ByteArray} {k : Nat} (hk : k < xs.length) (h : nameB xs[k] = true) : badFrom (xs.drop k) k = badFrom (xs.drop (k + 1)) (k + 1) := by
  rw [List.drop_eq_getElem_cons hk, badFrom, if_pos h]
theorem badFrom_hit {xs : List ByteArray} {k : Nat} (hk : k < xs.length) (h : nameB xs[k] = false) : badFrom (xs.drop k) k = k := by
  rw [List.drop_eq_getElem_cons hk, badFrom, if_neg (by rw [h]; simp)]
theorem badFrom_all : ∀ (xs : List ByteArray) (i : Nat), (decide (0 ≤ badFrom xs i)) = !xs.all nameB
  | [], i => rfl
  | x :: xs, i => by
    unfold badFrom
    by_cases h : nameB x = true
    · rw [if_pos h, badFrom_all xs (i + 1)]; simp [h]
    · rw [if_neg h]
      have : nameB x = false := by simpa using h
      simp [this]

set_option maxHeartbeats 800000 in
theorem badidx_any (base : Nat) (v : Value) (xs : List ByteArray) (w : World) (h : SL w base v xs) (hlt : xs.length ≤ 1000000) :
    Calls Tryd.prog 63 #[v, .func (.func 44) #[] #[]] w fun e w' => e = .returned (.int .i64 (badFrom xs 0)) ∧ Below w.heap.size w w' := by
  obtain ⟨A, c, rfl, hnc, hn1⟩ := h.form
  have HS := Lib.hid h; clear h
  go_enter Tryd.func63, Tryd.ntmps63
  go_wp2
  go_loopw [8] (fun i wr => ∃ k : Nat, k ≤ xs.length ∧ i = .int .i64 k ∧ Hid (badFrom (xs.drop k) k = badFrom xs 0) ∧ Below w.heap.size w wr) (fun i _ => xs.length - (intOf i).toNat)
  case atStart => exact ⟨0, Nat.zero_le _, rfl, Lib.hid rfl, Below.refl _ _⟩
  case round =>
    obtain ⟨k, hk, rfl, HI, hB⟩ := hrel
    have HB := Lib.hid hB
    clear hB
    by_cases hlt' : k < xs.length
    · obtain ⟨r1, cap1, he1, _, _, _, _, hat1⟩ := SL.at_ (HS.out.below HB.out) (by omega)
      simp at he1
      obtain ⟨rfl, rfl⟩ := he1
      have c1 := hat1 k hlt'
      have hI1 : (k : Int) < (xs.length : Int) := by omega
      clear hat1
      cases hn : nameB xs[k] with
      | true =>
        have HJ := Lib.hid ((badFrom_step hlt' hn).symm.trans HI.out)
        have hn' : (!nameB xs[k]) = false := by rw [hn]; rfl
        clear hn
        go_wp2_with fail
        refine (notname_any _ wr).mono ?_
        rintro e w1 ⟨rfl, h1⟩
        have H1 := Lib.hid (HB.out.trans (h1.mono HB.out.size)); clear h1
        rw [hn']
        go_wp2
        go_roundw
        case rel => exact ⟨k + 1, by omega, by go_num, HJ, H1.out⟩
        case measure => simp [intOf]; omega
      | false =>
        have HJ := Lib.hid ((badFrom_hit hlt' hn).symm.trans HI.out)
        have hn' : (!nameB xs[k]) = true := by rw [hn]; rfl
        clear hn
        go_wp2_with fail
        refine (notname_any _ wr).mono ?_
        rintro e w1 ⟨rfl, h1⟩
        have H1 := Lib.hid (HB.out.trans (h1.mono HB.out.size)); clear h1
        rw [hn']
        go_wp2
        go_ret
        exact ⟨ret_int HJ.out, H1.out⟩
    · have hke : k = xs.length := by omega
      subst hke
      have HJ : Hid (-1 = badFrom xs 0) := Lib.hid (by rw [← HI.out, List.drop_length]; rfl)
      go_wp2
      go_ret
      exact ⟨ret_int HJ.out, HB.out⟩

set_option maxHeartbeats 400000 in
theorem anybad_any (base : Nat) (v : Value) (xs : List ByteArray) (w : World) (h : SL w base v xs) (hlt : xs.length ≤ 1000000) :
    Calls Tryd.prog 43 #[v, .func (.func 44) #[] #[]] w fun e w' => e = .returned (.bool (!xs.all nameB)) ∧ Below w.heap.size w w' := by
  have HS := Lib.hid h; clear h
  have hb := badFrom_all xs 0
  have Hb := Lib.hid hb; clear hb
  obtain ⟨z, hz⟩ : ∃ z, z = badFrom xs 0 := ⟨_, rfl⟩
  rw [← hz] at Hb
  have Hz := Lib.hid hz; clear hz
  go_enter Tryd.func43, Tryd.ntmps43
  go_wp2_with fail
  refine (badidx_any base v xs w HS.out hlt).mono ?_
  rintro e w1 ⟨rfl, h1⟩
  have H1 := Lib.hid h1; clear h1
  rw [← Hz.out]
  go_wp2
  go_ret
  exact ⟨ret_bool Hb.out, H1.out⟩

theorem spl_size : ∀ (l cur : List UInt8), ∀ x ∈ spl cur l, x.length ≤ cur.length + l.length
  | [], cur, x, hx => by simp [spl] at hx; subst hx; simp
  | c :: r, cur, x, hx => by
    unfold spl at hx
    split at hx
    · rcases List.mem_cons.1 hx with rfl | hx
      · simp
      · have := spl_size r [] x hx; simp at this ⊢; omega
    · have := spl_size r _ x hx; simp at this ⊢; omega
theorem pieces_size (p : ByteArray) (x : ByteArray) (hx : x ∈ pieces p) : x.size ≤ p.size := by
  unfold pieces at hx
  split at hx
  · simp at hx
  · obtain ⟨y, hy, rfl⟩ := List.mem_map.1 hx
    have := spl_size _ _ y hy
    have e : p.data.toList.length = p.size := rfl
    rw [mkS_size]
    simp at this
    omega

/-- A path's names, or the error's number. -/
def splitE (p : ByteArray) : Int := if (pieces p).all nameB = true then (if (pieces p).length ≤ 6 then 0 else 3) else 2
def splitL (p : ByteArray) : List ByteArray := if splitE p = 0 then pieces p else []
theorem split_bad {p : ByteArray} (h : (pieces p).all nameB = false) : splitE p = 2 ∧ splitL p = [] := by
  have : splitE p = 2 := by unfold splitE; rw [h]; rfl
  exact ⟨this, by unfold splitL; rw [this]; rfl⟩
theorem split_long {p : ByteArray} (h : (pieces p).all nameB = true) (hl : ¬ (pieces p).length ≤ 6) : splitE p = 3 ∧ splitL p = [] := by
  have : splitE p = 3 := by unfold splitE; rw [if_pos h, if_neg hl]
  exact ⟨this, by unfold splitL; rw [this]; rfl⟩
theorem split_good {p : ByteArray} (h : (pieces p).all nameB = true) (hl : (pieces p).length ≤ 6) : splitE p = 0 ∧ splitL p = pieces p := by
  have : splitE p = 0 := by unfold splitE; rw [if_pos h, if_pos hl]
  exact ⟨this, by unfold splitL; rw [this]; rfl⟩

def SplitPost (p : ByteArray) (w : World) (e : Ending) (w' : World) : Prop := ∃ v, e = .returned (.tuple #[v, .int .i64 (splitE p)]) ∧ SL w' w.heap.size v (splitL p) ∧ Below w.heap.size w w'

set_option maxHeartbeats 1000000 in
theorem psplit_any (p : ByteArray) (w : World) (hp : p.size ≤ 100000) : Calls Tryd.prog 23 #[.string p] w (SplitPost p w) := by
  have hl := pieces_len p
  cases ha : (pieces p).all nameB with
  | false =>
    have HE := Lib.hid (split_bad ha)
    have ha' : (!(pieces p).all nameB) = true := by rw [ha]; rfl
    have Ha := Lib.hid ha'
    clear ha ha'
    go_enter Tryd.func23, Tryd.ntmps23
    go_wp2_with fail
    refine (names_any p w (by omega)).mono ?_
    rintro e w1 ⟨v, rfl, h1, x1⟩
    have H1 := Lib.hid h1; have X1 := Lib.hid x1; clear h1 x1
    go_wp2_with fail
    refine (anybad_any _ _ _ w1 H1.out (by omega)).mono ?_
    rintro e w2 ⟨rfl, x2⟩
    rw [Ha.out]
    have X2 := Lib.hid (X1.out.trans (x2.mono X1.out.size)); clear x2
    go_wp2
    go_ret2
    exact ⟨_, by rw [HE.out.1]; rfl, by rw [HE.out.2]; exact SL.nil _ _, X2.out⟩
  | true =>
    have ha' : (!(pieces p).all nameB) = false := by rw [ha]; rfl
    have Ha := Lib.hid ha'
    by_cases h6 : (pieces p).length ≤ 6
    · have HE := Lib.hid (split_good ha h6)
      clear ha ha'
      have hI : ¬ (6 < ((pieces p).length : Int)) := by omega
      go_enter Tryd.func23, Tryd.ntmps23
      go_wp2_with fail
      refine (names_any p w (by omega)).mono ?_
      rintro e w1 ⟨v, rfl, h1, x1⟩
      obtain ⟨A, c, rfl, hnc, hn1⟩ := h1.form
      have H1 := Lib.hid h1; have X1 := Lib.hid x1; clear h1 x1
      go_wp2_with fail
      refine (anybad_any _ _ _ w1 H1.out (by omega)).mono ?_
      rintro e w2 ⟨rfl, x2⟩
      rw [Ha.out]
      have H2 := Lib.hid (H1.out.below x2)
      have X2 := Lib.hid (X1.out.trans (x2.mono X1.out.size)); clear x2
      go_wp2
      go_ret2
      exact ⟨_, by rw [HE.out.1]; rfl, by rw [HE.out.2]; exact H2.out, X2.out⟩
    · have HE := Lib.hid (split_long ha h6)
      clear ha ha'
      have hI : (6 < ((pieces p).length : Int)) := by omega
      go_enter Tryd.func23, Tryd.ntmps23
      go_wp2_with fail
      refine (names_any p w (by omega)).mono ?_
      rintro e w1 ⟨v, rfl, h1, x1⟩
      obtain ⟨A, c, rfl, hnc, hn1⟩ := h1.form
      have H1 := Lib.hid h1; have X1 := Lib.hid x1; clear h1 x1
      go_wp2_with fail
      refine (anybad_any _ _ _ w1 H1.out (by omega)).mono ?_
      rintro e w2 ⟨rfl, x2⟩
      rw [Ha.out]
      have X2 := Lib.hid (X1.out.trans (x2.mono X1.out.size)); clear x2
      go_wp2
      go_ret2
      exact ⟨_, by rw [HE.out.1]; rfl, by rw [HE.out.2]; exact SL.nil _ _, X2.out⟩

set_option maxHeartbeats 1000000 in
theorem rsplit_any (p : ByteArray) (w : World) (hp : p.size ≤ 100000) : Calls Tryd.prog 28 #[.string p] w (SplitPost p w) := by
  have hl := pieces_len p
  obtain ⟨xs, hxs⟩ : ∃ xs, xs = pieces p := ⟨_, rfl⟩
  rw [← hxs] at hl
  have Hxs := Lib.hid hxs
  have hpz : ∀ x ∈ xs, x.size ≤ 9223372036854775807 := fun x hx => by
    have := pieces_size p x (by rw [← hxs]; exact hx)
    omega
  clear hxs
  have Hpz := Lib.hid hpz; clear hpz
  go_enter Tryd.func28, Tryd.ntmps28
  go_wp2_with fail
  refine (rpieces_any p w (by omega)).mono ?_
  rintro e w1 ⟨v, rfl, h1, x1⟩
  rw [← Hxs.out] at h1
  obtain ⟨A, c, rfl, hnc, hn1⟩ := h1.form
  have H1 := Lib.hid h1; have X1 := Lib.hid x1; clear h1 x1
  go_wp2_with fail
  go_loop [5] (fun i => ∃ k : Nat, k ≤ xs.length ∧ i = .int .i64 k ∧ Hid (∀ j (h : j < xs.length), j < k → nameB xs[j] = true)) (fun i => xs.length - (intOf i).toNat)
  case atStart => exact ⟨0, Nat.zero_le _, rfl, Lib.hid (fun j _ h => by omega)⟩
  case round =>
    obtain ⟨k, hk, rfl, HI⟩ := hrel
    by_cases hlt' : k < xs.length
    · obtain ⟨r1, cap1, he1, _, _, _, _, hat1⟩ := SL.at_ H1.out (by omega)
      simp at he1
      obtain ⟨rfl, rfl⟩ := he1
      have c1 := hat1 k hlt'
      have hI1 : (k : Int) < (xs.length : Int) := by omega
      clear hat1
      cases hn : nameB xs[k] with
      | true =>
        have HJ : Hid (∀ j (h : j < xs.length), j < k + 1 → nameB xs[j] = true) := Lib.hid fun j h hj => by
          by_cases h' : j < k
          · exact HI.out j h h'
          · obtain rfl : j = k := by omega
            exact hn
        go_wp2_with fail
        refine (rname_any _ w1 (Hpz.out _ (List.getElem_mem hlt'))).mono ?_
        rintro e w2 ⟨rfl, rfl⟩
        rw [hn]
        clear hn
        go_wp2
        go_round
        case rel => exact ⟨k + 1, by omega, by go_num, HJ⟩
        case measure => simp [intOf]; omega
      | false =>
        have HE : Hid (splitE p = 2 ∧ splitL p = []) := Lib.hid (split_bad (by rw [← Hxs.out, List.all_eq_false]; exact ⟨xs[k], List.getElem_mem hlt', by rw [hn]; simp⟩))
        go_wp2_with fail
        refine (rname_any _ w1 (Hpz.out _ (List.getElem_mem hlt'))).mono ?_
        rintro e w2 ⟨rfl, rfl⟩
        rw [hn]
        clear hn
        go_wp2
        go_ret2
        exact ⟨_, by rw [HE.out.1]; rfl, by rw [HE.out.2]; exact SL.nil _ _, X1.out⟩
    · have hke : k = xs.length := by omega
      subst hke
      have ha : (pieces p).all nameB = true := by
        rw [← Hxs.out, List.all_eq_true]
        intro x hx
        obtain ⟨i, hi, rfl⟩ := List.mem_iff_getElem.1 hx
        exact HI.out i hi hi
      by_cases h6 : xs.length ≤ 6
      · have HE := Lib.hid (split_good ha (by rw [← Hxs.out]; exact h6))
        have hI : ¬ (6 < (xs.length : Int)) := by omega
        clear ha
        go_wp2
        go_ret2
        exact ⟨_, by rw [HE.out.1]; rfl, by rw [HE.out.2, ← Hxs.out]; exact H1.out, X1.out⟩
      · have HE := Lib.hid (split_long ha (by rw [← Hxs.out]; exact h6))
        have hI : (6 < (xs.length : Int)) := by omega
        clear ha
        go_wp2
        go_ret2
        exact ⟨_, by rw [HE.out.1]; rfl, by rw [HE.out.2]; exact SL.nil _ _, X1.out⟩
end Go.Proofs.YtojcciciinklbaaDoor
