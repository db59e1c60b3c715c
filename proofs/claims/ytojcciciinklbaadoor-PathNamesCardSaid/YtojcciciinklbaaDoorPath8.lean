/- Walks: what is joined, parents and bases, as the path says it and as the document says it. No claim by itself. -/
import Derived.Test.YtojcciciinklbaaDoorPath7
import Derived.Test.YtojcciciinklbaaDoorJoin
set_option linter.unusedSimpArgs false
set_option linter.unusedVariables false
namespace Go.Proofs.YtojcciciinklbaaDoor
open Go.RowKit

set_option maxHeartbeats 1000000 in
theorem sametexts_any (b1 b2 : Nat) (v1 v2 : Value) (xs ys : List ByteArray) (w : World) (h1 : SL w b1 v1 xs) (h2 : SL w b2 v2 ys) (hx : xs.length ≤ 1000000) (hy : ys.length ≤ 1000000) :
    Calls Tryd.prog 24 #[v1, v2] w fun e w' => e = .returned (.bool (decide (xs = ys))) ∧ Below w.heap.size w w' := by
  obtain ⟨A1, c1, rfl, hnc1, hn1⟩ := h1.form
  obtain ⟨A2, c2, rfl, hnc2, hn2⟩ := h2.form
  have H1 := Lib.hid h1; clear h1
  have H2 := Lib.hid h2; clear h2
  by_cases hlen : ¬ xs.length = ys.length
  · have hne : xs ≠ ys := fun e => hlen (by rw [e])
    have Hd : Hid (false = decide (xs = ys)) := Lib.hid (by simp [hne])
    have hb : ((xs.length : Int) != (ys.length : Int)) = true := by simp; omega
    clear hlen hne
    go_enter Tryd.func24, Tryd.ntmps24
    go_wp2
    go_ret
    exact ⟨ret_bool Hd.out, Below.refl _ _⟩
  have hlen := Classical.not_not.1 hlen
  have hb : ((xs.length : Int) != (ys.length : Int)) = false := by simp; omega
  have Hlen := Lib.hid hlen
  clear hlen
  go_enter Tryd.func24, Tryd.ntmps24
  go_wp2
  go_loopw [5] (fun i wr => ∃ k : Nat, k ≤ xs.length ∧ i = .int .i64 k ∧ Hid (xs.take k = ys.take k) ∧ Below w.heap.size w wr) (fun i _ => xs.length - (intOf i).toNat)
  case atStart => exact ⟨0, Nat.zero_le _, rfl, Lib.hid rfl, Below.refl _ _⟩
  case round =>
    obtain ⟨k, hk, rfl, HI, hB⟩ := hrel
    have HB := Lib.hid hB
    clear hB
    by_cases hl1 : k < xs.length
    · have hl2 : k < ys.length := by have := Hlen.out; omega
      obtain ⟨r1, cap1, he1, _, _, _, _, hat1⟩ := SL.at_ (H1.out.below HB.out) (by omega)
      simp at he1
      obtain ⟨rfl, rfl⟩ := he1
      have c1 := hat1 k hl1
      clear hat1
      obtain ⟨r2, cap2, he2, _, _, _, _, hat2⟩ := SL.at_ (H2.out.below HB.out) (by omega)
      simp at he2
      obtain ⟨rfl, rfl⟩ := he2
      have c2 := hat2 k hl2
      clear hat2
      have hI1 : (k : Int) < (xs.length : Int) := by omega
      have hI2 : (k : Int) < (ys.length : Int) := by omega
      by_cases he : xs[k] = ys[k]
      · have HJ : Hid (xs.take (k + 1) = ys.take (k + 1)) := Lib.hid (by rw [List.take_succ_eq_append_getElem hl1, List.take_succ_eq_append_getElem hl2, HI.out, he])
        rw [he] at c1
        clear he
        go_wp2
        go_quiet (fail)
        go_wp2
        go_roundw
        case rel => exact ⟨k + 1, by omega, by go_num, HJ, bdn HB.out _⟩
        case measure => simp [intOf]; omega
      · have Hd : Hid (false = decide (xs = ys)) := Lib.hid (by
          have : xs ≠ ys := fun e => he (by subst e; rfl)
          simp [this])
        have l2 := toL_nb he
        have l3 := toL_np he
        clear he
        go_wp2
        go_quiet (fail)
        go_wp2
        go_ret
        exact ⟨ret_bool Hd.out, bdn HB.out _⟩
    · have hke : k = xs.length := by omega
      subst hke
      have Hd : Hid (true = decide (xs = ys)) := Lib.hid (by
        have := HI.out
        rw [List.take_length, Hlen.out, List.take_length] at this
        simp [this])
      go_wp2
      go_ret
      exact ⟨ret_bool Hd.out, HB.out⟩

set_option maxHeartbeats 1000000 in
theorem runder_any (p dir : ByteArray) (w : World) (ha : p.size ≤ 100000) (hb : dir.size ≤ 100000) :
    Calls Tryd.prog 26 #[.string p, .string dir] w fun e w' => e = .returned (.bool (underP (pieces p) (pieces dir))) ∧ Below w.heap.size w w' := by
  have hla := pieces_len p
  have hlb := pieces_len dir
  obtain ⟨xs, hxs⟩ : ∃ xs, xs = pieces p := ⟨_, rfl⟩
  obtain ⟨ys, hys⟩ : ∃ ys, ys = pieces dir := ⟨_, rfl⟩
  rw [← hxs] at hla
  rw [← hys] at hlb
  rw [← hxs, ← hys]
  have HA := Lib.hid hxs
  have HY := Lib.hid hys
  clear hxs hys
  go_enter Tryd.func26, Tryd.ntmps26
  go_wp2_with fail
  refine (rpieces_any p w (by omega)).mono ?_
  rintro e w1 ⟨v1, rfl, h1, x1⟩
  rw [← HA.out] at h1
  have H1 := Lib.hid h1; have X1 := Lib.hid x1; clear h1 x1
  go_wp2_with fail
  refine (rpieces_any dir w1 (by omega)).mono ?_
  rintro e w2 ⟨v2, rfl, h2, x2⟩
  rw [← HY.out] at h2
  have H1 := Lib.hid (H1.out.below x2)
  have H2 := Lib.hid h2; have X2 := Lib.hid (X1.out.trans (x2.mono X1.out.size)); clear h2 x2 X1
  obtain ⟨A1, c1, rfl, hnc1, hn1⟩ := H1.out.form
  obtain ⟨A2, c2, rfl, hnc2, hn2⟩ := H2.out.form
  by_cases hlt : ¬ ys.length < xs.length
  · have Hd : Hid (false = underP xs ys) := Lib.hid (by simp [underP, hlt])
    have hI : (xs.length : Int) ≤ (ys.length : Int) := by omega
    go_wp2
    go_ret
    exact ⟨ret_bool Hd.out, X2.out⟩
  have hlt := Classical.not_not.1 hlt
  have hI : ¬ (xs.length : Int) ≤ (ys.length : Int) := by omega
  have Hu : Hid (underP xs ys = decide (xs.take ys.length = ys)) := Lib.hid (by simp [underP, hlt])
  go_wp2
  go_loopw [7] (fun i wr => ∃ k : Nat, k ≤ ys.length ∧ i = .int .i64 k ∧ Hid (xs.take k = ys.take k) ∧ Below w2.heap.size w2 wr) (fun i _ => ys.length - (intOf i).toNat)
  case atStart => exact ⟨0, Nat.zero_le _, rfl, Lib.hid rfl, Below.refl _ _⟩
  case round =>
    obtain ⟨k, hk, rfl, HI, hB⟩ := hrel
    have HB := Lib.hid hB
    clear hB
    by_cases hl2 : k < ys.length
    · have hl1 : k < xs.length := by omega
      obtain ⟨r1, cap1, he1, _, _, _, _, hat1⟩ := SL.at_ (H1.out.below HB.out) (by omega)
      simp at he1
      obtain ⟨rfl, rfl⟩ := he1
      have c1 := hat1 k hl1
      clear hat1
      obtain ⟨r2, cap2, he2, _, _, _, _, hat2⟩ := SL.at_ (H2.out.below HB.out) (by omega)
      simp at he2
      obtain ⟨rfl, rfl⟩ := he2
      have c2 := hat2 k hl2
      clear hat2
      have hI1 : (k : Int) < (xs.length : Int) := by omega
      have hI2 : (k : Int) < (ys.length : Int) := by omega
      by_cases he : xs[k] = ys[k]
      · have HJ : Hid (xs.take (k + 1) = ys.take (k + 1)) := Lib.hid (by rw [List.take_succ_eq_append_getElem hl1, List.take_succ_eq_append_getElem hl2, HI.out, he])
        rw [he] at c1
        clear he
        go_wp2
        go_quiet (fail)
        go_wp2
        go_roundw
        case rel => exact ⟨k + 1, by omega, by go_num, HJ, bdn HB.out _⟩
        case measure => simp [intOf]; omega
      · have Hd : Hid (false = underP xs ys) := Lib.hid (by
          rw [Hu.out]
          have : xs.take ys.length ≠ ys := fun e => he (by
            have e2 : (xs.take ys.length)[k]? = ys[k]? := by rw [e]
            rw [List.getElem?_take_of_lt hl2, List.getElem?_eq_getElem hl1, List.getElem?_eq_getElem hl2] at e2
            exact Option.some.inj e2)
          simp [this])
        have l2 := toL_nb he
        have l3 := toL_np he
        clear he
        go_wp2
        go_quiet (fail)
        go_wp2
        go_ret
        exact ⟨ret_bool Hd.out, X2.out.trans ((bdn HB.out _).mono X2.out.size)⟩
    · have hke : k = ys.length := by omega
      subst hke
      have Hd : Hid (true = underP xs ys) := Lib.hid (by
        rw [Hu.out]
        have := HI.out
        rw [List.take_length] at this
        simp [this])
      go_wp2
      go_ret
      exact ⟨ret_bool Hd.out, X2.out.trans (HB.out.mono X2.out.size)⟩

set_option maxHeartbeats 400000 in
theorem punder_any (p dir : ByteArray) (w : World) (hd : dir.size ≤ 100000) :
    Calls Tryd.prog 19 #[.string p, .string dir] w fun e w' => e = .returned (.bool (underP (pieces p) (pieces dir))) ∧ w = w' := by
  rw [← underH_eq]
  by_cases he : dir = ⟨#[]⟩
  · subst he
    by_cases hp : p = ⟨#[]⟩
    · subst hp
      go_enter Tryd.func19, Tryd.ntmps19
      go_wp2
      go_ret
      exact ⟨rfl, rfl⟩
    · have q0 := toL_emp hp
      have n0 : ¬ p.toList = [] := fun e => hp ((toL_eq p []).1 e)
      have Hd : Hid (true = underH p ⟨#[]⟩) := Lib.hid (by simp [underH, hp])
      clear hp
      go_enter Tryd.func19, Tryd.ntmps19
      go_wp2
      go_ret
      exact ⟨ret_bool Hd.out, rfl⟩
  · have q0 := toL_emp he
    have n0 : ¬ dir.toList = [] := fun e => he ((toL_eq dir []).1 e)
    have Hd : Hid (Lib.hasPrefix p.data.toList (dir ++ ⟨#[47]⟩).data.toList = underH p dir) := Lib.hid (by
      unfold underH
      rw [if_neg he, ByteArray.data_append, Array.toList_append]
      rfl)
    clear he
    have hcat : dir.size + 1 ≤ 9223372036854775807 := by omega
    go_enter Tryd.func19, Tryd.ntmps19
    go_wp2_with fail
    refine (Tryd.strings_HasPrefix p _ w).mono ?_
    rintro e w1 ⟨rfl, rfl⟩
    go_wp2
    go_ret
    exact ⟨ret_bool Hd.out, rfl⟩

theorem SL.take {w : World} {base : Nat} {A : Option Addr} {n c : Nat} {xs : List ByteArray} (h : SL w base (.slice A n c) xs) (k : Nat) (hk : k ≤ xs.length) : SL w base (.slice A k c) (xs.take k) := by
  obtain ⟨h1, h2⟩ := h
  have hl : (xs.take k).length = k := by rw [List.length_take]; omega
  refine ⟨by rw [strV_length]; omega, ?_⟩
  rcases h2 with ⟨h2, h3⟩ | ⟨g, cap, cur, fr, he, e1, e2, e3, e4, e5, e6, e7⟩
  · simp at h2
    obtain ⟨rfl, rfl, rfl⟩ := h2
    obtain rfl : k = 0 := by omega
    exact .inl ⟨rfl, by simp⟩
  · simp at he
    obtain ⟨rfl, rfl, rfl⟩ := he
    refine .inr ⟨g, c, cur, fr, by rw [hl], e1, e2, e3, by omega, e5, e6, ?_⟩
    rw [hl]
    have : strV (xs.take k) = (strV xs).take k := by simp [strV, List.map_take]
    rw [this, ← e7, List.take_take]
    congr 1
    omega

set_option maxHeartbeats 400000 in
theorem pjoin_any (base : Nat) (v : Value) (xs : List ByteArray) (w : World) (h : SL w base v xs) (hl : xs.length ≤ 10000) (hz : ∀ x ∈ xs, x.size ≤ 1000000) :
    Calls Tryd.prog 22 #[v] w fun e w' => e = .returned (.string (joinS xs)) ∧ Below w.heap.size w w' := by
  have hz' : ∀ x ∈ xs.map (·.data.toList), x.length ≤ 1000000 := fun x hx => by
    obtain ⟨y, hy, rfl⟩ := List.mem_map.1 hx
    exact hz y hy
  have hjl := jn_len 1000000 _ hz'
  rw [List.length_map] at hjl
  have hm := Nat.mul_le_mul_right (1000000 + 1) hl
  have Hz := Lib.hid hjl
  clear hz hz' hjl
  by_cases h0 : xs.length = 0
  · obtain rfl := List.eq_nil_of_length_eq_zero h0
    obtain ⟨A, c, rfl, _, _⟩ := h.form
    clear h h0 Hz
    go_enter Tryd.func22, Tryd.ntmps22
    go_wp2_with fail
    refine (Tryd.strings_Join_none A c ⟨#[47]⟩ w).mono ?_
    rintro e w1 ⟨rfl, rfl⟩
    go_wp2
    go_ret
    exact ⟨rfl, Below.refl _ _⟩
  · obtain ⟨r, cap, rfl, hb, hr, hc1, hc2, hat⟩ := h.at_ (by omega)
    have HC : Hid (∀ (j : Nat) x, xs[j]? = some x → w.cell? ⟨r, 0 + j, none⟩ = some (.string x)) := Lib.hid (fun j x hx => by
      obtain ⟨hj, rfl⟩ := List.getElem?_eq_some_iff.1 hx
      rw [Nat.zero_add]; exact hat j hj)
    have HE : Hid ((Lib.join (xs.map (·.data.toList)) (⟨#[47]⟩ : ByteArray).data.toList) = jn (xs.map (·.data.toList))) := Lib.hid (jn_lib _)
    clear h hat h0
    go_enter Tryd.func22, Tryd.ntmps22
    go_wp2_with fail
    refine (Tryd.strings_Join r 0 cap xs ⟨#[47]⟩ w HC.out hr (by omega) hc1 (by rw [HE.out]; have := Hz.out; omega)).mono ?_
    rintro e w1 ⟨rfl, h1⟩
    have H1 := Lib.hid h1; clear h1
    go_wp2
    go_ret
    exact ⟨ret_str (by rw [HE.out]; rfl), H1.out⟩
end Go.Proofs.YtojcciciinklbaaDoor
