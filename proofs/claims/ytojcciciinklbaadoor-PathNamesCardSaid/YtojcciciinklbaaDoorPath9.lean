/- Walks: parents, bases, made paths. No claim by itself. -/
import Derived.Test.YtojcciciinklbaaDoorPath8
import Derived.Test.YtojcciciinklbaaDoorRef01
import Derived.Test.YtojcciciinklbaaDoorOpen
set_option linter.unusedSimpArgs false
set_option linter.unusedVariables false
namespace Go.Proofs.YtojcciciinklbaaDoor
open Go.RowKit

theorem jn_take (xs : List (List UInt8)) (k : Nat) (hk : k < xs.length) : jn (xs.take (k + 1)) = if k = 0 then xs[k] else jn (xs.take k) ++ 47 :: xs[k] := by
  rw [List.take_succ_eq_append_getElem hk, jn_snoc]
  by_cases h : k = 0
  · subst h; simp
  · rw [if_neg h, if_neg (fun e => by have := congrArg List.length e; rw [List.length_take, List.length_nil] at this; omega)]

theorem mkS_app (a b : List UInt8) : mkS a ++ mkS b = mkS (a ++ b) := by
  apply Go.WideShapes.bytes_inj
  rw [ByteArray.data_append, Array.toList_append]
  rfl

set_option maxHeartbeats 1000000 in
theorem rjoin_any (base : Nat) (v : Value) (xs : List ByteArray) (w : World) (h : SL w base v xs) (hl : xs.length ≤ 1000) (hz : ∀ x ∈ xs, x.size ≤ 1000) :
    Calls Tryd.prog 27 #[v] w fun e w' => e = .returned (.string (joinS xs)) ∧ w = w' := by
  obtain ⟨A1, c1, rfl, hnc1, hn1⟩ := h.form
  have H1 := Lib.hid h; clear h
  have Hz := Lib.hid hz; clear hz
  go_enter Tryd.func27, Tryd.ntmps27
  go_wp2
  go_loop [3, 4] (fun t i => ∃ (k : Nat) (s : ByteArray), k ≤ xs.length ∧ i = .int .i64 k ∧ t = .string s ∧ Hid (s = mkS (jn ((xs.map (·.data.toList)).take k))) ∧ s.size ≤ k * 1001) (fun _ i => xs.length - (intOf i).toNat)
  case atStart => exact ⟨0, ⟨#[]⟩, Nat.zero_le _, rfl, rfl, Lib.hid rfl, Nat.zero_le _⟩
  case round =>
    obtain ⟨k, s, hk, rfl, rfl, HI, hsz⟩ := hrel
    by_cases hl1 : k < xs.length
    · obtain ⟨r1, cap1, he1, _, _, _, _, hat1⟩ := SL.at_ H1.out (by omega)
      simp at he1
      obtain ⟨rfl, rfl⟩ := he1
      have c1 := hat1 k hl1
      clear hat1
      have hI1 : (k : Int) < (xs.length : Int) := by omega
      obtain ⟨x, hx⟩ : ∃ x, x = xs[k] := ⟨_, rfl⟩
      have hxz : x.size ≤ 1000 := by rw [hx]; exact Hz.out _ (List.getElem_mem hl1)
      have HX : Hid ((xs.map (·.data.toList))[k]'(by simpa using hl1) = x.data.toList) := Lib.hid (by rw [hx]; simp)
      have HJ := Lib.hid (jn_take (xs.map (·.data.toList)) k (by simpa using hl1))
      rw [← hx] at c1
      clear hx
      by_cases h0 : k = 0
      · subst h0
        have hc1 : s.size + x.size ≤ 9223372036854775807 := by omega
        have HK : Hid (s ++ x = mkS (jn ((xs.map (·.data.toList)).take (0 + 1)))) := Lib.hid (by
          rw [HJ.out, if_pos rfl, HX.out, HI.out, ← mkS_of x, mkS_app]
          simp [jn]; rfl)
        have hsz2 : (s ++ x).size ≤ (0 + 1) * 1001 := by rw [ByteArray.size_append]; omega
        have Hs2 := Lib.hid hsz2
        clear hsz2
        go_wp2
        go_round
        case rel => exact ⟨0 + 1, s ++ x, by omega, by go_num, rfl, HK, Hs2.out⟩
        case measure => simp [intOf]; omega
      · have hk0 : 0 < k := by omega
        have hk0I : (0 : Int) < (k : Int) := by omega
        have hd0 : decide ((0 : Int) < (k : Int)) = true := by simpa using hk0
        have hc1 : s.size + 1 ≤ 9223372036854775807 := by omega
        have hc2 : s.size + 1 + x.size ≤ 9223372036854775807 := by omega
        have hc3 : (s ++ ⟨#[47]⟩).size + x.size ≤ 9223372036854775807 := by
          have : (s ++ (⟨#[47]⟩ : ByteArray)).size = s.size + 1 := by rw [ByteArray.size_append]; rfl
          omega
        have HK : Hid (s ++ ⟨#[47]⟩ ++ x = mkS (jn ((xs.map (·.data.toList)).take (k + 1)))) := Lib.hid (by
          rw [HJ.out, if_neg h0, HX.out, HI.out, show (⟨#[47]⟩ : ByteArray) = mkS [47] from rfl, ← mkS_of x, mkS_app, mkS_app]
          simp; rfl)
        have hsz2 : (s ++ ⟨#[47]⟩ ++ x).size ≤ (k + 1) * 1001 := by
          have : (s ++ (⟨#[47]⟩ : ByteArray) ++ x).size = s.size + 1 + x.size := by rw [ByteArray.size_append, ByteArray.size_append]; rfl
          omega
        have Hs2 := Lib.hid hsz2
        clear hsz2 h0
        go_wp2
        go_round
        case rel => exact ⟨k + 1, s ++ ⟨#[47]⟩ ++ x, by omega, by go_num, rfl, HK, Hs2.out⟩
        case measure => simp [intOf]; omega
    · have hke : k = xs.length := by omega
      subst hke
      have HE : Hid (s = joinS xs) := Lib.hid (by rw [HI.out, List.take_of_length_le (by simp)]; rfl)
      go_wp2
      go_ret
      exact ⟨ret_str HE.out, rfl⟩

/-- The path ahead of the last name; the last name. -/
def parentP (p : ByteArray) : ByteArray := joinS ((pieces p).take ((pieces p).length - 1))
def baseP (p : ByteArray) : ByteArray := (pieces p).getLast?.getD ⟨#[]⟩

set_option maxHeartbeats 1000000 in
theorem parent_any (p : ByteArray) (w : World) (hp : p.size ≤ 5000) :
    Calls Tryd.prog 17 #[.string p] w fun e w' => e = .returned (.string (parentP p)) ∧ Below w.heap.size w w' := by
  have hl := pieces_len p
  obtain ⟨xs, hxs⟩ : ∃ xs, xs = pieces p := ⟨_, rfl⟩
  rw [← hxs] at hl
  have hpz : ∀ x ∈ xs.take (xs.length - 1), x.size ≤ 1000000 := fun x hx => by
    have := pieces_size p x (by rw [← hxs]; exact List.mem_of_mem_take hx)
    omega
  have HP : Hid (parentP p = joinS (xs.take (xs.length - 1))) := Lib.hid (by rw [hxs]; rfl)
  have Hxs := Lib.hid hxs; clear hxs
  have Hpz := Lib.hid hpz; clear hpz
  have hll : (xs.take (xs.length - 1)).length ≤ xs.length := by rw [List.length_take]; omega
  have Hll := Lib.hid hll; clear hll
  go_enter Tryd.func17, Tryd.ntmps17
  go_wp2_with fail
  refine (names_any p w (by omega)).mono ?_
  rintro e w1 ⟨v, rfl, h1, x1⟩
  rw [← Hxs.out] at h1
  obtain ⟨A, c, rfl, hnc, hn1⟩ := h1.form
  have H1 := Lib.hid h1; have X1 := Lib.hid x1; clear h1 x1
  by_cases h0 : xs.length = 0
  · obtain rfl := List.eq_nil_of_length_eq_zero h0
    have hsub : max ((-1 : Int)) 0 = 0 := rfl
    go_wp2_with fail
    refine (pjoin_any _ _ [] w1 (H1.out.take 0 (Nat.zero_le _)) (by simp) (by simp)).mono ?_
    rintro e w2 ⟨rfl, x2⟩
    have X2 := Lib.hid (X1.out.trans (x2.mono X1.out.size)); clear x2
    go_wp2
    go_ret
    exact ⟨ret_str HP.out.symm, X2.out⟩
  · obtain ⟨m, hm⟩ : ∃ m, xs.length = m + 1 := ⟨xs.length - 1, by omega⟩
    have hS := SL.take H1.out m (by omega)
    have em : xs.length - 1 = m := by omega
    rw [em] at Hpz Hll HP
    have HS := Lib.hid hS; clear hS
    have hmx : max (((xs.length : Nat) : Int) - 1) 0 = (m : Int) := by omega
    have hmc : (m : Int) ≤ (c : Int) := by omega
    have HL := Lib.hid hm
    clear hm em h0
    go_wp2_with fail
    refine (pjoin_any _ _ _ w1 HS.out (by have := Hll.out; omega) Hpz.out).mono ?_
    rintro e w2 ⟨rfl, x2⟩
    have X2 := Lib.hid (X1.out.trans (x2.mono X1.out.size)); clear x2
    go_wp2
    go_ret
    exact ⟨ret_str HP.out.symm, X2.out⟩

set_option maxHeartbeats 400000 in
theorem base_any (p : ByteArray) (w : World) (hp : p.size ≤ 5000) :
    Calls Tryd.prog 18 #[.string p] w fun e w' => e = .returned (.string (baseP p)) ∧ Below w.heap.size w w' := by
  have hl := pieces_len p
  obtain ⟨xs, hxs⟩ : ∃ xs, xs = pieces p := ⟨_, rfl⟩
  rw [← hxs] at hl
  have HP : Hid (baseP p = xs.getLast?.getD ⟨#[]⟩) := Lib.hid (by rw [hxs]; rfl)
  have Hxs := Lib.hid hxs; clear hxs
  go_enter Tryd.func18, Tryd.ntmps18
  go_wp2_with fail
  refine (names_any p w (by omega)).mono ?_
  rintro e w1 ⟨v, rfl, h1, x1⟩
  rw [← Hxs.out] at h1
  obtain ⟨A, c, rfl, hnc, hn1⟩ := h1.form
  have H1 := Lib.hid h1; have X1 := Lib.hid x1; clear h1 x1
  by_cases h0 : xs.length = 0
  · obtain rfl := List.eq_nil_of_length_eq_zero h0
    go_wp2
    go_ret
    exact ⟨ret_str HP.out.symm, X1.out⟩
  · have hne : (((xs.length : Nat) : Int) == 0) = false := beq_eq_false_iff_ne.2 (by omega)
    obtain ⟨r1, cap1, he1, _, _, _, _, hat1⟩ := SL.at_ H1.out (by omega)
    simp at he1
    obtain ⟨rfl, rfl⟩ := he1
    obtain ⟨m, hm⟩ : ∃ m, m = xs.length - 1 := ⟨_, rfl⟩
    have hml : m < xs.length := by omega
    have c1 := hat1 m hml
    have em : ((xs.length : Nat) : Int) - 1 = (m : Int) := by omega
    have HL : Hid (baseP p = xs[m]) := Lib.hid (by
      rw [HP.out, List.getLast?_eq_getElem?, ← hm, List.getElem?_eq_getElem hml]; rfl)
    have hmI : (m : Int) < (xs.length : Int) := by omega
    clear hat1 hm h0
    go_wp2
    go_ret
    exact ⟨ret_str HL.out.symm, X1.out⟩
end Go.Proofs.YtojcciciinklbaaDoor
