/- PathParents: a path is its parent and its last name; it is under its parent, and stands behind it. -/
import Derived.Test.YtojcciciinklbaaDoorPath10
set_option linter.unusedSimpArgs false
set_option linter.unusedVariables false
namespace Go.Proofs.YtojcciciinklbaaDoor
open Go.RowKit

theorem take_last {xs : List ByteArray} {m : Nat} (h : xs.length = m + 1) : xs = xs.take m ++ [xs[m]'(by omega)] := by
  conv => lhs; rw [← List.take_append_drop m xs]
  rw [List.drop_eq_getElem_cons (by omega), List.drop_of_length_le (by omega)]
theorem cmpP_take : ∀ (xs : List ByteArray) (m : Nat), m < xs.length → cmpP (xs.take m) xs = -1
  | [], m, h => by simp at h
  | x :: xs, 0, _ => rfl
  | x :: xs, m + 1, h => by
    rw [List.take_succ_cons, cmpP, if_pos rfl]
    exact cmpP_take xs m (by simpa using h)
theorem under_take {xs : List ByteArray} {m : Nat} (h : m < xs.length) : underP xs (xs.take m) = true := by
  unfold underP
  have : (xs.take m).length = m := by rw [List.length_take]; omega
  rw [this]; simp [h]

/-- What the law asks of a path, its parent and its base. -/
structure Ups (p up base : ByteArray) : Prop where
  both : (if up = ⟨#[]⟩ then base else up ++ ⟨#[47]⟩ ++ base) = p
  name : nameB base = true
  und : underP (pieces p) (pieces up) = true
  cmp : cmpP (pieces up) (pieces p) = -1
  size : up.size ≤ 5000 ∧ base.size ≤ 24
theorem ups_of {xs : List ByteArray} (h : ∀ x ∈ xs, nameB x = true) (hl : xs.length ≤ 6) (hne : joinS xs ≠ ⟨#[]⟩) : Ups (joinS xs) (parentP (joinS xs)) (baseP (joinS xs)) := by
  have hp := pieces_join h
  have hn : xs ≠ [] := fun e => hne (by subst e; rfl)
  obtain ⟨m, hm⟩ : ∃ m, xs.length = m + 1 := ⟨xs.length - 1, by have := List.length_pos_iff.2 hn; omega⟩
  have hml : m < xs.length := by omega
  have hup : parentP (joinS xs) = joinS (xs.take m) := by unfold parentP; rw [hp, show xs.length - 1 = m from by omega]
  have hba : baseP (joinS xs) = xs[m] := by unfold baseP; rw [hp, List.getLast?_eq_getElem?, show xs.length - 1 = m from by omega, List.getElem?_eq_getElem hml]; rfl
  have ht : ∀ x ∈ xs.take m, nameB x = true := fun x hx => h x (List.mem_of_mem_take hx)
  have hpt := pieces_join ht
  have hsz := joinS_size (xs.take m) 24 (fun x hx => (nameB_no47 (ht x hx)).2.2)
  have hlm : (xs.take m).length = m := by rw [List.length_take]; omega
  refine ⟨?_, by rw [hba]; exact h _ (List.getElem_mem hml), by rw [hup, hpt, hp]; exact under_take hml, by rw [hup, hpt, hp]; exact cmpP_take xs m hml, by rw [hup]; rw [hlm] at hsz; have := Nat.mul_le_mul_right (24 + 1) (show m ≤ 6 by omega); omega, by rw [hba]; exact (nameB_no47 (h _ (List.getElem_mem hml))).2.2⟩
  rw [hup, hba]
  by_cases h0 : m = 0
  · subst h0
    rw [if_pos (by rfl)]
    match xs, hm with
    | [x], _ => apply Go.WideShapes.bytes_inj; simp [joinS, jn, mkS]
  · have hne2 : joinS (xs.take m) ≠ ⟨#[]⟩ := fun e => by
      have := (pieces_emp (p := joinS (xs.take m))).2 e
      rw [hpt] at this
      rw [this] at hlm; simp at hlm; omega
    rw [if_neg hne2]
    conv => rhs; rw [take_last hm]
    apply Go.WideShapes.bytes_inj
    rw [ByteArray.data_append, ByteArray.data_append, Array.toList_append, Array.toList_append, joinS_data, joinS_data, List.map_append, List.map_cons, List.map_nil, jn_snoc, if_neg (fun e => by
      have := congrArg List.length e
      rw [List.length_map, hlm] at this; simp at this; omega)]
    simp

set_option maxHeartbeats 4000000 in
theorem law_parents (l : List Int) (v : Value) (L : Live) (w : World) (hS : SliceR Rp.i64 L w l v) :
    Calls Tryd.prog 4 #[v] w fun e w' => e = .returned (.bool true) ∧ Below w.heap.size w w' := by
  have HS := Lib.hid hS; clear hS
  have hsz := madeP_size l
  have hu := ups_of (madeN_ok l) (madeN_len l)
  have he0 : madeP l = joinS (madeN l) := rfl
  rw [← he0] at hu
  obtain ⟨P, hP⟩ : ∃ P, P = madeP l := ⟨_, rfl⟩
  rw [← hP] at hsz hu
  have HP := Lib.hid hP
  clear hP he0
  go_enter Tryd.func4, Tryd.ntmps4
  go_wp2_with fail
  refine (made_any l v L w HS.out).mono ?_
  rintro e w1 ⟨rfl, x1⟩
  rw [← HP.out]
  have X1 := Lib.hid x1; clear x1
  by_cases he : P = ⟨#[]⟩
  · subst he
    have e1 : parentP ⟨#[]⟩ = ⟨#[]⟩ := rfl
    have e2 : baseP ⟨#[]⟩ = ⟨#[]⟩ := rfl
    have e3 : underP (pieces ⟨#[]⟩) (pieces ⟨#[]⟩) = false := rfl
    have E1 := Lib.hid e1; have E2 := Lib.hid e2; have E3 := Lib.hid e3
    clear e1 e2 e3 hu
    go_wp2_with fail
    refine (parent_any _ w1 (by decide)).mono ?_
    rintro e w2 ⟨rfl, x2⟩
    rw [E1.out]
    have X2 := Lib.hid (X1.out.trans (x2.mono X1.out.size)); clear x2
    go_wp2_with fail
    refine (base_any _ w2 (by decide)).mono ?_
    rintro e w3 ⟨rfl, x3⟩
    rw [E2.out]
    have X3 := Lib.hid (X2.out.trans (x3.mono X2.out.size)); clear x3
    go_wp2_with fail
    refine (punder_any _ _ w3 (by decide)).mono ?_
    rintro e w4 ⟨rfl, rfl⟩
    rw [E3.out]
    go_wp2_with fail
    refine (plives_any w3).mono ?_
    rintro e w5 ⟨rfl, x5⟩
    have X5 := Lib.hid (X3.out.trans (x5.mono X3.out.size)); clear x5
    go_wp2
    go_ret
    exact ⟨rfl, X5.out⟩
  · have hU := hu he
    obtain ⟨U, hUe⟩ : ∃ U, U = parentP P := ⟨_, rfl⟩
    obtain ⟨B, hBe⟩ : ∃ U, U = baseP P := ⟨_, rfl⟩
    rw [← hUe, ← hBe] at hU
    have HU := Lib.hid hU
    have hUs := hU.size.1
    have hBs := hU.size.2
    have HUe := Lib.hid hUe; have HBe := Lib.hid hBe
    have q0 := toL_emp he
    have n0 : ¬ P.toList = [] := fun e => he ((toL_eq P []).1 e)
    clear hu hU hUe hBe he
    go_wp2_with fail
    refine (parent_any _ w1 (by omega)).mono ?_
    rintro e w2 ⟨rfl, x2⟩
    rw [← HUe.out]
    have X2 := Lib.hid (X1.out.trans (x2.mono X1.out.size)); clear x2
    go_wp2_with fail
    refine (base_any _ w2 (by omega)).mono ?_
    rintro e w3 ⟨rfl, x3⟩
    rw [← HBe.out]
    have X3 := Lib.hid (X2.out.trans (x3.mono X2.out.size)); clear x3
    by_cases hue : U = ⟨#[]⟩
    · subst hue
      have hb : B = P := by have := HU.out.both; rw [if_pos rfl] at this; exact this
      subst hb
      go_wp2_with fail
      refine (name_any _ w3).mono ?_
      rintro e w4 ⟨rfl, x4⟩
      rw [HU.out.name]
      have X4 := Lib.hid (X3.out.trans (x4.mono X3.out.size)); clear x4
      go_wp2_with fail
      refine (punder_any _ _ w4 (by decide)).mono ?_
      rintro e w5 ⟨rfl, rfl⟩
      rw [HU.out.und]
      go_wp2_with fail
      refine (pcompare_any _ _ w4 (by decide) (by omega)).mono ?_
      rintro e w5 ⟨rfl, x5⟩
      rw [HU.out.cmp]
      have X5 := Lib.hid (X4.out.trans (x5.mono X4.out.size)); clear x5
      go_wp2_with fail
      refine (plives_any w5).mono ?_
      rintro e w6 ⟨rfl, x6⟩
      have X6 := Lib.hid (X5.out.trans (x6.mono X5.out.size)); clear x6
      go_wp2
      go_ret
      exact ⟨rfl, X6.out⟩
    · have hb : U ++ ⟨#[47]⟩ ++ B = P := by have := HU.out.both; rw [if_neg hue] at this; exact this
      have r0 := toL_emp hue
      have m0 : ¬ U.toList = [] := fun e => hue ((toL_eq U []).1 e)
      have hc1 : U.size + 1 ≤ 9223372036854775807 := by omega
      have hc2 : U.size + 1 + B.size ≤ 9223372036854775807 := by omega
      have hc3 : (U ++ ⟨#[47]⟩).size + B.size ≤ 9223372036854775807 := by
        have : (U ++ (⟨#[47]⟩ : ByteArray)).size = U.size + 1 := by rw [ByteArray.size_append]; rfl
        omega
      clear hue
      go_wp2_with fail
      refine (name_any _ w3).mono ?_
      rintro e w4 ⟨rfl, x4⟩
      rw [HU.out.name]
      have X4 := Lib.hid (X3.out.trans (x4.mono X3.out.size)); clear x4
      go_wp2_with fail
      refine (punder_any _ _ w4 (by omega)).mono ?_
      rintro e w5 ⟨rfl, rfl⟩
      rw [HU.out.und]
      go_wp2_with fail
      refine (pcompare_any _ _ w4 (by omega) (by omega)).mono ?_
      rintro e w5 ⟨rfl, x5⟩
      rw [HU.out.cmp]
      have X5 := Lib.hid (X4.out.trans (x5.mono X4.out.size)); clear x5
      go_wp2_with fail
      refine (plives_any w5).mono ?_
      rintro e w6 ⟨rfl, x6⟩
      have X6 := Lib.hid (X5.out.trans (x6.mono X5.out.size)); clear x6
      go_wp2
      go_ret
      exact ⟨rfl, X6.out⟩
end Go.Proofs.YtojcciciinklbaaDoor
