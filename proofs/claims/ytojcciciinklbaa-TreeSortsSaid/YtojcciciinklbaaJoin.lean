/- What is joined, what is split: plain laws. No claim by itself. -/
import Derived.Test.YtojcciciinklbaaCmp
import Derived.Lib.Join
set_option linter.unusedSimpArgs false
set_option linter.unusedVariables false
namespace Go.Proofs.Ytojcciciinklbaa
open Go.RowKit

/-- Joined by the byte 47. -/
def jn : List (List UInt8) → List UInt8
  | [] => []
  | x :: r => x ++ (r.map (47 :: ·)).flatten
theorem jn_lib (xs : List (List UInt8)) : Lib.join xs [47] = jn xs := by
  cases xs with
  | nil => rfl
  | cons x r => rw [Lib.join_cons]; rfl
def joinS (xs : List ByteArray) : ByteArray := mkS (jn (xs.map (·.data.toList)))
theorem joinS_data (xs : List ByteArray) : (joinS xs).data.toList = jn (xs.map (·.data.toList)) := rfl
theorem jn_snoc (xs : List (List UInt8)) (x : List UInt8) : jn (xs ++ [x]) = if xs = [] then x else jn xs ++ 47 :: x := by
  cases xs with
  | nil => simp [jn]
  | cons a r => simp [jn]
theorem jn_cons2 (x y : List UInt8) (r : List (List UInt8)) : jn (x :: y :: r) = x ++ 47 :: jn (y :: r) := by simp [jn]
theorem jn_app (x : List UInt8) (xs : List (List UInt8)) (y : List UInt8) (ys : List (List UInt8)) : jn (x :: xs ++ y :: ys) = jn (x :: xs) ++ 47 :: jn (y :: ys) := by simp [jn]
theorem jn_len (m : Nat) : ∀ xs : List (List UInt8), (∀ x ∈ xs, x.length ≤ m) → (jn xs).length ≤ xs.length * (m + 1)
  | [], _ => by simp [jn]
  | [x], h => by have := h x (by simp); simp [jn]; omega
  | x :: y :: r, h => by
    have h1 := h x (by simp)
    have h2 := jn_len m (y :: r) (fun z hz => h z (by simp only [List.mem_cons] at hz ⊢; exact .inr hz))
    rw [jn_cons2]
    simp only [List.length_append, List.length_cons] at h2 ⊢
    rw [Nat.add_mul (r.length + 1) 1 (m + 1)]
    omega

/-- No byte 47. -/
def no47 (l : List UInt8) : Prop := ∀ b ∈ l, b ≠ 47
theorem spl_no : ∀ (l cur : List UInt8), no47 l → spl cur l = [cur ++ l]
  | [], cur, _ => by simp [spl]
  | c :: r, cur, h => by
    rw [spl_miss _ _ _ (h c (by simp)), spl_no r _ (fun b hb => h b (by simp [hb]))]
    simp
theorem spl_at : ∀ (l cur r : List UInt8), spl cur (l ++ 47 :: r) = spl cur l ++ spl [] r
  | [], cur, r => by rw [List.nil_append, spl_hit]; rfl
  | c :: l, cur, r => by
    rw [List.cons_append]
    by_cases h : c = 47
    · subst h; rw [spl_hit, spl_hit, spl_at l [] r]; rfl
    · rw [spl_miss _ _ _ h, spl_miss _ _ _ h, spl_at l _ r]
theorem spl_jn : ∀ (x : List UInt8) (xs : List (List UInt8)), (∀ y ∈ x :: xs, no47 y) → spl [] (jn (x :: xs)) = x :: xs
  | x, [], h => by
    have : jn [x] = x := by simp [jn]
    rw [this, spl_no _ _ (h x (by simp))]; rfl
  | x, y :: r, h => by
    rw [jn_cons2, spl_at, spl_no _ _ (h x (by simp)), spl_jn y r (fun z hz => h z (by simp only [List.mem_cons] at hz ⊢; exact .inr hz))]; rfl
theorem spl_ne (cur l : List UInt8) : spl cur l ≠ [] := by
  cases l with
  | nil => simp [spl]
  | cons c r =>
    unfold spl
    split
    · simp
    · obtain ⟨h, t, e, _⟩ := spl_ex r (cur ++ [c])
      rw [e]; simp
where
  spl_ex : ∀ (l cur : List UInt8), ∃ h t, spl cur l = h :: t ∧ True
  | [], cur => ⟨cur, [], rfl, trivial⟩
  | c :: r, cur => by
    unfold spl
    split
    · exact ⟨cur, _, rfl, trivial⟩
    · exact spl_ex r _
theorem jn_spl : ∀ (l cur : List UInt8), jn (spl cur l) = cur ++ l
  | [], cur => by simp [spl, jn]
  | c :: r, cur => by
    by_cases h : c = 47
    · subst h
      rw [spl_hit]
      have h1 := jn_spl r []
      cases hs : spl [] r with
      | nil => exact absurd hs (spl_ne _ _)
      | cons a t => rw [hs] at h1; rw [jn_cons2, h1]; rfl
    · rw [spl_miss _ _ _ h, jn_spl r]; simp
theorem spl_no47 : ∀ (l cur : List UInt8), no47 cur → ∀ y ∈ spl cur l, no47 y
  | [], cur, h, y, hy => by simp [spl] at hy; subst hy; exact h
  | c :: r, cur, h, y, hy => by
    by_cases hc : c = 47
    · subst hc
      rw [spl_hit] at hy
      rcases List.mem_cons.1 hy with rfl | hy
      · exact h
      · exact spl_no47 r [] (fun b hb => by simp at hb) y hy
    · rw [spl_miss _ _ _ hc] at hy
      refine spl_no47 r _ (fun b hb => ?_) y hy
      rcases List.mem_append.1 hb with hb | hb
      · exact h b hb
      · simp at hb; subst hb; exact hc

theorem map_data (xs : List (List UInt8)) : (xs.map mkS).map (·.data.toList) = xs := by
  rw [List.map_map]
  exact (List.map_congr_left (fun x _ => rfl)).trans (List.map_id _)
theorem map_mkS (xs : List ByteArray) : (xs.map (·.data.toList)).map mkS = xs := by
  rw [List.map_map]
  exact (List.map_congr_left (fun x _ => rfl)).trans (List.map_id _)
/-- A path is joined of its pieces. -/
theorem joinS_pieces (p : ByteArray) : joinS (pieces p) = p := by
  unfold pieces joinS
  by_cases h : p = ⟨#[]⟩
  · subst h; rfl
  · rw [if_neg h, map_data, jn_spl]; rfl
theorem pieces_inj {p q : ByteArray} (h : pieces p = pieces q) : p = q := by rw [← joinS_pieces p, h, joinS_pieces]
theorem pieces_emp {p : ByteArray} : pieces p = [] ↔ p = ⟨#[]⟩ := by
  constructor
  · intro h; exact pieces_inj (h.trans pieces_nil.symm)
  · rintro rfl; rfl
theorem emp_of {l : List UInt8} : mkS l = ⟨#[]⟩ ↔ l = [] := ⟨fun h => mkS_inj (h.trans rfl), fun h => by subst h; rfl⟩
theorem nameB_no47 {s : ByteArray} (h : nameB s = true) : no47 s.data.toList ∧ s.data.toList ≠ [] ∧ s.size ≤ 24 := by
  unfold nameB at h
  simp only [Bool.and_eq_true, decide_eq_true_eq, Bool.not_eq_true', decide_eq_false_iff_not] at h
  obtain ⟨⟨⟨⟨h1, h2⟩, _⟩, _⟩, h5⟩ := h
  refine ⟨fun b hb e => ?_, fun e => h2 ?_, h5⟩
  · have := List.all_eq_true.1 h1 b hb
    subst e; simp [okB] at this
  · rw [← mkS_of s, e]; rfl
/-- What is joined of names is split into them again. -/
theorem pieces_join {xs : List ByteArray} (h : ∀ x ∈ xs, nameB x = true) : pieces (joinS xs) = xs := by
  cases xs with
  | nil => rfl
  | cons a r =>
    have hne : joinS (a :: r) ≠ ⟨#[]⟩ := fun e => by
      have h1 := (nameB_no47 (h a (by simp))).2.1
      have h2 := emp_of.1 e
      simp [jn] at h2
      exact h1 (by simpa using h2.1)
    have e : (joinS (a :: r)).data.toList = jn (a.data.toList :: r.map (·.data.toList)) := rfl
    unfold pieces
    rw [if_neg hne, e, spl_jn _ _ (fun y hy => by
      have : y ∈ (a :: r).map (·.data.toList) := hy
      obtain ⟨x, hx, rfl⟩ := List.mem_map.1 this
      exact (nameB_no47 (h x hx)).1)]
    exact map_mkS (a :: r)

/-- One list begins with another one, and is longer. -/
def underP (x y : List ByteArray) : Bool := decide (y.length < x.length) && decide (x.take y.length = y)
/-- As the path says it. -/
def underH (p dir : ByteArray) : Bool := if dir = ⟨#[]⟩ then !decide (p = ⟨#[]⟩) else (dir.data.toList ++ [47]).isPrefixOf p.data.toList

theorem underH_eq (p dir : ByteArray) : underH p dir = underP (pieces p) (pieces dir) := by
  unfold underH
  by_cases hd : dir = ⟨#[]⟩
  · subst hd
    rw [if_pos rfl, pieces_nil]
    unfold underP
    by_cases hp : p = ⟨#[]⟩
    · subst hp; rfl
    · have : pieces p ≠ [] := fun e => hp (pieces_emp.1 e)
      have h2 : 0 < (pieces p).length := List.length_pos_iff.2 this
      simp [hp, h2]
  · rw [if_neg hd]
    rw [Bool.eq_iff_iff, List.isPrefixOf_iff_prefix]
    unfold underP
    rw [Bool.and_eq_true, decide_eq_true_eq, decide_eq_true_eq]
    constructor
    · rintro ⟨r, hr⟩
      have hp : p ≠ ⟨#[]⟩ := fun e => by subst e; simp at hr
      have e1 : pieces p = pieces dir ++ (spl [] r).map mkS := by
        unfold pieces
        rw [if_neg hp, if_neg hd, ← hr, List.append_assoc, List.singleton_append, spl_at, List.map_append]
      rw [e1]
      have := List.length_pos_iff.2 (spl_ne [] r)
      refine ⟨by simp; omega, by simp⟩
    · rintro ⟨h1, h2⟩
      have e : pieces p = pieces dir ++ (pieces p).drop (pieces dir).length := by
        conv => lhs; rw [← List.take_append_drop (pieces dir).length (pieces p)]
        rw [h2]
      have hne : (pieces p).drop (pieces dir).length ≠ [] := fun e => by
        have := congrArg List.length e
        rw [List.length_drop] at this; simp at this; omega
      have hdn : pieces dir ≠ [] := fun e => hd (pieces_emp.1 e)
      cases hq : (pieces p).drop (pieces dir).length with
      | nil => exact absurd hq hne
      | cons y ys =>
        cases hx : pieces dir with
        | nil => exact absurd hx hdn
        | cons x xs =>
          rw [hq, hx] at e
          have j1 := joinS_pieces p
          have j2 := joinS_pieces dir
          rw [e] at j1
          rw [hx] at j2
          have k1 : p.data.toList = jn ((x :: xs).map (·.data.toList)) ++ 47 :: jn ((y :: ys).map (·.data.toList)) := by
            rw [← j1, joinS_data, List.map_append]
            exact jn_app _ _ _ _
          have k2 : dir.data.toList = jn ((x :: xs).map (·.data.toList)) := by rw [← j2, joinS_data]
          exact ⟨jn ((y :: ys).map (·.data.toList)), by rw [k1, k2]; simp⟩
end Go.Proofs.Ytojcciciinklbaa
