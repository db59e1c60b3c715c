/- Plain laws: trees turned round, trees sorted. No claim by itself. -/
import Derived.Test.YtojcciciinklbaaFlat6
set_option linter.unusedSimpArgs false
set_option linter.unusedVariables false
namespace Go.Proofs.Ytojcciciinklbaa
open Go.RowKit

mutual
/-- A node, with all kids turned round, at every depth. -/
def roundN : Nd → Nd
  | .mk o ks => .mk o (roundK ks)
def roundK : List Nd → List Nd
  | [] => []
  | x :: r => roundK r ++ [roundN x]
end
theorem roundN_eq (x : Nd) : roundN x = .mk x.own (roundK x.kids) := by cases x; rw [roundN]; rfl
theorem roundK_cons (x : Nd) (r : List Nd) : roundK (x :: r) = roundK r ++ [roundN x] := by rw [roundK]
theorem roundK_drop {ks : List Nd} {k : Nat} (h : k < ks.length) : roundK (ks.drop k) = roundK (ks.drop (k + 1)) ++ [roundN ks[k]] := by
  rw [List.drop_eq_getElem_cons h, roundK_cons]
mutual
theorem round_count : ∀ x : Nd, count (roundN x) = count x
  | .mk o ks => by rw [roundN, count, count, round_countL ks]
theorem round_countL : ∀ ks : List Nd, countL (roundK ks) = countL ks
  | [] => by rw [roundK]
  | .mk o ks :: r => by rw [roundK, countL_app, round_countL r, countL, countL, countL, round_count (.mk o ks)]; omega
end
theorem roundK_len : ∀ ks : List Nd, (roundK ks).length = ks.length
  | [] => by rw [roundK]
  | x :: r => by rw [roundK, List.length_append, roundK_len r]; simp
mutual
theorem round_bulk : ∀ x : Nd, bulk (roundN x) = bulk x
  | .mk o ks => by rw [roundN, bulk_eq, bulk_eq]; simp only [Nd.own, Nd.kids]; rw [round_bulkL ks]
theorem round_bulkL : ∀ ks : List Nd, bulkL (roundK ks) = bulkL ks
  | [] => by rw [roundK]
  | .mk o ks :: r => by rw [roundK, bulkL_app, round_bulkL r, bulkL, bulkL, bulkL, round_bulk (.mk o ks)]; omega
end

/-- How two names stand. -/
def leS (x y : ByteArray) : Prop := ltS y x = false
mutual
/-- A node whose kids are sorted, at every depth, by nodes whose kids are those of another one. -/
inductive SortRel : Nd → Nd → Prop where
  | mk {o : Own} {ks zs ys : List Nd} (h : Pairs ks zs) (hp : zs.Perm ys) (hs : ys.Pairwise fun a b => leS a.own.name b.own.name) : SortRel (.mk o ks) (.mk o ys)
inductive Pairs : List Nd → List Nd → Prop where
  | nil : Pairs [] []
  | cons {x y : Nd} {r s : List Nd} : SortRel x y → Pairs r s → Pairs (x :: r) (y :: s)
end
theorem SortRel.own {x y : Nd} (h : SortRel x y) : y.own = x.own := by cases h; rfl
theorem Pairs.len {xs ys : List Nd} (h : Pairs xs ys) : ys.length = xs.length := by
  induction xs generalizing ys with
  | nil => cases h; rfl
  | cons x r ih => cases h with | cons h1 h2 => simp [ih h2]
theorem pairs_app : ∀ {a b zs : List Nd}, Pairs (a ++ b) zs → ∃ z1 z2, zs = z1 ++ z2 ∧ Pairs a z1 ∧ Pairs b z2
  | [], b, zs, h => ⟨[], zs, rfl, .nil, h⟩
  | x :: a, b, zs, h => by
    rw [List.cons_append] at h
    cases h with
    | cons h1 h2 =>
      obtain ⟨z1, z2, rfl, h3, h4⟩ := pairs_app h2
      exact ⟨_ :: z1, z2, rfl, .cons h1 h3, h4⟩
theorem pairs_of : ∀ {xs ys : List Nd} (hl : ys.length = xs.length), (∀ i (h : i < xs.length), SortRel xs[i] (ys[i]'(by omega))) → Pairs xs ys
  | [], [], _, _ => .nil
  | x :: r, y :: s, hl, h => .cons (h 0 (by simp)) (pairs_of (by simpa using hl) fun i hi => h (i + 1) (by simpa using hi))
theorem pairs_same : ∀ {ks zs : List Nd}, (∀ k ∈ ks, ∀ y, SortRel k y → y = k) → Pairs ks zs → zs = ks
  | [], _, _, h => by cases h; rfl
  | x :: r, _, hk, h => by
    cases h with
    | cons h1 h2 => rw [hk x (by simp) _ h1, pairs_same (fun k hm => hk k (by simp [hm])) h2]
theorem pairs_round : ∀ {ks zs : List Nd}, (∀ k ∈ ks, ∀ y, SortRel (roundN k) y → y = k) → Pairs (roundK ks) zs → zs = ks.reverse
  | [], _, _, h => by rw [roundK] at h; cases h; rfl
  | x :: r, _, hk, h => by
    rw [roundK_cons] at h
    obtain ⟨z1, z2, rfl, h1, h2⟩ := pairs_app h
    rw [pairs_round (fun k hm => hk k (by simp [hm])) h1]
    cases h2 with
    | cons h3 h4 =>
      cases h4
      rw [hk x (by simp) _ h3, List.reverse_cons]
theorem sorted_one : ∀ {ks ys : List Nd}, (ks.Pairwise fun a b => ltS a.own.name b.own.name = true) → ks.Perm ys → (ys.Pairwise fun a b => leS a.own.name b.own.name) → ys = ks
  | [], ys, _, hp, _ => by simpa using hp.symm.eq_nil
  | x :: r, [], _, hp, _ => by have := hp.length_eq; simp at this
  | x :: r, y :: s, h1, hp, h2 => by
    rw [List.pairwise_cons] at h1 h2
    by_cases he : y = x
    · subst he
      rw [sorted_one h1.2 ((List.perm_cons _).1 hp) h2.2]
    · exfalso
      have hy : y ∈ r := by
        have := hp.symm.subset (List.mem_cons_self (a := y) (l := s))
        rcases List.mem_cons.1 this with h | h
        · exact absurd h he
        · exact h
      have hx : x ∈ s := by
        have := hp.subset (List.mem_cons_self (a := x) (l := r))
        rcases List.mem_cons.1 this with h | h
        · exact absurd h.symm he
        · exact h
      have h3 := h1.1 y hy
      have h4 : ltS x.own.name y.own.name = false := h2.1 x hx
      rw [h3] at h4; cases h4
theorem risesP_tail {α : Type} {f : α → ByteArray} {x : α} {r : List α} (h : risesP f (x :: r)) : risesP f r := fun j hj => h (j + 1) (by simp; omega)
theorem rises_ahead {α : Type} {f : α → ByteArray} : ∀ {r : List α} {x : α}, risesP f (x :: r) → ∀ y ∈ r, ltS (f x) (f y) = true
  | z :: r, x, h, y, hy => by
    have h0 : ltS (f x) (f z) = true := h 0 (by simp)
    rcases List.mem_cons.1 hy with rfl | hy
    · exact h0
    · exact ltS_trans h0 (rises_ahead (risesP_tail h) y hy)
theorem rises_pw {α : Type} {f : α → ByteArray} : ∀ {ks : List α}, risesP f ks → ks.Pairwise fun a b => ltS (f a) (f b) = true
  | [], _ => .nil
  | x :: r, h => .cons (rises_ahead h) (rises_pw (risesP_tail h))
theorem rises_pairs {ks : List Nd} (h : risesB (·.own.name) ks = true) : ks.Pairwise fun a b => ltS a.own.name b.own.name = true := rises_pw (risesB_true.1 h)
theorem sort_same : ∀ (n : Nat) (x : Nd), count x ≤ n → formB x = true → (∀ y, SortRel x y → y = x) ∧ (∀ y, SortRel (roundN x) y → y = x)
  | 0, x, hn, _ => by rw [count_eq] at hn; omega
  | n + 1, .mk o ks, hn, hf => by
    rw [formB_eq] at hf
    simp only [Bool.and_eq_true, Nd.kids] at hf
    have hr := rises_pairs hf.2
    have hk : ∀ k ∈ ks, (∀ y, SortRel k y → y = k) ∧ (∀ y, SortRel (roundN k) y → y = k) := fun k hk => by
      obtain ⟨i, hi, rfl⟩ := List.getElem_of_mem hk
      have hc := countL_mem hi
      rw [count_eq] at hn
      simp only [Nd.kids] at hn
      have hodd : ks.any oddN = false := by simpa using hf.1.2
      have := List.any_eq_false.1 hodd _ (List.getElem_mem hi)
      have h2 : formB ks[i] = true := by
        simp only [oddN, Bool.or_eq_true, Bool.not_eq_true', not_or, Bool.not_eq_false] at this
        exact this.2
      exact sort_same n ks[i] (by omega) h2
    refine ⟨fun y hy => ?_, fun y hy => ?_⟩
    · cases hy with
      | mk h hp hs =>
        rw [pairs_same (fun k hm => (hk k hm).1) h] at hp
        rw [sorted_one hr hp hs]
    · rw [roundN] at hy
      cases hy with
      | mk h hp hs =>
        rw [pairs_round (fun k hm => (hk k hm).2) h] at hp
        rw [sorted_one hr (ks.reverse_perm.symm.trans hp) hs]
end Go.Proofs.Ytojcciciinklbaa
