/- Walks of what the link's statements call, the twelfth part: one step, as the document does it. No claim by itself. -/
import Derived.Test.YtigogjbngphadaaLink12
set_option linter.unusedSimpArgs false
set_option linter.unusedVariables false
namespace Go.Proofs.Ytigogjbngphadaa
open Go.RowKit

/-- No packet. -/
def noP : Pk := (0, ⟨#[]⟩)

/-- What one step comes to: the row, the packet, the error. -/
inductive Stp (a N M : Int) (y : UInt8) (bs : List UInt8) (xs : List Pk) : List Pk → Pk → Int → Prop
  | take (k : Nat) (h : a = 4) (hN : N = k) (hk : k < xs.length) : Stp a N M y bs xs (xs.take k ++ xs.drop (k + 1)) xs[k] 0
  | take0 (h : a = 4) (hN : ¬ (0 ≤ N ∧ N < xs.length)) : Stp a N M y bs xs xs noP 4
  | drop (k : Nat) (h : a = 5) (hN : N = k) (hk : k < xs.length) : Stp a N M y bs xs (xs.take k ++ xs.drop (k + 1)) noP 0
  | drop0 (h : a = 5) (hN : ¬ (0 ≤ N ∧ N < xs.length)) : Stp a N M y bs xs xs noP 4
  | copy (k : Nat) (h : a = 6) (hN : N = k) (hk : k < xs.length) : Stp a N M y bs xs (xs ++ [xs[k]]) noP 0
  | copy0 (h : a = 6) (hN : ¬ (0 ≤ N ∧ N < xs.length)) : Stp a N M y bs xs xs noP 4
  | late (k : Nat) (h : a = 7) (hN : N = k) (hk : k < xs.length) : Stp a N M y bs xs (lateL xs k hk) noP 0
  | late0 (h : a = 7) (hN : ¬ (0 ≤ N ∧ N < xs.length)) : Stp a N M y bs xs xs noP 4
  | turn (k p : Nat) (h : a = 8) (hN : N = k) (hk : k < xs.length) (hM : M = p) (hp : p < xs[k].2.size) : Stp a N M y bs xs (xs.set k (turnP xs[k] p y)) noP 0
  | turnr (k : Nat) (h : a = 8) (hN : N = k) (hk : k < xs.length) (hM : ¬ (0 ≤ M ∧ M < xs[k].2.size)) : Stp a N M y bs xs xs noP 3
  | turn0 (h : a = 8) (hN : ¬ (0 ≤ N ∧ N < xs.length)) : Stp a N M y bs xs xs noP 4
  | send (h4 : a ≠ 4) (h5 : a ≠ 5) (h6 : a ≠ 6) (h7 : a ≠ 7) (h8 : a ≠ 8) (hM : M = 0 ∨ M = 1) : Stp a N M y bs xs (xs ++ [(M, mkS (bs.take 20))]) noP 0
  | sendb (h4 : a ≠ 4) (h5 : a ≠ 5) (h6 : a ≠ 6) (h7 : a ≠ 7) (h8 : a ≠ 8) (h0 : M ≠ 0) (h1 : M ≠ 1) : Stp a N M y bs xs xs noP 1

theorem Stp.total (a N M : Int) (y : UInt8) (bs : List UInt8) (xs : List Pk) : ∃ ys p c, Stp a N M y bs xs ys p c := by
  have hin : (∃ k : Nat, N = k ∧ k < xs.length) ∨ ¬ (0 ≤ N ∧ N < xs.length) := by
    by_cases h : 0 ≤ N ∧ N < xs.length
    · obtain ⟨k, rfl⟩ := Int.eq_ofNat_of_zero_le h.1
      exact .inl ⟨k, rfl, by omega⟩
    · exact .inr h
  by_cases h4 : a = 4
  · rcases hin with ⟨k, hN, hk⟩ | hN
    · exact ⟨_, _, _, .take k h4 hN hk⟩
    · exact ⟨_, _, _, .take0 h4 hN⟩
  by_cases h5 : a = 5
  · rcases hin with ⟨k, hN, hk⟩ | hN
    · exact ⟨_, _, _, .drop k h5 hN hk⟩
    · exact ⟨_, _, _, .drop0 h5 hN⟩
  by_cases h6 : a = 6
  · rcases hin with ⟨k, hN, hk⟩ | hN
    · exact ⟨_, _, _, .copy k h6 hN hk⟩
    · exact ⟨_, _, _, .copy0 h6 hN⟩
  by_cases h7 : a = 7
  · rcases hin with ⟨k, hN, hk⟩ | hN
    · exact ⟨_, _, _, .late k h7 hN hk⟩
    · exact ⟨_, _, _, .late0 h7 hN⟩
  by_cases h8 : a = 8
  · rcases hin with ⟨k, hN, hk⟩ | hN
    · by_cases hp : 0 ≤ M ∧ M < xs[k].2.size
      · obtain ⟨p, hM⟩ := Int.eq_ofNat_of_zero_le hp.1
        exact ⟨_, _, _, .turn k p h8 hN hk hM (by omega)⟩
      · exact ⟨_, _, _, .turnr k h8 hN hk hp⟩
    · exact ⟨_, _, _, .turn0 h8 hN⟩
  by_cases hM : M = 0 ∨ M = 1
  · exact ⟨_, _, _, .send h4 h5 h6 h7 h8 hM⟩
  · exact ⟨_, _, _, .sendb h4 h5 h6 h7 h8 (fun h => hM (.inl h)) (fun h => hM (.inr h))⟩

/-- What is known of the row. -/
structure Good (n : Nat) (xs : List Pk) : Prop where
  len : xs.length ≤ n
  to : ∀ i (h : i < xs.length), xs[i].1 = 0 ∨ xs[i].1 = 1

theorem good_mem {n : Nat} {xs : List Pk} : Good n xs ↔ xs.length ≤ n ∧ ∀ x ∈ xs, x.1 = 0 ∨ x.1 = 1 := by
  constructor
  · intro h
    exact ⟨h.len, fun x hx => by obtain ⟨i, hi, rfl⟩ := List.mem_iff_getElem.1 hx; exact h.to i hi⟩
  · intro h
    exact ⟨h.1, fun i hi => h.2 _ (List.getElem_mem hi)⟩

theorem Stp.good {a N M : Int} {y : UInt8} {bs : List UInt8} {xs ys : List Pk} {p : Pk} {c : Int} {n : Nat} (h : Stp a N M y bs xs ys p c) (g : Good n xs) : Good (n + 1) ys := by
  rw [good_mem] at g ⊢
  obtain ⟨g1, g2⟩ := g
  cases h with
  | take k h hN hk => exact ⟨by simp; omega, fun x hx => g2 x (by rcases List.mem_append.1 hx with hx | hx; exact List.mem_of_mem_take hx; exact List.mem_of_mem_drop hx)⟩
  | drop k h hN hk => exact ⟨by simp; omega, fun x hx => g2 x (by rcases List.mem_append.1 hx with hx | hx; exact List.mem_of_mem_take hx; exact List.mem_of_mem_drop hx)⟩
  | copy k h hN hk => exact ⟨by simp; omega, fun x hx => g2 x (by rcases List.mem_append.1 hx with hx | hx; exact hx; simp at hx; subst hx; exact List.getElem_mem hk)⟩
  | late k h hN hk => exact ⟨by rw [lateL_len]; omega, fun x hx => g2 x (by
      unfold lateL at hx
      rcases List.mem_append.1 hx with hx | hx
      · rcases List.mem_append.1 hx with hx | hx
        · exact List.mem_of_mem_take hx
        · exact List.mem_of_mem_drop hx
      · simp at hx; subst hx; exact List.getElem_mem hk)⟩
  | turn k p h hN hk hM hp => exact ⟨by simp; omega, fun x hx => by
      rcases List.mem_or_eq_of_mem_set hx with hx | hx
      · exact g2 x hx
      · subst hx; exact g2 xs[k] (List.getElem_mem hk)⟩
  | send h4 h5 h6 h7 h8 hM => exact ⟨by simp; omega, fun x hx => by
      rcases List.mem_append.1 hx with hx | hx
      · exact g2 x hx
      · simp at hx; subst hx; exact hM⟩
  | _ => exact ⟨by omega, g2⟩

theorem box2 {w w1 : World} {o1 o2 : List Value} {t1 t2 : TypeId} (hX : Below ((w.alloc (.cells o1.toArray t1)).alloc (.cells o2.toArray t2)).heap.size ((w.alloc (.cells o1.toArray t1)).alloc (.cells o2.toArray t2)) w1) :
    w1.heap[w.heap.size]? = some (.cells o1.toArray t1 (0, 0)) ∧ w1.heap[w.heap.size + 1]? = some (.cells o2.toArray t2 (0, 0)) ∧ Below w.heap.size w w1 ∧ w.heap.size + 1 + 1 ≤ w1.heap.size := by
  have hs := hX.size
  simp at hs
  refine ⟨?_, ?_, (((Below.refl _ w).alloc (Nat.le_refl _) _).alloc (by simp) _).trans (hX.mono (by simp; omega)), by omega⟩
  · rw [hX.block _ (by simp; omega), Below.heap_alloc _ _ _ (by simp)]; exact heap_alloc_new w _
  · rw [hX.block _ (by simp)]
    have := heap_alloc_new (w.alloc (.cells o1.toArray t1)) (.cells o2.toArray t2)
    simpa using this
theorem pl_set {w : World} {b g j : Nat} {v u : Value} {xs : List Pk} (h : PL w b v xs) (hne : ∀ k, v.ownBlock = some k → k ≠ g) : PL (w.setCell ⟨g, j, none⟩ u) b v xs := Blk.kept h fun k hk => heap_ne _ _ _ (hne k hk)
end Go.Proofs.Ytigogjbngphadaa
