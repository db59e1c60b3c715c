/- A region that draws its order, where some edges bind one order alone; several slots turned at once. No claim by itself. -/
import Derived.Test.YtojcciciinklbaaSlots
set_option linter.unusedVariables false
namespace Go.Proofs.Ytojcciciinklbaa
open Go.RowKit

section
variable {P : Program} {ops : Array Oper} {Q : Exit → Act → World → Prop}

/-- Each operation waits for such alone as stand ahead of it. -/
def upward2 (ops : Array Oper) : Bool := (List.range ops.size).all fun i => ((ops[i]?).map fun o => o.after.all fun e => !Region.binds .any e || decide (e.on < i)).getD true

theorem all_listed2 {listed : Array Bool} (hup : upward2 ops = true) (hs : listed.size = ops.size) (hr : Region.ready .any ops listed = []) : ∀ i, i < ops.size → listed.getD i true = true := by
  intro i
  induction i using Nat.strongRecOn with
  | ind i ih =>
    intro hi
    apply Classical.byContradiction
    intro hn
    have hn' : listed.getD i true = false := by simpa using hn
    have hmem : i ∈ Region.ready .any ops listed := by
      unfold Region.ready
      rw [List.mem_filter]
      refine ⟨List.mem_range.2 hi, ?_⟩
      simp only [hn', Bool.not_false, Bool.true_and]
      rw [Array.getElem?_eq_getElem hi]
      simp only [Option.map_some, Option.getD_some]
      rw [Array.all_eq_true']
      intro e he
      cases hbe : Region.binds .any e with
      | false => simp
      | true =>
      have hlt : e.on < i := by
        unfold upward2 at hup
        rw [List.all_eq_true] at hup
        have := hup i (List.mem_range.2 hi)
        rw [Array.getElem?_eq_getElem hi] at this
        simp only [Option.map_some, Option.getD_some] at this
        rw [Array.all_eq_true'] at this
        have h5 := this e he
        rw [hbe] at h5
        simpa using h5
      have := ih e.on hlt (by omega)
      have hsz : e.on < listed.size := by omega
      rw [Array.getD_eq_getD_getElem?, Array.getElem?_eq_getElem hsz] at this ⊢
      simp only [Option.getD_some] at this ⊢
      simp [this]
    rw [hr] at hmem
    simp at hmem

/-- THE RULE: what is carried from operation to operation, whatever the order. -/
theorem wpAny_inv2 (hup : upward2 ops = true) (I : Array Bool → Act → World → Prop)
    (hstep : ∀ listed a w i, listed.size = ops.size → I listed a w → i ∈ Region.ready .any ops listed → wpOp P ops Q i (fun a' w' => I (listed.setIfInBounds i true) a' w') a w)
    (hend : ∀ listed a w, listed.size = ops.size → (∀ i, i < ops.size → listed.getD i true = true) → I listed a w → Q .normal a w) :
    ∀ (fuel : Nat) (listed : Array Bool) (a : Act) (w : World), listed.size = ops.size → (listed.toList.filter fun b => !b).length ≤ fuel → I listed a w → wpAny P .any ops Q fuel listed a w
  | 0, listed, a, w, hs, hf, hI => by
    have hr : Region.ready .any ops listed = [] := by
      unfold Region.ready
      rw [List.filter_eq_nil_iff]
      intro i hi
      have hi' : i < listed.size := by rw [hs]; exact List.mem_range.1 hi
      have hb : listed[i] = true := by
        apply Classical.byContradiction
        intro hn
        have h1 : listed[i] ∈ listed.toList.filter fun b => !b := by
          rw [List.mem_filter]
          exact ⟨by simp, by simpa using hn⟩
        have h2 : (listed.toList.filter fun b => !b) = [] := List.eq_nil_of_length_eq_zero (by omega)
        rw [h2] at h1
        simp at h1
      simp [Array.getD_eq_getD_getElem?, hi', hb]
    exact ⟨hr, hend listed a w hs (all_listed2 hup hs hr) hI⟩
  | fuel + 1, listed, a, w, hs, hf, hI => by
    refine ⟨fun hr => hend listed a w hs (all_listed2 hup hs hr) hI, fun i hi => ?_⟩
    refine wpOp_mono (fun a' w' hI' => ?_) (hstep listed a w i hs hI hi)
    refine wpAny_inv2 hup I hstep hend fuel _ a' w' (by simpa using hs) ?_ hI'
    unfold Region.ready at hi
    rw [List.mem_filter] at hi
    obtain ⟨hi1, hi2⟩ := hi
    have hi' : i < listed.size := by rw [hs]; exact List.mem_range.1 hi1
    have hb : listed[i] = false := by
      simp only [Bool.and_eq_true] at hi2
      have := hi2.1
      simpa [Array.getD_eq_getD_getElem?, hi'] using this
    have key : ∀ (l : List Bool) (j : Nat) (hj : j < l.length), l[j] = false → ((l.set j true).filter fun b => !b).length + 1 = (l.filter fun b => !b).length := by
      intro l
      induction l with
      | nil => intro j hj; simp at hj
      | cons b l ih =>
        intro j hj hb
        cases j with
        | zero => simp at hb; subst hb; simp
        | succ j =>
          have := ih j (by simpa using hj) (by simpa using hb)
          cases b <;> simp at this ⊢ <;> omega
    have := key listed.toList i (by simpa using hi') (by simpa using hb)
    rw [Array.toList_setIfInBounds]
    omega
end
theorem Slots.turnM {exp exp' : List (Nat × Nat × Value)} {l0 : List Value} {listed : Array Bool} {a : Act} (h : Slots exp l0 listed a) (hm : (exp'.map fun t => t.2.1) = exp.map fun t => t.2.1) (h2 : ∀ t ∈ exp', t ∈ exp ∨ listed.getD t.1 true = false) : Slots exp' l0 listed a :=
  h.turn (fun j hj t ht e => by
    have h1 : t.2.1 ∈ exp.map fun t => t.2.1 := List.mem_map.2 ⟨t, ht, rfl⟩
    rw [← hm] at h1
    obtain ⟨t', ht', he⟩ := List.mem_map.1 h1
    exact hj t' ht' (he.trans e)) h2

end Go.Proofs.Ytojcciciinklbaa
