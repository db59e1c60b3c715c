/- A region that draws its order, by what is known of each operation's value. No claim by itself. -/
import Derived.Test.YtojcciciinklbaaBase
import Derived.Orders
namespace Go.Proofs.Ytojcciciinklbaa
open Go.RowKit

section
variable {P : Program} {ops : Array Oper} {Q : Exit → Act → World → Prop}

/-- Each operation waits for such alone as stand ahead of it. -/
def upward (ops : Array Oper) : Bool := (List.range ops.size).all fun i => ((ops[i]?).map fun o => o.after.all fun e => decide (e.on < i)).getD true

theorem all_listed {listed : Array Bool} (hup : upward ops = true) (hs : listed.size = ops.size) (hr : Region.ready .any ops listed = []) : ∀ i, i < ops.size → listed.getD i true = true := by
  intro i
  induction i using Nat.strongRecOn with
  | ind i ih =>
    intro hi
    apply Classical.byContradiction
    intro hn
    have hn' : listed.getD i true = false := by simpa using hn
    have hmem : i ∈ Region.ready .any ops listed := by
      unfold Region.ready
      rw [List.mem_filter]
      refine ⟨List.mem_range.2 hi, ?_⟩
      simp only [hn', Bool.not_false, Bool.true_and]
      rw [Array.getElem?_eq_getElem hi]
      simp only [Option.map_some, Option.getD_some]
      rw [Array.all_eq_true']
      intro e he
      have hlt : e.on < i := by
        unfold upward at hup
        rw [List.all_eq_true] at hup
        have := hup i (List.mem_range.2 hi)
        rw [Array.getElem?_eq_getElem hi] at this
        simp only [Option.map_some, Option.getD_some] at this
        rw [Array.all_eq_true'] at this
        simpa using this e he
      have := ih e.on hlt (by omega)
      have hsz : e.on < listed.size := by omega
      rw [Array.getD_eq_getD_getElem?, Array.getElem?_eq_getElem hsz] at this ⊢
      simp only [Option.getD_some] at this ⊢
      simp [this]
    rw [hr] at hmem
    simp at hmem

/-- THE RULE: what is carried from operation to operation, whatever the order. -/
theorem wpAny_inv (hup : upward ops = true) (I : Array Bool → Act → World → Prop)
    (hstep : ∀ listed a w i, listed.size = ops.size → I listed a w → i ∈ Region.ready .any ops listed → wpOp P ops Q i (fun a' w' => I (listed.setIfInBounds i true) a' w') a w)
    (hend : ∀ listed a w, listed.size = ops.size → (∀ i, i < ops.size → listed.getD i true = true) → I listed a w → Q .normal a w) :
    ∀ (fuel : Nat) (listed : Array Bool) (a : Act) (w : World), listed.size = ops.size → (listed.toList.filter fun b => !b).length ≤ fuel → I listed a w → wpAny P .any ops Q fuel listed a w
  | 0, listed, a, w, hs, hf, hI => by
    have hr : Region.ready .any ops listed = [] := by
      unfold Region.ready
      rw [List.filter_eq_nil_iff]
      intro i hi
      have hi' : i < listed.size := by rw [hs]; exact List.mem_range.1 hi
      have hb : listed[i] = true := by
        apply Classical.byContradiction
        intro hn
        have h1 : listed[i] ∈ listed.toList.filter fun b => !b := by
          rw [List.mem_filter]
          exact ⟨by simp, by simpa using hn⟩
        have h2 : (listed.toList.filter fun b => !b) = [] := List.eq_nil_of_length_eq_zero (by omega)
        rw [h2] at h1
        simp at h1
      simp [Array.getD_eq_getD_getElem?, hi', hb]
    exact ⟨hr, hend listed a w hs (all_listed hup hs hr) hI⟩
  | fuel + 1, listed, a, w, hs, hf, hI => by
    refine ⟨fun hr => hend listed a w hs (all_listed hup hs hr) hI, fun i hi => ?_⟩
    refine wpOp_mono (fun a' w' hI' => ?_) (hstep listed a w i hs hI hi)
    refine wpAny_inv hup I hstep hend fuel _ a' w' (by simpa using hs) ?_ hI'
    unfold Region.ready at hi
    rw [List.mem_filter] at hi
    obtain ⟨hi1, hi2⟩ := hi
    have hi' : i < listed.size := by rw [hs]; exact List.mem_range.1 hi1
    have hb : listed[i] = false := by
      simp only [Bool.and_eq_true] at hi2
      have := hi2.1
      simpa [Array.getD_eq_getD_getElem?, hi'] using this
    have key : ∀ (l : List Bool) (j : Nat) (hj : j < l.length), l[j] = false → ((l.set j true).filter fun b => !b).length + 1 = (l.filter fun b => !b).length := by
      intro l
      induction l with
      | nil => intro j hj; simp at hj
      | cons b l ih =>
        intro j hj hb
        cases j with
        | zero => simp at hb; subst hb; simp
        | succ j =>
          have := ih j (by simpa using hj) (by simpa using hb)
          cases b <;> simp at this ⊢ <;> omega
    have := key listed.toList i (by simpa using hi') (by simpa using hb)
    rw [Array.toList_setIfInBounds]
    omega
end
end Go.Proofs.Ytojcciciinklbaa

/- A region that draws its order, by what each operation's slot is to hold. No claim by itself. -/
set_option linter.unusedVariables false
namespace Go.Proofs.Ytojcciciinklbaa
open Go.RowKit

/-- What the slots hold: of the operations that have been carried out, and all that the region does not write. -/
structure Slots (exp : List (Nat × Nat × Value)) (l0 : List Value) (listed : Array Bool) (a : Act) : Prop where
  size : a.tmps.size = l0.length
  defers : a.defers = []
  keep : ∀ j, (∀ t ∈ exp, t.2.1 ≠ j) → a.tmps.getD j undef = l0.getD j undef
  done : ∀ t ∈ exp, listed.getD t.1 true = true → a.tmps.getD t.2.1 undef = t.2.2

theorem put_get {a : Act} {d t : Nat} {v : Value} : (a.put (some d) v).tmps.getD t undef = if t = d ∧ d < a.tmps.size then v else a.tmps.getD t undef := by
  simp only [Act.put, Array.getD_eq_getD_getElem?, Array.getElem?_setIfInBounds]
  by_cases h : d = t
  · subst h
    by_cases h2 : d < a.tmps.size
    · simp [h2]
    · simp [h2]
  · simp [h, Ne.symm h]
theorem set_get {l : Array Bool} {i j : Nat} (h : i ≠ j) : (l.setIfInBounds i true).getD j true = l.getD j true := by
  simp [Array.getD_eq_getD_getElem?, Array.getElem?_setIfInBounds_ne h]
theorem Slots.put {exp : List (Nat × Nat × Value)} {l0 : List Value} {i d : Nat} {v : Value} {listed : Array Bool} {a : Act} (h : Slots exp l0 listed a) (hd : d < l0.length) (hm : (i, d, v) ∈ exp)
    (h1 : ∀ t ∈ exp, t.2.1 = d → t.2.2 = v) (h2 : ∀ t ∈ exp, t.1 = i → t.2.1 = d) : Slots exp l0 (listed.setIfInBounds i true) (a.put (some d) v) := by
  refine ⟨by simp [Act.put, h.size], h.defers, fun j hj => ?_, fun t ht hl => ?_⟩
  · rw [put_get, if_neg (fun e => hj _ hm e.1.symm)]; exact h.keep j hj
  · rw [put_get]
    by_cases e : t.2.1 = d
    · rw [if_pos ⟨e, by rw [h.size]; exact hd⟩]; exact (h1 t ht e).symm
    · rw [if_neg (fun e' => e e'.1)]
      refine h.done t ht ?_
      have hne : i ≠ t.1 := fun e' => e (h2 t ht e'.symm)
      rwa [set_get hne] at hl
/-- An operation that writes no slot. -/
theorem Slots.skip {exp : List (Nat × Nat × Value)} {l0 : List Value} {i : Nat} {v : Value} {listed : Array Bool} {a : Act} (h : Slots exp l0 listed a) (h2 : ∀ t ∈ exp, t.1 ≠ i) : Slots exp l0 (listed.setIfInBounds i true) (a.put none v) := by
  refine ⟨h.size, h.defers, h.keep, fun t ht hl => h.done t ht ?_⟩
  rwa [set_get (fun e => h2 t ht e.symm)] at hl
theorem Slots.start {exp : List (Nat × Nat × Value)} {l0 : List Value} {m : Nat} (hm : ∀ t ∈ exp, t.1 < m) : Slots exp l0 (Array.replicate m false) ⟨l0.toArray, []⟩ :=
  ⟨by simp, rfl, fun j _ => by simp [List.getD], fun t ht hl => by
    have := hm t ht
    simp [Array.getD_eq_getD_getElem?, this] at hl⟩
/-- One entry turned, that is not carried out yet. -/
theorem Slots.turn {exp exp' : List (Nat × Nat × Value)} {l0 : List Value} {listed : Array Bool} {a : Act} (h : Slots exp l0 listed a) (h1 : ∀ j, (∀ t ∈ exp', t.2.1 ≠ j) → ∀ t ∈ exp, t.2.1 ≠ j) (h2 : ∀ t ∈ exp', t ∈ exp ∨ listed.getD t.1 true = false) : Slots exp' l0 listed a :=
  ⟨h.size, h.defers, fun j hj => h.keep j (h1 j hj), fun t ht hl => by
    rcases h2 t ht with h3 | h3
    · exact h.done t h3 hl
    · rw [hl] at h3; cases h3⟩
def filled (exp : List (Nat × Nat × Value)) (l0 : List Value) : List Value := exp.foldl (fun l t => l.set t.2.1 t.2.2) l0
theorem filled_len : ∀ (exp : List (Nat × Nat × Value)) (l0 : List Value), (filled exp l0).length = l0.length
  | [], _ => rfl
  | t :: r, l0 => by
    have := filled_len r (l0.set t.2.1 t.2.2)
    simp only [filled, List.foldl_cons] at this ⊢
    rw [this]; simp
theorem filled_out : ∀ (exp : List (Nat × Nat × Value)) (l0 : List Value) (j : Nat), (∀ t ∈ exp, t.2.1 ≠ j) → (filled exp l0)[j]? = l0[j]?
  | [], _, _, _ => rfl
  | t :: r, l0, j, h => by
    have := filled_out r (l0.set t.2.1 t.2.2) j (fun t ht => h t (by simp [ht]))
    simp only [filled, List.foldl_cons] at this ⊢
    rw [this, List.getElem?_set_ne (h t (by simp))]
theorem filled_in : ∀ (exp : List (Nat × Nat × Value)) (l0 : List Value), (exp.map fun t => t.2.1).Nodup → (∀ t ∈ exp, t.2.1 < l0.length) → ∀ t ∈ exp, (filled exp l0)[t.2.1]? = some t.2.2
  | [], _, _, _, t, ht => by simp at ht
  | u :: r, l0, hn, hl, t, ht => by
    rw [List.map_cons, List.nodup_cons] at hn
    have hstep : filled (u :: r) l0 = filled r (l0.set u.2.1 u.2.2) := rfl
    rw [hstep]
    rcases List.mem_cons.1 ht with rfl | ht
    · rw [filled_out r _ _ (fun s hs e => hn.1 (by rw [← e]; exact List.mem_map.2 ⟨s, hs, rfl⟩))]
      rw [List.getElem?_set_self (hl t (by simp))]
    · exact filled_in r _ hn.2 (fun s hs => by rw [List.length_set]; exact hl s (by simp [hs])) t ht
/-- Behind the region: the whole frame. -/
theorem Slots.frame {exp : List (Nat × Nat × Value)} {l0 : List Value} {listed : Array Bool} {a : Act} (h : Slots exp l0 listed a) (hall : ∀ t ∈ exp, listed.getD t.1 true = true) (hn : (exp.map fun t => t.2.1).Nodup) (hl : ∀ t ∈ exp, t.2.1 < l0.length) : a = ⟨(filled exp l0).toArray, []⟩ := by
  obtain ⟨tmps, defers⟩ := a
  have hd : defers = [] := h.defers
  have hs : tmps.size = l0.length := h.size
  subst hd
  congr 1
  apply Array.ext
  · rw [hs]; simp [filled_len]
  · intro j h1 h2
    have e1 : tmps.getD j undef = tmps[j] := by simp [Array.getD, h1]
    rw [← e1]
    have e2 : (filled exp l0)[j]? = some ((filled exp l0).toArray[j]) := by simp at h2 ⊢
    by_cases hj : ∀ t ∈ exp, t.2.1 ≠ j
    · have h3 := h.keep j hj
      rw [filled_out _ _ _ hj] at e2
      simp only at h3
      rw [h3, List.getD, e2]; rfl
    · have ⟨t, ht, he⟩ : ∃ t ∈ exp, t.2.1 = j := by
        apply Classical.byContradiction; intro hc
        exact hj fun t ht e => hc ⟨t, ht, e⟩
      have h3 := h.done t ht (hall t ht)
      have h4 := filled_in exp l0 hn hl t ht
      rw [he] at h3 h4
      rw [h4] at e2
      rw [h3]; exact Option.some.inj e2
theorem nodup_uniq {α β : Type} {f : α → β} : ∀ {l : List α}, (l.map f).Nodup → ∀ {s t : α}, s ∈ l → t ∈ l → f s = f t → s = t
  | [], _, s, t, hs, _, _ => by simp at hs
  | u :: r, hn, s, t, hs, ht, e => by
    rw [List.map_cons, List.nodup_cons] at hn
    rcases List.mem_cons.1 hs with h1 | h1
    · rcases List.mem_cons.1 ht with h2 | h2
      · rw [h1, h2]
      · exact absurd (List.mem_map.2 ⟨t, h2, by rw [← e, h1]⟩) hn.1
    · rcases List.mem_cons.1 ht with h2 | h2
      · exact absurd (List.mem_map.2 ⟨s, h1, by rw [e, h2]⟩) hn.1
      · exact nodup_uniq hn.2 h1 h2 e
theorem Slots.put' {exp : List (Nat × Nat × Value)} {l0 : List Value} {i d : Nat} {v : Value} {listed : Array Bool} {a : Act} (h : Slots exp l0 listed a) (hn1 : (exp.map fun t => t.1).Nodup) (hn2 : (exp.map fun t => t.2.1).Nodup) (hl : ∀ t ∈ exp, t.2.1 < l0.length) (hm : (i, d, v) ∈ exp) :
    Slots exp l0 (listed.setIfInBounds i true) (a.put (some d) v) :=
  h.put (hl _ hm) hm (fun t ht e => by rw [nodup_uniq hn2 ht hm e]) (fun t ht e => by rw [nodup_uniq hn1 ht hm e])
theorem Slots.at_ {exp : List (Nat × Nat × Value)} {l0 : List Value} {i d : Nat} {v : Value} {listed : Array Bool} {a : Act} (h : Slots exp l0 listed a) (hm : (i, d, v) ∈ exp) (hl : listed.getD i true = true) : a.tmps[d]?.getD undef = v := by
  have := h.done _ hm hl
  simpa only [Array.getD_eq_getD_getElem?] using this
theorem Slots.at0 {exp : List (Nat × Nat × Value)} {l0 : List Value} {listed : Array Bool} {a : Act} (h : Slots exp l0 listed a) (j : Nat) (v : Value) (hj : j ∉ exp.map fun t => t.2.1) (hv : l0.getD j undef = v) : a.tmps[j]?.getD undef = v := by
  have := h.keep j (fun t ht e => hj (List.mem_map.2 ⟨t, ht, e⟩))
  rw [hv] at this
  simpa only [Array.getD_eq_getD_getElem?] using this
theorem ev_tmp {a : Act} {t : Nat} {v : Value} (h : a.tmps.getD t undef = v) : a.eval (.tmp t) = v := h

section
variable {P : Program} {ops : Array Oper} {Q : Exit → Act → World → Prop} {K : Act → World → Prop} {a : Act} {w : World}
theorem wpOp_plain {i : Nat} {o : Oper} (hi : ops[i]? = some o) (hg : o.guard = none) (h : o.wp P a w K Q) : wpOp P ops Q i K a w := by
  unfold wpOp
  rw [hi]
  simp only [Region.wanted, hg, if_true]
  exact .inl h
theorem wpOp_plain' {i : Nat} {o : Oper} (hi : ops[i]? = some o) (hg : o.guard = none) (h : ∀ K' : Act → World → Prop, (∀ a w, K a w → K' a w) → o.wp P a w K' Q) : wpOp P ops Q i K a w := wpOp_plain hi hg (h K fun _ _ h => h)
theorem wp_appB {o : Oper} (s x : Operand) (t e : TypeId) (ho : o.op = .call { callee := .builtin .append, args := #[s, x], argTypes := #[t, t] })
    (base : Nat) (z : Value) (size bytes : Nat) (ht : P.underlying t = some (.slice e)) (hinfo : (P.info? e).map (fun i => (i.zero, i.size, i.bytes)) = some (some z, size, bytes)) (hzs : z.cells.size = size) (hb0 : 0 < bytes)
    (w : World) (v : Value) (hs : a.eval s = v) (xv : Value) (hx : a.eval x = xv) (n : Nat) (cells : List Value) (hb : Blk w base e size v n cells) (m : Nat) (news : List Value) (hsrc : Src w xv m size news) (h1 : ∀ u ∈ news, u.oneCell' = true)
    (hbytes : (n + m) * bytes ≤ 140737488355328) (hbase : base ≤ w.heap.size)
    (h : ∀ v1 w1, Blk w1 base e size v1 (n + m) (cells ++ news) → w.grownBy w1 v.ownBlock → (v1.ownBlock = v.ownBlock ∨ v1.ownBlock = some w.heap.size) → K (a.put o.dst v1) w1) : o.wp P a w K Q := by
  obtain ⟨v', w', hrun, r1, r2, r3⟩ := run_append_blk (P := P) w base t o.type e z size bytes ht hinfo hzs v n cells hb xv m news hsrc h1 hb0 hbytes hbase
  unfold Oper.wp execOp
  simp only [ho, resolve, invoke, builtin, Sem.run_bind, Sem.run_pure, Result.andThen_ok, List.map_toArray, List.map_cons, List.map_nil, hs, hx, hrun]
  exact h v' w' r1 r2 r3
/-- What stands ready has not been carried out, and all that it waits for has. -/
theorem ready_of {listed : Array Bool} {i : Nat} (hs : listed.size = ops.size) (h : i ∈ Region.ready .any ops listed) : i < ops.size ∧ listed.getD i true = false ∧ ∀ o, ops[i]? = some o → ∀ e ∈ o.after, Region.binds .any e = true → listed.getD e.on true = true := by
  unfold Region.ready at h
  rw [List.mem_filter] at h
  obtain ⟨h1, h2⟩ := h
  have hi := List.mem_range.1 h1
  simp only [Bool.and_eq_true, Bool.not_eq_true'] at h2
  refine ⟨hi, ?_, fun o ho e he hb => ?_⟩
  · have := h2.1
    simpa [Array.getD_eq_getD_getElem?, show i < listed.size by omega] using this
  · have h3 := h2.2
    rw [ho] at h3
    simp only [Option.map_some, Option.getD_some] at h3
    rw [Array.all_eq_true'] at h3
    have := h3 e he
    simp only [hb, Bool.not_true, Bool.false_or] at this
    rw [Array.getD_eq_getD_getElem?] at this ⊢
    cases hx : listed[e.on]? with
    | none => rfl
    | some b => rw [hx] at this; simpa using this
end
end Go.Proofs.Ytojcciciinklbaa

/-! ### Guards; a frame that is named; one value that is known later -/
namespace Go.Proofs.Ytojcciciinklbaa
open Go.RowKit
section
variable {P : Program} {ops : Array Oper} {Q : Exit → Act → World → Prop} {K : Act → World → Prop} {a : Act} {w : World}
theorem yielded_of {g d : Nat} {og : Oper} {b : Bool} (hog : ops[g]? = some og) (hd : og.dst = some d) (he : a.tmps[d]?.getD undef = .bool b) : yielded ops a.tmps g = some b := by
  unfold yielded
  rw [hog]
  simp only [Option.bind_some, hd]
  cases hx : a.tmps[d]? with
  | none => rw [hx] at he; simp [undef] at he
  | some v => rw [hx] at he; simp only [Option.getD_some] at he; subst he; rfl
/-- Its guard is met. -/
theorem wpOp_on {i g d : Nat} {o og : Oper} {b : Bool} (hi : ops[i]? = some o) (hg : o.guard = some (g, b)) (hog : ops[g]? = some og) (hd : og.dst = some d) (he : a.tmps[d]?.getD undef = .bool b) (h : ∀ K' : Act → World → Prop, (∀ a w, K a w → K' a w) → o.wp P a w K' Q) : wpOp P ops Q i K a w := by
  have hw : Region.wanted o (yielded ops a.tmps) = true := by simp [Region.wanted, hg, yielded_of hog hd he]
  unfold wpOp
  rw [hi]
  simp only [hw, if_true]
  exact .inl (h K fun _ _ h => h)
/-- Its guard is not met. -/
theorem wpOp_off {i g d : Nat} {o og : Oper} {b : Bool} (hi : ops[i]? = some o) (hg : o.guard = some (g, b)) (hog : ops[g]? = some og) (hd : og.dst = some d) (he : a.tmps[d]?.getD undef = .bool (!b)) (h : K (a.put o.dst undef) w) : wpOp P ops Q i K a w := by
  have hw : Region.wanted o (yielded ops a.tmps) = false := by
    simp only [Region.wanted, hg, yielded_of hog hd he]
    cases b <;> rfl
  unfold wpOp
  rw [hi]
  simp only [hw]
  exact h
theorem Slots.skip' {exp : List (Nat × Nat × Value)} {l0 : List Value} {i : Nat} {v : Value} {listed : Array Bool} (h : Slots exp l0 listed a) {l : List Nat} (hE : (exp.map fun t => t.1) = l) (hn : i ∉ l) : Slots exp l0 (listed.setIfInBounds i true) (a.put none v) :=
  h.skip (fun t ht e => hn (by rw [← hE, ← e]; exact List.mem_map.2 ⟨t, ht, rfl⟩))
theorem set_self {l : Array Bool} {i : Nat} (h : i < l.size) : (l.setIfInBounds i true).getD i true = true := by
  simp [Array.getD_eq_getD_getElem?, h]
theorem wp_named {c : Code} (l0 : List Value) (h : ∀ l, l = l0 → c.wp P Q ⟨l.toArray, []⟩ w) : c.wp P Q ⟨l0.toArray, []⟩ w := h l0 rfl
theorem Slots.turn1 {P Q : List (Nat × Nat × Value)} {i d : Nat} {v v' : Value} {l0 : List Value} {listed : Array Bool} (h : Slots (P ++ (i, d, v) :: Q) l0 listed a) (hl : listed.getD i true = false) : Slots (P ++ (i, d, v') :: Q) l0 listed a := by
  refine h.turn (fun j hj t ht => ?_) (fun t ht => ?_)
  · rcases List.mem_append.1 ht with ht | ht
    · exact hj t (List.mem_append.2 (.inl ht))
    · rcases List.mem_cons.1 ht with rfl | ht
      · exact hj (i, d, v') (List.mem_append.2 (.inr (List.mem_cons.2 (.inl rfl))))
      · exact hj t (List.mem_append.2 (.inr (List.mem_cons.2 (.inr ht))))
  · rcases List.mem_append.1 ht with ht | ht
    · exact .inl (List.mem_append.2 (.inl ht))
    · rcases List.mem_cons.1 ht with rfl | ht
      · exact .inr hl
      · exact .inl (List.mem_append.2 (.inr (List.mem_cons.2 (.inr ht))))
end
end Go.Proofs.Ytojcciciinklbaa
