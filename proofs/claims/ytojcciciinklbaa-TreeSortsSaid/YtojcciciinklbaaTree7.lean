/- Walks: what a node's kind names of it. No claim by itself. -/
import Derived.Test.YtojcciciinklbaaTree6
set_option linter.unusedSimpArgs false
set_option linter.unusedVariables false
namespace Go.Proofs.Ytojcciciinklbaa
open Go.RowKit

/-- What a kind names of a node's own fields. -/
def plainO (o : Own) : Own := { o with data := if o.kind = 2 then o.data else [], target := if o.kind = 3 then o.target else ⟨#[]⟩, major := if o.kind = 4 then o.major else 0, minor := if o.kind = 4 then o.minor else 0 }
def plainN (x : Nd) : Nd := .mk (plainO x.own) (if x.own.kind = 1 then x.kids else [])
theorem plainO_fits {o : Own} (h : Fits o) : Fits (plainO o) := by
  obtain ⟨h1, h2, h3, h4, h5, h6, h7, h8, h9⟩ := h
  refine ⟨h1, h2, h3, h4, h5, ?_, ?_, h8, ?_⟩
  · unfold plainO; dsimp only; split
    · exact h6
    · unfold I64; omega
  · unfold plainO; dsimp only; split
    · exact h7
    · unfold I64; omega
  · unfold plainO; dsimp only; split
    · exact h9
    · simp [big, ByteArray.size]

/-- What plain's node is made of. -/
theorem plain_node {n : Nat} {L : Live} {w : World} {x : Nd} {vd va vk : Value} (h : NodeP n L w x vd va vk) :
    (nodeR (n + 1)).R L w (plainN x) (nodeV (plainO x.own) (if x.own.kind = 2 then vd else .slice none 0 0) va (if x.own.kind = 1 then vk else .slice none 0 0)) := by
  refine ⟨_, _, _, rfl, plainO_fits h.fits, ?_, h.attrs, ?_⟩
  · show SliceR _ _ _ (if x.own.kind = 2 then x.own.data else []) _
    split
    · exact h.data
    · exact SliceR.nil _ _ _
  · show SliceR _ _ _ (if x.own.kind = 1 then x.kids else []) _
    split
    · exact h.kids
    · exact SliceR.nil _ _ _

theorem three_mid (w : World) (o1 o2 o3 : Obj) : (((w.alloc o1).alloc o2).alloc o3).heap[w.heap.size + 1]? = some o2 := by
  rw [Below.heap_alloc _ _ _ (by simp)]
  have := heap_alloc_new (w.alloc o1) o2
  simpa using this
set_option maxRecDepth 100000 in
set_option maxHeartbeats 8000000 in
theorem plain_any (n : Nat) (x : Nd) (cs : List Value) (L : Live) (w : World) (h : (nodeR n).R L w x cs) :
    Calls Try.prog 96 #[.agg cs.toArray] w fun e w' => ∃ ds, e = .returned (.agg ds.toArray) ∧ (nodeR n).R L w' (plainN x) ds ∧ Below w.heap.size w w' := by
  obtain ⟨m, Ad, cd, Aa, ca, Ak, ck, hm, rfl, hP, d1, d2, a1, a2, k1, k2⟩ := node_open h
  obtain rfl := hm
  have HN := Lib.hid (plain_node hP)
  clear h hP
  have hx3 : ∀ o1 o2 o3, Below w.heap.size w (((w.alloc o1).alloc o2).alloc o3) := fun o1 o2 o3 => (((Below.refl _ _).alloc (Nat.le_refl _) _).alloc (by simp) _).alloc (by simp; omega) _
  have HX3 := Lib.hid hx3
  clear hx3
  obtain ⟨o, ho⟩ : ∃ o, o = x.own := ⟨_, rfl⟩
  have c27 := cellsNode
  unfold nodeV
  rw [← ho] at HN ⊢
  clear ho
  obtain ⟨b1, hb1⟩ : ∃ b, (o.kind == 1) = b := ⟨_, rfl⟩
  obtain ⟨b2, hb2⟩ : ∃ b, (o.kind == 2) = b := ⟨_, rfl⟩
  obtain ⟨b3, hb3⟩ : ∃ b, (o.kind == 3) = b := ⟨_, rfl⟩
  obtain ⟨b4, hb4⟩ : ∃ b, (o.kind == 4) = b := ⟨_, rfl⟩
  go_enter Try.func96, Try.ntmps96
  have K1 : Hid (o.kind = 1 ↔ b1 = true) := Lib.hid (by rw [← hb1]; simp)
  have K2 : Hid (o.kind = 2 ↔ b2 = true) := Lib.hid (by rw [← hb2]; simp)
  have K3 : Hid (o.kind = 3 ↔ b3 = true) := Lib.hid (by rw [← hb3]; simp)
  have K4 : Hid (o.kind = 4 ↔ b4 = true) := Lib.hid (by rw [← hb4]; simp)
  have X12 : Hid (b1 = true → b2 = false) := Lib.hid (by intro h; rw [h] at hb1; rw [← hb2]; simp at hb1 ⊢; omega)
  have X13 : Hid (b1 = true → b3 = false) := Lib.hid (by intro h; rw [h] at hb1; rw [← hb3]; simp at hb1 ⊢; omega)
  have X14 : Hid (b1 = true → b4 = false) := Lib.hid (by intro h; rw [h] at hb1; rw [← hb4]; simp at hb1 ⊢; omega)
  have X23 : Hid (b2 = true → b3 = false) := Lib.hid (by intro h; rw [h] at hb2; rw [← hb3]; simp at hb2 ⊢; omega)
  have X24 : Hid (b2 = true → b4 = false) := Lib.hid (by intro h; rw [h] at hb2; rw [← hb4]; simp at hb2 ⊢; omega)
  have X34 : Hid (b3 = true → b4 = false) := Lib.hid (by intro h; rw [h] at hb3; rw [← hb4]; simp at hb3 ⊢; omega)
  go_wp2_with fail
  all_goals first | (show bodyPost _ _ _ _ _ _; skip) | (go_region; all_goals (go_wp2_with fail))
  all_goals
    refine bodyPost_ret (results_row rfl _ rfl (three_mid _ _ _ _) Try.underlying27 rfl (by kernel_rfl)) rfl ?_
    first | (refine ⟨_, ?_, (nodeR _).mono (sub_same (HX3.out _ _ _)) HN.out, HX3.out _ _ _⟩) | (refine ⟨_, ?_, (nodeR _).mono (sub_same (HX3.out _ _ _).drew) HN.out, (HX3.out _ _ _).drew⟩)
    simp [nodeV, plainO, K1.out, K2.out, K3.out, K4.out, X12.out, X13.out, X14.out, X23.out, X24.out, X34.out, *]

theorem in_any (a b : Int) (w : World) : Calls Try.prog 91 #[.int .i64 a, .int .i64 b] w fun e w' => e = .returned (.bool (decide (0 ≤ a ∧ a ≤ b))) ∧ w = w' := by
  go_enter Try.func91, Try.ntmps91
  by_cases h0 : 0 ≤ a
  · by_cases h1 : a ≤ b
    · go_wp2
      go_ret
      exact ⟨ret_bool (by simp [*]), rfl⟩
    · go_wp2
      go_ret
      exact ⟨ret_bool (by simp [*] <;> omega), rfl⟩
  · go_wp2
    go_ret
    exact ⟨ret_bool (by simp [*] <;> omega), rfl⟩

theorem key_any (a b : ByteArray) (w : World) : Calls Try.prog 95 #[.agg #[.string a, .string b]] w fun e w' => e = .returned (.string a) ∧ Below w.heap.size w w' := by
  have hx : ∀ o1, Below w.heap.size w (w.alloc o1) := fun o1 => (Below.refl _ _).alloc (Nat.le_refl _) _
  go_enter Try.func95, Try.ntmps95
  go_wp2
  go_ret
  exact ⟨rfl, hx _⟩

theorem name_any' (o : Own) (vd va vk : Value) (w : World) : Calls Try.prog 75 #[.agg (nodeV o vd va vk).toArray] w fun e w' => e = .returned (.string o.name) ∧ Below w.heap.size w w' := by
  have hx : ∀ o1, Below w.heap.size w (w.alloc o1) := fun o1 => (Below.refl _ _).alloc (Nat.le_refl _) _
  unfold nodeV
  have c27 := cellsNode
  go_enter Try.func75, Try.ntmps75
  go_wp2
  go_ret
  exact ⟨rfl, hx _⟩
end Go.Proofs.Ytojcciciinklbaa
