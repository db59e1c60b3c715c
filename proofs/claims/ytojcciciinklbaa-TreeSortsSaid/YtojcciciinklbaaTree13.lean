/- Walks: the document's example. No claim by itself. -/
import Derived.Test.YtojcciciinklbaaTree12
set_option linter.unusedSimpArgs false
set_option linter.unusedVariables false
namespace Go.Proofs.Ytojcciciinklbaa
open Go.RowKit

def exO (k : Int) (s : ByteArray) : Own := ⟨k, s, 0, 0, 0, 0, [], ⟨#[]⟩, 0, 0, []⟩
def exA : Nd := .mk (exO 2 ⟨#[97]⟩) []
def exN : Nd := .mk (exO 1 ⟨#[]⟩) [exA]
theorem exO_fits (k : Int) (s : ByteArray) (hk : I64 k) (hs : s.size ≤ big) : Fits (exO k s) := ⟨hk, by simp [exO, I64], by simp [exO, I64], by simp [exO, I64], by simp [exO, I64], by simp [exO, I64], by simp [exO, I64], hs, by simp [exO, ByteArray.size]⟩
theorem exN_bulk : bulk exN ≤ 1000000 := by simp [exN, exA, exO, bulk, bulkL]
theorem exN_names : namesOk exN := by simp [exN, exA, exO, namesOk, namesOkL, ByteArray.size]
theorem exN_count : count exN = 2 := by simp [exN, exA, count, countL]
theorem exN_depth : depth exN = 1 := by simp [exN, exA, depth, depthL]
theorem exN_walk : walkN ⟨#[]⟩ exN = [(⟨#[]⟩, .mk (exO 1 ⟨#[]⟩) []), (⟨#[97]⟩, exA)] := by
  simp [exN, exA, walkN, walkK, underS, Nd.own, exO]
theorem ownB_ex (k : Int) (s : ByteArray) (ks : List Nd) (hk : k = 1 ∨ (k = 2 ∧ ks = [])) : ownB (.mk (exO k s) ks) = true := by
  have h1 : headB (exO k s) = true := by
    rcases hk with rfl | ⟨rfl, rfl⟩ <;> simp [headB, exO, inB]
  have h2 : restB (exO k s) = true := by
    rcases hk with rfl | ⟨rfl, rfl⟩ <;> simp [restB, exO, inB, linkB]
  have h3 : midB (.mk (exO k s) ks) = true := by
    have hr : risesB (·.1) ([] : List (ByteArray × ByteArray)) = true := risesB_true.2 fun j hj => absurd hj (by simp)
    have he : eqB (Nd.mk (exO k s) ks) (plainN (.mk (exO k s) ks)) = true := eqB_true (by
      rcases hk with rfl | ⟨rfl, rfl⟩ <;> simp [plainN, plainO, exO, Nd.own, Nd.kids])
    simp only [midB, Nd.own, he]
    simp [exO, hr]
  simp [ownB, Nd.own, h1, h2, h3]
theorem nameB_a : nameB ⟨#[97]⟩ = true := by decide
theorem risesB_one {α : Type} (f : α → ByteArray) (x : α) : risesB f [x] = true := risesB_true.2 fun j hj => absurd hj (by simp)
theorem risesB_nil {α : Type} (f : α → ByteArray) : risesB f [] = true := risesB_true.2 fun j hj => absurd hj (by simp)
theorem exN_form : formB exN = true := by
  have h1 : formB exA = true := by simp [exA, formB, oddL, ownB_ex, risesB_nil]
  have h2 : oddN exA = false := by
    have h3 : nameB exA.own.name = true := nameB_a
    simp [oddN, h1, h3]
  rw [formB_eq]
  simp only [exN, Nd.kids]
  simp [ownB_ex, risesB_one, h2]
theorem exN_may : mayI exN = 0 := by
  simp [mayI, exN_form, exN_count, exN_depth]
  simp [rootB, exN, exO, Nd.own, ByteArray.size]

theorem entries_at {L : Live} {w : World} {xs : List (ByteArray × Nd)} {A : Option Addr} {n c : Nat} (h : SliceR entryR L w xs (.slice A n c)) (i : Nat) (hi : i < xs.length) : ∃ b off cs, A = some ⟨b, off, none⟩ ∧ w.cell? ⟨b, off + i * 13, none⟩ = some (.string xs[i].1) ∧ (nodeR 1).R L w xs[i].2 cs ∧ ∀ j u, cs[j]? = some u → w.cell? ⟨b, off + i * 13 + (j + 1), none⟩ = some u := by
  obtain ⟨b, off, cs, hA, ⟨cs', rfl, hb, hR⟩, hc⟩ := h.get (by decide) i hi
  refine ⟨b, off, cs', hA, (hc 0 _ rfl).1, hR, fun j u hu => (hc (j + 1) u ?_).1⟩
  simpa using hu

/-- The example, as it lies. -/
theorem exN_lies {L : Live} {w : World} (hok : LOk L w) : ∃ L', (nodeR 2).R L' ((w.alloc (boxO (exO 2 ⟨#[97]⟩) none 0 none 0 none 0 0)).alloc (boxO (exO 1 ⟨#[]⟩) none 0 none 0 (some ⟨w.heap.size, 0, none⟩) 1 1)) exN
      [.int .i64 1, .string ⟨#[]⟩, .int .i64 0, .int .i64 0, .int .i64 0, .int .i64 0, .slice none 0 0, .string ⟨#[]⟩, .int .i64 0, .int .i64 0, .slice none 0 0, .slice (some ⟨w.heap.size, 0, none⟩) 1 1] ∧
    Ext L w L' ((w.alloc (boxO (exO 2 ⟨#[97]⟩) none 0 none 0 none 0 0)).alloc (boxO (exO 1 ⟨#[]⟩) none 0 none 0 (some ⟨w.heap.size, 0, none⟩) 1 1)) := by
  have hA : (nodeR 1).R L w exA (nodeV (exO 2 ⟨#[97]⟩) (.slice none 0 0) (.slice none 0 0) (.slice none 0 0)) :=
    ⟨_, _, _, rfl, exO_fits 2 _ (by unfold I64; omega) (by simp [ByteArray.size, big]), SliceR.nil _ _ _, SliceR.nil _ _ _, SliceR.nil _ _ _⟩
  obtain ⟨L', h1, h2, _⟩ := slice_new (d := nodeR 1) 27 (Reps.single hA) hok (by simp [big])
  refine ⟨L', ?_, h2.alloc _⟩
  refine (nodeR 2).mono (sub_same ((Below.refl _ _).alloc (Nat.le_refl _) _)) ?_
  exact ⟨_, _, _, rfl, exO_fits 1 _ (by unfold I64; omega) (by simp [ByteArray.size, big]), SliceR.nil _ _ _, SliceR.nil _ _ _, h1⟩

set_option maxRecDepth 100000 in
set_option maxHeartbeats 4000000 in
theorem lives_any (w : World) : Calls Try.prog 17 #[] w fun e w' => e = .returned (.bool true) ∧ Below w.heap.size w w' := by
  have c27 := cellsNode
  obtain ⟨L1, hN, hX1⟩ := exN_lies (L := fun _ _ => False) (w := w) (fun _ _ h => h.elim)
  have HN := Lib.hid hN
  have HX1 := Lib.hid hX1
  have HB1 : Hid (Boxed w (boxO (exO 2 ⟨#[97]⟩) none 0 none 0 none 0 0) (boxO (exO 1 ⟨#[]⟩) none 0 none 0 (some ⟨w.heap.size, 0, none⟩) 1 1) ((w.alloc (boxO (exO 2 ⟨#[97]⟩) none 0 none 0 none 0 0)).alloc (boxO (exO 1 ⟨#[]⟩) none 0 none 0 (some ⟨w.heap.size, 0, none⟩) 1 1))) := Lib.hid boxed
  clear hN hX1
  go_enter Try.func17, Try.ntmps17
  go_wp2_with fail
  refine (Walk_any 2 exN _ L1 _ HN.out exN_bulk exN_names (by omega) HX1.out.ok).mono ?_
  rintro e w3 ⟨v, cells, L2, rfl, ho, hx⟩
  obtain ⟨L3, hS, _, hX3, _⟩ := ho.publish_ext hx (Nat.le_refl _) (by rw [exN_walk]; simp [big])
  obtain ⟨A, c, rfl, h2c, hc⟩ := ho.form
  rw [exN_walk] at hS h2c ⊢
  obtain ⟨b, o, cs0, rfl, p0, _, _⟩ := entries_at hS 0 (by simp)
  obtain ⟨b', o', cs1, he, p1, _, _⟩ := entries_at hS 1 (by simp)
  simp at he
  obtain ⟨rfl, rfl⟩ := he
  have HN3 := Lib.hid ((nodeR 2).mono (sub_same hx.below) HN.out)
  have HB3 := Lib.hid (HB1.out.step hx.below)
  have P0 := Lib.hid p0; have P1 := Lib.hid p1
  simp only [List.length_cons, List.length_nil] at h2c ⊢
  clear ho hx hX3 hS p0 p1 HN HX1 HB1
  obtain ⟨n0, n1, n2, n3, n4, n5, n6, n7, n8, n9, n10, n11⟩ := twelve (And.left (And.right HB3.out))
  simp only [exO] at n0 n1 n2 n3 n4 n5 n6 n7 n8 n9 n10 n11
  have Q0 : Hid (∀ w', Below w3.heap.size w3 w' → w'.cell? ⟨b, o, none⟩ = some (.string ⟨#[]⟩) ∧ w'.cell? ⟨b, o + 13, none⟩ = some (.string ⟨#[97]⟩)) := Lib.hid (fun w' hb => by
    have kk : ∀ {p : Addr} {u : Value}, w3.cell? p = some u → w'.cell? p = some u := fun hu => (hb.cell (World.block_lt_of_cell? w3 _ hu)).trans hu
    exact ⟨kk (by simpa using P0.out), kk (by simpa using P1.out)⟩)
  clear P0 P1
  go_wp2_with fail
  refine (may_any 2 exN _ L1 _ HN3.out (by rw [exN_count]; omega)).mono ?_
  rintro e w4 ⟨rfl, h4⟩
  rw [exN_may]
  have X4 := Lib.hid h4
  have HB4 := Lib.hid (HB3.out.step h4)
  have HN4 := Lib.hid ((nodeR 2).mono (sub_same h4) HN3.out)
  clear h4 n0 n1 n2 n3 n4 n5 n6 n7 n8 n9 n10 n11 HN3 HB3
  obtain ⟨n0, n1, n2, n3, n4, n5, n6, n7, n8, n9, n10, n11⟩ := twelve (And.left (And.right HB4.out))
  simp only [exO] at n0 n1 n2 n3 n4 n5 n6 n7 n8 n9 n10 n11
  go_wp2_with fail
  refine (count_any 2 exN _ L1 _ HN4.out (by rw [exN_count]; omega)).mono ?_
  rintro e w5 ⟨rfl, h5⟩
  rw [exN_count]
  have X5 := Lib.hid (X4.out.trans (h5.mono X4.out.size))
  have HB5 := Lib.hid (HB4.out.step h5)
  have HN5 := Lib.hid ((nodeR 2).mono (sub_same h5) HN4.out)
  clear h5 n0 n1 n2 n3 n4 n5 n6 n7 n8 n9 n10 n11 HN4 HB4
  obtain ⟨n0, n1, n2, n3, n4, n5, n6, n7, n8, n9, n10, n11⟩ := twelve (And.left (And.right HB5.out))
  simp only [exO] at n0 n1 n2 n3 n4 n5 n6 n7 n8 n9 n10 n11
  go_wp2_with fail
  refine (depth_any 2 exN _ L1 _ HN5.out (by rw [exN_count]; omega)).mono ?_
  rintro e w6 ⟨rfl, h6⟩
  rw [exN_depth]
  have X6 := Lib.hid (X5.out.trans (h6.mono X5.out.size))
  have HB6 := Lib.hid (HB5.out.step h6)
  obtain ⟨q0, q1⟩ := Q0.out _ X6.out
  clear h6 n0 n1 n2 n3 n4 n5 n6 n7 n8 n9 n10 n11 HN5 HB5
  go_wp2_with fail
  go_ret
  exact ⟨rfl, HB6.out.2.2.1⟩
end Go.Proofs.Ytojcciciinklbaa
