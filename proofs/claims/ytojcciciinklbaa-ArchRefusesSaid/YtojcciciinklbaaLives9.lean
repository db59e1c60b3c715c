/- Walks: the document's example of an archive. No claim by itself. -/
import Derived.Test.YtojcciciinklbaaArchW
import Derived.Test.YtojcciciinklbaaOut
set_option linter.unusedSimpArgs false
set_option linter.unusedVariables false
namespace Go.Proofs.Ytojcciciinklbaa
open Go.RowKit

def ex9O : Own := ⟨1, ⟨#[]⟩, 0, 0, 0, 0, [], ⟨#[]⟩, 0, 0, []⟩
def ex9 : Nd := .mk ex9O []
def ex9B : List UInt8 := [76, 84, 82, 49, 1, 0, 0, 0, 0, 0, 0, 0, 0, 0, 0, 0, 0, 0, 0, 0, 0, 0, 0, 0, 0, 0]
theorem ex9_arch : archB ex9 = ex9B := by decide +kernel
def ex9E : Ent := ⟨0, ⟨#[]⟩, ex9O⟩
theorem ex9_tree : Tree1 [ex9E] := by
  refine ⟨⟨fun e he => ?_, List.pairwise_singleton _ _, fun e he hd => ?_⟩, ⟨ex9E, [], rfl, rfl, rfl, rfl⟩, fun e he => ?_⟩
  · simp only [List.mem_singleton] at he; subst he
    exact ⟨rfl, fun x hx => absurd hx (by simp [ex9E, pieces_nil]), fun h => absurd rfl h⟩
  · simp only [List.mem_singleton] at he; subst he; exact absurd rfl hd
  · simp only [List.mem_singleton] at he; subst he
    exact ⟨by decide, by decide⟩
theorem ex9_may : mayI ex9 = 0 := by
  have h := ex9_tree.mayI (by simp)
  have e : treeF [ex9E] = ex9 := by simp [treeF, forest_nil, ex9, ex9E]
  rw [e] at h; exact h
theorem i64_0 (n : Int) (h1 : -1000 ≤ n) (h2 : n ≤ 1000) : I64 n := by unfold I64; omega
set_option maxRecDepth 100000 in
set_option maxHeartbeats 4000000 in
theorem lives9_any (w : World) : Calls Try.prog 35 #[] w fun e w' => e = .returned (.bool true) ∧ Below w.heap.size w w' := by
  have c27 := cellsNode
  go_enter Try.func35, Try.ntmps35
  go_wp2_with fail
  have hR : (nodeR 1).R (fun _ _ => False) w ex9 (nodeV ex9O (.slice none 0 0) (.slice none 0 0) (.slice none 0 0)) :=
    ⟨_, _, _, rfl, ⟨i64_0 _ (by decide) (by decide), i64_0 _ (by decide) (by decide), i64_0 _ (by decide) (by decide), i64_0 _ (by decide) (by decide), i64_0 _ (by decide) (by decide), i64_0 _ (by decide) (by decide), i64_0 _ (by decide) (by decide), by decide, by decide⟩, SliceR.nil _ _ _, SliceR.nil _ _ _, SliceR.nil _ _ _⟩
  refine (awrite_ok 1 ex9 _ (fun _ _ => False) w hR (fun _ _ h => h.elim) (by decide) ex9_may (by rw [ex9_arch]; decide)).mono ?_
  rintro e w2 ⟨v, rfl, hB, hX⟩
  rw [ex9_arch] at hB
  obtain ⟨A, c, rfl, _, _⟩ := hB.form
  have hl : ex9B.length = 26 := rfl
  have hlb : (bytesV ex9B).length = 26 := rfl
  rw [hl] at hB ⊢
  have HX := Lib.hid hX
  have HB := Lib.hid hB
  have hcv : ∀ w', Below w2.heap.size w2 w' → (convert 23 9 (.slice A 26 c)).run Try.prog w' = .ok (.string (mkS ex9B)) w' := fun w' hb => by
    have h := ((HB.out.below hb).reads (d := Rp.byte) (L := fun _ _ => True) (xs := ex9B) (bytes_reps _ _ _) rfl (by decide) (fun _ _ _ _ => trivial))
    exact h.toStr (P := Try.prog) 23 5 9 Try.underlying23 Try.underlying5 Try.underlying9
  have HCV := Lib.hid hcv
  clear hB hX hl hlb hcv
  go_upto_region 2 with fail
  have hmk : ∀ w : World, (Instr.makeSlice 23 (.int .i64 21) (.int .i64 21)).run Try.prog w = .ok (.slice (some ⟨w.heap.size, 0, none⟩) 21 21) (w.alloc (.cells (bytesV (List.replicate 21 0)).toArray 5)) :=
    fun w => make_run 23 5 _ 1 1 21 _ Try.underlying23 Try.info5 (by decide) (by decide) (by kernel_rfl) w
  have hcv2 : ∀ (w : World) (b : Nat), b = w.heap.size → (convert 23 9 (.slice (some ⟨b, 0, none⟩) 21 21)).run Try.prog (w.alloc (.cells (bytesV (List.replicate 21 0)).toArray 5)) = .ok (.string (mkS (List.replicate 21 0))) (w.alloc (.cells (bytesV (List.replicate 21 0)).toArray 5)) := fun w b hb => by
    subst hb
    obtain ⟨L', h, _⟩ := slice_new (d := Rp.byte) 5 (bytes_reps (fun _ _ => False) w (List.replicate 21 0)) (fun _ _ h => h.elim) (by simp [big])
    have h' := h.toStr (P := Try.prog) 23 5 9 Try.underlying23 Try.underlying5 Try.underlying9
    rw [List.length_replicate] at h'
    exact h'
  obtain ⟨z, hz⟩ : ∃ z, z = (bytesV (List.replicate 21 0)).toArray := ⟨_, rfl⟩
  obtain ⟨s21, hs21⟩ : ∃ z, z = mkS (List.replicate 21 0) := ⟨_, rfl⟩
  obtain ⟨sx, hsx⟩ : ∃ z, z = mkS ex9B := ⟨_, rfl⟩
  rw [← hz] at hmk hcv2
  rw [← hs21] at hcv2
  rw [← hsx] at HCV
  have hcat : (⟨#[76, 84, 82, 49, 1]⟩ : ByteArray) ++ s21 = sx := by rw [hs21, hsx]; rfl
  have hsz : s21.size = 21 := by rw [hs21]; rfl
  clear hz hs21 hsx
  have hcv3 : ∀ (w : World) (b : Nat), b = w.heap.size → (convert 23 9 (.slice (some ⟨b, 0, none⟩) 21 21)).run Try.prog (w.alloc (.cells z 5)).drew = .ok (.string s21) (w.alloc (.cells z 5)).drew := fun w b hb => by
    have h := hcv2 w.drew b hb
    exact h
  have hcv4 : ∀ (w : World) (b : Nat), b = w.heap.size → (convert 23 9 (.slice (some ⟨b, 0, none⟩) 21 21)).run Try.prog (w.alloc (.cells z 5)).drew.drew = .ok (.string s21) (w.alloc (.cells z 5)).drew.drew := fun w b hb => by
    have h := hcv2 w.drew.drew b hb
    exact h
  have c0 := HCV.out w2 (Below.refl _ _)
  have c1 := HCV.out w2.drew (Below.refl _ _).drew
  have c2 := HCV.out w2.drew.drew (Below.refl _ _).drew.drew
  have c3 := HCV.out (w2.alloc (.cells z 5)) ((Below.refl _ _).alloc (Nat.le_refl _) _)
  have c4 := HCV.out (w2.alloc (.cells z 5)).drew ((Below.refl _ _).alloc (Nat.le_refl _) _).drew
  have c5 := HCV.out (w2.alloc (.cells z 5)).drew.drew ((Below.refl _ _).alloc (Nat.le_refl _) _).drew.drew
  go_region
  all_goals
    go_wp2
    go_ret
    refine ⟨rfl, HX.out.trans (Below.mono (B := w2.heap.size) ?_ HX.out.size)⟩
    repeat (first | exact Below.refl _ _ | exact bdn (Below.refl _ _) _ | refine Below.drew ?_ | refine bdn ?_ _ | refine Below.alloc ?_ (by simp) _)
end Go.Proofs.Ytojcciciinklbaa
