/- ArchWrites, walked: a tree's archive, and how many bytes it has, is the document's. No claim by itself. -/
import Derived.Test.YtojcciciinklbaaLives9
import Derived.Test.YtojcciciinklbaaWrite9
import Derived.Test.YtojcciciinklbaaRef12
import Derived.Test.YtojcciciinklbaaFlat6
import Derived.Test.YtojcciciinklbaaOpen
set_option linter.unusedSimpArgs false
set_option linter.unusedVariables false
namespace Go.Proofs.Ytojcciciinklbaa
open Go.RowKit

theorem rowW_len : ∀ (l : List Ent) (z : Int), (∀ e ∈ l, (ownW e.own).length ≤ 6000 ∧ e.deep ≤ 100) → (rowW l z).length ≤ l.length * 6101
  | [], _, _ => by simp [rowW]
  | e :: r, z, h => by
    have h1 := rowW_len r z fun x hx => h x (by simp [hx])
    have h2 := h e (by simp)
    have h3 : (entW e (nextD r z)).length ≤ 6101 := by
      unfold entW
      rw [List.length_append, List.length_append, List.length_replicate]
      have h4 : (if e.own.kind = 1 ∧ nextD r z ≤ (e.deep : Int) then [(0 : UInt8)] else []).length ≤ 1 := by split <;> simp
      omega
    rw [rowW, List.length_append, List.length_cons, Nat.add_mul]; omega
theorem row_facts (gs : List GV) : ∀ e ∈ rowF gs, e.deep ≤ 6 ∧ ownR e.own = true ∧ e.own.name.size ≤ 1000 := fun e he => by
  have h := (row_tree gs).own e he
  exact ⟨h.2, h.1, (rowF_small gs e he).1⟩
theorem made_facts (gs : List GV) : archB (madeF gs) = writeR (rowF gs) ∧ (archB (madeF gs)).length ≤ 100000 ∧ mayI (madeF gs) = 0 ∧ count (madeF gs) ≤ 13 ∧ namesOk (madeF gs) ∧ depth (madeF gs) ≤ 12 ∧ bulk (madeF gs) ≤ 1000000 := by
  have hl := row_len gs
  have hm : mayI (madeF gs) = 0 := (row_tree gs).mayI (by omega)
  have hf : flatN ⟨#[]⟩ 0 (madeF gs) = rowF gs := (row_tree gs).flat
  have hw := write_flat (madeF gs) ⟨#[]⟩ (dirs_may hm)
  rw [hf] at hw
  obtain ⟨s1, s2, s3, s4⟩ := row_small (row_pos gs) hl (rowF_small gs)
  refine ⟨hw.symm, ?_, hm, s1, s3, s2, s4⟩
  rw [← hw]
  unfold writeR
  have h1 := rowW_len (rowF gs) (-1) fun e he => by
    have h := row_facts gs e he
    exact ⟨ownW_len (own_facts h.2.1) h.2.2, by omega⟩
  have h2 : magicB.length = 4 := rfl
  rw [List.length_append]
  have h3 := Nat.mul_le_mul_right 6101 hl
  omega

set_option maxRecDepth 100000 in
set_option maxHeartbeats 8000000 in
theorem writes_walk (gs : List GV) (v : Value) (W : World) (hS : SliceR gR (Lw W) W gs v) :
    Calls Try.prog 12 #[v] W fun e w' => e = .returned (.bool true) ∧ Below W.heap.size W w' := by
  have HS := Lib.hid hS
  obtain ⟨f1, f2, f3, f4, f5, f6, _⟩ := made_facts gs
  have hrf := row_facts gs
  have hrl := row_len gs
  clear hS
  have c27 := cellsNode
  go_enter Try.func12, Try.ntmps12
  go_wp2_with fail
  refine (rmade_any gs v (Lw W) W HS.out (Lw_ok W)).mono ?_
  rintro e w3 ⟨cs3, L3, rfl, h3, x3⟩
  obtain ⟨m, Ad, cd, Aa, ca, Ak, ck, hm, rfl, hP, _, _, _, _, _, _⟩ := node_open h3
  obtain ⟨x, hx⟩ : ∃ x, x = madeF gs := ⟨_, rfl⟩
  rw [← hx] at h3 hP f1 f2 f3 f4 f5 f6 ⊢
  have H3 := Lib.hid h3; have HX3 := Lib.hid x3
  have HF1 := Lib.hid f1; have HF3 := Lib.hid f3; have HRF := Lib.hid hrf; have HF2 := Lib.hid f2
  clear h3 hP hm hx x3 f1 f3 f2 hrf
  unfold nodeV
  go_upto_region 2 with fail
  obtain ⟨w4, hw4⟩ : ∃ w4, w4 = w3.alloc (boxO x.own Ad cd Aa ca Ak x.kids.length ck) := ⟨_, rfl⟩
  have HX4 : Hid (Ext (Lw W) W L3 w4) := Lib.hid (by rw [hw4]; exact HX3.out.alloc _)
  have HB4 : Hid (Box1 w3 (boxO x.own Ad cd Aa ca Ak x.kids.length ck) w4) := Lib.hid (by rw [hw4]; exact box1)
  have H4 : Hid ((nodeR 13).R L3 w4 x (nodeV x.own (.slice Ad x.own.data.length cd) (.slice Aa x.own.attrs.length ca) (.slice Ak x.kids.length ck))) := Lib.hid ((nodeR 13).mono (sub_same (by rw [hw4]; exact (Below.refl _ _).alloc (Nat.le_refl _) _)) H3.out)
  have hlt4 : w3.heap.size < w4.heap.size := by rw [hw4]; simp
  unfold boxO at hw4
  rw [← hw4]
  clear hw4 H3 HX3
  obtain ⟨n0, n1, n2, n3, n4, n5, n6, n7, n8, n9, n10, n11⟩ := HB4.out.cells
  go_wp2_with fail
  refine (awrite_ok 13 x _ L3 w4 H4.out HX4.out.ok (by omega) HF3.out (by have := HF2.out; omega)).mono ?_
  rintro e w5 ⟨v5, rfl, hB5, hX5⟩
  obtain ⟨A5, c5, rfl, _, _⟩ := hB5.form
  obtain ⟨ab, hab⟩ : ∃ a, a = archB x := ⟨_, rfl⟩
  rw [← hab] at hB5 HF1 HF2 ⊢
  have Hab := Lib.hid hab
  have HB5 := Lib.hid hB5; have HX5 := Lib.hid hX5
  have HE5 := Lib.hid (HX4.out.trans (Ext.of_below HX4.out.ok hX5))
  have H5 : Hid ((nodeR 13).R L3 w5 x (nodeV x.own (.slice Ad x.own.data.length cd) (.slice Aa x.own.attrs.length ca) (.slice Ak x.kids.length ck))) := Lib.hid ((nodeR 13).mono (sub_same hX5) H4.out)
  obtain ⟨sx, hsx⟩ : ∃ z, z = mkS ab := ⟨_, rfl⟩
  have Hsx := Lib.hid hsx
  have HSt : Hid (∀ w', Below w5.heap.size w5 w' → (w'.cell? ⟨w3.heap.size, 0, none⟩ = some (.int .i64 x.own.kind) ∧ w'.cell? ⟨w3.heap.size, 1, none⟩ = some (.string x.own.name) ∧ w'.cell? ⟨w3.heap.size, 2, none⟩ = some (.int .i64 x.own.mode) ∧ w'.cell? ⟨w3.heap.size, 3, none⟩ = some (.int .i64 x.own.uid) ∧ w'.cell? ⟨w3.heap.size, 4, none⟩ = some (.int .i64 x.own.gid) ∧ w'.cell? ⟨w3.heap.size, 5, none⟩ = some (.int .i64 x.own.mtime) ∧ w'.cell? ⟨w3.heap.size, 6, none⟩ = some (.slice Ad x.own.data.length cd) ∧ w'.cell? ⟨w3.heap.size, 7, none⟩ = some (.string x.own.target) ∧ w'.cell? ⟨w3.heap.size, 8, none⟩ = some (.int .i64 x.own.major) ∧ w'.cell? ⟨w3.heap.size, 9, none⟩ = some (.int .i64 x.own.minor) ∧ w'.cell? ⟨w3.heap.size, 10, none⟩ = some (.slice Aa x.own.attrs.length ca) ∧ w'.cell? ⟨w3.heap.size, 11, none⟩ = some (.slice Ak x.kids.length ck) ∧ (convert 23 9 (.slice A5 ab.length c5)).run Try.prog w' = .ok (.string sx) w')) := Lib.hid (fun w' hb => by
    obtain ⟨n0, n1, n2, n3, n4, n5, n6, n7, n8, n9, n10, n11⟩ := HB4.out.cells
    have hb4 : Below w4.heap.size w4 w' := HX5.out.trans (hb.mono HX5.out.size)
    have kk : ∀ {j : Nat} {u : Value}, w4.cell? ⟨w3.heap.size, j, none⟩ = some u → w'.cell? ⟨w3.heap.size, j, none⟩ = some u := fun hu => (hb4.cell hlt4).trans hu
    have h := ((HB5.out.below hb).reads (d := Rp.byte) (L := fun _ _ => True) (xs := ab) (bytes_reps _ _ _) rfl (by have := HF2.out; simp only [big]; omega) (fun _ _ _ _ => trivial))
    exact ⟨kk n0, kk n1, kk n2, kk n3, kk n4, kk n5, kk n6, kk n7, kk n8, kk n9, kk n10, kk n11, by rw [hsx]; exact h.toStr (P := Try.prog) 23 5 9 Try.underlying23 Try.underlying5 Try.underlying9⟩)
  clear hB5 hX5 n0 n1 n2 n3 n4 n5 n6 n7 n8 n9 n10 n11 hab hsx HB4 HX4 H4
  go_upto_region 3 with fail
  obtain ⟨n0, n1, n2, n3, n4, n5, n6, n7, n8, n9, n10, n11, hcv⟩ := HSt.out w5 (Below.refl _ _)
  have HE5d : Hid (Ext (Lw W) W L3 w5.drew) := Lib.hid HE5.out.drew
  have HYd : Hid (Below w5.heap.size w5 w5.drew) := Lib.hid (Below.refl _ _).drew
  have hlt5 := HE5.out.below.size
  go_region_held3 (fun w' => w'.cell? ⟨w3.heap.size, 0, none⟩ = some (.int .i64 x.own.kind) ∧ w'.cell? ⟨w3.heap.size, 1, none⟩ = some (.string x.own.name) ∧ w'.cell? ⟨w3.heap.size, 2, none⟩ = some (.int .i64 x.own.mode) ∧ w'.cell? ⟨w3.heap.size, 3, none⟩ = some (.int .i64 x.own.uid) ∧ w'.cell? ⟨w3.heap.size, 4, none⟩ = some (.int .i64 x.own.gid) ∧ w'.cell? ⟨w3.heap.size, 5, none⟩ = some (.int .i64 x.own.mtime) ∧ w'.cell? ⟨w3.heap.size, 6, none⟩ = some (.slice Ad x.own.data.length cd) ∧ w'.cell? ⟨w3.heap.size, 7, none⟩ = some (.string x.own.target) ∧ w'.cell? ⟨w3.heap.size, 8, none⟩ = some (.int .i64 x.own.major) ∧ w'.cell? ⟨w3.heap.size, 9, none⟩ = some (.int .i64 x.own.minor) ∧ w'.cell? ⟨w3.heap.size, 10, none⟩ = some (.slice Aa x.own.attrs.length ca) ∧ w'.cell? ⟨w3.heap.size, 11, none⟩ = some (.slice Ak x.kids.length ck) ∧ (convert 23 9 (.slice A5 ab.length c5)).run Try.prog w' = .ok (.string sx) w')
    (first | with_reducible exact HSt.out _ HY11.out | with_reducible exact HSt.out _ HY10.out | with_reducible exact HSt.out _ HY9.out | with_reducible exact HSt.out _ HY7.out | with_reducible exact HSt.out _ HYd.out)
    (first
    | (go_at_call 19
       refine (rrow_any gs v L3 _ (HS.out.mono (Ext.sub (Lw_ok W) HE5d.out)) HE5d.out.ok).mono ?_
       rintro e w7 ⟨v7, cells7, L7, rfl, h7, x7⟩
       obtain ⟨L8, hS8, _, hX8, _⟩ := h7.publish_ext (HE5d.out.trans x7) (by first | exact hlt5 | simpa using hlt5) (by simp only [big]; omega)
       have HS8 := Lib.hid hS8; have HX8 := Lib.hid hX8
       have HY7 : Hid (Below w5.heap.size w5 w7) := Lib.hid (HYd.out.trans (by first | exact x7.below | simpa using x7.below))
       clear h7 x7 hS8 hX8)
    | (go_at_call 33
       refine (rwrite_any (rowF gs) v7 L8 _ HS8.out (by omega) (fun e he => by have := HRF.out e he; omega) (fun e he => (HRF.out e he).2)).mono ?_
       rintro e w9 ⟨v9, rfl, h9, y9⟩
       rw [← HF1.out] at h9
       obtain ⟨A9, c9, rfl, _, _⟩ := h9.form
       have hcv9 : (convert 23 9 (.slice A9 ab.length c9)).run Try.prog w9 = .ok (.string sx) w9 := by
         rw [Hsx.out]
         exact (h9.reads (d := Rp.byte) (L := fun _ _ => True) (xs := ab) (bytes_reps _ _ _) rfl (by have := HF2.out; simp only [big]; omega) (fun _ _ _ _ => trivial)).toStr (P := Try.prog) 23 5 9 Try.underlying23 Try.underlying5 Try.underlying9
       have HY9 : Hid (Below w5.heap.size w5 w9) := Lib.hid (HY7.out.trans (y9.mono HY7.out.size))
       clear h9 y9)
    | (go_at_call 41
       refine (asize_any 13 x _ L3 _ ((nodeR 13).mono (sub_same HY9.out) H5.out) (fun b i hb => Nat.lt_of_lt_of_le (HE5.out.ok b i hb) HY9.out.size) (by rw [← Hab.out]; have := HF2.out; omega)).mono ?_
       rintro e w10 ⟨rfl, y10⟩
       rw [← Hab.out]
       have HY10 : Hid (Below w5.heap.size w5 w10) := Lib.hid (HY9.out.trans (y10.mono HY9.out.size))
       clear y10)
    | (go_at_call 35
       refine (lives9_any _).mono ?_
       rintro e w11 ⟨rfl, y11⟩
       have HY11 : Hid (Below w5.heap.size w5 w11) := Lib.hid (HY10.out.trans (y11.mono HY10.out.size))
       clear y11))
  all_goals
    clear n0 n1 n2 n3 n4 n5 n6 n7 n8 n9 n10 n11 hcv
    go_wp2
    go_ret
    exact ⟨rfl, HE5.out.below.trans (by first | exact HY11.out.mono hlt5 | exact (bdn HY11.out _).mono hlt5 | exact HY11.out.drew.mono hlt5)⟩
end Go.Proofs.Ytojcciciinklbaa
