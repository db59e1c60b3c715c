/- ArchWrites, walked: a tree's archive, and how many bytes it has, is the document's. No claim by itself. -/
import Derived.Test.YtojcciciinklbaaLives9
import Derived.Test.YtojcciciinklbaaWrite9
import Derived.Test.YtojcciciinklbaaRef12
import Derived.Test.YtojcciciinklbaaFlat6
import Derived.Test.YtojcciciinklbaaOpen
import Derived.Test.YtojcciciinklbaaSlots
set_option linter.unusedSimpArgs false
set_option linter.unusedVariables false
namespace Go.Proofs.Ytojcciciinklbaa
open Go.RowKit

theorem rowW_len : ∀ (l : List Ent) (z : Int), (∀ e ∈ l, (ownW e.own).length ≤ 6000 ∧ e.deep ≤ 100) → (rowW l z).length ≤ l.length * 6101
  | [], _, _ => by simp [rowW]
  | e :: r, z, h => by
    have h1 := rowW_len r z fun x hx => h x (by simp [hx])
    have h2 := h e (by simp)
    have h3 : (entW e (nextD r z)).length ≤ 6101 := by
      unfold entW
      rw [List.length_append, List.length_append, List.length_replicate]
      have h4 : (if e.own.kind = 1 ∧ nextD r z ≤ (e.deep : Int) then [(0 : UInt8)] else []).length ≤ 1 := by split <;> simp
      omega
    rw [rowW, List.length_append, List.length_cons, Nat.add_mul]; omega
theorem row_facts (gs : List GV) : ∀ e ∈ rowF gs, e.deep ≤ 6 ∧ ownR e.own = true ∧ e.own.name.size ≤ 1000 := fun e he => by
  have h := (row_tree gs).own e he
  exact ⟨h.2, h.1, (rowF_small gs e he).1⟩
theorem made_facts (gs : List GV) : archB (madeF gs) = writeR (rowF gs) ∧ (archB (madeF gs)).length ≤ 100000 ∧ mayI (madeF gs) = 0 ∧ count (madeF gs) ≤ 13 ∧ namesOk (madeF gs) ∧ depth (madeF gs) ≤ 12 ∧ bulk (madeF gs) ≤ 1000000 := by
  have hl := row_len gs
  have hm : mayI (madeF gs) = 0 := (row_tree gs).mayI (by omega)
  have hf : flatN ⟨#[]⟩ 0 (madeF gs) = rowF gs := (row_tree gs).flat
  have hw := write_flat (madeF gs) ⟨#[]⟩ (dirs_may hm)
  rw [hf] at hw
  obtain ⟨s1, s2, s3, s4⟩ := row_small (row_pos gs) hl (rowF_small gs)
  refine ⟨hw.symm, ?_, hm, s1, s3, s2, s4⟩
  rw [← hw]
  unfold writeR
  have h1 := rowW_len (rowF gs) (-1) fun e he => by
    have h := row_facts gs e he
    exact ⟨ownW_len (own_facts h.2.1) h.2.2, by omega⟩
  have h2 : magicB.length = 4 := rfl
  rw [List.length_append]
  have h3 := Nat.mul_le_mul_right 6101 hl
  omega

set_option maxRecDepth 100000 in
set_option maxHeartbeats 8000000 in
theorem writes_walk (gs : List GV) (v : Value) (W : World) (hS : SliceR gR (Lw W) W gs v) :
    Calls Try.prog 12 #[v] W fun e w' => e = .returned (.bool true) ∧ Below W.heap.size W w' := by
  have HS := Lib.hid hS
  obtain ⟨f1, f2, f3, f4, f5, f6, _⟩ := made_facts gs
  have hrf := row_facts gs
  have hrl := row_len gs
  clear hS
  have c27 := cellsNode
  go_enter Try.func12, Try.ntmps12
  go_wp2_with fail
  refine (rmade_any gs v (Lw W) W HS.out (Lw_ok W)).mono ?_
  rintro e w3 ⟨cs3, L3, rfl, h3, x3⟩
  obtain ⟨m, Ad, cd, Aa, ca, Ak, ck, hm, rfl, hP, _, _, _, _, _, _⟩ := node_open h3
  obtain ⟨x, hx⟩ : ∃ x, x = madeF gs := ⟨_, rfl⟩
  rw [← hx] at h3 hP f1 f2 f3 f4 f5 f6 ⊢
  have H3 := Lib.hid h3; have HX3 := Lib.hid x3
  have HF1 := Lib.hid f1; have HF3 := Lib.hid f3; have HRF := Lib.hid hrf; have HF2 := Lib.hid f2
  clear h3 hP hm hx x3 f1 f3 f2 hrf
  unfold nodeV
  go_upto_region 2 with fail
  obtain ⟨w4, hw4⟩ : ∃ w4, w4 = w3.alloc (boxO x.own Ad cd Aa ca Ak x.kids.length ck) := ⟨_, rfl⟩
  have HX4 : Hid (Ext (Lw W) W L3 w4) := Lib.hid (by rw [hw4]; exact HX3.out.alloc _)
  have HB4 : Hid (Box1 w3 (boxO x.own Ad cd Aa ca Ak x.kids.length ck) w4) := Lib.hid (by rw [hw4]; exact box1)
  have H4 : Hid ((nodeR 13).R L3 w4 x (nodeV x.own (.slice Ad x.own.data.length cd) (.slice Aa x.own.attrs.length ca) (.slice Ak x.kids.length ck))) := Lib.hid ((nodeR 13).mono (sub_same (by rw [hw4]; exact (Below.refl _ _).alloc (Nat.le_refl _) _)) H3.out)
  have hlt4 : w3.heap.size < w4.heap.size := by rw [hw4]; simp
  unfold boxO at hw4
  rw [← hw4]
  clear hw4 H3 HX3
  obtain ⟨n0, n1, n2, n3, n4, n5, n6, n7, n8, n9, n10, n11⟩ := HB4.out.cells
  go_wp2_with fail
  refine (awrite_ok 13 x _ L3 w4 H4.out HX4.out.ok (by omega) HF3.out (by have := HF2.out; omega)).mono ?_
  rintro e w5 ⟨v5, rfl, hB5, hX5⟩
  obtain ⟨A5, c5, rfl, _, _⟩ := hB5.form
  obtain ⟨ab, hab⟩ : ∃ a, a = archB x := ⟨_, rfl⟩
  rw [← hab] at hB5 HF1 HF2 ⊢
  have Hab := Lib.hid hab
  have HB5 := Lib.hid hB5; have HX5 := Lib.hid hX5
  have HE5 := Lib.hid (HX4.out.trans (Ext.of_below HX4.out.ok hX5))
  have H5 : Hid ((nodeR 13).R L3 w5 x (nodeV x.own (.slice Ad x.own.data.length cd) (.slice Aa x.own.attrs.length ca) (.slice Ak x.kids.length ck))) := Lib.hid ((nodeR 13).mono (sub_same hX5) H4.out)
  obtain ⟨sx, hsx⟩ : ∃ z, z = mkS ab := ⟨_, rfl⟩
  have Hsx := Lib.hid hsx
  have HSt : Hid (∀ w', Below w5.heap.size w5 w' → (w'.cell? ⟨w3.heap.size, 0, none⟩ = some (.int .i64 x.own.kind) ∧ w'.cell? ⟨w3.heap.size, 1, none⟩ = some (.string x.own.name) ∧ w'.cell? ⟨w3.heap.size, 2, none⟩ = some (.int .i64 x.own.mode) ∧ w'.cell? ⟨w3.heap.size, 3, none⟩ = some (.int .i64 x.own.uid) ∧ w'.cell? ⟨w3.heap.size, 4, none⟩ = some (.int .i64 x.own.gid) ∧ w'.cell? ⟨w3.heap.size, 5, none⟩ = some (.int .i64 x.own.mtime) ∧ w'.cell? ⟨w3.heap.size, 6, none⟩ = some (.slice Ad x.own.data.length cd) ∧ w'.cell? ⟨w3.heap.size, 7, none⟩ = some (.string x.own.target) ∧ w'.cell? ⟨w3.heap.size, 8, none⟩ = some (.int .i64 x.own.major) ∧ w'.cell? ⟨w3.heap.size, 9, none⟩ = some (.int .i64 x.own.minor) ∧ w'.cell? ⟨w3.heap.size, 10, none⟩ = some (.slice Aa x.own.attrs.length ca) ∧ w'.cell? ⟨w3.heap.size, 11, none⟩ = some (.slice Ak x.kids.length ck) ∧ (convert 23 9 (.slice A5 ab.length c5)).run Try.prog w' = .ok (.string sx) w')) := Lib.hid (fun w' hb => by
    obtain ⟨n0, n1, n2, n3, n4, n5, n6, n7, n8, n9, n10, n11⟩ := HB4.out.cells
    have hb4 : Below w4.heap.size w4 w' := HX5.out.trans (hb.mono HX5.out.size)
    have kk : ∀ {j : Nat} {u : Value}, w4.cell? ⟨w3.heap.size, j, none⟩ = some u → w'.cell? ⟨w3.heap.size, j, none⟩ = some u := fun hu => (hb4.cell hlt4).trans hu
    have h := ((HB5.out.below hb).reads (d := Rp.byte) (L := fun _ _ => True) (xs := ab) (bytes_reps _ _ _) rfl (by have := HF2.out; simp only [big]; omega) (fun _ _ _ _ => trivial))
    exact ⟨kk n0, kk n1, kk n2, kk n3, kk n4, kk n5, kk n6, kk n7, kk n8, kk n9, kk n10, kk n11, by rw [hsx]; exact h.toStr (P := Try.prog) 23 5 9 Try.underlying23 Try.underlying5 Try.underlying9⟩)
  clear hB5 hX5 n0 n1 n2 n3 n4 n5 n6 n7 n8 n9 n10 n11 hab hsx HB4 HX4 H4
  go_upto_region 3 with fail
  refine wp_named _ ?_
  intro l0 hl0
  obtain ⟨E, hE⟩ : ∃ E : Value → Option Addr → Nat → List (Nat × Nat × Value), E = fun v7 A9 c9 => [(0, 13, .int .i64 0), (1, 14, .bool true), (2, 15, .bool true), (3, 16, .slice A5 ab.length c5), (4, 17, .string sx), (5, 18, v), (6, 19, v7), (7, 20, .slice A9 ab.length c9), (8, 21, .string sx), (9, 22, .bool true), (10, 23, .bool true), (11, 24, .bool true), (12, 25, .agg #[.int .i64 x.own.kind, .string x.own.name, .int .i64 x.own.mode, .int .i64 x.own.uid, .int .i64 x.own.gid, .int .i64 x.own.mtime, .slice Ad x.own.data.length cd, .string x.own.target, .int .i64 x.own.major, .int .i64 x.own.minor, .slice Aa x.own.attrs.length ca, .slice Ak x.kids.length ck]), (13, 26, .int .i64 (ab.length : Int)), (14, 27, .slice A5 ab.length c5), (15, 28, .int .i64 (ab.length : Int)), (16, 29, .bool true), (17, 30, .bool true), (18, 31, .bool true), (19, 32, .bool true), (20, 33, .bool true), (21, 2, .bool true)] := ⟨_, rfl⟩
  have hlen : l0.length = 34 := by rw [hl0]; rfl
  have hE1 : ∀ (v7 : Value) (A9 : Option Addr) (c9 : Nat), (E v7 A9 c9).map (fun t => t.1) = [0, 1, 2, 3, 4, 5, 6, 7, 8, 9, 10, 11, 12, 13, 14, 15, 16, 17, 18, 19, 20, 21] := fun v7 A9 c9 => by rw [hE]; rfl
  have hE2 : ∀ (v7 : Value) (A9 : Option Addr) (c9 : Nat), (E v7 A9 c9).map (fun t => t.2.1) = [13, 14, 15, 16, 17, 18, 19, 20, 21, 22, 23, 24, 25, 26, 27, 28, 29, 30, 31, 32, 33, 2] := fun v7 A9 c9 => by rw [hE]; rfl
  have m0 : ∀ (v7 : Value) (A9 : Option Addr) (c9 : Nat), (0, 13, (.int .i64 0 : Value)) ∈ E v7 A9 c9 := fun v7 A9 c9 => by rw [hE]; simp
  have m1 : ∀ (v7 : Value) (A9 : Option Addr) (c9 : Nat), (1, 14, (.bool true : Value)) ∈ E v7 A9 c9 := fun v7 A9 c9 => by rw [hE]; simp
  have m2 : ∀ (v7 : Value) (A9 : Option Addr) (c9 : Nat), (2, 15, (.bool true : Value)) ∈ E v7 A9 c9 := fun v7 A9 c9 => by rw [hE]; simp
  have m3 : ∀ (v7 : Value) (A9 : Option Addr) (c9 : Nat), (3, 16, (.slice A5 ab.length c5 : Value)) ∈ E v7 A9 c9 := fun v7 A9 c9 => by rw [hE]; simp
  have m4 : ∀ (v7 : Value) (A9 : Option Addr) (c9 : Nat), (4, 17, (.string sx : Value)) ∈ E v7 A9 c9 := fun v7 A9 c9 => by rw [hE]; simp
  have m5 : ∀ (v7 : Value) (A9 : Option Addr) (c9 : Nat), (5, 18, (v : Value)) ∈ E v7 A9 c9 := fun v7 A9 c9 => by rw [hE]; simp
  have m6 : ∀ (v7 : Value) (A9 : Option Addr) (c9 : Nat), (6, 19, (v7 : Value)) ∈ E v7 A9 c9 := fun v7 A9 c9 => by rw [hE]; simp
  have m7 : ∀ (v7 : Value) (A9 : Option Addr) (c9 : Nat), (7, 20, (.slice A9 ab.length c9 : Value)) ∈ E v7 A9 c9 := fun v7 A9 c9 => by rw [hE]; simp
  have m8 : ∀ (v7 : Value) (A9 : Option Addr) (c9 : Nat), (8, 21, (.string sx : Value)) ∈ E v7 A9 c9 := fun v7 A9 c9 => by rw [hE]; simp
  have m9 : ∀ (v7 : Value) (A9 : Option Addr) (c9 : Nat), (9, 22, (.bool true : Value)) ∈ E v7 A9 c9 := fun v7 A9 c9 => by rw [hE]; simp
  have m10 : ∀ (v7 : Value) (A9 : Option Addr) (c9 : Nat), (10, 23, (.bool true : Value)) ∈ E v7 A9 c9 := fun v7 A9 c9 => by rw [hE]; simp
  have m11 : ∀ (v7 : Value) (A9 : Option Addr) (c9 : Nat), (11, 24, (.bool true : Value)) ∈ E v7 A9 c9 := fun v7 A9 c9 => by rw [hE]; simp
  have m12 : ∀ (v7 : Value) (A9 : Option Addr) (c9 : Nat), (12, 25, (.agg #[.int .i64 x.own.kind, .string x.own.name, .int .i64 x.own.mode, .int .i64 x.own.uid, .int .i64 x.own.gid, .int .i64 x.own.mtime, .slice Ad x.own.data.length cd, .string x.own.target, .int .i64 x.own.major, .int .i64 x.own.minor, .slice Aa x.own.attrs.length ca, .slice Ak x.kids.length ck] : Value)) ∈ E v7 A9 c9 := fun v7 A9 c9 => by rw [hE]; simp
  have m13 : ∀ (v7 : Value) (A9 : Option Addr) (c9 : Nat), (13, 26, (.int .i64 (ab.length : Int) : Value)) ∈ E v7 A9 c9 := fun v7 A9 c9 => by rw [hE]; simp
  have m14 : ∀ (v7 : Value) (A9 : Option Addr) (c9 : Nat), (14, 27, (.slice A5 ab.length c5 : Value)) ∈ E v7 A9 c9 := fun v7 A9 c9 => by rw [hE]; simp
  have m15 : ∀ (v7 : Value) (A9 : Option Addr) (c9 : Nat), (15, 28, (.int .i64 (ab.length : Int) : Value)) ∈ E v7 A9 c9 := fun v7 A9 c9 => by rw [hE]; simp
  have m16 : ∀ (v7 : Value) (A9 : Option Addr) (c9 : Nat), (16, 29, (.bool true : Value)) ∈ E v7 A9 c9 := fun v7 A9 c9 => by rw [hE]; simp
  have m17 : ∀ (v7 : Value) (A9 : Option Addr) (c9 : Nat), (17, 30, (.bool true : Value)) ∈ E v7 A9 c9 := fun v7 A9 c9 => by rw [hE]; simp
  have m18 : ∀ (v7 : Value) (A9 : Option Addr) (c9 : Nat), (18, 31, (.bool true : Value)) ∈ E v7 A9 c9 := fun v7 A9 c9 => by rw [hE]; simp
  have m19 : ∀ (v7 : Value) (A9 : Option Addr) (c9 : Nat), (19, 32, (.bool true : Value)) ∈ E v7 A9 c9 := fun v7 A9 c9 => by rw [hE]; simp
  have m20 : ∀ (v7 : Value) (A9 : Option Addr) (c9 : Nat), (20, 33, (.bool true : Value)) ∈ E v7 A9 c9 := fun v7 A9 c9 => by rw [hE]; simp
  have m21 : ∀ (v7 : Value) (A9 : Option Addr) (c9 : Nat), (21, 2, (.bool true : Value)) ∈ E v7 A9 c9 := fun v7 A9 c9 => by rw [hE]; simp
  have hn1 : ∀ (v7 : Value) (A9 : Option Addr) (c9 : Nat), ((E v7 A9 c9).map fun t => t.1).Nodup := fun v7 A9 c9 => by rw [hE1]; decide
  have hn2 : ∀ (v7 : Value) (A9 : Option Addr) (c9 : Nat), ((E v7 A9 c9).map fun t => t.2.1).Nodup := fun v7 A9 c9 => by rw [hE2]; decide
  have hlt : ∀ (v7 : Value) (A9 : Option Addr) (c9 : Nat), ∀ t ∈ E v7 A9 c9, t.2.1 < l0.length := fun v7 A9 c9 => fun t ht => by
    have h1 : t.2.1 ∈ (E v7 A9 c9).map fun t => t.2.1 := List.mem_map.2 ⟨t, ht, rfl⟩
    rw [hE2] at h1
    rw [hlen]
    simp only [List.mem_cons, List.mem_nil_iff, or_false] at h1
    omega
  have Xm0 := Lib.hid m0
  have Xm1 := Lib.hid m1
  have Xm2 := Lib.hid m2
  have Xm3 := Lib.hid m3
  have Xm4 := Lib.hid m4
  have Xm5 := Lib.hid m5
  have Xm6 := Lib.hid m6
  have Xm7 := Lib.hid m7
  have Xm8 := Lib.hid m8
  have Xm9 := Lib.hid m9
  have Xm10 := Lib.hid m10
  have Xm11 := Lib.hid m11
  have Xm12 := Lib.hid m12
  have Xm13 := Lib.hid m13
  have Xm14 := Lib.hid m14
  have Xm15 := Lib.hid m15
  have Xm16 := Lib.hid m16
  have Xm17 := Lib.hid m17
  have Xm18 := Lib.hid m18
  have Xm19 := Lib.hid m19
  have Xm20 := Lib.hid m20
  have Xm21 := Lib.hid m21
  have Xhn1 := Lib.hid hn1; have Xhn2 := Lib.hid hn2; have Xhlt := Lib.hid hlt; have XhE1 := Lib.hid hE1; have XhE2 := Lib.hid hE2; have XhE := Lib.hid hE; have Xl0 := Lib.hid hl0
  clear m0 m1 m2 m3 m4 m5 m6 m7 m8 m9 m10 m11 m12 m13 m14 m15 m16 m17 m18 m19 m20 m21 hn1 hn2 hlt hE1 hE2 hE hlen hl0
  refine wp_region_any (by kernel_rfl) ?_
  refine wpAny_inv (by kernel_rfl) (fun listed a' w' => ∃ (v7 : Value) (A9 : Option Addr) (c9 : Nat), Slots (E v7 A9 c9) l0 listed a' ∧ Below w5.heap.size w5 w' ∧ (listed.getD 6 true = true → SliceR entR (fun _ _ => True) w' (rowF gs) v7) ∧ (listed.getD 7 true = true → SliceR Rp.byte (fun _ _ => True) w' ab (.slice A9 ab.length c9))) ?step ?fin _ _ _ _ ?hs ?hf ?init
  case hs => simp
  case hf => simp
  case init =>
    refine ⟨.slice none 0 0, none, 0, ?_, (Below.refl _ _).drew, fun h => ?_, fun h => ?_⟩
    · exact Slots.start (exp := E (.slice none 0 0) (none) (0)) (l0 := l0) (m := 22) (fun t ht => by
        have h1 : t.1 ∈ (E (.slice none 0 0) (none) (0)).map fun t => t.1 := List.mem_map.2 ⟨t, ht, rfl⟩
        rw [XhE1.out] at h1
        simp only [List.mem_cons, List.mem_nil_iff, or_false] at h1
        omega)
    · exact absurd (show (Array.replicate 22 false).getD 6 true = true from h) (by decide)
    · exact absurd (show (Array.replicate 22 false).getD 7 true = true from h) (by decide)
  case fin =>
    intro listed a' w' hls hall ⟨v7, A9, c9, hS, hB, _, _⟩
    have hf2 : a'.tmps.getD 2 undef = .bool true := hS.done _ (Xm21.out v7 A9 c9) (hall 21 (by show 21 < 22; decide))
    have hf3 : a'.defers = [] := hS.defers
    have HF2' := Lib.hid hf2; have HF3' := Lib.hid hf3
    clear hf2 hf3 hS
    go_wp2
    refine bodyPost_ret (results_tmp rfl _ _ _) HF3'.out ?_
    exact ⟨by rw [HF2'.out], HE5.out.below.trans (hB.mono HE5.out.below.size)⟩
  case step =>
    intro listed a' w' i hls hI hmem
    have hr := ready_of hls hmem
    have hi : i < 22 := hr.1
    have hcase : i = 0 ∨ i = 1 ∨ i = 2 ∨ i = 3 ∨ i = 4 ∨ i = 5 ∨ i = 6 ∨ i = 7 ∨ i = 8 ∨ i = 9 ∨ i = 10 ∨ i = 11 ∨ i = 12 ∨ i = 13 ∨ i = 14 ∨ i = 15 ∨ i = 16 ∨ i = 17 ∨ i = 18 ∨ i = 19 ∨ i = 20 ∨ i = 21 := by omega
    rcases hcase with rfl | rfl | rfl | rfl | rfl | rfl | rfl | rfl | rfl | rfl | rfl | rfl | rfl | rfl | rfl | rfl | rfl | rfl | rfl | rfl | rfl | rfl
    · obtain ⟨v7, A9, c9, hS, hB, hF0, hF1⟩ := hI
      have e5 := hS.at0 5 (.int .i64 0) (by rw [XhE2.out]; decide) (by rw [Xl0.out]; rfl)
      refine wpOp_plain' rfl rfl fun K' hK => ?_
      go_simp
      exact hK _ _ ⟨v7, A9, c9, hS.put' (Xhn1.out v7 A9 c9) (Xhn2.out v7 A9 c9) (Xhlt.out v7 A9 c9) (Xm0.out v7 A9 c9), hB, fun h => hF0 (by rwa [set_get (by decide)] at h), fun h => hF1 (by rwa [set_get (by decide)] at h)⟩
    · obtain ⟨v7, A9, c9, hS, hB, hF0, hF1⟩ := hI
      have d0 := hr.2.2 _ rfl ⟨0, .data⟩ (by simp) rfl
      have e13 := hS.at_ (Xm0.out v7 A9 c9) d0
      refine wpOp_plain' rfl rfl fun K' hK => ?_
      go_simp
      exact hK _ _ ⟨v7, A9, c9, hS.put' (Xhn1.out v7 A9 c9) (Xhn2.out v7 A9 c9) (Xhlt.out v7 A9 c9) (Xm1.out v7 A9 c9), hB, fun h => hF0 (by rwa [set_get (by decide)] at h), fun h => hF1 (by rwa [set_get (by decide)] at h)⟩
    · obtain ⟨v7, A9, c9, hS, hB, hF0, hF1⟩ := hI
      have d1 := hr.2.2 _ rfl ⟨1, .data⟩ (by simp) rfl
      have e14 := hS.at_ (Xm1.out v7 A9 c9) d1
      refine wpOp_plain' rfl rfl fun K' hK => ?_
      go_simp
      exact hK _ _ ⟨v7, A9, c9, hS.put' (Xhn1.out v7 A9 c9) (Xhn2.out v7 A9 c9) (Xhlt.out v7 A9 c9) (Xm2.out v7 A9 c9), hB, fun h => hF0 (by rwa [set_get (by decide)] at h), fun h => hF1 (by rwa [set_get (by decide)] at h)⟩
    · obtain ⟨v7, A9, c9, hS, hB, hF0, hF1⟩ := hI
      have e4 := hS.at0 4 (.slice A5 ab.length c5) (by rw [XhE2.out]; decide) (by rw [Xl0.out]; rfl)
      have dg := hr.2.2 _ rfl ⟨2, .guard⟩ (by simp) rfl
      have eg := hS.at_ (Xm2.out v7 A9 c9) dg
      refine wpOp_on rfl rfl rfl rfl eg fun K' hK => ?_
      go_simp
      exact hK _ _ ⟨v7, A9, c9, hS.put' (Xhn1.out v7 A9 c9) (Xhn2.out v7 A9 c9) (Xhlt.out v7 A9 c9) (Xm3.out v7 A9 c9), hB, fun h => hF0 (by rwa [set_get (by decide)] at h), fun h => hF1 (by rwa [set_get (by decide)] at h)⟩
    · obtain ⟨v7, A9, c9, hS, hB, hF0, hF1⟩ := hI
      obtain ⟨n0, n1, n2, n3, n4, n5, n6, n7, n8, n9, n10, n11, hcv⟩ := HSt.out w' hB
      have d3 := hr.2.2 _ rfl ⟨3, .data⟩ (by simp) rfl
      have e16 := hS.at_ (Xm3.out v7 A9 c9) d3
      have dg := hr.2.2 _ rfl ⟨2, .guard⟩ (by simp) rfl
      have eg := hS.at_ (Xm2.out v7 A9 c9) dg
      refine wpOp_on rfl rfl rfl rfl eg fun K' hK => ?_
      go_simp
      exact hK _ _ ⟨v7, A9, c9, hS.put' (Xhn1.out v7 A9 c9) (Xhn2.out v7 A9 c9) (Xhlt.out v7 A9 c9) (Xm4.out v7 A9 c9), hB, fun h => hF0 (by rwa [set_get (by decide)] at h), fun h => hF1 (by rwa [set_get (by decide)] at h)⟩
    · obtain ⟨v7, A9, c9, hS, hB, hF0, hF1⟩ := hI
      have e0 := hS.at0 0 (v) (by rw [XhE2.out]; decide) (by rw [Xl0.out]; rfl)
      have dg := hr.2.2 _ rfl ⟨2, .guard⟩ (by simp) rfl
      have eg := hS.at_ (Xm2.out v7 A9 c9) dg
      refine wpOp_on rfl rfl rfl rfl eg fun K' hK => ?_
      go_simp
      exact hK _ _ ⟨v7, A9, c9, hS.put' (Xhn1.out v7 A9 c9) (Xhn2.out v7 A9 c9) (Xhlt.out v7 A9 c9) (Xm5.out v7 A9 c9), hB, fun h => hF0 (by rwa [set_get (by decide)] at h), fun h => hF1 (by rwa [set_get (by decide)] at h)⟩
    · obtain ⟨v7, A9, c9, hS, hB, hF0, hF1⟩ := hI
      have d5 := hr.2.2 _ rfl ⟨5, .data⟩ (by simp) rfl
      have e18 := hS.at_ (Xm5.out v7 A9 c9) d5
      have dg := hr.2.2 _ rfl ⟨2, .guard⟩ (by simp) rfl
      have eg := hS.at_ (Xm2.out v7 A9 c9) dg
      refine wpOp_on rfl rfl rfl rfl eg fun K' hK => ?_
      go_simp
      refine (rrow_any gs v (Lw W) w' (HS.out.mono (sub_same (HE5.out.below.trans (hB.mono HE5.out.below.size)))) (fun b i h => Nat.lt_of_lt_of_le h (Nat.le_trans HE5.out.below.size hB.size))).mono ?_
      rintro e w1 ⟨v7', cells7, L7, rfl, h7, x7⟩
      obtain ⟨L8, hS8, _, _, _⟩ := h7.publish_ext x7 (Nat.le_refl _) (by simp only [big]; omega)
      have hS8' : SliceR entR (fun _ _ => True) w1 (rowF gs) v7' := hS8.mono (fun b i hb => ⟨trivial, fun u hu => hu⟩)
      have hS2 : Slots (E v7' A9 c9) l0 listed a' := by
        rw [XhE.out] at hS ⊢
        exact Slots.turn1 (P := [(0, 13, .int .i64 0), (1, 14, .bool true), (2, 15, .bool true), (3, 16, .slice A5 ab.length c5), (4, 17, .string sx), (5, 18, v)]) (Q := [(7, 20, .slice A9 ab.length c9), (8, 21, .string sx), (9, 22, .bool true), (10, 23, .bool true), (11, 24, .bool true), (12, 25, .agg #[.int .i64 x.own.kind, .string x.own.name, .int .i64 x.own.mode, .int .i64 x.own.uid, .int .i64 x.own.gid, .int .i64 x.own.mtime, .slice Ad x.own.data.length cd, .string x.own.target, .int .i64 x.own.major, .int .i64 x.own.minor, .slice Aa x.own.attrs.length ca, .slice Ak x.kids.length ck]), (13, 26, .int .i64 (ab.length : Int)), (14, 27, .slice A5 ab.length c5), (15, 28, .int .i64 (ab.length : Int)), (16, 29, .bool true), (17, 30, .bool true), (18, 31, .bool true), (19, 32, .bool true), (20, 33, .bool true), (21, 2, .bool true)]) hS hr.2.1
      exact hK _ _ ⟨v7', A9, c9, hS2.put' (Xhn1.out v7' A9 c9) (Xhn2.out v7' A9 c9) (Xhlt.out v7' A9 c9) (Xm6.out v7' A9 c9), hB.trans (x7.below.mono hB.size), fun _ => hS8', fun h => (hF1 (by rwa [set_get (by decide)] at h)).mono (sub_any x7.below)⟩
    · obtain ⟨v7, A9, c9, hS, hB, hF0, hF1⟩ := hI
      have d6 := hr.2.2 _ rfl ⟨6, .data⟩ (by simp) rfl
      have e19 := hS.at_ (Xm6.out v7 A9 c9) d6
      have dg := hr.2.2 _ rfl ⟨2, .guard⟩ (by simp) rfl
      have eg := hS.at_ (Xm2.out v7 A9 c9) dg
      refine wpOp_on rfl rfl rfl rfl eg fun K' hK => ?_
      go_simp
      refine (rwrite_any (rowF gs) v7 (fun _ _ => True) w' (hF0 d6) (by omega) (fun e he => by have := HRF.out e he; omega) (fun e he => (HRF.out e he).2)).mono ?_
      rintro e w1 ⟨v9, rfl, h9, y9⟩
      rw [← HF1.out] at h9
      obtain ⟨A9', c9', rfl, _, _⟩ := h9.form
      have hS9 : SliceR Rp.byte (fun _ _ => True) w1 ab (.slice A9' ab.length c9') := h9.reads (d := Rp.byte) (bytes_reps _ _ _) rfl (by have := HF2.out; simp only [big]; omega) (fun _ _ _ _ => trivial)
      have hS2 : Slots (E v7 A9' c9') l0 listed a' := by
        rw [XhE.out] at hS ⊢
        exact Slots.turn1 (P := [(0, 13, .int .i64 0), (1, 14, .bool true), (2, 15, .bool true), (3, 16, .slice A5 ab.length c5), (4, 17, .string sx), (5, 18, v), (6, 19, v7)]) (Q := [(8, 21, .string sx), (9, 22, .bool true), (10, 23, .bool true), (11, 24, .bool true), (12, 25, .agg #[.int .i64 x.own.kind, .string x.own.name, .int .i64 x.own.mode, .int .i64 x.own.uid, .int .i64 x.own.gid, .int .i64 x.own.mtime, .slice Ad x.own.data.length cd, .string x.own.target, .int .i64 x.own.major, .int .i64 x.own.minor, .slice Aa x.own.attrs.length ca, .slice Ak x.kids.length ck]), (13, 26, .int .i64 (ab.length : Int)), (14, 27, .slice A5 ab.length c5), (15, 28, .int .i64 (ab.length : Int)), (16, 29, .bool true), (17, 30, .bool true), (18, 31, .bool true), (19, 32, .bool true), (20, 33, .bool true), (21, 2, .bool true)]) hS hr.2.1
      exact hK _ _ ⟨v7, A9', c9', hS2.put' (Xhn1.out v7 A9' c9') (Xhn2.out v7 A9' c9') (Xhlt.out v7 A9' c9') (Xm7.out v7 A9' c9'), hB.trans (y9.mono hB.size), fun h => (hF0 (by rwa [set_get (by decide)] at h)).mono (sub_any y9), fun _ => hS9⟩
    · obtain ⟨v7, A9, c9, hS, hB, hF0, hF1⟩ := hI
      obtain ⟨n0, n1, n2, n3, n4, n5, n6, n7, n8, n9, n10, n11, hcv⟩ := HSt.out w' hB
      have d7 := hr.2.2 _ rfl ⟨7, .data⟩ (by simp) rfl
      have e20 := hS.at_ (Xm7.out v7 A9 c9) d7
      have dg := hr.2.2 _ rfl ⟨2, .guard⟩ (by simp) rfl
      have eg := hS.at_ (Xm2.out v7 A9 c9) dg
      refine wpOp_on rfl rfl rfl rfl eg fun K' hK => ?_
      have hcv9 : (convert 23 9 (.slice A9 ab.length c9)).run Try.prog w' = .ok (.string sx) w' := by rw [Hsx.out]; exact (hF1 d7).toStr (P := Try.prog) 23 5 9 Try.underlying23 Try.underlying5 Try.underlying9
      go_simp
      skip
      exact hK _ _ ⟨v7, A9, c9, hS.put' (Xhn1.out v7 A9 c9) (Xhn2.out v7 A9 c9) (Xhlt.out v7 A9 c9) (Xm8.out v7 A9 c9), hB, fun h => hF0 (by rwa [set_get (by decide)] at h), fun h => hF1 (by rwa [set_get (by decide)] at h)⟩
    · obtain ⟨v7, A9, c9, hS, hB, hF0, hF1⟩ := hI
      have d4 := hr.2.2 _ rfl ⟨4, .data⟩ (by simp) rfl
      have e17 := hS.at_ (Xm4.out v7 A9 c9) d4
      have d8 := hr.2.2 _ rfl ⟨8, .data⟩ (by simp) rfl
      have e21 := hS.at_ (Xm8.out v7 A9 c9) d8
      have dg := hr.2.2 _ rfl ⟨2, .guard⟩ (by simp) rfl
      have eg := hS.at_ (Xm2.out v7 A9 c9) dg
      refine wpOp_on rfl rfl rfl rfl eg fun K' hK => ?_
      go_simp
      exact hK _ _ ⟨v7, A9, c9, hS.put' (Xhn1.out v7 A9 c9) (Xhn2.out v7 A9 c9) (Xhlt.out v7 A9 c9) (Xm9.out v7 A9 c9), hB, fun h => hF0 (by rwa [set_get (by decide)] at h), fun h => hF1 (by rwa [set_get (by decide)] at h)⟩
    · obtain ⟨v7, A9, c9, hS, hB, hF0, hF1⟩ := hI
      have d2 := hr.2.2 _ rfl ⟨2, .data⟩ (by simp) rfl
      have e15 := hS.at_ (Xm2.out v7 A9 c9) d2
      have d9 := hr.2.2 _ rfl ⟨9, .data⟩ (by simp) rfl
      have e22 := hS.at_ (Xm9.out v7 A9 c9) d9
      refine wpOp_plain' rfl rfl fun K' hK => ?_
      go_simp
      exact hK _ _ ⟨v7, A9, c9, hS.put' (Xhn1.out v7 A9 c9) (Xhn2.out v7 A9 c9) (Xhlt.out v7 A9 c9) (Xm10.out v7 A9 c9), hB, fun h => hF0 (by rwa [set_get (by decide)] at h), fun h => hF1 (by rwa [set_get (by decide)] at h)⟩
    · obtain ⟨v7, A9, c9, hS, hB, hF0, hF1⟩ := hI
      have d10 := hr.2.2 _ rfl ⟨10, .data⟩ (by simp) rfl
      have e23 := hS.at_ (Xm10.out v7 A9 c9) d10
      refine wpOp_plain' rfl rfl fun K' hK => ?_
      go_simp
      exact hK _ _ ⟨v7, A9, c9, hS.put' (Xhn1.out v7 A9 c9) (Xhn2.out v7 A9 c9) (Xhlt.out v7 A9 c9) (Xm11.out v7 A9 c9), hB, fun h => hF0 (by rwa [set_get (by decide)] at h), fun h => hF1 (by rwa [set_get (by decide)] at h)⟩
    · obtain ⟨v7, A9, c9, hS, hB, hF0, hF1⟩ := hI
      obtain ⟨n0, n1, n2, n3, n4, n5, n6, n7, n8, n9, n10, n11, hcv⟩ := HSt.out w' hB
      have e3 := hS.at0 3 (.pointer (some ⟨w3.heap.size, 0, none⟩)) (by rw [XhE2.out]; decide) (by rw [Xl0.out]; rfl)
      have dg := hr.2.2 _ rfl ⟨11, .guard⟩ (by simp) rfl
      have eg := hS.at_ (Xm11.out v7 A9 c9) dg
      refine wpOp_on rfl rfl rfl rfl eg fun K' hK => ?_
      go_simp
      exact hK _ _ ⟨v7, A9, c9, hS.put' (Xhn1.out v7 A9 c9) (Xhn2.out v7 A9 c9) (Xhlt.out v7 A9 c9) (Xm12.out v7 A9 c9), hB, fun h => hF0 (by rwa [set_get (by decide)] at h), fun h => hF1 (by rwa [set_get (by decide)] at h)⟩
    · obtain ⟨v7, A9, c9, hS, hB, hF0, hF1⟩ := hI
      have d12 := hr.2.2 _ rfl ⟨12, .data⟩ (by simp) rfl
      have e25 := hS.at_ (Xm12.out v7 A9 c9) d12
      have dg := hr.2.2 _ rfl ⟨11, .guard⟩ (by simp) rfl
      have eg := hS.at_ (Xm11.out v7 A9 c9) dg
      refine wpOp_on rfl rfl rfl rfl eg fun K' hK => ?_
      go_simp
      refine (asize_any 13 x _ L3 w' ((nodeR 13).mono (sub_same hB) H5.out) (fun b i hb => Nat.lt_of_lt_of_le (HE5.out.ok b i hb) hB.size) (by rw [← Hab.out]; have := HF2.out; omega)).mono ?_
      rintro e w1 ⟨rfl, y1⟩
      rw [← Hab.out]
      exact hK _ _ ⟨v7, A9, c9, hS.put' (Xhn1.out v7 A9 c9) (Xhn2.out v7 A9 c9) (Xhlt.out v7 A9 c9) (Xm13.out v7 A9 c9), hB.trans (y1.mono hB.size), fun h => (hF0 (by rwa [set_get (by decide)] at h)).mono (sub_any y1), fun h => (hF1 (by rwa [set_get (by decide)] at h)).mono (sub_any y1)⟩
    · obtain ⟨v7, A9, c9, hS, hB, hF0, hF1⟩ := hI
      have e4 := hS.at0 4 (.slice A5 ab.length c5) (by rw [XhE2.out]; decide) (by rw [Xl0.out]; rfl)
      have dg := hr.2.2 _ rfl ⟨11, .guard⟩ (by simp) rfl
      have eg := hS.at_ (Xm11.out v7 A9 c9) dg
      refine wpOp_on rfl rfl rfl rfl eg fun K' hK => ?_
      go_simp
      exact hK _ _ ⟨v7, A9, c9, hS.put' (Xhn1.out v7 A9 c9) (Xhn2.out v7 A9 c9) (Xhlt.out v7 A9 c9) (Xm14.out v7 A9 c9), hB, fun h => hF0 (by rwa [set_get (by decide)] at h), fun h => hF1 (by rwa [set_get (by decide)] at h)⟩
    · obtain ⟨v7, A9, c9, hS, hB, hF0, hF1⟩ := hI
      have d14 := hr.2.2 _ rfl ⟨14, .data⟩ (by simp) rfl
      have e27 := hS.at_ (Xm14.out v7 A9 c9) d14
      have dg := hr.2.2 _ rfl ⟨11, .guard⟩ (by simp) rfl
      have eg := hS.at_ (Xm11.out v7 A9 c9) dg
      refine wpOp_on rfl rfl rfl rfl eg fun K' hK => ?_
      go_simp
      exact hK _ _ ⟨v7, A9, c9, hS.put' (Xhn1.out v7 A9 c9) (Xhn2.out v7 A9 c9) (Xhlt.out v7 A9 c9) (Xm15.out v7 A9 c9), hB, fun h => hF0 (by rwa [set_get (by decide)] at h), fun h => hF1 (by rwa [set_get (by decide)] at h)⟩
    · obtain ⟨v7, A9, c9, hS, hB, hF0, hF1⟩ := hI
      have d13 := hr.2.2 _ rfl ⟨13, .data⟩ (by simp) rfl
      have e26 := hS.at_ (Xm13.out v7 A9 c9) d13
      have d15 := hr.2.2 _ rfl ⟨15, .data⟩ (by simp) rfl
      have e28 := hS.at_ (Xm15.out v7 A9 c9) d15
      have dg := hr.2.2 _ rfl ⟨11, .guard⟩ (by simp) rfl
      have eg := hS.at_ (Xm11.out v7 A9 c9) dg
      refine wpOp_on rfl rfl rfl rfl eg fun K' hK => ?_
      go_simp
      exact hK _ _ ⟨v7, A9, c9, hS.put' (Xhn1.out v7 A9 c9) (Xhn2.out v7 A9 c9) (Xhlt.out v7 A9 c9) (Xm16.out v7 A9 c9), hB, fun h => hF0 (by rwa [set_get (by decide)] at h), fun h => hF1 (by rwa [set_get (by decide)] at h)⟩
    · obtain ⟨v7, A9, c9, hS, hB, hF0, hF1⟩ := hI
      have d11 := hr.2.2 _ rfl ⟨11, .data⟩ (by simp) rfl
      have e24 := hS.at_ (Xm11.out v7 A9 c9) d11
      have d16 := hr.2.2 _ rfl ⟨16, .data⟩ (by simp) rfl
      have e29 := hS.at_ (Xm16.out v7 A9 c9) d16
      refine wpOp_plain' rfl rfl fun K' hK => ?_
      go_simp
      exact hK _ _ ⟨v7, A9, c9, hS.put' (Xhn1.out v7 A9 c9) (Xhn2.out v7 A9 c9) (Xhlt.out v7 A9 c9) (Xm17.out v7 A9 c9), hB, fun h => hF0 (by rwa [set_get (by decide)] at h), fun h => hF1 (by rwa [set_get (by decide)] at h)⟩
    · obtain ⟨v7, A9, c9, hS, hB, hF0, hF1⟩ := hI
      have d17 := hr.2.2 _ rfl ⟨17, .data⟩ (by simp) rfl
      have e30 := hS.at_ (Xm17.out v7 A9 c9) d17
      refine wpOp_plain' rfl rfl fun K' hK => ?_
      go_simp
      exact hK _ _ ⟨v7, A9, c9, hS.put' (Xhn1.out v7 A9 c9) (Xhn2.out v7 A9 c9) (Xhlt.out v7 A9 c9) (Xm18.out v7 A9 c9), hB, fun h => hF0 (by rwa [set_get (by decide)] at h), fun h => hF1 (by rwa [set_get (by decide)] at h)⟩
    · obtain ⟨v7, A9, c9, hS, hB, hF0, hF1⟩ := hI
      have dg := hr.2.2 _ rfl ⟨18, .guard⟩ (by simp) rfl
      have eg := hS.at_ (Xm18.out v7 A9 c9) dg
      refine wpOp_on rfl rfl rfl rfl eg fun K' hK => ?_
      go_simp
      refine (lives9_any w').mono ?_
      rintro e w1 ⟨rfl, y1⟩
      exact hK _ _ ⟨v7, A9, c9, hS.put' (Xhn1.out v7 A9 c9) (Xhn2.out v7 A9 c9) (Xhlt.out v7 A9 c9) (Xm19.out v7 A9 c9), hB.trans (y1.mono hB.size), fun h => (hF0 (by rwa [set_get (by decide)] at h)).mono (sub_any y1), fun h => (hF1 (by rwa [set_get (by decide)] at h)).mono (sub_any y1)⟩
    · obtain ⟨v7, A9, c9, hS, hB, hF0, hF1⟩ := hI
      have d18 := hr.2.2 _ rfl ⟨18, .data⟩ (by simp) rfl
      have e31 := hS.at_ (Xm18.out v7 A9 c9) d18
      have d19 := hr.2.2 _ rfl ⟨19, .data⟩ (by simp) rfl
      have e32 := hS.at_ (Xm19.out v7 A9 c9) d19
      refine wpOp_plain' rfl rfl fun K' hK => ?_
      go_simp
      exact hK _ _ ⟨v7, A9, c9, hS.put' (Xhn1.out v7 A9 c9) (Xhn2.out v7 A9 c9) (Xhlt.out v7 A9 c9) (Xm20.out v7 A9 c9), hB, fun h => hF0 (by rwa [set_get (by decide)] at h), fun h => hF1 (by rwa [set_get (by decide)] at h)⟩
    · obtain ⟨v7, A9, c9, hS, hB, hF0, hF1⟩ := hI
      have d20 := hr.2.2 _ rfl ⟨20, .data⟩ (by simp) rfl
      have e33 := hS.at_ (Xm20.out v7 A9 c9) d20
      refine wpOp_plain' rfl rfl fun K' hK => ?_
      go_simp
      exact hK _ _ ⟨v7, A9, c9, hS.put' (Xhn1.out v7 A9 c9) (Xhn2.out v7 A9 c9) (Xhlt.out v7 A9 c9) (Xm21.out v7 A9 c9), hB, fun h => hF0 (by rwa [set_get (by decide)] at h), fun h => hF1 (by rwa [set_get (by decide)] at h)⟩
end Go.Proofs.Ytojcciciinklbaa
