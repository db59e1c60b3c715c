/- TreeMay, walked: which trees may be is told as the document says. No claim by itself. -/
import Derived.Test.YtojcciciinklbaaOddW
import Derived.Test.YtojcciciinklbaaRef13
import Derived.Test.YtojcciciinklbaaTree13
import Derived.Test.YtojcciciinklbaaSlots
set_option linter.unusedSimpArgs false
set_option linter.unusedVariables false
namespace Go.Proofs.Ytojcciciinklbaa
open Go.RowKit

theorem made_may (gs : List GV) : mayI (madeF gs) = 0 ∧ rmayI (madeF gs) = 0 ∧ count (madeF gs) ≤ 13 ∧ depth (madeF gs) ≤ 12 ∧ namesOk (madeF gs) ∧ bulk (madeF gs) ≤ 1000000 := by
  have hl := row_len gs
  obtain ⟨s1, s2, s3, s4⟩ := row_small (row_pos gs) hl (rowF_small gs)
  exact ⟨(row_tree gs).mayI (by omega), (row_tree gs).rmay (by omega), s1, s2, s3, s4⟩

set_option maxRecDepth 100000 in
set_option maxHeartbeats 16000000 in
theorem maylaw_walk (gs : List GV) (v : Value) (which at_ kind : Int) (name : ByteArray) (n : Int) (data : List UInt8) (vd : Value) (attrs : List (ByteArray × ByteArray)) (va : Value) (W : World) (hS : SliceR gR (Lw W) W gs v) (hd : SliceR Rp.byte (Lw W) W data vd) (ha : SliceR attrR (Lw W) W attrs va)
    (h1 : I64 which) (h2 : I64 at_) (h3 : I64 kind) (h4 : I64 n) (h5 : name.size ≤ big) :
    Calls Try.prog 5 #[v, .int .i64 which, .int .i64 at_, .int .i64 kind, .string name, .int .i64 n, vd, va] W fun e w' => e = .returned (.bool true) ∧ Below W.heap.size W w' := by
  obtain ⟨Aa, ca, rfl, ha1, ha2, ha3⟩ := ha.form
  have HS := Lib.hid hS; have HD := Lib.hid hd; have HA := Lib.hid ha
  obtain ⟨m, hm⟩ : ∃ m, m = min attrs.length 6 := ⟨_, rfl⟩
  have hmI : min (attrs.length : Int) 6 = (m : Int) := by omega
  have hm6 : m ≤ 6 := by omega
  have hml : m ≤ attrs.length := by omega
  have hmlI : (m : Int) ≤ (ca : Int) := by omega
  have Hm := Lib.hid hm
  clear hS hd ha hm
  have HT : Hid (SliceR attrR (Lw W) W (attrs.take m) (.slice Aa m ca)) := Lib.hid (HA.out.take m hml)
  have c27 := cellsNode
  go_enter Try.func5, Try.ntmps5
  obtain ⟨acs, hsrc, hreps⟩ := HT.out.src
  have hal : (attrs.take m).length = m := by rw [List.length_take]; omega
  rw [hal] at hsrc
  have Hsrc := Lib.hid hsrc; have Hreps := Lib.hid hreps
  clear hsrc hreps
  go_wp2_with (at_builtin; refine wpList_appB rfl (.tmp 21) (.tmp 26) 24 88 rfl W.heap.size _ 2 32 Try.underlying24 Try.infoAttr rfl (by decide) W (.slice none 0 0) rfl _ rfl 0 [] (Blk.nil _ _ _ _) m acs Hsrc.out (Hreps.out.one) (by omega) (Nat.le_refl _) ?_)
  intro v1 w1 hB1 hg1 hr1
  have hb1 : Below W.heap.size W w1 := (Below.refl _ _).grown hg1 (Nat.le_refl _) (fun k hk => by simp [Value.ownBlock] at hk)
  try rw [List.nil_append, Nat.zero_add] at hB1
  obtain ⟨A1, c1, rfl, _, _⟩ := hB1.form
  obtain ⟨L1, hS1, hX1⟩ := hB1.known (d := attrR) hb1 (Lw_ok W) (Hreps.out.mono (sub_same hb1)) hal (by simp only [big]; omega)
  have HS1 := Lib.hid hS1; have HX1 := Lib.hid hX1
  clear hB1 hg1 hr1 hb1 hS1 hX1
  go_wp2_with fail
  refine (few_any data vd 60 (Lw W) w1 (by decide) (by decide) (HD.out.mono (sub_same HX1.out.below))).mono ?_
  rintro e w2 ⟨v2, rfl, hB2, hb2⟩
  obtain ⟨A2, c2, rfl, _, _⟩ := hB2.form
  obtain ⟨L2, hS2, hX2⟩ := hB2.known (d := Rp.byte) hb2 HX1.out.ok (bytes_reps _ _ _) rfl (by have := List.length_take_le 60 data; simp only [big]; omega)
  obtain ⟨dt, hdt⟩ : ∃ d, d = data.take 60 := ⟨_, rfl⟩
  have hdl : dt.length ≤ 60 := by rw [hdt]; exact List.length_take_le _ _
  rw [show ((60 : Int).toNat) = 60 from rfl, ← hdt] at hS2 ⊢
  obtain ⟨ta, hta⟩ : ∃ d, d = attrs.take m := ⟨_, rfl⟩
  have htl : ta.length = m := by rw [hta]; exact hal
  rw [← hta] at HS1
  have HS2 := Lib.hid hS2; have HX2 := Lib.hid (HX1.out.trans hX2)
  have HS1b : Hid (SliceR attrR L2 w2 ta (.slice A1 ta.length c1)) := Lib.hid (by rw [htl]; exact HS1.out.mono (Ext.sub HX1.out.ok hX2))
  clear hB2 hb2 hS2 hX2 HS1 hdt hta hal HT Hsrc Hreps
  subst htl
  go_upto_region 4 with fail
  obtain ⟨w3, hw3⟩ : ∃ y, y = w2.alloc (boxO ⟨kind, name, n, n, n, n, dt, name, n, kind, ta⟩ A2 c2 A1 c1 none 0 0) := ⟨_, rfl⟩
  have hs3 : w2.heap.size < w3.heap.size := by rw [hw3]; simp
  have HX3 : Hid (Ext (Lw W) W L2 w3) := Lib.hid (by rw [hw3]; exact HX2.out.alloc _)
  have hb23 : Below w2.heap.size w2 w3 := by rw [hw3]; exact (Below.refl _ _).alloc (Nat.le_refl _) _
  have HD3 : Hid (SliceR Rp.byte L2 w3 dt (.slice A2 dt.length c2)) := Lib.hid (HS2.out.mono (sub_same hb23))
  have HA3 : Hid (SliceR attrR L2 w3 ta (.slice A1 ta.length c1)) := Lib.hid (HS1b.out.mono (sub_same hb23))
  have HBx : Hid (w3.heap[w2.heap.size]? = some (boxO ⟨kind, name, n, n, n, n, dt, name, n, kind, ta⟩ A2 c2 A1 c1 none 0 0)) := Lib.hid (by rw [hw3]; exact heap_alloc_new w2 _)
  show Code.wp _ _ _ _ (w2.alloc (boxO ⟨kind, name, n, n, n, n, dt, name, n, kind, ta⟩ A2 c2 A1 c1 none 0 0))
  rw [← hw3]
  have hLok2 : Hid (LOk L2 w3) := Lib.hid HX3.out.ok
  clear hw3 hb23 HS2 HS1b HX2 HX1
  go_wp2_with fail
  refine (rmade_any gs v L2 w3 (HS.out.mono (Ext.sub (Lw_ok W) HX3.out)) HX3.out.ok).mono ?_
  rintro e w4 ⟨cs4, L4, rfl, h4', x4⟩
  obtain ⟨m4, Adg, cdg, Aag, cag, Akg, ckg, hm4, rfl, hP4, _, _, _, _, _, _⟩ := node_open h4'
  obtain ⟨f1, f2, f3, f4, f5, f6⟩ := made_may gs
  obtain ⟨x, hx⟩ : ∃ x, x = madeF gs := ⟨_, rfl⟩
  rw [← hx] at h4' hP4 f1 f2 f3 f4 f5 f6 ⊢
  have HX4 := Lib.hid (HX3.out.trans x4)
  have HF1 := Lib.hid f1; have HF2 := Lib.hid f2; have HF5 := Lib.hid f5
  have hs34 := x4.below.size
  have HE34 := Lib.hid x4
  have H4 := Lib.hid h4'
  clear h4' hP4 hm4 hx x4 f1 f2 f5
  unfold nodeV
  go_upto_region 5 with fail
  obtain ⟨w5, hw5⟩ : ∃ y, y = w4.alloc (boxO x.own Adg cdg Aag cag Akg x.kids.length ckg) := ⟨_, rfl⟩
  have hs5 : w4.heap.size < w5.heap.size := by rw [hw5]; simp
  have hb45 : Below w4.heap.size w4 w5 := by rw [hw5]; exact (Below.refl _ _).alloc (Nat.le_refl _) _
  have HE35 : Hid (Ext L2 w3 L4 w5) := Lib.hid (by rw [hw5]; exact HE34.out.alloc _)
  have HX5 : Hid (Ext (Lw W) W L4 w5) := Lib.hid (by rw [hw5]; exact HX4.out.alloc _)
  have HBg : Hid (w5.heap[w4.heap.size]? = some (boxO x.own Adg cdg Aag cag Akg x.kids.length ckg)) := Lib.hid (by rw [hw5]; exact heap_alloc_new w4 _)
  have H5 : Hid ((nodeR 13).R L4 w5 x (nodeV x.own (.slice Adg x.own.data.length cdg) (.slice Aag x.own.attrs.length cag) (.slice Akg x.kids.length ckg))) := Lib.hid ((nodeR 13).mono (sub_same hb45) H4.out)
  have HBx5 : Hid (w5.heap[w2.heap.size]? = some (boxO ⟨kind, name, n, n, n, n, dt, name, n, kind, ta⟩ A2 c2 A1 c1 none 0 0)) := Lib.hid ((HE35.out.below.block _ hs3).trans HBx.out)
  show Code.wp _ _ _ _ (w4.alloc (boxO x.own Adg cdg Aag cag Akg x.kids.length ckg))
  rw [← hw5]
  clear hw5 hb45 H4 HX4 HE34 HBx HX3
  obtain ⟨n0, n1, n2, n3, n4, n5, n6, n7, n8, n9, n10, n11⟩ := twelve_box HBx5.out
  dsimp only at n0 n1 n2 n3 n4 n5 n6 n7 n8 n9 n10 n11
  go_wp2_with fail
  refine (odd_any gs v which at_ ⟨kind, name, n, n, n, n, dt, name, n, kind, ta⟩ A2 c2 A1 c1 none 0 0 L4 w5 (HS.out.mono (Ext.sub (Lw_ok W) HX5.out)) HX5.out.ok (HD3.out.mono (Ext.subB hLok2.out HE35.out)) (HA3.out.mono (Ext.subB hLok2.out HE35.out)) ⟨h3, h4, h4, h4, h4, h4, h3, h5, h5⟩ h1 h2).mono ?_
  rintro e w6 ⟨y, cs6, L6, rfl, h6', x6, g1, g2, g3, g4⟩
  obtain ⟨m6, Adb, cdb, Aab, cab, Akb, ckb, hm6', rfl, hP6, _, _, _, _, _, _⟩ := node_open h6'
  have HX6 := Lib.hid (HX5.out.trans x6)
  have HE56 := Lib.hid x6
  have hs56 := x6.below.size
  have H6 := Lib.hid h6'; have HG3 := Lib.hid g3
  clear h6' hP6 hm6' x6 g3 n0 n1 n2 n3 n4 n5 n6 n7 n8 n9 n10 n11 HBx5
  unfold nodeV
  go_upto_region 6 with fail
  obtain ⟨w7, hw7⟩ : ∃ y', y' = w6.alloc (boxO y.own Adb cdb Aab cab Akb y.kids.length ckb) := ⟨_, rfl⟩
  have hs7 : w6.heap.size < w7.heap.size := by rw [hw7]; simp
  have hb67 : Below w6.heap.size w6 w7 := by rw [hw7]; exact (Below.refl _ _).alloc (Nat.le_refl _) _
  have HX7 : Hid (Ext (Lw W) W L6 w7) := Lib.hid (by rw [hw7]; exact HX6.out.alloc _)
  have HBb : Hid (w7.heap[w6.heap.size]? = some (boxO y.own Adb cdb Aab cab Akb y.kids.length ckb)) := Lib.hid (by rw [hw7]; exact heap_alloc_new w6 _)
  have HBg7 : Hid (w7.heap[w4.heap.size]? = some (boxO x.own Adg cdg Aag cag Akg x.kids.length ckg)) := Lib.hid ((hb67.block _ (by omega)).trans ((HE56.out.below.block _ hs5).trans HBg.out))
  have HNg : Hid (∀ w', Below w7.heap.size w7 w' → (nodeR 13).R L6 w' x (nodeV x.own (.slice Adg x.own.data.length cdg) (.slice Aag x.own.attrs.length cag) (.slice Akg x.kids.length ckg)) ∧ LOk L6 w') := Lib.hid (fun w' hb => ⟨(nodeR 13).mono (sub_same hb) ((nodeR 13).mono (sub_same hb67) ((nodeR 13).mono (Ext.sub HX5.out.ok HE56.out) H5.out)), fun b i h => Nat.lt_of_lt_of_le (HX7.out.ok b i h) hb.size⟩)
  have HNb : Hid (∀ w', Below w7.heap.size w7 w' → (nodeR 13).R L6 w' y (nodeV y.own (.slice Adb y.own.data.length cdb) (.slice Aab y.own.attrs.length cab) (.slice Akb y.kids.length ckb)) ∧ LOk L6 w') := Lib.hid (fun w' hb => ⟨(nodeR 13).mono (sub_same hb) ((nodeR 13).mono (sub_same hb67) H6.out), fun b i h => Nat.lt_of_lt_of_le (HX7.out.ok b i h) hb.size⟩)
  have HSt : Hid (∀ w', Below w7.heap.size w7 w' → (w'.cell? ⟨w4.heap.size, 0, none⟩ = some (.int .i64 x.own.kind) ∧ w'.cell? ⟨w4.heap.size, 1, none⟩ = some (.string x.own.name) ∧ w'.cell? ⟨w4.heap.size, 2, none⟩ = some (.int .i64 x.own.mode) ∧ w'.cell? ⟨w4.heap.size, 3, none⟩ = some (.int .i64 x.own.uid) ∧ w'.cell? ⟨w4.heap.size, 4, none⟩ = some (.int .i64 x.own.gid) ∧ w'.cell? ⟨w4.heap.size, 5, none⟩ = some (.int .i64 x.own.mtime) ∧ w'.cell? ⟨w4.heap.size, 6, none⟩ = some (.slice Adg x.own.data.length cdg) ∧ w'.cell? ⟨w4.heap.size, 7, none⟩ = some (.string x.own.target) ∧ w'.cell? ⟨w4.heap.size, 8, none⟩ = some (.int .i64 x.own.major) ∧ w'.cell? ⟨w4.heap.size, 9, none⟩ = some (.int .i64 x.own.minor) ∧ w'.cell? ⟨w4.heap.size, 10, none⟩ = some (.slice Aag x.own.attrs.length cag) ∧ w'.cell? ⟨w4.heap.size, 11, none⟩ = some (.slice Akg x.kids.length ckg)) ∧ (w'.cell? ⟨w6.heap.size, 0, none⟩ = some (.int .i64 y.own.kind) ∧ w'.cell? ⟨w6.heap.size, 1, none⟩ = some (.string y.own.name) ∧ w'.cell? ⟨w6.heap.size, 2, none⟩ = some (.int .i64 y.own.mode) ∧ w'.cell? ⟨w6.heap.size, 3, none⟩ = some (.int .i64 y.own.uid) ∧ w'.cell? ⟨w6.heap.size, 4, none⟩ = some (.int .i64 y.own.gid) ∧ w'.cell? ⟨w6.heap.size, 5, none⟩ = some (.int .i64 y.own.mtime) ∧ w'.cell? ⟨w6.heap.size, 6, none⟩ = some (.slice Adb y.own.data.length cdb) ∧ w'.cell? ⟨w6.heap.size, 7, none⟩ = some (.string y.own.target) ∧ w'.cell? ⟨w6.heap.size, 8, none⟩ = some (.int .i64 y.own.major) ∧ w'.cell? ⟨w6.heap.size, 9, none⟩ = some (.int .i64 y.own.minor) ∧ w'.cell? ⟨w6.heap.size, 10, none⟩ = some (.slice Aab y.own.attrs.length cab) ∧ w'.cell? ⟨w6.heap.size, 11, none⟩ = some (.slice Akb y.kids.length ckb))) := Lib.hid (fun w' hb =>
    ⟨twelve_box ((hb.block _ (by omega)).trans HBg7.out), twelve_box ((hb.block _ hs7).trans HBb.out)⟩)
  have HW7 := Lib.hid HX7.out.below
  have hWs := HX7.out.below.size
  have hM : mayI y = rmayI y := may_eq y (by omega)
  obtain ⟨M, hM2⟩ : ∃ M, M = mayI y := ⟨_, rfl⟩
  rw [← hM2] at hM
  have HM := Lib.hid hM; have HM2 := Lib.hid hM2
  show Code.wp _ _ _ _ (w6.alloc (boxO y.own Adb cdb Aab cab Akb y.kids.length ckb))
  rw [← hw7]
  clear hw7 hb67 H5 H6 HX5 HX6 HE56 HBg HBb HBg7 HE35 HX7 hM hM2
  refine wp_named _ ?_
  intro l0 hl0
  obtain ⟨E, hE⟩ : ∃ E : Unit → List (Nat × Nat × Value), E = fun _ => [(0, 48, .agg #[.int .i64 x.own.kind, .string x.own.name, .int .i64 x.own.mode, .int .i64 x.own.uid, .int .i64 x.own.gid, .int .i64 x.own.mtime, .slice Adg x.own.data.length cdg, .string x.own.target, .int .i64 x.own.major, .int .i64 x.own.minor, .slice Aag x.own.attrs.length cag, .slice Akg x.kids.length ckg]), (1, 49, .int .i64 0), (2, 50, .bool true), (3, 51, .bool true), (4, 52, .agg #[.int .i64 x.own.kind, .string x.own.name, .int .i64 x.own.mode, .int .i64 x.own.uid, .int .i64 x.own.gid, .int .i64 x.own.mtime, .slice Adg x.own.data.length cdg, .string x.own.target, .int .i64 x.own.major, .int .i64 x.own.minor, .slice Aag x.own.attrs.length cag, .slice Akg x.kids.length ckg]), (5, 53, .int .i64 0), (6, 54, .bool true), (7, 55, .bool true), (8, 56, .bool true), (9, 57, .agg #[.int .i64 y.own.kind, .string y.own.name, .int .i64 y.own.mode, .int .i64 y.own.uid, .int .i64 y.own.gid, .int .i64 y.own.mtime, .slice Adb y.own.data.length cdb, .string y.own.target, .int .i64 y.own.major, .int .i64 y.own.minor, .slice Aab y.own.attrs.length cab, .slice Akb y.kids.length ckb]), (10, 58, .int .i64 M), (11, 59, .agg #[.int .i64 y.own.kind, .string y.own.name, .int .i64 y.own.mode, .int .i64 y.own.uid, .int .i64 y.own.gid, .int .i64 y.own.mtime, .slice Adb y.own.data.length cdb, .string y.own.target, .int .i64 y.own.major, .int .i64 y.own.minor, .slice Aab y.own.attrs.length cab, .slice Akb y.kids.length ckb]), (12, 60, .int .i64 M), (13, 61, .bool true), (14, 62, .bool true), (15, 63, .bool true), (16, 64, .bool true), (17, 65, .bool true), (18, 16, .bool true)] := ⟨_, rfl⟩
  have hlen : l0.length = 66 := by rw [hl0]; rfl
  have hE1 : (E ()).map (fun t => t.1) = [0, 1, 2, 3, 4, 5, 6, 7, 8, 9, 10, 11, 12, 13, 14, 15, 16, 17, 18] := by rw [hE]; rfl
  have hE2 : (E ()).map (fun t => t.2.1) = [48, 49, 50, 51, 52, 53, 54, 55, 56, 57, 58, 59, 60, 61, 62, 63, 64, 65, 16] := by rw [hE]; rfl
  have m0 : (0, 48, (.agg #[.int .i64 x.own.kind, .string x.own.name, .int .i64 x.own.mode, .int .i64 x.own.uid, .int .i64 x.own.gid, .int .i64 x.own.mtime, .slice Adg x.own.data.length cdg, .string x.own.target, .int .i64 x.own.major, .int .i64 x.own.minor, .slice Aag x.own.attrs.length cag, .slice Akg x.kids.length ckg] : Value)) ∈ E () := by rw [hE]; simp
  have m1 : (1, 49, (.int .i64 0 : Value)) ∈ E () := by rw [hE]; simp
  have m2 : (2, 50, (.bool true : Value)) ∈ E () := by rw [hE]; simp
  have m3 : (3, 51, (.bool true : Value)) ∈ E () := by rw [hE]; simp
  have m4 : (4, 52, (.agg #[.int .i64 x.own.kind, .string x.own.name, .int .i64 x.own.mode, .int .i64 x.own.uid, .int .i64 x.own.gid, .int .i64 x.own.mtime, .slice Adg x.own.data.length cdg, .string x.own.target, .int .i64 x.own.major, .int .i64 x.own.minor, .slice Aag x.own.attrs.length cag, .slice Akg x.kids.length ckg] : Value)) ∈ E () := by rw [hE]; simp
  have m5 : (5, 53, (.int .i64 0 : Value)) ∈ E () := by rw [hE]; simp
  have m6 : (6, 54, (.bool true : Value)) ∈ E () := by rw [hE]; simp
  have m7 : (7, 55, (.bool true : Value)) ∈ E () := by rw [hE]; simp
  have m8 : (8, 56, (.bool true : Value)) ∈ E () := by rw [hE]; simp
  have m9 : (9, 57, (.agg #[.int .i64 y.own.kind, .string y.own.name, .int .i64 y.own.mode, .int .i64 y.own.uid, .int .i64 y.own.gid, .int .i64 y.own.mtime, .slice Adb y.own.data.length cdb, .string y.own.target, .int .i64 y.own.major, .int .i64 y.own.minor, .slice Aab y.own.attrs.length cab, .slice Akb y.kids.length ckb] : Value)) ∈ E () := by rw [hE]; simp
  have m10 : (10, 58, (.int .i64 M : Value)) ∈ E () := by rw [hE]; simp
  have m11 : (11, 59, (.agg #[.int .i64 y.own.kind, .string y.own.name, .int .i64 y.own.mode, .int .i64 y.own.uid, .int .i64 y.own.gid, .int .i64 y.own.mtime, .slice Adb y.own.data.length cdb, .string y.own.target, .int .i64 y.own.major, .int .i64 y.own.minor, .slice Aab y.own.attrs.length cab, .slice Akb y.kids.length ckb] : Value)) ∈ E () := by rw [hE]; simp
  have m12 : (12, 60, (.int .i64 M : Value)) ∈ E () := by rw [hE]; simp
  have m13 : (13, 61, (.bool true : Value)) ∈ E () := by rw [hE]; simp
  have m14 : (14, 62, (.bool true : Value)) ∈ E () := by rw [hE]; simp
  have m15 : (15, 63, (.bool true : Value)) ∈ E () := by rw [hE]; simp
  have m16 : (16, 64, (.bool true : Value)) ∈ E () := by rw [hE]; simp
  have m17 : (17, 65, (.bool true : Value)) ∈ E () := by rw [hE]; simp
  have m18 : (18, 16, (.bool true : Value)) ∈ E () := by rw [hE]; simp
  have hn1 : ((E ()).map fun t => t.1).Nodup := by rw [hE1]; decide
  have hn2 : ((E ()).map fun t => t.2.1).Nodup := by rw [hE2]; decide
  have hlt : ∀ t ∈ E (), t.2.1 < l0.length := fun t ht => by
    have h1 : t.2.1 ∈ (E ()).map fun t => t.2.1 := List.mem_map.2 ⟨t, ht, rfl⟩
    rw [hE2] at h1
    rw [hlen]
    simp only [List.mem_cons, List.mem_nil_iff, or_false] at h1
    omega
  have Xm0 := Lib.hid m0
  have Xm1 := Lib.hid m1
  have Xm2 := Lib.hid m2
  have Xm3 := Lib.hid m3
  have Xm4 := Lib.hid m4
  have Xm5 := Lib.hid m5
  have Xm6 := Lib.hid m6
  have Xm7 := Lib.hid m7
  have Xm8 := Lib.hid m8
  have Xm9 := Lib.hid m9
  have Xm10 := Lib.hid m10
  have Xm11 := Lib.hid m11
  have Xm12 := Lib.hid m12
  have Xm13 := Lib.hid m13
  have Xm14 := Lib.hid m14
  have Xm15 := Lib.hid m15
  have Xm16 := Lib.hid m16
  have Xm17 := Lib.hid m17
  have Xm18 := Lib.hid m18
  have Xhn1 := Lib.hid hn1; have Xhn2 := Lib.hid hn2; have Xhlt := Lib.hid hlt; have XhE1 := Lib.hid hE1; have XhE2 := Lib.hid hE2; have XhE := Lib.hid hE; have Xl0 := Lib.hid hl0
  clear m0 m1 m2 m3 m4 m5 m6 m7 m8 m9 m10 m11 m12 m13 m14 m15 m16 m17 m18 hn1 hn2 hlt hE1 hE2 hE hlen hl0
  refine wp_region_any (by kernel_rfl) ?_
  refine wpAny_inv (by kernel_rfl) (fun listed a' w' => Slots (E ()) l0 listed a' ∧ Below w7.heap.size w7 w') ?step ?fin _ _ _ _ ?hs ?hf ?init
  case hs => simp
  case hf => simp
  case init =>
    refine ⟨?_, (Below.refl _ _).drew⟩
    · exact Slots.start (exp := E ()) (l0 := l0) (m := 19) (fun t ht => by
        have h1 : t.1 ∈ (E ()).map fun t => t.1 := List.mem_map.2 ⟨t, ht, rfl⟩
        rw [XhE1.out] at h1
        simp only [List.mem_cons, List.mem_nil_iff, or_false] at h1
        omega)
  case fin =>
    intro listed a' w' hls hall ⟨hS, hB⟩
    have hf2 : a'.tmps.getD 16 undef = .bool true := hS.done _ Xm18.out (hall 18 (by show 18 < 19; decide))
    have hf3 : a'.defers = [] := hS.defers
    have HF2' := Lib.hid hf2; have HF3' := Lib.hid hf3
    clear hf2 hf3 hS
    go_wp2
    refine bodyPost_ret (results_tmp rfl _ _ _) HF3'.out ?_
    exact ⟨by rw [HF2'.out], HW7.out.trans (hB.mono hWs)⟩
  case step =>
    intro listed a' w' i hls hI hmem
    have hr := ready_of hls hmem
    have hi : i < 19 := hr.1
    have hcase : i = 0 ∨ i = 1 ∨ i = 2 ∨ i = 3 ∨ i = 4 ∨ i = 5 ∨ i = 6 ∨ i = 7 ∨ i = 8 ∨ i = 9 ∨ i = 10 ∨ i = 11 ∨ i = 12 ∨ i = 13 ∨ i = 14 ∨ i = 15 ∨ i = 16 ∨ i = 17 ∨ i = 18 := by omega
    rcases hcase with rfl | rfl | rfl | rfl | rfl | rfl | rfl | rfl | rfl | rfl | rfl | rfl | rfl | rfl | rfl | rfl | rfl | rfl | rfl
    · obtain ⟨hS, hB⟩ := hI
      obtain ⟨⟨n0, n1, n2, n3, n4, n5, n6, n7, n8, n9, n10, n11⟩, p0, p1, p2, p3, p4, p5, p6, p7, p8, p9, p10, p11⟩ := HSt.out w' hB
      have e19 := hS.at0 19 (.pointer (some ⟨w4.heap.size, 0, none⟩)) (by rw [XhE2.out]; decide) (by rw [Xl0.out]; rfl)
      refine wpOp_plain' rfl rfl fun K' hK => ?_
      go_simp
      exact hK _ _ ⟨hS.put' (Xhn1.out ) (Xhn2.out ) (Xhlt.out ) (Xm0.out ), hB⟩
    · obtain ⟨hS, hB⟩ := hI
      have d0 := hr.2.2 _ rfl ⟨0, .data⟩ (by simp) rfl
      have e48 := hS.at_ (Xm0.out ) d0
      refine wpOp_plain' rfl rfl fun K' hK => ?_
      go_simp
      refine (may_any 13 x _ L6 w' (HNg.out w' hB).1 (by omega)).mono ?_
      rintro e w1 ⟨rfl, y1⟩
      rw [HF1.out]
      exact hK _ _ ⟨hS.put' (Xhn1.out ) (Xhn2.out ) (Xhlt.out ) (Xm1.out ), hB.trans (y1.mono hB.size)⟩
    · obtain ⟨hS, hB⟩ := hI
      have d1 := hr.2.2 _ rfl ⟨1, .data⟩ (by simp) rfl
      have e49 := hS.at_ (Xm1.out ) d1
      refine wpOp_plain' rfl rfl fun K' hK => ?_
      go_simp
      exact hK _ _ ⟨hS.put' (Xhn1.out ) (Xhn2.out ) (Xhlt.out ) (Xm2.out ), hB⟩
    · obtain ⟨hS, hB⟩ := hI
      have d2 := hr.2.2 _ rfl ⟨2, .data⟩ (by simp) rfl
      have e50 := hS.at_ (Xm2.out ) d2
      refine wpOp_plain' rfl rfl fun K' hK => ?_
      go_simp
      exact hK _ _ ⟨hS.put' (Xhn1.out ) (Xhn2.out ) (Xhlt.out ) (Xm3.out ), hB⟩
    · obtain ⟨hS, hB⟩ := hI
      obtain ⟨⟨n0, n1, n2, n3, n4, n5, n6, n7, n8, n9, n10, n11⟩, p0, p1, p2, p3, p4, p5, p6, p7, p8, p9, p10, p11⟩ := HSt.out w' hB
      have e19 := hS.at0 19 (.pointer (some ⟨w4.heap.size, 0, none⟩)) (by rw [XhE2.out]; decide) (by rw [Xl0.out]; rfl)
      have dg := hr.2.2 _ rfl ⟨3, .guard⟩ (by simp) rfl
      have eg := hS.at_ (Xm3.out ) dg
      refine wpOp_on rfl rfl rfl rfl eg fun K' hK => ?_
      go_simp
      exact hK _ _ ⟨hS.put' (Xhn1.out ) (Xhn2.out ) (Xhlt.out ) (Xm4.out ), hB⟩
    · obtain ⟨hS, hB⟩ := hI
      have d4 := hr.2.2 _ rfl ⟨4, .data⟩ (by simp) rfl
      have e52 := hS.at_ (Xm4.out ) d4
      have dg := hr.2.2 _ rfl ⟨3, .guard⟩ (by simp) rfl
      have eg := hS.at_ (Xm3.out ) dg
      refine wpOp_on rfl rfl rfl rfl eg fun K' hK => ?_
      go_simp
      refine (rmay_any 13 x _ L6 w' (HNg.out w' hB).1 (by omega) HF5.out (by decide) (by omega) (HNg.out w' hB).2).mono ?_
      rintro e w1 ⟨rfl, y1⟩
      rw [HF2.out]
      exact hK _ _ ⟨hS.put' (Xhn1.out ) (Xhn2.out ) (Xhlt.out ) (Xm5.out ), hB.trans (y1.mono hB.size)⟩
    · obtain ⟨hS, hB⟩ := hI
      have d5 := hr.2.2 _ rfl ⟨5, .data⟩ (by simp) rfl
      have e53 := hS.at_ (Xm5.out ) d5
      have dg := hr.2.2 _ rfl ⟨3, .guard⟩ (by simp) rfl
      have eg := hS.at_ (Xm3.out ) dg
      refine wpOp_on rfl rfl rfl rfl eg fun K' hK => ?_
      go_simp
      exact hK _ _ ⟨hS.put' (Xhn1.out ) (Xhn2.out ) (Xhlt.out ) (Xm6.out ), hB⟩
    · obtain ⟨hS, hB⟩ := hI
      have d3 := hr.2.2 _ rfl ⟨3, .data⟩ (by simp) rfl
      have e51 := hS.at_ (Xm3.out ) d3
      have d6 := hr.2.2 _ rfl ⟨6, .data⟩ (by simp) rfl
      have e54 := hS.at_ (Xm6.out ) d6
      refine wpOp_plain' rfl rfl fun K' hK => ?_
      go_simp
      exact hK _ _ ⟨hS.put' (Xhn1.out ) (Xhn2.out ) (Xhlt.out ) (Xm7.out ), hB⟩
    · obtain ⟨hS, hB⟩ := hI
      have d7 := hr.2.2 _ rfl ⟨7, .data⟩ (by simp) rfl
      have e55 := hS.at_ (Xm7.out ) d7
      refine wpOp_plain' rfl rfl fun K' hK => ?_
      go_simp
      exact hK _ _ ⟨hS.put' (Xhn1.out ) (Xhn2.out ) (Xhlt.out ) (Xm8.out ), hB⟩
    · obtain ⟨hS, hB⟩ := hI
      obtain ⟨⟨n0, n1, n2, n3, n4, n5, n6, n7, n8, n9, n10, n11⟩, p0, p1, p2, p3, p4, p5, p6, p7, p8, p9, p10, p11⟩ := HSt.out w' hB
      have e20 := hS.at0 20 (.pointer (some ⟨w6.heap.size, 0, none⟩)) (by rw [XhE2.out]; decide) (by rw [Xl0.out]; rfl)
      have dg := hr.2.2 _ rfl ⟨8, .guard⟩ (by simp) rfl
      have eg := hS.at_ (Xm8.out ) dg
      refine wpOp_on rfl rfl rfl rfl eg fun K' hK => ?_
      go_simp
      exact hK _ _ ⟨hS.put' (Xhn1.out ) (Xhn2.out ) (Xhlt.out ) (Xm9.out ), hB⟩
    · obtain ⟨hS, hB⟩ := hI
      have d9 := hr.2.2 _ rfl ⟨9, .data⟩ (by simp) rfl
      have e57 := hS.at_ (Xm9.out ) d9
      have dg := hr.2.2 _ rfl ⟨8, .guard⟩ (by simp) rfl
      have eg := hS.at_ (Xm8.out ) dg
      refine wpOp_on rfl rfl rfl rfl eg fun K' hK => ?_
      go_simp
      refine (may_any 13 y _ L6 w' (HNb.out w' hB).1 (by omega)).mono ?_
      rintro e w1 ⟨rfl, y1⟩
      rw [← HM2.out]
      exact hK _ _ ⟨hS.put' (Xhn1.out ) (Xhn2.out ) (Xhlt.out ) (Xm10.out ), hB.trans (y1.mono hB.size)⟩
    · obtain ⟨hS, hB⟩ := hI
      obtain ⟨⟨n0, n1, n2, n3, n4, n5, n6, n7, n8, n9, n10, n11⟩, p0, p1, p2, p3, p4, p5, p6, p7, p8, p9, p10, p11⟩ := HSt.out w' hB
      have e20 := hS.at0 20 (.pointer (some ⟨w6.heap.size, 0, none⟩)) (by rw [XhE2.out]; decide) (by rw [Xl0.out]; rfl)
      have dg := hr.2.2 _ rfl ⟨8, .guard⟩ (by simp) rfl
      have eg := hS.at_ (Xm8.out ) dg
      refine wpOp_on rfl rfl rfl rfl eg fun K' hK => ?_
      go_simp
      exact hK _ _ ⟨hS.put' (Xhn1.out ) (Xhn2.out ) (Xhlt.out ) (Xm11.out ), hB⟩
    · obtain ⟨hS, hB⟩ := hI
      have d11 := hr.2.2 _ rfl ⟨11, .data⟩ (by simp) rfl
      have e59 := hS.at_ (Xm11.out ) d11
      have dg := hr.2.2 _ rfl ⟨8, .guard⟩ (by simp) rfl
      have eg := hS.at_ (Xm8.out ) dg
      refine wpOp_on rfl rfl rfl rfl eg fun K' hK => ?_
      go_simp
      refine (rmay_any 13 y _ L6 w' (HNb.out w' hB).1 (by omega) HG3.out (by decide) (by omega) (HNb.out w' hB).2).mono ?_
      rintro e w1 ⟨rfl, y1⟩
      rw [← HM.out]
      exact hK _ _ ⟨hS.put' (Xhn1.out ) (Xhn2.out ) (Xhlt.out ) (Xm12.out ), hB.trans (y1.mono hB.size)⟩
    · obtain ⟨hS, hB⟩ := hI
      have d10 := hr.2.2 _ rfl ⟨10, .data⟩ (by simp) rfl
      have e58 := hS.at_ (Xm10.out ) d10
      have d12 := hr.2.2 _ rfl ⟨12, .data⟩ (by simp) rfl
      have e60 := hS.at_ (Xm12.out ) d12
      have dg := hr.2.2 _ rfl ⟨8, .guard⟩ (by simp) rfl
      have eg := hS.at_ (Xm8.out ) dg
      refine wpOp_on rfl rfl rfl rfl eg fun K' hK => ?_
      go_simp
      exact hK _ _ ⟨hS.put' (Xhn1.out ) (Xhn2.out ) (Xhlt.out ) (Xm13.out ), hB⟩
    · obtain ⟨hS, hB⟩ := hI
      have d8 := hr.2.2 _ rfl ⟨8, .data⟩ (by simp) rfl
      have e56 := hS.at_ (Xm8.out ) d8
      have d13 := hr.2.2 _ rfl ⟨13, .data⟩ (by simp) rfl
      have e61 := hS.at_ (Xm13.out ) d13
      refine wpOp_plain' rfl rfl fun K' hK => ?_
      go_simp
      exact hK _ _ ⟨hS.put' (Xhn1.out ) (Xhn2.out ) (Xhlt.out ) (Xm14.out ), hB⟩
    · obtain ⟨hS, hB⟩ := hI
      have d14 := hr.2.2 _ rfl ⟨14, .data⟩ (by simp) rfl
      have e62 := hS.at_ (Xm14.out ) d14
      refine wpOp_plain' rfl rfl fun K' hK => ?_
      go_simp
      exact hK _ _ ⟨hS.put' (Xhn1.out ) (Xhn2.out ) (Xhlt.out ) (Xm15.out ), hB⟩
    · obtain ⟨hS, hB⟩ := hI
      have dg := hr.2.2 _ rfl ⟨15, .guard⟩ (by simp) rfl
      have eg := hS.at_ (Xm15.out ) dg
      refine wpOp_on rfl rfl rfl rfl eg fun K' hK => ?_
      go_simp
      refine (lives_any w').mono ?_
      rintro e w1 ⟨rfl, y1⟩
      exact hK _ _ ⟨hS.put' (Xhn1.out ) (Xhn2.out ) (Xhlt.out ) (Xm16.out ), hB.trans (y1.mono hB.size)⟩
    · obtain ⟨hS, hB⟩ := hI
      have d15 := hr.2.2 _ rfl ⟨15, .data⟩ (by simp) rfl
      have e63 := hS.at_ (Xm15.out ) d15
      have d16 := hr.2.2 _ rfl ⟨16, .data⟩ (by simp) rfl
      have e64 := hS.at_ (Xm16.out ) d16
      refine wpOp_plain' rfl rfl fun K' hK => ?_
      go_simp
      exact hK _ _ ⟨hS.put' (Xhn1.out ) (Xhn2.out ) (Xhlt.out ) (Xm17.out ), hB⟩
    · obtain ⟨hS, hB⟩ := hI
      have d17 := hr.2.2 _ rfl ⟨17, .data⟩ (by simp) rfl
      have e65 := hS.at_ (Xm17.out ) d17
      refine wpOp_plain' rfl rfl fun K' hK => ?_
      go_simp
      exact hK _ _ ⟨hS.put' (Xhn1.out ) (Xhn2.out ) (Xhlt.out ) (Xm18.out ), hB⟩
end Go.Proofs.Ytojcciciinklbaa
