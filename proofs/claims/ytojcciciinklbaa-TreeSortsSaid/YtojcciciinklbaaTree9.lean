/- Walks: whether attributes' keys and nodes' names rise. No claim by itself. -/
import Derived.Test.YtojcciciinklbaaTree8
import Derived.Test.YtojcciciinklbaaCmp
import Derived.Deep.RegionHeld3
set_option linter.unusedSimpArgs false
set_option linter.unusedVariables false
namespace Go.Proofs.Ytojcciciinklbaa
open Go.RowKit

/-- Texts rise. -/
def risesTo {α : Type} (f : α → ByteArray) (xs : List α) (k : Nat) : Prop := ∀ j (h : j + 1 < xs.length), j + 1 < k → ltS (f (xs[j]'(by omega))) (f xs[j + 1]) = true
def risesP {α : Type} (f : α → ByteArray) (xs : List α) : Prop := ∀ j (h : j + 1 < xs.length), ltS (f (xs[j]'(by omega))) (f xs[j + 1]) = true
noncomputable def risesB {α : Type} (f : α → ByteArray) (xs : List α) : Bool := @decide (risesP f xs) (Classical.propDecidable _)
theorem risesB_true {α : Type} {f : α → ByteArray} {xs : List α} : risesB f xs = true ↔ risesP f xs := by simp [risesB]
theorem risesTo_one {α : Type} (f : α → ByteArray) (xs : List α) (k : Nat) (h : k ≤ 1) : risesTo f xs k := fun _ _ hl => absurd hl (by omega)
theorem risesTo_succ {α : Type} {f : α → ByteArray} {xs : List α} {k : Nat} (h : risesTo f xs (k + 1)) (hk : k + 1 < xs.length) (he : ltS (f (xs[k]'(by omega))) (f xs[k + 1]) = true) : risesTo f xs (k + 1 + 1) := fun j hj hl => by
  by_cases e : j = k
  · subst e; exact he
  · exact h j hj (by omega)
theorem risesTo_all {α : Type} {f : α → ByteArray} {xs : List α} (h : risesTo f xs xs.length) : risesB f xs = true := risesB_true.2 fun j hj => h j hj hj
theorem rises_not {α : Type} {f : α → ByteArray} {xs : List α} {k : Nat} (hk : k + 1 < xs.length) (h : ltS (f (xs[k]'(by omega))) (f xs[k + 1]) = false) : risesB f xs = false := by
  cases hr : risesB f xs with
  | false => rfl
  | true => have := risesB_true.1 hr k hk; rw [h] at this; cases this

set_option maxRecDepth 100000 in
set_option maxHeartbeats 8000000 in
theorem arising_any (xs : List (ByteArray × ByteArray)) (v : Value) (L : Live) (w : World) (h : SliceR attrR L w xs v) :
    Calls Try.prog 94 #[v, .func (.func 95) #[] #[]] w fun e w' => e = .returned (.bool (risesB (·.1) xs)) ∧ Below w.heap.size w w' := by
  obtain ⟨A1, c1, rfl, hnc1, hn1, _⟩ := h.form
  have H := Lib.hid h
  clear h
  go_enter Try.func94, Try.ntmps94
  go_wp2
  go_loopw [8] (fun i wr => ∃ k : Nat, k ≤ xs.length ∧ i = .int .i64 k ∧ Hid (risesTo (·.1) xs k) ∧ Below w.heap.size w wr) (fun i _ => xs.length - (intOf i).toNat)
  case atStart => exact ⟨0, Nat.zero_le _, rfl, Lib.hid (risesTo_one _ _ _ (by omega)), Below.refl _ _⟩
  case round =>
    obtain ⟨k, hk, rfl, HI, hB⟩ := hrel
    have hbs := hB.size
    have HB := Lib.hid hB
    clear hB
    by_cases hl1 : k < xs.length
    · have hI1 : (k : Int) < (xs.length : Int) := by omega
      cases k with
      | zero =>
        have HJ : Hid (risesTo (·.1) xs 1) := Lib.hid (risesTo_one _ _ _ (by omega))
        go_wp2
        go_quiet (fail)
        go_wp2
        go_roundw
        case rel => exact ⟨1, by omega, by go_num, HJ, ⟨HB.out.os, HB.out.tape, HB.out.output, HB.out.size, HB.out.block⟩⟩
        case measure => simp [intOf]; omega
      | succ k =>
        obtain ⟨b1, o1, rfl, p0, p1, _, _⟩ := attrs_at (H.out.mono (sub_same HB.out)) k (by omega)
        obtain ⟨b2, o2, he, q0, q1, _, _⟩ := attrs_at (H.out.mono (sub_same HB.out)) (k + 1) hl1
        simp at he
        obtain ⟨rfl, rfl⟩ := he
        have hI0 : (0 : Int) ≤ (k : Int) := by omega
        have hI2 : (k : Int) < (xs.length : Int) := by omega
        have hw : IntKind.i64.wrap ((k + 1 : Nat) - 1 : Int) = (k : Int) := by rw [show (((k + 1 : Nat) : Int) - 1) = k by omega]; exact IntWalk.i64_in _ (by omega)
        have hw2 : IntKind.i64.wrap (k : Int) = (k : Int) := IntWalk.i64_in _ (by omega)
        have hG : (0 : Int) < ((k + 1 : Nat) : Int) := by omega
        have hG2 : (0 : Int) < (k : Int) + 1 := by omega
        have hG3 : (0 : Int) ≤ (k : Int) + 1 := by omega
        have hG4 : (k : Int) + 1 < (xs.length : Int) := by omega
        have hG5 : ((k : Int) + 1).toNat = k + 1 := by omega
        have HJ : Hid (ltS (xs[k]'(by omega)).1 xs[k + 1].1 = true → risesTo (·.1) xs (k + 1 + 1)) := Lib.hid (risesTo_succ HI.out hl1)
        have HK : Hid (ltS (xs[k]'(by omega)).1 xs[k + 1].1 = false → risesB (·.1) xs = false) := Lib.hid (rises_not (f := (·.1)) hl1)
        obtain ⟨x, hx⟩ : ∃ x, x = xs[k]'(by omega) := ⟨_, rfl⟩
        obtain ⟨y, hy⟩ : ∃ x, x = xs[k + 1] := ⟨_, rfl⟩
        rw [← hx] at p0 p1 HJ HK
        rw [← hy] at q0 q1 HJ HK
        clear hx hy
        obtain ⟨x1, x2⟩ := x
        obtain ⟨y1, y2⟩ := y
        dsimp only at p0 p1 q0 q1 HJ HK
        have HS : Hid (∀ w', Below wr.heap.size wr w' → w'.cell? ⟨b1, o1 + k * 2, none⟩ = some (.string x1) ∧ w'.cell? ⟨b1, o1 + k * 2 + 1, none⟩ = some (.string x2) ∧ w'.cell? ⟨b1, o1 + (k + 1) * 2, none⟩ = some (.string y1) ∧ w'.cell? ⟨b1, o1 + (k + 1) * 2 + 1, none⟩ = some (.string y2)) := Lib.hid (fun w' hb => by
          have kk : ∀ {p : Addr} {u : Value}, wr.cell? p = some u → w'.cell? p = some u := fun hu => (hb.cell (World.block_lt_of_cell? wr _ hu)).trans hu
          exact ⟨kk p0, kk p1, kk q0, kk q1⟩)
        have HR : Hid (Below wr.heap.size wr wr.drew) := Lib.hid (Below.refl _ _).drew
        obtain ⟨q, hq⟩ : ∃ q, q = ltS x1 y1 := ⟨_, rfl⟩
        have HQ : Hid (Op.bytesLess x1.toList y1.toList = q) := Lib.hid hq.symm
        rw [← hq] at HJ HK
        clear hq
        go_upto_region 4 with fail
        go_cut [28] (fun v wx => v = .bool (!q) ∧ Hid (Below wr.heap.size wr wx))
        case first =>
          go_region_held3 (fun w' => w'.cell? ⟨b1, o1 + k * 2, none⟩ = some (.string x1) ∧ w'.cell? ⟨b1, o1 + k * 2 + 1, none⟩ = some (.string x2) ∧ w'.cell? ⟨b1, o1 + (k + 1) * 2, none⟩ = some (.string y1) ∧ w'.cell? ⟨b1, o1 + (k + 1) * 2 + 1, none⟩ = some (.string y2))
            (first | exact HS.out _ HR.out | exact HS.out _ X2.out | exact HS.out _ X1.out | exact HS.out _ (Below.refl _ _))
            (first
            | (go_at_call 95
               refine (key_any x1 x2 _).mono ?_
               rintro e w1 ⟨rfl, h1⟩
               have X1 := Lib.hid (HR.out.trans h1)
               clear h1)
            | (go_at_call 95
               refine (key_any y1 y2 _).mono ?_
               rintro e w2 ⟨rfl, h2⟩
               have X2 := Lib.hid (X1.out.trans (h2.mono X1.out.size))
               clear h2))
          all_goals (go_wp2_with fail)
          all_goals (go_meet; case rel => exact ⟨by rw [HQ.out], X2⟩)
        case rest =>
          obtain ⟨rfl, HX⟩ := hcut
          have X1 := Lib.hid (HB.out.trans (HX.out.mono hbs))
          clear p0 p1 q0 q1 HX
          cases q with
          | true =>
            have HJ' := Lib.hid (HJ.out rfl)
            clear HJ HK
            go_wp2
            go_roundw
            case rel => exact ⟨k + 1 + 1, by omega, by go_num, HJ', X1.out⟩
            case measure => simp [intOf]; omega
          | false =>
            have HK' := Lib.hid (HK.out rfl)
            clear HJ HK
            go_wp2
            go_ret
            exact ⟨ret_bool (by rw [HK'.out]), X1.out⟩
    · have hke : k = xs.length := by omega
      have Hd : Hid (risesB (·.1) xs = true) := Lib.hid (risesTo_all (by have := HI.out; rw [hke] at this; exact this))
      clear hke
      go_wp2
      go_ret
      exact ⟨ret_bool (by rw [Hd.out]), HB.out⟩
set_option maxRecDepth 100000 in
set_option maxHeartbeats 8000000 in
theorem nrising_any (n : Nat) (xs : List Nd) (v : Value) (L : Live) (w : World) (h : SliceR (nodeR n) L w xs v) :
    Calls Try.prog 74 #[v, .func (.func 75) #[] #[]] w fun e w' => e = .returned (.bool (risesB (·.own.name) xs)) ∧ Below w.heap.size w w' := by
  obtain ⟨A1, c1, rfl, hnc1, hn1, _⟩ := h.form
  have H := Lib.hid h
  have c27 := cellsNode
  clear h
  go_enter Try.func74, Try.ntmps74
  go_wp2
  go_loopw [8] (fun i wr => ∃ k : Nat, k ≤ xs.length ∧ i = .int .i64 k ∧ Hid (risesTo (·.own.name) xs k) ∧ Below w.heap.size w wr) (fun i _ => xs.length - (intOf i).toNat)
  case atStart => exact ⟨0, Nat.zero_le _, rfl, Lib.hid (risesTo_one _ _ _ (by omega)), Below.refl _ _⟩
  case round =>
    obtain ⟨k, hk, rfl, HI, hB⟩ := hrel
    have hbs := hB.size
    have HB := Lib.hid hB
    clear hB
    by_cases hl1 : k < xs.length
    · have hI1 : (k : Int) < (xs.length : Int) := by omega
      cases k with
      | zero =>
        have HJ : Hid (risesTo (·.own.name) xs 1) := Lib.hid (risesTo_one _ _ _ (by omega))
        go_wp2
        go_quiet (fail)
        go_wp2
        go_roundw
        case rel => exact ⟨1, by omega, by go_num, HJ, ⟨HB.out.os, HB.out.tape, HB.out.output, HB.out.size, HB.out.block⟩⟩
        case measure => simp [intOf]; omega
      | succ k =>
        obtain ⟨b1, o1, cs1, rfl, hR1, hat1⟩ := nodes_at (H.out.mono (sub_same HB.out)) k (by omega)
        obtain ⟨b2, o2, cs2, he, hR2, hat2⟩ := nodes_at (H.out.mono (sub_same HB.out)) (k + 1) hl1
        simp at he
        obtain ⟨rfl, rfl⟩ := he
        have hI0 : (0 : Int) ≤ (k : Int) := by omega
        have hI2 : (k : Int) < (xs.length : Int) := by omega
        have hw : IntKind.i64.wrap ((k + 1 : Nat) - 1 : Int) = (k : Int) := by rw [show (((k + 1 : Nat) : Int) - 1) = k by omega]; exact IntWalk.i64_in _ (by omega)
        have hw2 : IntKind.i64.wrap (k : Int) = (k : Int) := IntWalk.i64_in _ (by omega)
        have hG : (0 : Int) < ((k + 1 : Nat) : Int) := by omega
        have hG2 : (0 : Int) < (k : Int) + 1 := by omega
        have hG3 : (0 : Int) ≤ (k : Int) + 1 := by omega
        have hG4 : (k : Int) + 1 < (xs.length : Int) := by omega
        have hG5 : ((k : Int) + 1).toNat = k + 1 := by omega
        have HJ : Hid (ltS (xs[k]'(by omega)).own.name xs[k + 1].own.name = true → risesTo (·.own.name) xs (k + 1 + 1)) := Lib.hid (risesTo_succ HI.out hl1)
        have HK : Hid (ltS (xs[k]'(by omega)).own.name xs[k + 1].own.name = false → risesB (·.own.name) xs = false) := Lib.hid (rises_not (f := (·.own.name)) hl1)
        obtain ⟨x, hx⟩ : ∃ x, x = xs[k]'(by omega) := ⟨_, rfl⟩
        obtain ⟨y, hy⟩ : ∃ x, x = xs[k + 1] := ⟨_, rfl⟩
        rw [← hx] at hR1 hat1 HJ HK
        rw [← hy] at hR2 hat2 HJ HK
        clear hx hy
        obtain ⟨m1, Ad1, cd1, Aa1, ca1, Ak1, ck1, hm1, rfl, hP1, _, _, _, _, _, _⟩ := node_open hR1
        obtain ⟨m2, Ad2, cd2, Aa2, ca2, Ak2, ck2, hm2, rfl, hP2, _, _, _, _, _, _⟩ := node_open hR2
        have hN1 := hat1 _ _ _ rfl
        have hN2 := hat2 _ _ _ rfl
        clear hat1 hat2 hP1 hP2 hm1 hm2 hR1 hR2
        have HS : Hid (∀ w', Below wr.heap.size wr w' → w'.cell? ⟨b1, o1 + k * 12, none⟩ = some (.int .i64 x.own.kind) ∧ w'.cell? ⟨b1, o1 + k * 12 + 1, none⟩ = some (.string x.own.name) ∧ w'.cell? ⟨b1, o1 + k * 12 + 2, none⟩ = some (.int .i64 x.own.mode) ∧ w'.cell? ⟨b1, o1 + k * 12 + 3, none⟩ = some (.int .i64 x.own.uid) ∧ w'.cell? ⟨b1, o1 + k * 12 + 4, none⟩ = some (.int .i64 x.own.gid) ∧ w'.cell? ⟨b1, o1 + k * 12 + 5, none⟩ = some (.int .i64 x.own.mtime) ∧ w'.cell? ⟨b1, o1 + k * 12 + 6, none⟩ = some (.slice Ad1 x.own.data.length cd1) ∧ w'.cell? ⟨b1, o1 + k * 12 + 7, none⟩ = some (.string x.own.target) ∧ w'.cell? ⟨b1, o1 + k * 12 + 8, none⟩ = some (.int .i64 x.own.major) ∧ w'.cell? ⟨b1, o1 + k * 12 + 9, none⟩ = some (.int .i64 x.own.minor) ∧ w'.cell? ⟨b1, o1 + k * 12 + 10, none⟩ = some (.slice Aa1 x.own.attrs.length ca1) ∧ w'.cell? ⟨b1, o1 + k * 12 + 11, none⟩ = some (.slice Ak1 x.kids.length ck1) ∧ w'.cell? ⟨b1, o1 + (k + 1) * 12, none⟩ = some (.int .i64 y.own.kind) ∧ w'.cell? ⟨b1, o1 + (k + 1) * 12 + 1, none⟩ = some (.string y.own.name) ∧ w'.cell? ⟨b1, o1 + (k + 1) * 12 + 2, none⟩ = some (.int .i64 y.own.mode) ∧ w'.cell? ⟨b1, o1 + (k + 1) * 12 + 3, none⟩ = some (.int .i64 y.own.uid) ∧ w'.cell? ⟨b1, o1 + (k + 1) * 12 + 4, none⟩ = some (.int .i64 y.own.gid) ∧ w'.cell? ⟨b1, o1 + (k + 1) * 12 + 5, none⟩ = some (.int .i64 y.own.mtime) ∧ w'.cell? ⟨b1, o1 + (k + 1) * 12 + 6, none⟩ = some (.slice Ad2 y.own.data.length cd2) ∧ w'.cell? ⟨b1, o1 + (k + 1) * 12 + 7, none⟩ = some (.string y.own.target) ∧ w'.cell? ⟨b1, o1 + (k + 1) * 12 + 8, none⟩ = some (.int .i64 y.own.major) ∧ w'.cell? ⟨b1, o1 + (k + 1) * 12 + 9, none⟩ = some (.int .i64 y.own.minor) ∧ w'.cell? ⟨b1, o1 + (k + 1) * 12 + 10, none⟩ = some (.slice Aa2 y.own.attrs.length ca2) ∧ w'.cell? ⟨b1, o1 + (k + 1) * 12 + 11, none⟩ = some (.slice Ak2 y.kids.length ck2)) := Lib.hid (fun w' hb => by
          obtain ⟨r0, r1, r2, r3, r4, r5, r6, r7, r8, r9, r10, r11⟩ := (hN1.below hb).all
          obtain ⟨s0, s1, s2, s3, s4, s5, s6, s7, s8, s9, s10, s11⟩ := (hN2.below hb).all
          exact ⟨r0, r1, r2, r3, r4, r5, r6, r7, r8, r9, r10, r11, s0, s1, s2, s3, s4, s5, s6, s7, s8, s9, s10, s11⟩)
        clear hN1 hN2
        have HR : Hid (Below wr.heap.size wr wr.drew) := Lib.hid (Below.refl _ _).drew
        obtain ⟨q, hq⟩ : ∃ q, q = ltS x.own.name y.own.name := ⟨_, rfl⟩
        have HQ : Hid (Op.bytesLess x.own.name.toList y.own.name.toList = q) := Lib.hid hq.symm
        rw [← hq] at HJ HK
        clear hq
        go_upto_region 4 with fail
        go_cut [28] (fun v wx => v = .bool (!q) ∧ Hid (Below wr.heap.size wr wx))
        case first =>
          go_region_held3 (fun w' => w'.cell? ⟨b1, o1 + k * 12, none⟩ = some (.int .i64 x.own.kind) ∧ w'.cell? ⟨b1, o1 + k * 12 + 1, none⟩ = some (.string x.own.name) ∧ w'.cell? ⟨b1, o1 + k * 12 + 2, none⟩ = some (.int .i64 x.own.mode) ∧ w'.cell? ⟨b1, o1 + k * 12 + 3, none⟩ = some (.int .i64 x.own.uid) ∧ w'.cell? ⟨b1, o1 + k * 12 + 4, none⟩ = some (.int .i64 x.own.gid) ∧ w'.cell? ⟨b1, o1 + k * 12 + 5, none⟩ = some (.int .i64 x.own.mtime) ∧ w'.cell? ⟨b1, o1 + k * 12 + 6, none⟩ = some (.slice Ad1 x.own.data.length cd1) ∧ w'.cell? ⟨b1, o1 + k * 12 + 7, none⟩ = some (.string x.own.target) ∧ w'.cell? ⟨b1, o1 + k * 12 + 8, none⟩ = some (.int .i64 x.own.major) ∧ w'.cell? ⟨b1, o1 + k * 12 + 9, none⟩ = some (.int .i64 x.own.minor) ∧ w'.cell? ⟨b1, o1 + k * 12 + 10, none⟩ = some (.slice Aa1 x.own.attrs.length ca1) ∧ w'.cell? ⟨b1, o1 + k * 12 + 11, none⟩ = some (.slice Ak1 x.kids.length ck1) ∧ w'.cell? ⟨b1, o1 + (k + 1) * 12, none⟩ = some (.int .i64 y.own.kind) ∧ w'.cell? ⟨b1, o1 + (k + 1) * 12 + 1, none⟩ = some (.string y.own.name) ∧ w'.cell? ⟨b1, o1 + (k + 1) * 12 + 2, none⟩ = some (.int .i64 y.own.mode) ∧ w'.cell? ⟨b1, o1 + (k + 1) * 12 + 3, none⟩ = some (.int .i64 y.own.uid) ∧ w'.cell? ⟨b1, o1 + (k + 1) * 12 + 4, none⟩ = some (.int .i64 y.own.gid) ∧ w'.cell? ⟨b1, o1 + (k + 1) * 12 + 5, none⟩ = some (.int .i64 y.own.mtime) ∧ w'.cell? ⟨b1, o1 + (k + 1) * 12 + 6, none⟩ = some (.slice Ad2 y.own.data.length cd2) ∧ w'.cell? ⟨b1, o1 + (k + 1) * 12 + 7, none⟩ = some (.string y.own.target) ∧ w'.cell? ⟨b1, o1 + (k + 1) * 12 + 8, none⟩ = some (.int .i64 y.own.major) ∧ w'.cell? ⟨b1, o1 + (k + 1) * 12 + 9, none⟩ = some (.int .i64 y.own.minor) ∧ w'.cell? ⟨b1, o1 + (k + 1) * 12 + 10, none⟩ = some (.slice Aa2 y.own.attrs.length ca2) ∧ w'.cell? ⟨b1, o1 + (k + 1) * 12 + 11, none⟩ = some (.slice Ak2 y.kids.length ck2))
            (first | with_reducible exact HS.out _ HR.out | with_reducible exact HS.out _ X1.out | with_reducible exact HS.out _ (Below.refl _ _))
            (first
            | (go_at_call 75
               refine (name_any' _ _ _ _ _).mono ?_
               rintro e w1 ⟨rfl, h1⟩
               first | have X1 := Lib.hid (X1.out.trans (h1.mono X1.out.size)) | have X1 := Lib.hid (HR.out.trans h1)
               clear h1))
          all_goals (go_wp2_with fail)
          all_goals (go_meet; case rel => exact ⟨by rw [HQ.out], X1⟩)
        case rest =>
          obtain ⟨rfl, HX⟩ := hcut
          have X1 := Lib.hid (HB.out.trans (HX.out.mono hbs))
          clear HX
          cases q with
          | true =>
            have HJ' := Lib.hid (HJ.out rfl)
            clear HJ HK
            go_wp2
            go_roundw
            case rel => exact ⟨k + 1 + 1, by omega, by go_num, HJ', X1.out⟩
            case measure => simp [intOf]; omega
          | false =>
            have HK' := Lib.hid (HK.out rfl)
            clear HJ HK
            go_wp2
            go_ret
            exact ⟨ret_bool (by rw [HK'.out]), X1.out⟩
    · have hke : k = xs.length := by omega
      have Hd : Hid (risesB (·.own.name) xs = true) := Lib.hid (risesTo_all (by have := HI.out; rw [hke] at this; exact this))
      clear hke
      go_wp2
      go_ret
      exact ⟨ret_bool (by rw [Hd.out]), HB.out⟩
end Go.Proofs.Ytojcciciinklbaa
