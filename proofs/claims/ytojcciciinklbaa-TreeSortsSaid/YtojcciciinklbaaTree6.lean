/- Walks: whether two nodes are the same, and all below them. No claim by itself. -/
import Derived.Test.YtojcciciinklbaaTree5
set_option linter.unusedSimpArgs false
set_option linter.unusedVariables false
namespace Go.Proofs.Ytojcciciinklbaa
open Go.RowKit

/-- The first six fields. -/
noncomputable def oneB (o p : Own) : Bool := @decide (o.kind = p.kind ∧ o.name.toList = p.name.toList ∧ o.mode = p.mode ∧ o.uid = p.uid ∧ o.gid = p.gid ∧ o.mtime = p.mtime) (Classical.propDecidable _)
/-- The other ones. -/
noncomputable def twoB (o p : Own) : Bool := @decide (o.data = p.data ∧ o.target.toList = p.target.toList ∧ o.major = p.major ∧ o.minor = p.minor ∧ o.attrs = p.attrs) (Classical.propDecidable _)
theorem oneB_true {o p : Own} : oneB o p = true ↔ (o.kind = p.kind ∧ o.name.toList = p.name.toList ∧ o.mode = p.mode ∧ o.uid = p.uid ∧ o.gid = p.gid ∧ o.mtime = p.mtime) := by simp [oneB]
theorem twoB_true {o p : Own} : twoB o p = true ↔ (o.data = p.data ∧ o.target.toList = p.target.toList ∧ o.major = p.major ∧ o.minor = p.minor ∧ o.attrs = p.attrs) := by simp [twoB]
theorem own_eq {o p : Own} : o = p ↔ oneB o p = true ∧ twoB o p = true := by
  rw [oneB_true, twoB_true]
  constructor
  · rintro rfl; simp
  · rintro ⟨⟨h1, h2, h3, h4, h5, h6⟩, k1, k2, k3, k4, k5⟩
    cases o; cases p
    simp only at *
    have := toL_inj h2
    have := toL_inj k2
    simp_all
theorem nd_eq (x y : Nd) : x = y ↔ x.own = y.own ∧ x.kids = y.kids := by
  cases x; cases y; simp [Nd.own, Nd.kids]
theorem eqB_nd {x y : Nd} : eqB x y = (oneB x.own y.own && twoB x.own y.own && eqB x.kids y.kids) := by
  rw [Bool.eq_iff_iff, eqB_iff, Bool.and_eq_true, Bool.and_eq_true, eqB_iff, nd_eq, own_eq]

/-- Same, at nodes of at most so many floors. -/
def SameAt (n : Nat) : Prop := ∀ (m : Nat) (x y : Nd) (cs ds : List Value) (L1 L2 : Live) (w : World), (nodeR n).R L1 w x cs → (nodeR m).R L2 w y ds →
    Calls Try.prog 29 #[.agg cs.toArray, .agg ds.toArray] w fun e w' => e = .returned (.bool (eqB x y)) ∧ Below w.heap.size w w'

set_option maxRecDepth 100000 in
set_option maxHeartbeats 4000000 in
theorem eqfunc_any (n : Nat) (H : SameAt n) (m : Nat) (xs ys : List Nd) (v1 v2 : Value) (L1 L2 : Live) (w : World) (h1 : SliceR (nodeR n) L1 w xs v1) (h2 : SliceR (nodeR m) L2 w ys v2) :
    Calls Try.prog 59 #[v1, v2, .func (.func 29) #[] #[]] w fun e w' => e = .returned (.bool (eqB xs ys)) ∧ Below w.heap.size w w' := by
  obtain ⟨A1, c1, rfl, hnc1, hn1, _⟩ := h1.form
  obtain ⟨A2, c2, rfl, hnc2, hn2, _⟩ := h2.form
  have H1 := Lib.hid h1; have H2 := Lib.hid h2
  have HS := Lib.hid H
  have c27 := cellsNode
  clear h1 h2 H
  by_cases hlen : ¬ xs.length = ys.length
  · have hne : xs ≠ ys := fun e => hlen (by rw [e])
    have Hd := Lib.hid (eqB_false hne)
    have hb : ((xs.length : Int) != (ys.length : Int)) = true := bne_iff_ne.2 (by omega)
    clear hlen hne
    go_enter Try.func59, Try.ntmps59
    go_wp2
    go_ret
    exact ⟨ret_bool (by rw [Hd.out]), Below.refl _ _⟩
  have hlen := Classical.not_not.1 hlen
  have hb : ((xs.length : Int) != (ys.length : Int)) = false := by rw [hlen]; simp
  have Hlen := Lib.hid hlen
  clear hlen
  go_enter Try.func59, Try.ntmps59
  go_wp2
  go_loopw [17] (fun i wr => ∃ k : Nat, k ≤ xs.length ∧ i = .int .i64 k ∧ Hid (xs.take k = ys.take k) ∧ Below w.heap.size w wr) (fun i _ => xs.length - (intOf i).toNat)
  case atStart => exact ⟨0, Nat.zero_le _, rfl, Lib.hid rfl, Below.refl _ _⟩
  case round =>
    obtain ⟨k, hk, rfl, HI, hB⟩ := hrel
    have hbs := hB.size
    have HB := Lib.hid hB
    clear hB
    by_cases hl1 : k < xs.length
    · have hl2 : k < ys.length := by have := Hlen.out; omega
      obtain ⟨b1, o1, cs1, rfl, hR1, hat1⟩ := nodes_at (H1.out.mono (sub_same HB.out)) k hl1
      obtain ⟨b2, o2, cs2, rfl, hR2, hat2⟩ := nodes_at (H2.out.mono (sub_same HB.out)) k hl2
      have hI1 : (k : Int) < (xs.length : Int) := by omega
      have hI2 : (k : Int) < (ys.length : Int) := by omega
      have HJ : Hid (xs[k] = ys[k] → xs.take (k + 1) = ys.take (k + 1)) := Lib.hid (fun he => by rw [List.take_succ_eq_append_getElem hl1, List.take_succ_eq_append_getElem hl2, HI.out, he])
      have HK : Hid (xs[k] ≠ ys[k] → eqB xs ys = false) := Lib.hid (fun he => eqB_false (fun e => he (by subst e; rfl)))
      obtain ⟨x, hx⟩ : ∃ x, x = xs[k] := ⟨_, rfl⟩
      obtain ⟨y, hy⟩ : ∃ x, x = ys[k] := ⟨_, rfl⟩
      rw [← hx] at hR1 hat1
      rw [← hy] at hR2 hat2
      rw [← hx, ← hy] at HJ HK
      clear hx hy
      obtain ⟨m1, Ad1, cd1, Aa1, ca1, Ak1, ck1, hm1, rfl, hP1, _, _, _, _, _, _⟩ := node_open hR1
      obtain ⟨m2, Ad2, cd2, Aa2, ca2, Ak2, ck2, hm2, rfl, hP2, _, _, _, _, _, _⟩ := node_open hR2
      have hN1 := hat1 _ _ _ rfl
      have hN2 := hat2 _ _ _ rfl
      obtain ⟨n0, n1, n2, n3, n4, n5, n6, n7, n8, n9, n10, n11⟩ := hN1.all
      obtain ⟨p0, p1, p2, p3, p4, p5, p6, p7, p8, p9, p10, p11⟩ := hN2.all
      have lt1 := World.block_lt_of_cell? wr _ n0
      have lt2 := World.block_lt_of_cell? wr _ p0
      simp only at lt1 lt2
      have HR1 := Lib.hid hR1; have HR2 := Lib.hid hR2
      clear hat1 hat2 hP1 hP2 hm1 hm2 hR1 hR2 hN1 hN2
      have hx2 : ∀ o1 o2, Below wr.heap.size wr ((wr.alloc o1).alloc o2) := fun o1 o2 => ((Below.refl _ _).alloc (Nat.le_refl _) _).alloc (by simp) _
      have HX2 := Lib.hid hx2
      clear hx2
      go_wp2_with fail
      refine (HS.out m x y _ _ L1 L2 _ ((nodeR n).mono (sub_same (HX2.out _ _)) HR1.out) ((nodeR m).mono (sub_same (HX2.out _ _)) HR2.out)).mono ?_
      rintro e w1 ⟨rfl, h1⟩
      have X1 := Lib.hid (HB.out.trans (((HX2.out _ _).trans (h1.mono (by simp; omega))).mono hbs))
      clear h1 n0 n1 n2 n3 n4 n5 n6 n7 n8 n9 n10 n11 p0 p1 p2 p3 p4 p5 p6 p7 p8 p9 p10 p11
      by_cases he : x = y
      · rw [eqB_true he]
        have HJ' := Lib.hid (HJ.out he)
        clear he
        go_wp2
        go_roundw
        case rel => exact ⟨k + 1, by omega, by go_num, HJ', X1.out⟩
        case measure => simp [intOf]; omega
      · rw [eqB_false he]
        have HK' := Lib.hid (HK.out he)
        clear he
        go_wp2
        go_ret
        exact ⟨ret_bool (by rw [HK'.out]), X1.out⟩
    · have hke : k = xs.length := by omega
      have Hd : Hid (eqB xs ys = true) := Lib.hid (eqB_true (by
        have := HI.out
        rw [hke, List.take_length, Hlen.out, List.take_length] at this
        exact this))
      clear hke
      go_wp2
      go_ret
      exact ⟨ret_bool (by rw [Hd.out]), HB.out⟩

theorem oneB_eq {o p : Own} : oneB o p = (o.kind == p.kind && decide (o.name.toList = p.name.toList) && (o.mode == p.mode) && (o.uid == p.uid) && (o.gid == p.gid) && (o.mtime == p.mtime)) := by
  rw [Bool.eq_iff_iff, oneB_true]; simp [and_assoc]
theorem twoB_eq {o p : Own} : twoB o p = (eqB o.data p.data && decide (o.target.toList = p.target.toList) && (o.major == p.major) && (o.minor == p.minor) && eqB o.attrs p.attrs) := by
  rw [Bool.eq_iff_iff, twoB_true]; simp [eqB_iff, and_assoc]

/-- The two parameters' blocks, above the world that the call began in. -/
def Boxed (w : World) (o1 o2 : Obj) (w1 : World) : Prop := w1.heap[w.heap.size]? = some o1 ∧ w1.heap[w.heap.size + 1]? = some o2 ∧ Below w.heap.size w w1 ∧ w.heap.size + 1 + 1 ≤ w1.heap.size
theorem Boxed.step {w w1 w2 : World} {o1 o2 : Obj} (h : Boxed w o1 o2 w1) (h2 : Below w1.heap.size w1 w2) : Boxed w o1 o2 w2 := by
  obtain ⟨a, b, c, d⟩ := h
  have := h2.size
  exact ⟨by rw [h2.block _ (by omega)]; exact a, by rw [h2.block _ (by omega)]; exact b, c.trans (h2.mono (by omega)), by omega⟩
/-- A node in a block of its own. -/
def boxO (o : Own) (Ad : Option Addr) (cd : Nat) (Aa : Option Addr) (ca : Nat) (Ak : Option Addr) (lk ck : Nat) : Obj := .cells #[.int .i64 o.kind, .string o.name, .int .i64 o.mode, .int .i64 o.uid, .int .i64 o.gid, .int .i64 o.mtime, .slice Ad o.data.length cd, .string o.target, .int .i64 o.major, .int .i64 o.minor, .slice Aa o.attrs.length ca, .slice Ak lk ck] 27
theorem boxed {w : World} {o1 o2 : Obj} : Boxed w o1 o2 ((w.alloc o1).alloc o2) := two_boxes (Below.refl _ _)

set_option maxRecDepth 100000 in
set_option maxHeartbeats 8000000 in
theorem same_at : ∀ n, SameAt n := by
  intro n
  induction n with
  | zero => intro m x y cs ds L1 L2 w h; exact h.elim
  | succ n ih =>
    intro m x y cs ds L1 L2 w h1 h2
    obtain ⟨m1, Ad1, cd1, Aa1, ca1, Ak1, ck1, hm1, rfl, hP1, _, _, _, _, _, _⟩ := node_open h1
    obtain ⟨m2, Ad2, cd2, Aa2, ca2, Ak2, ck2, hm2, rfl, hP2, _, _, _, _, _, _⟩ := node_open h2
    obtain rfl : n = m1 := by omega
    clear hm1 hm2 h1 h2
    have HP1 := Lib.hid hP1; have HP2 := Lib.hid hP2
    have HE := Lib.hid (@eqB_nd x y)
    clear hP1 hP2
    unfold nodeV
    obtain ⟨o, ho⟩ : ∃ o, o = x.own := ⟨_, rfl⟩
    obtain ⟨p, hp⟩ : ∃ o, o = y.own := ⟨_, rfl⟩
    have hD1 := HP1.out.data; have hD2 := HP2.out.data; have hA1 := HP1.out.attrs; have hA2 := HP2.out.attrs
    rw [← ho] at hD1 hA1
    rw [← hp] at hD2 hA2
    have HD1 := Lib.hid hD1; have HD2 := Lib.hid hD2; have HA1 := Lib.hid hA1; have HA2 := Lib.hid hA2
    have HK1 := Lib.hid HP1.out.kids; have HK2 := Lib.hid HP2.out.kids
    rw [← ho, ← hp] at HE ⊢
    have H1 := Lib.hid (@oneB_eq o p)
    have H2 := Lib.hid (@twoB_eq o p)
    clear HP1 HP2 hD1 hD2 hA1 hA2 ho hp
    obtain ⟨b1, hb1⟩ : ∃ b, (o.kind == p.kind) = b := ⟨_, rfl⟩
    obtain ⟨b2, hb2⟩ : ∃ b, (o.mode == p.mode) = b := ⟨_, rfl⟩
    obtain ⟨b3, hb3⟩ : ∃ b, (o.uid == p.uid) = b := ⟨_, rfl⟩
    obtain ⟨b4, hb4⟩ : ∃ b, (o.gid == p.gid) = b := ⟨_, rfl⟩
    obtain ⟨b5, hb5⟩ : ∃ b, (o.mtime == p.mtime) = b := ⟨_, rfl⟩
    obtain ⟨b6, hb6⟩ : ∃ b, (o.major == p.major) = b := ⟨_, rfl⟩
    obtain ⟨b7, hb7⟩ : ∃ b, (o.minor == p.minor) = b := ⟨_, rfl⟩
    rw [hb1, hb2, hb3, hb4, hb5] at H1
    rw [hb6, hb7] at H2
    go_enter Try.func29, Try.ntmps29
    go_upto_region 1 with fail
    go_cut [5] (fun v wx => v = .bool (oneB o p) ∧ Hid (Boxed w (boxO o Ad1 cd1 Aa1 ca1 Ak1 x.kids.length ck1) (boxO p Ad2 cd2 Aa2 ca2 Ak2 y.kids.length ck2) wx))
    case first =>
      go_wp2_with fail
      all_goals (go_meet; case rel => exact ⟨by rw [H1.out]; simp [*], Lib.hid boxed⟩)
    case rest =>
      obtain ⟨rfl, HB⟩ := hcut
      go_upto_region 2 with fail
      go_cut [6] (fun v wx => v = .bool (twoB o p) ∧ Hid (Boxed w (boxO o Ad1 cd1 Aa1 ca1 Ak1 x.kids.length ck1) (boxO p Ad2 cd2 Aa2 ca2 Ak2 y.kids.length ck2) wx))
      case first =>
        obtain ⟨z0, z1, zb, zs⟩ := HB.out
        have ZB := Lib.hid zb
        obtain ⟨n0, n1, n2, n3, n4, n5, n6, n7, n8, n9, n10, n11⟩ := twelve z0
        obtain ⟨p0, p1, p2, p3, p4, p5, p6, p7, p8, p9, p10, p11⟩ := twelve z1
        clear z0 z1 zb
        go_wp2_with fail
        refine (bequal_any _ _ _ _ L1 L2 _ (HD1.out.mono (sub_same ZB.out)) (HD2.out.mono (sub_same ZB.out))).mono ?_
        rintro e _ ⟨rfl, rfl⟩
        obtain ⟨b8, hb8⟩ : ∃ b, eqB o.data p.data = b := ⟨_, rfl⟩
        rw [hb8] at H2 ⊢
        go_wp2_with fail
        all_goals first | (go_meet; case rel => exact ⟨by rw [H2.out]; simp [*], HB⟩) | skip
        refine (aequal_any _ _ _ _ L1 L2 _ (HA1.out.mono (sub_same ZB.out)) (HA2.out.mono (sub_same ZB.out))).mono ?_
        rintro e w1 ⟨rfl, h1⟩
        have HB1 := Lib.hid (HB.out.step h1)
        go_wp2
        go_meet
        case rel => exact ⟨by rw [H2.out]; simp [*], HB1⟩
      case rest =>
        obtain ⟨rfl, HB⟩ := hcut
        obtain ⟨z0, z1, zb, zs⟩ := HB.out
        have ZB := Lib.hid zb
        obtain ⟨n0, n1, n2, n3, n4, n5, n6, n7, n8, n9, n10, n11⟩ := twelve z0
        obtain ⟨p0, p1, p2, p3, p4, p5, p6, p7, p8, p9, p10, p11⟩ := twelve z1
        clear z0 z1 zb
        clear H1 H2 hb1 hb2 hb3 hb4 hb5 hb6 hb7
        obtain ⟨c1, hc1⟩ : ∃ b, oneB o p = b := ⟨_, rfl⟩
        obtain ⟨c2, hc2⟩ : ∃ b, twoB o p = b := ⟨_, rfl⟩
        rw [hc1, hc2] at HE ⊢
        have IH := Lib.hid ih
        clear hc1 hc2 ih
        go_wp2_with fail
        all_goals first | (go_ret; exact ⟨ret_bool (by rw [HE.out]; simp [*]), ZB.out⟩) | skip
        refine (eqfunc_any n IH.out m2 _ _ _ _ L1 L2 _ (HK1.out.mono (sub_same ZB.out)) (HK2.out.mono (sub_same ZB.out))).mono ?_
        rintro e w1 ⟨rfl, h1⟩
        have X1 := Lib.hid (ZB.out.trans (h1.mono (by have := ZB.out.size; omega)))
        clear h1 n0 n1 n2 n3 n4 n5 n6 n7 n8 n9 n10 n11 p0 p1 p2 p3 p4 p5 p6 p7 p8 p9 p10 p11
        go_wp2
        go_ret
        exact ⟨ret_bool (by rw [HE.out]; simp [*]), X1.out⟩
end Go.Proofs.Ytojcciciinklbaa
