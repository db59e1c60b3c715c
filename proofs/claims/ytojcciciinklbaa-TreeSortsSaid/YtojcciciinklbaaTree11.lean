/- Walks: whether a tree's form may be. No claim by itself. -/
import Derived.Test.YtojcciciinklbaaTree10
set_option linter.unusedSimpArgs false
set_option linter.unusedVariables false
namespace Go.Proofs.Ytojcciciinklbaa
open Go.RowKit

mutual
noncomputable def formB : Nd → Bool
  | .mk o ks => ownB (.mk o ks) && !oddL ks && risesB (·.own.name) ks
noncomputable def oddL : List Nd → Bool
  | [] => false
  | k :: ks => (!nameB k.own.name || !formB k) || oddL ks
end
noncomputable def oddN (k : Nd) : Bool := !nameB k.own.name || !formB k
theorem oddL_any : ∀ ks, oddL ks = ks.any oddN
  | [] => by simp [oddL]
  | k :: ks => by rw [oddL, List.any_cons, oddL_any ks, oddN]
theorem formB_eq (x : Nd) : formB x = (ownB x && !x.kids.any oddN && risesB (·.own.name) x.kids) := by
  cases x with | mk o ks => rw [formB, oddL_any]; rfl

/-- form, at nodes of at most so many floors. -/
def FormAt (n : Nat) : Prop := ∀ (x : Nd) (cs : List Value) (L : Live) (w : World), (nodeR n).R L w x cs →
    Calls Try.prog 42 #[.agg cs.toArray] w fun e w' => e = .returned (.bool (formB x)) ∧ Below w.heap.size w w'

set_option maxRecDepth 100000 in
set_option maxHeartbeats 4000000 in
theorem form1_any (n : Nat) (H : FormAt n) (x : Nd) (cs : List Value) (L : Live) (w : World) (h : (nodeR n).R L w x cs) :
    Calls Try.prog 71 #[.agg cs.toArray] w fun e w' => e = .returned (.bool (oddN x)) ∧ Below w.heap.size w w' := by
  obtain ⟨m, Ad, cd, Aa, ca, Ak, ck, hm, rfl, hP, d1, d2, a1, a2, k1, k2⟩ := node_open h
  have HE : Hid (oddN x = (!nameB x.own.name || !formB x)) := Lib.hid rfl
  have HR := Lib.hid h
  have HF := Lib.hid H
  clear h hP hm H
  have c27 := cellsNode
  unfold nodeV
  go_enter Try.func71, Try.ntmps71
  go_wp2_with fail
  refine (name_any x.own.name _).mono ?_
  rintro e w1 ⟨rfl, h1⟩
  have HB : Hid (Box1 w (boxO x.own Ad cd Aa ca Ak x.kids.length ck) w1) := Lib.hid (box1.step h1)
  obtain ⟨n0, n1, n2, n3, n4, n5, n6, n7, n8, n9, n10, n11⟩ := HB.out.cells
  clear h1
  obtain ⟨q, hq⟩ : ∃ q, q = nameB x.own.name := ⟨_, rfl⟩
  rw [← hq] at HE ⊢
  clear hq
  cases q with
  | false =>
    go_wp2_with fail
    go_ret
    exact ⟨ret_bool (by rw [HE.out]; simp), HB.out.below⟩
  | true =>
    go_wp2_with fail
    refine (HF.out x _ L _ ((nodeR n).mono (sub_same HB.out.below) HR.out)).mono ?_
    rintro e w2 ⟨rfl, h2⟩
    have HB2 := Lib.hid (HB.out.step h2)
    clear h2
    go_wp2_with fail
    go_ret
    exact ⟨ret_bool (by rw [HE.out]; simp), HB2.out.below⟩

set_option maxRecDepth 100000 in
set_option maxHeartbeats 4000000 in
theorem nindex_any (n : Nat) (H : FormAt n) (xs : List Nd) (v : Value) (L : Live) (w : World) (h : SliceR (nodeR n) L w xs v) :
    Calls Try.prog 90 #[v, .func (.func 71) #[] #[]] w fun e w' => (∃ i : Int, e = .returned (.int .i64 i) ∧ decide (0 ≤ i) = xs.any oddN) ∧ Below w.heap.size w w' := by
  obtain ⟨A1, c1, rfl, hnc1, hn1, _⟩ := h.form
  have HS := Lib.hid h
  have HF := Lib.hid (form1_any n H)
  have c27 := cellsNode
  clear h H
  go_enter Try.func90, Try.ntmps90
  go_wp2
  go_loopw [8] (fun i wr => ∃ k : Nat, k ≤ xs.length ∧ i = .int .i64 k ∧ Hid (anyTo oddN xs k) ∧ Below w.heap.size w wr) (fun i _ => xs.length - (intOf i).toNat)
  case atStart => exact ⟨0, Nat.zero_le _, rfl, Lib.hid (anyTo_zero _ _), Below.refl _ _⟩
  case round =>
    obtain ⟨k, hk, rfl, HI, hB⟩ := hrel
    have hbs := hB.size
    have HB := Lib.hid hB
    clear hB
    by_cases hl1 : k < xs.length
    · obtain ⟨b1, o1, cs1, rfl, hR1, hat1⟩ := nodes_at (HS.out.mono (sub_same HB.out)) k hl1
      have hI1 : (k : Int) < (xs.length : Int) := by omega
      have HJ : Hid (oddN xs[k] = false → anyTo oddN xs (k + 1)) := Lib.hid (anyTo_succ HI.out hl1)
      have HK : Hid (oddN xs[k] = true → xs.any oddN = true) := Lib.hid (any_at hl1)
      obtain ⟨x, hx⟩ : ∃ x, x = xs[k] := ⟨_, rfl⟩
      rw [← hx] at hR1 hat1 HJ HK
      clear hx
      obtain ⟨m1, Ad1, cd1, Aa1, ca1, Ak1, ck1, hm1, rfl, hP1, _, _, _, _, _, _⟩ := node_open hR1
      obtain ⟨n0, n1, n2, n3, n4, n5, n6, n7, n8, n9, n10, n11⟩ := (hat1 _ _ _ rfl).all
      have HR1 := Lib.hid hR1
      clear hat1 hP1 hm1 hR1
      go_wp2_with fail
      refine (HF.out x _ L _ HR1.out).mono ?_
      rintro e w1 ⟨rfl, h1⟩
      have X1 := Lib.hid (HB.out.trans (h1.mono hbs))
      clear h1 n0 n1 n2 n3 n4 n5 n6 n7 n8 n9 n10 n11
      obtain ⟨q, hq⟩ : ∃ q, q = oddN x := ⟨_, rfl⟩
      rw [← hq] at HJ HK ⊢
      cases q with
      | false =>
        have HJ' := Lib.hid (HJ.out rfl)
        clear HJ HK hq
        go_wp2
        go_roundw
        case rel => exact ⟨k + 1, by omega, by go_num, HJ', X1.out⟩
        case measure => simp [intOf]; omega
      | true =>
        have HK' := Lib.hid (HK.out rfl)
        clear HJ HK hq
        go_wp2
        go_ret
        exact ⟨⟨k, rfl, by rw [HK'.out]; simp⟩, X1.out⟩
    · have hke : k = xs.length := by omega
      have Hd : Hid (xs.any oddN = false) := Lib.hid (anyTo_all (by have := HI.out; rw [hke] at this; exact this))
      clear hke
      go_wp2
      go_ret
      exact ⟨⟨-1, rfl, by rw [Hd.out]; rfl⟩, HB.out⟩

set_option maxHeartbeats 2000000 in
theorem ncontains_any (n : Nat) (H : FormAt n) (xs : List Nd) (v : Value) (L : Live) (w : World) (h : SliceR (nodeR n) L w xs v) :
    Calls Try.prog 70 #[v, .func (.func 71) #[] #[]] w fun e w' => e = .returned (.bool (xs.any oddN)) ∧ Below w.heap.size w w' := by
  have HS := Lib.hid h
  have HF := Lib.hid H
  clear h H
  go_enter Try.func70, Try.ntmps70
  go_wp2_with fail
  refine (nindex_any n HF.out xs v L _ HS.out).mono ?_
  rintro e w1 ⟨⟨i, rfl, hi⟩, h1⟩
  have HI := Lib.hid hi
  have H1 := Lib.hid h1
  clear hi h1
  go_wp2
  go_ret
  exact ⟨ret_bool (by simpa using HI.out), H1.out⟩

set_option maxRecDepth 100000 in
set_option maxHeartbeats 4000000 in
theorem form_at : ∀ n, FormAt n := by
  intro n
  induction n with
  | zero => intro x cs L w h; exact h.elim
  | succ n ih =>
    intro x cs L w h
    have HR := Lib.hid h
    obtain ⟨m, Ad, cd, Aa, ca, Ak, ck, hm, rfl, hP, d1, d2, a1, a2, k1, k2⟩ := node_open h
    obtain rfl : n = m := by omega
    have HE := Lib.hid (formB_eq x)
    have HK := Lib.hid hP.kids
    have HI := Lib.hid ih
    clear hm h hP ih
    have c27 := cellsNode
    unfold nodeV
    go_enter Try.func42, Try.ntmps42
    go_wp2_with fail
    have HB : Hid (Box1 w (boxO x.own Ad cd Aa ca Ak x.kids.length ck) (w.alloc (boxO x.own Ad cd Aa ca Ak x.kids.length ck))) := Lib.hid box1
    refine (ncontains_any n HI.out x.kids _ L _ (HK.out.mono (sub_same HB.out.below))).mono ?_
    rintro e w1 ⟨rfl, h1⟩
    have HB1 := Lib.hid (HB.out.step h1)
    clear h1 HB
    obtain ⟨n0, n1, n2, n3, n4, n5, n6, n7, n8, n9, n10, n11⟩ := HB1.out.cells
    obtain ⟨q1, hq1⟩ : ∃ q, q = x.kids.any oddN := ⟨_, rfl⟩
    rw [← hq1] at HE ⊢
    clear hq1
    go_wp2_with fail
    refine (own_any (n + 1) x _ L _ ((nodeR (n + 1)).mono (sub_same HB1.out.below) HR.out)).mono ?_
    rintro e w2 ⟨rfl, h2⟩
    have HB2 := Lib.hid (HB1.out.step h2)
    clear h2 n0 n1 n2 n3 n4 n5 n6 n7 n8 n9 n10 n11 HB1
    obtain ⟨n0, n1, n2, n3, n4, n5, n6, n7, n8, n9, n10, n11⟩ := HB2.out.cells
    obtain ⟨q2, hq2⟩ : ∃ q, q = ownB x := ⟨_, rfl⟩
    rw [← hq2] at HE ⊢
    clear hq2
    cases q1 <;> cases q2
    · go_wp2_with fail
      go_ret
      exact ⟨ret_bool (by rw [HE.out]; simp), HB2.out.below⟩
    · go_wp2_with fail
      refine (nrising_any n x.kids _ L _ (HK.out.mono (sub_same HB2.out.below))).mono ?_
      rintro e w3 ⟨rfl, h3⟩
      have HB3 := Lib.hid (HB2.out.step h3)
      clear h3
      go_wp2_with fail
      go_ret
      exact ⟨ret_bool (by rw [HE.out]; simp), HB3.out.below⟩
    · go_wp2_with fail
      go_ret
      exact ⟨ret_bool (by rw [HE.out]; simp), HB2.out.below⟩
    · go_wp2_with fail
      go_ret
      exact ⟨ret_bool (by rw [HE.out]; simp), HB2.out.below⟩
end Go.Proofs.Ytojcciciinklbaa
