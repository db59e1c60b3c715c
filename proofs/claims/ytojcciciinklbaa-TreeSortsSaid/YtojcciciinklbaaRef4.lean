/- Walks: whether two nodes' own fields are the same, whether two trees are, as the document says it. No claim by itself. -/
import Derived.Test.YtojcciciinklbaaRef2
import Derived.Test.YtojcciciinklbaaQuiet
set_option linter.unusedSimpArgs false
set_option linter.unusedVariables false
namespace Go.Proofs.Ytojcciciinklbaa
open Go.RowKit

def eqTo {α : Type} (xs ys : List α) (k : Nat) : Prop := xs.take k = ys.take k
theorem eqTo_succ {α : Type} {xs ys : List α} {k : Nat} (h : eqTo xs ys k) (h1 : k < xs.length) (h2 : k < ys.length) (he : xs[k] = ys[k]) : eqTo xs ys (k + 1) := by
  unfold eqTo at h ⊢
  rw [List.take_succ_eq_append_getElem h1, List.take_succ_eq_append_getElem h2, h, he]
theorem eqTo_all {α : Type} {xs ys : List α} (h : eqTo xs ys xs.length) (hl : xs.length = ys.length) : xs = ys := by
  unfold eqTo at h
  rw [List.take_length, hl, List.take_length] at h; exact h
theorem ne_get {α : Type} {xs ys : List α} {k : Nat} (h1 : k < xs.length) (h2 : k < ys.length) (h : xs[k] ≠ ys[k]) : xs ≠ ys := fun e => by subst e; exact h rfl

set_option maxHeartbeats 2000000 in
theorem sattrs_any (xs ys : List (ByteArray × ByteArray)) (v1 v2 : Value) (L1 L2 : Live) (w : World) (h1 : SliceR attrR L1 w xs v1) (h2 : SliceR attrR L2 w ys v2) :
    Calls Try.prog 51 #[v1, v2] w fun e w' => e = .returned (.bool (eqB xs ys)) ∧ Below w.heap.size w w' := by
  obtain ⟨A1, c1, rfl, hnc1, hn1, _⟩ := h1.form
  obtain ⟨A2, c2, rfl, hnc2, hn2, _⟩ := h2.form
  have H1 := Lib.hid h1; have H2 := Lib.hid h2
  clear h1 h2
  go_enter Try.func51, Try.ntmps51
  by_cases hl : xs.length = ys.length
  · have hlI : (xs.length : Int) = (ys.length : Int) := by omega
    go_wp2
    go_loopw [5] (fun i wr => ∃ k : Nat, k ≤ xs.length ∧ i = .int .i64 k ∧ Hid (eqTo xs ys k) ∧ Below w.heap.size w wr) (fun i _ => xs.length - (intOf i).toNat)
    case atStart => exact ⟨0, Nat.zero_le _, rfl, Lib.hid rfl, Below.refl _ _⟩
    case round =>
      obtain ⟨k, hk, rfl, HI, hB⟩ := hrel
      have HB := Lib.hid hB
      clear hB
      by_cases hlt : k < xs.length
      · have hlt2 : k < ys.length := by omega
        have hI1 : (k : Int) < (xs.length : Int) := by omega
        have hI2 : (k : Int) < (ys.length : Int) := by omega
        obtain ⟨b1, o1, rfl, p0, p1, z1, z2⟩ := attrs_at (H1.out.mono (sub_same HB.out)) k hlt
        obtain ⟨b2, o2, rfl, q0, q1, y1, y2⟩ := attrs_at (H2.out.mono (sub_same HB.out)) k hlt2
        have HJ : Hid (xs[k] = ys[k] → eqTo xs ys (k + 1)) := Lib.hid (eqTo_succ HI.out hlt hlt2)
        have HN : Hid (xs[k] ≠ ys[k] → xs ≠ ys) := Lib.hid (ne_get hlt hlt2)
        obtain ⟨a, ha⟩ : ∃ a, a = xs[k] := ⟨_, rfl⟩
        obtain ⟨b, hb⟩ : ∃ a, a = ys[k] := ⟨_, rfl⟩
        rw [← ha] at p0 p1 z1 z2 HJ HN
        rw [← hb] at q0 q1 y1 y2 HJ HN
        clear ha hb
        obtain ⟨x1, x2⟩ := a
        obtain ⟨y1', y2'⟩ := b
        dsimp only at p0 p1 q0 q1 z1 z2 y1 y2
        by_cases e1 : x1 = y1'
        · subst e1
          by_cases e2 : x2 = y2'
          · subst e2
            have HJ' := Lib.hid (HJ.out rfl)
            clear HJ HN
            go_wp2
            go_quiet (fail)
            go_wp2
            go_roundw
            case rel => exact ⟨k + 1, by omega, by go_num, HJ', by first | exact bdn HB.out _ | exact HB.out.drew⟩
            case measure => simp [intOf]; omega
          · have HF : Hid (eqB xs ys = false) := Lib.hid (eqB_false (HN.out fun e => e2 (by injection e)))
            have l2 := toL_nb e2
            have l3 := toL_np e2
            clear HJ HN e2
            go_wp2
            go_quiet (fail)
            go_wp2
            go_ret
            exact ⟨ret_bool (by rw [HF.out]), by first | exact bdn HB.out _ | exact HB.out.drew⟩
        · have HF : Hid (eqB xs ys = false) := Lib.hid (eqB_false (HN.out fun e => e1 (by injection e)))
          have l2 := toL_nb e1
          have l3 := toL_np e1
          clear HJ HN e1
          go_wp2
          go_quiet (fail)
          go_wp2
          go_ret
          exact ⟨ret_bool (by rw [HF.out]), by first | exact bdn HB.out _ | exact HB.out.drew⟩
      · have hke : k = xs.length := by omega
        have hI1 : ¬ (k : Int) < (xs.length : Int) := by omega
        have HF : Hid (eqB xs ys = true) := Lib.hid (eqB_true (eqTo_all (by rw [← hke]; exact HI.out) hl))
        clear hke
        go_wp2
        go_ret
        exact ⟨ret_bool (by rw [HF.out]), HB.out⟩
  · have hlI : ¬ (xs.length : Int) = (ys.length : Int) := by omega
    have hlB : ((xs.length : Int) == (ys.length : Int)) = false := beq_eq_false_iff_ne.2 hlI
    have HF : Hid (eqB xs ys = false) := Lib.hid (eqB_false (fun e => hl (by rw [e])))
    clear hl
    go_wp2
    go_ret
    exact ⟨ret_bool (by rw [HF.out]), Below.refl _ _⟩

theorem str_same (xs ys : List UInt8) : ((mkS xs).toList == (mkS ys).toList) = eqB xs ys := by
  rw [Bool.eq_iff_iff, beq_iff_eq, eqB_iff]
  exact ⟨fun h => mkS_inj (toL_inj h), fun h => by rw [h]⟩
theorem own_same (o p : Own) : eqB o p = (eqB o.attrs p.attrs && (o.kind == p.kind) && decide (o.name.toList = p.name.toList) && (o.mode == p.mode) && (o.uid == p.uid) && (o.gid == p.gid) && (o.mtime == p.mtime) && eqB o.data p.data && decide (o.target.toList = p.target.toList) && (o.major == p.major) && (o.minor == p.minor)) := by
  rw [Bool.eq_iff_iff, eqB_iff, own_eq, oneB_eq, twoB_eq]
  simp only [Bool.and_eq_true]
  constructor
  · rintro ⟨⟨⟨⟨⟨⟨h1, h2⟩, h3⟩, h4⟩, h5⟩, h6⟩, ⟨⟨⟨h7, h8⟩, h9⟩, h10⟩, h11⟩
    exact ⟨⟨⟨⟨⟨⟨⟨⟨⟨⟨h11, h1⟩, h2⟩, h3⟩, h4⟩, h5⟩, h6⟩, h7⟩, h8⟩, h9⟩, h10⟩
  · rintro ⟨⟨⟨⟨⟨⟨⟨⟨⟨⟨h11, h1⟩, h2⟩, h3⟩, h4⟩, h5⟩, h6⟩, h7⟩, h8⟩, h9⟩, h10⟩
    exact ⟨⟨⟨⟨⟨⟨h1, h2⟩, h3⟩, h4⟩, h5⟩, h6⟩, ⟨⟨⟨h7, h8⟩, h9⟩, h10⟩, h11⟩

set_option maxRecDepth 100000 in
set_option maxHeartbeats 8000000 in
theorem sown_any (n m : Nat) (x y : Nd) (cs ds : List Value) (L1 L2 : Live) (w : World) (h1 : (nodeR n).R L1 w x cs) (h2 : (nodeR m).R L2 w y ds) :
    Calls Try.prog 24 #[.agg cs.toArray, .agg ds.toArray] w fun e w' => e = .returned (.bool (eqB x.own y.own)) ∧ Below w.heap.size w w' := by
  obtain ⟨m1, Ad1, cd1, Aa1, ca1, Ak1, ck1, hm1, rfl, hP1, _, _, _, _, _, _⟩ := node_open h1
  obtain ⟨m2, Ad2, cd2, Aa2, ca2, Ak2, ck2, hm2, rfl, hP2, _, _, _, _, _, _⟩ := node_open h2
  clear hm1 hm2 h1 h2
  unfold nodeV
  obtain ⟨o, ho⟩ : ∃ o, o = x.own := ⟨_, rfl⟩
  obtain ⟨p, hp⟩ : ∃ o, o = y.own := ⟨_, rfl⟩
  obtain ⟨l1, hl1⟩ : ∃ l, l = x.kids.length := ⟨_, rfl⟩
  obtain ⟨l2, hl2⟩ : ∃ l, l = y.kids.length := ⟨_, rfl⟩
  have hD1 := hP1.data; have hD2 := hP2.data; have hA1 := hP1.attrs; have hA2 := hP2.attrs
  rw [← ho] at hD1 hA1
  rw [← hp] at hD2 hA2
  rw [← ho, ← hp, ← hl1, ← hl2]
  have HD1 := Lib.hid hD1; have HD2 := Lib.hid hD2; have HA1 := Lib.hid hA1; have HA2 := Lib.hid hA2
  have HE := Lib.hid (own_same o p)
  clear hP1 hP2 hD1 hD2 hA1 hA2 ho hp hl1 hl2
  obtain ⟨b1, hb1⟩ : ∃ b, (o.kind == p.kind) = b := ⟨_, rfl⟩
  obtain ⟨b2, hb2⟩ : ∃ b, (o.mode == p.mode) = b := ⟨_, rfl⟩
  obtain ⟨b3, hb3⟩ : ∃ b, (o.uid == p.uid) = b := ⟨_, rfl⟩
  obtain ⟨b4, hb4⟩ : ∃ b, (o.gid == p.gid) = b := ⟨_, rfl⟩
  obtain ⟨b5, hb5⟩ : ∃ b, (o.mtime == p.mtime) = b := ⟨_, rfl⟩
  obtain ⟨b6, hb6⟩ : ∃ b, (o.major == p.major) = b := ⟨_, rfl⟩
  obtain ⟨b7, hb7⟩ : ∃ b, (o.minor == p.minor) = b := ⟨_, rfl⟩
  rw [hb1, hb2, hb3, hb4, hb5, hb6, hb7] at HE
  go_enter Try.func24, Try.ntmps24
  go_wp2_with fail
  have HB : Hid (Boxed w (boxO o Ad1 cd1 Aa1 ca1 Ak1 l1 ck1) (boxO p Ad2 cd2 Aa2 ca2 Ak2 l2 ck2) ((w.alloc (boxO o Ad1 cd1 Aa1 ca1 Ak1 l1 ck1)).alloc (boxO p Ad2 cd2 Aa2 ca2 Ak2 l2 ck2))) := Lib.hid boxed
  refine (sattrs_any _ _ _ _ L1 L2 _ (HA1.out.mono (sub_same HB.out.2.2.1)) (HA2.out.mono (sub_same HB.out.2.2.1))).mono ?_
  rintro e w1 ⟨rfl, h1⟩
  have HB1 := Lib.hid (HB.out.step h1)
  clear h1 HB
  obtain ⟨z0, z1, zb, zs⟩ := HB1.out
  have ZB := Lib.hid zb
  obtain ⟨n0, n1, n2, n3, n4, n5, n6, n7, n8, n9, n10, n11⟩ := twelve z0
  obtain ⟨p0, p1, p2, p3, p4, p5, p6, p7, p8, p9, p10, p11⟩ := twelve z1
  have k1 := (HD1.out.mono (sub_same ZB.out)).toStr (P := Try.prog) 23 5 9 Try.underlying23 Try.underlying5 Try.underlying9
  have k2 := (HD2.out.mono (sub_same ZB.out)).toStr (P := Try.prog) 23 5 9 Try.underlying23 Try.underlying5 Try.underlying9
  obtain ⟨s1, hs1⟩ : ∃ s, s = mkS o.data := ⟨_, rfl⟩
  obtain ⟨s2, hs2⟩ : ∃ s, s = mkS p.data := ⟨_, rfl⟩
  have hs := str_same o.data p.data
  rw [← hs1, ← hs2] at hs
  rw [← hs1] at k1
  rw [← hs2] at k2
  obtain ⟨b8, hb8⟩ : ∃ b, eqB o.data p.data = b := ⟨_, rfl⟩
  obtain ⟨b9, hb9⟩ : ∃ b, eqB o.attrs p.attrs = b := ⟨_, rfl⟩
  rw [hb8] at hs
  rw [hb8, hb9] at HE
  rw [hb9]
  obtain ⟨b10, hb10⟩ : ∃ b, (o.name.toList == p.name.toList) = b := ⟨_, rfl⟩
  obtain ⟨b11, hb11⟩ : ∃ b, (o.target.toList == p.target.toList) = b := ⟨_, rfl⟩
  have hd10 : decide (o.name.toList = p.name.toList) = b10 := by rw [← hb10, Bool.eq_iff_iff]; simp
  have hd11 : decide (o.target.toList = p.target.toList) = b11 := by rw [← hb11, Bool.eq_iff_iff]; simp
  rw [hd10, hd11] at HE
  clear z0 z1 zb HB1 hb8 hb9 hs1 hs2 hd10 hd11 HD1 HD2 HA1 HA2
  simp only [List.cons_append, List.nil_append] at *
  go_upto_region 2 with fail
  iterate 3 (first | go_values | go_skip | go_guarded | go_step | go_upon | go_in | go_back | (split <;> (first | (rename_i hx; exact (hx _ rfl).elim) | go_prune)))
  cases b9 with
  | false =>
    have Hf := Lib.hid HE.out
    simp only [Bool.and_false, Bool.false_and] at Hf
    refine wpList_quiet_end 4 (.bool false) (by kernel_rfl) ?_
    intro a' h1 h2
    simp only [Array.getD_eq_getD_getElem?] at h1
    go_wp2
    refine bodyPost_ret (v := .bool false) (by simp only [results]; simp [h1]) h2 ?_
    exact ⟨ret_bool Hf.out.symm, ZB.out⟩
  | true =>
    iterate 16 (first | go_values | go_skip | go_guarded | go_step | go_upon | go_in | go_back | (split <;> (first | (rename_i hx; exact (hx _ rfl).elim) | go_prune)))
    cases b1 with
    | false =>
      have Hf := Lib.hid HE.out
      simp only [Bool.and_false, Bool.false_and] at Hf
      refine wpList_quiet_end 4 (.bool false) (by kernel_rfl) ?_
      intro a' h1 h2
      simp only [Array.getD_eq_getD_getElem?] at h1
      go_wp2
      refine bodyPost_ret (v := .bool false) (by simp only [results]; simp [h1]) h2 ?_
      exact ⟨ret_bool Hf.out.symm, ZB.out⟩
    | true =>
      iterate 14 (first | go_values | go_skip | go_guarded | go_step | go_upon | go_in | go_back | (split <;> (first | (rename_i hx; exact (hx _ rfl).elim) | go_prune)))
      cases b10 with
      | false =>
        have Hf := Lib.hid HE.out
        simp only [Bool.and_false, Bool.false_and] at Hf
        refine wpList_quiet_end 4 (.bool false) (by kernel_rfl) ?_
        intro a' h1 h2
        simp only [Array.getD_eq_getD_getElem?] at h1
        go_wp2
        refine bodyPost_ret (v := .bool false) (by simp only [results]; simp [h1]) h2 ?_
        exact ⟨ret_bool Hf.out.symm, ZB.out⟩
      | true =>
        iterate 14 (first | go_values | go_skip | go_guarded | go_step | go_upon | go_in | go_back | (split <;> (first | (rename_i hx; exact (hx _ rfl).elim) | go_prune)))
        cases b2 with
        | false =>
          have Hf := Lib.hid HE.out
          simp only [Bool.and_false, Bool.false_and] at Hf
          refine wpList_quiet_end 4 (.bool false) (by kernel_rfl) ?_
          intro a' h1 h2
          simp only [Array.getD_eq_getD_getElem?] at h1
          go_wp2
          refine bodyPost_ret (v := .bool false) (by simp only [results]; simp [h1]) h2 ?_
          exact ⟨ret_bool Hf.out.symm, ZB.out⟩
        | true =>
          iterate 14 (first | go_values | go_skip | go_guarded | go_step | go_upon | go_in | go_back | (split <;> (first | (rename_i hx; exact (hx _ rfl).elim) | go_prune)))
          cases b3 with
          | false =>
            have Hf := Lib.hid HE.out
            simp only [Bool.and_false, Bool.false_and] at Hf
            refine wpList_quiet_end 4 (.bool false) (by kernel_rfl) ?_
            intro a' h1 h2
            simp only [Array.getD_eq_getD_getElem?] at h1
            go_wp2
            refine bodyPost_ret (v := .bool false) (by simp only [results]; simp [h1]) h2 ?_
            exact ⟨ret_bool Hf.out.symm, ZB.out⟩
          | true =>
            iterate 14 (first | go_values | go_skip | go_guarded | go_step | go_upon | go_in | go_back | (split <;> (first | (rename_i hx; exact (hx _ rfl).elim) | go_prune)))
            cases b4 with
            | false =>
              have Hf := Lib.hid HE.out
              simp only [Bool.and_false, Bool.false_and] at Hf
              refine wpList_quiet_end 4 (.bool false) (by kernel_rfl) ?_
              intro a' h1 h2
              simp only [Array.getD_eq_getD_getElem?] at h1
              go_wp2
              refine bodyPost_ret (v := .bool false) (by simp only [results]; simp [h1]) h2 ?_
              exact ⟨ret_bool Hf.out.symm, ZB.out⟩
            | true =>
              iterate 16 (first | go_values | go_skip | go_guarded | go_step | go_upon | go_in | go_back | (split <;> (first | (rename_i hx; exact (hx _ rfl).elim) | go_prune)))
              cases b5 with
              | false =>
                have Hf := Lib.hid HE.out
                simp only [Bool.and_false, Bool.false_and] at Hf
                refine wpList_quiet_end 4 (.bool false) (by kernel_rfl) ?_
                intro a' h1 h2
                simp only [Array.getD_eq_getD_getElem?] at h1
                go_wp2
                refine bodyPost_ret (v := .bool false) (by simp only [results]; simp [h1]) h2 ?_
                exact ⟨ret_bool Hf.out.symm, ZB.out⟩
              | true =>
                iterate 20 (first | go_values | go_skip | go_guarded | go_step | go_upon | go_in | go_back | (split <;> (first | (rename_i hx; exact (hx _ rfl).elim) | go_prune)))
                cases b8 with
                | false =>
                  have Hf := Lib.hid HE.out
                  simp only [Bool.and_false, Bool.false_and] at Hf
                  refine wpList_quiet_end 4 (.bool false) (by kernel_rfl) ?_
                  intro a' h1 h2
                  simp only [Array.getD_eq_getD_getElem?] at h1
                  go_wp2
                  refine bodyPost_ret (v := .bool false) (by simp only [results]; simp [h1]) h2 ?_
                  exact ⟨ret_bool Hf.out.symm, ZB.out⟩
                | true =>
                  iterate 16 (first | go_values | go_skip | go_guarded | go_step | go_upon | go_in | go_back | (split <;> (first | (rename_i hx; exact (hx _ rfl).elim) | go_prune)))
                  cases b11 with
                  | false =>
                    have Hf := Lib.hid HE.out
                    simp only [Bool.and_false, Bool.false_and] at Hf
                    refine wpList_quiet_end 4 (.bool false) (by kernel_rfl) ?_
                    intro a' h1 h2
                    simp only [Array.getD_eq_getD_getElem?] at h1
                    go_wp2
                    refine bodyPost_ret (v := .bool false) (by simp only [results]; simp [h1]) h2 ?_
                    exact ⟨ret_bool Hf.out.symm, ZB.out⟩
                  | true =>
                    iterate 16 (first | go_values | go_skip | go_guarded | go_step | go_upon | go_in | go_back | (split <;> (first | (rename_i hx; exact (hx _ rfl).elim) | go_prune)))
                    cases b6 with
                    | false =>
                      have Hf := Lib.hid HE.out
                      simp only [Bool.and_false, Bool.false_and] at Hf
                      refine wpList_quiet_end 4 (.bool false) (by kernel_rfl) ?_
                      intro a' h1 h2
                      simp only [Array.getD_eq_getD_getElem?] at h1
                      go_wp2
                      refine bodyPost_ret (v := .bool false) (by simp only [results]; simp [h1]) h2 ?_
                      exact ⟨ret_bool Hf.out.symm, ZB.out⟩
                    | true =>
                      iterate 16 (first | go_values | go_skip | go_guarded | go_step | go_upon | go_in | go_back | (split <;> (first | (rename_i hx; exact (hx _ rfl).elim) | go_prune)))
                      cases b7 with
                      | false =>
                        have Hf := Lib.hid HE.out
                        simp only [Bool.and_false, Bool.false_and] at Hf
                        refine wpList_quiet_end 4 (.bool false) (by kernel_rfl) ?_
                        intro a' h1 h2
                        simp only [Array.getD_eq_getD_getElem?] at h1
                        go_wp2
                        refine bodyPost_ret (v := .bool false) (by simp only [results]; simp [h1]) h2 ?_
                        exact ⟨ret_bool Hf.out.symm, ZB.out⟩
                      | true =>
                        have Hf := Lib.hid HE.out
                        simp only [Bool.and_true] at Hf
                        refine wpList_quiet_end 4 (.bool true) (by kernel_rfl) ?_
                        intro a' h1 h2
                        simp only [Array.getD_eq_getD_getElem?] at h1
                        go_wp2
                        refine bodyPost_ret (v := .bool true) (by simp only [results]; simp [h1]) h2 ?_
                        exact ⟨ret_bool Hf.out.symm, ZB.out⟩
end Go.Proofs.Ytojcciciinklbaa
