/- Walks: whether a node's own fields may be, as the document says it. No claim by itself. -/
import Derived.Test.YtojcciciinklbaaRef2
set_option linter.unusedSimpArgs false
set_option linter.unusedVariables false
namespace Go.Proofs.Ytojcciciinklbaa
open Go.RowKit

theorem attrsR_at {xs : List (ByteArray × ByteArray)} {k : Nat} (h : k < xs.length) (last : ByteArray) : attrsR last (xs.drop k) = (nameB xs[k].1 && ltS last xs[k].1 && decide (xs[k].2.size ≤ 24) && attrsR xs[k].1 (xs.drop (k + 1))) := by
  rw [List.drop_eq_getElem_cons h]; rfl
theorem headB_no {o : Own} (h : o.kind < 1 ∨ 4 < o.kind ∨ o.mode < 0 ∨ 4095 < o.mode ∨ o.uid < 0 ∨ 2147483647 < o.uid ∨ o.gid < 0 ∨ 2147483647 < o.gid ∨ o.mtime < 0 ∨ 1099511627776 < o.mtime) : headB o = false := by
  rw [← Bool.not_eq_true]
  intro hn
  simp only [headB, inB, Bool.not_eq_true', Bool.or_eq_false_iff, decide_eq_false_iff_not, Bool.not_eq_false', decide_eq_true_eq] at hn
  omega
theorem kindR_no1 {o : Own} (h : o.kind ≠ 2) (h2 : o.data.length ≠ 0) : kindR o = false := by simp [kindR, h, h2]
theorem kindR_no2 {o : Own} (h : o.kind ≠ 3) (h2 : o.target.size ≠ 0) : kindR o = false := by simp [kindR, h, h2]
theorem kindR_no3 {o : Own} (h : o.kind ≠ 4) (h2 : o.major ≠ 0 ∨ o.minor ≠ 0) : kindR o = false := by
  rcases h2 with h2 | h2 <;> simp [kindR, h, h2]
theorem endR_no {o : Own} (h : o.kind ≠ 3) (h2 : 4096 < o.data.length ∨ o.major < 0 ∨ 255 < o.major ∨ o.minor < 0 ∨ 255 < o.minor) : endR o = false := by
  rw [← Bool.not_eq_true]; intro hn
  unfold endR at hn
  rw [if_neg h] at hn
  simp only [Bool.and_eq_true, decide_eq_true_eq] at hn
  omega
theorem endR_no3 {o : Own} (h : o.kind = 3) (h2 : o.target.size = 0 ∨ 64 < o.target.size) : endR o = false := by
  rw [← Bool.not_eq_true]; intro hn
  unfold endR at hn
  rw [if_pos h] at hn
  simp only [Bool.and_eq_true, decide_eq_true_eq] at hn
  omega
theorem endR_zero {o : Own} (h : o.kind = 3) (h2 : o.target.data.toList.all (fun c => decide (c ≠ 0)) = false) : endR o = false := by
  unfold endR
  rw [if_pos h, h2]; rfl
theorem zeros_at {s : ByteArray} {k : Nat} (h : k < s.size) : (s.data.toList.drop k).all (fun c => decide (c ≠ 0)) = (decide (s.data.toList.getD k 0 ≠ 0) && (s.data.toList.drop (k + 1)).all (fun c => decide (c ≠ 0))) := by
  rw [drop_at s k h]; rfl

set_option maxRecDepth 100000 in
set_option maxHeartbeats 8000000 in
theorem rown_any (n : Nat) (x : Nd) (cs : List Value) (L : Live) (w : World) (h : (nodeR n).R L w x cs) :
    Calls Try.prog 53 #[.agg cs.toArray] w fun e w' => e = .returned (.bool (ownR x.own)) ∧ Below w.heap.size w w' := by
  obtain ⟨m, Ad, cd, Aa, ca, Ak, ck, hm, rfl, hP, d1, d2, a1, a2, k1, k2⟩ := node_open h
  have hA := hP.attrs.mono (sub_same ((Below.refl _ w).alloc (Nat.le_refl _) (boxO x.own Ad cd Aa ca Ak x.kids.length ck)))
  have hF := hP.fits
  unfold nodeV
  obtain ⟨o, ho⟩ : ∃ o, o = x.own := ⟨_, rfl⟩
  rw [← ho] at hA hF d1 a1 ⊢
  obtain ⟨lk, hlk⟩ : ∃ lk, lk = x.kids.length := ⟨_, rfl⟩
  rw [← hlk] at hA ⊢
  have hHE : ownR o = (headB o && decide (o.attrs.length ≤ 4) && attrsR ⟨#[]⟩ o.attrs && kindR o && endR o) := rfl
  have HE := Lib.hid hHE
  have HA := Lib.hid hA
  have hB : Box1 w (boxO o Ad cd Aa ca Ak lk ck) (w.alloc (boxO o Ad cd Aa ca Ak lk ck)) := box1
  have hz : o.name.size ≤ 9223372036854775807 := hF.name
  have hz2 : o.target.size ≤ 9223372036854775807 := hF.target
  have HF := Lib.hid hF
  clear hHE hP hm h ho hA hF hlk k1 k2
  have c27 := cellsNode
  go_enter Try.func53, Try.ntmps53
  go_upto_region 1 with fail
  obtain ⟨w0, hw0⟩ : ∃ w0, w0 = w.alloc (boxO o Ad cd Aa ca Ak lk ck) := ⟨_, rfl⟩
  rw [← hw0] at HA hB
  unfold boxO at hw0
  rw [← hw0]
  clear hw0
  obtain ⟨n0, n1, n2, n3, n4, n5, n6, n7, n8, n9, n10, n11⟩ := hB.cells
  have HB := Lib.hid hB.below
  clear hB
  have hleaf : headB o = false ∨ decide (o.attrs.length ≤ 4) = false → ownR o = false := fun hh => by
    rw [HE.out]; rcases hh with hh | hh <;> rw [hh] <;> simp
  have HL := Lib.hid hleaf
  clear hleaf
  have hhead : ∀ b, b = headB o → b = false → headB o = false := fun b h1 h2 => by rw [← h1, h2]
  by_cases t1 : o.kind < 1
  · have hq : headB o = false := headB_no (by omega)
    have Hq := Lib.hid (HL.out (.inl hq))
    clear hq
    go_wp2
    go_ret
    exact ⟨ret_bool Hq.out.symm, HB.out⟩
  by_cases t2 : 4 < o.kind
  · have hq : headB o = false := headB_no (by omega)
    have Hq := Lib.hid (HL.out (.inl hq))
    clear hq
    go_wp2
    go_ret
    exact ⟨ret_bool Hq.out.symm, HB.out⟩
  by_cases t3 : o.mode < 0
  · have hq : headB o = false := headB_no (by omega)
    have Hq := Lib.hid (HL.out (.inl hq))
    clear hq
    go_wp2
    go_ret
    exact ⟨ret_bool Hq.out.symm, HB.out⟩
  by_cases t4 : 4095 < o.mode
  · have hq : headB o = false := headB_no (by omega)
    have Hq := Lib.hid (HL.out (.inl hq))
    clear hq
    go_wp2
    go_ret
    exact ⟨ret_bool Hq.out.symm, HB.out⟩
  by_cases t5 : o.uid < 0
  · have hq : headB o = false := headB_no (by omega)
    have Hq := Lib.hid (HL.out (.inl hq))
    clear hq
    go_wp2
    go_ret
    exact ⟨ret_bool Hq.out.symm, HB.out⟩
  by_cases t6 : 2147483647 < o.uid
  · have hq : headB o = false := headB_no (by omega)
    have Hq := Lib.hid (HL.out (.inl hq))
    clear hq
    go_wp2
    go_ret
    exact ⟨ret_bool Hq.out.symm, HB.out⟩
  by_cases t7 : o.gid < 0
  · have hq : headB o = false := headB_no (by omega)
    have Hq := Lib.hid (HL.out (.inl hq))
    clear hq
    go_wp2
    go_ret
    exact ⟨ret_bool Hq.out.symm, HB.out⟩
  by_cases t8 : 2147483647 < o.gid
  · have hq : headB o = false := headB_no (by omega)
    have Hq := Lib.hid (HL.out (.inl hq))
    clear hq
    go_wp2
    go_ret
    exact ⟨ret_bool Hq.out.symm, HB.out⟩
  by_cases t9 : o.mtime < 0
  · have hq : headB o = false := headB_no (by omega)
    have Hq := Lib.hid (HL.out (.inl hq))
    clear hq
    go_wp2
    go_ret
    exact ⟨ret_bool Hq.out.symm, HB.out⟩
  by_cases t10 : 1099511627776 < o.mtime
  · have hq : headB o = false := headB_no (by omega)
    have Hq := Lib.hid (HL.out (.inl hq))
    clear hq
    go_wp2
    go_ret
    exact ⟨ret_bool Hq.out.symm, HB.out⟩
  by_cases t11 : (4 : Int) < (o.attrs.length : Int)
  · have hq : decide (o.attrs.length ≤ 4) = false := decide_eq_false (by omega)
    have Hq := Lib.hid (HL.out (.inr hq))
    clear hq
    go_wp2
    go_ret
    exact ⟨ret_bool Hq.out.symm, HB.out⟩
  have hh1 : headB o = true := headB_of (by omega) (by omega) (by omega) (by omega) (by omega)
  have hh2 : decide (o.attrs.length ≤ 4) = true := decide_eq_true (by omega)
  have HE' : Hid (ownR o = (attrsR ⟨#[]⟩ o.attrs && kindR o && endR o)) := Lib.hid (by rw [HE.out, hh1, hh2]; simp)
  have HKr : Hid (1 ≤ o.kind ∧ o.kind ≤ 4) := Lib.hid (by omega)
  clear HE HL hh1 hh2
  go_wp2
  clear t1 t2 t3 t4 t5 t6 t7 t8 t9 t10
  go_loop [3, 4] (fun s i => ∃ (k : Nat) (last : ByteArray), k ≤ o.attrs.length ∧ i = .int .i64 k ∧ s = .string last ∧ Hid (attrsR last (o.attrs.drop k) = attrsR ⟨#[]⟩ o.attrs)) (fun _ i => o.attrs.length - (intOf i).toNat)
  case atStart => exact ⟨0, _, Nat.zero_le _, rfl, rfl, Lib.hid rfl⟩
  case round =>
    obtain ⟨k, last, hk, rfl, rfl, HI⟩ := hrel
    by_cases hlt : k < o.attrs.length
    · have hkI : (k : Int) < (o.attrs.length : Int) := by omega
      obtain ⟨b, off, rfl, p0, p1, z1, z2⟩ := attrs_at HA.out k hlt
      have HJ := Lib.hid (attrsR_at hlt last)
      obtain ⟨a, ha⟩ : ∃ a, a = o.attrs[k] := ⟨_, rfl⟩
      rw [← ha] at p0 p1 z1 z2 HJ
      clear ha
      obtain ⟨x1, x2⟩ := a
      dsimp only at p0 p1 z1 z2 HJ
      obtain ⟨q, hq⟩ : ∃ q, q = nameB x1 := ⟨_, rfl⟩
      rw [← hq] at HJ
      have Hq := Lib.hid hq
      clear hq
      cases q with
      | false =>
        have Hf : Hid (ownR o = false) := Lib.hid (by rw [HE'.out, ← HI.out, HJ.out]; simp)
        go_wp2_with fail
        refine (rname_any x1 _ (by simpa [big] using z1)).mono ?_
        rintro e w1 ⟨rfl, rfl⟩
        rw [← Hq.out]
        go_wp2
        go_ret
        exact ⟨ret_bool Hf.out.symm, HB.out⟩
      | true =>
        go_wp2_with fail
        refine (rname_any x1 _ (by simpa [big] using z1)).mono ?_
        rintro e w1 ⟨rfl, rfl⟩
        rw [← Hq.out]
        have Hr3 := Lib.hid (three last x1)
        rcases Hr3.out with ⟨h1, h2, h3⟩ | he | ⟨h1, h2, h3⟩
        · have l1 : Op.bytesLess x1.toList last.toList = false := h2
          have l2 := toL_nb (Ne.symm h3)
          have l3 := toL_np (Ne.symm h3)
          have HJ1 : Hid (attrsR last (o.attrs.drop k) = (decide (x2.size ≤ 24) && attrsR x1 (o.attrs.drop (k + 1)))) := Lib.hid (by rw [HJ.out, h1]; simp)
          clear h1 h2 h3 HJ Hr3
          by_cases hv : (24 : Int) < (x2.size : Int)
          · have hv' : decide (x2.size ≤ 24) = false := decide_eq_false (by omega)
            have Hf : Hid (ownR o = false) := Lib.hid (by rw [HE'.out, ← HI.out, HJ1.out, hv']; simp)
            clear hv'
            go_wp2_with fail
            go_ret
            exact ⟨ret_bool Hf.out.symm, HB.out⟩
          · have hv' : decide (x2.size ≤ 24) = true := decide_eq_true (by omega)
            have HI' : Hid (attrsR x1 (o.attrs.drop (k + 1)) = attrsR ⟨#[]⟩ o.attrs) := Lib.hid (by rw [← HI.out, HJ1.out, hv']; simp)
            clear hv'
            go_wp2_with fail
            go_round
            case rel => exact ⟨k + 1, x1, by omega, by go_num, rfl, HI'⟩
            case measure => simp [intOf]; omega
        · have Hf : Hid (ownR o = false) := Lib.hid (by rw [HE'.out, ← HI.out, HJ.out, he, ltS_irrefl]; simp)
          have l1 : Op.bytesLess x1.toList last.toList = false := by rw [he]; exact bl_irrefl _
          have l2 : x1.toList = last.toList := by rw [he]
          clear he HJ Hr3
          go_wp2_with fail
          go_ret
          exact ⟨ret_bool Hf.out.symm, HB.out⟩
        · have Hf : Hid (ownR o = false) := Lib.hid (by rw [HE'.out, ← HI.out, HJ.out, h2]; simp)
          have l1 : Op.bytesLess x1.toList last.toList = true := h1
          clear h1 h2 h3 HJ Hr3
          go_wp2_with fail
          go_ret
          exact ⟨ret_bool Hf.out.symm, HB.out⟩
    · have hkn : ¬ (k : Int) < (o.attrs.length : Int) := by omega
      have HE2 : Hid (ownR o = (kindR o && endR o)) := Lib.hid (by rw [HE'.out, ← HI.out, List.drop_of_length_le (by omega)]; rfl)
      clear HE' HI
      have HKr' := HKr.out
      have hcase : o.kind = 1 ∨ o.kind = 2 ∨ o.kind = 3 ∨ o.kind = 4 := by omega
      clear HKr' HA t11 hk hlt
      rcases hcase with hkd | hkd | hkd | hkd
      · rw [hkd] at n0
        have hne : ∀ j, j ≠ 1 → o.kind ≠ j := fun j hj => by omega
        have Hne := Lib.hid hne
        have Hkd := Lib.hid hkd
        clear hne hkd
        by_cases hd : (0 : Int) < (o.data.length : Int)
        · have Hf : Hid (ownR o = false) := Lib.hid (by rw [HE2.out, kindR_no1 (Hne.out 2 (by decide)) (by omega)]; simp)
          go_wp2_with fail
          go_ret
          exact ⟨ret_bool Hf.out.symm, HB.out⟩
        have hd0 : o.data.length = 0 := by omega
        by_cases ht : o.target = ⟨#[]⟩
        case neg =>
          have q0 := toL_emp ht
          have q1 : ¬ o.target.toList = [] := fun e => ht ((toL_eq o.target []).1 e)
          have hts : o.target.size ≠ 0 := fun h => ht (size_zero h)
          clear ht
          have Hf : Hid (ownR o = false) := Lib.hid (by rw [HE2.out, kindR_no2 (Hne.out 3 (by decide)) hts]; simp)
          go_wp2_with fail
          go_ret
          exact ⟨ret_bool Hf.out.symm, HB.out⟩
        have hts : o.target.size = 0 := by rw [ht]; rfl
        rw [ht] at n7
        clear ht
        by_cases hm : o.major = 0
        case neg =>
          have Hf : Hid (ownR o = false) := Lib.hid (by rw [HE2.out, kindR_no3 (Hne.out 4 (by decide)) (.inl hm)]; simp)
          go_wp2_with fail
          go_ret
          exact ⟨ret_bool Hf.out.symm, HB.out⟩
        by_cases hmn : o.minor = 0
        case neg =>
          rw [hm] at n8
          have Hf : Hid (ownR o = false) := Lib.hid (by rw [HE2.out, kindR_no3 (Hne.out 4 (by decide)) (.inr hmn)]; simp)
          go_wp2_with fail
          go_ret
          exact ⟨ret_bool Hf.out.symm, HB.out⟩
        rw [hm] at n8
        rw [hmn] at n9
        have HKR : Hid (kindR o = true) := Lib.hid (kindR_of (.inr hd0) (.inr hts) (.inr ⟨hm, hmn⟩))
        have hdI : ((o.data.length : Int) < 4097) := by omega
        have Hf : Hid (ownR o = true) := Lib.hid (by rw [HE2.out, HKR.out, endR_rest (Hne.out 3 (by decide)) (by omega) (by omega) (by omega)]; rfl)
        go_wp2_with fail
        go_ret
        exact ⟨ret_bool Hf.out.symm, HB.out⟩
      · rw [hkd] at n0
        have hne : ∀ j, j ≠ 2 → o.kind ≠ j := fun j hj => by omega
        have Hne := Lib.hid hne
        have Hkd := Lib.hid hkd
        clear hne hkd
        by_cases ht : o.target = ⟨#[]⟩
        case neg =>
          have q0 := toL_emp ht
          have q1 : ¬ o.target.toList = [] := fun e => ht ((toL_eq o.target []).1 e)
          have hts : o.target.size ≠ 0 := fun h => ht (size_zero h)
          clear ht
          have Hf : Hid (ownR o = false) := Lib.hid (by rw [HE2.out, kindR_no2 (Hne.out 3 (by decide)) hts]; simp)
          go_wp2_with fail
          go_ret
          exact ⟨ret_bool Hf.out.symm, HB.out⟩
        have hts : o.target.size = 0 := by rw [ht]; rfl
        rw [ht] at n7
        clear ht
        by_cases hm : o.major = 0
        case neg =>
          have Hf : Hid (ownR o = false) := Lib.hid (by rw [HE2.out, kindR_no3 (Hne.out 4 (by decide)) (.inl hm)]; simp)
          go_wp2_with fail
          go_ret
          exact ⟨ret_bool Hf.out.symm, HB.out⟩
        by_cases hmn : o.minor = 0
        case neg =>
          rw [hm] at n8
          have Hf : Hid (ownR o = false) := Lib.hid (by rw [HE2.out, kindR_no3 (Hne.out 4 (by decide)) (.inr hmn)]; simp)
          go_wp2_with fail
          go_ret
          exact ⟨ret_bool Hf.out.symm, HB.out⟩
        rw [hm] at n8
        rw [hmn] at n9
        have HKR : Hid (kindR o = true) := Lib.hid (kindR_of (.inl Hkd.out) (.inr hts) (.inr ⟨hm, hmn⟩))
        by_cases hdI : ((o.data.length : Int) < 4097)
        · have Hf : Hid (ownR o = true) := Lib.hid (by rw [HE2.out, HKR.out, endR_rest (Hne.out 3 (by decide)) (by omega) (by omega) (by omega)]; rfl)
          go_wp2_with fail
          go_ret
          exact ⟨ret_bool Hf.out.symm, HB.out⟩
        · have Hf : Hid (ownR o = false) := Lib.hid (by rw [HE2.out, endR_no (Hne.out 3 (by decide)) (.inl (by omega))]; simp)
          go_wp2_with fail
          go_ret
          exact ⟨ret_bool Hf.out.symm, HB.out⟩
      · rw [hkd] at n0
        have hne : ∀ j, j ≠ 3 → o.kind ≠ j := fun j hj => by omega
        have Hne := Lib.hid hne
        have Hkd := Lib.hid hkd
        clear hne hkd
        by_cases hd : (0 : Int) < (o.data.length : Int)
        · have Hf : Hid (ownR o = false) := Lib.hid (by rw [HE2.out, kindR_no1 (Hne.out 2 (by decide)) (by omega)]; simp)
          go_wp2_with fail
          go_ret
          exact ⟨ret_bool Hf.out.symm, HB.out⟩
        have hd0 : o.data.length = 0 := by omega
        by_cases hm : o.major = 0
        case neg =>
          have Hf : Hid (ownR o = false) := Lib.hid (by rw [HE2.out, kindR_no3 (Hne.out 4 (by decide)) (.inl hm)]; simp)
          go_wp2_with fail
          go_ret
          exact ⟨ret_bool Hf.out.symm, HB.out⟩
        by_cases hmn : o.minor = 0
        case neg =>
          rw [hm] at n8
          have Hf : Hid (ownR o = false) := Lib.hid (by rw [HE2.out, kindR_no3 (Hne.out 4 (by decide)) (.inr hmn)]; simp)
          go_wp2_with fail
          go_ret
          exact ⟨ret_bool Hf.out.symm, HB.out⟩
        rw [hm] at n8
        rw [hmn] at n9
        have HKR : Hid (kindR o = true) := Lib.hid (kindR_of (.inr hd0) (.inl Hkd.out) (.inr ⟨hm, hmn⟩))
        have HE3 : Hid (ownR o = endR o) := Lib.hid (by rw [HE2.out, HKR.out]; rfl)
        go_wp2_with fail
        go_loop [6] (fun i => ∃ k : Nat, k ≤ o.target.size ∧ i = .int .i64 k ∧ Hid ((o.target.data.toList.drop k).all (fun c => decide (c ≠ 0)) = o.target.data.toList.all (fun c => decide (c ≠ 0)))) (fun i => o.target.size - (intOf i).toNat)
        case atStart => exact ⟨0, Nat.zero_le _, rfl, Lib.hid rfl⟩
        case round =>
          obtain ⟨k, hk, rfl, HI⟩ := hrel
          by_cases hlt : k < o.target.size
          · have hkI : (k : Int) < (o.target.size : Int) := by omega
            obtain ⟨c, hc⟩ : ∃ c, (o.target)[k]'hlt = c := ⟨_, rfl⟩
            have Hc : Hid (o.target.data.toList.getD k 0 = c) := Lib.hid (by rw [← hc, idx_getD])
            have HJ := Lib.hid (zeros_at hlt)
            by_cases h0 : c = 0
            · subst h0
              have Hf : Hid (ownR o = false) := Lib.hid (by rw [HE3.out, endR_zero Hkd.out (by rw [← HI.out, HJ.out, Hc.out]; simp)])
              go_wp2
              go_ret
              exact ⟨ret_bool Hf.out.symm, HB.out⟩
            · have d0 : ¬ (c.toNat : Int) = 0 := fun e => h0 (UInt8.toNat_inj.1 (by have : (0 : UInt8).toNat = 0 := rfl; omega))
              have d1 : ((c.toNat : Int) == 0) = false := beq_eq_false_iff_ne.2 d0
              have HI' : Hid ((o.target.data.toList.drop (k + 1)).all (fun c => decide (c ≠ 0)) = o.target.data.toList.all (fun c => decide (c ≠ 0))) := Lib.hid (by rw [← HI.out, HJ.out, Hc.out]; simp [h0])
              clear h0
              go_wp2
              go_round
              case rel => exact ⟨k + 1, by omega, by go_num, HI'⟩
              case measure => simp [intOf]; omega
          · have hke : k = o.target.size := by omega
            have hkn2 : ¬ (k : Int) < (o.target.size : Int) := by omega
            have HZ : Hid (o.target.data.toList.all (fun c => decide (c ≠ 0)) = true) := Lib.hid (by rw [← HI.out, List.drop_of_length_le (by rw [show o.target.data.toList.length = o.target.size from rfl]; omega)]; rfl)
            clear HI
            by_cases z1 : (0 : Int) < (o.target.size : Int)
            case neg =>
              have Hf : Hid (ownR o = false) := Lib.hid (by rw [HE3.out, endR_no3 Hkd.out (.inl (by omega))])
              clear hke
              go_wp2
              go_ret
              exact ⟨ret_bool Hf.out.symm, HB.out⟩
            by_cases z2 : (o.target.size : Int) < 65
            case neg =>
              have Hf : Hid (ownR o = false) := Lib.hid (by rw [HE3.out, endR_no3 Hkd.out (.inr (by omega))])
              clear hke
              go_wp2
              go_ret
              exact ⟨ret_bool Hf.out.symm, HB.out⟩
            have Hf : Hid (ownR o = true) := Lib.hid (by rw [HE3.out, endR_link Hkd.out (fun c hc => by have := List.all_eq_true.1 HZ.out c hc; simpa using this) (by omega) (by omega)])
            clear hke
            go_wp2
            go_ret
            exact ⟨ret_bool Hf.out.symm, HB.out⟩
      · rw [hkd] at n0
        have hne : ∀ j, j ≠ 4 → o.kind ≠ j := fun j hj => by omega
        have Hne := Lib.hid hne
        have Hkd := Lib.hid hkd
        clear hne hkd
        by_cases hd : (0 : Int) < (o.data.length : Int)
        · have Hf : Hid (ownR o = false) := Lib.hid (by rw [HE2.out, kindR_no1 (Hne.out 2 (by decide)) (by omega)]; simp)
          go_wp2_with fail
          go_ret
          exact ⟨ret_bool Hf.out.symm, HB.out⟩
        have hd0 : o.data.length = 0 := by omega
        by_cases ht : o.target = ⟨#[]⟩
        case neg =>
          have q0 := toL_emp ht
          have q1 : ¬ o.target.toList = [] := fun e => ht ((toL_eq o.target []).1 e)
          have hts : o.target.size ≠ 0 := fun h => ht (size_zero h)
          clear ht
          have Hf : Hid (ownR o = false) := Lib.hid (by rw [HE2.out, kindR_no2 (Hne.out 3 (by decide)) hts]; simp)
          go_wp2_with fail
          go_ret
          exact ⟨ret_bool Hf.out.symm, HB.out⟩
        have hts : o.target.size = 0 := by rw [ht]; rfl
        rw [ht] at n7
        clear ht
        have HKR : Hid (kindR o = true) := Lib.hid (kindR_of (.inr hd0) (.inr hts) (.inl Hkd.out))
        have hdI : ((o.data.length : Int) < 4097) := by omega
        by_cases m0 : 0 ≤ o.major
        case neg =>
          have Hf : Hid (ownR o = false) := Lib.hid (by rw [HE2.out, endR_no (Hne.out 3 (by decide)) (.inr (.inl (by omega)))]; simp)
          go_wp2_with fail
          go_ret
          exact ⟨ret_bool Hf.out.symm, HB.out⟩
        by_cases m1 : o.major < 256
        case neg =>
          have Hf : Hid (ownR o = false) := Lib.hid (by rw [HE2.out, endR_no (Hne.out 3 (by decide)) (.inr (.inr (.inl (by omega))))]; simp)
          go_wp2_with fail
          go_ret
          exact ⟨ret_bool Hf.out.symm, HB.out⟩
        by_cases m2 : 0 ≤ o.minor
        case neg =>
          have Hf : Hid (ownR o = false) := Lib.hid (by rw [HE2.out, endR_no (Hne.out 3 (by decide)) (.inr (.inr (.inr (.inl (by omega)))))]; simp)
          go_wp2_with fail
          go_ret
          exact ⟨ret_bool Hf.out.symm, HB.out⟩
        by_cases m3 : o.minor < 256
        case neg =>
          have Hf : Hid (ownR o = false) := Lib.hid (by rw [HE2.out, endR_no (Hne.out 3 (by decide)) (.inr (.inr (.inr (.inr (by omega)))))]; simp)
          go_wp2_with fail
          go_ret
          exact ⟨ret_bool Hf.out.symm, HB.out⟩
        have Hf : Hid (ownR o = true) := Lib.hid (by rw [HE2.out, HKR.out, endR_rest (Hne.out 3 (by decide)) (by omega) ⟨m0, m1⟩ ⟨m2, m3⟩]; rfl)
        go_wp2_with fail
        go_ret
        exact ⟨ret_bool Hf.out.symm, HB.out⟩
end Go.Proofs.Ytojcciciinklbaa
