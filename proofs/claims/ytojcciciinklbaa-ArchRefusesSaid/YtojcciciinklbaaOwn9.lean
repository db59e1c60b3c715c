/- Walks: a node's own fields, as the document lays them. No claim by itself. -/
import Derived.Test.YtojcciciinklbaaNum
import Derived.Test.YtojcciciinklbaaFlat5
set_option linter.unusedSimpArgs false
set_option linter.unusedVariables false
namespace Go.Proofs.Ytojcciciinklbaa
open Go.RowKit

/-- What is known of own fields that may be. -/
structure OwnFacts (o : Own) : Prop where
  kind : 1 ≤ o.kind ∧ o.kind ≤ 4
  mode : 0 ≤ o.mode ∧ o.mode ≤ 4095
  uid : 0 ≤ o.uid ∧ o.uid ≤ 2147483647
  gid : 0 ≤ o.gid ∧ o.gid ≤ 2147483647
  mtime : 0 ≤ o.mtime ∧ o.mtime ≤ 1099511627776
  many : o.attrs.length ≤ 4
  attrs : ∀ a ∈ o.attrs, a.1.size ≤ 24 ∧ a.2.size ≤ 24
  data : o.data.length ≤ 4096
  target : o.target.size ≤ 64
  major : 0 ≤ o.major ∧ o.major ≤ 255
  minor : 0 ≤ o.minor ∧ o.minor ≤ 255
theorem attrsR_mem : ∀ (xs : List (ByteArray × ByteArray)) (last : ByteArray), attrsR last xs = true → ∀ a ∈ xs, a.1.size ≤ 24 ∧ a.2.size ≤ 24
  | [], _, _, a, h => absurd h (by simp)
  | b :: r, last, h, a, ha => by
    simp only [attrsR, Bool.and_eq_true, decide_eq_true_eq] at h
    rcases List.mem_cons.1 ha with rfl | ha
    · exact ⟨by have := (nameB_no47 h.1.1.1).2.2; omega, h.1.2⟩
    · exact attrsR_mem r _ h.2 a ha
theorem own_facts {o : Own} (h : ownR o = true) : OwnFacts o := by
  simp only [ownR, Bool.and_eq_true, decide_eq_true_eq] at h
  obtain ⟨⟨⟨⟨h1, h2⟩, h3⟩, h4⟩, h5⟩ := h
  simp only [headB, inB, Bool.not_eq_true', Bool.or_eq_false_iff, decide_eq_false_iff_not, Bool.not_eq_false', decide_eq_true_eq] at h1
  simp only [kindR, Bool.and_eq_true, Bool.or_eq_true, decide_eq_true_eq] at h4
  have h6 : (o.kind = 3 ∧ o.target.size < 65) ∨ (o.kind ≠ 3 ∧ o.data.length < 4097 ∧ (0 ≤ o.major ∧ o.major < 256) ∧ (0 ≤ o.minor ∧ o.minor < 256)) := by
    unfold endR at h5
    by_cases k : o.kind = 3
    · rw [if_pos k] at h5
      simp only [Bool.and_eq_true, decide_eq_true_eq] at h5
      exact .inl ⟨k, h5.2.2⟩
    · rw [if_neg k] at h5
      simp only [Bool.and_eq_true, decide_eq_true_eq] at h5
      exact .inr ⟨k, h5.1, ⟨h5.2.1.1.1, h5.2.1.1.2⟩, ⟨h5.2.1.2, h5.2.2⟩⟩
  refine ⟨by omega, by omega, by omega, by omega, by omega, h2, attrsR_mem _ _ h3, by omega, by omega, by omega, by omega⟩
theorem attrsW_len : ∀ (xs : List (ByteArray × ByteArray)), (∀ a ∈ xs, a.1.size ≤ 24 ∧ a.2.size ≤ 24) → (attrsW xs).length ≤ 50 * xs.length
  | [], _ => by simp [attrsW]
  | a :: r, h => by
    have h1 := attrsW_len r fun x hx => h x (by simp [hx])
    have h2 := h a (by simp)
    simp only [attrsW, List.length_append, shortB_len, List.length_cons]; omega
theorem tailW_len {o : Own} (h : OwnFacts o) : (tailW o).length ≤ 4200 := by
  have h1 := h.data
  have h2 := h.target
  unfold tailW
  split
  · rw [List.length_append, numB_len]; omega
  · split
    · rw [shortB_len]; omega
    · split
      · rw [List.length_append, numB_len, numB_len]; omega
      · simp
theorem ownW_len {o : Own} (h : OwnFacts o) (hn : o.name.size ≤ 1000) : (ownW o).length ≤ 6000 := by
  have h1 := attrsW_len o.attrs h.attrs
  have h2 := tailW_len h
  have h3 := h.many
  simp only [ownW, headW, List.length_append, numB_len, shortB_len]; omega

def headW0 (o : Own) : List UInt8 := numB 1 o.kind ++ shortB o.name ++ numB 2 o.mode ++ numB 4 o.uid ++ numB 4 o.gid ++ numB 8 o.mtime ++ numB 1 o.attrs.length
/-- It is handed back. -/
theorem Acc.fin {B : Nat} {w W w' : World} {v : Value} {acc xs : List UInt8} (h : Acc B W w' v acc) (he : acc = xs) (h0 : w.heap.size ≤ B) (hb : Below w.heap.size w W) : ∃ v', Ending.returned v = .returned v' ∧ Blk w' w.heap.size 5 1 v' xs.length (bytesV xs) ∧ Below w.heap.size w w' := by
  subst he
  exact ⟨_, rfl, h.blk.lower h0, hb.trans (h.bel.mono h0)⟩
set_option maxRecDepth 100000 in
set_option maxHeartbeats 8000000 in
theorem rown9_any (n : Nat) (x : Nd) (cs : List Value) (L : Live) (w : World) (h : (nodeR n).R L w x cs) (hown : ownR x.own = true) (hnm : x.own.name.size ≤ 1000) :
    Calls Try.prog 63 #[.agg cs.toArray] w fun e w' => ∃ v', e = .returned v' ∧ Blk w' w.heap.size 5 1 v' (ownW x.own).length (bytesV (ownW x.own)) ∧ Below w.heap.size w w' := by
  obtain ⟨m, Ad, cd, Aa, ca, Ak, ck, hm, rfl, hP, d1, d2, a1, a2, k1, k2⟩ := node_open h
  have hof := own_facts hown
  unfold nodeV
  obtain ⟨o, ho⟩ : ∃ o, o = x.own := ⟨_, rfl⟩
  have hD := hP.data
  have hA := hP.attrs
  rw [← ho] at hof hD hA hnm d1 a1 ⊢
  obtain ⟨lk, hlk⟩ : ∃ lk, lk = x.kids.length := ⟨_, rfl⟩
  rw [← hlk]
  clear hP hm h ho hown hlk k1 k2
  have HD := Lib.hid hD; have HA := Lib.hid hA; have HF := Lib.hid hof
  clear hD hA
  have f1 := hof.kind; have f2 := hof.mode; have f3 := hof.uid; have f4 := hof.gid; have f5 := hof.mtime; have f6 := hof.many; have f7 := hof.data; have f8 := hof.target; have f9 := hof.major; have f10 := hof.minor
  clear hof
  have c27 := cellsNode
  go_enter Try.func63, Try.ntmps63
  go_upto_region 1 with fail
  obtain ⟨W, hW⟩ : ∃ W, W = w.alloc (boxO o Ad cd Aa ca Ak lk ck) := ⟨_, rfl⟩
  have hBx : Box1 w (boxO o Ad cd Aa ca Ak lk ck) W := by rw [hW]; exact box1
  obtain ⟨B, hB⟩ : ∃ B, B = W.heap.size := ⟨_, rfl⟩
  have hWs : w.heap.size ≤ B := by rw [hB, hW]; simp
  have HBW : Hid (B ≤ W.heap.size) := Lib.hid (by omega)
  have HBe : Hid (B = W.heap.size) := Lib.hid hB
  have hWb : Below w.heap.size w W := hBx.below
  have HWb := Lib.hid hWb
  have HC : Hid (∀ w', Below B W w' → w'.cell? ⟨w.heap.size, 0, none⟩ = some (.int .i64 o.kind) ∧ w'.cell? ⟨w.heap.size, 1, none⟩ = some (.string o.name) ∧ w'.cell? ⟨w.heap.size, 2, none⟩ = some (.int .i64 o.mode) ∧ w'.cell? ⟨w.heap.size, 3, none⟩ = some (.int .i64 o.uid) ∧ w'.cell? ⟨w.heap.size, 4, none⟩ = some (.int .i64 o.gid) ∧ w'.cell? ⟨w.heap.size, 5, none⟩ = some (.int .i64 o.mtime) ∧ w'.cell? ⟨w.heap.size, 6, none⟩ = some (.slice Ad o.data.length cd) ∧ w'.cell? ⟨w.heap.size, 7, none⟩ = some (.string o.target) ∧ w'.cell? ⟨w.heap.size, 8, none⟩ = some (.int .i64 o.major) ∧ w'.cell? ⟨w.heap.size, 9, none⟩ = some (.int .i64 o.minor) ∧ w'.cell? ⟨w.heap.size, 10, none⟩ = some (.slice Aa o.attrs.length ca)) := Lib.hid (fun w' hb' => by
    have hb : Below W.heap.size W w' := by rw [← hB]; exact hb'
    obtain ⟨n0, n1, n2, n3, n4, n5, n6, n7, n8, n9, n10, n11⟩ := hBx.cells
    have kk : ∀ {q : Addr} {u : Value}, W.cell? q = some u → w'.cell? q = some u := fun hu => (hb.cell (World.block_lt_of_cell? W _ hu)).trans hu
    exact ⟨kk n0, kk n1, kk n2, kk n3, kk n4, kk n5, kk n6, kk n7, kk n8, kk n9, kk n10⟩)
  have HDW : Hid (SliceR Rp.byte L W o.data (.slice Ad o.data.length cd)) := Lib.hid (HD.out.mono (sub_same HWb.out))
  have HAW : Hid (SliceR attrR L W o.attrs (.slice Aa o.attrs.length ca)) := Lib.hid (HA.out.mono (sub_same HWb.out))
  unfold boxO at hW
  rw [← hW]
  clear hW hBx hWb HD HA hB
  obtain ⟨c0, c1, c2, c3, c4, c5, c6, c7, c8, c9, c10⟩ := HC.out W (Below.refl _ _)
  go_wp2_with fail
  refine (rnumber_int o.kind 1 _ (by omega) (by omega) (by omega)).mono ?_
  rintro e w1 ⟨v1, rfl, hB1, hX1⟩
  have hA1 : Acc B W w1 v1 (numB 1 o.kind) := Acc.of hB1 (by rw [numB_len]) hX1 (Below.refl _ _) HBW.out HBW.out
  have HA1 := Lib.hid hA1
  have hl1 : (numB 1 o.kind).length ≤ 1 := by rw [numB_len]; omega
  obtain ⟨acc1, hacc1⟩ : ∃ a, a = numB 1 o.kind := ⟨_, rfl⟩
  rw [← hacc1] at HA1 hl1
  have HE1 := Lib.hid hacc1
  clear hB1 hX1 hA1 hacc1 c0 c1 c2 c3 c4 c5 c6 c7 c8 c9 c10

  obtain ⟨c0, c1, c2, c3, c4, c5, c6, c7, c8, c9, c10⟩ := HC.out w1 HA1.out.bel
  go_wp2_with fail
  refine (rshort_any o.name _ (by omega)).mono ?_
  rintro e w2c ⟨v2c, rfl, hBc, hXc⟩
  have HBc := Lib.hid hBc; have HAc := Lib.hid (HA1.out.step hXc)
  clear hBc hXc c0 c1 c2 c3 c4 c5 c6 c7 c8 c9 c10
  have hys : (shortB o.name).length ≤ 1001 := by (first | rw [numB_len] | rw [shortB_len]) <;> omega
  go_wp2_with (at_builtin; refine wpList_acc rfl (.tmp 8) (.tmp 11) rfl Try.info5 B W _ w2c rfl _ _ acc1 (shortB o.name) rfl rfl HAc.out ((shortB o.name).length) (by first | rfl | rw [numB_len]) (Blk.src HBc.out) (by omega) ?_)
  intro v2 w2 hA2 _ _
  have HA2 := Lib.hid hA2
  have hl2 : (acc1 ++ (shortB o.name)).length ≤ 1002 := by rw [List.length_append]; first | (rw [numB_len]; omega) | (rw [shortB_len]; omega)
  obtain ⟨acc2, hacc2⟩ : ∃ a, a = acc1 ++ (shortB o.name) := ⟨_, rfl⟩
  rw [← hacc2] at HA2 hl2
  have HE2 := Lib.hid hacc2
  clear hA2 hacc2 HAc HBc HA1 hys hl1
  obtain ⟨c0, c1, c2, c3, c4, c5, c6, c7, c8, c9, c10⟩ := HC.out w2 HA2.out.bel
  go_wp2_with fail
  refine (rnumber_int o.mode 2 _ (by omega) (by omega) (by omega)).mono ?_
  rintro e w3c ⟨v3c, rfl, hBc, hXc⟩
  have HBc := Lib.hid hBc; have HAc := Lib.hid (HA2.out.step hXc)
  clear hBc hXc c0 c1 c2 c3 c4 c5 c6 c7 c8 c9 c10
  have hys : (numB 2 o.mode).length ≤ 1001 := by (first | rw [numB_len] | rw [shortB_len]) <;> omega
  go_wp2_with (at_builtin; refine wpList_acc rfl (.tmp 13) (.tmp 16) rfl Try.info5 B W _ w3c rfl _ _ acc2 (numB 2 o.mode) rfl rfl HAc.out (2) (by first | rfl | rw [numB_len]) (Blk.src HBc.out) (by omega) ?_)
  intro v3 w3 hA3 _ _
  have HA3 := Lib.hid hA3
  have hl3 : (acc2 ++ (numB 2 o.mode)).length ≤ 1004 := by rw [List.length_append]; first | (rw [numB_len]; omega) | (rw [shortB_len]; omega)
  obtain ⟨acc3, hacc3⟩ : ∃ a, a = acc2 ++ (numB 2 o.mode) := ⟨_, rfl⟩
  rw [← hacc3] at HA3 hl3
  have HE3 := Lib.hid hacc3
  clear hA3 hacc3 HAc HBc HA2 hys hl2
  obtain ⟨c0, c1, c2, c3, c4, c5, c6, c7, c8, c9, c10⟩ := HC.out w3 HA3.out.bel
  go_wp2_with fail
  refine (rnumber_int o.uid 4 _ (by omega) (by omega) (by omega)).mono ?_
  rintro e w4c ⟨v4c, rfl, hBc, hXc⟩
  have HBc := Lib.hid hBc; have HAc := Lib.hid (HA3.out.step hXc)
  clear hBc hXc c0 c1 c2 c3 c4 c5 c6 c7 c8 c9 c10
  have hys : (numB 4 o.uid).length ≤ 1001 := by (first | rw [numB_len] | rw [shortB_len]) <;> omega
  go_wp2_with (at_builtin; refine wpList_acc rfl (.tmp 18) (.tmp 21) rfl Try.info5 B W _ w4c rfl _ _ acc3 (numB 4 o.uid) rfl rfl HAc.out (4) (by first | rfl | rw [numB_len]) (Blk.src HBc.out) (by omega) ?_)
  intro v4 w4 hA4 _ _
  have HA4 := Lib.hid hA4
  have hl4 : (acc3 ++ (numB 4 o.uid)).length ≤ 1008 := by rw [List.length_append]; first | (rw [numB_len]; omega) | (rw [shortB_len]; omega)
  obtain ⟨acc4, hacc4⟩ : ∃ a, a = acc3 ++ (numB 4 o.uid) := ⟨_, rfl⟩
  rw [← hacc4] at HA4 hl4
  have HE4 := Lib.hid hacc4
  clear hA4 hacc4 HAc HBc HA3 hys hl3
  obtain ⟨c0, c1, c2, c3, c4, c5, c6, c7, c8, c9, c10⟩ := HC.out w4 HA4.out.bel
  go_wp2_with fail
  refine (rnumber_int o.gid 4 _ (by omega) (by omega) (by omega)).mono ?_
  rintro e w5c ⟨v5c, rfl, hBc, hXc⟩
  have HBc := Lib.hid hBc; have HAc := Lib.hid (HA4.out.step hXc)
  clear hBc hXc c0 c1 c2 c3 c4 c5 c6 c7 c8 c9 c10
  have hys : (numB 4 o.gid).length ≤ 1001 := by (first | rw [numB_len] | rw [shortB_len]) <;> omega
  go_wp2_with (at_builtin; refine wpList_acc rfl (.tmp 23) (.tmp 26) rfl Try.info5 B W _ w5c rfl _ _ acc4 (numB 4 o.gid) rfl rfl HAc.out (4) (by first | rfl | rw [numB_len]) (Blk.src HBc.out) (by omega) ?_)
  intro v5 w5 hA5 _ _
  have HA5 := Lib.hid hA5
  have hl5 : (acc4 ++ (numB 4 o.gid)).length ≤ 1012 := by rw [List.length_append]; first | (rw [numB_len]; omega) | (rw [shortB_len]; omega)
  obtain ⟨acc5, hacc5⟩ : ∃ a, a = acc4 ++ (numB 4 o.gid) := ⟨_, rfl⟩
  rw [← hacc5] at HA5 hl5
  have HE5 := Lib.hid hacc5
  clear hA5 hacc5 HAc HBc HA4 hys hl4
  obtain ⟨c0, c1, c2, c3, c4, c5, c6, c7, c8, c9, c10⟩ := HC.out w5 HA5.out.bel
  go_wp2_with fail
  refine (rnumber_int o.mtime 8 _ (by omega) (by omega) (by omega)).mono ?_
  rintro e w6c ⟨v6c, rfl, hBc, hXc⟩
  have HBc := Lib.hid hBc; have HAc := Lib.hid (HA5.out.step hXc)
  clear hBc hXc c0 c1 c2 c3 c4 c5 c6 c7 c8 c9 c10
  have hys : (numB 8 o.mtime).length ≤ 1001 := by (first | rw [numB_len] | rw [shortB_len]) <;> omega
  go_wp2_with (at_builtin; refine wpList_acc rfl (.tmp 28) (.tmp 31) rfl Try.info5 B W _ w6c rfl _ _ acc5 (numB 8 o.mtime) rfl rfl HAc.out (8) (by first | rfl | rw [numB_len]) (Blk.src HBc.out) (by omega) ?_)
  intro v6 w6 hA6 _ _
  have HA6 := Lib.hid hA6
  have hl6 : (acc5 ++ (numB 8 o.mtime)).length ≤ 1020 := by rw [List.length_append]; first | (rw [numB_len]; omega) | (rw [shortB_len]; omega)
  obtain ⟨acc6, hacc6⟩ : ∃ a, a = acc5 ++ (numB 8 o.mtime) := ⟨_, rfl⟩
  rw [← hacc6] at HA6 hl6
  have HE6 := Lib.hid hacc6
  clear hA6 hacc6 HAc HBc HA5 hys hl5
  obtain ⟨c0, c1, c2, c3, c4, c5, c6, c7, c8, c9, c10⟩ := HC.out w6 HA6.out.bel
  go_wp2_with fail
  refine (rnumber_int (o.attrs.length : Int) 1 _ (by omega) (by omega) (by omega)).mono ?_
  rintro e w7c ⟨v7c, rfl, hBc, hXc⟩
  have HBc := Lib.hid hBc; have HAc := Lib.hid (HA6.out.step hXc)
  clear hBc hXc c0 c1 c2 c3 c4 c5 c6 c7 c8 c9 c10
  have hys : (numB 1 (o.attrs.length : Int)).length ≤ 1001 := by (first | rw [numB_len] | rw [shortB_len]) <;> omega
  go_wp2_with (at_builtin; refine wpList_acc rfl (.tmp 33) (.tmp 37) rfl Try.info5 B W _ w7c rfl _ _ acc6 (numB 1 (o.attrs.length : Int)) rfl rfl HAc.out (1) (by first | rfl | rw [numB_len]) (Blk.src HBc.out) (by omega) ?_)
  intro v7 w7 hA7 _ _
  have HA7 := Lib.hid hA7
  have hl7 : (acc6 ++ (numB 1 (o.attrs.length : Int))).length ≤ 1021 := by rw [List.length_append]; first | (rw [numB_len]; omega) | (rw [shortB_len]; omega)
  obtain ⟨acc7, hacc7⟩ : ∃ a, a = acc6 ++ (numB 1 (o.attrs.length : Int)) := ⟨_, rfl⟩
  rw [← hacc7] at HA7 hl7
  have HE7 := Lib.hid hacc7
  clear hA7 hacc7 HAc HBc HA6 hys hl6
  have HE : Hid (acc7 = headW0 o) := Lib.hid (by
    rw [HE7.out, HE6.out, HE5.out, HE4.out, HE3.out, HE2.out, HE1.out]; rfl)
  clear HE1 HE2 HE3 HE4 HE5 HE6 HE7
  obtain ⟨c0, c1, c2, c3, c4, c5, c6, c7, c8, c9, c10⟩ := HC.out w7 HA7.out.bel
  go_wp2
  clear c0 c1 c2 c3 c4 c5 c6 c7 c8 c9 c10
  go_loopw [3, 4] (fun v i wr => ∃ (k : Nat) (acc : List UInt8), k ≤ o.attrs.length ∧ i = .int .i64 k ∧ acc.length ≤ 1021 + 50 * k ∧ Hid (acc = headW0 o ++ attrsW (o.attrs.take k)) ∧ Acc B W wr v acc) (fun _ i _ => o.attrs.length - (intOf i).toNat)
  case atStart => exact ⟨0, acc7, Nat.zero_le _, rfl, by omega, Lib.hid (by rw [HE.out]; simp [attrsW]), HA7.out⟩
  case round =>
    obtain ⟨k, acc1, hk, rfl, hl1, HE1, hA1⟩ := hrel
    obtain ⟨w1, hw1⟩ : ∃ x, x = wr := ⟨_, rfl⟩
    subst hw1
    have HA1 := Lib.hid hA1
    clear hA1
    by_cases hlt : k < o.attrs.length
    · have hkI : (k : Int) < (o.attrs.length : Int) := by omega
      obtain ⟨b, off, rfl, p0, p1, z1, z2⟩ := attrs_at HAW.out k hlt
      have HJ := Lib.hid (attrsW_take hlt)
      have HM : Hid (o.attrs[k].1.size ≤ 24 ∧ o.attrs[k].2.size ≤ 24) := Lib.hid (HF.out.attrs _ (List.getElem_mem hlt))
      obtain ⟨a, ha⟩ : ∃ a, a = o.attrs[k] := ⟨_, rfl⟩
      rw [← ha] at p0 p1 z1 z2 HJ HM
      clear ha
      obtain ⟨x1, x2⟩ := a
      dsimp only at p0 p1 z1 z2 HJ HM
      obtain ⟨zx1, zx2⟩ := HM.out
      have HP : Hid (∀ w', Below B W w' → w'.cell? ⟨b, off + k * 2, none⟩ = some (.string x1) ∧ w'.cell? ⟨b, off + k * 2 + 1, none⟩ = some (.string x2)) := Lib.hid (fun w' hb => by
        have kk : ∀ {q : Addr} {u : Value}, W.cell? q = some u → w'.cell? q = some u := fun hu => (hb.cell (by rw [HBe.out]; exact World.block_lt_of_cell? W _ hu)).trans hu
        exact ⟨kk p0, kk p1⟩)
      clear p0 p1 z1 z2 HM
      obtain ⟨p0, p1⟩ := HP.out w1 HA1.out.bel
      obtain ⟨c0, c1, c2, c3, c4, c5, c6, c7, c8, c9, c10⟩ := HC.out w1 HA1.out.bel
      go_wp2_with fail
      refine (rshort_any x1 _ (by omega)).mono ?_
      rintro e w2c ⟨v2c, rfl, hBc, hXc⟩
      have HBc := Lib.hid hBc; have HAc := Lib.hid (HA1.out.step hXc)
      clear hBc hXc c0 c1 c2 c3 c4 c5 c6 c7 c8 c9 c10
      have hys : (shortB x1).length ≤ 1001 := by (first | rw [numB_len] | rw [shortB_len]) <;> omega
      go_wp2_with (at_builtin; refine wpList_acc rfl (.tmp 46) (.tmp 53) rfl Try.info5 B W _ w2c rfl _ _ acc1 (shortB x1) rfl rfl HAc.out ((shortB x1).length) (by first | rfl | rw [numB_len]) (Blk.src HBc.out) (by omega) ?_)
      intro v2 w2 hA2 _ _
      have HA2 := Lib.hid hA2
      have hl2 : (acc1 ++ (shortB x1)).length ≤ 1021 + 50 * k + 25 := by rw [List.length_append]; first | (rw [numB_len]; omega) | (rw [shortB_len]; omega)
      obtain ⟨acc2, hacc2⟩ : ∃ a, a = acc1 ++ (shortB x1) := ⟨_, rfl⟩
      rw [← hacc2] at HA2 hl2
      have HE2 := Lib.hid hacc2
      clear hA2 hacc2 HAc HBc HA1 hys hl1
      clear p0 p1
      obtain ⟨p0, p1⟩ := HP.out w2 HA2.out.bel
      obtain ⟨c0, c1, c2, c3, c4, c5, c6, c7, c8, c9, c10⟩ := HC.out w2 HA2.out.bel
      go_wp2_with fail
      refine (rshort_any x2 _ (by omega)).mono ?_
      rintro e w3c ⟨v3c, rfl, hBc, hXc⟩
      have HBc := Lib.hid hBc; have HAc := Lib.hid (HA2.out.step hXc)
      clear hBc hXc c0 c1 c2 c3 c4 c5 c6 c7 c8 c9 c10
      have hys : (shortB x2).length ≤ 1001 := by (first | rw [numB_len] | rw [shortB_len]) <;> omega
      go_wp2_with (at_builtin; refine wpList_acc rfl (.tmp 55) (.tmp 62) rfl Try.info5 B W _ w3c rfl _ _ acc2 (shortB x2) rfl rfl HAc.out ((shortB x2).length) (by first | rfl | rw [numB_len]) (Blk.src HBc.out) (by omega) ?_)
      intro v3 w3 hA3 _ _
      have HA3 := Lib.hid hA3
      have hl3 : (acc2 ++ (shortB x2)).length ≤ 1021 + 50 * k + 50 := by rw [List.length_append]; first | (rw [numB_len]; omega) | (rw [shortB_len]; omega)
      obtain ⟨acc3, hacc3⟩ : ∃ a, a = acc2 ++ (shortB x2) := ⟨_, rfl⟩
      rw [← hacc3] at HA3 hl3
      have HE3 := Lib.hid hacc3
      clear hA3 hacc3 HAc HBc HA2 hys hl2
      clear p0 p1
      have HE4 : Hid (acc3 = headW0 o ++ attrsW (o.attrs.take (k + 1))) := Lib.hid (by rw [HE3.out, HE2.out, HE1.out, HJ.out]; simp)
      go_wp2
      go_roundw
      case rel => exact ⟨k + 1, acc3, by omega, by go_num, by omega, HE4, HA3.out⟩
      case measure => simp [intOf]; omega
    · have hkn : ¬ (k : Int) < (o.attrs.length : Int) := by omega
      have hke : k = o.attrs.length := by omega
      have HE2 : Hid (acc1 = headW o) := Lib.hid (by rw [HE1.out, hke, List.take_length]; rfl)
      clear HE1 HE hke
      have hl1' : acc1.length ≤ 1221 := by omega
      clear hl1
      have hl1 := hl1'
      obtain ⟨c0, c1, c2, c3, c4, c5, c6, c7, c8, c9, c10⟩ := HC.out w1 HA1.out.bel
      have hcase : o.kind = 1 ∨ o.kind = 2 ∨ o.kind = 3 ∨ o.kind = 4 := by omega
      rcases hcase with hkd | hkd | hkd | hkd
      · have HT : Hid (acc1 = ownW o) := Lib.hid (by rw [HE2.out]; unfold ownW tailW; rw [hkd]; simp)
        rw [hkd] at c0
        clear hkd
        go_wp2
        go_ret
        exact HA1.out.fin HT.out hWs HWb.out
      · have HT : Hid (acc1 ++ numB 4 (o.data.length : Int) ++ o.data = ownW o) := Lib.hid (by rw [HE2.out]; unfold ownW tailW; rw [hkd]; simp)
        rw [hkd] at c0
        clear hkd
        clear c1 c2 c3 c4 c5 c7 c8 c9
        go_wp2_with fail
        refine (rnumber_int (o.data.length : Int) 4 _ (by omega) (by omega) (by omega)).mono ?_
        rintro e w2c ⟨v2c, rfl, hBc, hXc⟩
        have HBc := Lib.hid hBc; have HAc := Lib.hid (HA1.out.step hXc)
        clear hBc hXc
        have hys : (numB 4 (o.data.length : Int)).length ≤ 1001 := by (first | rw [numB_len] | rw [shortB_len]) <;> omega
        go_wp2_with (at_builtin; refine wpList_acc rfl (.tmp 68) (.tmp 72) rfl Try.info5 B W _ w2c rfl _ _ acc1 (numB 4 (o.data.length : Int)) rfl rfl HAc.out (4) (by first | rfl | rw [numB_len]) (Blk.src HBc.out) (by omega) ?_)
        intro v2 w2 hA2 _ _
        have HA2 := Lib.hid hA2
        have hl2 : (acc1 ++ (numB 4 (o.data.length : Int))).length ≤ 1225 := by rw [List.length_append]; first | (rw [numB_len]; omega) | (rw [shortB_len]; omega)
        clear hA2 HAc HBc HA1 hys hl1
        clear c0 c6 c10
        obtain ⟨c0, c1, c2, c3, c4, c5, c6, c7, c8, c9, c10⟩ := HC.out w2 HA2.out.bel
        have HSr : Hid (Src w2 (.slice Ad o.data.length cd) o.data.length 1 (bytesV o.data)) := Lib.hid (by
          have hb : Below W.heap.size W w2 := by rw [← HBe.out]; exact HA2.out.bel
          obtain ⟨cells, h1, h2⟩ := (HDW.out.mono (sub_same hb)).src
          rw [bytes_cells h2] at h1
          exact h1)
        go_wp2_with (at_builtin; refine wpList_acc rfl (.tmp 74) (.tmp 76) rfl Try.info5 B W _ w2 rfl _ _ (acc1 ++ numB 4 (o.data.length : Int)) o.data rfl rfl HA2.out o.data.length rfl HSr.out (by omega) ?_)
        intro v3 w3 hA3 _ _
        have HA3 := Lib.hid hA3
        clear hA3 HA2 HSr c0 c1 c2 c3 c4 c5 c6 c7 c8 c9 c10
        go_wp2
        go_ret
        exact HA3.out.fin (by rw [← HT.out]; simp) hWs HWb.out
      · have HT : Hid (acc1 ++ shortB o.target = ownW o) := Lib.hid (by rw [HE2.out]; unfold ownW tailW; rw [hkd]; simp)
        rw [hkd] at c0
        clear hkd
        go_wp2_with fail
        refine (rshort_any o.target _ (by omega)).mono ?_
        rintro e w2c ⟨v2c, rfl, hBc, hXc⟩
        have HBc := Lib.hid hBc; have HAc := Lib.hid (HA1.out.step hXc)
        clear hBc hXc
        have hys : (shortB o.target).length ≤ 1001 := by (first | rw [numB_len] | rw [shortB_len]) <;> omega
        go_wp2_with (at_builtin; refine wpList_acc rfl (.tmp 80) (.tmp 83) rfl Try.info5 B W _ w2c rfl _ _ acc1 (shortB o.target) rfl rfl HAc.out ((shortB o.target).length) (by first | rfl | rw [numB_len]) (Blk.src HBc.out) (by omega) ?_)
        intro v2 w2 hA2 _ _
        have HA2 := Lib.hid hA2
        have hl2 : (acc1 ++ (shortB o.target)).length ≤ 1300 := by rw [List.length_append]; first | (rw [numB_len]; omega) | (rw [shortB_len]; omega)
        clear hA2 HAc HBc HA1 hys hl1
        clear c0 c1 c2 c3 c4 c5 c6 c7 c8 c9 c10
        go_wp2
        go_ret
        exact HA2.out.fin HT.out hWs HWb.out
      · obtain ⟨q1, hq1⟩ : ∃ q, q = UInt8.ofNat (o.major % 256).toNat := ⟨_, rfl⟩
        obtain ⟨q2, hq2⟩ : ∃ q, q = UInt8.ofNat (o.minor % 256).toNat := ⟨_, rfl⟩
        have HT : Hid (acc1 ++ [q1, q2] = ownW o) := Lib.hid (by rw [HE2.out, hq1, hq2]; unfold ownW tailW; rw [hkd]; simp [numB])
        have hw1 : IntKind.u8.wrap o.major = (q1.toNat : Int) := by
          rw [IntKind.wrap_u8, hq1]
          have : (o.major % 256).toNat < 256 := by omega
          rw [UInt8.toNat_ofNat_of_lt' this]; omega
        have hw2 : IntKind.u8.wrap o.minor = (q2.toNat : Int) := by
          rw [IntKind.wrap_u8, hq2]
          have : (o.minor % 256).toNat < 256 := by omega
          rw [UInt8.toNat_ofNat_of_lt' this]; omega
        rw [hkd] at c0
        clear hkd hq1 hq2
        go_wp2_with (at_builtin; refine wpList_acc rfl (.tmp 87) (.tmp 94) rfl Try.info5 B W _ (w1.alloc (.cells #[.int .u8 (q1.toNat : Int), .int .u8 (q2.toNat : Int)] 5)) ?e1 _ _ acc1 [q1, q2] rfl rfl ?e2 2 rfl ?e3 ?e4 ?_)
        case e1 => first | rfl | (rw [hw1, hw2])
        case e2 => exact HA1.out.step ((Below.refl _ _).alloc (Nat.le_refl _) _)
        case e3 => exact Src.new w1 5 1 2 2 [_, _] rfl
        case e4 => first | omega | (simp; omega)
        intro v2 w2 hA2 _ _
        have HA2 := Lib.hid hA2
        clear hA2 c0 c1 c2 c3 c4 c5 c6 c7 c8 c9 c10
        go_wp2
        go_ret
        exact HA2.out.fin HT.out hWs HWb.out
end Go.Proofs.Ytojcciciinklbaa
