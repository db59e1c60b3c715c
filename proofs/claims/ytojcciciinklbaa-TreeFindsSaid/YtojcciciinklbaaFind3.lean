/- Walks: the node of a path, as the document says it. No claim by itself. -/
import Derived.Test.YtojcciciinklbaaFindP
set_option linter.unusedSimpArgs false
set_option linter.unusedVariables false
namespace Go.Proofs.Ytojcciciinklbaa
open Go.RowKit

/-- An own that was found, or none. -/
def FindR (r : Option Own) (L : Live) (w : World) (e : Ending) (w' : World) : Prop := ∃ cs L', e = .returned (.tuple #[.agg cs.toArray, .bool r.isSome]) ∧ (nodeR 1).R L' w' (.mk (r.getD emptyN.own) []) cs ∧ Ext L w L' w'
theorem FindR.some {r : Option Own} {o : Own} {cs : List Value} {L L' : Live} {w w' : World} (hr : r = .some o) (h : Bears 1 (.mk o []) cs L w L' w') : FindR r L w (.returned (.tuple #[.agg cs.toArray, .bool true])) w' := ⟨cs, L', by rw [hr]; rfl, by rw [hr]; exact h.node, h.ext⟩
theorem FindR.none {r : Option Own} {cs : List Value} {L L' : Live} {w w' : World} (hr : r = .none) (h : Bears 1 emptyN cs L w L' w') : FindR r L w (.returned (.tuple #[.agg cs.toArray, .bool false])) w' := ⟨cs, L', by rw [hr]; rfl, by rw [hr]; exact h.node, h.ext⟩

set_option maxRecDepth 100000 in
set_option maxHeartbeats 8000000 in
theorem rfind_any (n : Nat) (x : Nd) (cs : List Value) (p : ByteArray) (L : Live) (w : World) (h : (nodeR n).R L w x cs) (hc : count x ≤ 1000000) (hnm : namesOk x) (hn : n * 1001 ≤ 1000000) (hps : p.size ≤ 1000000) (hok : LOk L w) :
    Calls Try.prog 23 #[.agg cs.toArray, .string p] w (FindR (findE (flatN ⟨#[]⟩ 0 x) p) L w) := by
  obtain ⟨m, Ad, cd, Aa, ca, Ak, ck, hm, rfl, hP, d1, d2, a1, a2, k1, k2⟩ := node_open h
  have H := Lib.hid h
  have Hnm := Lib.hid hnm
  have Hok := Lib.hid hok
  clear hm h hP hnm hok
  have c27 := cellsNode
  unfold nodeV
  go_enter Try.func23, Try.ntmps23
  go_upto_region 1 with fail
  obtain ⟨w2, hw2⟩ : ∃ y, y = (w.alloc (boxO x.own Ad cd Aa ca Ak x.kids.length ck)).alloc zeroB := ⟨_, rfl⟩
  have hX2 : Ext L w L w2 := by rw [hw2]; exact ((Ext.refl Hok.out).alloc _).alloc _
  have hx2 : w2.heap[w.heap.size]? = .some (boxO x.own Ad cd Aa ca Ak x.kids.length ck) := by rw [hw2]; exact (Below.heap_alloc _ _ _ (by simp)).trans (heap_alloc_new w _)
  have hz2 : w2.heap[w.heap.size + 1]? = .some zeroB := by rw [hw2]; have := heap_alloc_new (w.alloc (boxO x.own Ad cd Aa ca Ak x.kids.length ck)) zeroB; rwa [World.size_alloc] at this
  have HX2 := Lib.hid hX2; have Hx2 := Lib.hid hx2; have Hz2 := Lib.hid hz2
  have HN2 : Hid (∀ j, ¬ L (w.heap.size + 1) j) := Lib.hid (not_live Hok.out (by omega))
  show Code.wp _ _ _ _ ((w.alloc (boxO x.own Ad cd Aa ca Ak x.kids.length ck)).alloc zeroB)
  rw [← hw2]
  have hb2 : w.heap.size + 2 ≤ w2.heap.size := by rw [hw2]; simp
  clear hX2 hx2 hz2 hw2
  obtain ⟨n0, n1, n2, n3, n4, n5, n6, n7, n8, n9, n10, n11⟩ := twelve_box Hx2.out
  go_wp2_with fail
  refine (flat_any n x _ ⟨#[]⟩ 0 L w2 ((nodeR n).mono (Ext.sub Hok.out HX2.out) H.out) hc Hnm.out (by simpa [ByteArray.size] using hn) (by omega) HX2.out.ok).mono ?_
  rintro e w3 ⟨v3, cells3, L3, rfl, ho3, hx3⟩
  obtain ⟨L4, hS4, _, hX4, hL4⟩ := ho3.publish_ext hx3 (by omega) (by rw [flatN_len]; simp only [big]; omega)
  obtain ⟨A1, c1, rfl, _, _⟩ := ho3.form
  have hn4 : ∀ j, ¬ L4 (w.heap.size + 1) j := Ext.not_live hX4 (by omega) HN2.out
  have hz4 := (hX4.below.block (w.heap.size + 1) (by omega)).trans Hz2.out
  have hl : (flatN ⟨#[]⟩ 0 x).length ≤ 1000000 := by rw [flatN_len]; exact hc
  obtain ⟨l, hll⟩ : ∃ l, l = flatN ⟨#[]⟩ 0 x := ⟨_, rfl⟩
  rw [← hll] at hS4 hl ⊢
  have HL := Lib.hid hll
  have HS4 := Lib.hid hS4; have HX4 := Lib.hid (HX2.out.trans hX4); have HZ4 := Lib.hid hz4; have HN4 := Lib.hid hn4
  clear ho3 hx3 hS4 hX4 hL4 hn4 hz4 hll n0 n1 n2 n3 n4 n5 n6 n7 n8 n9 n10 n11 HX2 Hx2 Hz2 HN2 H Hnm hb2
  go_wp2_with fail
  go_loopw [7] (fun i wr => ∃ k : Nat, k ≤ l.length ∧ i = .int .i64 k ∧ Hid (findE (l.drop k) p = findE l p) ∧ wr = w3) (fun i _ => l.length - (intOf i).toNat)
  case atStart => exact ⟨0, Nat.zero_le _, rfl, Lib.hid rfl, rfl⟩
  case round =>
    obtain ⟨k, hk, rfl, HI, rfl⟩ := hrel
    by_cases hlt : k < l.length
    · have hI1 : (k : Int) < (l.length : Int) := by omega
      obtain ⟨b, off, Ad1, cd1, Aa1, ca1, rfl, hR1, _, _, c0, c1, c2, c3, c4, c5, c6, c7, c8, c9, c10, c11, c12, c13⟩ := ents_at2 HS4.out k hlt
      have HC : Hid (findE (l.drop k) p = if l[k].path = p then .some l[k].own else findE (l.drop (k + 1)) p) := Lib.hid (by rw [List.drop_eq_getElem_cons hlt, findE_cons])
      obtain ⟨u, hu⟩ : ∃ a, a = l[k] := ⟨_, rfl⟩
      rw [← hu] at HC hR1 c1 c2 c3 c4 c5 c6 c7 c8 c9 c10 c11 c12
      have HR1 := Lib.hid hR1
      clear hu hR1 c0
      by_cases hp : u.path = p
      · have HE : Hid (findE l p = .some u.own) := Lib.hid (by rw [← HI.out, HC.out, if_pos hp])
        have hb : Bears 1 (.mk u.own []) (nodeV u.own (.slice Ad1 u.own.data.length cd1) (.slice Aa1 u.own.attrs.length ca1) (.slice none 0 0)) L w L4 wr := ⟨HX4.out, HR1.out⟩
        have HBr := Lib.hid hb
        rw [hp] at c1
        clear HC hp hb
        obtain ⟨p0, p1, p2, p3, p4, p5, p6, p7, p8, p9, p10, p11⟩ := twelve HZ4.out
        obtain ⟨q0, q1, q2, q3, q4, q5, q6, q7, q8, q9, q10, q11⟩ := twelve_free HZ4.out
        go_wp2
        refine bodyPost_ret (v := .tuple #[.agg (nodeV u.own (.slice Ad1 u.own.data.length cd1) (.slice Aa1 u.own.attrs.length ca1) (.slice none 0 0)).toArray, .bool true]) (results_row2 rfl _ rfl rfl (fill12 (by exact HZ4.out) _ _ _ _ _ _ _ _ _ _ _ _) Try.underlying27 rfl (by kernel_rfl)) rfl ?_
        refine FindR.some (L' := L4) (by rw [← HL.out]; exact HE.out) ?_
        repeat (first | (with_reducible refine Bears.set ?_ (Nat.le_succ _) HN4.out _ _) | (with_reducible exact HBr.out))
      · have HJ : Hid (findE (l.drop (k + 1)) p = findE l p) := Lib.hid (by rw [← HI.out, HC.out, if_neg hp])
        have e2 := toL_nb hp
        have e3 := toL_np hp
        clear HC hp c2 c3 c4 c5 c6 c7 c8 c9 c10 c11 c12 c13
        go_wp2
        go_roundw
        case rel => exact ⟨k + 1, by omega, by go_num, HJ, trivial⟩
        case measure => simp [intOf]; omega
    · have hke : l.length ≤ k := by omega
      have hI1 : ¬ (k : Int) < (l.length : Int) := by omega
      have HE : Hid (findE l p = .none) := Lib.hid (by rw [← HI.out, List.drop_of_length_le hke]; rfl)
      have hb : Bears 1 emptyN (nodeV emptyN.own (.slice none 0 0) (.slice none 0 0) (.slice none 0 0)) L w L4 wr := ⟨HX4.out, emptyN_R _ _ _⟩
      have HBr := Lib.hid hb
      clear hb hke
      obtain ⟨p0, p1, p2, p3, p4, p5, p6, p7, p8, p9, p10, p11⟩ := twelve HZ4.out
      obtain ⟨q0, q1, q2, q3, q4, q5, q6, q7, q8, q9, q10, q11⟩ := twelve_free HZ4.out
      go_wp2
      refine bodyPost_ret (v := .tuple #[.agg (nodeV emptyN.own (.slice none 0 0) (.slice none 0 0) (.slice none 0 0)).toArray, .bool false]) (results_row2 rfl _ rfl rfl (fill12 (by exact HZ4.out) _ _ _ _ _ _ _ _ _ _ _ _) Try.underlying27 rfl (by kernel_rfl)) rfl ?_
      refine FindR.none (L' := L4) (by rw [← HL.out]; exact HE.out) ?_
      repeat (first | (with_reducible refine Bears.set ?_ (Nat.le_succ _) HN4.out _ _) | (with_reducible exact HBr.out))
end Go.Proofs.Ytojcciciinklbaa
