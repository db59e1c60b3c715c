/- Walks: the node of a path. No claim by itself. -/
import Derived.Test.YtojcciciinklbaaFind1
set_option linter.unusedSimpArgs false
set_option linter.unusedVariables false
namespace Go.Proofs.Ytojcciciinklbaa
open Go.RowKit

/-- A node that was found, or none. -/
def FindD (n : Nat) (r : Option Nd) (L : Live) (w : World) (e : Ending) (w' : World) : Prop := ∃ cs L', e = .returned (.tuple #[.agg cs.toArray, .int .i64 (if r.isSome = true then 0 else 4)]) ∧ (nodeR (n + 1)).R L' w' (r.getD emptyN) cs ∧ Ext L w L' w'
theorem FindD.some {n : Nat} {r : Option Nd} {y : Nd} {cs : List Value} {L L' : Live} {w w' : World} (hr : r = .some y) (h : Bears (n + 1) y cs L w L' w') : FindD n r L w (.returned (.tuple #[.agg cs.toArray, .int .i64 0])) w' := ⟨cs, L', by rw [hr]; rfl, by rw [hr]; exact h.node, h.ext⟩
theorem FindD.none {n : Nat} {r : Option Nd} {cs : List Value} {L L' : Live} {w w' : World} (hr : r = .none) (h : Bears (n + 1) emptyN cs L w L' w') : FindD n r L w (.returned (.tuple #[.agg cs.toArray, .int .i64 4])) w' := ⟨cs, L', by rw [hr]; rfl, by rw [hr]; exact h.node, h.ext⟩

set_option maxRecDepth 100000 in
set_option maxHeartbeats 8000000 in
theorem find_any : ∀ (n : Nat) (x : Nd) (cs : List Value) (p : ByteArray) (L : Live) (w : World), (nodeR n).R L w x cs → bulk x ≤ 1000000 → p.size ≤ 1000000 → LOk L w →
    Calls Try.prog 22 #[.agg cs.toArray, .string p] w (FindD n (findN x p) L w) := by
  intro n
  induction n with
  | zero => intro x cs p L w h; exact h.elim
  | succ n ih =>
    intro x cs p L w h hc hps hok
    obtain ⟨m, Ad, cd, Aa, ca, Ak, ck, hm, rfl, hP, d1, d2, a1, a2, k1, k2⟩ := node_open h
    obtain rfl : n = m := by omega
    have H := Lib.hid h
    have HFN := Lib.hid (findN_eq x p)
    have Hc := Lib.hid hc
    clear hm h
    rw [bulk_eq] at hc
    have hkl := bulkL_len x.kids
    have HK := Lib.hid hP.kids
    have Hok := Lib.hid hok
    have hmem : ∀ k (h : k < x.kids.length), bulk x.kids[k] ≤ 1000000 := fun k h => by have := bulkL_mem h; omega
    have Hmem := Lib.hid hmem
    clear hP hok hmem
    have c27 := cellsNode
    unfold nodeV
    go_enter Try.func22, Try.ntmps22
    go_upto_region 1 with fail
    obtain ⟨w2, hw2⟩ : ∃ y, y = (w.alloc (boxO x.own Ad cd Aa ca Ak x.kids.length ck)).alloc zeroB := ⟨_, rfl⟩
    have hX2 : Ext L w L w2 := by rw [hw2]; exact ((Ext.refl Hok.out).alloc _).alloc _
    have hx2 : w2.heap[w.heap.size]? = .some (boxO x.own Ad cd Aa ca Ak x.kids.length ck) := by rw [hw2]; exact (Below.heap_alloc _ _ _ (by simp)).trans (heap_alloc_new w _)
    have hz2 : w2.heap[w.heap.size + 1]? = .some zeroB := by rw [hw2]; have := heap_alloc_new (w.alloc (boxO x.own Ad cd Aa ca Ak x.kids.length ck)) zeroB; rwa [World.size_alloc] at this
    have HX2 := Lib.hid hX2; have Hx2 := Lib.hid hx2; have Hz2 := Lib.hid hz2
    have HN2 : Hid (∀ j, ¬ L (w.heap.size + 1) j) := Lib.hid (not_live Hok.out (by omega))
    show Code.wp _ _ _ _ ((w.alloc (boxO x.own Ad cd Aa ca Ak x.kids.length ck)).alloc zeroB)
    rw [← hw2]
    have hb2 : w.heap.size + 2 ≤ w2.heap.size := by rw [hw2]; simp
    clear hX2 hx2 hz2 hw2
    by_cases hp : p = ⟨#[]⟩
    · have HE : Hid (findN x p = .some x) := Lib.hid (by rw [HFN.out, if_pos hp])
      subst hp
      obtain ⟨n0, n1, n2, n3, n4, n5, n6, n7, n8, n9, n10, n11⟩ := twelve_box Hx2.out
      go_wp2_with fail
      refine (clone_any (n + 1) x _ L w2 ((nodeR (n + 1)).mono (Ext.sub Hok.out HX2.out) H.out) Hc.out HX2.out.ok).mono ?_
      rintro e w3 ⟨cs3, L3, rfl, h3, x3⟩
      obtain ⟨m3, Ad3, cd3, Aa3, ca3, Ak3, ck3, hm3, rfl, hP3, _, _, _, _, _, _⟩ := node_open h3
      have hb : Bears (n + 1 + 1) x (nodeV x.own (.slice Ad3 x.own.data.length cd3) (.slice Aa3 x.own.attrs.length ca3) (.slice Ak3 x.kids.length ck3)) L w L3 w3 := ⟨HX2.out.trans x3, nodeR_le (by omega) h3⟩
      have HBr := Lib.hid hb
      have HZ := Lib.hid ((x3.below.block _ (by omega)).trans Hz2.out)
      have HM : Hid (∀ j, ¬ L3 (w.heap.size + 1) j) := Lib.hid (Ext.not_live x3 (by omega) HN2.out)
      clear h3 x3 hP3 hm3 hb n0 n1 n2 n3 n4 n5 n6 n7 n8 n9 n10 n11
      unfold nodeV
      obtain ⟨p0, p1, p2, p3, p4, p5, p6, p7, p8, p9, p10, p11⟩ := twelve HZ.out
      obtain ⟨q0, q1, q2, q3, q4, q5, q6, q7, q8, q9, q10, q11⟩ := twelve_free HZ.out
      go_wp2
      refine bodyPost_ret (v := .tuple #[.agg (nodeV x.own (.slice Ad3 x.own.data.length cd3) (.slice Aa3 x.own.attrs.length ca3) (.slice Ak3 x.kids.length ck3)).toArray, .int .i64 0]) (results_row2 rfl _ rfl rfl (fill12 (by exact HZ.out) _ _ _ _ _ _ _ _ _ _ _ _) Try.underlying27 rfl (by kernel_rfl)) rfl ?_
      refine FindD.some (L' := L3) HE.out ?_
      repeat (first | (with_reducible refine Bears.set ?_ (Nat.le_succ _) HM.out _ _) | (with_reducible exact HBr.out))
    · have q0 := toL_emp hp
      have n0 : ¬ p.toList = [] := fun e => hp ((toL_eq p []).1 e)
      have HE : Hid (findN x p = findK x.kids p) := Lib.hid (by rw [HFN.out, if_neg hp])
      have hrs : (cutB p).size ≤ 1000000 := Nat.le_trans (cutB_size p) hps
      obtain ⟨ks, hks⟩ : ∃ ks, ks = x.kids := ⟨_, rfl⟩
      have HAt : Hid (∀ k (h : k < ks.length), findK (ks.drop k) p = if ks[k].own.name = cutA p then (if cutM p = false then .some ks[k] else if cutB p = ⟨#[]⟩ then .none else (findN ks[k] (cutB p)).or (findK (ks.drop (k + 1)) p)) else findK (ks.drop (k + 1)) p) := Lib.hid (fun k h => findK_at h p)
      obtain ⟨fa, hfa⟩ : ∃ y, y = cutA p := ⟨_, rfl⟩
      obtain ⟨fb, hfb⟩ : ∃ y, y = cutB p := ⟨_, rfl⟩
      obtain ⟨fm, hfm⟩ : ∃ y, y = cutM p := ⟨_, rfl⟩
      rw [← hfb] at hrs
      rw [← hfa, ← hfb, ← hfm] at HAt
      have HC : Hid (∀ (w : World), Calls Try.prog 49 #[.string p, .string ⟨#[47]⟩] w fun e w' => e = .returned (.tuple #[.string fa, .string fb, .bool fm]) ∧ Below w.heap.size w w') := Lib.hid (fun w => by rw [hfa, hfb, hfm]; exact cut_any p w (by unfold big; omega))
      clear hp hfa hfb hfm
      obtain ⟨_, _, _, _, _, _, _, _, _, _, _, n11⟩ := twelve_box Hx2.out
      go_wp2_with fail
      refine (HC.out _).mono ?_
      rintro e w3 ⟨rfl, x3⟩
      have hX3 : Ext L w L w3 := HX2.out.trans (Ext.of_below HX2.out.ok x3)
      have hz3 := (x3.block (w.heap.size + 1) (by omega)).trans Hz2.out
      have n11 : w3.cell? ⟨w.heap.size, 11, none⟩ = .some (.slice Ak x.kids.length ck) := (x3.cell (World.block_lt_of_cell? w2 _ n11)).trans n11
      rw [← hks] at HK HE Hmem hc hkl k1 n11
      have HX3 := Lib.hid hX3; have HZ3 := Lib.hid hz3
      clear hX3 hz3 x3 hks HFN H HX2 Hx2 Hz2 q0 n0 HC hb2
      go_wp2_with fail
      go_loopw [26] (fun i wr => ∃ (k : Nat) (Lr : Live), k ≤ ks.length ∧ i = .int .i64 k ∧ Hid (findK (ks.drop k) p = findK ks p) ∧ Hid (Ext L w Lr wr) ∧ Hid (wr.heap[w.heap.size + 1]? = .some zeroB) ∧ Hid (∀ j, ¬ Lr (w.heap.size + 1) j)) (fun i _ => ks.length - (intOf i).toNat)
      case atStart => exact ⟨0, L, Nat.zero_le _, rfl, Lib.hid rfl, HX3, HZ3, HN2⟩
      case round =>
        clear HX3 HZ3 HN2 n11
        obtain ⟨k, Lr, hk, rfl, HI, HX, HZ, HN⟩ := hrel
        have hzb : w.heap.size + 1 < wr.heap.size := (Array.getElem?_eq_some_iff.1 HZ.out).1
        by_cases hlt : k < ks.length
        · have hkI : (k : Int) < (ks.length : Int) := by omega
          obtain ⟨b, off, cs, rfl, hR, hat⟩ := nodes_at (HK.out.mono (Ext.sub Hok.out HX.out)) k hlt
          have hbk := Hmem.out k hlt
          have HA := Lib.hid (HAt.out k hlt)
          obtain ⟨y, hy⟩ : ∃ y, y = ks[k] := ⟨_, rfl⟩
          rw [← hy] at hR hat hbk HA
          clear hy
          obtain ⟨m, Ad', cd', Aa', ca', Ak', ck', hm, rfl, hP', _, _, _, _, _, _⟩ := node_open hR
          have hN := hat _ _ _ rfl
          obtain ⟨n0, n1, n2, n3, n4, n5, n6, n7, n8, n9, n10, n11⟩ := hN.all
          have HR := Lib.hid hR
          clear hat hP' hm hR hN
          go_upto_region 7 with fail
          obtain ⟨w5, hw5⟩ : ∃ w5, w5 = wr.alloc (boxO y.own Ad' cd' Aa' ca' Ak' y.kids.length ck') := ⟨_, rfl⟩
          have hX5 : Ext Lr wr Lr w5 := by rw [hw5]; exact (Ext.refl HX.out.ok).alloc _
          have hb5 : w5.heap[wr.heap.size]? = .some (boxO y.own Ad' cd' Aa' ca' Ak' y.kids.length ck') := by rw [hw5]; exact heap_alloc_new wr _
          show Code.wp _ _ _ _ (wr.alloc (boxO y.own Ad' cd' Aa' ca' Ak' y.kids.length ck'))
          rw [← hw5]
          have HR5 := Lib.hid ((nodeR n).mono (Ext.sub HX.out.ok hX5) HR.out)
          have HZ5 := Lib.hid ((hX5.below.block _ hzb).trans HZ.out)
          have HB5 := Lib.hid hb5
          have HX5 := Lib.hid (HX.out.trans hX5)
          have hs5 := hX5.below.size
          clear hw5 hX5 hb5 n0 n1 n2 n3 n4 n5 n6 n7 n8 n9 n10 n11 HX HZ HR
          obtain ⟨n0, n1, n2, n3, n4, n5, n6, n7, n8, n9, n10, n11⟩ := twelve_box HB5.out
          by_cases hname : y.own.name = fa
          · have HA1 := Lib.hid (HA.out.trans (if_pos hname))
            rw [hname] at n1
            clear HA
            have hfm2 : fm = false ∨ fm = true := by cases fm <;> simp
            rcases hfm2 with hfm | hfm
            · have HE1 : Hid (findN x p = .some y) := Lib.hid (by rw [HE.out, ← HI.out, HA1.out, if_pos hfm])
              have hb1 : (!fm) = true := by rw [hfm]; rfl
              clear HA1 hfm
              go_upto_region 8 with fail
              rw [← hname] at n1
              clear hname
              go_wp2_with fail
              refine (clone_any n y _ Lr w5 HR5.out hbk HX5.out.ok).mono ?_
              rintro e w6 ⟨cs6, L6, rfl, h6, x6⟩
              obtain ⟨m6, Ad6, cd6, Aa6, ca6, Ak6, ck6, hm6, rfl, hP6, _, _, _, _, _, _⟩ := node_open h6
              have hb : Bears (n + 1 + 1) y (nodeV y.own (.slice Ad6 y.own.data.length cd6) (.slice Aa6 y.own.attrs.length ca6) (.slice Ak6 y.kids.length ck6)) L w L6 w6 := ⟨HX5.out.trans x6, nodeR_le (by omega) h6⟩
              have HBr := Lib.hid hb
              have HZ6 := Lib.hid ((x6.below.block _ (by omega)).trans HZ5.out)
              have HM : Hid (∀ j, ¬ L6 (w.heap.size + 1) j) := Lib.hid (Ext.not_live x6 (by omega) HN.out)
              clear h6 x6 hP6 hm6 hb n0 n1 n2 n3 n4 n5 n6 n7 n8 n9 n10 n11 HB5 HZ5
              unfold nodeV
              obtain ⟨p0, p1, p2, p3, p4, p5, p6, p7, p8, p9, p10, p11⟩ := twelve HZ6.out
              obtain ⟨q0, q1, q2, q3, q4, q5, q6, q7, q8, q9, q10, q11⟩ := twelve_free HZ6.out
              go_wp2
              refine bodyPost_ret (v := .tuple #[.agg (nodeV y.own (.slice Ad6 y.own.data.length cd6) (.slice Aa6 y.own.attrs.length ca6) (.slice Ak6 y.kids.length ck6)).toArray, .int .i64 0]) (results_row2 rfl _ rfl rfl (fill12 (by exact HZ6.out) _ _ _ _ _ _ _ _ _ _ _ _) Try.underlying27 rfl (by kernel_rfl)) rfl ?_
              refine FindD.some (L' := L6) HE1.out ?_
              repeat (first | (with_reducible refine Bears.set ?_ (Nat.le_succ _) HM.out _ _) | (with_reducible exact HBr.out))
            · have HA2 := Lib.hid (HA1.out.trans (if_neg (by rw [hfm]; decide)))
              have hb1 : (!fm) = false := by rw [hfm]; rfl
              clear HA1 hfm
              by_cases hfb : fb = ⟨#[]⟩
              · have HE1 : Hid (findN x p = .none) := Lib.hid (by rw [HE.out, ← HI.out, HA2.out, if_pos hfb])
                clear HA2
                subst hfb
                have hb : Bears (n + 1 + 1) emptyN (nodeV emptyN.own (.slice none 0 0) (.slice none 0 0) (.slice none 0 0)) L w Lr w5 := ⟨HX5.out, emptyN_R _ _ _⟩
                have HBr := Lib.hid hb
                clear hb n0 n2 n3 n4 n5 n6 n7 n8 n9 n10 n11 HB5
                obtain ⟨p0, p1, p2, p3, p4, p5, p6, p7, p8, p9, p10, p11⟩ := twelve HZ5.out
                obtain ⟨q0, q1, q2, q3, q4, q5, q6, q7, q8, q9, q10, q11⟩ := twelve_free HZ5.out
                go_wp2
                refine bodyPost_ret (v := .tuple #[.agg (nodeV emptyN.own (.slice none 0 0) (.slice none 0 0) (.slice none 0 0)).toArray, .int .i64 4]) (results_row2 rfl _ rfl rfl (fill12 (by exact HZ5.out) _ _ _ _ _ _ _ _ _ _ _ _) Try.underlying27 rfl (by kernel_rfl)) rfl ?_
                refine FindD.none (L' := Lr) HE1.out ?_
                repeat (first | (with_reducible refine Bears.set ?_ (Nat.le_succ _) HN.out _ _) | (with_reducible exact HBr.out))
              · have HA3 := Lib.hid (HA2.out.trans (if_neg hfb))
                have e0 := toL_emp hfb
                have e1 : ¬ fb.toList = [] := fun e => hfb ((toL_eq fb []).1 e)
                clear HA2 hfb
                go_upto_region 8 with fail
                go_upto_region 11 with fail
                rw [← hname] at n1
                clear hname
                go_wp2_with fail
                refine (ih y _ fb Lr w5 HR5.out hbk hrs HX5.out.ok).mono ?_
                rintro e w6 ⟨cs6, L6, rfl, h6, x6⟩
                obtain ⟨r, hr⟩ : ∃ r, r = findN y fb := ⟨_, rfl⟩
                rw [← hr] at h6 HA3 ⊢
                have HZ6 := Lib.hid ((x6.below.block _ (by omega)).trans HZ5.out)
                have HM : Hid (∀ j, ¬ L6 (w.heap.size + 1) j) := Lib.hid (Ext.not_live x6 (by omega) HN.out)
                have HX6 := Lib.hid (HX5.out.trans x6)
                have hs6 := x6.below.size
                clear hr x6 n0 n1 n2 n3 n4 n5 n6 n7 n8 n9 n10 n11 HB5 HZ5 HX5 e0 e1
                cases r with
                | none =>
                  have HI6 : Hid (findK (ks.drop (k + 1)) p = findK ks p) := Lib.hid (by rw [← HI.out, HA3.out]; rfl)
                  have h6 : (nodeR (n + 1)).R L6 w6 emptyN cs6 := h6
                  generalize emptyN = z at h6
                  obtain ⟨m6, Ad6, cd6, Aa6, ca6, Ak6, ck6, hm6, rfl, hP6, _, _, _, _, _, _⟩ := node_open h6
                  clear h6 hP6 hm6 HA3
                  rw [show (if (Option.none : Option Nd).isSome = true then (0 : Int) else 4) = 4 from rfl]
                  unfold nodeV
                  go_wp2
                  go_roundw
                  case rel => exact ⟨k + 1, L6, by omega, by go_num, HI6, Lib.hid (HX6.out.alloc _), Lib.hid ((Below.heap_alloc _ _ _ (by omega)).trans HZ6.out), HM⟩
                  case measure => simp [intOf]; omega
                | some z =>
                  have HE1 : Hid (findN x p = .some z) := Lib.hid (by rw [HE.out, ← HI.out, HA3.out]; rfl)
                  have h6 : (nodeR (n + 1)).R L6 w6 z cs6 := h6
                  rw [show (if (Option.some z).isSome = true then (0 : Int) else 4) = 0 from rfl]
                  obtain ⟨m6, Ad6, cd6, Aa6, ca6, Ak6, ck6, hm6, rfl, hP6, _, _, _, _, _, _⟩ := node_open h6
                  have hb : Bears (n + 1 + 1) z (nodeV z.own (.slice Ad6 z.own.data.length cd6) (.slice Aa6 z.own.attrs.length ca6) (.slice Ak6 z.kids.length ck6)) L w L6 w6 := ⟨HX6.out, nodeR_le (by omega) h6⟩
                  have HBr0 := Lib.hid hb
                  clear h6 hP6 hm6 HA3 hb
                  unfold nodeV
                  go_upto_region 12 with fail
                  obtain ⟨w7, hw7⟩ : ∃ w7, w7 = w6.alloc (boxO z.own Ad6 cd6 Aa6 ca6 Ak6 z.kids.length ck6) := ⟨_, rfl⟩
                  have hb7 : w7.heap[w6.heap.size]? = .some (boxO z.own Ad6 cd6 Aa6 ca6 Ak6 z.kids.length ck6) := by rw [hw7]; exact heap_alloc_new w6 _
                  have hz7 : w7.heap[w.heap.size + 1]? = .some zeroB := by rw [hw7]; exact (Below.heap_alloc _ _ _ (by omega)).trans HZ6.out
                  have hBr : Bears (n + 1 + 1) z (nodeV z.own (.slice Ad6 z.own.data.length cd6) (.slice Aa6 z.own.attrs.length ca6) (.slice Ak6 z.kids.length ck6)) L w L6 w7 := by rw [hw7]; exact ⟨HBr0.out.ext.alloc _, (nodeR _).mono (Ext.sub HX6.out.ok ((Ext.refl HX6.out.ok).alloc _)) HBr0.out.node⟩
                  show Code.wp _ _ _ _ (w6.alloc (boxO z.own Ad6 cd6 Aa6 ca6 Ak6 z.kids.length ck6))
                  rw [← hw7]
                  have HBr := Lib.hid hBr; have HZ7 := Lib.hid hz7
                  obtain ⟨n0, n1, n2, n3, n4, n5, n6, n7, n8, n9, n10, n11⟩ := twelve_box hb7
                  obtain ⟨p0, p1, p2, p3, p4, p5, p6, p7, p8, p9, p10, p11⟩ := twelve hz7
                  obtain ⟨q0, q1, q2, q3, q4, q5, q6, q7, q8, q9, q10, q11⟩ := twelve_free hz7
                  clear hw7 hb7 hz7 hBr HZ6 HX6 HBr0
                  have hne : ¬ w6.heap.size = w.heap.size + 1 := by omega
                  go_wp2
                  refine bodyPost_ret (v := .tuple #[.agg (nodeV z.own (.slice Ad6 z.own.data.length cd6) (.slice Aa6 z.own.attrs.length ca6) (.slice Ak6 z.kids.length ck6)).toArray, .int .i64 0]) (results_row2 rfl _ rfl rfl (fill12 (by exact HZ7.out) _ _ _ _ _ _ _ _ _ _ _ _) Try.underlying27 rfl (by kernel_rfl)) rfl ?_
                  refine FindD.some (L' := L6) HE1.out ?_
                  repeat (first | (with_reducible refine Bears.set ?_ (Nat.le_succ _) HM.out _ _) | (with_reducible exact HBr.out))
          · have HI5 : Hid (findK (ks.drop (k + 1)) p = findK ks p) := Lib.hid (by rw [← HI.out, HA.out, if_neg hname])
            have e2 := toL_nb hname
            have e3 := toL_np hname
            clear HA hname n0 n2 n3 n4 n5 n6 n7 n8 n9 n10 n11
            go_wp2
            go_roundw
            case rel => exact ⟨k + 1, Lr, by omega, by go_num, HI5, HX5, HZ5, HN⟩
            case measure => simp [intOf]; omega
        · have hke : ks.length ≤ k := by omega
          have hkI : ¬ (k : Int) < (ks.length : Int) := by omega
          have HE1 : Hid (findN x p = .none) := Lib.hid (by rw [HE.out, ← HI.out, List.drop_of_length_le hke]; rw [findK])
          have hb : Bears (n + 1 + 1) emptyN (nodeV emptyN.own (.slice none 0 0) (.slice none 0 0) (.slice none 0 0)) L w Lr wr := ⟨HX.out, emptyN_R _ _ _⟩
          have HBr := Lib.hid hb
          clear hb hke
          obtain ⟨p0, p1, p2, p3, p4, p5, p6, p7, p8, p9, p10, p11⟩ := twelve HZ.out
          obtain ⟨q0, q1, q2, q3, q4, q5, q6, q7, q8, q9, q10, q11⟩ := twelve_free HZ.out
          go_wp2
          refine bodyPost_ret (v := .tuple #[.agg (nodeV emptyN.own (.slice none 0 0) (.slice none 0 0) (.slice none 0 0)).toArray, .int .i64 4]) (results_row2 rfl _ rfl rfl (fill12 (by exact HZ.out) _ _ _ _ _ _ _ _ _ _ _ _) Try.underlying27 rfl (by kernel_rfl)) rfl ?_
          refine FindD.none (L' := Lr) HE1.out ?_
          repeat (first | (with_reducible refine Bears.set ?_ (Nat.le_succ _) HN.out _ _) | (with_reducible exact HBr.out))
end Go.Proofs.Ytojcciciinklbaa
