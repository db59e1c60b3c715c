/- Walks: all entries of a node. No claim by itself. -/
import Derived.Test.YtojcciciinklbaaTree3
import Derived.Deep.CutBlock
import Derived.Deep.RegionLaw
import Derived.Test.YtojcciciinklbaaPathJoin
set_option linter.unusedSimpArgs false
set_option linter.unusedVariables false
namespace Go.Proofs.Ytojcciciinklbaa
open Go.RowKit

/-- The path of a name under another path. -/
def underS (p name : ByteArray) : ByteArray := if p = ⟨#[]⟩ then name else joinS [p, name]
theorem underS_size (p name : ByteArray) : (underS p name).size ≤ p.size + 1 + name.size := by
  unfold underS
  split
  · omega
  · have : (joinS [p, name]).size = p.size + 1 + name.size := by
      unfold joinS
      rw [mkS_size]
      simp [jn]
      have e1 : p.data.size = p.size := rfl
      have e2 : name.data.size = name.size := rfl
      omega
    omega

set_option maxHeartbeats 1000000 in
theorem under_any (p name : ByteArray) (w : World) (hp : p.size ≤ 1000000) (hn : name.size ≤ 1000000) :
    Calls Try.prog 98 #[.string p, .string name] w fun e w' => e = .returned (.string (underS p name)) ∧ Below w.heap.size w w' := by
  by_cases he : p = ⟨#[]⟩
  · subst he
    go_enter Try.func98, Try.ntmps98
    go_wp2
    go_ret
    exact ⟨rfl, Below.refl _ _⟩
  · have q0 := toL_emp he
    have n0 : ¬ p.toList = [] := fun e => he ((toL_eq p []).1 e)
    have HE : Hid (joinS [p, name] = underS p name) := Lib.hid (by unfold underS; rw [if_neg he])
    clear he
    go_enter Try.func98, Try.ntmps98
    go_wp2_with fail
    refine (pjoin_any w.heap.size _ [p, name] _ ⟨rfl, .inr ⟨w.heap.size, 2, _, (0, 0), rfl, Nat.le_refl _, heap_alloc_new w _, .inl rfl, Nat.le_refl _, by decide, by simp, rfl⟩⟩ (by simp) (fun x hx => by
      simp only [List.mem_cons, List.mem_nil_iff, or_false] at hx
      rcases hx with rfl | rfl <;> omega)).mono ?_
    rintro e w1 ⟨rfl, h1⟩
    have H1 := Lib.hid (((Below.refl _ w).alloc (Nat.le_refl _) _).trans (h1.mono (by simp)))
    clear h1
    go_wp2
    go_ret
    exact ⟨ret_str HE.out, H1.out⟩

theorem bulkL_app : ∀ (us vs : List Nd), bulkL (us ++ vs) = bulkL us + bulkL vs
  | [], vs => by simp [bulkL]
  | u :: us, vs => by simp [bulkL, bulkL_app us vs]; omega
theorem bulkL_take {xs : List Nd} (k : Nat) : bulkL (xs.take k) ≤ bulkL xs := by
  have := bulkL_app (xs.take k) (xs.drop k)
  rw [List.take_append_drop] at this; omega

/-- An entry, as it lies. -/
def entryR : Rp (ByteArray × Nd) where
  sz := 13
  R := fun L w x cs => ∃ cs', cs = .string x.1 :: cs' ∧ x.1.size ≤ big ∧ (nodeR 1).R L w x.2 cs'
  len := fun h => by obtain ⟨cs', rfl, _, h⟩ := h; rw [List.length_cons, (nodeR 1).len h, nodeR_sz]
  mono := fun hs h => by obtain ⟨cs', rfl, hz, h⟩ := h; exact ⟨cs', rfl, hz, (nodeR 1).mono hs h⟩
  one := fun h u hu => by
    obtain ⟨cs', rfl, hz, h⟩ := h
    rcases List.mem_cons.1 hu with rfl | hu
    · rfl
    · exact (nodeR 1).one h u hu

mutual
/-- All entries. -/
def walkN (p : ByteArray) : Nd → List (ByteArray × Nd)
  | .mk o ks => (p, .mk o []) :: walkK p ks
def walkK (p : ByteArray) : List Nd → List (ByteArray × Nd)
  | [] => []
  | k :: ks => walkN (underS p k.own.name) k ++ walkK p ks
end
theorem walkN_eq (p : ByteArray) (x : Nd) : walkN p x = (p, .mk x.own []) :: walkK p x.kids := by cases x; simp [walkN, Nd.own, Nd.kids]
theorem walkK_app (p : ByteArray) : ∀ xs ys, walkK p (xs ++ ys) = walkK p xs ++ walkK p ys
  | [], ys => by simp [walkK]
  | x :: xs, ys => by simp [walkK, walkK_app p xs ys]
theorem walkK_take (p : ByteArray) {xs : List Nd} {k : Nat} (h : k < xs.length) : walkK p (xs.take (k + 1)) = walkK p (xs.take k) ++ walkN (underS p xs[k].own.name) xs[k] := by
  rw [List.take_succ_eq_append_getElem h, walkK_app]; simp [walkK]
mutual
theorem walkN_len : ∀ (x : Nd) (p : ByteArray), (walkN p x).length ≤ bulk x
  | .mk o ks, p => by have := walkK_len ks p; simp only [walkN, bulk, List.length_cons]; omega
theorem walkK_len : ∀ (ks : List Nd) (p : ByteArray), (walkK p ks).length ≤ bulkL ks
  | [], p => by simp [walkK]
  | k :: ks, p => by have := walkN_len k (underS p k.own.name); have := walkK_len ks p; simp only [walkK, bulkL, List.length_append]; omega
end
mutual
/-- No name is too long to be joined. -/
def namesOk : Nd → Prop
  | .mk o ks => o.name.size ≤ 1000 ∧ namesOkL ks
def namesOkL : List Nd → Prop
  | [] => True
  | k :: ks => namesOk k ∧ namesOkL ks
end
theorem namesOk_eq (x : Nd) : namesOk x ↔ x.own.name.size ≤ 1000 ∧ namesOkL x.kids := by cases x; simp [namesOk, Nd.own, Nd.kids]
theorem namesOkL_mem : ∀ {xs : List Nd} (h : namesOkL xs) {k : Nat} (hk : k < xs.length), namesOk xs[k]
  | x :: xs, h, 0, _ => by simp only [namesOkL] at h; exact h.1
  | x :: xs, h, k + 1, hk => by simp only [namesOkL] at h; exact namesOkL_mem h.2 (by simpa using hk)
theorem Try.infoEntry : (Try.prog.info? 72).map (fun i => (i.zero, i.size, i.bytes)) = some (some (.agg #[.string ⟨#[]⟩, .int .i64 0, .string ⟨#[]⟩, .int .i64 0, .int .i64 0, .int .i64 0, .int .i64 0, .slice none 0 0, .string ⟨#[]⟩, .int .i64 0, .int .i64 0, .slice none 0 0, .slice none 0 0]), 13, 176) := by kernel_rfl

/-- A list of entries that a call has made. -/
def MadeE (xs : List (ByteArray × Nd)) (L : Live) (w : World) (e : Ending) (w' : World) : Prop := ∃ v cells L', e = .returned v ∧ Out entryR L' w' w.heap.size 72 v xs cells ∧ Ext L w L' w'

set_option maxRecDepth 100000 in
set_option maxHeartbeats 8000000 in
theorem walk_any : ∀ (n : Nat) (x : Nd) (cs : List Value) (p : ByteArray) (L : Live) (w : World), (nodeR n).R L w x cs → bulk x ≤ 1000000 → namesOk x → p.size + n * 1001 ≤ 1000000 → LOk L w →
    Calls Try.prog 76 #[.agg cs.toArray, .string p] w (MadeE (walkN p x) L w) := by
  intro n
  induction n with
  | zero => intro x cs p L w h; exact h.elim
  | succ n ih =>
    intro x cs p L w h hc hnm hps hok
    obtain ⟨m, Ad, cd, Aa, ca, Ak, ck, hm, rfl, hP, d1, d2, a1, a2, k1, k2⟩ := node_open h
    obtain rfl : n = m := by omega
    clear hm h
    rw [bulk_eq] at hc
    rw [namesOk_eq] at hnm
    have hkl := bulkL_len x.kids
    have HP := Lib.hid hP
    have Hok := Lib.hid hok
    have hmem : ∀ k (h : k < x.kids.length), bulk x.kids[k] ≤ bulkL x.kids ∧ namesOk x.kids[k] := fun k h => ⟨bulkL_mem h, namesOkL_mem hnm.2 h⟩
    have Hmem := Lib.hid hmem
    have HE := Lib.hid (walkN_eq p x)
    have hbx : bulk (.mk x.own []) ≤ 1000000 := by rw [bulk_eq]; show x.own.data.length + x.own.attrs.length + 0 + 1 ≤ _; omega
    have HBx := Lib.hid hbx
    have HW : Hid (∀ k, (walkK p (x.kids.take k)).length ≤ 1000000) := Lib.hid (fun k => by
      have h1 := walkK_len (x.kids.take k) p
      have h2 := bulkL_take (xs := x.kids) k
      omega)
    clear hP hok hmem hnm hbx
    have c27 := cellsNode
    unfold nodeV
    go_enter Try.func76, Try.ntmps76
    go_wp2_with fail
    refine (clone_any 1 (.mk x.own []) (nodeV x.own (.slice Ad x.own.data.length cd) (.slice Aa x.own.attrs.length ca) (.slice none 0 0)) L _ ⟨_, _, _, rfl, HP.out.fits, HP.out.data.mono (sub_same ((Below.refl _ w).alloc (Nat.le_refl _) _)), HP.out.attrs.mono (sub_same ((Below.refl _ w).alloc (Nat.le_refl _) _)), SliceR.nil _ _ _⟩ HBx.out (LOk.alloc Hok.out _)).mono ?_
    rintro e w1 ⟨cs1, L1, rfl, h1, x1⟩
    have hx1 := ((Ext.refl Hok.out).alloc (.cells #[.int .i64 x.own.kind, .string x.own.name, .int .i64 x.own.mode, .int .i64 x.own.uid, .int .i64 x.own.gid, .int .i64 x.own.mtime, .slice Ad x.own.data.length cd, .string x.own.target, .int .i64 x.own.major, .int .i64 x.own.minor, .slice Aa x.own.attrs.length ca, .slice none 0 0] 27)).trans x1
    obtain ⟨m1, Ad1, cd1, Aa1, ca1, Ak1, ck1, hm1, rfl, hP1, _, _, _, _, _, _⟩ := node_open h1
    have H1 := Lib.hid h1
    have X1 := Lib.hid hx1
    have hs1 := hx1.below.size
    clear h1 x1 hx1 hP1 hm1
    unfold nodeV
    go_wp2_with fail
    obtain ⟨w4, hw4⟩ : ∃ w4, w4 = w1.alloc (.cells (.string p :: nodeV (Nd.mk x.own []).own (.slice Ad1 (Nd.mk x.own []).own.data.length cd1) (.slice Aa1 (Nd.mk x.own []).own.attrs.length ca1) (.slice Ak1 (Nd.mk x.own []).kids.length ck1)).toArray 72) := ⟨_, rfl⟩
    have hO4 : Out entryR L1 w4 w.heap.size 72 (.slice (some ⟨w1.heap.size, 0, none⟩) 1 1) [(p, .mk x.own [])] (.string p :: nodeV (Nd.mk x.own []).own (.slice Ad1 (Nd.mk x.own []).own.data.length cd1) (.slice Aa1 (Nd.mk x.own []).own.attrs.length ca1) (.slice Ak1 (Nd.mk x.own []).kids.length ck1)) := by
      rw [hw4]
      exact ⟨⟨rfl, .inr ⟨w1.heap.size, 1, _, (0, 0), rfl, hs1, heap_alloc_new w1 _, .inl rfl, Nat.le_refl _, by decide, by simp [nodeV]; decide, rfl⟩⟩, Reps.single ⟨_, rfl, by simp only [big]; omega, (nodeR 1).mono (sub_same ((Below.refl _ _).alloc (Nat.le_refl _) _)) H1.out⟩, fun g hg j hl => by
        simp [Value.ownBlock] at hg
        subst hg
        have := X1.out.ok _ _ hl
        omega⟩
    have hX4 : Ext L w L1 w4 := by rw [hw4]; exact X1.out.alloc _
    unfold nodeV at hw4
    rw [← hw4]
    have HO4 := Lib.hid hO4; have HX4 := Lib.hid hX4
    clear hO4 hX4 hw4 H1 X1
    obtain ⟨ks, hks⟩ : ∃ ks, ks = x.kids := ⟨_, rfl⟩
    have hK := HP.out.kids
    have HK := Lib.hid hK
    rw [← hks] at HK Hmem HW HE hc hkl k1 ⊢
    clear hks hK HP
    go_loopw [6, 19] (fun v i wr => ∃ (k : Nat) (ys : List (ByteArray × Nd)) (cells : List Value) (Lk : Live), k ≤ ks.length ∧ i = .int .i64 k ∧ ys.length ≤ 1000001 ∧ Hid (ys = (p, .mk x.own []) :: walkK p (ks.take k)) ∧ Out entryR Lk wr w.heap.size 72 v ys cells ∧ Ext L w Lk wr) (fun _ i _ => ks.length - (intOf i).toNat)
    case atStart => exact ⟨0, _, _, L1, Nat.zero_le _, rfl, by simp [walkK], Lib.hid rfl, HO4.out, HX4.out⟩
    case round =>
      obtain ⟨k, ys, cells, Lk, hk, rfl, hyl, HY, hO, hX⟩ := hrel
      obtain ⟨Ao, co, rfl, _, _⟩ := hO.form
      have hb := hX.below.size
      have HO := Lib.hid hO; have HX := Lib.hid hX
      clear hO hX HO4 HX4
      by_cases hlt : k < ks.length
      · have hkI : (k : Int) < (ks.length : Int) := by omega
        obtain ⟨b, off, cs, rfl, hR, hat⟩ := nodes_at (HK.out.mono (Ext.sub Hok.out HX.out)) k hlt
        have hbk := Hmem.out k hlt
        have hwl := HW.out (k + 1)
        have hwt := walkK_take p hlt
        rw [hwt, List.length_append] at hwl
        obtain ⟨y, hy⟩ : ∃ y, y = ks[k] := ⟨_, rfl⟩
        rw [← hy] at hR hat hbk hwl hwt
        have hnz := ((namesOk_eq y).1 hbk.2).1
        have hus := underS_size p y.own.name
        have HT : Hid (ys ++ walkN (underS p y.own.name) y = (p, .mk x.own []) :: walkK p (ks.take (k + 1))) := Lib.hid (by rw [HY.out, hwt]; rfl)
        have hyl2 : (ys ++ walkN (underS p y.own.name) y).length ≤ 1000001 := by rw [HT.out, hwt, List.length_cons, List.length_append]; omega
        rw [List.length_append] at hyl2
        have hbb : bulk y ≤ 1000000 := by omega
        obtain ⟨q, hq⟩ : ∃ q, q = underS p y.own.name := ⟨_, rfl⟩
        obtain ⟨zs, hzs⟩ : ∃ zs, zs = walkN q y := ⟨_, rfl⟩
        rw [← hq] at hus HT hyl2
        rw [← hzs] at HT hyl2
        have hqs : q.size + n * 1001 ≤ 1000000 := by omega
        have Hq := Lib.hid hq; have Hzs := Lib.hid hzs
        have HNm := Lib.hid hbk.2
        clear hy hwl hwt hq hzs hbk
        obtain ⟨m, Ad', cd', Aa', ca', Ak', ck', hm, rfl, hP', _, _, _, _, _, _⟩ := node_open hR
        have hN := hat _ _ _ rfl
        obtain ⟨n0, n1, n2, n3, n4, n5, n6, n7, n8, n9, n10, n11⟩ := hN.all
        have HR := Lib.hid hR
        clear hat hP' hm hR hN
        obtain ⟨w5, hw5⟩ : ∃ w5, w5 = wr.alloc (.cells (nodeV y.own (.slice Ad' y.own.data.length cd') (.slice Aa' y.own.attrs.length ca') (.slice Ak' y.kids.length ck')).toArray 27) := ⟨_, rfl⟩
        have hx5 : Ext Lk wr Lk w5 := by rw [hw5]; exact (Ext.refl HX.out.ok).alloc _
        have hb5 : w5.heap[wr.heap.size]? = some (.cells (nodeV y.own (.slice Ad' y.own.data.length cd') (.slice Aa' y.own.attrs.length ca') (.slice Ak' y.kids.length ck')).toArray 27 (0, 0)) := by rw [hw5]; exact heap_alloc_new wr _
        unfold nodeV at hw5 hb5
        have HW5 := Lib.hid hw5
        have HX5 := Lib.hid (HX.out.trans hx5)
        have HO5 := Lib.hid (HO.out.ext HX.out.ok hx5)
        have HB5 := Lib.hid hb5
        have HR5 := Lib.hid ((nodeR n).mono (Ext.sub HX.out.ok hx5) HR.out)
        have hs5 : wr.heap.size < w5.heap.size := (Array.getElem?_eq_some_iff.1 hb5).1
        clear hw5 hx5 hb5
        go_upto_region 7 with fail
        rw [← HW5.out]
        obtain ⟨a0, a1, a2, a3, a4, a5, a6, a7, a8, a9, a10, a11⟩ := twelve HB5.out
        clear n0 n1 n2 n3 n4 n5 n6 n7 n8 n9 n10 n11
        go_region_law (first
          | (refine step_appB rfl (.tmp 23) (.tmp 29) 69 72 rfl w.heap.size _ 13 176 Try.underlying69 Try.infoEntry rfl (by decide) _ _ rfl _ rfl ys.length cells (HO7.out.1) zs.length zcells (Blk.src HZ7.out.1) (HZ7.out.2.1.one) (by omega) (HX7.out.below.size) ?_
             intro v8 w8 hB8 hg8 hrow8
             have hO8 := HO7.out.app HX7.out.ok (Below.refl _ _) hB8 hg8 hrow8 HZ7.out.2.1
             have HX8 := Lib.hid (grown_ext HX7.out hg8 (fun g hg => (HO7.out.1.lt g hg).1))
             have HO8 := Lib.hid hO8
             clear hB8 hg8 hrow8 hO8)
          | (go_simp
             go_wp2_with (first
               | (go_at_call 98
                  refine (under_any p y.own.name _ (by omega) (by omega)).mono ?_
                  rintro e w6 ⟨rfl, x6⟩
                  rw [← Hq.out]
                  have x6' : Ext Lk w5 Lk w6 := Ext.of_below HX5.out.ok (Below.trans (show Below w5.heap.size w5 _ from (by first | exact Below.refl _ _ | exact ⟨rfl, rfl, rfl, Nat.le_refl _, fun _ _ => rfl⟩)) x6)
                  have HX6 := Lib.hid (HX5.out.trans x6')
                  have HO6 := Lib.hid (HO5.out.ext HX5.out.ok x6')
                  have HR6 := Lib.hid ((nodeR n).mono (Ext.sub HX5.out.ok x6') HR5.out)
                  have HB6 := Lib.hid ((x6'.below.block _ hs5).trans HB5.out)
                  obtain ⟨a0, a1, a2, a3, a4, a5, a6, a7, a8, a9, a10, a11⟩ := twelve HB6.out
                  clear x6 x6')
               | (go_at_call 76
                  refine (ih y _ q Lk w6 HR6.out hbb HNm.out hqs HX6.out.ok).mono ?_
                  rintro e w7 ⟨vz, zcells, L7, rfl, h7, x7⟩
                  rw [← Hzs.out] at h7
                  obtain ⟨Az, cz, rfl, _, _⟩ := h7.form
                  have HX7 := Lib.hid (HX6.out.trans x7)
                  have HO7 := Lib.hid (HO6.out.ext HX6.out.ok x7)
                  have HZ7 := Lib.hid h7
                  clear h7 x7))))
        all_goals
          go_wp2
          go_roundw
          case rel => exact ⟨k + 1, ys ++ zs, _, L7, by omega, by go_num, by rw [List.length_append]; exact hyl2, HT, HO8.out, HX8.out⟩
          case measure => simp [intOf]; omega
      · have hke : k = ks.length := by omega
        have HEE : Hid (ys = walkN p x) := Lib.hid (by rw [HY.out, HE.out, hke, List.take_length])
        clear hke
        go_wp2
        go_ret
        exact ⟨_, _, Lk, rfl, by rw [← HEE.out]; exact HO.out, HX.out⟩
end Go.Proofs.Ytojcciciinklbaa
