/- Walks: which trees may be, as the document says it. No claim by itself. -/
import Derived.Test.YtojcciciinklbaaRef5
import Derived.Test.YtojcciciinklbaaRef3
import Derived.Test.YtojcciciinklbaaRef7
import Derived.Test.YtojcciciinklbaaOut
set_option linter.unusedSimpArgs false
set_option linter.unusedVariables false
namespace Go.Proofs.Ytojcciciinklbaa
open Go.RowKit

theorem rownE_any (o : Own) (Ad1 : Option Addr) (cd1 : Nat) (Aa1 : Option Addr) (ca1 : Nat) (L1 : Live) (w : World)
    (h1 : (nodeR 1).R L1 w (.mk o []) (nodeV o (.slice Ad1 o.data.length cd1) (.slice Aa1 o.attrs.length ca1) (.slice none 0 0))) :
    Calls Try.prog 53 #[.agg #[.int .i64 o.kind, .string o.name, .int .i64 o.mode, .int .i64 o.uid, .int .i64 o.gid, .int .i64 o.mtime, .slice Ad1 o.data.length cd1, .string o.target, .int .i64 o.major, .int .i64 o.minor, .slice Aa1 o.attrs.length ca1, .slice none 0 0]] w fun e w' => e = .returned (.bool (ownR o)) ∧ Below w.heap.size w w' := rown_any 1 (.mk o []) _ L1 w h1
theorem deepest_snoc (l : List Ent) (e : Ent) : deepest (l ++ [e]) = max (deepest l) e.deep := by unfold deepest; rw [List.foldl_append]; rfl
theorem deepest_mem {l : List Ent} {e : Ent} (h : e ∈ l) : e.deep ≤ deepest l := by
  have : ∀ (l : List Ent) (k : Nat), k ≤ l.foldl (fun m e => max m e.deep) k ∧ ∀ e ∈ l, e.deep ≤ l.foldl (fun m e => max m e.deep) k := by
    intro l
    induction l with
    | nil => intro k; exact ⟨Nat.le_refl _, fun e he => absurd he (by simp)⟩
    | cons a l ih =>
      intro k
      obtain ⟨h1, h2⟩ := ih (max k a.deep)
      refine ⟨Nat.le_trans (Nat.le_max_left _ _) h1, fun e he => ?_⟩
      rcases List.mem_cons.1 he with rfl | he
      · exact Nat.le_trans (Nat.le_max_right _ _) h1
      · exact h2 e he
  exact (this l 0).2 e h
theorem mayGo_at {xs : List Ent} {k : Nat} (h : k < xs.length) (K : List Int) (La : List ByteArray) : mayGo (xs.drop k) K La = (entB K La xs[k] && mayGo (xs.drop (k + 1)) (updK xs[k] K) (updL xs[k] La)) := by
  rw [List.drop_eq_getElem_cons h]; rfl
theorem flatK_names : ∀ (ks : List Nd) (p : ByteArray) (d : Nat), namesOkL ks → ∀ e ∈ flatK p d ks, e.own.name.size ≤ 1000
  | [], _, _, _, e, he => absurd he (by simp [flatK])
  | .mk o ks :: r, p, d, h, e, he => by
    rw [namesOkL, namesOk] at h
    rw [flatK, List.mem_append, List.mem_cons] at he
    rcases he with (rfl | he) | he
    · exact h.1.1
    · exact flatK_names ks _ _ h.1.2 e he
    · exact flatK_names r _ _ h.2 e he
theorem flatN_names {x : Nd} {p : ByteArray} {d : Nat} (h : namesOk x) : ∀ e ∈ flatN p d x, e.own.name.size ≤ 1000 := fun e he => by
  rw [flatN_eq, List.mem_cons] at he
  rw [namesOk_eq] at h
  rcases he with rfl | he
  · exact h.1
  · exact flatK_names _ _ _ h.2 e he
/-- The two tables. -/
structure Tabs (w : World) (g1 g2 : Nat) (K : List Int) (La : List ByteArray) : Prop where
  k : RowAt w g1 3 (K.map (Value.int .i64))
  l : RowAt w g2 9 (La.map Value.string)
  kl : K.length = 70
  ll : La.length = 70
  ne : g1 ≠ g2
theorem Tabs.cellK {w : World} {g1 g2 : Nat} {K : List Int} {La : List ByteArray} (h : Tabs w g1 g2 K La) (j : Nat) (hj : j < 70) : w.cell? ⟨g1, j, none⟩ = some (.int .i64 (K.getD j 0)) ∧ w.frozen? ⟨g1, j, none⟩ = false :=
  ⟨(h.k.cell j).trans (map_getD _ _ _ _ (by rw [h.kl]; exact hj)), h.k.free j⟩
theorem Tabs.cellL {w : World} {g1 g2 : Nat} {K : List Int} {La : List ByteArray} (h : Tabs w g1 g2 K La) (j : Nat) (hj : j < 70) : w.cell? ⟨g2, j, none⟩ = some (.string (La.getD j ⟨#[]⟩)) ∧ w.frozen? ⟨g2, j, none⟩ = false :=
  ⟨(h.l.cell j).trans (map_getD _ _ _ _ (by rw [h.ll]; exact hj)), h.l.free j⟩
theorem Tabs.setK {w : World} {g1 g2 : Nat} {K : List Int} {La : List ByteArray} (h : Tabs w g1 g2 K La) (j : Nat) (x : Int) : Tabs (w.setCell ⟨g1, j, none⟩ (.int .i64 x)) g1 g2 (K.set j x) La :=
  ⟨by rw [← map_set']; exact h.k.set j _, h.l.other (Ne.symm h.ne) _, by rw [List.length_set]; exact h.kl, h.ll, h.ne⟩
theorem Tabs.setL {w : World} {g1 g2 : Nat} {K : List Int} {La : List ByteArray} (h : Tabs w g1 g2 K La) (j : Nat) (x : ByteArray) : Tabs (w.setCell ⟨g2, j, none⟩ (.string x)) g1 g2 K (La.set j x) :=
  ⟨h.k.other h.ne _, by rw [← map_set']; exact h.l.set j _, h.kl, by rw [List.length_set]; exact h.ll, h.ne⟩
theorem Tabs.keep {w w' : World} {g1 g2 : Nat} {K : List Int} {La : List ByteArray} (h : Tabs w g1 g2 K La) (hb : Below w.heap.size w w') : Tabs w' g1 g2 K La := ⟨h.k.keep hb, h.l.keep hb, h.kl, h.ll, h.ne⟩

set_option maxRecDepth 100000 in
set_option maxHeartbeats 8000000 in
theorem rmay_any (n : Nat) (x : Nd) (cs : List Value) (L : Live) (w : World) (h1 : (nodeR n).R L w x cs) (hc1 : count x ≤ 1000000) (hn1 : namesOk x) (hn : n * 1001 ≤ 1000000) (hdp : depth x ≤ 60) (hok : LOk L w) :
    Calls Try.prog 27 #[.agg cs.toArray] w fun e w' => e = .returned (.int .i64 (rmayI x)) ∧ Below w.heap.size w w' := by
  obtain ⟨m1, Ad1, cd1, Aa1, ca1, Ak1, ck1, hm1, rfl, hP1, _, _, _, _, _, _⟩ := node_open h1
  have H1 := Lib.hid h1
  have Hn1 := Lib.hid hn1; have Hok := Lib.hid hok
  have HE : Hid (rmayI x = if (rootB x && rmayL (flatN ⟨#[]⟩ 0 x)) = true then (if (decide (6 < deepest (flatN ⟨#[]⟩ 0 x)) || decide (64 < (flatN ⟨#[]⟩ 0 x).length)) = true then 3 else 0) else 2) := Lib.hid rfl
  have HO : Hid (rootB x = decide (x.own.kind = 1 ∧ x.own.name.size = 0)) := Lib.hid rfl
  clear hm1 h1 hP1 hn1 hok
  have c27 := cellsNode
  unfold nodeV
  go_enter Try.func27, Try.ntmps27
  go_wp2_with fail
  have HB : Hid (Box1 w (boxO x.own Ad1 cd1 Aa1 ca1 Ak1 x.kids.length ck1) (w.alloc (boxO x.own Ad1 cd1 Aa1 ca1 Ak1 x.kids.length ck1))) := Lib.hid box1
  have HX0 : Hid (Ext L w L (w.alloc (boxO x.own Ad1 cd1 Aa1 ca1 Ak1 x.kids.length ck1))) := Lib.hid ((Ext.refl Hok.out).alloc _)
  refine (flat_any n x _ ⟨#[]⟩ 0 L _ ((nodeR n).mono (Ext.sub Hok.out HX0.out) H1.out) hc1 Hn1.out (by simpa [ByteArray.size] using hn) (by omega) HX0.out.ok).mono ?_
  rintro e w3 ⟨v3, cells3, L3, rfl, ho3, hx3⟩
  have hX3 := HX0.out.trans hx3
  have HB3 := Lib.hid (HB.out.step hx3.below)
  obtain ⟨L4, hS4, _, hX4, _⟩ := ho3.publish_ext hX3 (by simp only [World.size_alloc]; omega) (by rw [flatN_len]; simp only [big]; omega)
  obtain ⟨A1, c1, rfl, _, _⟩ := ho3.form
  have HS4 := Lib.hid hS4; have HX4 := Lib.hid hX4
  clear ho3 hx3 hX3 hS4 hX4 HB HX0
  obtain ⟨n0, n1, n2, n3, n4, n5, n6, n7, n8, n9, n10, n11⟩ := HB3.out.cells
  obtain ⟨xs, hxs⟩ : ∃ xs, xs = flatN ⟨#[]⟩ 0 x := ⟨_, rfl⟩
  have hxl : xs.length ≤ 1000000 := by rw [hxs, flatN_len]; exact hc1
  have Hnm : Hid (∀ e ∈ xs, e.own.name.size ≤ 1000) := Lib.hid (by rw [hxs]; exact flatN_names Hn1.out)
  have Hdp : Hid (∀ e ∈ xs, e.deep ≤ 60) := Lib.hid (fun e he => by have := deepest_mem he; rw [hxs, deepest_flat] at this; omega)
  rw [← hxs] at HS4 HE ⊢
  clear hxs
  by_cases hk : x.own.kind = 1
  case neg =>
    have hkB : (x.own.kind == 1) = false := beq_eq_false_iff_ne.2 hk
    have hkN : (x.own.kind != 1) = true := by rw [bne, hkB]; rfl
    have Hr : Hid (rmayI x = 2) := Lib.hid (by rw [HE.out, HO.out]; simp [hk])
    go_wp2_with fail
    go_ret
    exact ⟨by rw [Hr.out]; rfl, HX4.out.below⟩
  by_cases he : x.own.name = ⟨#[]⟩
  case neg =>
    have q0 := toL_emp he
    have hz : ¬ x.own.name.size = 0 := fun h => he (size_zero h)
    have Hr : Hid (rmayI x = 2) := Lib.hid (by rw [HE.out, HO.out]; simp [hz])
    have q1 : ¬ x.own.name.toList = [] := fun e => he ((toL_eq x.own.name []).1 e)
    rw [hk] at n0
    clear hz he
    go_wp2_with fail
    go_ret
    exact ⟨by rw [Hr.out]; rfl, HX4.out.below⟩
  have hr0 : rootB x = true := by rw [HO.out, hk, he]; simp; rfl
  have HE1 : Hid (rmayI x = if rmayL xs = true then (if (decide (6 < deepest xs) || decide (64 < xs.length)) = true then 3 else 0) else 2) := Lib.hid (by rw [HE.out, hr0, Bool.true_and])
  rw [hk] at n0
  rw [he] at n1
  clear HE HO hr0 he hk
  have hmk1 : ∀ w : World, (Instr.makeSlice 34 (.int .i64 70) (.int .i64 70)).run Try.prog w = .ok (.slice (some ⟨w.heap.size, 0, none⟩) 70 70) (w.alloc (.cells ((List.replicate 70 (0 : Int)).map (Value.int .i64)).toArray 3)) :=
    fun w => make_run 34 3 _ 1 8 70 _ Try.underlying34 Try.infoInt (by decide) (by decide) (by kernel_rfl) w
  have hmk2 : ∀ w : World, (Instr.makeSlice 40 (.int .i64 70) (.int .i64 70)).run Try.prog w = .ok (.slice (some ⟨w.heap.size, 0, none⟩) 70 70) (w.alloc (.cells ((List.replicate 70 (⟨#[]⟩ : ByteArray)).map Value.string).toArray 9)) :=
    fun w => make_run 40 9 _ 1 16 70 _ Try.underlying40 Try.infoStr (by decide) (by decide) (by kernel_rfl) w
  obtain ⟨z1, hz1⟩ : ∃ z, z = ((List.replicate 70 (0 : Int)).map (Value.int .i64)).toArray := ⟨_, rfl⟩
  obtain ⟨z2, hz2⟩ : ∃ z, z = ((List.replicate 70 (⟨#[]⟩ : ByteArray)).map Value.string).toArray := ⟨_, rfl⟩
  rw [← hz1] at hmk1
  rw [← hz2] at hmk2
  have Hz1 := Lib.hid hz1; have Hz2 := Lib.hid hz2
  clear hz1 hz2
  go_upto_region 7 with fail
  obtain ⟨w4, hw4⟩ : ∃ w4, w4 = (w3.alloc (.cells z1 3)).alloc (.cells z2 9) := ⟨_, rfl⟩
  rw [← hw4]
  clear n0 n1 n2 n3 n4 n5 n6 n7 n8 n9 n10 n11 hmk1 hmk2
  have hT4 : Tabs w4 w3.heap.size (w3.heap.size + 1) (List.replicate 70 0) (List.replicate 70 ⟨#[]⟩) := by
    refine ⟨?_, ?_, by simp, by simp, by omega⟩
    · rw [hw4, Hz1.out]; exact (RowAt.new w3 _ _).alloc _
    · rw [hw4, Hz2.out]
      have := RowAt.new (w3.alloc (.cells z1 3)) 9 ((List.replicate 70 (⟨#[]⟩ : ByteArray)).map Value.string)
      rw [World.size_alloc] at this
      exact this
  have hX5 : Below w3.heap.size w3 w4 := by rw [hw4]; exact ((Below.refl _ _).alloc (Nat.le_refl _) _).alloc (by simp) _
  have HT4 := Lib.hid hT4; have HX5 := Lib.hid hX5
  obtain ⟨g1, hg1⟩ : ∃ g, g = w3.heap.size := ⟨_, rfl⟩
  clear hT4 hX5 hw4
  go_wp2
  go_loopw [6, 7, 8, 9, 10] (fun dv i u8 u9 u10 wr => ∃ (k D : Nat) (K : List Int) (La : List ByteArray), k ≤ xs.length ∧ i = .int .i64 k ∧ dv = .int .i64 D ∧ D ≤ 60 ∧ Hid (rmayL xs = mayGo (xs.drop k) K La) ∧ Hid (D = deepest (xs.take k)) ∧ Hid (Tabs wr w3.heap.size (w3.heap.size + 1) K La) ∧ Hid (Below w3.heap.size w3 wr)) (fun _ i _ _ _ _ => xs.length - (intOf i).toNat)
  case atStart => exact ⟨0, 0, _, _, Nat.zero_le _, rfl, rfl, by omega, Lib.hid rfl, Lib.hid rfl, HT4, HX5⟩
  case round =>
    obtain ⟨k, D, K, La, hk, rfl, rfl, hD, HI, HD, HT, HX⟩ := hrel
    by_cases hlt : k < xs.length
    · have hkI : (k : Int) < (xs.length : Int) := by omega
      obtain ⟨b, off, Ad, cd, Aa, ca, rfl, hR, _, _, m0, m1, m2, m3, m4, m5, m6, m7, m8, m9, m10, m11, m12, m13⟩ := ents_at2 HS4.out k hlt
      have HJ := Lib.hid (mayGo_at hlt K La)
      have HDn : Hid (max D xs[k].deep = deepest (xs.take (k + 1))) := Lib.hid (by rw [List.take_succ_eq_append_getElem hlt, deepest_snoc, HD.out])
      have hde := Hdp.out xs[k] (List.getElem_mem hlt)
      have HNk : Hid (xs[k].own.name.size ≤ 1000) := Lib.hid (Hnm.out _ (List.getElem_mem hlt))
      obtain ⟨u, hu⟩ : ∃ a, a = xs[k] := ⟨_, rfl⟩
      rw [← hu] at hR m0 m1 m2 m3 m4 m5 m6 m7 m8 m9 m10 m11 m12 HJ HDn hde HNk
      clear hu
      have HS : Hid (∀ w', Below w3.heap.size w3 w' → w'.cell? ⟨b, off + k * 14, none⟩ = some (.int .i64 u.deep) ∧ w'.cell? ⟨b, off + k * 14 + 2, none⟩ = some (.int .i64 u.own.kind) ∧ w'.cell? ⟨b, off + k * 14 + 2 + 1, none⟩ = some (.string u.own.name) ∧ w'.cell? ⟨b, off + k * 14 + 2 + 2, none⟩ = some (.int .i64 u.own.mode) ∧ w'.cell? ⟨b, off + k * 14 + 2 + 3, none⟩ = some (.int .i64 u.own.uid) ∧ w'.cell? ⟨b, off + k * 14 + 2 + 4, none⟩ = some (.int .i64 u.own.gid) ∧ w'.cell? ⟨b, off + k * 14 + 2 + 5, none⟩ = some (.int .i64 u.own.mtime) ∧ w'.cell? ⟨b, off + k * 14 + 2 + 6, none⟩ = some (.slice Ad u.own.data.length cd) ∧ w'.cell? ⟨b, off + k * 14 + 2 + 7, none⟩ = some (.string u.own.target) ∧ w'.cell? ⟨b, off + k * 14 + 2 + 8, none⟩ = some (.int .i64 u.own.major) ∧ w'.cell? ⟨b, off + k * 14 + 2 + 9, none⟩ = some (.int .i64 u.own.minor) ∧ w'.cell? ⟨b, off + k * 14 + 2 + 10, none⟩ = some (.slice Aa u.own.attrs.length ca) ∧ w'.cell? ⟨b, off + k * 14 + 2 + 11, none⟩ = some (.slice none 0 0)) := Lib.hid (fun w' hb => by
        have kk : ∀ {q : Addr} {u : Value}, w3.cell? q = some u → w'.cell? q = some u := fun hu => (hb.cell (World.block_lt_of_cell? w3 _ hu)).trans hu
        exact ⟨kk m0, kk m2, kk m3, kk m4, kk m5, kk m6, kk m7, kk m8, kk m9, kk m10, kk m11, kk m12, kk m13⟩)
      have HR := Lib.hid hR
      clear hR m1 m0 m2 m3 m4 m5 m6 m7 m8 m9 m10 m11 m12 m13
      obtain ⟨m0, m2, m3, m4, m5, m6, m7, m8, m9, m10, m11, m12, m13⟩ := HS.out _ HX.out
      go_wp2_with fail
      refine (rownE_any u.own _ _ _ _ L4 _ ((nodeR 1).mono (sub_same HX.out) HR.out)).mono ?_
      rintro e w5 ⟨rfl, h5⟩
      have HX5 := Lib.hid (HX.out.trans (h5.mono HX.out.size)); have HT5 := Lib.hid (HT.out.keep h5)
      clear h5 m0 m2 m3 m4 m5 m6 m7 m8 m9 m10 m11 m12 m13 HX HT HR
      obtain ⟨m0, m2, m3, m4, m5, m6, m7, m8, m9, m10, m11, m12, m13⟩ := HS.out _ HX5.out
      clear m4 m5 m6 m7 m8 m9 m10 m11 m12 m13
      obtain ⟨q, hq⟩ : ∃ q, q = ownR u.own := ⟨_, rfl⟩
      have Hq := Lib.hid hq
      rw [← hq]
      clear hq
      have HEnt : Hid (entB K La u = (q && (decide (u.deep = 0) || (nameB u.own.name && decide (K.getD (min (u.deep - 1) 69) 0 = 1) && (decide (69 ≤ u.deep) || ltS (La.getD u.deep ⟨#[]⟩) u.own.name))))) := Lib.hid (by rw [Hq.out]; rfl)
      have HF : Hid (entB K La u = false → rmayI x = 2) := Lib.hid (fun h => by rw [HE1.out, HI.out, HJ.out, h]; rfl)
      have HG : Hid (entB K La u = true → rmayL xs = mayGo (xs.drop (k + 1)) (updK u K) (updL u La)) := Lib.hid (fun h => by rw [HI.out, HJ.out, h, Bool.true_and])
      clear HI HJ HD
      cases q with
      | false =>
        have Hf : Hid (rmayI x = 2) := Lib.hid (HF.out (by rw [HEnt.out]; rfl))
        clear HF HG HEnt
        go_wp2_with fail
        go_ret
        exact ⟨by rw [Hf.out]; rfl, HX4.out.below.trans (HX5.out.mono HX4.out.below.size)⟩
      | true =>
        obtain ⟨name, hname⟩ : ∃ n, n = u.own.name := ⟨_, rfl⟩
        obtain ⟨kind, hkind⟩ : ∃ n, n = u.own.kind := ⟨_, rfl⟩
        obtain ⟨d, hd⟩ : ∃ n, n = u.deep := ⟨_, rfl⟩
        have HU : Hid (updK u K = K.set d kind ∧ updL u La = (La.set d name).set (d + 1) ⟨#[]⟩) := Lib.hid (by unfold updK updL; rw [if_pos (by omega), if_pos (by omega), hd, hkind, hname]; exact ⟨rfl, rfl⟩)
        rw [← hname, ← hd] at HEnt
        rw [← hd] at HDn hde m0
        rw [← hname] at m3 HNk
        rw [← hkind] at m2
        rw [HU.out.1, HU.out.2] at HG
        have HS2 : Hid (∀ w', Below w3.heap.size w3 w' → w'.cell? ⟨b, off + k * 14 + 2, none⟩ = some (.int .i64 kind) ∧ w'.cell? ⟨b, off + k * 14 + 2 + 1, none⟩ = some (.string name)) := Lib.hid (fun w' hb => by
          have h := HS.out w' hb
          rw [← hname, ← hkind] at h
          exact ⟨h.2.1, h.2.2.1⟩)
        clear hname hkind hd HS HU
        obtain ⟨D2, hD2⟩ : ∃ n, n = max D d := ⟨_, rfl⟩
        have hmax : max (D : Int) (d : Int) = (D2 : Int) := by omega
        have hD2' : D2 ≤ 60 := by omega
        rw [← hD2] at HDn
        clear hD2
        have hd69 : (d : Int) < 69 := by omega
        have hd70 : (d : Int) < 70 := by omega
        have hd71 : (d : Int) + 1 < 70 := by omega
        have hd72 : 0 ≤ (d : Int) + 1 := by omega
        have hd73 : ((d : Int) + 1).toNat = d + 1 := by omega
        have hd74 : IntKind.i64.wrap ((d : Int) + 1) = (d : Int) + 1 := IntWalk.i64_in _ (by omega)
        by_cases hd0 : d = 0
        · have hdn : ¬ (0 : Int) < (d : Int) := by omega
          have HK : Hid (rmayL xs = mayGo (xs.drop (k + 1)) (K.set d kind) ((La.set d name).set (d + 1) ⟨#[]⟩)) := Lib.hid (HG.out (by rw [HEnt.out, hd0]; rfl))
          clear HF HG HEnt hd0
          obtain ⟨t1, t2⟩ := HT5.out.cellK d (by omega)
          go_upto_region 23 with fail
          obtain ⟨wB, hwB⟩ : ∃ y, y = (w5).setCell ⟨w3.heap.size, d, none⟩ (.int .i64 kind) := ⟨_, rfl⟩
          rw [← hwB]
          have HTB : Hid (Tabs wB w3.heap.size (w3.heap.size + 1) (K.set d kind) La) := Lib.hid (by rw [hwB]; exact HT5.out.setK d kind)
          have HXB : Hid (Below w3.heap.size w3 wB) := Lib.hid (by rw [hwB]; exact HX5.out.setCell (Nat.le_refl _) _)
          clear hwB t1 t2 m2 m3
          obtain ⟨m2, m3⟩ := HS2.out _ HXB.out
          obtain ⟨t1, t2⟩ := HTB.out.cellL d (by omega)
          go_upto_region 24 with fail
          obtain ⟨wC, hwC⟩ : ∃ y, y = wB.setCell ⟨w3.heap.size + 1, d, none⟩ (.string name) := ⟨_, rfl⟩
          rw [← hwC]
          have HTC : Hid (Tabs wC w3.heap.size (w3.heap.size + 1) (K.set d kind) (La.set d name)) := Lib.hid (by rw [hwC]; exact HTB.out.setL d name)
          have HXC : Hid (Below w3.heap.size w3 wC) := Lib.hid (by rw [hwC]; exact HXB.out.setCell (Nat.le_succ _) _)
          clear hwC t1 t2 m2 m3 HTB HXB
          obtain ⟨t1, t2⟩ := HTC.out.cellL (d + 1) (by omega)
          have HTD : Hid (Tabs (wC.setCell ⟨w3.heap.size + 1, d + 1, none⟩ (.string ⟨#[]⟩)) w3.heap.size (w3.heap.size + 1) (K.set d kind) ((La.set d name).set (d + 1) ⟨#[]⟩)) := Lib.hid (HTC.out.setL (d + 1) ⟨#[]⟩)
          have HXD : Hid (Below w3.heap.size w3 (wC.setCell ⟨w3.heap.size + 1, d + 1, none⟩ (.string ⟨#[]⟩))) := Lib.hid (HXC.out.setCell (Nat.le_succ _) _)
          go_wp2
          go_roundw
          case rel => exact ⟨k + 1, D2, _, _, by omega, by go_num, by first | rfl | rw [hmax] | (simp [hmax]), hD2', HK, HDn, HTD, HXD⟩
          case measure => simp [intOf]; omega
        · obtain ⟨d1, hd1e⟩ : ∃ d1, d = d1 + 1 := ⟨d - 1, by omega⟩
          have hdp0 : (0 : Int) < (d : Int) := by omega
          have hdm : (d : Int) - 1 = (d1 : Int) := by omega
          have hdm2 : IntKind.i64.wrap ((d : Int) - 1) = (d1 : Int) := by rw [hdm]; exact IntWalk.i64_in _ (by omega)
          have hmin : min (d1 : Int) 69 = (d1 : Int) := by omega
          have hd1 : (d1 : Int) < 70 := by omega
          have hd1' : d1 < 70 := by omega
          have hd75 : decide ((d : Int) < 69) = true := decide_eq_true (by omega)
          have HEnt2' : Hid (entB K La u = (nameB name && decide (K.getD d1 0 = 1) && ltS (La.getD d ⟨#[]⟩) name)) := Lib.hid (by
            rw [HEnt.out, show min (d - 1) 69 = d1 from by omega]
            have h1 : decide (d = 0) = false := by simp [hd0]
            have h2 : decide (69 ≤ d) = false := decide_eq_false (by omega)
            rw [h1, h2]; simp)
          clear HEnt
          have HEnt := HEnt2'
          clear HEnt2' hd0 hd1e
          go_wp2_with fail
          refine (rname_any name _ (by have := HNk.out; first | omega | (simp only [big]; omega))).mono ?_
          rintro e w6 ⟨rfl, rfl⟩
          obtain ⟨q, hq⟩ : ∃ q, q = nameB name := ⟨_, rfl⟩
          rw [← hq] at HEnt ⊢
          clear hq
          cases q with
          | false =>
            have Hf : Hid (rmayI x = 2) := Lib.hid (HF.out (by rw [HEnt.out]; simp))
            clear HF HG HEnt
            go_wp2_with fail
            go_ret
            exact ⟨by rw [Hf.out]; rfl, HX4.out.below.trans (HX5.out.mono HX4.out.below.size)⟩
          | true =>
            obtain ⟨t1, _⟩ := HT5.out.cellK d1 (by omega)
            have HEnt2 : Hid (entB K La u = (decide (K.getD d1 0 = 1) && ltS (La.getD d ⟨#[]⟩) name)) := Lib.hid (by rw [HEnt.out, Bool.true_and])
            obtain ⟨kv, hkv⟩ : ∃ z, z = K.getD d1 0 := ⟨_, rfl⟩
            rw [← hkv] at t1 HEnt2
            clear hkv HEnt
            by_cases hk1 : kv = 1
            case neg =>
              have hk2 : (kv == 1) = false := beq_eq_false_iff_ne.2 hk1
              have hk3 : (kv != 1) = true := by rw [bne, hk2]; rfl
              have Hf : Hid (rmayI x = 2) := Lib.hid (HF.out (by rw [HEnt2.out]; simp [hk1]))
              clear HF HG HEnt2
              go_wp2_with fail
              go_ret
              exact ⟨by rw [Hf.out]; rfl, HX4.out.below.trans (HX5.out.mono HX4.out.below.size)⟩
            subst hk1
            obtain ⟨t3, _⟩ := HT5.out.cellL d (by omega)
            obtain ⟨lst, hlst⟩ : ∃ z, z = La.getD d ⟨#[]⟩ := ⟨_, rfl⟩
            rw [← hlst] at t3 HEnt2
            clear hlst
            have Hr3 := Lib.hid (three lst name)
            rcases Hr3.out with ⟨h1, h2, h3⟩ | he | ⟨h1, h2, h3⟩
            · have l1 : Op.bytesLess name.toList lst.toList = false := h2
              have l2 := toL_nb (Ne.symm h3)
              have l3 := toL_np (Ne.symm h3)
              have HK : Hid (rmayL xs = mayGo (xs.drop (k + 1)) (K.set d kind) ((La.set d name).set (d + 1) ⟨#[]⟩)) := Lib.hid (HG.out (by rw [HEnt2.out, h1]; simp))
              clear h1 h2 h3 Hr3 HF HG HEnt2
              go_upto_region 19 with fail
              go_quiet (fail)
              obtain ⟨wq, hwq⟩ : ∃ y, y = w5.drewN nq := ⟨_, rfl⟩
              rw [← hwq]
              have HTd : Hid (Tabs wq w3.heap.size (w3.heap.size + 1) K La) := Lib.hid (by rw [hwq]; exact HT5.out.keep (below_drewN _ _))
              have HXd : Hid (Below w3.heap.size w3 wq) := Lib.hid (by rw [hwq]; exact HX5.out.trans ((below_drewN w5 _).mono HX5.out.size))
              clear t1 t3 l1 l2 l3 hwq m0 m2 m3
              obtain ⟨m2, m3⟩ := HS2.out _ HXd.out

              obtain ⟨t1, t2⟩ := HTd.out.cellK d (by omega)
              go_upto_region 23 with fail
              obtain ⟨wB, hwB⟩ : ∃ y, y = (wq).setCell ⟨w3.heap.size, d, none⟩ (.int .i64 kind) := ⟨_, rfl⟩
              rw [← hwB]
              have HTB : Hid (Tabs wB w3.heap.size (w3.heap.size + 1) (K.set d kind) La) := Lib.hid (by rw [hwB]; exact HTd.out.setK d kind)
              have HXB : Hid (Below w3.heap.size w3 wB) := Lib.hid (by rw [hwB]; exact HXd.out.setCell (Nat.le_refl _) _)
              clear hwB t1 t2 m2 m3
              obtain ⟨m2, m3⟩ := HS2.out _ HXB.out
              obtain ⟨t1, t2⟩ := HTB.out.cellL d (by omega)
              go_upto_region 24 with fail
              obtain ⟨wC, hwC⟩ : ∃ y, y = wB.setCell ⟨w3.heap.size + 1, d, none⟩ (.string name) := ⟨_, rfl⟩
              rw [← hwC]
              have HTC : Hid (Tabs wC w3.heap.size (w3.heap.size + 1) (K.set d kind) (La.set d name)) := Lib.hid (by rw [hwC]; exact HTB.out.setL d name)
              have HXC : Hid (Below w3.heap.size w3 wC) := Lib.hid (by rw [hwC]; exact HXB.out.setCell (Nat.le_succ _) _)
              clear hwC t1 t2 m2 m3 HTB HXB
              obtain ⟨t1, t2⟩ := HTC.out.cellL (d + 1) (by omega)
              have HTD : Hid (Tabs (wC.setCell ⟨w3.heap.size + 1, d + 1, none⟩ (.string ⟨#[]⟩)) w3.heap.size (w3.heap.size + 1) (K.set d kind) ((La.set d name).set (d + 1) ⟨#[]⟩)) := Lib.hid (HTC.out.setL (d + 1) ⟨#[]⟩)
              have HXD : Hid (Below w3.heap.size w3 (wC.setCell ⟨w3.heap.size + 1, d + 1, none⟩ (.string ⟨#[]⟩))) := Lib.hid (HXC.out.setCell (Nat.le_succ _) _)
              go_wp2
              go_roundw
              case rel => exact ⟨k + 1, D2, _, _, by omega, by go_num, by first | rfl | rw [hmax] | (simp [hmax]), hD2', HK, HDn, HTD, HXD⟩
              case measure => simp [intOf]; omega
            · have Hf : Hid (rmayI x = 2) := Lib.hid (HF.out (by rw [HEnt2.out, he, ltS_irrefl]; simp))
              have l1 : Op.bytesLess name.toList lst.toList = false := by rw [he]; exact bl_irrefl _
              have l2 : name.toList = lst.toList := by rw [he]
              clear he Hr3 HF HG HEnt2
              go_upto_region 19 with fail
              go_quiet (fail)
              go_wp2_with fail
              go_ret
              exact ⟨by rw [Hf.out]; rfl, HX4.out.below.trans ((HX5.out.trans ((below_drewN w5 _).mono HX5.out.size)).mono HX4.out.below.size)⟩
            · have Hf : Hid (rmayI x = 2) := Lib.hid (HF.out (by rw [HEnt2.out, h2]; simp))
              have l1 : Op.bytesLess name.toList lst.toList = true := h1
              clear h1 h2 h3 Hr3 HF HG HEnt2
              go_upto_region 19 with fail
              go_quiet (fail)
              go_wp2_with fail
              go_ret
              exact ⟨by rw [Hf.out]; rfl, HX4.out.below.trans ((HX5.out.trans ((below_drewN w5 _).mono HX5.out.size)).mono HX4.out.below.size)⟩
    · have hkn : ¬ (k : Int) < (xs.length : Int) := by omega
      have hke : k = xs.length := by omega
      have HE2 : Hid (rmayI x = if (decide (6 < D) || decide (64 < xs.length)) = true then 3 else 0) := Lib.hid (by
        rw [HE1.out, HI.out, List.drop_of_length_le (by omega), show mayGo [] K La = true from rfl, if_pos rfl, HD.out, hke, List.take_length])
      clear HE1 HI HD
      by_cases h6 : 6 < D
      · have h6I : (6 : Int) < (D : Int) := by omega
        have Hf : Hid (rmayI x = 3) := Lib.hid (by rw [HE2.out]; simp [h6])
        go_wp2_with fail
        go_ret
        exact ⟨by rw [Hf.out]; rfl, HX4.out.below.trans (HX.out.mono HX4.out.below.size)⟩
      · have h6I : ¬ (6 : Int) < (D : Int) := by omega
        by_cases h64 : 64 < xs.length
        · have h64I : (64 : Int) < (xs.length : Int) := by omega
          have Hf : Hid (rmayI x = 3) := Lib.hid (by rw [HE2.out]; simp [h64])
          go_wp2_with fail
          go_ret
          exact ⟨by rw [Hf.out]; rfl, HX4.out.below.trans (HX.out.mono HX4.out.below.size)⟩
        · have h64I : ¬ (64 : Int) < (xs.length : Int) := by omega
          have Hf : Hid (rmayI x = 0) := Lib.hid (by rw [HE2.out]; simp [h6, h64])
          go_wp2_with fail
          go_ret
          exact ⟨by rw [Hf.out]; rfl, HX4.out.below.trans (HX.out.mono HX4.out.below.size)⟩
end Go.Proofs.Ytojcciciinklbaa
