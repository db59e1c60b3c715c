/- TreeFinds, walked: the node of a path is the document's, or there is none. No claim by itself. -/
import Derived.Test.YtojcciciinklbaaFind2
import Derived.Test.YtojcciciinklbaaFind3
import Derived.Test.YtojcciciinklbaaFindM
import Derived.Test.YtojcciciinklbaaRef12
import Derived.Test.YtojcciciinklbaaSlots2
import Derived.Test.YtojcciciinklbaaRef4
import Derived.Test.YtojcciciinklbaaTree13
set_option linter.unusedSimpArgs false
set_option linter.unusedVariables false
namespace Go.Proofs.Ytojcciciinklbaa
open Go.RowKit

theorem find_made (gs : List GV) : count (madeF gs) ≤ 13 ∧ namesOk (madeF gs) ∧ bulk (madeF gs) ≤ 1000000 := by
  obtain ⟨s1, s2, s3, s4⟩ := row_small (row_pos gs) (row_len gs) (rowF_small gs)
  exact ⟨s1, s3, s4⟩

/-- What both calls answer. -/
structure Asked (x : Nd) (csx : List Value) (q : ByteArray) (z y : Nd) (e1 : Int) (b1 : Bool) : Prop where
  code : ∀ (L : Live) (w : World), (nodeR 13).R L w x csx → LOk L w → Calls Try.prog 22 #[.agg csx.toArray, .string q] w fun e w' => ∃ cs L', e = .returned (.tuple #[.agg cs.toArray, .int .i64 e1]) ∧ (nodeR 14).R L' w' z cs ∧ Ext L w L' w'
  ref : ∀ (L : Live) (w : World), (nodeR 13).R L w x csx → LOk L w → Calls Try.prog 23 #[.agg csx.toArray, .string q] w fun e w' => ∃ cs L', e = .returned (.tuple #[.agg cs.toArray, .bool b1]) ∧ (nodeR 14).R L' w' y cs ∧ Ext L w L' w'
  own : z.own = y.own
  same : (e1 = 0 ∧ b1 = true) ∨ (e1 = 4 ∧ b1 = false)
theorem asked_ref (gs : List GV) (r : Option Nd) (csx : List Value) (q : ByteArray) (hq : q.size ≤ 1000) (hr : findE (flatN ⟨#[]⟩ 0 (madeF gs)) q = r.map (·.own)) (L : Live) (w : World) (h : (nodeR 13).R L w (madeF gs) csx) (hok : LOk L w) :
    Calls Try.prog 23 #[.agg csx.toArray, .string q] w fun e w' => ∃ cs L', e = .returned (.tuple #[.agg cs.toArray, .bool r.isSome]) ∧ (nodeR 14).R L' w' (.mk (r.getD emptyN).own []) cs ∧ Ext L w L' w' := by
  obtain ⟨s1, s3, s4⟩ := find_made gs
  refine (rfind_any 13 (madeF gs) csx q L w h (by omega) s3 (by decide) (by omega) hok).mono ?_
  rintro e w' ⟨cs, L', he, h', x'⟩
  rw [hr] at he h'
  refine ⟨cs, L', ?_, ?_, x'⟩
  · cases r <;> exact he
  · cases r <;> exact nodeR_le (by decide) h'
theorem asked (gs : List GV) (csx : List Value) (q : ByteArray) (hq : q.size ≤ 1000) : ∃ z y e1 b1, Asked (madeF gs) csx q z y e1 b1 := by
  obtain ⟨s1, s3, s4⟩ := find_made gs
  have hfl := flat_findN (madeF gs) q (row_names (row_tree gs))
  refine ⟨(findN (madeF gs) q).getD emptyN, .mk ((findN (madeF gs) q).getD emptyN).own [], if (findN (madeF gs) q).isSome = true then 0 else 4, (findN (madeF gs) q).isSome, ⟨fun L w h hok => ?_, fun L w h hok => asked_ref gs _ csx q hq hfl L w h hok, rfl, ?_⟩⟩
  · exact find_any 13 (madeF gs) csx q L w h (by omega) (by omega) hok
  · cases findN (madeF gs) q
    · exact .inr ⟨rfl, rfl⟩
    · exact .inl ⟨rfl, rfl⟩
theorem short_le (s : ByteArray) (m : Nat) : (shortS s m).size ≤ m := by
  unfold shortS; rw [mkS_size, List.length_take]; omega

set_option maxRecDepth 100000 in
set_option maxHeartbeats 16000000 in
theorem findlaw_walk (gs : List GV) (ps : List Int) (v u : Value) (s : ByteArray) (W : World) (hS : SliceR gR (Lw W) W gs v) (hM : SliceR Rp.i64 (Lw W) W ps u) (h5 : s.size ≤ big) :
    Calls Try.prog 4 #[v, .string s, u] W fun e w' => e = .returned (.bool true) ∧ Below W.heap.size W w' := by
  have HS := Lib.hid hS; have HM := Lib.hid hM
  have h5' : s.size ≤ 9223372036854775807 := by unfold big at h5; omega
  clear hS hM h5
  have c27 := cellsNode
  go_enter Try.func4, Try.ntmps4
  go_wp2_with fail
  refine (rmade_any gs v (Lw W) W HS.out (Lw_ok W)).mono ?_
  rintro e w1 ⟨cs1, L1, rfl, h1', x1⟩
  obtain ⟨m1, Adx, cdx, Aax, cax, Akx, ckx, hm1, rfl, hP1, _, _, _, _, _, _⟩ := node_open h1'
  have HAsk : Hid (∀ (Ad : Option Addr) (cd : Nat) (Aa : Option Addr) (ca : Nat) (Ak : Option Addr) (ck : Nat) (q : ByteArray), q.size ≤ 1000 → ∃ z y e1 b1, Asked (madeF gs) (nodeV (madeF gs).own (.slice Ad (madeF gs).own.data.length cd) (.slice Aa (madeF gs).own.attrs.length ca) (.slice Ak (madeF gs).kids.length ck)) q z y e1 b1) := Lib.hid (fun _ _ _ _ _ _ q hq => asked gs _ q hq)
  obtain ⟨x, hx⟩ : ∃ x, x = madeF gs := ⟨_, rfl⟩
  rw [← hx] at h1' hP1 HAsk ⊢
  have HE1 := Lib.hid x1; have HN1 := Lib.hid h1'
  have hs1 := x1.below.size
  clear h1' hP1 hm1 x1 hx
  unfold nodeV
  go_upto_region 2 with fail
  obtain ⟨w2, hw2⟩ : ∃ y, y = w1.alloc (boxO x.own Adx cdx Aax cax Akx x.kids.length ckx) := ⟨_, rfl⟩
  have hs2 : w1.heap.size < w2.heap.size := by rw [hw2]; simp
  have HE2 : Hid (Ext (Lw W) W L1 w2) := Lib.hid (by rw [hw2]; exact HE1.out.alloc _)
  have hb2 : Below w1.heap.size w1 w2 := by rw [hw2]; exact (Below.refl _ _).alloc (Nat.le_refl _) _
  have HBx2 : Hid (w2.heap[w1.heap.size]? = some (boxO x.own Adx cdx Aax cax Akx x.kids.length ckx)) := Lib.hid (by rw [hw2]; exact heap_alloc_new w1 _)
  have HN2 : Hid ((nodeR 13).R L1 w2 x (nodeV x.own (.slice Adx x.own.data.length cdx) (.slice Aax x.own.attrs.length cax) (.slice Akx x.kids.length ckx))) := Lib.hid ((nodeR 13).mono (sub_same hb2) HN1.out)
  show Code.wp _ _ _ _ (w1.alloc (boxO x.own Adx cdx Aax cax Akx x.kids.length ckx))
  rw [← hw2]
  clear hw2 hb2 HN1 HE1
  go_wp2_with fail
  refine (rrow_any gs v L1 w2 (HS.out.mono (Ext.sub (Lw_ok W) HE2.out)) HE2.out.ok).mono ?_
  rintro e w3 ⟨v3, cells3, L3', rfl, ho3, x3⟩
  have hl13 := row_len gs
  have hpath : ∀ e ∈ rowF gs, e.path.size ≤ 200 := fun e he => path_le (row_tree gs) e he
  obtain ⟨L3, hS3, _, hX3, _⟩ := ho3.publish_ext x3 (Nat.le_refl _) (by simp only [big]; omega)
  obtain ⟨A3, c3, rfl, _, _⟩ := ho3.form
  obtain ⟨l, hl⟩ : ∃ l, l = rowF gs := ⟨_, rfl⟩
  rw [← hl] at hS3 hl13 hpath ⊢
  have HPa := Lib.hid hpath
  have HE23 := Lib.hid hX3; have HE3 := Lib.hid (HE2.out.trans hX3); have HR3 := Lib.hid hS3
  have hs3 := hX3.below.size
  have HBx3 : Hid (w3.heap[w1.heap.size]? = some (boxO x.own Adx cdx Aax cax Akx x.kids.length ckx)) := Lib.hid ((HE23.out.below.block _ hs2).trans HBx2.out)
  have HN3 := Lib.hid ((nodeR 13).mono (Ext.sub HE2.out.ok HE23.out) HN2.out)
  clear ho3 x3 hS3 hX3 hl hpath HE23 HN2 HBx2
  go_wp2_with fail
  refine (short_any s 30 w3 (by decide) h5').mono ?_
  rintro e w3' ⟨rfl, rfl⟩
  obtain ⟨s1, hs1'⟩ : ∃ y, y = shortS s 30 := ⟨_, rfl⟩
  have hz1 : s1.size ≤ 1000 := by rw [hs1']; exact Nat.le_trans (short_le s 30) (by decide)
  rw [← hs1']
  clear hs1'
  go_wp2_with fail
  refine (made_any ps u L3 w3 (HM.out.mono (Ext.sub (Lw_ok W) HE3.out))).mono ?_
  rintro e w4 ⟨rfl, x4⟩
  obtain ⟨s2, hs2'⟩ : ∃ y, y = madeP ps := ⟨_, rfl⟩
  have hz2 : s2.size ≤ 1000 := by rw [hs2']; exact Nat.le_trans (madeP_size ps) (by decide)
  rw [← hs2']
  have hs4 := x4.size
  have HE4 : Hid (Ext (Lw W) W L3 w4) := Lib.hid (HE3.out.trans (Ext.of_below HE3.out.ok x4))
  have HBx4 : Hid (w4.heap[w1.heap.size]? = some (boxO x.own Adx cdx Aax cax Akx x.kids.length ckx)) := Lib.hid ((x4.block _ (by omega)).trans HBx3.out)
  have HN4 := Lib.hid ((nodeR 13).mono (sub_same x4) HN3.out)
  have HR4 := Lib.hid (HR3.out.mono (sub_same x4))
  clear hs2' x4 HE3 HBx3 HN3 HR3
  go_upto_region 4 with fail
  obtain ⟨w5, hw5⟩ : ∃ y, y = w4.alloc (.cells #[.string s1, .string s2] 9) := ⟨_, rfl⟩
  have HL5 : Hid (SL w5 w4.heap.size (.slice (some ⟨w4.heap.size, 0, none⟩) 2 2) [s1, s2]) := Lib.hid (by rw [hw5]; exact ⟨rfl, .inr ⟨w4.heap.size, 2, _, (0, 0), rfl, Nat.le_refl _, heap_alloc_new w4 _, .inl rfl, Nat.le_refl _, by decide, by simp, rfl⟩⟩)
  have hb5 : Below w4.heap.size w4 w5 := by rw [hw5]; exact (Below.refl _ _).alloc (Nat.le_refl _) _
  have Hb5 := Lib.hid hb5
  have HZ5 : Hid (∀ y ∈ [s1, s2], y.size ≤ 1000) := Lib.hid (by simp; exact ⟨hz1, hz2⟩)
  show Code.wp _ _ _ _ (w4.alloc (.cells #[.string s1, .string s2] 9))
  rw [← hw5]
  clear hw5 hb5 hz1 hz2
  go_wp2_with fail
  go_loopw [9, 10] (fun va i wr => ∃ (k : Nat) (xs : List ByteArray), k ≤ l.length ∧ i = .int .i64 k ∧ xs.length ≤ 2 + 2 * k ∧ Hid (∀ y ∈ xs, y.size ≤ 1000) ∧ Hid (SL wr w4.heap.size va xs) ∧ Hid (Below w4.heap.size w4 wr)) (fun _ i _ => l.length - (intOf i).toNat)
  case atStart => exact ⟨0, [s1, s2], Nat.zero_le _, rfl, by simp, HZ5, HL5, Hb5⟩
  case round =>
    clear HZ5 HL5 Hb5
    obtain ⟨k, xs, hk, rfl, hxl, HZ, HL, HB⟩ := hrel
    obtain ⟨Ap, cp, rfl, _, _⟩ := HL.out.form
    have hbs := HB.out.size
    by_cases hlt : k < l.length
    · have hI1 : (k : Int) < (l.length : Int) := by omega
      have hd1 : decide ((k : Int) < (l.length : Int)) = true := decide_eq_true hI1
      obtain ⟨b, off, _, _, _, _, hbo, _, _, _, _, c1, _⟩ := ents_at2 (HR4.out.mono (sub_same HB.out)) k hlt
      have hp1 := HPa.out _ (List.getElem_mem hlt)
      obtain ⟨p, hp⟩ : ∃ y, y = l[k].path := ⟨_, rfl⟩
      rw [← hp] at hp1 c1
      subst hbo
      clear hp
      have hp2 : p.size + 1 ≤ 9223372036854775807 := by omega
      have hp3 : ¬ 9223372036854775807 < p.size + 1 := by omega
      have hone : (⟨#[47]⟩ : ByteArray).size = 1 := rfl
      have HZ2 : Hid (∀ y ∈ xs ++ [p, p ++ ⟨#[47]⟩], y.size ≤ 1000) := Lib.hid (fun y hy => by
        rcases List.mem_append.1 hy with hy | hy
        · exact HZ.out y hy
        · simp only [List.mem_cons, List.mem_nil_iff, or_false] at hy
          rcases hy with rfl | rfl
          · omega
          · rw [ByteArray.size_append, hone]; omega)
      have HBk : Hid (∀ w', Below wr.heap.size wr w' → Blk w' w4.heap.size 9 1 (.slice Ap xs.length cp) xs.length (strV xs)) := Lib.hid (fun w' hb => Blk.below HL.out hb)
      have HOne : Hid (∀ u ∈ [Value.string p, Value.string (p ++ ⟨#[47]⟩)], u.oneCell' = true) := Lib.hid (fun u hu => strV_one [p, p ++ (⟨#[47]⟩ : ByteArray)] u hu)
      go_upto_region 7 with fail
      go_region_law (refine step_appB rfl (.tmp 31) (.tmp 43) 40 9 rfl w4.heap.size _ 1 16 Try.underlying40 Try.infoStr rfl (by decide) _ (.slice Ap xs.length cp) rfl _ rfl xs.length (strV xs) (HBk.out _ (by first | exact ((Below.refl _ wr).alloc (Nat.le_refl _) _).drew | exact (below_drew wr).alloc (Nat.le_refl _) _)) 2 [.string p, .string (p ++ ⟨#[47]⟩)] (by first | exact (Src.new wr 9 1 2 2 [_, _] rfl).keep fun _ _ h => h | exact Src.new wr 9 1 2 2 [_, _] rfl | exact Src.new wr.drew 9 1 2 2 [_, _] rfl) HOne.out (by omega) (by simp; omega) ?_
                     intro v1 w6 hB6 hg6 _
                     have HL6 : Hid (SL w6 w4.heap.size v1 (xs ++ [p, p ++ ⟨#[47]⟩])) := Lib.hid (by unfold SL; rw [List.length_append, strV_append]; exact hB6)
                     have HB6 : Hid (Below w4.heap.size w4 w6) := Lib.hid ((HB.out.trans (Below.mono (show Below wr.heap.size wr _ from (by first | exact ((Below.refl _ wr).alloc (Nat.le_refl _) _).drew | exact (below_drew wr).alloc (Nat.le_refl _) _)) HB.out.size)).grown hg6 (by simp; omega) (fun j hj => (Blk.lt HL.out j hj).1))
                     clear hB6 hg6)
      all_goals
        go_wp2
        go_roundw
        case rel => exact ⟨k + 1, xs ++ [p, p ++ ⟨#[47]⟩], by omega, by go_num, by simp; omega, HZ2, HL6, HB6⟩
        case measure => simp [intOf]; omega
    · have hI1 : ¬ (k : Int) < (l.length : Int) := by omega
      have hkl : k = l.length := by omega
      have hxm : xs.length ≤ 1000 := by omega
      clear hkl hlt hxl hk
      obtain ⟨w6, hw6⟩ : ∃ y, y = wr := ⟨_, rfl⟩
      subst hw6
      have HN6 : Hid (∀ w', Below w6.heap.size w6 w' → (nodeR 13).R L3 w' x (nodeV x.own (.slice Adx x.own.data.length cdx) (.slice Aax x.own.attrs.length cax) (.slice Akx x.kids.length ckx))) := Lib.hid (fun w' hb => (nodeR 13).mono (sub_same hb) ((nodeR 13).mono (sub_same HB.out) HN4.out))
      have HX6 : Hid (∀ w', Below w6.heap.size w6 w' → w'.heap[w1.heap.size]? = some (boxO x.own Adx cdx Aax cax Akx x.kids.length ckx)) := Lib.hid (fun w' hb => (hb.block _ (by omega)).trans ((HB.out.block _ (by omega)).trans HBx4.out))
      have HO6 : Hid (LOk L3 w6) := Lib.hid (Ext.of_below HE4.out.ok HB.out).ok
      have HW6 : Hid (Below W.heap.size W w6) := Lib.hid (HE4.out.below.trans (HB.out.mono HE4.out.below.size))
      have hsW := HW6.out.size
      clear HN4 HBx4 HB HE4 HR4
      go_wp2_with fail
      go_loopw [11] (fun i wr => ∃ k : Nat, k ≤ xs.length ∧ i = .int .i64 k ∧ Hid (Below w6.heap.size w6 wr)) (fun i _ => xs.length - (intOf i).toNat)
      case atStart => exact ⟨0, Nat.zero_le _, rfl, Lib.hid (Below.refl _ _)⟩
      case round =>
        obtain ⟨k, hk, rfl, HB⟩ := hrel
        have hbs2 := HB.out.size
        by_cases hlt : k < xs.length
        · have hI2 : (k : Int) < (xs.length : Int) := by omega
          obtain ⟨r, cap, he, _, _, _, _, hat⟩ := SL.at_ (HL.out.below HB.out) (by omega)
          simp only [Value.slice.injEq, true_and] at he
          obtain ⟨rfl, rfl⟩ := he
          have c0 := hat k hlt
          have hqz := HZ.out _ (List.getElem_mem hlt)
          obtain ⟨q, hq⟩ : ∃ y, y = xs[k] := ⟨_, rfl⟩
          rw [← hq] at c0 hqz
          clear hq hat
          obtain ⟨z, y, e1, b1, hA⟩ := HAsk.out Adx cdx Aax cax Akx ckx q hqz
          have HA := Lib.hid hA
          have HCell : Hid (∀ w', Below wr.heap.size wr w' → w'.cell? ⟨r, k, none⟩ = some (.string q)) := Lib.hid (fun w' hb => (hb.cell (World.block_lt_of_cell? wr _ c0)).trans c0)
          have HBx : Hid (∀ w', Below wr.heap.size wr w' → w'.heap[w1.heap.size]? = some (boxO x.own Adx cdx Aax cax Akx x.kids.length ckx)) := Lib.hid (fun w' hb => HX6.out w' (HB.out.trans (hb.mono hbs2)))
          have HNq := Lib.hid (HN6.out wr HB.out)
          have HOq : Hid (LOk L3 wr) := Lib.hid (Ext.of_below HO6.out HB.out).ok
          clear hA c0
          go_upto_region 11 with fail
          refine wp_named _ ?_
          intro l0 hl0
          obtain ⟨E, hE⟩ : ∃ E : Option Addr → Nat → Option Addr → Nat → Option Addr → Nat → Live → Nat → List (Nat × Nat × Value), E = fun Adz cdz Aaz caz Akz ckz Lz pb => [(0, 52, .agg #[.int .i64 x.own.kind, .string x.own.name, .int .i64 x.own.mode, .int .i64 x.own.uid, .int .i64 x.own.gid, .int .i64 x.own.mtime, .slice Adx x.own.data.length cdx, .string x.own.target, .int .i64 x.own.major, .int .i64 x.own.minor, .slice Aax x.own.attrs.length cax, .slice Akx x.kids.length ckx]), (1, 53, .slice (some ⟨r, 0, none⟩) xs.length cp), (2, 54, .int .i64 k), (3, 55, .pointer (some ⟨r, k, none⟩)), (4, 56, .string q), (5, 57, .tuple #[.agg #[.int .i64 z.own.kind, .string z.own.name, .int .i64 z.own.mode, .int .i64 z.own.uid, .int .i64 z.own.gid, .int .i64 z.own.mtime, .slice Adz z.own.data.length cdz, .string z.own.target, .int .i64 z.own.major, .int .i64 z.own.minor, .slice Aaz z.own.attrs.length caz, .slice Akz z.kids.length ckz], .int .i64 e1]), (6, 51, .tuple #[.agg #[.int .i64 z.own.kind, .string z.own.name, .int .i64 z.own.mode, .int .i64 z.own.uid, .int .i64 z.own.gid, .int .i64 z.own.mtime, .slice Adz z.own.data.length cdz, .string z.own.target, .int .i64 z.own.major, .int .i64 z.own.minor, .slice Aaz z.own.attrs.length caz, .slice Akz z.kids.length ckz], .int .i64 e1]), (7, 58, .agg #[.int .i64 z.own.kind, .string z.own.name, .int .i64 z.own.mode, .int .i64 z.own.uid, .int .i64 z.own.gid, .int .i64 z.own.mtime, .slice Adz z.own.data.length cdz, .string z.own.target, .int .i64 z.own.major, .int .i64 z.own.minor, .slice Aaz z.own.attrs.length caz, .slice Akz z.kids.length ckz]), (8, 59, .int .i64 e1), (9, 12, .pointer (some ⟨pb, 0, none⟩)), (11, 13, .int .i64 e1)] := ⟨_, rfl⟩
          have hlen : l0.length = 86 := by rw [hl0]; rfl
          have hE1 : ∀ (Adz : Option Addr) (cdz : Nat) (Aaz : Option Addr) (caz : Nat) (Akz : Option Addr) (ckz : Nat) (Lz : Live) (pb : Nat), (E Adz cdz Aaz caz Akz ckz Lz pb).map (fun t => t.1) = [0, 1, 2, 3, 4, 5, 6, 7, 8, 9, 11] := fun Adz cdz Aaz caz Akz ckz Lz pb => by rw [hE]; rfl
          have hE2 : ∀ (Adz : Option Addr) (cdz : Nat) (Aaz : Option Addr) (caz : Nat) (Akz : Option Addr) (ckz : Nat) (Lz : Live) (pb : Nat), (E Adz cdz Aaz caz Akz ckz Lz pb).map (fun t => t.2.1) = [52, 53, 54, 55, 56, 57, 51, 58, 59, 12, 13] := fun Adz cdz Aaz caz Akz ckz Lz pb => by rw [hE]; rfl
          have m0 : ∀ (Adz : Option Addr) (cdz : Nat) (Aaz : Option Addr) (caz : Nat) (Akz : Option Addr) (ckz : Nat) (Lz : Live) (pb : Nat), (0, 52, (.agg #[.int .i64 x.own.kind, .string x.own.name, .int .i64 x.own.mode, .int .i64 x.own.uid, .int .i64 x.own.gid, .int .i64 x.own.mtime, .slice Adx x.own.data.length cdx, .string x.own.target, .int .i64 x.own.major, .int .i64 x.own.minor, .slice Aax x.own.attrs.length cax, .slice Akx x.kids.length ckx] : Value)) ∈ E Adz cdz Aaz caz Akz ckz Lz pb := fun Adz cdz Aaz caz Akz ckz Lz pb => by rw [hE]; simp
          have m1 : ∀ (Adz : Option Addr) (cdz : Nat) (Aaz : Option Addr) (caz : Nat) (Akz : Option Addr) (ckz : Nat) (Lz : Live) (pb : Nat), (1, 53, (.slice (some ⟨r, 0, none⟩) xs.length cp : Value)) ∈ E Adz cdz Aaz caz Akz ckz Lz pb := fun Adz cdz Aaz caz Akz ckz Lz pb => by rw [hE]; simp
          have m2 : ∀ (Adz : Option Addr) (cdz : Nat) (Aaz : Option Addr) (caz : Nat) (Akz : Option Addr) (ckz : Nat) (Lz : Live) (pb : Nat), (2, 54, (.int .i64 k : Value)) ∈ E Adz cdz Aaz caz Akz ckz Lz pb := fun Adz cdz Aaz caz Akz ckz Lz pb => by rw [hE]; simp
          have m3 : ∀ (Adz : Option Addr) (cdz : Nat) (Aaz : Option Addr) (caz : Nat) (Akz : Option Addr) (ckz : Nat) (Lz : Live) (pb : Nat), (3, 55, (.pointer (some ⟨r, k, none⟩) : Value)) ∈ E Adz cdz Aaz caz Akz ckz Lz pb := fun Adz cdz Aaz caz Akz ckz Lz pb => by rw [hE]; simp
          have m4 : ∀ (Adz : Option Addr) (cdz : Nat) (Aaz : Option Addr) (caz : Nat) (Akz : Option Addr) (ckz : Nat) (Lz : Live) (pb : Nat), (4, 56, (.string q : Value)) ∈ E Adz cdz Aaz caz Akz ckz Lz pb := fun Adz cdz Aaz caz Akz ckz Lz pb => by rw [hE]; simp
          have m5 : ∀ (Adz : Option Addr) (cdz : Nat) (Aaz : Option Addr) (caz : Nat) (Akz : Option Addr) (ckz : Nat) (Lz : Live) (pb : Nat), (5, 57, (.tuple #[.agg #[.int .i64 z.own.kind, .string z.own.name, .int .i64 z.own.mode, .int .i64 z.own.uid, .int .i64 z.own.gid, .int .i64 z.own.mtime, .slice Adz z.own.data.length cdz, .string z.own.target, .int .i64 z.own.major, .int .i64 z.own.minor, .slice Aaz z.own.attrs.length caz, .slice Akz z.kids.length ckz], .int .i64 e1] : Value)) ∈ E Adz cdz Aaz caz Akz ckz Lz pb := fun Adz cdz Aaz caz Akz ckz Lz pb => by rw [hE]; simp
          have m6 : ∀ (Adz : Option Addr) (cdz : Nat) (Aaz : Option Addr) (caz : Nat) (Akz : Option Addr) (ckz : Nat) (Lz : Live) (pb : Nat), (6, 51, (.tuple #[.agg #[.int .i64 z.own.kind, .string z.own.name, .int .i64 z.own.mode, .int .i64 z.own.uid, .int .i64 z.own.gid, .int .i64 z.own.mtime, .slice Adz z.own.data.length cdz, .string z.own.target, .int .i64 z.own.major, .int .i64 z.own.minor, .slice Aaz z.own.attrs.length caz, .slice Akz z.kids.length ckz], .int .i64 e1] : Value)) ∈ E Adz cdz Aaz caz Akz ckz Lz pb := fun Adz cdz Aaz caz Akz ckz Lz pb => by rw [hE]; simp
          have m7 : ∀ (Adz : Option Addr) (cdz : Nat) (Aaz : Option Addr) (caz : Nat) (Akz : Option Addr) (ckz : Nat) (Lz : Live) (pb : Nat), (7, 58, (.agg #[.int .i64 z.own.kind, .string z.own.name, .int .i64 z.own.mode, .int .i64 z.own.uid, .int .i64 z.own.gid, .int .i64 z.own.mtime, .slice Adz z.own.data.length cdz, .string z.own.target, .int .i64 z.own.major, .int .i64 z.own.minor, .slice Aaz z.own.attrs.length caz, .slice Akz z.kids.length ckz] : Value)) ∈ E Adz cdz Aaz caz Akz ckz Lz pb := fun Adz cdz Aaz caz Akz ckz Lz pb => by rw [hE]; simp
          have m8 : ∀ (Adz : Option Addr) (cdz : Nat) (Aaz : Option Addr) (caz : Nat) (Akz : Option Addr) (ckz : Nat) (Lz : Live) (pb : Nat), (8, 59, (.int .i64 e1 : Value)) ∈ E Adz cdz Aaz caz Akz ckz Lz pb := fun Adz cdz Aaz caz Akz ckz Lz pb => by rw [hE]; simp
          have m9 : ∀ (Adz : Option Addr) (cdz : Nat) (Aaz : Option Addr) (caz : Nat) (Akz : Option Addr) (ckz : Nat) (Lz : Live) (pb : Nat), (9, 12, (.pointer (some ⟨pb, 0, none⟩) : Value)) ∈ E Adz cdz Aaz caz Akz ckz Lz pb := fun Adz cdz Aaz caz Akz ckz Lz pb => by rw [hE]; simp
          have m11 : ∀ (Adz : Option Addr) (cdz : Nat) (Aaz : Option Addr) (caz : Nat) (Akz : Option Addr) (ckz : Nat) (Lz : Live) (pb : Nat), (11, 13, (.int .i64 e1 : Value)) ∈ E Adz cdz Aaz caz Akz ckz Lz pb := fun Adz cdz Aaz caz Akz ckz Lz pb => by rw [hE]; simp
          have hn1 : ∀ (Adz : Option Addr) (cdz : Nat) (Aaz : Option Addr) (caz : Nat) (Akz : Option Addr) (ckz : Nat) (Lz : Live) (pb : Nat), ((E Adz cdz Aaz caz Akz ckz Lz pb).map fun t => t.1).Nodup := fun Adz cdz Aaz caz Akz ckz Lz pb => by rw [hE1]; decide
          have hn2 : ∀ (Adz : Option Addr) (cdz : Nat) (Aaz : Option Addr) (caz : Nat) (Akz : Option Addr) (ckz : Nat) (Lz : Live) (pb : Nat), ((E Adz cdz Aaz caz Akz ckz Lz pb).map fun t => t.2.1).Nodup := fun Adz cdz Aaz caz Akz ckz Lz pb => by rw [hE2]; decide
          have hlt : ∀ (Adz : Option Addr) (cdz : Nat) (Aaz : Option Addr) (caz : Nat) (Akz : Option Addr) (ckz : Nat) (Lz : Live) (pb : Nat), ∀ t ∈ E Adz cdz Aaz caz Akz ckz Lz pb, t.2.1 < l0.length := fun Adz cdz Aaz caz Akz ckz Lz pb => fun t ht => by
            have h1 : t.2.1 ∈ (E Adz cdz Aaz caz Akz ckz Lz pb).map fun t => t.2.1 := List.mem_map.2 ⟨t, ht, rfl⟩
            rw [hE2] at h1
            rw [hlen]
            simp only [List.mem_cons, List.mem_nil_iff, or_false] at h1
            omega
          have Xm0 := Lib.hid m0
          have Xm1 := Lib.hid m1
          have Xm2 := Lib.hid m2
          have Xm3 := Lib.hid m3
          have Xm4 := Lib.hid m4
          have Xm5 := Lib.hid m5
          have Xm6 := Lib.hid m6
          have Xm7 := Lib.hid m7
          have Xm8 := Lib.hid m8
          have Xm9 := Lib.hid m9
          have Xm11 := Lib.hid m11
          have Xhn1 := Lib.hid hn1; have Xhn2 := Lib.hid hn2; have Xhlt := Lib.hid hlt; have XhE1 := Lib.hid hE1; have XhE2 := Lib.hid hE2; have XhE := Lib.hid hE; have Xl0 := Lib.hid hl0
          clear m0 m1 m2 m3 m4 m5 m6 m7 m8 m9 m11 hn1 hn2 hlt hE1 hE2 hE hlen hl0
          refine wp_region_any (by kernel_rfl) ?_
          refine wpAny_inv2 (by kernel_rfl) (fun listed a' w' => ∃ (Adz : Option Addr) (cdz : Nat) (Aaz : Option Addr) (caz : Nat) (Akz : Option Addr) (ckz : Nat) (Lz : Live) (pb : Nat), Slots (E Adz cdz Aaz caz Akz ckz Lz pb) l0 listed a' ∧ (listed.getD 6 true = true → listed.getD 5 true = true) ∧ (listed.getD 7 true = true → listed.getD 6 true = true) ∧ (listed.getD 10 true = true → (∀ j, j < 10 → j ≠ 8 → listed.getD j true = true) ∧ (Bears 14 z (nodeV z.own (.slice Adz z.own.data.length cdz) (.slice Aaz z.own.attrs.length caz) (.slice Akz z.kids.length ckz)) L3 wr Lz w' ∧ w'.heap[pb]? = some (boxO z.own Adz cdz Aaz caz Akz z.kids.length ckz))) ∧ (listed.getD 10 true = false → Below wr.heap.size wr w' ∧ Ext L3 wr Lz w' ∧ (listed.getD 5 true = true → (nodeR 14).R Lz w' z (nodeV z.own (.slice Adz z.own.data.length cdz) (.slice Aaz z.own.attrs.length caz) (.slice Akz z.kids.length ckz))) ∧ (listed.getD 9 true = true → (w'.heap[pb]? = some zeroB ∧ wr.heap.size ≤ pb ∧ ∀ j, ¬ Lz pb j)))) ?step11 ?fin11 _ _ _ _ ?hs11 ?hf11 ?init11
          case hs11 => simp
          case hf11 => simp
          case init11 =>
            refine ⟨none, 0, none, 0, none, 0, L3, 0, ?_, fun h => absurd (show (Array.replicate 12 false).getD 6 true = true from h) (by decide), fun h => absurd (show (Array.replicate 12 false).getD 7 true = true from h) (by decide), fun h => absurd (show (Array.replicate 12 false).getD 10 true = true from h) (by decide), fun _ => ⟨(Below.refl _ _).drew, (Ext.refl HOq.out).drew, fun h => ?_, fun h => ?_⟩⟩
            · exact Slots.start (exp := E (none) (0) (none) (0) (none) (0) (L3) (0)) (l0 := l0) (m := 12) (fun t ht => by
                have h1 : t.1 ∈ (E (none) (0) (none) (0) (none) (0) (L3) (0)).map fun t => t.1 := List.mem_map.2 ⟨t, ht, rfl⟩
                rw [XhE1.out] at h1
                simp only [List.mem_cons, List.mem_nil_iff, or_false] at h1
                omega)
            · exact absurd (show (Array.replicate 12 false).getD 5 true = true from h) (by decide)
            · exact absurd (show (Array.replicate 12 false).getD 9 true = true from h) (by decide)
          case fin11 =>
            intro listed a' w7 hls hall ⟨Adz, cdz, Aaz, caz, Akz, ckz, Lz, pz, hS, hO0, hO1, hL, _⟩
            obtain ⟨_, hP, hPb⟩ := hL (hall 10 (by show 10 < 12; decide))
            have hf := hS.frame (fun t ht => hall _ (by
              have h1 : t.1 ∈ (E Adz cdz Aaz caz Akz ckz Lz pz).map fun t => t.1 := List.mem_map.2 ⟨t, ht, rfl⟩
              rw [XhE1.out] at h1
              simp only [List.mem_cons, List.mem_nil_iff, or_false] at h1
              show t.1 < 12
              omega)) (Xhn2.out Adz cdz Aaz caz Akz ckz Lz pz) (Xhlt.out Adz cdz Aaz caz Akz ckz Lz pz)
            rw [XhE.out, Xl0.out] at hf
            simp only [filled, List.foldl_cons, List.foldl_nil, List.set_cons_zero, List.set_cons_succ] at hf
            rw [hf]
            have HP7 := Lib.hid hP; have HPz := Lib.hid hPb
            have hpz : pz < w7.heap.size := (Array.getElem?_eq_some_iff.1 hPb).1
            have HOz : Hid (LOk Lz w7) := Lib.hid hP.ext.ok
            have HNq7 : Hid ((nodeR 13).R Lz w7 x (nodeV x.own (.slice Adx x.own.data.length cdx) (.slice Aax x.own.attrs.length cax) (.slice Akx x.kids.length ckx))) := Lib.hid ((nodeR 13).mono (Ext.sub HOq.out hP.ext) HNq.out)
            have hs7 := hP.ext.below.size
            have HCell7 : Hid (∀ w', Below w7.heap.size w7 w' → w'.cell? ⟨r, k, none⟩ = some (.string q)) := Lib.hid (fun w' hb => HCell.out w' (HP7.out.ext.below.trans (hb.mono hs7)))
            have HBx7 : Hid (∀ w', Below w7.heap.size w7 w' → w'.heap[w1.heap.size]? = some (boxO x.own Adx cdx Aax cax Akx x.kids.length ckx)) := Lib.hid (fun w' hb => HBx.out w' (HP7.out.ext.below.trans (hb.mono hs7)))
            clear hf hS hO0 hO1 hL hP hPb
            clear XhE XhE1 XhE2 Xhn1 Xhn2 Xhlt Xl0
            go_upto_region 12 with fail
            refine wp_named _ ?_
            intro l0 hl0
            obtain ⟨E, hE⟩ : ∃ E : Option Addr → Nat → Option Addr → Nat → Option Addr → Nat → Live → Nat → List (Nat × Nat × Value), E = fun Ady cdy Aay cay Aky cky Ly pb => [(0, 61, .agg #[.int .i64 x.own.kind, .string x.own.name, .int .i64 x.own.mode, .int .i64 x.own.uid, .int .i64 x.own.gid, .int .i64 x.own.mtime, .slice Adx x.own.data.length cdx, .string x.own.target, .int .i64 x.own.major, .int .i64 x.own.minor, .slice Aax x.own.attrs.length cax, .slice Akx x.kids.length ckx]), (1, 62, .slice (some ⟨r, 0, none⟩) xs.length cp), (2, 63, .int .i64 k), (3, 64, .pointer (some ⟨r, k, none⟩)), (4, 65, .string q), (5, 66, .tuple #[.agg #[.int .i64 y.own.kind, .string y.own.name, .int .i64 y.own.mode, .int .i64 y.own.uid, .int .i64 y.own.gid, .int .i64 y.own.mtime, .slice Ady y.own.data.length cdy, .string y.own.target, .int .i64 y.own.major, .int .i64 y.own.minor, .slice Aay y.own.attrs.length cay, .slice Aky y.kids.length cky], .bool b1]), (6, 60, .tuple #[.agg #[.int .i64 y.own.kind, .string y.own.name, .int .i64 y.own.mode, .int .i64 y.own.uid, .int .i64 y.own.gid, .int .i64 y.own.mtime, .slice Ady y.own.data.length cdy, .string y.own.target, .int .i64 y.own.major, .int .i64 y.own.minor, .slice Aay y.own.attrs.length cay, .slice Aky y.kids.length cky], .bool b1]), (7, 67, .agg #[.int .i64 y.own.kind, .string y.own.name, .int .i64 y.own.mode, .int .i64 y.own.uid, .int .i64 y.own.gid, .int .i64 y.own.mtime, .slice Ady y.own.data.length cdy, .string y.own.target, .int .i64 y.own.major, .int .i64 y.own.minor, .slice Aay y.own.attrs.length cay, .slice Aky y.kids.length cky]), (8, 68, .bool b1), (9, 14, .pointer (some ⟨pb, 0, none⟩)), (11, 15, .bool b1)] := ⟨_, rfl⟩
            have hlen : l0.length = 86 := by rw [hl0]; rfl
            have hE1 : ∀ (Ady : Option Addr) (cdy : Nat) (Aay : Option Addr) (cay : Nat) (Aky : Option Addr) (cky : Nat) (Ly : Live) (pb : Nat), (E Ady cdy Aay cay Aky cky Ly pb).map (fun t => t.1) = [0, 1, 2, 3, 4, 5, 6, 7, 8, 9, 11] := fun Ady cdy Aay cay Aky cky Ly pb => by rw [hE]; rfl
            have hE2 : ∀ (Ady : Option Addr) (cdy : Nat) (Aay : Option Addr) (cay : Nat) (Aky : Option Addr) (cky : Nat) (Ly : Live) (pb : Nat), (E Ady cdy Aay cay Aky cky Ly pb).map (fun t => t.2.1) = [61, 62, 63, 64, 65, 66, 60, 67, 68, 14, 15] := fun Ady cdy Aay cay Aky cky Ly pb => by rw [hE]; rfl
            have m0 : ∀ (Ady : Option Addr) (cdy : Nat) (Aay : Option Addr) (cay : Nat) (Aky : Option Addr) (cky : Nat) (Ly : Live) (pb : Nat), (0, 61, (.agg #[.int .i64 x.own.kind, .string x.own.name, .int .i64 x.own.mode, .int .i64 x.own.uid, .int .i64 x.own.gid, .int .i64 x.own.mtime, .slice Adx x.own.data.length cdx, .string x.own.target, .int .i64 x.own.major, .int .i64 x.own.minor, .slice Aax x.own.attrs.length cax, .slice Akx x.kids.length ckx] : Value)) ∈ E Ady cdy Aay cay Aky cky Ly pb := fun Ady cdy Aay cay Aky cky Ly pb => by rw [hE]; simp
            have m1 : ∀ (Ady : Option Addr) (cdy : Nat) (Aay : Option Addr) (cay : Nat) (Aky : Option Addr) (cky : Nat) (Ly : Live) (pb : Nat), (1, 62, (.slice (some ⟨r, 0, none⟩) xs.length cp : Value)) ∈ E Ady cdy Aay cay Aky cky Ly pb := fun Ady cdy Aay cay Aky cky Ly pb => by rw [hE]; simp
            have m2 : ∀ (Ady : Option Addr) (cdy : Nat) (Aay : Option Addr) (cay : Nat) (Aky : Option Addr) (cky : Nat) (Ly : Live) (pb : Nat), (2, 63, (.int .i64 k : Value)) ∈ E Ady cdy Aay cay Aky cky Ly pb := fun Ady cdy Aay cay Aky cky Ly pb => by rw [hE]; simp
            have m3 : ∀ (Ady : Option Addr) (cdy : Nat) (Aay : Option Addr) (cay : Nat) (Aky : Option Addr) (cky : Nat) (Ly : Live) (pb : Nat), (3, 64, (.pointer (some ⟨r, k, none⟩) : Value)) ∈ E Ady cdy Aay cay Aky cky Ly pb := fun Ady cdy Aay cay Aky cky Ly pb => by rw [hE]; simp
            have m4 : ∀ (Ady : Option Addr) (cdy : Nat) (Aay : Option Addr) (cay : Nat) (Aky : Option Addr) (cky : Nat) (Ly : Live) (pb : Nat), (4, 65, (.string q : Value)) ∈ E Ady cdy Aay cay Aky cky Ly pb := fun Ady cdy Aay cay Aky cky Ly pb => by rw [hE]; simp
            have m5 : ∀ (Ady : Option Addr) (cdy : Nat) (Aay : Option Addr) (cay : Nat) (Aky : Option Addr) (cky : Nat) (Ly : Live) (pb : Nat), (5, 66, (.tuple #[.agg #[.int .i64 y.own.kind, .string y.own.name, .int .i64 y.own.mode, .int .i64 y.own.uid, .int .i64 y.own.gid, .int .i64 y.own.mtime, .slice Ady y.own.data.length cdy, .string y.own.target, .int .i64 y.own.major, .int .i64 y.own.minor, .slice Aay y.own.attrs.length cay, .slice Aky y.kids.length cky], .bool b1] : Value)) ∈ E Ady cdy Aay cay Aky cky Ly pb := fun Ady cdy Aay cay Aky cky Ly pb => by rw [hE]; simp
            have m6 : ∀ (Ady : Option Addr) (cdy : Nat) (Aay : Option Addr) (cay : Nat) (Aky : Option Addr) (cky : Nat) (Ly : Live) (pb : Nat), (6, 60, (.tuple #[.agg #[.int .i64 y.own.kind, .string y.own.name, .int .i64 y.own.mode, .int .i64 y.own.uid, .int .i64 y.own.gid, .int .i64 y.own.mtime, .slice Ady y.own.data.length cdy, .string y.own.target, .int .i64 y.own.major, .int .i64 y.own.minor, .slice Aay y.own.attrs.length cay, .slice Aky y.kids.length cky], .bool b1] : Value)) ∈ E Ady cdy Aay cay Aky cky Ly pb := fun Ady cdy Aay cay Aky cky Ly pb => by rw [hE]; simp
            have m7 : ∀ (Ady : Option Addr) (cdy : Nat) (Aay : Option Addr) (cay : Nat) (Aky : Option Addr) (cky : Nat) (Ly : Live) (pb : Nat), (7, 67, (.agg #[.int .i64 y.own.kind, .string y.own.name, .int .i64 y.own.mode, .int .i64 y.own.uid, .int .i64 y.own.gid, .int .i64 y.own.mtime, .slice Ady y.own.data.length cdy, .string y.own.target, .int .i64 y.own.major, .int .i64 y.own.minor, .slice Aay y.own.attrs.length cay, .slice Aky y.kids.length cky] : Value)) ∈ E Ady cdy Aay cay Aky cky Ly pb := fun Ady cdy Aay cay Aky cky Ly pb => by rw [hE]; simp
            have m8 : ∀ (Ady : Option Addr) (cdy : Nat) (Aay : Option Addr) (cay : Nat) (Aky : Option Addr) (cky : Nat) (Ly : Live) (pb : Nat), (8, 68, (.bool b1 : Value)) ∈ E Ady cdy Aay cay Aky cky Ly pb := fun Ady cdy Aay cay Aky cky Ly pb => by rw [hE]; simp
            have m9 : ∀ (Ady : Option Addr) (cdy : Nat) (Aay : Option Addr) (cay : Nat) (Aky : Option Addr) (cky : Nat) (Ly : Live) (pb : Nat), (9, 14, (.pointer (some ⟨pb, 0, none⟩) : Value)) ∈ E Ady cdy Aay cay Aky cky Ly pb := fun Ady cdy Aay cay Aky cky Ly pb => by rw [hE]; simp
            have m11 : ∀ (Ady : Option Addr) (cdy : Nat) (Aay : Option Addr) (cay : Nat) (Aky : Option Addr) (cky : Nat) (Ly : Live) (pb : Nat), (11, 15, (.bool b1 : Value)) ∈ E Ady cdy Aay cay Aky cky Ly pb := fun Ady cdy Aay cay Aky cky Ly pb => by rw [hE]; simp
            have hn1 : ∀ (Ady : Option Addr) (cdy : Nat) (Aay : Option Addr) (cay : Nat) (Aky : Option Addr) (cky : Nat) (Ly : Live) (pb : Nat), ((E Ady cdy Aay cay Aky cky Ly pb).map fun t => t.1).Nodup := fun Ady cdy Aay cay Aky cky Ly pb => by rw [hE1]; decide
            have hn2 : ∀ (Ady : Option Addr) (cdy : Nat) (Aay : Option Addr) (cay : Nat) (Aky : Option Addr) (cky : Nat) (Ly : Live) (pb : Nat), ((E Ady cdy Aay cay Aky cky Ly pb).map fun t => t.2.1).Nodup := fun Ady cdy Aay cay Aky cky Ly pb => by rw [hE2]; decide
            have hlt : ∀ (Ady : Option Addr) (cdy : Nat) (Aay : Option Addr) (cay : Nat) (Aky : Option Addr) (cky : Nat) (Ly : Live) (pb : Nat), ∀ t ∈ E Ady cdy Aay cay Aky cky Ly pb, t.2.1 < l0.length := fun Ady cdy Aay cay Aky cky Ly pb => fun t ht => by
              have h1 : t.2.1 ∈ (E Ady cdy Aay cay Aky cky Ly pb).map fun t => t.2.1 := List.mem_map.2 ⟨t, ht, rfl⟩
              rw [hE2] at h1
              rw [hlen]
              simp only [List.mem_cons, List.mem_nil_iff, or_false] at h1
              omega
            have Xm0 := Lib.hid m0
            have Xm1 := Lib.hid m1
            have Xm2 := Lib.hid m2
            have Xm3 := Lib.hid m3
            have Xm4 := Lib.hid m4
            have Xm5 := Lib.hid m5
            have Xm6 := Lib.hid m6
            have Xm7 := Lib.hid m7
            have Xm8 := Lib.hid m8
            have Xm9 := Lib.hid m9
            have Xm11 := Lib.hid m11
            have Xhn1 := Lib.hid hn1; have Xhn2 := Lib.hid hn2; have Xhlt := Lib.hid hlt; have XhE1 := Lib.hid hE1; have XhE2 := Lib.hid hE2; have XhE := Lib.hid hE; have Xl0 := Lib.hid hl0
            clear m0 m1 m2 m3 m4 m5 m6 m7 m8 m9 m11 hn1 hn2 hlt hE1 hE2 hE hlen hl0
            refine wp_region_any (by kernel_rfl) ?_
            refine wpAny_inv2 (by kernel_rfl) (fun listed a' w' => ∃ (Ady : Option Addr) (cdy : Nat) (Aay : Option Addr) (cay : Nat) (Aky : Option Addr) (cky : Nat) (Ly : Live) (pb : Nat), Slots (E Ady cdy Aay cay Aky cky Ly pb) l0 listed a' ∧ (listed.getD 6 true = true → listed.getD 5 true = true) ∧ (listed.getD 7 true = true → listed.getD 6 true = true) ∧ (listed.getD 10 true = true → (∀ j, j < 10 → j ≠ 8 → listed.getD j true = true) ∧ (Bears 14 y (nodeV y.own (.slice Ady y.own.data.length cdy) (.slice Aay y.own.attrs.length cay) (.slice Aky y.kids.length cky)) Lz w7 Ly w' ∧ w'.heap[pb]? = some (boxO y.own Ady cdy Aay cay Aky y.kids.length cky))) ∧ (listed.getD 10 true = false → Below w7.heap.size w7 w' ∧ Ext Lz w7 Ly w' ∧ (listed.getD 5 true = true → (nodeR 14).R Ly w' y (nodeV y.own (.slice Ady y.own.data.length cdy) (.slice Aay y.own.attrs.length cay) (.slice Aky y.kids.length cky))) ∧ (listed.getD 9 true = true → (w'.heap[pb]? = some zeroB ∧ w7.heap.size ≤ pb ∧ ∀ j, ¬ Ly pb j)))) ?step12 ?fin12 _ _ _ _ ?hs12 ?hf12 ?init12
            case hs12 => simp
            case hf12 => simp
            case init12 =>
              refine ⟨none, 0, none, 0, none, 0, Lz, 0, ?_, fun h => absurd (show (Array.replicate 12 false).getD 6 true = true from h) (by decide), fun h => absurd (show (Array.replicate 12 false).getD 7 true = true from h) (by decide), fun h => absurd (show (Array.replicate 12 false).getD 10 true = true from h) (by decide), fun _ => ⟨(Below.refl _ _).drew, (Ext.refl HOz.out).drew, fun h => ?_, fun h => ?_⟩⟩
              · exact Slots.start (exp := E (none) (0) (none) (0) (none) (0) (Lz) (0)) (l0 := l0) (m := 12) (fun t ht => by
                  have h1 : t.1 ∈ (E (none) (0) (none) (0) (none) (0) (Lz) (0)).map fun t => t.1 := List.mem_map.2 ⟨t, ht, rfl⟩
                  rw [XhE1.out] at h1
                  simp only [List.mem_cons, List.mem_nil_iff, or_false] at h1
                  omega)
              · exact absurd (show (Array.replicate 12 false).getD 5 true = true from h) (by decide)
              · exact absurd (show (Array.replicate 12 false).getD 9 true = true from h) (by decide)
            case fin12 =>
              intro listed a' w8 hls hall ⟨Ady, cdy, Aay, cay, Aky, cky, Ly, py, hS, hO0, hO1, hL, _⟩
              obtain ⟨_, hP, hPb⟩ := hL (hall 10 (by show 10 < 12; decide))
              have hf := hS.frame (fun t ht => hall _ (by
                have h1 : t.1 ∈ (E Ady cdy Aay cay Aky cky Ly py).map fun t => t.1 := List.mem_map.2 ⟨t, ht, rfl⟩
                rw [XhE1.out] at h1
                simp only [List.mem_cons, List.mem_nil_iff, or_false] at h1
                show t.1 < 12
                omega)) (Xhn2.out Ady cdy Aay cay Aky cky Ly py) (Xhlt.out Ady cdy Aay cay Aky cky Ly py)
              rw [XhE.out, Xl0.out] at hf
              simp only [filled, List.foldl_cons, List.foldl_nil, List.set_cons_zero, List.set_cons_succ] at hf
              rw [hf]
              have HP8 := Lib.hid hP; have HPy := Lib.hid hPb
              have HPz8 := Lib.hid ((hP.ext.below.block _ hpz).trans HPz.out)
              have HNz8 := Lib.hid ((nodeR 14).mono (Ext.sub HOz.out hP.ext) HP7.out.node)
              have hs8 := hP.ext.below.size
              have HB8 : Hid (Below w6.heap.size w6 w8) := Lib.hid ((HB.out.trans (HP7.out.ext.below.mono hbs2)).trans (hP.ext.below.mono (by omega)))
              have HEq : Hid (eqB z.own y.own = true) := Lib.hid (eqB_true HA.out.own)
              clear hf hS hO0 hO1 hL hP hPb
              have hsm := HA.out.same
              clear HA HCell HBx HNq HOq HNq7 HCell7 HBx7
              rcases hsm with ⟨rfl, rfl⟩ | ⟨rfl, rfl⟩
              all_goals
                obtain ⟨n0, n1, n2, n3, n4, n5, n6, n7, n8, n9, n10, n11⟩ := twelve_box HPz8.out
                obtain ⟨p0, p1, p2, p3, p4, p5, p6, p7, p8, p9, p10, p11⟩ := twelve_box HPy.out
                go_wp2_with fail
                refine (sown_any 14 14 z y _ _ Ly Ly w8 HNz8.out HP8.out.node).mono ?_
                rintro e w9 ⟨rfl, x9⟩
                rw [HEq.out]
                have HB9 : Hid (Below w6.heap.size w6 w9) := Lib.hid (HB8.out.trans (x9.mono (by omega)))
                clear x9 n0 n1 n2 n3 n4 n5 n6 n7 n8 n9 n10 n11 p0 p1 p2 p3 p4 p5 p6 p7 p8 p9 p10 p11
                go_wp2
                go_roundw
                case rel => exact ⟨k + 1, by omega, by go_num, HB9⟩
                case measure => simp [intOf]; omega
            case step12 =>
              intro listed a' w' i hls hI hmem
              have hr := ready_of hls hmem
              have hi : i < 12 := hr.1
              have hcase : i = 0 ∨ i = 1 ∨ i = 2 ∨ i = 3 ∨ i = 4 ∨ i = 5 ∨ i = 6 ∨ i = 7 ∨ i = 8 ∨ i = 9 ∨ i = 10 ∨ i = 11 := by omega
              rcases hcase with rfl | rfl | rfl | rfl | rfl | rfl | rfl | rfl | rfl | rfl | rfl | rfl
              · obtain ⟨Ady, cdy, Aay, cay, Aky, cky, Ly, pb, hS, hO0, hO1, hL, hNo⟩ := hI
                have hl : listed.getD 10 true = false := by
                  cases h : listed.getD 10 true with
                  | false => rfl
                  | true => exact absurd ((hL h).1 0 (by decide) (by decide)) (by rw [hr.2.1]; decide)
                obtain ⟨hB, hA0, hF0, hF1⟩ := hNo hl
                obtain ⟨n0, n1, n2, n3, n4, n5, n6, n7, n8, n9, n10, n11⟩ := twelve_box (HBx7.out w' hB)
                have e7 := hS.at0 7 (.pointer (some ⟨w1.heap.size, 0, none⟩)) (by rw [XhE2.out]; decide) (by rw [Xl0.out]; rfl)
                refine wpOp_plain' rfl rfl fun K' hK => ?_
                go_simp
                exact hK _ _ ⟨Ady, cdy, Aay, cay, Aky, cky, Ly, pb, hS.put' (Xhn1.out Ady cdy Aay cay Aky cky Ly pb) (Xhn2.out Ady cdy Aay cay Aky cky Ly pb) (Xhlt.out Ady cdy Aay cay Aky cky Ly pb) (Xm0.out Ady cdy Aay cay Aky cky Ly pb), fun h => by rw [set_get (by decide)] at h ⊢; exact hO0 h, fun h => by rw [set_get (by decide)] at h ⊢; exact hO1 h, fun h => absurd h (by rw [set_get (by decide), hl]; decide), fun _ => ⟨hB, hA0, fun h => hF0 (by rwa [set_get (by decide)] at h), fun h => hF1 (by rwa [set_get (by decide)] at h)⟩⟩
              · obtain ⟨Ady, cdy, Aay, cay, Aky, cky, Ly, pb, hS, hO0, hO1, hL, hNo⟩ := hI
                have hl : listed.getD 10 true = false := by
                  cases h : listed.getD 10 true with
                  | false => rfl
                  | true => exact absurd ((hL h).1 1 (by decide) (by decide)) (by rw [hr.2.1]; decide)
                obtain ⟨hB, hA0, hF0, hF1⟩ := hNo hl
                have e9 := hS.at0 9 (.slice (some ⟨r, 0, none⟩) xs.length cp) (by rw [XhE2.out]; decide) (by rw [Xl0.out]; rfl)
                refine wpOp_plain' rfl rfl fun K' hK => ?_
                go_simp
                exact hK _ _ ⟨Ady, cdy, Aay, cay, Aky, cky, Ly, pb, hS.put' (Xhn1.out Ady cdy Aay cay Aky cky Ly pb) (Xhn2.out Ady cdy Aay cay Aky cky Ly pb) (Xhlt.out Ady cdy Aay cay Aky cky Ly pb) (Xm1.out Ady cdy Aay cay Aky cky Ly pb), fun h => by rw [set_get (by decide)] at h ⊢; exact hO0 h, fun h => by rw [set_get (by decide)] at h ⊢; exact hO1 h, fun h => absurd h (by rw [set_get (by decide), hl]; decide), fun _ => ⟨hB, hA0, fun h => hF0 (by rwa [set_get (by decide)] at h), fun h => hF1 (by rwa [set_get (by decide)] at h)⟩⟩
              · obtain ⟨Ady, cdy, Aay, cay, Aky, cky, Ly, pb, hS, hO0, hO1, hL, hNo⟩ := hI
                have hl : listed.getD 10 true = false := by
                  cases h : listed.getD 10 true with
                  | false => rfl
                  | true => exact absurd ((hL h).1 2 (by decide) (by decide)) (by rw [hr.2.1]; decide)
                obtain ⟨hB, hA0, hF0, hF1⟩ := hNo hl
                have e11 := hS.at0 11 (.int .i64 k) (by rw [XhE2.out]; decide) (by rw [Xl0.out]; rfl)
                refine wpOp_plain' rfl rfl fun K' hK => ?_
                go_simp
                exact hK _ _ ⟨Ady, cdy, Aay, cay, Aky, cky, Ly, pb, hS.put' (Xhn1.out Ady cdy Aay cay Aky cky Ly pb) (Xhn2.out Ady cdy Aay cay Aky cky Ly pb) (Xhlt.out Ady cdy Aay cay Aky cky Ly pb) (Xm2.out Ady cdy Aay cay Aky cky Ly pb), fun h => by rw [set_get (by decide)] at h ⊢; exact hO0 h, fun h => by rw [set_get (by decide)] at h ⊢; exact hO1 h, fun h => absurd h (by rw [set_get (by decide), hl]; decide), fun _ => ⟨hB, hA0, fun h => hF0 (by rwa [set_get (by decide)] at h), fun h => hF1 (by rwa [set_get (by decide)] at h)⟩⟩
              · obtain ⟨Ady, cdy, Aay, cay, Aky, cky, Ly, pb, hS, hO0, hO1, hL, hNo⟩ := hI
                have hl : listed.getD 10 true = false := by
                  cases h : listed.getD 10 true with
                  | false => rfl
                  | true => exact absurd ((hL h).1 3 (by decide) (by decide)) (by rw [hr.2.1]; decide)
                obtain ⟨hB, hA0, hF0, hF1⟩ := hNo hl
                have d1 := hr.2.2 _ rfl ⟨1, .data⟩ (by simp) rfl
                have e62 := hS.at_ (Xm1.out Ady cdy Aay cay Aky cky Ly pb) d1
                have d2 := hr.2.2 _ rfl ⟨2, .data⟩ (by simp) rfl
                have e63 := hS.at_ (Xm2.out Ady cdy Aay cay Aky cky Ly pb) d2
                refine wpOp_plain' rfl rfl fun K' hK => ?_
                go_simp
                exact hK _ _ ⟨Ady, cdy, Aay, cay, Aky, cky, Ly, pb, hS.put' (Xhn1.out Ady cdy Aay cay Aky cky Ly pb) (Xhn2.out Ady cdy Aay cay Aky cky Ly pb) (Xhlt.out Ady cdy Aay cay Aky cky Ly pb) (Xm3.out Ady cdy Aay cay Aky cky Ly pb), fun h => by rw [set_get (by decide)] at h ⊢; exact hO0 h, fun h => by rw [set_get (by decide)] at h ⊢; exact hO1 h, fun h => absurd h (by rw [set_get (by decide), hl]; decide), fun _ => ⟨hB, hA0, fun h => hF0 (by rwa [set_get (by decide)] at h), fun h => hF1 (by rwa [set_get (by decide)] at h)⟩⟩
              · obtain ⟨Ady, cdy, Aay, cay, Aky, cky, Ly, pb, hS, hO0, hO1, hL, hNo⟩ := hI
                have hl : listed.getD 10 true = false := by
                  cases h : listed.getD 10 true with
                  | false => rfl
                  | true => exact absurd ((hL h).1 4 (by decide) (by decide)) (by rw [hr.2.1]; decide)
                obtain ⟨hB, hA0, hF0, hF1⟩ := hNo hl
                have c0 := HCell7.out w' hB
                have d3 := hr.2.2 _ rfl ⟨3, .data⟩ (by simp) rfl
                have e64 := hS.at_ (Xm3.out Ady cdy Aay cay Aky cky Ly pb) d3
                refine wpOp_plain' rfl rfl fun K' hK => ?_
                go_simp
                exact hK _ _ ⟨Ady, cdy, Aay, cay, Aky, cky, Ly, pb, hS.put' (Xhn1.out Ady cdy Aay cay Aky cky Ly pb) (Xhn2.out Ady cdy Aay cay Aky cky Ly pb) (Xhlt.out Ady cdy Aay cay Aky cky Ly pb) (Xm4.out Ady cdy Aay cay Aky cky Ly pb), fun h => by rw [set_get (by decide)] at h ⊢; exact hO0 h, fun h => by rw [set_get (by decide)] at h ⊢; exact hO1 h, fun h => absurd h (by rw [set_get (by decide), hl]; decide), fun _ => ⟨hB, hA0, fun h => hF0 (by rwa [set_get (by decide)] at h), fun h => hF1 (by rwa [set_get (by decide)] at h)⟩⟩
              · obtain ⟨Ady, cdy, Aay, cay, Aky, cky, Ly, pb, hS, hO0, hO1, hL, hNo⟩ := hI
                have hl : listed.getD 10 true = false := by
                  cases h : listed.getD 10 true with
                  | false => rfl
                  | true => exact absurd ((hL h).1 5 (by decide) (by decide)) (by rw [hr.2.1]; decide)
                obtain ⟨hB, hA0, hF0, hF1⟩ := hNo hl
                have d0 := hr.2.2 _ rfl ⟨0, .data⟩ (by simp) rfl
                have e61 := hS.at_ (Xm0.out Ady cdy Aay cay Aky cky Ly pb) d0
                have d4 := hr.2.2 _ rfl ⟨4, .data⟩ (by simp) rfl
                have e65 := hS.at_ (Xm4.out Ady cdy Aay cay Aky cky Ly pb) d4
                refine wpOp_plain' rfl rfl fun K' hK => ?_
                go_simp
                refine (HA.out.ref Ly w' ((nodeR 13).mono (Ext.sub HOz.out hA0) HNq7.out) hA0.ok).mono ?_
                rintro e w1' ⟨cs', Ly', rfl, hz', hX'⟩
                obtain ⟨m', Ady', cdy', Aay', cay', Aky', cky', _, rfl, _, _, _, _, _, _, _⟩ := node_open hz'
                have g6 : listed.getD 6 true = false := by
                  cases h : listed.getD 6 true with
                  | false => rfl
                  | true => exact absurd (hO0 h) (by rw [hr.2.1]; decide)
                have g7 : listed.getD 7 true = false := by
                  cases h : listed.getD 7 true with
                  | false => rfl
                  | true => exact absurd (hO0 (hO1 h)) (by rw [hr.2.1]; decide)
                have hS2 : Slots (E Ady' cdy' Aay' cay' Aky' cky' Ly' pb) l0 listed a' := by
                  refine hS.turnM (by rw [XhE2.out, XhE2.out]) (fun t ht => ?_)
                  rw [XhE.out] at ht ⊢
                  simp only [List.mem_cons, List.mem_nil_iff, or_false] at ht
                  rcases ht with rfl | rfl | rfl | rfl | rfl | rfl | rfl | rfl | rfl | rfl | rfl
                  · exact .inl (by simp)
                  · exact .inl (by simp)
                  · exact .inl (by simp)
                  · exact .inl (by simp)
                  · exact .inl (by simp)
                  · exact .inr hr.2.1
                  · exact .inr g6
                  · exact .inr g7
                  · exact .inl (by simp)
                  · exact .inl (by simp)
                  · exact .inl (by simp)
                exact hK _ _ ⟨Ady', cdy', Aay', cay', Aky', cky', Ly', pb, hS2.put' (Xhn1.out Ady' cdy' Aay' cay' Aky' cky' Ly' pb) (Xhn2.out Ady' cdy' Aay' cay' Aky' cky' Ly' pb) (Xhlt.out Ady' cdy' Aay' cay' Aky' cky' Ly' pb) (Xm5.out Ady' cdy' Aay' cay' Aky' cky' Ly' pb), fun _ => set_self (by rw [hls]; show 5 < 12; decide), fun h => by rw [set_get (by decide)] at h ⊢; exact hO1 h, fun h => absurd h (by rw [set_get (by decide), hl]; decide), fun _ => ⟨hB.trans (hX'.below.mono hB.size), hA0.trans hX', fun _ => hz', fun h => (fun hF : _ ∧ _ ∧ _ => ⟨(hX'.below.block _ (Array.getElem?_eq_some_iff.1 hF.1).1).trans hF.1, hF.2.1, Ext.not_live hX' (Array.getElem?_eq_some_iff.1 hF.1).1 hF.2.2⟩) (hF1 (by rwa [set_get (by decide)] at h))⟩⟩
              · obtain ⟨Ady, cdy, Aay, cay, Aky, cky, Ly, pb, hS, hO0, hO1, hL, hNo⟩ := hI
                have hl : listed.getD 10 true = false := by
                  cases h : listed.getD 10 true with
                  | false => rfl
                  | true => exact absurd ((hL h).1 6 (by decide) (by decide)) (by rw [hr.2.1]; decide)
                obtain ⟨hB, hA0, hF0, hF1⟩ := hNo hl
                have d5 := hr.2.2 _ rfl ⟨5, .data⟩ (by simp) rfl
                have e66 := hS.at_ (Xm5.out Ady cdy Aay cay Aky cky Ly pb) d5
                refine wpOp_plain' rfl rfl fun K' hK => ?_
                go_simp
                exact hK _ _ ⟨Ady, cdy, Aay, cay, Aky, cky, Ly, pb, hS.put' (Xhn1.out Ady cdy Aay cay Aky cky Ly pb) (Xhn2.out Ady cdy Aay cay Aky cky Ly pb) (Xhlt.out Ady cdy Aay cay Aky cky Ly pb) (Xm6.out Ady cdy Aay cay Aky cky Ly pb), fun _ => by rw [set_get (by decide)]; exact hr.2.2 _ rfl ⟨5, .data⟩ (by simp) rfl, fun _ => set_self (by rw [hls]; show 6 < 12; decide), fun h => absurd h (by rw [set_get (by decide), hl]; decide), fun _ => ⟨hB, hA0, fun h => hF0 (by rwa [set_get (by decide)] at h), fun h => hF1 (by rwa [set_get (by decide)] at h)⟩⟩
              · obtain ⟨Ady, cdy, Aay, cay, Aky, cky, Ly, pb, hS, hO0, hO1, hL, hNo⟩ := hI
                have hl : listed.getD 10 true = false := by
                  cases h : listed.getD 10 true with
                  | false => rfl
                  | true => exact absurd ((hL h).1 7 (by decide) (by decide)) (by rw [hr.2.1]; decide)
                obtain ⟨hB, hA0, hF0, hF1⟩ := hNo hl
                have d6 := hr.2.2 _ rfl ⟨6, .data⟩ (by simp) rfl
                have e60 := hS.at_ (Xm6.out Ady cdy Aay cay Aky cky Ly pb) d6
                refine wpOp_plain' rfl rfl fun K' hK => ?_
                go_simp
                exact hK _ _ ⟨Ady, cdy, Aay, cay, Aky, cky, Ly, pb, hS.put' (Xhn1.out Ady cdy Aay cay Aky cky Ly pb) (Xhn2.out Ady cdy Aay cay Aky cky Ly pb) (Xhlt.out Ady cdy Aay cay Aky cky Ly pb) (Xm7.out Ady cdy Aay cay Aky cky Ly pb), fun h => by rw [set_get (by decide)] at h ⊢; exact hO0 h, fun _ => by rw [set_get (by decide)]; exact hr.2.2 _ rfl ⟨6, .data⟩ (by simp) rfl, fun h => absurd h (by rw [set_get (by decide), hl]; decide), fun _ => ⟨hB, hA0, fun h => hF0 (by rwa [set_get (by decide)] at h), fun h => hF1 (by rwa [set_get (by decide)] at h)⟩⟩
              · obtain ⟨Ady, cdy, Aay, cay, Aky, cky, Ly, pb, hS, hO0, hO1, hL, hNo⟩ := hI
                have d6 := hr.2.2 _ rfl ⟨6, .data⟩ (by simp) rfl
                have e60 := hS.at_ (Xm6.out Ady cdy Aay cay Aky cky Ly pb) d6
                refine wpOp_plain' rfl rfl fun K' hK => ?_
                go_simp
                exact hK _ _ ⟨Ady, cdy, Aay, cay, Aky, cky, Ly, pb, hS.put' (Xhn1.out Ady cdy Aay cay Aky cky Ly pb) (Xhn2.out Ady cdy Aay cay Aky cky Ly pb) (Xhlt.out Ady cdy Aay cay Aky cky Ly pb) (Xm8.out Ady cdy Aay cay Aky cky Ly pb), fun h => by rw [set_get (by decide)] at h ⊢; exact hO0 h, fun h => by rw [set_get (by decide)] at h ⊢; exact hO1 h, fun h => (fun hh => ⟨fun j hj hne8 => by rw [set_get (by omega)]; exact hh.1 j hj hne8, hh.2⟩) (hL (by rwa [set_get (by decide)] at h)), fun h => by obtain ⟨hB, hA0, hF0, hF1⟩ := hNo (by rwa [set_get (by decide)] at h); exact ⟨hB, hA0, fun h => hF0 (by rwa [set_get (by decide)] at h), fun h => hF1 (by rwa [set_get (by decide)] at h)⟩⟩
              · obtain ⟨Ady, cdy, Aay, cay, Aky, cky, Ly, pb, hS, hO0, hO1, hL, hNo⟩ := hI
                have hl : listed.getD 10 true = false := by
                  cases h : listed.getD 10 true with
                  | false => rfl
                  | true => exact absurd ((hL h).1 9 (by decide) (by decide)) (by rw [hr.2.1]; decide)
                obtain ⟨hB, hA0, hF0, hF1⟩ := hNo hl
                refine wpOp_plain' rfl rfl fun K' hK => ?_
                go_simp
                skip
                have hS2 : Slots (E Ady cdy Aay cay Aky cky Ly w'.heap.size) l0 listed a' := by
                  rw [XhE.out] at hS ⊢
                  exact Slots.turn1 (P := [(0, 61, .agg #[.int .i64 x.own.kind, .string x.own.name, .int .i64 x.own.mode, .int .i64 x.own.uid, .int .i64 x.own.gid, .int .i64 x.own.mtime, .slice Adx x.own.data.length cdx, .string x.own.target, .int .i64 x.own.major, .int .i64 x.own.minor, .slice Aax x.own.attrs.length cax, .slice Akx x.kids.length ckx]), (1, 62, .slice (some ⟨r, 0, none⟩) xs.length cp), (2, 63, .int .i64 k), (3, 64, .pointer (some ⟨r, k, none⟩)), (4, 65, .string q), (5, 66, .tuple #[.agg #[.int .i64 y.own.kind, .string y.own.name, .int .i64 y.own.mode, .int .i64 y.own.uid, .int .i64 y.own.gid, .int .i64 y.own.mtime, .slice Ady y.own.data.length cdy, .string y.own.target, .int .i64 y.own.major, .int .i64 y.own.minor, .slice Aay y.own.attrs.length cay, .slice Aky y.kids.length cky], .bool b1]), (6, 60, .tuple #[.agg #[.int .i64 y.own.kind, .string y.own.name, .int .i64 y.own.mode, .int .i64 y.own.uid, .int .i64 y.own.gid, .int .i64 y.own.mtime, .slice Ady y.own.data.length cdy, .string y.own.target, .int .i64 y.own.major, .int .i64 y.own.minor, .slice Aay y.own.attrs.length cay, .slice Aky y.kids.length cky], .bool b1]), (7, 67, .agg #[.int .i64 y.own.kind, .string y.own.name, .int .i64 y.own.mode, .int .i64 y.own.uid, .int .i64 y.own.gid, .int .i64 y.own.mtime, .slice Ady y.own.data.length cdy, .string y.own.target, .int .i64 y.own.major, .int .i64 y.own.minor, .slice Aay y.own.attrs.length cay, .slice Aky y.kids.length cky]), (8, 68, .bool b1)]) (Q := [(11, 15, .bool b1)]) hS hr.2.1
                exact hK _ _ ⟨Ady, cdy, Aay, cay, Aky, cky, Ly, w'.heap.size, hS2.put' (Xhn1.out Ady cdy Aay cay Aky cky Ly w'.heap.size) (Xhn2.out Ady cdy Aay cay Aky cky Ly w'.heap.size) (Xhlt.out Ady cdy Aay cay Aky cky Ly w'.heap.size) (Xm9.out Ady cdy Aay cay Aky cky Ly w'.heap.size), fun h => by rw [set_get (by decide)] at h ⊢; exact hO0 h, fun h => by rw [set_get (by decide)] at h ⊢; exact hO1 h, fun h => absurd h (by rw [set_get (by decide), hl]; decide), fun _ => ⟨hB.alloc hB.size _, (hA0).trans (Ext.of_below (hA0).ok ((Below.refl w'.heap.size w').alloc (Nat.le_refl _) zeroB)), fun h => (nodeR 14).mono (sub_same ((Below.refl w'.heap.size w').alloc (Nat.le_refl _) zeroB)) (hF0 (by rwa [set_get (by decide)] at h)), fun _ => ⟨heap_alloc_new w' zeroB, hB.size, not_live hA0.ok (Nat.le_refl _)⟩⟩⟩
              · obtain ⟨Ady, cdy, Aay, cay, Aky, cky, Ly, pb, hS, hO0, hO1, hL, hNo⟩ := hI
                have hl : listed.getD 10 true = false := hr.2.1
                obtain ⟨hB, hA0, hF0, hF1⟩ := hNo hl
                have d9 := hr.2.2 _ rfl ⟨9, .data⟩ (by simp) rfl
                have e14 := hS.at_ (Xm9.out Ady cdy Aay cay Aky cky Ly pb) d9
                have d7 := hr.2.2 _ rfl ⟨7, .data⟩ (by simp) rfl
                have e67 := hS.at_ (Xm7.out Ady cdy Aay cay Aky cky Ly pb) d7
                refine wpOp_plain' rfl rfl fun K' hK => ?_
                have hZ := hF1 (hr.2.2 _ rfl ⟨9, .data⟩ (by simp) rfl)
                have hNz := hF0 (hr.2.2 _ rfl ⟨5, .phase⟩ (by simp) rfl)
                obtain ⟨p0, p1, p2, p3, p4, p5, p6, p7, p8, p9, p10, p11⟩ := twelve hZ.1
                obtain ⟨q0, q1, q2, q3, q4, q5, q6, q7, q8, q9, q10, q11⟩ := twelve_free hZ.1
                go_simp
                have hBr : Bears 14 y (nodeV y.own (.slice Ady y.own.data.length cdy) (.slice Aay y.own.attrs.length cay) (.slice Aky y.kids.length cky)) Lz w7 Ly w' := ⟨hA0, hNz⟩
                have hall2 : ∀ j, j < 10 → j ≠ 8 → (listed.setIfInBounds 10 true).getD j true = true := fun j hj hne8 => by
                  rw [set_get (by omega)]
                  have hc : j = 0 ∨ j = 1 ∨ j = 2 ∨ j = 3 ∨ j = 4 ∨ j = 5 ∨ j = 6 ∨ j = 7 ∨ j = 8 ∨ j = 9 := by omega
                  rcases hc with rfl | rfl | rfl | rfl | rfl | rfl | rfl | rfl | rfl | rfl
                  · exact hr.2.2 _ rfl ⟨0, .phase⟩ (by simp) rfl
                  · exact hr.2.2 _ rfl ⟨1, .phase⟩ (by simp) rfl
                  · exact hr.2.2 _ rfl ⟨2, .phase⟩ (by simp) rfl
                  · exact hr.2.2 _ rfl ⟨3, .phase⟩ (by simp) rfl
                  · exact hr.2.2 _ rfl ⟨4, .phase⟩ (by simp) rfl
                  · exact hr.2.2 _ rfl ⟨5, .phase⟩ (by simp) rfl
                  · exact hr.2.2 _ rfl ⟨6, .phase⟩ (by simp) rfl
                  · exact hr.2.2 _ rfl ⟨7, .data⟩ (by simp) rfl
                  · exact absurd rfl hne8
                  · exact hr.2.2 _ rfl ⟨9, .data⟩ (by simp) rfl
                exact hK _ _ ⟨Ady, cdy, Aay, cay, Aky, cky, Ly, pb, hS.skip' (v := undef) (XhE1.out Ady cdy Aay cay Aky cky Ly pb) (by decide), fun h => by rw [set_get (by decide)] at h ⊢; exact hO0 h, fun h => by rw [set_get (by decide)] at h ⊢; exact hO1 h, fun _ => ⟨hall2, ⟨by repeat (first | (with_reducible refine Bears.set ?_ hZ.2.1 hZ.2.2 _ _) | (with_reducible exact hBr)), fill12 hZ.1 _ _ _ _ _ _ _ _ _ _ _ _⟩⟩, fun h => absurd (show (listed.setIfInBounds 10 true).getD 10 true = false from h) (by rw [set_self (by rw [hls]; show 10 < 12; decide)]; decide)⟩
              · obtain ⟨Ady, cdy, Aay, cay, Aky, cky, Ly, pb, hS, hO0, hO1, hL, hNo⟩ := hI
                have dl := hr.2.2 _ rfl ⟨10, .phase⟩ (by simp) rfl
                obtain ⟨hall0, hP0⟩ := hL dl
                have d8 := hr.2.2 _ rfl ⟨8, .data⟩ (by simp) rfl
                have e68 := hS.at_ (Xm8.out Ady cdy Aay cay Aky cky Ly pb) d8
                refine wpOp_plain' rfl rfl fun K' hK => ?_
                go_simp
                exact hK _ _ ⟨Ady, cdy, Aay, cay, Aky, cky, Ly, pb, hS.put' (Xhn1.out Ady cdy Aay cay Aky cky Ly pb) (Xhn2.out Ady cdy Aay cay Aky cky Ly pb) (Xhlt.out Ady cdy Aay cay Aky cky Ly pb) (Xm11.out Ady cdy Aay cay Aky cky Ly pb), fun h => by rw [set_get (by decide)] at h ⊢; exact hO0 h, fun h => by rw [set_get (by decide)] at h ⊢; exact hO1 h, fun _ => ⟨fun j hj hne8 => by rw [set_get (by omega)]; exact hall0 j hj hne8, hP0⟩, fun h => absurd h (by rw [set_get (by decide), dl]; decide)⟩
          case step11 =>
            intro listed a' w' i hls hI hmem
            have hr := ready_of hls hmem
            have hi : i < 12 := hr.1
            have hcase : i = 0 ∨ i = 1 ∨ i = 2 ∨ i = 3 ∨ i = 4 ∨ i = 5 ∨ i = 6 ∨ i = 7 ∨ i = 8 ∨ i = 9 ∨ i = 10 ∨ i = 11 := by omega
            rcases hcase with rfl | rfl | rfl | rfl | rfl | rfl | rfl | rfl | rfl | rfl | rfl | rfl
            · obtain ⟨Adz, cdz, Aaz, caz, Akz, ckz, Lz, pb, hS, hO0, hO1, hL, hNo⟩ := hI
              have hl : listed.getD 10 true = false := by
                cases h : listed.getD 10 true with
                | false => rfl
                | true => exact absurd ((hL h).1 0 (by decide) (by decide)) (by rw [hr.2.1]; decide)
              obtain ⟨hB, hA0, hF0, hF1⟩ := hNo hl
              obtain ⟨n0, n1, n2, n3, n4, n5, n6, n7, n8, n9, n10, n11⟩ := twelve_box (HBx.out w' hB)
              have e7 := hS.at0 7 (.pointer (some ⟨w1.heap.size, 0, none⟩)) (by rw [XhE2.out]; decide) (by rw [Xl0.out]; rfl)
              refine wpOp_plain' rfl rfl fun K' hK => ?_
              go_simp
              exact hK _ _ ⟨Adz, cdz, Aaz, caz, Akz, ckz, Lz, pb, hS.put' (Xhn1.out Adz cdz Aaz caz Akz ckz Lz pb) (Xhn2.out Adz cdz Aaz caz Akz ckz Lz pb) (Xhlt.out Adz cdz Aaz caz Akz ckz Lz pb) (Xm0.out Adz cdz Aaz caz Akz ckz Lz pb), fun h => by rw [set_get (by decide)] at h ⊢; exact hO0 h, fun h => by rw [set_get (by decide)] at h ⊢; exact hO1 h, fun h => absurd h (by rw [set_get (by decide), hl]; decide), fun _ => ⟨hB, hA0, fun h => hF0 (by rwa [set_get (by decide)] at h), fun h => hF1 (by rwa [set_get (by decide)] at h)⟩⟩
            · obtain ⟨Adz, cdz, Aaz, caz, Akz, ckz, Lz, pb, hS, hO0, hO1, hL, hNo⟩ := hI
              have hl : listed.getD 10 true = false := by
                cases h : listed.getD 10 true with
                | false => rfl
                | true => exact absurd ((hL h).1 1 (by decide) (by decide)) (by rw [hr.2.1]; decide)
              obtain ⟨hB, hA0, hF0, hF1⟩ := hNo hl
              have e9 := hS.at0 9 (.slice (some ⟨r, 0, none⟩) xs.length cp) (by rw [XhE2.out]; decide) (by rw [Xl0.out]; rfl)
              refine wpOp_plain' rfl rfl fun K' hK => ?_
              go_simp
              exact hK _ _ ⟨Adz, cdz, Aaz, caz, Akz, ckz, Lz, pb, hS.put' (Xhn1.out Adz cdz Aaz caz Akz ckz Lz pb) (Xhn2.out Adz cdz Aaz caz Akz ckz Lz pb) (Xhlt.out Adz cdz Aaz caz Akz ckz Lz pb) (Xm1.out Adz cdz Aaz caz Akz ckz Lz pb), fun h => by rw [set_get (by decide)] at h ⊢; exact hO0 h, fun h => by rw [set_get (by decide)] at h ⊢; exact hO1 h, fun h => absurd h (by rw [set_get (by decide), hl]; decide), fun _ => ⟨hB, hA0, fun h => hF0 (by rwa [set_get (by decide)] at h), fun h => hF1 (by rwa [set_get (by decide)] at h)⟩⟩
            · obtain ⟨Adz, cdz, Aaz, caz, Akz, ckz, Lz, pb, hS, hO0, hO1, hL, hNo⟩ := hI
              have hl : listed.getD 10 true = false := by
                cases h : listed.getD 10 true with
                | false => rfl
                | true => exact absurd ((hL h).1 2 (by decide) (by decide)) (by rw [hr.2.1]; decide)
              obtain ⟨hB, hA0, hF0, hF1⟩ := hNo hl
              have e11 := hS.at0 11 (.int .i64 k) (by rw [XhE2.out]; decide) (by rw [Xl0.out]; rfl)
              refine wpOp_plain' rfl rfl fun K' hK => ?_
              go_simp
              exact hK _ _ ⟨Adz, cdz, Aaz, caz, Akz, ckz, Lz, pb, hS.put' (Xhn1.out Adz cdz Aaz caz Akz ckz Lz pb) (Xhn2.out Adz cdz Aaz caz Akz ckz Lz pb) (Xhlt.out Adz cdz Aaz caz Akz ckz Lz pb) (Xm2.out Adz cdz Aaz caz Akz ckz Lz pb), fun h => by rw [set_get (by decide)] at h ⊢; exact hO0 h, fun h => by rw [set_get (by decide)] at h ⊢; exact hO1 h, fun h => absurd h (by rw [set_get (by decide), hl]; decide), fun _ => ⟨hB, hA0, fun h => hF0 (by rwa [set_get (by decide)] at h), fun h => hF1 (by rwa [set_get (by decide)] at h)⟩⟩
            · obtain ⟨Adz, cdz, Aaz, caz, Akz, ckz, Lz, pb, hS, hO0, hO1, hL, hNo⟩ := hI
              have hl : listed.getD 10 true = false := by
                cases h : listed.getD 10 true with
                | false => rfl
                | true => exact absurd ((hL h).1 3 (by decide) (by decide)) (by rw [hr.2.1]; decide)
              obtain ⟨hB, hA0, hF0, hF1⟩ := hNo hl
              have d1 := hr.2.2 _ rfl ⟨1, .data⟩ (by simp) rfl
              have e53 := hS.at_ (Xm1.out Adz cdz Aaz caz Akz ckz Lz pb) d1
              have d2 := hr.2.2 _ rfl ⟨2, .data⟩ (by simp) rfl
              have e54 := hS.at_ (Xm2.out Adz cdz Aaz caz Akz ckz Lz pb) d2
              refine wpOp_plain' rfl rfl fun K' hK => ?_
              go_simp
              exact hK _ _ ⟨Adz, cdz, Aaz, caz, Akz, ckz, Lz, pb, hS.put' (Xhn1.out Adz cdz Aaz caz Akz ckz Lz pb) (Xhn2.out Adz cdz Aaz caz Akz ckz Lz pb) (Xhlt.out Adz cdz Aaz caz Akz ckz Lz pb) (Xm3.out Adz cdz Aaz caz Akz ckz Lz pb), fun h => by rw [set_get (by decide)] at h ⊢; exact hO0 h, fun h => by rw [set_get (by decide)] at h ⊢; exact hO1 h, fun h => absurd h (by rw [set_get (by decide), hl]; decide), fun _ => ⟨hB, hA0, fun h => hF0 (by rwa [set_get (by decide)] at h), fun h => hF1 (by rwa [set_get (by decide)] at h)⟩⟩
            · obtain ⟨Adz, cdz, Aaz, caz, Akz, ckz, Lz, pb, hS, hO0, hO1, hL, hNo⟩ := hI
              have hl : listed.getD 10 true = false := by
                cases h : listed.getD 10 true with
                | false => rfl
                | true => exact absurd ((hL h).1 4 (by decide) (by decide)) (by rw [hr.2.1]; decide)
              obtain ⟨hB, hA0, hF0, hF1⟩ := hNo hl
              have c0 := HCell.out w' hB
              have d3 := hr.2.2 _ rfl ⟨3, .data⟩ (by simp) rfl
              have e55 := hS.at_ (Xm3.out Adz cdz Aaz caz Akz ckz Lz pb) d3
              refine wpOp_plain' rfl rfl fun K' hK => ?_
              go_simp
              exact hK _ _ ⟨Adz, cdz, Aaz, caz, Akz, ckz, Lz, pb, hS.put' (Xhn1.out Adz cdz Aaz caz Akz ckz Lz pb) (Xhn2.out Adz cdz Aaz caz Akz ckz Lz pb) (Xhlt.out Adz cdz Aaz caz Akz ckz Lz pb) (Xm4.out Adz cdz Aaz caz Akz ckz Lz pb), fun h => by rw [set_get (by decide)] at h ⊢; exact hO0 h, fun h => by rw [set_get (by decide)] at h ⊢; exact hO1 h, fun h => absurd h (by rw [set_get (by decide), hl]; decide), fun _ => ⟨hB, hA0, fun h => hF0 (by rwa [set_get (by decide)] at h), fun h => hF1 (by rwa [set_get (by decide)] at h)⟩⟩
            · obtain ⟨Adz, cdz, Aaz, caz, Akz, ckz, Lz, pb, hS, hO0, hO1, hL, hNo⟩ := hI
              have hl : listed.getD 10 true = false := by
                cases h : listed.getD 10 true with
                | false => rfl
                | true => exact absurd ((hL h).1 5 (by decide) (by decide)) (by rw [hr.2.1]; decide)
              obtain ⟨hB, hA0, hF0, hF1⟩ := hNo hl
              have d0 := hr.2.2 _ rfl ⟨0, .data⟩ (by simp) rfl
              have e52 := hS.at_ (Xm0.out Adz cdz Aaz caz Akz ckz Lz pb) d0
              have d4 := hr.2.2 _ rfl ⟨4, .data⟩ (by simp) rfl
              have e56 := hS.at_ (Xm4.out Adz cdz Aaz caz Akz ckz Lz pb) d4
              refine wpOp_plain' rfl rfl fun K' hK => ?_
              go_simp
              refine (HA.out.code Lz w' ((nodeR 13).mono (Ext.sub HOq.out hA0) HNq.out) hA0.ok).mono ?_
              rintro e w1' ⟨cs', Lz', rfl, hz', hX'⟩
              obtain ⟨m', Adz', cdz', Aaz', caz', Akz', ckz', _, rfl, _, _, _, _, _, _, _⟩ := node_open hz'
              have g6 : listed.getD 6 true = false := by
                cases h : listed.getD 6 true with
                | false => rfl
                | true => exact absurd (hO0 h) (by rw [hr.2.1]; decide)
              have g7 : listed.getD 7 true = false := by
                cases h : listed.getD 7 true with
                | false => rfl
                | true => exact absurd (hO0 (hO1 h)) (by rw [hr.2.1]; decide)
              have hS2 : Slots (E Adz' cdz' Aaz' caz' Akz' ckz' Lz' pb) l0 listed a' := by
                refine hS.turnM (by rw [XhE2.out, XhE2.out]) (fun t ht => ?_)
                rw [XhE.out] at ht ⊢
                simp only [List.mem_cons, List.mem_nil_iff, or_false] at ht
                rcases ht with rfl | rfl | rfl | rfl | rfl | rfl | rfl | rfl | rfl | rfl | rfl
                · exact .inl (by simp)
                · exact .inl (by simp)
                · exact .inl (by simp)
                · exact .inl (by simp)
                · exact .inl (by simp)
                · exact .inr hr.2.1
                · exact .inr g6
                · exact .inr g7
                · exact .inl (by simp)
                · exact .inl (by simp)
                · exact .inl (by simp)
              exact hK _ _ ⟨Adz', cdz', Aaz', caz', Akz', ckz', Lz', pb, hS2.put' (Xhn1.out Adz' cdz' Aaz' caz' Akz' ckz' Lz' pb) (Xhn2.out Adz' cdz' Aaz' caz' Akz' ckz' Lz' pb) (Xhlt.out Adz' cdz' Aaz' caz' Akz' ckz' Lz' pb) (Xm5.out Adz' cdz' Aaz' caz' Akz' ckz' Lz' pb), fun _ => set_self (by rw [hls]; show 5 < 12; decide), fun h => by rw [set_get (by decide)] at h ⊢; exact hO1 h, fun h => absurd h (by rw [set_get (by decide), hl]; decide), fun _ => ⟨hB.trans (hX'.below.mono hB.size), hA0.trans hX', fun _ => hz', fun h => (fun hF : _ ∧ _ ∧ _ => ⟨(hX'.below.block _ (Array.getElem?_eq_some_iff.1 hF.1).1).trans hF.1, hF.2.1, Ext.not_live hX' (Array.getElem?_eq_some_iff.1 hF.1).1 hF.2.2⟩) (hF1 (by rwa [set_get (by decide)] at h))⟩⟩
            · obtain ⟨Adz, cdz, Aaz, caz, Akz, ckz, Lz, pb, hS, hO0, hO1, hL, hNo⟩ := hI
              have hl : listed.getD 10 true = false := by
                cases h : listed.getD 10 true with
                | false => rfl
                | true => exact absurd ((hL h).1 6 (by decide) (by decide)) (by rw [hr.2.1]; decide)
              obtain ⟨hB, hA0, hF0, hF1⟩ := hNo hl
              have d5 := hr.2.2 _ rfl ⟨5, .data⟩ (by simp) rfl
              have e57 := hS.at_ (Xm5.out Adz cdz Aaz caz Akz ckz Lz pb) d5
              refine wpOp_plain' rfl rfl fun K' hK => ?_
              go_simp
              exact hK _ _ ⟨Adz, cdz, Aaz, caz, Akz, ckz, Lz, pb, hS.put' (Xhn1.out Adz cdz Aaz caz Akz ckz Lz pb) (Xhn2.out Adz cdz Aaz caz Akz ckz Lz pb) (Xhlt.out Adz cdz Aaz caz Akz ckz Lz pb) (Xm6.out Adz cdz Aaz caz Akz ckz Lz pb), fun _ => by rw [set_get (by decide)]; exact hr.2.2 _ rfl ⟨5, .data⟩ (by simp) rfl, fun _ => set_self (by rw [hls]; show 6 < 12; decide), fun h => absurd h (by rw [set_get (by decide), hl]; decide), fun _ => ⟨hB, hA0, fun h => hF0 (by rwa [set_get (by decide)] at h), fun h => hF1 (by rwa [set_get (by decide)] at h)⟩⟩
            · obtain ⟨Adz, cdz, Aaz, caz, Akz, ckz, Lz, pb, hS, hO0, hO1, hL, hNo⟩ := hI
              have hl : listed.getD 10 true = false := by
                cases h : listed.getD 10 true with
                | false => rfl
                | true => exact absurd ((hL h).1 7 (by decide) (by decide)) (by rw [hr.2.1]; decide)
              obtain ⟨hB, hA0, hF0, hF1⟩ := hNo hl
              have d6 := hr.2.2 _ rfl ⟨6, .data⟩ (by simp) rfl
              have e51 := hS.at_ (Xm6.out Adz cdz Aaz caz Akz ckz Lz pb) d6
              refine wpOp_plain' rfl rfl fun K' hK => ?_
              go_simp
              exact hK _ _ ⟨Adz, cdz, Aaz, caz, Akz, ckz, Lz, pb, hS.put' (Xhn1.out Adz cdz Aaz caz Akz ckz Lz pb) (Xhn2.out Adz cdz Aaz caz Akz ckz Lz pb) (Xhlt.out Adz cdz Aaz caz Akz ckz Lz pb) (Xm7.out Adz cdz Aaz caz Akz ckz Lz pb), fun h => by rw [set_get (by decide)] at h ⊢; exact hO0 h, fun _ => by rw [set_get (by decide)]; exact hr.2.2 _ rfl ⟨6, .data⟩ (by simp) rfl, fun h => absurd h (by rw [set_get (by decide), hl]; decide), fun _ => ⟨hB, hA0, fun h => hF0 (by rwa [set_get (by decide)] at h), fun h => hF1 (by rwa [set_get (by decide)] at h)⟩⟩
            · obtain ⟨Adz, cdz, Aaz, caz, Akz, ckz, Lz, pb, hS, hO0, hO1, hL, hNo⟩ := hI
              have d6 := hr.2.2 _ rfl ⟨6, .data⟩ (by simp) rfl
              have e51 := hS.at_ (Xm6.out Adz cdz Aaz caz Akz ckz Lz pb) d6
              refine wpOp_plain' rfl rfl fun K' hK => ?_
              go_simp
              exact hK _ _ ⟨Adz, cdz, Aaz, caz, Akz, ckz, Lz, pb, hS.put' (Xhn1.out Adz cdz Aaz caz Akz ckz Lz pb) (Xhn2.out Adz cdz Aaz caz Akz ckz Lz pb) (Xhlt.out Adz cdz Aaz caz Akz ckz Lz pb) (Xm8.out Adz cdz Aaz caz Akz ckz Lz pb), fun h => by rw [set_get (by decide)] at h ⊢; exact hO0 h, fun h => by rw [set_get (by decide)] at h ⊢; exact hO1 h, fun h => (fun hh => ⟨fun j hj hne8 => by rw [set_get (by omega)]; exact hh.1 j hj hne8, hh.2⟩) (hL (by rwa [set_get (by decide)] at h)), fun h => by obtain ⟨hB, hA0, hF0, hF1⟩ := hNo (by rwa [set_get (by decide)] at h); exact ⟨hB, hA0, fun h => hF0 (by rwa [set_get (by decide)] at h), fun h => hF1 (by rwa [set_get (by decide)] at h)⟩⟩
            · obtain ⟨Adz, cdz, Aaz, caz, Akz, ckz, Lz, pb, hS, hO0, hO1, hL, hNo⟩ := hI
              have hl : listed.getD 10 true = false := by
                cases h : listed.getD 10 true with
                | false => rfl
                | true => exact absurd ((hL h).1 9 (by decide) (by decide)) (by rw [hr.2.1]; decide)
              obtain ⟨hB, hA0, hF0, hF1⟩ := hNo hl
              refine wpOp_plain' rfl rfl fun K' hK => ?_
              go_simp
              skip
              have hS2 : Slots (E Adz cdz Aaz caz Akz ckz Lz w'.heap.size) l0 listed a' := by
                rw [XhE.out] at hS ⊢
                exact Slots.turn1 (P := [(0, 52, .agg #[.int .i64 x.own.kind, .string x.own.name, .int .i64 x.own.mode, .int .i64 x.own.uid, .int .i64 x.own.gid, .int .i64 x.own.mtime, .slice Adx x.own.data.length cdx, .string x.own.target, .int .i64 x.own.major, .int .i64 x.own.minor, .slice Aax x.own.attrs.length cax, .slice Akx x.kids.length ckx]), (1, 53, .slice (some ⟨r, 0, none⟩) xs.length cp), (2, 54, .int .i64 k), (3, 55, .pointer (some ⟨r, k, none⟩)), (4, 56, .string q), (5, 57, .tuple #[.agg #[.int .i64 z.own.kind, .string z.own.name, .int .i64 z.own.mode, .int .i64 z.own.uid, .int .i64 z.own.gid, .int .i64 z.own.mtime, .slice Adz z.own.data.length cdz, .string z.own.target, .int .i64 z.own.major, .int .i64 z.own.minor, .slice Aaz z.own.attrs.length caz, .slice Akz z.kids.length ckz], .int .i64 e1]), (6, 51, .tuple #[.agg #[.int .i64 z.own.kind, .string z.own.name, .int .i64 z.own.mode, .int .i64 z.own.uid, .int .i64 z.own.gid, .int .i64 z.own.mtime, .slice Adz z.own.data.length cdz, .string z.own.target, .int .i64 z.own.major, .int .i64 z.own.minor, .slice Aaz z.own.attrs.length caz, .slice Akz z.kids.length ckz], .int .i64 e1]), (7, 58, .agg #[.int .i64 z.own.kind, .string z.own.name, .int .i64 z.own.mode, .int .i64 z.own.uid, .int .i64 z.own.gid, .int .i64 z.own.mtime, .slice Adz z.own.data.length cdz, .string z.own.target, .int .i64 z.own.major, .int .i64 z.own.minor, .slice Aaz z.own.attrs.length caz, .slice Akz z.kids.length ckz]), (8, 59, .int .i64 e1)]) (Q := [(11, 13, .int .i64 e1)]) hS hr.2.1
              exact hK _ _ ⟨Adz, cdz, Aaz, caz, Akz, ckz, Lz, w'.heap.size, hS2.put' (Xhn1.out Adz cdz Aaz caz Akz ckz Lz w'.heap.size) (Xhn2.out Adz cdz Aaz caz Akz ckz Lz w'.heap.size) (Xhlt.out Adz cdz Aaz caz Akz ckz Lz w'.heap.size) (Xm9.out Adz cdz Aaz caz Akz ckz Lz w'.heap.size), fun h => by rw [set_get (by decide)] at h ⊢; exact hO0 h, fun h => by rw [set_get (by decide)] at h ⊢; exact hO1 h, fun h => absurd h (by rw [set_get (by decide), hl]; decide), fun _ => ⟨hB.alloc hB.size _, (hA0).trans (Ext.of_below (hA0).ok ((Below.refl w'.heap.size w').alloc (Nat.le_refl _) zeroB)), fun h => (nodeR 14).mono (sub_same ((Below.refl w'.heap.size w').alloc (Nat.le_refl _) zeroB)) (hF0 (by rwa [set_get (by decide)] at h)), fun _ => ⟨heap_alloc_new w' zeroB, hB.size, not_live hA0.ok (Nat.le_refl _)⟩⟩⟩
            · obtain ⟨Adz, cdz, Aaz, caz, Akz, ckz, Lz, pb, hS, hO0, hO1, hL, hNo⟩ := hI
              have hl : listed.getD 10 true = false := hr.2.1
              obtain ⟨hB, hA0, hF0, hF1⟩ := hNo hl
              have d9 := hr.2.2 _ rfl ⟨9, .data⟩ (by simp) rfl
              have e12 := hS.at_ (Xm9.out Adz cdz Aaz caz Akz ckz Lz pb) d9
              have d7 := hr.2.2 _ rfl ⟨7, .data⟩ (by simp) rfl
              have e58 := hS.at_ (Xm7.out Adz cdz Aaz caz Akz ckz Lz pb) d7
              refine wpOp_plain' rfl rfl fun K' hK => ?_
              have hZ := hF1 (hr.2.2 _ rfl ⟨9, .data⟩ (by simp) rfl)
              have hNz := hF0 (hr.2.2 _ rfl ⟨5, .phase⟩ (by simp) rfl)
              obtain ⟨p0, p1, p2, p3, p4, p5, p6, p7, p8, p9, p10, p11⟩ := twelve hZ.1
              obtain ⟨q0, q1, q2, q3, q4, q5, q6, q7, q8, q9, q10, q11⟩ := twelve_free hZ.1
              go_simp
              have hBr : Bears 14 z (nodeV z.own (.slice Adz z.own.data.length cdz) (.slice Aaz z.own.attrs.length caz) (.slice Akz z.kids.length ckz)) L3 wr Lz w' := ⟨hA0, hNz⟩
              have hall2 : ∀ j, j < 10 → j ≠ 8 → (listed.setIfInBounds 10 true).getD j true = true := fun j hj hne8 => by
                rw [set_get (by omega)]
                have hc : j = 0 ∨ j = 1 ∨ j = 2 ∨ j = 3 ∨ j = 4 ∨ j = 5 ∨ j = 6 ∨ j = 7 ∨ j = 8 ∨ j = 9 := by omega
                rcases hc with rfl | rfl | rfl | rfl | rfl | rfl | rfl | rfl | rfl | rfl
                · exact hr.2.2 _ rfl ⟨0, .phase⟩ (by simp) rfl
                · exact hr.2.2 _ rfl ⟨1, .phase⟩ (by simp) rfl
                · exact hr.2.2 _ rfl ⟨2, .phase⟩ (by simp) rfl
                · exact hr.2.2 _ rfl ⟨3, .phase⟩ (by simp) rfl
                · exact hr.2.2 _ rfl ⟨4, .phase⟩ (by simp) rfl
                · exact hr.2.2 _ rfl ⟨5, .phase⟩ (by simp) rfl
                · exact hr.2.2 _ rfl ⟨6, .phase⟩ (by simp) rfl
                · exact hr.2.2 _ rfl ⟨7, .data⟩ (by simp) rfl
                · exact absurd rfl hne8
                · exact hr.2.2 _ rfl ⟨9, .data⟩ (by simp) rfl
              exact hK _ _ ⟨Adz, cdz, Aaz, caz, Akz, ckz, Lz, pb, hS.skip' (v := undef) (XhE1.out Adz cdz Aaz caz Akz ckz Lz pb) (by decide), fun h => by rw [set_get (by decide)] at h ⊢; exact hO0 h, fun h => by rw [set_get (by decide)] at h ⊢; exact hO1 h, fun _ => ⟨hall2, ⟨by repeat (first | (with_reducible refine Bears.set ?_ hZ.2.1 hZ.2.2 _ _) | (with_reducible exact hBr)), fill12 hZ.1 _ _ _ _ _ _ _ _ _ _ _ _⟩⟩, fun h => absurd (show (listed.setIfInBounds 10 true).getD 10 true = false from h) (by rw [set_self (by rw [hls]; show 10 < 12; decide)]; decide)⟩
            · obtain ⟨Adz, cdz, Aaz, caz, Akz, ckz, Lz, pb, hS, hO0, hO1, hL, hNo⟩ := hI
              have dl := hr.2.2 _ rfl ⟨10, .phase⟩ (by simp) rfl
              obtain ⟨hall0, hP0⟩ := hL dl
              have d8 := hr.2.2 _ rfl ⟨8, .data⟩ (by simp) rfl
              have e59 := hS.at_ (Xm8.out Adz cdz Aaz caz Akz ckz Lz pb) d8
              refine wpOp_plain' rfl rfl fun K' hK => ?_
              go_simp
              exact hK _ _ ⟨Adz, cdz, Aaz, caz, Akz, ckz, Lz, pb, hS.put' (Xhn1.out Adz cdz Aaz caz Akz ckz Lz pb) (Xhn2.out Adz cdz Aaz caz Akz ckz Lz pb) (Xhlt.out Adz cdz Aaz caz Akz ckz Lz pb) (Xm11.out Adz cdz Aaz caz Akz ckz Lz pb), fun h => by rw [set_get (by decide)] at h ⊢; exact hO0 h, fun h => by rw [set_get (by decide)] at h ⊢; exact hO1 h, fun _ => ⟨fun j hj hne8 => by rw [set_get (by omega)]; exact hall0 j hj hne8, hP0⟩, fun h => absurd h (by rw [set_get (by decide), dl]; decide)⟩
        · have hI2 : ¬ (k : Int) < (xs.length : Int) := by omega
          clear HN6 HX6 HO6 HL HAsk
          go_wp2_with fail
          refine (lives_any wr).mono ?_
          rintro e w9 ⟨rfl, x9⟩
          have HW9 : Hid (Below W.heap.size W w9) := Lib.hid ((HW6.out.trans (HB.out.mono hsW)).trans (x9.mono (by omega)))
          clear x9
          go_wp2
          go_ret
          exact ⟨rfl, HW9.out⟩
end Go.Proofs.Ytojcciciinklbaa
