/- Walks: a tree made of any, with one field of one node another one. No claim by itself. -/
import Derived.Test.YtojcciciinklbaaOdd
import Derived.Deep.DeepCutAuto
import Derived.Deep.CutBlock
import Derived.StillTailTactics
import Derived.BigQuiet
set_option linter.unusedSimpArgs false
set_option linter.unusedVariables false
namespace Go.Proofs.Ytojcciciinklbaa
open Go.RowKit

section
variable {P : Program} {ops : Array Oper} {rest : List Oper} {o : Oper} {a : Act} {Q : Exit → Act → World → Prop}
/-- '[]byte(s)' of any text, at a plain region's operation. -/
theorem wpList_bytesL (hgd : o.guard = none) (x : Operand) (src dst e : TypeId) {u : TypeDesc} (ho : o.op = .convert src dst x) (hs : P.underlying src = some u) (hd : P.underlying dst = some (.slice e)) (he : P.underlying e = some (.int .u8))
    (w : World) (s : ByteArray) (hx : a.eval x = .string s) (hsz : s.size ≤ 9223372036854775807)
    (h : ∀ c w1, SliceR Rp.byte (fun _ _ => True) w1 s.data.toList (.slice (some ⟨w.heap.size, 0, none⟩) s.size c) → Below w.heap.size w w1 → wpList P ops Q rest (a.put o.dst (.slice (some ⟨w.heap.size, 0, none⟩) s.size c)) w1) : wpList P ops Q (o :: rest) a w := by
  refine wpList_plain hgd fun K hK => ?_
  have hrun := Lib.run_convert_string_bytes (P := P) w src dst e s hs hd he
  unfold Oper.wp execOp
  simp only [ho, hx, hrun, Sem.run_bind, Sem.run_pure, Result.andThen_ok]
  refine hK _ _ (h _ _ ?_ (bytes_below w e s))
  have hl : s.data.toList.length = s.size := by rw [Array.length_toList]; rfl
  have hge := grownCap_ge w s.size 0 e
  have hcm := grownCap_le_maxLen w s.size 0 e (by simp only [maxLen]; omega)
  refine ⟨_, grownCap w s.size 0 e, bytesV s.data.toList, by rw [hl], by rw [hl]; exact hge, by rw [hl]; simp only [big]; omega, hcm, bytes_reps _ _ _, fun h => by simp at h, fun _ => ⟨_, 0, rfl, fun j u hu => ⟨?_, trivial⟩⟩⟩
  have hj := (List.getElem?_eq_some_iff.1 hu).1
  rw [bytesV_length, hl] at hj
  rw [bytesV_getD _ j (by rw [hl]; exact hj)] at hu
  rw [Nat.zero_add, ← hu]
  exact Lib.bytesWorld_cell w e s j hj
theorem wp_bytesL {K : Act → World → Prop} (x : Operand) (src dst e : TypeId) {u : TypeDesc} (ho : o.op = .convert src dst x) (hs : P.underlying src = some u) (hd : P.underlying dst = some (.slice e)) (he : P.underlying e = some (.int .u8))
    (w : World) (s : ByteArray) (hx : a.eval x = .string s) (hsz : s.size ≤ 9223372036854775807) 
    (h : ∀ c w1, SliceR Rp.byte (fun _ _ => True) w1 s.data.toList (.slice (some ⟨w.heap.size, 0, none⟩) s.size c) → Below w.heap.size w w1 → K (a.put o.dst (.slice (some ⟨w.heap.size, 0, none⟩) s.size c)) w1) : o.wp P a w K Q := by
  have hrun := Lib.run_convert_string_bytes (P := P) w src dst e s hs hd he
  unfold Oper.wp execOp
  simp only [ho, hx, hrun, Sem.run_bind, Sem.run_pure, Result.andThen_ok]
  refine h _ _ ?_ (bytes_below w e s)
  have hl : s.data.toList.length = s.size := by rw [Array.length_toList]; rfl
  have hge := grownCap_ge w s.size 0 e
  have hcm := grownCap_le_maxLen w s.size 0 e (by simp only [maxLen]; omega)
  refine ⟨_, grownCap w s.size 0 e, bytesV s.data.toList, by rw [hl], by rw [hl]; exact hge, by rw [hl]; simp only [big]; omega, hcm, bytes_reps _ _ _, fun h => by simp at h, fun _ => ⟨_, 0, rfl, fun j u hu => ⟨?_, trivial⟩⟩⟩
  have hj := (List.getElem?_eq_some_iff.1 hu).1
  rw [bytesV_length, hl] at hj
  rw [bytesV_getD _ j (by rw [hl]; exact hj)] at hu
  rw [Nat.zero_add, ← hu]
  exact Lib.bytesWorld_cell w e s j hj
end

set_option maxRecDepth 100000 in
set_option maxHeartbeats 16000000 in
theorem odd_any (gs : List GV) (v : Value) (which at_ : Int) (ox : Own) (Adx : Option Addr) (cdx : Nat) (Aax : Option Addr) (cax : Nat) (Akx : Option Addr) (lkx ckx : Nat) (L : Live) (w : World) (hS : SliceR gR L w gs v) (hok : LOk L w) (hxd : SliceR Rp.byte L w ox.data (.slice Adx ox.data.length cdx)) (hxa : SliceR attrR L w ox.attrs (.slice Aax ox.attrs.length cax)) (hfx : Fits ox) (hwh : I64 which) (hat : I64 at_) :
    Calls Try.prog 26 #[v, .int .i64 which, .int .i64 at_, .agg #[.int .i64 ox.kind, .string ox.name, .int .i64 ox.mode, .int .i64 ox.uid, .int .i64 ox.gid, .int .i64 ox.mtime, .slice Adx ox.data.length cdx, .string ox.target, .int .i64 ox.major, .int .i64 ox.minor, .slice Aax ox.attrs.length cax, .slice Akx lkx ckx]] w (OddMade L w) := by
  have hxdf : ox.data.length ≤ cdx ∧ cdx ≤ 9223372036854775807 := by
    obtain ⟨A, c, he, f1, f2, f3⟩ := hxd.form
    injection he with e1 e2 e3
    omega
  have hxaf : ox.attrs.length ≤ cax ∧ cax ≤ 9223372036854775807 := by
    obtain ⟨A, c, he, f1, f2, f3⟩ := hxa.form
    injection he with e1 e2 e3
    omega
  have HS := Lib.hid hS; have Hok := Lib.hid hok; have HXD := Lib.hid hxd; have HXA := Lib.hid hxa; have HFx := Lib.hid hfx
  have fx1 := hfx.kind; have fx2 := hfx.mode; have fx3 := hfx.uid; have fx4 := hfx.gid; have fx5 := hfx.mtime; have fx6 := hfx.major; have fx7 := hfx.minor; have fx8 := hfx.name; have fx9 := hfx.target
  unfold I64 at hwh hat
  unfold big at fx8 fx9
  clear hS hok hxd hxa hfx fx1 fx2 fx3 fx4 fx5 fx6 fx7
  have hl := row_len gs
  have hp := row_pos gs
  have c27 := cellsNode
  go_enter Try.func26, Try.ntmps26
  go_upto_region 1 with fail
  obtain ⟨w2, hw2⟩ : ∃ y, y = (w.alloc (boxO ox Adx cdx Aax cax Akx lkx ckx)).alloc zeroB := ⟨_, rfl⟩
  have hX2 : Ext L w L w2 := by rw [hw2]; exact ((Ext.refl Hok.out).alloc _).alloc _
  have hs2 : w2.heap.size = w.heap.size + 2 := by rw [hw2]; simp
  have hx2 : w2.heap[w.heap.size]? = some (boxO ox Adx cdx Aax cax Akx lkx ckx) := by rw [hw2]; exact (Below.heap_alloc _ _ _ (by simp)).trans (heap_alloc_new w _)
  have hz2 : w2.heap[w.heap.size + 1]? = some zeroB := by rw [hw2]; have := heap_alloc_new (w.alloc (boxO ox Adx cdx Aax cax Akx lkx ckx)) zeroB; rwa [World.size_alloc] at this
  have HX2 := Lib.hid hX2; have Hs2 := Lib.hid hs2; have Hx2 := Lib.hid hx2; have Hz2 := Lib.hid hz2
  show Code.wp _ _ _ _ ((w.alloc (boxO ox Adx cdx Aax cax Akx lkx ckx)).alloc zeroB)
  rw [← hw2]
  clear hX2 hs2 hx2 hz2 hw2
  go_wp2_with fail
  refine (rrow_any gs v L w2 (HS.out.mono (Ext.sub Hok.out HX2.out)) HX2.out.ok).mono ?_
  rintro e w3 ⟨v3, cells3, L3, rfl, ho, hx3⟩
  obtain ⟨A3, c3, hv3, hc31, hc32⟩ := ho.form
  have Hv3 := Lib.hid hv3
  have hn1 : (0 : Int) < ((rowF gs).length : Int) := by omega
  have HO := Lib.hid ho; have HX3 := Lib.hid hx3
  clear ho hx3
  have hlenv : ∀ n, v3 = .slice A3 n c3 → True := fun _ _ => trivial
  clear hlenv
  obtain ⟨g, cap, Ad, cd, Aa, ca, hv3b, _, _, hgb, hglt, _⟩ := out_at HO.out 0 hp
  rw [hv3b]
  have Hvg := Lib.hid hv3b
  clear hv3 hv3b
  go_wp2_with fail
  refine (around_any at_ ((rowF gs).length : Int) _ hat.1 hat.2 hn1 (by omega)).mono ?_
  rintro e w4 ⟨rfl, rfl⟩
  have hr := around_range at_ ((rowF gs).length : Int) hn1
  obtain ⟨k, hk⟩ : ∃ k : Nat, around at_ ((rowF gs).length : Int) = (k : Int) := ⟨(around at_ ((rowF gs).length : Int)).toNat, by omega⟩
  rw [hk] at hr ⊢
  have hkl : k < (rowF gs).length := by omega
  clear hk
  obtain ⟨g', cap', Ad, cd, Aa, ca, hv', hcap1, hcap2, _, _, hdead, hcs, hclen, _, _, hfu, hDu, hAu, hcell⟩ := out_at HO.out k hkl
  rw [Hvg.out] at hv'
  injection hv' with h1 h2 h3
  injection h1 with h1
  injection h1 with h1 _ _
  subst h1 h3
  have hTu := rowF_tiny gs _ (List.getElem_mem hkl)
  obtain ⟨u, hu⟩ : ∃ a, a = (rowF gs)[k] := ⟨_, rfl⟩
  rw [← hu] at hcs hfu hDu hAu hTu
  clear hu
  have hrow : ∀ j x, (nodeV u.own (.slice Ad u.own.data.length cd) (.slice Aa u.own.attrs.length ca) (.slice none 0 0))[j]? = some x → w3.cell? ⟨g, k * 14 + 2 + j, none⟩ = some x := fun j x hx => by
    have hj : j < 12 := by have := (List.getElem?_eq_some_iff.1 hx).1; simpa [nodeV] using this
    have h1 : cells3[k * 14 + 2 + j]? = some x := by
      rw [← hcs]
      have hkc : k * 14 + 14 ≤ cells3.length := by rw [hclen]; omega
      rw [List.append_assoc, List.getElem?_append_right (by rw [List.length_take]; omega), List.length_take, Nat.min_eq_left (by omega), List.getElem?_append_left (by simp [nodeV]; omega), show k * 14 + 2 + j - k * 14 = j + 1 + 1 from by omega]
      simpa using hx
    exact (hcell _ _ h1).1
  have m0 := hrow 0 _ rfl
  have m1 := hrow 1 _ rfl
  have m2 := hrow 2 _ rfl
  have m3 := hrow 3 _ rfl
  have m4 := hrow 4 _ rfl
  have m5 := hrow 5 _ rfl
  have m6 := hrow 6 _ rfl
  have m7 := hrow 7 _ rfl
  have m8 := hrow 8 _ rfl
  have m9 := hrow 9 _ rfl
  have m10 := hrow 10 _ rfl
  have m11 := hrow 11 _ rfl
  rw [Nat.add_zero] at m0
  have HFu := Lib.hid hfu; have HDu := Lib.hid hDu; have HAu := Lib.hid hAu; have HTu := Lib.hid hTu; have Hdead := Lib.hid hdead
  clear hrow hcell hcs hclen hfu hDu hAu hTu hdead
  go_upto_region 4 with fail
  obtain ⟨Bn, hBn⟩ : ∃ B, B = w3.heap.size := ⟨_, rfl⟩
  obtain ⟨w4, hw4⟩ : ∃ y, y = w3.alloc (boxO u.own Ad cd Aa ca none 0 0) := ⟨_, rfl⟩
  have HSt : Hid (OddSt L w w.heap.size (w.heap.size + 1) Bn v3 (rowF gs) (boxO ox Adx cdx Aax cax Akx lkx ckx) ox Adx cdx Aax cax u.own Ad cd Aa ca L3 w4) := Lib.hid (by
    have hX4 : Ext L3 w3 L3 w4 := by rw [hw4]; exact (Ext.refl HX3.out.ok).alloc _
    have hs3 := HX3.out.below.size
    have h2 := Hs2.out
    refine ⟨(HX2.out.trans HX3.out).trans hX4, ⟨cells3, by have := HO.out.ext HX3.out.ok hX4; rwa [Hs2.out] at this⟩, (hX4.below.block _ (by omega)).trans ((HX3.out.below.block _ (by omega)).trans Hx2.out), (hX4.below.block _ (by omega)).trans ((HX3.out.below.block _ (by omega)).trans Hz2.out), by rw [hBn, hw4]; exact heap_alloc_new w3 _, HFu.out, HTu.out, HDu.out.mono (Ext.sub HX3.out.ok hX4), HAu.out.mono (Ext.sub HX3.out.ok hX4),
      HXD.out.mono (Ext.sub Hok.out ((HX2.out.trans HX3.out).trans hX4)), HXA.out.mono (Ext.sub Hok.out ((HX2.out.trans HX3.out).trans hX4)), fun j => ⟨Ext.not_live HX3.out (by omega) (not_live Hok.out (by omega)) j, not_live HX3.out.ok (by omega) j⟩, rfl, rfl, by omega, ?_⟩
    rw [Hvg.out]; simp only [Value.ownBlock]; intro e; simp at e; omega)
  unfold boxO at hw4
  rw [← hw4, ← hBn]
  clear m0 m1 m2 m3 m4 m5 m6 m7 m8 m9 m10 m11 hw4 HO HX3 HX2 Hx2 Hz2 HFu HDu HAu HTu Hdead HS HXD HXA
  go_wp2_with fail
  refine (around_any which 11 _ hwh.1 hwh.2 (by decide) (by decide)).mono ?_
  rintro e w5 ⟨rfl, rfl⟩
  have hq := around_range which 11 (by decide)
  obtain ⟨q, hqe⟩ : ∃ q, q = around which 11 := ⟨_, rfl⟩
  rw [← hqe] at hq ⊢
  clear hqe
  have hgBn : g < Bn := by omega
  clear hBn
  obtain ⟨r10, hr10⟩ : ∃ r : Nat, around at_ 10 = (r : Int) := ⟨(around at_ 10).toNat, by have := around_range at_ 10 (by decide); omega⟩
  obtain ⟨r8, hr8⟩ : ∃ r : Nat, around at_ 8 = (r : Int) := ⟨(around at_ 8).toNat, by have := around_range at_ 8 (by decide); omega⟩
  have hr10b : r10 < 10 := by have := around_range at_ 10 (by decide); omega
  have hr8b : r8 < 8 := by have := around_range at_ 8 (by decide); omega
  have Hr10 := Lib.hid hr10; have Hr8 := Lib.hid hr8
  clear hr10 hr8
  obtain ⟨ou, hou⟩ : ∃ a, a = u.own := ⟨_, rfl⟩
  rw [← hou] at HSt
  clear hou
  go_upto_block 0 with fail
  go_cut [11] (fun z wx => z = .pointer (some ⟨Bn, 0, none⟩) ∧ ∃ (o' : Own) (Ad' : Option Addr) (cd' : Nat) (Aa' : Option Addr) (ca' : Nat) (L' : Live), Hid (OddSt L w w.heap.size (w.heap.size + 1) Bn v3 (rowF gs) (boxO ox Adx cdx Aax cax Akx lkx ckx) ox Adx cdx Aax cax o' Ad' cd' Aa' ca' L' wx))
  case first =>
    have hcase : q = 0 ∨ q = 1 ∨ q = 2 ∨ q = 3 ∨ q = 4 ∨ q = 5 ∨ q = 6 ∨ q = 7 ∨ q = 8 ∨ q = 9 ∨ q = 10 := by omega
    have hf := HSt.out.fits; have ht := HSt.out.tiny
    have HFo := Lib.hid hf; have HTo := Lib.hid ht
    clear hf ht hq
    rcases hcase with rfl | rfl | rfl | rfl | rfl | rfl | rfl | rfl | rfl | rfl | rfl
    · skip
      obtain ⟨n0, n1, n2, n3, n4, n5, n6, n7, n8, n9, n10, n11⟩ := twelve_box HSt.out.xbox
      obtain ⟨p0, p1, p2, p3, p4, p5, p6, p7, p8, p9, p10, p11⟩ := twelve_box HSt.out.node
      have fz := HSt.out.free 0
      clear p1 p2 p3 p4 p5 p6 p7 p8 p9 p10 p11
      clear n1 n2 n3 n4 n5 n6 n7 n8 n9 n10 n11
      go_wp2_with fail
      go_meet
      case rel => exact ⟨rfl, { ou with kind := ox.kind }, Ad, cd, Aa, ca, L3, Lib.hid (HSt.out.set 0 (.int .i64 ox.kind) _ Ad cd Aa ca (by first | rfl | simp [boxC]) ⟨HFx.out.kind, HFo.out.mode, HFo.out.uid, HFo.out.gid, HFo.out.mtime, HFo.out.major, HFo.out.minor, HFo.out.name, HFo.out.target⟩ ⟨HTo.out.name, HTo.out.data, HTo.out.attrs⟩ HSt.out.data HSt.out.attrs)⟩
    · skip
      obtain ⟨n0, n1, n2, n3, n4, n5, n6, n7, n8, n9, n10, n11⟩ := twelve_box HSt.out.xbox
      obtain ⟨p0, p1, p2, p3, p4, p5, p6, p7, p8, p9, p10, p11⟩ := twelve_box HSt.out.node
      have fz := HSt.out.free 1
      clear p0 p2 p3 p4 p5 p6 p7 p8 p9 p10 p11
      clear n0 n2 n3 n4 n5 n6 n7 n8 n9 n10 n11
      go_wp2_with fail
      refine (short_any ox.name 30 _ (by decide) fx8).mono ?_
      rintro e w6 ⟨rfl, rfl⟩
      have hsz := shortS_size ox.name 30
      go_wp2_with fail
      go_meet
      case rel => exact ⟨rfl, { ou with name := shortS ox.name 30 }, Ad, cd, Aa, ca, L3, Lib.hid (HSt.out.set 1 (.string (shortS ox.name 30)) _ Ad cd Aa ca (by first | rfl | simp [boxC]) ⟨HFo.out.kind, HFo.out.mode, HFo.out.uid, HFo.out.gid, HFo.out.mtime, HFo.out.major, HFo.out.minor, (by show (shortS ox.name 30).size ≤ big; simp only [big]; omega), HFo.out.target⟩ ⟨by show (shortS ox.name 30).size ≤ 1000; omega, HTo.out.data, HTo.out.attrs⟩ HSt.out.data HSt.out.attrs)⟩
    · skip
      obtain ⟨n0, n1, n2, n3, n4, n5, n6, n7, n8, n9, n10, n11⟩ := twelve_box HSt.out.xbox
      obtain ⟨p0, p1, p2, p3, p4, p5, p6, p7, p8, p9, p10, p11⟩ := twelve_box HSt.out.node
      have fz := HSt.out.free 2
      clear p0 p1 p3 p4 p5 p6 p7 p8 p9 p10 p11
      clear n0 n1 n3 n4 n5 n6 n7 n8 n9 n10 n11
      go_wp2_with fail
      go_meet
      case rel => exact ⟨rfl, { ou with mode := ox.mode }, Ad, cd, Aa, ca, L3, Lib.hid (HSt.out.set 2 (.int .i64 ox.mode) _ Ad cd Aa ca (by first | rfl | simp [boxC]) ⟨HFo.out.kind, HFx.out.mode, HFo.out.uid, HFo.out.gid, HFo.out.mtime, HFo.out.major, HFo.out.minor, HFo.out.name, HFo.out.target⟩ ⟨HTo.out.name, HTo.out.data, HTo.out.attrs⟩ HSt.out.data HSt.out.attrs)⟩
    · skip
      obtain ⟨n0, n1, n2, n3, n4, n5, n6, n7, n8, n9, n10, n11⟩ := twelve_box HSt.out.xbox
      obtain ⟨p0, p1, p2, p3, p4, p5, p6, p7, p8, p9, p10, p11⟩ := twelve_box HSt.out.node
      have fz := HSt.out.free 3
      clear p0 p1 p2 p4 p5 p6 p7 p8 p9 p10 p11
      clear n0 n1 n2 n4 n5 n6 n7 n8 n9 n10 n11
      go_wp2_with fail
      go_meet
      case rel => exact ⟨rfl, { ou with uid := ox.uid }, Ad, cd, Aa, ca, L3, Lib.hid (HSt.out.set 3 (.int .i64 ox.uid) _ Ad cd Aa ca (by first | rfl | simp [boxC]) ⟨HFo.out.kind, HFo.out.mode, HFx.out.uid, HFo.out.gid, HFo.out.mtime, HFo.out.major, HFo.out.minor, HFo.out.name, HFo.out.target⟩ ⟨HTo.out.name, HTo.out.data, HTo.out.attrs⟩ HSt.out.data HSt.out.attrs)⟩
    · skip
      obtain ⟨n0, n1, n2, n3, n4, n5, n6, n7, n8, n9, n10, n11⟩ := twelve_box HSt.out.xbox
      obtain ⟨p0, p1, p2, p3, p4, p5, p6, p7, p8, p9, p10, p11⟩ := twelve_box HSt.out.node
      have fz := HSt.out.free 4
      clear p0 p1 p2 p3 p5 p6 p7 p8 p9 p10 p11
      clear n0 n1 n2 n3 n5 n6 n7 n8 n9 n10 n11
      go_wp2_with fail
      go_meet
      case rel => exact ⟨rfl, { ou with gid := ox.gid }, Ad, cd, Aa, ca, L3, Lib.hid (HSt.out.set 4 (.int .i64 ox.gid) _ Ad cd Aa ca (by first | rfl | simp [boxC]) ⟨HFo.out.kind, HFo.out.mode, HFo.out.uid, HFx.out.gid, HFo.out.mtime, HFo.out.major, HFo.out.minor, HFo.out.name, HFo.out.target⟩ ⟨HTo.out.name, HTo.out.data, HTo.out.attrs⟩ HSt.out.data HSt.out.attrs)⟩
    · skip
      obtain ⟨n0, n1, n2, n3, n4, n5, n6, n7, n8, n9, n10, n11⟩ := twelve_box HSt.out.xbox
      obtain ⟨p0, p1, p2, p3, p4, p5, p6, p7, p8, p9, p10, p11⟩ := twelve_box HSt.out.node
      have fz := HSt.out.free 5
      clear p0 p1 p2 p3 p4 p6 p7 p8 p9 p10 p11
      clear n0 n1 n2 n3 n4 n6 n7 n8 n9 n10 n11
      go_wp2_with fail
      go_meet
      case rel => exact ⟨rfl, { ou with mtime := ox.mtime }, Ad, cd, Aa, ca, L3, Lib.hid (HSt.out.set 5 (.int .i64 ox.mtime) _ Ad cd Aa ca (by first | rfl | simp [boxC]) ⟨HFo.out.kind, HFo.out.mode, HFo.out.uid, HFo.out.gid, HFx.out.mtime, HFo.out.major, HFo.out.minor, HFo.out.name, HFo.out.target⟩ ⟨HTo.out.name, HTo.out.data, HTo.out.attrs⟩ HSt.out.data HSt.out.attrs)⟩
    · skip
      obtain ⟨n0, n1, n2, n3, n4, n5, n6, n7, n8, n9, n10, n11⟩ := twelve_box HSt.out.xbox
      obtain ⟨p0, p1, p2, p3, p4, p5, p6, p7, p8, p9, p10, p11⟩ := twelve_box HSt.out.node
      have fz := HSt.out.free 6
      clear p0 p1 p2 p3 p4 p5 p7 p8 p9 p10 p11
      clear n0 n1 n2 n3 n4 n5 n7 n8 n9 n10 n11
      obtain ⟨N, hN⟩ : ∃ N : Nat, N = 4090 + r10 := ⟨_, rfl⟩
      have hN1 : (4090 : Int) + (r10 : Int) = (N : Int) := by omega
      have hNb : N ≤ 5000 := by omega
      have hNw : IntKind.i64.wrap (N : Int) = (N : Int) := IntWalk.i64_in _ (by omega)
      clear hN
      go_upto_region 20 with fail
      have HCl : Hid (∀ w', Below w4.heap.size w4 w' → w'.cell? ⟨w.heap.size, 6, none⟩ = some (.slice Adx ox.data.length cdx) ∧ w'.cell? ⟨Bn, 6, none⟩ = some (.slice Ad ou.data.length cd) ∧ w'.frozen? ⟨Bn, 6, none⟩ = false) := Lib.hid (fun w' hb => ⟨(twelve_box (HSt.out.step hb).xbox).2.2.2.2.2.2.1, (twelve_box (HSt.out.step hb).node).2.2.2.2.2.2.1, (HSt.out.step hb).free 6⟩)
      refine wp_named _ ?_
      intro l0 hl0
      obtain ⟨E, hE⟩ : ∃ E : Option Addr → Nat → Live → List (Nat × Nat × Value), E = fun A7 c7 L7 => [(0, 68, .pointer (some ⟨w.heap.size, 6, none⟩)), (1, 69, .slice Adx ox.data.length cdx), (2, 70, .int .i64 at_), (3, 71, .int .i64 (r10 : Int)), (4, 72, .int .i64 (N : Int)), (5, 73, .slice A7 N c7), (6, 74, .pointer (some ⟨Bn, 6, none⟩))] := ⟨_, rfl⟩
      have hlen : l0.length = 117 := by rw [hl0]; rfl
      have hE1 : ∀ (A7 : Option Addr) (c7 : Nat) (L7 : Live), (E A7 c7 L7).map (fun t => t.1) = [0, 1, 2, 3, 4, 5, 6] := fun A7 c7 L7 => by rw [hE]; rfl
      have hE2 : ∀ (A7 : Option Addr) (c7 : Nat) (L7 : Live), (E A7 c7 L7).map (fun t => t.2.1) = [68, 69, 70, 71, 72, 73, 74] := fun A7 c7 L7 => by rw [hE]; rfl
      have m0 : ∀ (A7 : Option Addr) (c7 : Nat) (L7 : Live), (0, 68, (.pointer (some ⟨w.heap.size, 6, none⟩) : Value)) ∈ E A7 c7 L7 := fun A7 c7 L7 => by rw [hE]; simp
      have m1 : ∀ (A7 : Option Addr) (c7 : Nat) (L7 : Live), (1, 69, (.slice Adx ox.data.length cdx : Value)) ∈ E A7 c7 L7 := fun A7 c7 L7 => by rw [hE]; simp
      have m2 : ∀ (A7 : Option Addr) (c7 : Nat) (L7 : Live), (2, 70, (.int .i64 at_ : Value)) ∈ E A7 c7 L7 := fun A7 c7 L7 => by rw [hE]; simp
      have m3 : ∀ (A7 : Option Addr) (c7 : Nat) (L7 : Live), (3, 71, (.int .i64 (r10 : Int) : Value)) ∈ E A7 c7 L7 := fun A7 c7 L7 => by rw [hE]; simp
      have m4 : ∀ (A7 : Option Addr) (c7 : Nat) (L7 : Live), (4, 72, (.int .i64 (N : Int) : Value)) ∈ E A7 c7 L7 := fun A7 c7 L7 => by rw [hE]; simp
      have m5 : ∀ (A7 : Option Addr) (c7 : Nat) (L7 : Live), (5, 73, (.slice A7 N c7 : Value)) ∈ E A7 c7 L7 := fun A7 c7 L7 => by rw [hE]; simp
      have m6 : ∀ (A7 : Option Addr) (c7 : Nat) (L7 : Live), (6, 74, (.pointer (some ⟨Bn, 6, none⟩) : Value)) ∈ E A7 c7 L7 := fun A7 c7 L7 => by rw [hE]; simp
      have hn1 : ∀ (A7 : Option Addr) (c7 : Nat) (L7 : Live), ((E A7 c7 L7).map fun t => t.1).Nodup := fun A7 c7 L7 => by rw [hE1]; decide
      have hn2 : ∀ (A7 : Option Addr) (c7 : Nat) (L7 : Live), ((E A7 c7 L7).map fun t => t.2.1).Nodup := fun A7 c7 L7 => by rw [hE2]; decide
      have hlt : ∀ (A7 : Option Addr) (c7 : Nat) (L7 : Live), ∀ t ∈ E A7 c7 L7, t.2.1 < l0.length := fun A7 c7 L7 => fun t ht => by
        have h1 : t.2.1 ∈ (E A7 c7 L7).map fun t => t.2.1 := List.mem_map.2 ⟨t, ht, rfl⟩
        rw [hE2] at h1
        rw [hlen]
        simp only [List.mem_cons, List.mem_nil_iff, or_false] at h1
        omega
      have Xm0 := Lib.hid m0
      have Xm1 := Lib.hid m1
      have Xm2 := Lib.hid m2
      have Xm3 := Lib.hid m3
      have Xm4 := Lib.hid m4
      have Xm5 := Lib.hid m5
      have Xm6 := Lib.hid m6
      have Xhn1 := Lib.hid hn1; have Xhn2 := Lib.hid hn2; have Xhlt := Lib.hid hlt; have XhE1 := Lib.hid hE1; have XhE2 := Lib.hid hE2; have XhE := Lib.hid hE; have Xl0 := Lib.hid hl0
      clear m0 m1 m2 m3 m4 m5 m6 hn1 hn2 hlt hE1 hE2 hE hlen hl0
      refine wp_region_any (by kernel_rfl) ?_
      refine wpAny_inv (by kernel_rfl) (fun listed a' w' => ∃ (A7 : Option Addr) (c7 : Nat) (L7 : Live), Slots (E A7 c7 L7) l0 listed a' ∧ (listed.getD 7 true = true → (∀ j, j < 7 → listed.getD j true = true) ∧ OddSt L w w.heap.size (w.heap.size + 1) Bn v3 (rowF gs) (boxO ox Adx cdx Aax cax Akx lkx ckx) ox Adx cdx Aax cax { ou with data := fillL ox.data N } A7 c7 Aa ca L7 w') ∧ (listed.getD 7 true = false → Below w4.heap.size w4 w' ∧ (listed.getD 5 true = true → (SliceR Rp.byte L7 w' (fillL ox.data N) (.slice A7 N c7) ∧ OddSt L w w.heap.size (w.heap.size + 1) Bn v3 (rowF gs) (boxO ox Adx cdx Aax cax Akx lkx ckx) ox Adx cdx Aax cax ou Ad cd Aa ca L7 w')))) ?step ?fin _ _ _ _ ?hs ?hf ?init
      case hs => simp
      case hf => simp
      case init =>
        refine ⟨none, 0, L3, ?_, fun h => absurd (show (Array.replicate 8 false).getD 7 true = true from h) (by decide), fun _ => ⟨(Below.refl _ _).drew, fun h => ?_⟩⟩
        · exact Slots.start (exp := E (none) (0) (L3)) (l0 := l0) (m := 8) (fun t ht => by
            have h1 : t.1 ∈ (E (none) (0) (L3)).map fun t => t.1 := List.mem_map.2 ⟨t, ht, rfl⟩
            rw [XhE1.out] at h1
            simp only [List.mem_cons, List.mem_nil_iff, or_false] at h1
            omega)
        · exact absurd (show (Array.replicate 8 false).getD 5 true = true from h) (by decide)
      case fin =>
        intro listed a' w' hls hall ⟨A7, c7, L7, hS, hL, _⟩
        obtain ⟨_, H7⟩ := hL (hall 7 (by show 7 < 8; decide))
        have hf := hS.frame (fun t ht => hall _ (by
          have h1 : t.1 ∈ (E A7 c7 L7).map fun t => t.1 := List.mem_map.2 ⟨t, ht, rfl⟩
          rw [XhE1.out] at h1
          simp only [List.mem_cons, List.mem_nil_iff, or_false] at h1
          show t.1 < 8
          omega)) (Xhn2.out A7 c7 L7) (Xhlt.out A7 c7 L7)
        rw [XhE.out, Xl0.out] at hf
        simp only [filled, List.foldl_cons, List.foldl_nil, List.set_cons_zero, List.set_cons_succ] at hf
        have HS7 := Lib.hid H7
        rw [hf]
        clear hf hS hL H7
        go_wp2_with fail
        go_meet
        case rel => exact ⟨rfl, { ou with data := fillL ox.data N }, A7, c7, Aa, ca, L7, HS7⟩
      case step =>
        intro listed a' w' i hls hI hmem
        have hr := ready_of hls hmem
        have hi : i < 8 := hr.1
        have hcase : i = 0 ∨ i = 1 ∨ i = 2 ∨ i = 3 ∨ i = 4 ∨ i = 5 ∨ i = 6 ∨ i = 7 := by omega
        rcases hcase with rfl | rfl | rfl | rfl | rfl | rfl | rfl | rfl
        · obtain ⟨A7, c7, L7, hS, hL, hNo⟩ := hI
          have hl : listed.getD 7 true = false := by
            cases h : listed.getD 7 true with
            | false => rfl
            | true => exact absurd ((hL h).1 0 (by decide)) (by rw [hr.2.1]; decide)
          obtain ⟨hB, hF0⟩ := hNo hl
          have e7 := hS.at0 7 (.pointer (some ⟨w.heap.size, 0, none⟩)) (by rw [XhE2.out]; decide) (by rw [Xl0.out]; rfl)
          refine wpOp_plain' rfl rfl fun K' hK => ?_
          go_simp
          exact hK _ _ ⟨A7, c7, L7, hS.put' (Xhn1.out A7 c7 L7) (Xhn2.out A7 c7 L7) (Xhlt.out A7 c7 L7) (Xm0.out A7 c7 L7), fun h => absurd h (by rw [set_get (by decide), hl]; decide), fun _ => ⟨hB, fun h => hF0 (by rwa [set_get (by decide)] at h)⟩⟩
        · obtain ⟨A7, c7, L7, hS, hL, hNo⟩ := hI
          have hl : listed.getD 7 true = false := by
            cases h : listed.getD 7 true with
            | false => rfl
            | true => exact absurd ((hL h).1 1 (by decide)) (by rw [hr.2.1]; decide)
          obtain ⟨hB, hF0⟩ := hNo hl
          obtain ⟨n6, p6, fz⟩ := HCl.out w' hB
          have d0 := hr.2.2 _ rfl ⟨0, .data⟩ (by simp) rfl
          have e68 := hS.at_ (Xm0.out A7 c7 L7) d0
          refine wpOp_plain' rfl rfl fun K' hK => ?_
          go_simp
          exact hK _ _ ⟨A7, c7, L7, hS.put' (Xhn1.out A7 c7 L7) (Xhn2.out A7 c7 L7) (Xhlt.out A7 c7 L7) (Xm1.out A7 c7 L7), fun h => absurd h (by rw [set_get (by decide), hl]; decide), fun _ => ⟨hB, fun h => hF0 (by rwa [set_get (by decide)] at h)⟩⟩
        · obtain ⟨A7, c7, L7, hS, hL, hNo⟩ := hI
          have hl : listed.getD 7 true = false := by
            cases h : listed.getD 7 true with
            | false => rfl
            | true => exact absurd ((hL h).1 2 (by decide)) (by rw [hr.2.1]; decide)
          obtain ⟨hB, hF0⟩ := hNo hl
          have e2 := hS.at0 2 (.int .i64 at_) (by rw [XhE2.out]; decide) (by rw [Xl0.out]; rfl)
          refine wpOp_plain' rfl rfl fun K' hK => ?_
          go_simp
          exact hK _ _ ⟨A7, c7, L7, hS.put' (Xhn1.out A7 c7 L7) (Xhn2.out A7 c7 L7) (Xhlt.out A7 c7 L7) (Xm2.out A7 c7 L7), fun h => absurd h (by rw [set_get (by decide), hl]; decide), fun _ => ⟨hB, fun h => hF0 (by rwa [set_get (by decide)] at h)⟩⟩
        · obtain ⟨A7, c7, L7, hS, hL, hNo⟩ := hI
          have hl : listed.getD 7 true = false := by
            cases h : listed.getD 7 true with
            | false => rfl
            | true => exact absurd ((hL h).1 3 (by decide)) (by rw [hr.2.1]; decide)
          obtain ⟨hB, hF0⟩ := hNo hl
          have d2 := hr.2.2 _ rfl ⟨2, .data⟩ (by simp) rfl
          have e70 := hS.at_ (Xm2.out A7 c7 L7) d2
          refine wpOp_plain' rfl rfl fun K' hK => ?_
          go_simp
          refine (around_any at_ 10 w' hat.1 hat.2 (by decide) (by decide)).mono ?_
          rintro e w1 ⟨rfl, rfl⟩
          rw [Hr10.out]
          exact hK _ _ ⟨A7, c7, L7, hS.put' (Xhn1.out A7 c7 L7) (Xhn2.out A7 c7 L7) (Xhlt.out A7 c7 L7) (Xm3.out A7 c7 L7), fun h => absurd h (by rw [set_get (by decide), hl]; decide), fun _ => ⟨hB, fun h => hF0 (by rwa [set_get (by decide)] at h)⟩⟩
        · obtain ⟨A7, c7, L7, hS, hL, hNo⟩ := hI
          have hl : listed.getD 7 true = false := by
            cases h : listed.getD 7 true with
            | false => rfl
            | true => exact absurd ((hL h).1 4 (by decide)) (by rw [hr.2.1]; decide)
          obtain ⟨hB, hF0⟩ := hNo hl
          have d3 := hr.2.2 _ rfl ⟨3, .data⟩ (by simp) rfl
          have e71 := hS.at_ (Xm3.out A7 c7 L7) d3
          refine wpOp_plain' rfl rfl fun K' hK => ?_
          go_simp
          exact hK _ _ ⟨A7, c7, L7, hS.put' (Xhn1.out A7 c7 L7) (Xhn2.out A7 c7 L7) (Xhlt.out A7 c7 L7) (Xm4.out A7 c7 L7), fun h => absurd h (by rw [set_get (by decide), hl]; decide), fun _ => ⟨hB, fun h => hF0 (by rwa [set_get (by decide)] at h)⟩⟩
        · obtain ⟨A7, c7, L7, hS, hL, hNo⟩ := hI
          have hl : listed.getD 7 true = false := by
            cases h : listed.getD 7 true with
            | false => rfl
            | true => exact absurd ((hL h).1 5 (by decide)) (by rw [hr.2.1]; decide)
          obtain ⟨hB, hF0⟩ := hNo hl
          have d1 := hr.2.2 _ rfl ⟨1, .data⟩ (by simp) rfl
          have e69 := hS.at_ (Xm1.out A7 c7 L7) d1
          have d4 := hr.2.2 _ rfl ⟨4, .data⟩ (by simp) rfl
          have e72 := hS.at_ (Xm4.out A7 c7 L7) d4
          refine wpOp_plain' rfl rfl fun K' hK => ?_
          go_simp
          refine (fill_any ox.data _ N L3 w' (by omega) (HSt.out.step hB).xdata).mono ?_
          rintro e w1 ⟨v7, rfl, h7, y7⟩
          obtain ⟨L7', hS7, hX7⟩ := h7.known (d := Rp.byte) y7 (HSt.out.step hB).ext.ok (bytes_reps _ _ _) (fillL_len _ _) (by simp only [big]; omega)
          obtain ⟨A7', c7', rfl, _, _⟩ := h7.form
          have hS2 : Slots (E A7' c7' L7') l0 listed a' := by
            rw [XhE.out] at hS ⊢
            exact Slots.turn1 (P := [(0, 68, .pointer (some ⟨w.heap.size, 6, none⟩)), (1, 69, .slice Adx ox.data.length cdx), (2, 70, .int .i64 at_), (3, 71, .int .i64 (r10 : Int)), (4, 72, .int .i64 (N : Int))]) (Q := [(6, 74, .pointer (some ⟨Bn, 6, none⟩))]) hS hr.2.1
          exact hK _ _ ⟨A7', c7', L7', hS2.put' (Xhn1.out A7' c7' L7') (Xhn2.out A7' c7' L7') (Xhlt.out A7' c7' L7') (Xm5.out A7' c7' L7'), fun h => absurd h (by rw [set_get (by decide), hl]; decide), fun _ => ⟨hB.trans (y7.mono hB.size), fun _ => ⟨hS7, (HSt.out.step hB).to hX7⟩⟩⟩
        · obtain ⟨A7, c7, L7, hS, hL, hNo⟩ := hI
          have hl : listed.getD 7 true = false := by
            cases h : listed.getD 7 true with
            | false => rfl
            | true => exact absurd ((hL h).1 6 (by decide)) (by rw [hr.2.1]; decide)
          obtain ⟨hB, hF0⟩ := hNo hl
          have e11 := hS.at0 11 (.pointer (some ⟨Bn, 0, none⟩)) (by rw [XhE2.out]; decide) (by rw [Xl0.out]; rfl)
          refine wpOp_plain' rfl rfl fun K' hK => ?_
          go_simp
          exact hK _ _ ⟨A7, c7, L7, hS.put' (Xhn1.out A7 c7 L7) (Xhn2.out A7 c7 L7) (Xhlt.out A7 c7 L7) (Xm6.out A7 c7 L7), fun h => absurd h (by rw [set_get (by decide), hl]; decide), fun _ => ⟨hB, fun h => hF0 (by rwa [set_get (by decide)] at h)⟩⟩
        · obtain ⟨A7, c7, L7, hS, hL, hNo⟩ := hI
          have hl : listed.getD 7 true = false := hr.2.1
          obtain ⟨hB, hF0⟩ := hNo hl
          have d6 := hr.2.2 _ rfl ⟨6, .data⟩ (by simp) rfl
          have e74 := hS.at_ (Xm6.out A7 c7 L7) d6
          have d5 := hr.2.2 _ rfl ⟨5, .data⟩ (by simp) rfl
          have e73 := hS.at_ (Xm5.out A7 c7 L7) d5
          refine wpOp_plain' rfl rfl fun K' hK => ?_
          obtain ⟨n6, p6, fz⟩ := HCl.out w' hB
          go_simp
          skip
          have hall2 : ∀ j, j < 7 → (listed.setIfInBounds 7 true).getD j true = true := fun j hj => by
            rw [set_get (by omega)]
            have hc : j = 0 ∨ j = 1 ∨ j = 2 ∨ j = 3 ∨ j = 4 ∨ j = 5 ∨ j = 6 := by omega
            rcases hc with rfl | rfl | rfl | rfl | rfl | rfl | rfl
            · exact hr.2.2 _ rfl ⟨0, .phase⟩ (by simp) rfl
            · exact hr.2.2 _ rfl ⟨1, .phase⟩ (by simp) rfl
            · exact hr.2.2 _ rfl ⟨2, .phase⟩ (by simp) rfl
            · exact hr.2.2 _ rfl ⟨3, .phase⟩ (by simp) rfl
            · exact hr.2.2 _ rfl ⟨4, .phase⟩ (by simp) rfl
            · exact hr.2.2 _ rfl ⟨5, .data⟩ (by simp) rfl
            · exact hr.2.2 _ rfl ⟨6, .data⟩ (by simp) rfl
          exact hK _ _ ⟨A7, c7, L7, hS.skip' (v := undef) (XhE1.out A7 c7 L7) (by decide), fun _ => ⟨hall2, (hF0 (hr.2.2 _ rfl ⟨5, .data⟩ (by simp) rfl)).2.set 6 (.slice A7 N c7) _ A7 c7 Aa ca (by simp [boxC, fillL_len]) ⟨HFo.out.kind, HFo.out.mode, HFo.out.uid, HFo.out.gid, HFo.out.mtime, HFo.out.major, HFo.out.minor, HFo.out.name, HFo.out.target⟩ ⟨HTo.out.name, by show (fillL ox.data N).length ≤ 5000; rw [fillL_len]; exact hNb, HTo.out.attrs⟩ (by show SliceR Rp.byte L7 _ (fillL ox.data N) (.slice A7 (fillL ox.data N).length c7); rw [fillL_len]; exact (hF0 (hr.2.2 _ rfl ⟨5, .data⟩ (by simp) rfl)).1) (hF0 (hr.2.2 _ rfl ⟨5, .data⟩ (by simp) rfl)).2.attrs⟩, fun h => absurd (show (listed.setIfInBounds 7 true).getD 7 true = false from h) (by rw [set_self (by rw [hls]; show 7 < 8; decide)]; decide)⟩
    · skip
      obtain ⟨n0, n1, n2, n3, n4, n5, n6, n7, n8, n9, n10, n11⟩ := twelve_box HSt.out.xbox
      obtain ⟨p0, p1, p2, p3, p4, p5, p6, p7, p8, p9, p10, p11⟩ := twelve_box HSt.out.node
      have fz := HSt.out.free 7
      clear p0 p1 p2 p3 p4 p5 p6 p8 p9 p10 p11
      clear n0 n1 n2 n3 n4 n5 n6 n8 n9 n10 n11
      obtain ⟨N, hN⟩ : ∃ N : Nat, N = 60 + r8 := ⟨_, rfl⟩
      have hN1 : (60 : Int) + (r8 : Int) = (N : Int) := by omega
      have hNb : N ≤ 100 := by omega
      have hNw : IntKind.i64.wrap (N : Int) = (N : Int) := IntWalk.i64_in _ (by omega)
      clear hN
      go_upto_region 22 with fail
      have HCl : Hid (∀ w', Below w4.heap.size w4 w' → w'.cell? ⟨w.heap.size, 7, none⟩ = some (.string ox.target) ∧ w'.cell? ⟨Bn, 7, none⟩ = some (.string ou.target) ∧ w'.frozen? ⟨Bn, 7, none⟩ = false) := Lib.hid (fun w' hb => ⟨(twelve_box (HSt.out.step hb).xbox).2.2.2.2.2.2.2.1, (twelve_box (HSt.out.step hb).node).2.2.2.2.2.2.2.1, (HSt.out.step hb).free 7⟩)
      obtain ⟨ts, hts⟩ : ∃ z, z = mkS (fillL ox.target.data.toList N) := ⟨_, rfl⟩
      have htl : ts.size = N := by rw [hts, mkS_size, fillL_len]
      have Hts := Lib.hid hts; have Htl := Lib.hid htl
      clear hts htl
      refine wp_named _ ?_
      intro l0 hl0
      obtain ⟨E, hE⟩ : ∃ E : Option Addr → Nat → Option Addr → Nat → List (Nat × Nat × Value), E = fun A6 c6 A7 c7 => [(0, 77, .pointer (some ⟨w.heap.size, 7, none⟩)), (1, 78, .string ox.target), (2, 79, .slice A6 ox.target.size c6), (3, 80, .int .i64 at_), (4, 81, .int .i64 (r8 : Int)), (5, 82, .int .i64 (N : Int)), (6, 83, .slice A7 N c7), (7, 84, .string ts), (8, 85, .pointer (some ⟨Bn, 7, none⟩))] := ⟨_, rfl⟩
      have hlen : l0.length = 117 := by rw [hl0]; rfl
      have hE1 : ∀ (A6 : Option Addr) (c6 : Nat) (A7 : Option Addr) (c7 : Nat), (E A6 c6 A7 c7).map (fun t => t.1) = [0, 1, 2, 3, 4, 5, 6, 7, 8] := fun A6 c6 A7 c7 => by rw [hE]; rfl
      have hE2 : ∀ (A6 : Option Addr) (c6 : Nat) (A7 : Option Addr) (c7 : Nat), (E A6 c6 A7 c7).map (fun t => t.2.1) = [77, 78, 79, 80, 81, 82, 83, 84, 85] := fun A6 c6 A7 c7 => by rw [hE]; rfl
      have m0 : ∀ (A6 : Option Addr) (c6 : Nat) (A7 : Option Addr) (c7 : Nat), (0, 77, (.pointer (some ⟨w.heap.size, 7, none⟩) : Value)) ∈ E A6 c6 A7 c7 := fun A6 c6 A7 c7 => by rw [hE]; simp
      have m1 : ∀ (A6 : Option Addr) (c6 : Nat) (A7 : Option Addr) (c7 : Nat), (1, 78, (.string ox.target : Value)) ∈ E A6 c6 A7 c7 := fun A6 c6 A7 c7 => by rw [hE]; simp
      have m2 : ∀ (A6 : Option Addr) (c6 : Nat) (A7 : Option Addr) (c7 : Nat), (2, 79, (.slice A6 ox.target.size c6 : Value)) ∈ E A6 c6 A7 c7 := fun A6 c6 A7 c7 => by rw [hE]; simp
      have m3 : ∀ (A6 : Option Addr) (c6 : Nat) (A7 : Option Addr) (c7 : Nat), (3, 80, (.int .i64 at_ : Value)) ∈ E A6 c6 A7 c7 := fun A6 c6 A7 c7 => by rw [hE]; simp
      have m4 : ∀ (A6 : Option Addr) (c6 : Nat) (A7 : Option Addr) (c7 : Nat), (4, 81, (.int .i64 (r8 : Int) : Value)) ∈ E A6 c6 A7 c7 := fun A6 c6 A7 c7 => by rw [hE]; simp
      have m5 : ∀ (A6 : Option Addr) (c6 : Nat) (A7 : Option Addr) (c7 : Nat), (5, 82, (.int .i64 (N : Int) : Value)) ∈ E A6 c6 A7 c7 := fun A6 c6 A7 c7 => by rw [hE]; simp
      have m6 : ∀ (A6 : Option Addr) (c6 : Nat) (A7 : Option Addr) (c7 : Nat), (6, 83, (.slice A7 N c7 : Value)) ∈ E A6 c6 A7 c7 := fun A6 c6 A7 c7 => by rw [hE]; simp
      have m7 : ∀ (A6 : Option Addr) (c6 : Nat) (A7 : Option Addr) (c7 : Nat), (7, 84, (.string ts : Value)) ∈ E A6 c6 A7 c7 := fun A6 c6 A7 c7 => by rw [hE]; simp
      have m8 : ∀ (A6 : Option Addr) (c6 : Nat) (A7 : Option Addr) (c7 : Nat), (8, 85, (.pointer (some ⟨Bn, 7, none⟩) : Value)) ∈ E A6 c6 A7 c7 := fun A6 c6 A7 c7 => by rw [hE]; simp
      have hn1 : ∀ (A6 : Option Addr) (c6 : Nat) (A7 : Option Addr) (c7 : Nat), ((E A6 c6 A7 c7).map fun t => t.1).Nodup := fun A6 c6 A7 c7 => by rw [hE1]; decide
      have hn2 : ∀ (A6 : Option Addr) (c6 : Nat) (A7 : Option Addr) (c7 : Nat), ((E A6 c6 A7 c7).map fun t => t.2.1).Nodup := fun A6 c6 A7 c7 => by rw [hE2]; decide
      have hlt : ∀ (A6 : Option Addr) (c6 : Nat) (A7 : Option Addr) (c7 : Nat), ∀ t ∈ E A6 c6 A7 c7, t.2.1 < l0.length := fun A6 c6 A7 c7 => fun t ht => by
        have h1 : t.2.1 ∈ (E A6 c6 A7 c7).map fun t => t.2.1 := List.mem_map.2 ⟨t, ht, rfl⟩
        rw [hE2] at h1
        rw [hlen]
        simp only [List.mem_cons, List.mem_nil_iff, or_false] at h1
        omega
      have Xm0 := Lib.hid m0
      have Xm1 := Lib.hid m1
      have Xm2 := Lib.hid m2
      have Xm3 := Lib.hid m3
      have Xm4 := Lib.hid m4
      have Xm5 := Lib.hid m5
      have Xm6 := Lib.hid m6
      have Xm7 := Lib.hid m7
      have Xm8 := Lib.hid m8
      have Xhn1 := Lib.hid hn1; have Xhn2 := Lib.hid hn2; have Xhlt := Lib.hid hlt; have XhE1 := Lib.hid hE1; have XhE2 := Lib.hid hE2; have XhE := Lib.hid hE; have Xl0 := Lib.hid hl0
      clear m0 m1 m2 m3 m4 m5 m6 m7 m8 hn1 hn2 hlt hE1 hE2 hE hlen hl0
      refine wp_region_any (by kernel_rfl) ?_
      refine wpAny_inv (by kernel_rfl) (fun listed a' w' => ∃ (A6 : Option Addr) (c6 : Nat) (A7 : Option Addr) (c7 : Nat), Slots (E A6 c6 A7 c7) l0 listed a' ∧ (listed.getD 9 true = true → (∀ j, j < 9 → listed.getD j true = true) ∧ OddSt L w w.heap.size (w.heap.size + 1) Bn v3 (rowF gs) (boxO ox Adx cdx Aax cax Akx lkx ckx) ox Adx cdx Aax cax { ou with target := ts } Ad cd Aa ca L3 w') ∧ (listed.getD 9 true = false → Below w4.heap.size w4 w' ∧ (listed.getD 2 true = true → SliceR Rp.byte (fun _ _ => True) w' ox.target.data.toList (.slice A6 ox.target.size c6)) ∧ (listed.getD 6 true = true → SliceR Rp.byte (fun _ _ => True) w' (fillL ox.target.data.toList N) (.slice A7 N c7)))) ?step ?fin _ _ _ _ ?hs ?hf ?init
      case hs => simp
      case hf => simp
      case init =>
        refine ⟨none, 0, none, 0, ?_, fun h => absurd (show (Array.replicate 10 false).getD 9 true = true from h) (by decide), fun _ => ⟨(Below.refl _ _).drew, fun h => ?_, fun h => ?_⟩⟩
        · exact Slots.start (exp := E (none) (0) (none) (0)) (l0 := l0) (m := 10) (fun t ht => by
            have h1 : t.1 ∈ (E (none) (0) (none) (0)).map fun t => t.1 := List.mem_map.2 ⟨t, ht, rfl⟩
            rw [XhE1.out] at h1
            simp only [List.mem_cons, List.mem_nil_iff, or_false] at h1
            omega)
        · exact absurd (show (Array.replicate 10 false).getD 2 true = true from h) (by decide)
        · exact absurd (show (Array.replicate 10 false).getD 6 true = true from h) (by decide)
      case fin =>
        intro listed a' w' hls hall ⟨A6, c6, A7, c7, hS, hL, _⟩
        obtain ⟨_, H7⟩ := hL (hall 9 (by show 9 < 10; decide))
        have hf := hS.frame (fun t ht => hall _ (by
          have h1 : t.1 ∈ (E A6 c6 A7 c7).map fun t => t.1 := List.mem_map.2 ⟨t, ht, rfl⟩
          rw [XhE1.out] at h1
          simp only [List.mem_cons, List.mem_nil_iff, or_false] at h1
          show t.1 < 10
          omega)) (Xhn2.out A6 c6 A7 c7) (Xhlt.out A6 c6 A7 c7)
        rw [XhE.out, Xl0.out] at hf
        simp only [filled, List.foldl_cons, List.foldl_nil, List.set_cons_zero, List.set_cons_succ] at hf
        have HS7 := Lib.hid H7
        rw [hf]
        clear hf hS hL H7
        go_wp2_with fail
        go_meet
        case rel => exact ⟨rfl, { ou with target := ts }, Ad, cd, Aa, ca, L3, HS7⟩
      case step =>
        intro listed a' w' i hls hI hmem
        have hr := ready_of hls hmem
        have hi : i < 10 := hr.1
        have hcase : i = 0 ∨ i = 1 ∨ i = 2 ∨ i = 3 ∨ i = 4 ∨ i = 5 ∨ i = 6 ∨ i = 7 ∨ i = 8 ∨ i = 9 := by omega
        rcases hcase with rfl | rfl | rfl | rfl | rfl | rfl | rfl | rfl | rfl | rfl
        · obtain ⟨A6, c6, A7, c7, hS, hL, hNo⟩ := hI
          have hl : listed.getD 9 true = false := by
            cases h : listed.getD 9 true with
            | false => rfl
            | true => exact absurd ((hL h).1 0 (by decide)) (by rw [hr.2.1]; decide)
          obtain ⟨hB, hF0, hF1⟩ := hNo hl
          have e7 := hS.at0 7 (.pointer (some ⟨w.heap.size, 0, none⟩)) (by rw [XhE2.out]; decide) (by rw [Xl0.out]; rfl)
          refine wpOp_plain' rfl rfl fun K' hK => ?_
          go_simp
          exact hK _ _ ⟨A6, c6, A7, c7, hS.put' (Xhn1.out A6 c6 A7 c7) (Xhn2.out A6 c6 A7 c7) (Xhlt.out A6 c6 A7 c7) (Xm0.out A6 c6 A7 c7), fun h => absurd h (by rw [set_get (by decide), hl]; decide), fun _ => ⟨hB, fun h => hF0 (by rwa [set_get (by decide)] at h), fun h => hF1 (by rwa [set_get (by decide)] at h)⟩⟩
        · obtain ⟨A6, c6, A7, c7, hS, hL, hNo⟩ := hI
          have hl : listed.getD 9 true = false := by
            cases h : listed.getD 9 true with
            | false => rfl
            | true => exact absurd ((hL h).1 1 (by decide)) (by rw [hr.2.1]; decide)
          obtain ⟨hB, hF0, hF1⟩ := hNo hl
          obtain ⟨n7, p7, fz⟩ := HCl.out w' hB
          have d0 := hr.2.2 _ rfl ⟨0, .data⟩ (by simp) rfl
          have e77 := hS.at_ (Xm0.out A6 c6 A7 c7) d0
          refine wpOp_plain' rfl rfl fun K' hK => ?_
          go_simp
          exact hK _ _ ⟨A6, c6, A7, c7, hS.put' (Xhn1.out A6 c6 A7 c7) (Xhn2.out A6 c6 A7 c7) (Xhlt.out A6 c6 A7 c7) (Xm1.out A6 c6 A7 c7), fun h => absurd h (by rw [set_get (by decide), hl]; decide), fun _ => ⟨hB, fun h => hF0 (by rwa [set_get (by decide)] at h), fun h => hF1 (by rwa [set_get (by decide)] at h)⟩⟩
        · obtain ⟨A6, c6, A7, c7, hS, hL, hNo⟩ := hI
          have hl : listed.getD 9 true = false := by
            cases h : listed.getD 9 true with
            | false => rfl
            | true => exact absurd ((hL h).1 2 (by decide)) (by rw [hr.2.1]; decide)
          obtain ⟨hB, hF0, hF1⟩ := hNo hl
          obtain ⟨n7, p7, fz⟩ := HCl.out w' hB
          have d1 := hr.2.2 _ rfl ⟨1, .data⟩ (by simp) rfl
          have e78 := hS.at_ (Xm1.out A6 c6 A7 c7) d1
          refine wpOp_plain' rfl rfl fun K' hK => ?_
          skip
          refine wp_bytesL (.tmp 78) 9 23 5 rfl Try.underlying9 Try.underlying23 Try.underlying5 w' ox.target (by simpa [Act.eval] using e78) fx9 ?_
          intro c6' w1 hS6 y6
          have hS2 : Slots (E (some ⟨w'.heap.size, 0, none⟩) c6' A7 c7) l0 listed a' := by
            rw [XhE.out] at hS ⊢
            exact Slots.turn1 (P := [(0, 77, .pointer (some ⟨w.heap.size, 7, none⟩)), (1, 78, .string ox.target)]) (Q := [(3, 80, .int .i64 at_), (4, 81, .int .i64 (r8 : Int)), (5, 82, .int .i64 (N : Int)), (6, 83, .slice A7 N c7), (7, 84, .string ts), (8, 85, .pointer (some ⟨Bn, 7, none⟩))]) hS hr.2.1
          exact hK _ _ ⟨(some ⟨w'.heap.size, 0, none⟩), c6', A7, c7, hS2.put' (Xhn1.out (some ⟨w'.heap.size, 0, none⟩) c6' A7 c7) (Xhn2.out (some ⟨w'.heap.size, 0, none⟩) c6' A7 c7) (Xhlt.out (some ⟨w'.heap.size, 0, none⟩) c6' A7 c7) (Xm2.out (some ⟨w'.heap.size, 0, none⟩) c6' A7 c7), fun h => absurd h (by rw [set_get (by decide), hl]; decide), fun _ => ⟨hB.trans (y6.mono hB.size), fun _ => hS6, fun h => (hF1 (by rwa [set_get (by decide)] at h)).mono (sub_any y6)⟩⟩
        · obtain ⟨A6, c6, A7, c7, hS, hL, hNo⟩ := hI
          have hl : listed.getD 9 true = false := by
            cases h : listed.getD 9 true with
            | false => rfl
            | true => exact absurd ((hL h).1 3 (by decide)) (by rw [hr.2.1]; decide)
          obtain ⟨hB, hF0, hF1⟩ := hNo hl
          have e2 := hS.at0 2 (.int .i64 at_) (by rw [XhE2.out]; decide) (by rw [Xl0.out]; rfl)
          refine wpOp_plain' rfl rfl fun K' hK => ?_
          go_simp
          exact hK _ _ ⟨A6, c6, A7, c7, hS.put' (Xhn1.out A6 c6 A7 c7) (Xhn2.out A6 c6 A7 c7) (Xhlt.out A6 c6 A7 c7) (Xm3.out A6 c6 A7 c7), fun h => absurd h (by rw [set_get (by decide), hl]; decide), fun _ => ⟨hB, fun h => hF0 (by rwa [set_get (by decide)] at h), fun h => hF1 (by rwa [set_get (by decide)] at h)⟩⟩
        · obtain ⟨A6, c6, A7, c7, hS, hL, hNo⟩ := hI
          have hl : listed.getD 9 true = false := by
            cases h : listed.getD 9 true with
            | false => rfl
            | true => exact absurd ((hL h).1 4 (by decide)) (by rw [hr.2.1]; decide)
          obtain ⟨hB, hF0, hF1⟩ := hNo hl
          have d3 := hr.2.2 _ rfl ⟨3, .data⟩ (by simp) rfl
          have e80 := hS.at_ (Xm3.out A6 c6 A7 c7) d3
          refine wpOp_plain' rfl rfl fun K' hK => ?_
          go_simp
          refine (around_any at_ 8 w' hat.1 hat.2 (by decide) (by decide)).mono ?_
          rintro e w1 ⟨rfl, rfl⟩
          rw [Hr8.out]
          exact hK _ _ ⟨A6, c6, A7, c7, hS.put' (Xhn1.out A6 c6 A7 c7) (Xhn2.out A6 c6 A7 c7) (Xhlt.out A6 c6 A7 c7) (Xm4.out A6 c6 A7 c7), fun h => absurd h (by rw [set_get (by decide), hl]; decide), fun _ => ⟨hB, fun h => hF0 (by rwa [set_get (by decide)] at h), fun h => hF1 (by rwa [set_get (by decide)] at h)⟩⟩
        · obtain ⟨A6, c6, A7, c7, hS, hL, hNo⟩ := hI
          have hl : listed.getD 9 true = false := by
            cases h : listed.getD 9 true with
            | false => rfl
            | true => exact absurd ((hL h).1 5 (by decide)) (by rw [hr.2.1]; decide)
          obtain ⟨hB, hF0, hF1⟩ := hNo hl
          have d4 := hr.2.2 _ rfl ⟨4, .data⟩ (by simp) rfl
          have e81 := hS.at_ (Xm4.out A6 c6 A7 c7) d4
          refine wpOp_plain' rfl rfl fun K' hK => ?_
          go_simp
          exact hK _ _ ⟨A6, c6, A7, c7, hS.put' (Xhn1.out A6 c6 A7 c7) (Xhn2.out A6 c6 A7 c7) (Xhlt.out A6 c6 A7 c7) (Xm5.out A6 c6 A7 c7), fun h => absurd h (by rw [set_get (by decide), hl]; decide), fun _ => ⟨hB, fun h => hF0 (by rwa [set_get (by decide)] at h), fun h => hF1 (by rwa [set_get (by decide)] at h)⟩⟩
        · obtain ⟨A6, c6, A7, c7, hS, hL, hNo⟩ := hI
          have hl : listed.getD 9 true = false := by
            cases h : listed.getD 9 true with
            | false => rfl
            | true => exact absurd ((hL h).1 6 (by decide)) (by rw [hr.2.1]; decide)
          obtain ⟨hB, hF0, hF1⟩ := hNo hl
          have d2 := hr.2.2 _ rfl ⟨2, .data⟩ (by simp) rfl
          have e79 := hS.at_ (Xm2.out A6 c6 A7 c7) d2
          have d5 := hr.2.2 _ rfl ⟨5, .data⟩ (by simp) rfl
          have e82 := hS.at_ (Xm5.out A6 c6 A7 c7) d5
          refine wpOp_plain' rfl rfl fun K' hK => ?_
          go_simp
          refine (fill_any ox.target.data.toList _ N (fun _ _ => True) w' (by omega) (hF0 d2)).mono ?_
          rintro e w1 ⟨v7, rfl, h7, y7⟩
          obtain ⟨A7', c7', rfl, _, _⟩ := h7.form
          have hS7 : SliceR Rp.byte (fun _ _ => True) w1 (fillL ox.target.data.toList N) (.slice A7' N c7') := h7.reads (d := Rp.byte) (bytes_reps _ _ _) (fillL_len _ _) (by simp only [big]; omega) (fun _ _ _ _ => trivial)
          have hS2 : Slots (E A6 c6 A7' c7') l0 listed a' := by
            rw [XhE.out] at hS ⊢
            exact Slots.turn1 (P := [(0, 77, .pointer (some ⟨w.heap.size, 7, none⟩)), (1, 78, .string ox.target), (2, 79, .slice A6 ox.target.size c6), (3, 80, .int .i64 at_), (4, 81, .int .i64 (r8 : Int)), (5, 82, .int .i64 (N : Int))]) (Q := [(7, 84, .string ts), (8, 85, .pointer (some ⟨Bn, 7, none⟩))]) hS hr.2.1
          exact hK _ _ ⟨A6, c6, A7', c7', hS2.put' (Xhn1.out A6 c6 A7' c7') (Xhn2.out A6 c6 A7' c7') (Xhlt.out A6 c6 A7' c7') (Xm6.out A6 c6 A7' c7'), fun h => absurd h (by rw [set_get (by decide), hl]; decide), fun _ => ⟨hB.trans (y7.mono hB.size), fun h => (hF0 (by rwa [set_get (by decide)] at h)).mono (sub_any y7), fun _ => hS7⟩⟩
        · obtain ⟨A6, c6, A7, c7, hS, hL, hNo⟩ := hI
          have hl : listed.getD 9 true = false := by
            cases h : listed.getD 9 true with
            | false => rfl
            | true => exact absurd ((hL h).1 7 (by decide)) (by rw [hr.2.1]; decide)
          obtain ⟨hB, hF0, hF1⟩ := hNo hl
          obtain ⟨n7, p7, fz⟩ := HCl.out w' hB
          have d6 := hr.2.2 _ rfl ⟨6, .data⟩ (by simp) rfl
          have e83 := hS.at_ (Xm6.out A6 c6 A7 c7) d6
          refine wpOp_plain' rfl rfl fun K' hK => ?_
          have hcv7 : (convert 23 9 (.slice A7 N c7)).run Try.prog w' = .ok (.string ts) w' := by rw [Hts.out]; exact (hF1 d6).toStr (P := Try.prog) 23 5 9 Try.underlying23 Try.underlying5 Try.underlying9
          go_simp
          skip
          exact hK _ _ ⟨A6, c6, A7, c7, hS.put' (Xhn1.out A6 c6 A7 c7) (Xhn2.out A6 c6 A7 c7) (Xhlt.out A6 c6 A7 c7) (Xm7.out A6 c6 A7 c7), fun h => absurd h (by rw [set_get (by decide), hl]; decide), fun _ => ⟨hB, fun h => hF0 (by rwa [set_get (by decide)] at h), fun h => hF1 (by rwa [set_get (by decide)] at h)⟩⟩
        · obtain ⟨A6, c6, A7, c7, hS, hL, hNo⟩ := hI
          have hl : listed.getD 9 true = false := by
            cases h : listed.getD 9 true with
            | false => rfl
            | true => exact absurd ((hL h).1 8 (by decide)) (by rw [hr.2.1]; decide)
          obtain ⟨hB, hF0, hF1⟩ := hNo hl
          have e11 := hS.at0 11 (.pointer (some ⟨Bn, 0, none⟩)) (by rw [XhE2.out]; decide) (by rw [Xl0.out]; rfl)
          refine wpOp_plain' rfl rfl fun K' hK => ?_
          go_simp
          exact hK _ _ ⟨A6, c6, A7, c7, hS.put' (Xhn1.out A6 c6 A7 c7) (Xhn2.out A6 c6 A7 c7) (Xhlt.out A6 c6 A7 c7) (Xm8.out A6 c6 A7 c7), fun h => absurd h (by rw [set_get (by decide), hl]; decide), fun _ => ⟨hB, fun h => hF0 (by rwa [set_get (by decide)] at h), fun h => hF1 (by rwa [set_get (by decide)] at h)⟩⟩
        · obtain ⟨A6, c6, A7, c7, hS, hL, hNo⟩ := hI
          have hl : listed.getD 9 true = false := hr.2.1
          obtain ⟨hB, hF0, hF1⟩ := hNo hl
          have d8 := hr.2.2 _ rfl ⟨8, .data⟩ (by simp) rfl
          have e85 := hS.at_ (Xm8.out A6 c6 A7 c7) d8
          have d7 := hr.2.2 _ rfl ⟨7, .data⟩ (by simp) rfl
          have e84 := hS.at_ (Xm7.out A6 c6 A7 c7) d7
          refine wpOp_plain' rfl rfl fun K' hK => ?_
          obtain ⟨n7, p7, fz⟩ := HCl.out w' hB
          go_simp
          skip
          have hall2 : ∀ j, j < 9 → (listed.setIfInBounds 9 true).getD j true = true := fun j hj => by
            rw [set_get (by omega)]
            have hc : j = 0 ∨ j = 1 ∨ j = 2 ∨ j = 3 ∨ j = 4 ∨ j = 5 ∨ j = 6 ∨ j = 7 ∨ j = 8 := by omega
            rcases hc with rfl | rfl | rfl | rfl | rfl | rfl | rfl | rfl | rfl
            · exact hr.2.2 _ rfl ⟨0, .phase⟩ (by simp) rfl
            · exact hr.2.2 _ rfl ⟨1, .phase⟩ (by simp) rfl
            · exact hr.2.2 _ rfl ⟨2, .phase⟩ (by simp) rfl
            · exact hr.2.2 _ rfl ⟨3, .phase⟩ (by simp) rfl
            · exact hr.2.2 _ rfl ⟨4, .phase⟩ (by simp) rfl
            · exact hr.2.2 _ rfl ⟨5, .phase⟩ (by simp) rfl
            · exact hr.2.2 _ rfl ⟨6, .phase⟩ (by simp) rfl
            · exact hr.2.2 _ rfl ⟨7, .data⟩ (by simp) rfl
            · exact hr.2.2 _ rfl ⟨8, .data⟩ (by simp) rfl
          exact hK _ _ ⟨A6, c6, A7, c7, hS.skip' (v := undef) (XhE1.out A6 c6 A7 c7) (by decide), fun _ => ⟨hall2, (HSt.out.step hB).set 7 (.string ts) _ Ad cd Aa ca (by first | rfl | simp [boxC]) ⟨HFo.out.kind, HFo.out.mode, HFo.out.uid, HFo.out.gid, HFo.out.mtime, HFo.out.major, HFo.out.minor, HFo.out.name, (by show ts.size ≤ big; rw [Htl.out]; simp only [big]; omega)⟩ ⟨HTo.out.name, HTo.out.data, HTo.out.attrs⟩ (HSt.out.step hB).data (HSt.out.step hB).attrs⟩, fun h => absurd (show (listed.setIfInBounds 9 true).getD 9 true = false from h) (by rw [set_self (by rw [hls]; show 9 < 10; decide)]; decide)⟩
    · skip
      obtain ⟨n0, n1, n2, n3, n4, n5, n6, n7, n8, n9, n10, n11⟩ := twelve_box HSt.out.xbox
      obtain ⟨p0, p1, p2, p3, p4, p5, p6, p7, p8, p9, p10, p11⟩ := twelve_box HSt.out.node
      have fz := HSt.out.free 8
      clear p0 p1 p2 p3 p4 p5 p6 p7 p9 p10 p11
      clear n0 n1 n2 n3 n4 n5 n6 n7 n9 n10 n11
      go_upto_region 25 with fail
      obtain ⟨w6, hw6⟩ : ∃ y, y = w4.setCell ⟨Bn, 8, none⟩ (.int .i64 ox.major) := ⟨_, rfl⟩
      have HS6 : Hid (OddSt L w w.heap.size (w.heap.size + 1) Bn v3 (rowF gs) (boxO ox Adx cdx Aax cax Akx lkx ckx) ox Adx cdx Aax cax { ou with major := ox.major } Ad cd Aa ca L3 w6) := Lib.hid (by rw [hw6]; exact HSt.out.set 8 (.int .i64 ox.major) _ Ad cd Aa ca (by first | rfl | simp [boxC]) ⟨HFo.out.kind, HFo.out.mode, HFo.out.uid, HFo.out.gid, HFo.out.mtime, HFx.out.major, HFo.out.minor, HFo.out.name, HFo.out.target⟩ ⟨HTo.out.name, HTo.out.data, HTo.out.attrs⟩ HSt.out.data HSt.out.attrs)
      rw [← hw6]
      clear n8 p8 fz hw6
      obtain ⟨n0, n1, n2, n3, n4, n5, n6, n7, n8, n9, n10, n11⟩ := twelve_box HS6.out.xbox
      obtain ⟨p0, p1, p2, p3, p4, p5, p6, p7, p8, p9, p10, p11⟩ := twelve_box HS6.out.node
      have fz := HS6.out.free 9
      clear p0 p1 p2 p3 p4 p5 p6 p7 p8 p10 p11
      clear n0 n1 n2 n3 n4 n5 n6 n7 n8 n10 n11
      go_wp2_with fail
      go_meet
      case rel => exact ⟨rfl, { ou with major := ox.major, minor := ox.minor }, Ad, cd, Aa, ca, L3, Lib.hid (HS6.out.set 9 (.int .i64 ox.minor) _ Ad cd Aa ca (by first | rfl | simp [boxC]) ⟨HFo.out.kind, HFo.out.mode, HFo.out.uid, HFo.out.gid, HFo.out.mtime, HFx.out.major, HFx.out.minor, HFo.out.name, HFo.out.target⟩ ⟨HTo.out.name, HTo.out.data, HTo.out.attrs⟩ HS6.out.data HS6.out.attrs)⟩
    · skip
      obtain ⟨n0, n1, n2, n3, n4, n5, n6, n7, n8, n9, n10, n11⟩ := twelve_box HSt.out.xbox
      obtain ⟨p0, p1, p2, p3, p4, p5, p6, p7, p8, p9, p10, p11⟩ := twelve_box HSt.out.node
      have fz := HSt.out.free 10
      clear p0 p1 p2 p3 p4 p5 p6 p7 p8 p9 p11
      clear n0 n1 n2 n3 n4 n5 n6 n7 n8 n9 n11
      obtain ⟨m, hm⟩ : ∃ m, m = min ox.attrs.length 6 := ⟨_, rfl⟩
      have hmI : min (ox.attrs.length : Int) 6 = (m : Int) := by omega
      have hm6 : m ≤ 6 := by omega
      have hml : m ≤ ox.attrs.length := by omega
      have hmlI : (m : Int) ≤ (cax : Int) := by omega
      clear hm
      have HTk : Hid (SliceR attrR L3 w4 (ox.attrs.take m) (.slice Aax m cax)) := Lib.hid (HSt.out.xattrs.take m hml)
      obtain ⟨acs, hsrc, hreps⟩ := HTk.out.src
      have hal : (ox.attrs.take m).length = m := by rw [List.length_take]; omega
      rw [hal] at hsrc
      have Hsrc := Lib.hid hsrc; have Hreps := Lib.hid hreps; have Hal := Lib.hid hal
      clear hsrc hreps hal
      go_wp2_with (at_builtin; refine wpList_appB rfl (.tmp 96) (.tmp 103) 24 88 rfl w4.heap.size _ 2 32 Try.underlying24 Try.infoAttr rfl (by decide) w4 (.slice none 0 0) rfl _ rfl 0 [] (Blk.nil _ _ _ _) m acs Hsrc.out (Hreps.out.one) (by omega) (Nat.le_refl _) ?_)
      intro v7 w7 hB hg1 _
      have hb : Below w4.heap.size w4 w7 := (Below.refl _ _).grown hg1 (Nat.le_refl _) (fun k hk => by simp [Value.ownBlock] at hk)
      try rw [List.nil_append, Nat.zero_add] at hB
      obtain ⟨A7, c7, rfl, _, _⟩ := hB.form
      obtain ⟨L7, hS7, hX7⟩ := hB.known (d := attrR) hb HSt.out.ext.ok (Hreps.out.mono (sub_same hb)) Hal.out (by simp only [big]; omega)
      have HB7 := Lib.hid hS7
      have HS7 := Lib.hid (HSt.out.to hX7)
      clear hB hg1 hb hS7 hX7 n10 p10 fz
      obtain ⟨p0, p1, p2, p3, p4, p5, p6, p7, p8, p9, p10, p11⟩ := twelve_box HS7.out.node
      have fz := HS7.out.free 10
      clear p0 p1 p2 p3 p4 p5 p6 p7 p8 p9 p11
      go_wp2_with fail
      go_meet
      case rel => exact ⟨rfl, { ou with attrs := ox.attrs.take m }, Ad, cd, A7, c7, L7, Lib.hid (HS7.out.set 10 (.slice A7 m c7) _ Ad cd A7 c7 (by simp [boxC, Hal.out]) ⟨HFo.out.kind, HFo.out.mode, HFo.out.uid, HFo.out.gid, HFo.out.mtime, HFo.out.major, HFo.out.minor, HFo.out.name, HFo.out.target⟩ ⟨HTo.out.name, HTo.out.data, by show (ox.attrs.take m).length ≤ 100; rw [Hal.out]; omega⟩ HS7.out.data (by show SliceR attrR L7 w7 (ox.attrs.take m) (.slice A7 (ox.attrs.take m).length c7); rw [Hal.out]; exact HB7.out))⟩
    · skip
      obtain ⟨n0, n1, n2, n3, n4, n5, n6, n7, n8, n9, n10, n11⟩ := twelve_box HSt.out.xbox
      obtain ⟨p0, p1, p2, p3, p4, p5, p6, p7, p8, p9, p10, p11⟩ := twelve_box HSt.out.node
      have fz := HSt.out.free 7
      clear p0 p1 p2 p3 p4 p5 p6 p8 p9 p10 p11
      clear n0 n1 n2 n3 n4 n5 n6 n8 n9 n10 n11
      go_upto_region 6 with fail
      obtain ⟨w6, hw6⟩ : ∃ y, y = w4.setCell ⟨Bn, 7, none⟩ (.string ox.target) := ⟨_, rfl⟩
      have HS6 : Hid (OddSt L w w.heap.size (w.heap.size + 1) Bn v3 (rowF gs) (boxO ox Adx cdx Aax cax Akx lkx ckx) ox Adx cdx Aax cax { ou with target := ox.target } Ad cd Aa ca L3 w6) := Lib.hid (by rw [hw6]; exact HSt.out.set 7 (.string ox.target) _ Ad cd Aa ca (by first | rfl | simp [boxC]) ⟨HFo.out.kind, HFo.out.mode, HFo.out.uid, HFo.out.gid, HFo.out.mtime, HFo.out.major, HFo.out.minor, HFo.out.name, HFx.out.target⟩ ⟨HTo.out.name, HTo.out.data, HTo.out.attrs⟩ HSt.out.data HSt.out.attrs)
      rw [← hw6]
      clear n7 p7 fz hw6
      obtain ⟨n0, n1, n2, n3, n4, n5, n6, n7, n8, n9, n10, n11⟩ := twelve_box HS6.out.xbox
      obtain ⟨p0, p1, p2, p3, p4, p5, p6, p7, p8, p9, p10, p11⟩ := twelve_box HS6.out.node
      have fz := HS6.out.free 6
      clear p0 p1 p2 p3 p4 p5 p7 p8 p9 p10 p11
      clear n0 n1 n2 n3 n4 n5 n7 n8 n9 n10 n11
      go_wp2_with fail
      refine (few_any ox.data _ 3 L3 w6 (by decide) (by decide) HS6.out.xdata).mono ?_
      rintro e w7 ⟨v7, rfl, hB, hb⟩
      have h3l : (ox.data.take (3 : Int).toNat).length ≤ 3 := List.length_take_le _ _
      obtain ⟨d3, hd3⟩ : ∃ d, d = ox.data.take (3 : Int).toNat := ⟨_, rfl⟩
      rw [← hd3] at hB h3l
      obtain ⟨A7, c7, rfl, _, _⟩ := hB.form
      obtain ⟨L7, hS7, hX7⟩ := hB.known (d := Rp.byte) hb HS6.out.ext.ok (bytes_reps _ _ _) rfl (by simp only [big]; omega)
      have HB7 := Lib.hid hS7
      have HS7 := Lib.hid (HS6.out.to hX7)
      clear hB hb hS7 hX7 n6 p6 hd3 fz
      obtain ⟨p0, p1, p2, p3, p4, p5, p6, p7, p8, p9, p10, p11⟩ := twelve_box HS7.out.node
      have fz := HS7.out.free 6
      clear p0 p1 p2 p3 p4 p5 p7 p8 p9 p10 p11
      go_wp2_with fail
      go_meet
      case rel => exact ⟨rfl, { ou with target := ox.target, data := d3 }, A7, c7, Aa, ca, L7, Lib.hid (HS7.out.set 6 (.slice A7 d3.length c7) _ A7 c7 Aa ca (by first | rfl | simp [boxC]) ⟨HFo.out.kind, HFo.out.mode, HFo.out.uid, HFo.out.gid, HFo.out.mtime, HFo.out.major, HFo.out.minor, HFo.out.name, HFx.out.target⟩ ⟨HTo.out.name, by show d3.length ≤ 5000; omega, HTo.out.attrs⟩ HB7.out HS7.out.attrs)⟩
  case rest =>
    obtain ⟨rfl, o', Ad', cd', Aa', ca', L', HSt'⟩ := hcut
    obtain ⟨w6, hw6⟩ : ∃ x, x = wc := ⟨_, rfl⟩
    subst hw6
    clear HSt
    have hvg : v3.ownBlock = some g := by rw [Hvg.out]; rfl
    obtain ⟨cells6, ho6⟩ := HSt'.out.row
    obtain ⟨_, _, _, _, _, _, hv6, _, _, _, hg6, hgd6, _, hcl6, _, _, _, _, _, hcell6⟩ := out_at ho6 k hkl
    rw [Hvg.out] at hv6
    injection hv6 with e1 e2 e3
    injection e1 with e1
    injection e1 with e1 _ _
    subst e1
    clear e2 e3
    have hth : w6.there g (k * 14 + 2) 12 := fun j hj => by
      have hk14 : k * 14 + 14 ≤ cells6.length := by rw [hcl6]; omega
      obtain ⟨h1, h2⟩ := hcell6 (k * 14 + 2 + j) _ (List.getElem?_eq_getElem (by omega))
      exact ⟨by rw [h1]; rfl, h2⟩
    have Hth := Lib.hid hth
    have HN : Hid (∃ cells', Out entR L' (w6.setCells g (k * 14 + 2) (nodeV o' (.slice Ad' o'.data.length cd') (.slice Aa' o'.attrs.length ca') (.slice none 0 0))) (w.heap.size + 2) 42 v3 (oddE (rowF gs) k o') cells') := Lib.hid (ho6.node k hkl hvg o' Ad' cd' Aa' ca' HSt'.out.fits HSt'.out.data HSt'.out.attrs)
    have hgw : w.heap.size ≤ g := by have := Hs2.out; omega
    have HE6 : Hid (Ext L w L' (w6.setCells g (k * 14 + 2) (nodeV o' (.slice Ad' o'.data.length cd') (.slice Aa' o'.attrs.length ca') (.slice none 0 0)))) := Lib.hid (Ext.setCells _ _ HSt'.out.ext hgw)
    have HNode := Lib.hid HSt'.out.node
    have HDead : Hid (∀ j, ¬ L' (w.heap.size + 1) j) := Lib.hid (fun j => (HSt'.out.dead j).1)
    have hgz : g ≠ w.heap.size + 1 := by have := Hs2.out; omega
    have HZ6 : Hid ((w6.setCells g (k * 14 + 2) (nodeV o' (.slice Ad' o'.data.length cd') (.slice Aa' o'.attrs.length ca') (.slice none 0 0))).heap[w.heap.size + 1]? = some zeroB) := Lib.hid (by
      rw [(setCells_grown g _ _ w6).block _ (Array.getElem?_eq_some_iff.1 HSt'.out.zero).1 (fun e => hgz (by injection e with e; exact e.symm))]; exact HSt'.out.zero)
    have hto := odd_tree gs k o' HSt'.out.tiny
    clear ho6 hcell6 hcl6 hth HSt'
    have hnv : (boxC o' Ad' cd' Aa' ca').toList = nodeV o' (.slice Ad' o'.data.length cd') (.slice Aa' o'.attrs.length ca') (.slice none 0 0) := rfl
    obtain ⟨w7, hw7⟩ : ∃ y, y = w6.setCells g (k * 14 + 2) (nodeV o' (.slice Ad' o'.data.length cd') (.slice Aa' o'.attrs.length ca') (.slice none 0 0)) := ⟨_, rfl⟩
    rw [← hw7] at HN HE6 HZ6
    have hw7' : w6.setCells g (k * 14 + 2) (boxC o' Ad' cd' Aa' ca').toList = w7 := by rw [hnv, hw7]
    have Hw7 := Lib.hid hw7'
    clear hnv hw7 hw7'
    have Hone : Hid ((boxC o' Ad' cd' Aa' ca').all (·.oneCell') = true) := Lib.hid (by simp [boxC, Value.oneCell'])
    have Hth2 : Hid (w6.there g (k * 14 + 2) (boxC o' Ad' cd' Aa' ca').size) := Lib.hid Hth.out
    have Hbox : Hid (w6.heap[Bn]? = some (.cells (boxC o' Ad' cd' Aa' ca') 27 (0, 0))) := Lib.hid HNode.out
    have hki : (k : Int) < ((rowF gs).length : Int) := by omega
    go_upto_region 29 with fail
    refine wp_region_lit ?_
    refine wpList_plain rfl fun K1 hK1 => ?_
    go_simp
    refine hK1 _ _ ?_
    refine wpList_plain rfl fun K2 hK2 => ?_
    go_simp
    refine hK2 _ _ ?_
    refine wpList_load_row rfl 27 (.tmp 11) rfl Bn rfl _ (boxC o' Ad' cd' Aa' ca') _ _ Hbox.out Try.underlying27 rfl (by kernel_rfl) ?_
    refine wpList_plain rfl fun K3 hK3 => ?_
    go_simp
    refine hK3 _ _ ?_
    refine wpList_plain rfl fun K4 hK4 => ?_
    go_simp
    refine hK4 _ _ ?_
    refine wpList_store_mid rfl 27 (.tmp 110) (.tmp 108) rfl g (k * 14 + 2) (boxC o' Ad' cd' Aa' ca') rfl rfl Hth2.out (by kernel_rfl) Hone.out ?_
    refine wpList_nil ?_
    rw [Hw7.out]
    go_upto_region 30 with fail
    obtain ⟨cells7, ho7⟩ := HN.out
    obtain ⟨rows, hrows⟩ : ∃ r, r = oddE (rowF gs) k o' := ⟨_, rfl⟩
    have hrl : rows.length = (rowF gs).length := by rw [hrows]; unfold oddE; rw [List.length_set]
    rw [← hrows] at ho7 hto
    obtain ⟨t1, t2, t3, t4⟩ := hto
    have hrl1 : 0 < rows.length := by omega
    have hrl2 : rows.length ≤ 13 := by omega
    obtain ⟨L8, hS8, _, hX8, hL8⟩ := ho7.publish_ext HE6.out (by omega) (by simp only [big]; omega)
    have HD8 : Hid (∀ j, ¬ L8 (w.heap.size + 1) j) := Lib.hid (fun j => by
      rw [hL8 (w.heap.size + 1) (by rw [hvg]; intro e; injection e with e; omega)]
      exact HDead.out j)
    rw [Hvg.out] at hS8
    have HS8 := Lib.hid hS8; have HX8 := Lib.hid hX8; have Ht3 := Lib.hid t3; have Ht4 := Lib.hid t4
    clear hrl ho7 hS8 hX8 hL8 HN HE6 HDead hrows t3 t4 Hw7 Hone Hth2 Hbox HNode Hth
    go_wp2_with fail
    refine (rtree_any 13 rows 0 _ L8 w7 HS8.out hrl1 (by omega) (by omega) HX8.out.ok).mono ?_
    rintro e w9 ⟨cs9, L9, rfl, h9, x9⟩
    obtain ⟨m, Ad, cd, Aa, ca, Ak, ck, hm, rfl, hP, _, _, _, _, _, _⟩ := node_open h9
    have hM : treeF (rows.drop 0) = treeF rows := rfl
    rw [hM] at h9 hP ⊢
    obtain ⟨x, hx⟩ : ∃ x, x = treeF rows := ⟨_, rfl⟩
    rw [← hx] at h9 hP t1 t2 Ht3 Ht4 ⊢
    have HNl : Hid (∀ j, ¬ L9 (w.heap.size + 1) j) := Lib.hid (Ext.not_live x9 (Array.getElem?_eq_some_iff.1 HZ6.out).1 HD8.out)
    have H9 := Lib.hid h9; have HX9 := Lib.hid (HX8.out.trans x9)
    have hz9 := (x9.below.block (w.heap.size + 1) (Array.getElem?_eq_some_iff.1 HZ6.out).1).trans HZ6.out
    have HZ9 := Lib.hid hz9
    have hlt9 := (Array.getElem?_eq_some_iff.1 hz9).1
    clear h9 hP hm hx x9 hz9 hM HZ6 HD8 HS8 HX8
    unfold nodeV
    go_upto_region 31 with fail
    obtain ⟨w10, hw10⟩ : ∃ y, y = w9.alloc (boxO x.own Ad cd Aa ca Ak x.kids.length ck) := ⟨_, rfl⟩
    have hX10 : Ext L w L9 w10 := by rw [hw10]; exact HX9.out.alloc _
    have hb10 : w10.heap[w9.heap.size]? = some (boxO x.own Ad cd Aa ca Ak x.kids.length ck) := by rw [hw10]; exact heap_alloc_new w9 _
    have hz10 : w10.heap[w.heap.size + 1]? = some zeroB := by rw [hw10]; exact (Below.heap_alloc _ _ _ hlt9).trans HZ9.out
    have hB10 : Bears 13 x (nodeV x.own (.slice Ad x.own.data.length cd) (.slice Aa x.own.attrs.length ca) (.slice Ak x.kids.length ck)) L w L9 w10 := ⟨hX10, by rw [hw10]; exact (nodeR 13).mono (sub_same ((Below.refl _ _).alloc (Nat.le_refl _) _)) H9.out⟩
    have HBr := Lib.hid hB10; have HB10 := Lib.hid hb10; have HZ10 := Lib.hid hz10
    show Code.wp _ _ _ _ (w9.alloc (boxO x.own Ad cd Aa ca Ak x.kids.length ck))
    rw [← hw10]
    clear hX10 hb10 hz10 hB10 hw10
    refine wp_region_lit ?_
    refine wpList_load_row rfl 27 (.tmp 13) rfl w9.heap.size rfl _ _ _ _ (by exact HB10.out) Try.underlying27 rfl (by kernel_rfl) ?_
    refine wpList_store_row rfl 27 (.tmp 8) (.tmp 116) rfl (w.heap.size + 1) _ rfl rfl _ _ HZ10.out (by kernel_rfl) (by rfl) (by simp [Value.oneCell']) ?_
    refine wpList_nil ?_
    generalize hfr : Act.put (Act.put _ _ _) _ _ = aF
    have hF2 : aF.tmps.getD 8 undef = .pointer (some ⟨w.heap.size + 1, 0, none⟩) := by rw [← hfr]; rfl
    have hF3 : aF.defers = [] := by rw [← hfr]; rfl
    have HF2 := Lib.hid hF2; have HF3 := Lib.hid hF3
    clear hfr hF2 hF3
    go_wp2
    refine bodyPost_ret (v := .agg (nodeV x.own (.slice Ad x.own.data.length cd) (.slice Aa x.own.attrs.length ca) (.slice Ak x.kids.length ck)).toArray) (results_row rfl _ HF2.out (setRow_heap _ _ _ _ _ _ (by exact HZ10.out)) Try.underlying27 rfl (by kernel_rfl)) HF3.out ?_
    have hfin := Bears.setRow HBr.out (g := w.heap.size + 1) (by omega) HNl.out (nodeV x.own (.slice Ad x.own.data.length cd) (.slice Aa x.own.attrs.length ca) (.slice Ak x.kids.length ck)).toArray
    exact ⟨x, _, L9, rfl, hfin.node, hfin.ext, t1, t2, Ht3.out, Ht4.out⟩
end Go.Proofs.Ytojcciciinklbaa
