/- Walks: all entries of a node, as the document says them. No claim by itself. -/
import Derived.Test.YtojcciciinklbaaRef1
set_option linter.unusedSimpArgs false
set_option linter.unusedVariables false
namespace Go.Proofs.Ytojcciciinklbaa
open Go.RowKit

theorem Try.infoEnt : (Try.prog.info? 42).map (fun i => (i.zero, i.size, i.bytes)) = some (some (.agg #[.int .i64 0, .string ⟨#[]⟩, .int .i64 0, .string ⟨#[]⟩, .int .i64 0, .int .i64 0, .int .i64 0, .int .i64 0, .slice none 0 0, .string ⟨#[]⟩, .int .i64 0, .int .i64 0, .slice none 0 0, .slice none 0 0]), 14, 184) := by kernel_rfl

/-- A list of entries that a call has made. -/
def MadeF (xs : List Ent) (L : Live) (w : World) (e : Ending) (w' : World) : Prop := ∃ v cells L', e = .returned v ∧ Out entR L' w' w.heap.size 42 v xs cells ∧ Ext L w L' w'

theorem plus_under {p : ByteArray} (name : ByteArray) (h : p ≠ ⟨#[]⟩) : p ++ ⟨#[47]⟩ ++ name = underS p name := by
  unfold underS joinS
  rw [if_neg h]
  apply Go.WideShapes.bytes_inj
  simp [jn, mkS]
set_option maxHeartbeats 1000000 in
theorem runder_any (p name : ByteArray) (w : World) (hp : p.size ≤ 1000000) (hn : name.size ≤ 1000000) :
    Calls Try.prog 45 #[.string p, .string name] w fun e w' => e = .returned (.string (underS p name)) ∧ w = w' := by
  by_cases he : p = ⟨#[]⟩
  · subst he
    go_enter Try.func45, Try.ntmps45
    go_wp2
    go_ret
    exact ⟨rfl, rfl⟩
  · have q0 := toL_emp he
    have n0 : ¬ p.toList = [] := fun e => he ((toL_eq p []).1 e)
    have HE := Lib.hid (plus_under name he)
    have hs1 : (⟨#[47]⟩ : ByteArray).size = 1 := rfl
    have hc1 : p.size + 1 ≤ 9223372036854775807 := by omega
    have hc2 : p.size + 1 + name.size ≤ 9223372036854775807 := by omega
    have hc3 : (p ++ ⟨#[47]⟩).size + name.size ≤ 9223372036854775807 := by
      have : (p ++ (⟨#[47]⟩ : ByteArray)).size = p.size + 1 := by rw [ByteArray.size_append]; rfl
      omega
    clear he
    go_enter Try.func45, Try.ntmps45
    go_wp2
    go_ret
    exact ⟨ret_str HE.out, rfl⟩

set_option maxRecDepth 100000 in
set_option maxHeartbeats 8000000 in
theorem flat_any : ∀ (n : Nat) (x : Nd) (cs : List Value) (p : ByteArray) (d : Nat) (L : Live) (w : World), (nodeR n).R L w x cs → count x ≤ 1000000 → namesOk x → p.size + n * 1001 ≤ 1000000 → d + n ≤ 1000000 → LOk L w →
    Calls Try.prog 50 #[.agg cs.toArray, .string p, .int .i64 d] w (MadeF (flatN p d x) L w) := by
  intro n
  induction n with
  | zero => intro x cs p d L w h; exact h.elim
  | succ n ih =>
    intro x cs p d L w h hc hnm hps hdn hok
    obtain ⟨m, Ad, cd, Aa, ca, Ak, ck, hm, rfl, hP, d1, d2, a1, a2, k1, k2⟩ := node_open h
    obtain rfl : n = m := by omega
    clear hm h
    rw [count_eq] at hc
    rw [namesOk_eq] at hnm
    have hkl := countL_len x.kids
    have HP := Lib.hid hP
    have Hok := Lib.hid hok
    have hmem : ∀ k (h : k < x.kids.length), count x.kids[k] ≤ countL x.kids ∧ namesOk x.kids[k] := fun k h => ⟨countL_mem h, namesOkL_mem hnm.2 h⟩
    have Hmem := Lib.hid hmem
    have HE := Lib.hid (flatN_eq p d x)
    have HW : Hid (∀ k, (flatK p (d + 1) (x.kids.take k)).length ≤ 1000000) := Lib.hid (fun k => by
      have h1 := flatK_len (x.kids.take k) p (d + 1)
      have h2 := countL_le (xs := x.kids) k
      omega)
    have hd1 : IntKind.i64.wrap ((d : Int) + 1) = ((d + 1 : Nat) : Int) := by rw [IntWalk.i64_in _ (by omega)]; omega
    have Hd1 := Lib.hid hd1
    clear hP hok hmem hnm hd1
    have c27 := cellsNode
    unfold nodeV
    go_enter Try.func50, Try.ntmps50
    go_wp2_with fail
    obtain ⟨w4, hw4⟩ : ∃ w4, w4 = ((w.alloc (boxO x.own Ad cd Aa ca none 0 0)).alloc (.cells #[.int .i64 d, .string p, .int .i64 x.own.kind, .string x.own.name, .int .i64 x.own.mode, .int .i64 x.own.uid, .int .i64 x.own.gid, .int .i64 x.own.mtime, .slice Ad x.own.data.length cd, .string x.own.target, .int .i64 x.own.major, .int .i64 x.own.minor, .slice Aa x.own.attrs.length ca, .slice none 0 0] 42)) := ⟨_, rfl⟩
    have hX4 : Ext L w L w4 := by rw [hw4]; exact ((Ext.refl Hok.out).alloc _).alloc _
    have hO4 : Out entR L w4 w.heap.size 42 (.slice (some ⟨w.heap.size + 1, 0, none⟩) 1 1) [⟨d, p, x.own⟩] [.int .i64 d, .string p, .int .i64 x.own.kind, .string x.own.name, .int .i64 x.own.mode, .int .i64 x.own.uid, .int .i64 x.own.gid, .int .i64 x.own.mtime, .slice Ad x.own.data.length cd, .string x.own.target, .int .i64 x.own.major, .int .i64 x.own.minor, .slice Aa x.own.attrs.length ca, .slice none 0 0] := by
      have hh := heap_alloc_new (w.alloc (boxO x.own Ad cd Aa ca none 0 0)) (.cells #[.int .i64 d, .string p, .int .i64 x.own.kind, .string x.own.name, .int .i64 x.own.mode, .int .i64 x.own.uid, .int .i64 x.own.gid, .int .i64 x.own.mtime, .slice Ad x.own.data.length cd, .string x.own.target, .int .i64 x.own.major, .int .i64 x.own.minor, .slice Aa x.own.attrs.length ca, .slice none 0 0] 42)
      rw [← hw4, World.size_alloc] at hh
      refine ⟨⟨rfl, .inr ⟨w.heap.size + 1, 1, _, (0, 0), rfl, Nat.le_succ _, hh, .inl rfl, Nat.le_refl _, by decide, (show (14 : Nat) ≤ 14 from Nat.le_refl _), rfl⟩⟩, Reps.single ⟨_, _, rfl, by simp only; omega, by simp only [big]; omega, HP.out.fits, HP.out.data.mono (Ext.sub Hok.out hX4), HP.out.attrs.mono (Ext.sub Hok.out hX4)⟩, fun g hg j hl => ?_⟩
      simp [Value.ownBlock] at hg
      subst hg
      have := Hok.out _ _ hl
      omega
    unfold boxO at hw4
    rw [← hw4]
    have HO4 := Lib.hid hO4; have HX4 := Lib.hid hX4
    clear hO4 hX4 hw4
    obtain ⟨ks, hks⟩ : ∃ ks, ks = x.kids := ⟨_, rfl⟩
    have hK := HP.out.kids
    have HK := Lib.hid hK
    rw [← hks] at HK Hmem HW HE hc hkl k1 ⊢
    clear hks hK HP
    go_loopw [8, 9] (fun v i wr => ∃ (k : Nat) (ys : List Ent) (cells : List Value) (Lk : Live), k ≤ ks.length ∧ i = .int .i64 k ∧ ys.length ≤ 1000001 ∧ Hid (ys = ⟨d, p, x.own⟩ :: flatK p (d + 1) (ks.take k)) ∧ Out entR Lk wr w.heap.size 42 v ys cells ∧ Ext L w Lk wr) (fun _ i _ => ks.length - (intOf i).toNat)
    case atStart => exact ⟨0, [⟨d, p, x.own⟩], _, L, Nat.zero_le _, rfl, by simp, Lib.hid (by simp [flatK]), HO4.out, HX4.out⟩
    case round =>
      obtain ⟨k, ys, cells, Lk, hk, rfl, hyl, HY, hO, hX⟩ := hrel
      obtain ⟨Ao, co, rfl, _, _⟩ := hO.form
      have hb := hX.below.size
      have HO := Lib.hid hO; have HX := Lib.hid hX
      clear hO hX HO4 HX4
      by_cases hlt : k < ks.length
      · have hkI : (k : Int) < (ks.length : Int) := by omega
        obtain ⟨b, off, cs, rfl, hR, hat⟩ := nodes_at HK.out k hlt
        have hbk := Hmem.out k hlt
        have hwl := HW.out (k + 1)
        have hwt := flatK_take p (d + 1) hlt
        rw [hwt, List.length_append] at hwl
        obtain ⟨y, hy⟩ : ∃ y, y = ks[k] := ⟨_, rfl⟩
        rw [← hy] at hR hat hbk hwl hwt
        have hnz := ((namesOk_eq y).1 hbk.2).1
        have hus := underS_size p y.own.name
        have HT : Hid (ys ++ flatN (underS p y.own.name) (d + 1) y = ⟨d, p, x.own⟩ :: flatK p (d + 1) (ks.take (k + 1))) := Lib.hid (by rw [HY.out, hwt]; rfl)
        have hyl2 : (ys ++ flatN (underS p y.own.name) (d + 1) y).length ≤ 1000001 := by rw [HT.out, hwt, List.length_cons, List.length_append]; omega
        rw [List.length_append] at hyl2
        have hbb : count y ≤ 1000000 := by omega
        obtain ⟨q, hq⟩ : ∃ q, q = underS p y.own.name := ⟨_, rfl⟩
        obtain ⟨zs, hzs⟩ : ∃ zs, zs = flatN q (d + 1) y := ⟨_, rfl⟩
        rw [← hq] at hus HT hyl2
        rw [← hzs] at HT hyl2
        have hqs : q.size + n * 1001 ≤ 1000000 := by omega
        have Hq := Lib.hid hq; have Hzs := Lib.hid hzs
        have HNm := Lib.hid hbk.2
        clear hy hwl hwt hq hzs hbk
        obtain ⟨m, Ad', cd', Aa', ca', Ak', ck', hm, rfl, hP', _, _, _, _, _, _⟩ := node_open hR
        have hN := hat _ _ _ rfl
        have HS : Hid (∀ w', Below w.heap.size w w' → w'.cell? ⟨b, off + k * 12, none⟩ = some (.int .i64 y.own.kind) ∧ w'.cell? ⟨b, off + k * 12 + 1, none⟩ = some (.string y.own.name) ∧ w'.cell? ⟨b, off + k * 12 + 2, none⟩ = some (.int .i64 y.own.mode) ∧ w'.cell? ⟨b, off + k * 12 + 3, none⟩ = some (.int .i64 y.own.uid) ∧ w'.cell? ⟨b, off + k * 12 + 4, none⟩ = some (.int .i64 y.own.gid) ∧ w'.cell? ⟨b, off + k * 12 + 5, none⟩ = some (.int .i64 y.own.mtime) ∧ w'.cell? ⟨b, off + k * 12 + 6, none⟩ = some (.slice Ad' y.own.data.length cd') ∧ w'.cell? ⟨b, off + k * 12 + 7, none⟩ = some (.string y.own.target) ∧ w'.cell? ⟨b, off + k * 12 + 8, none⟩ = some (.int .i64 y.own.major) ∧ w'.cell? ⟨b, off + k * 12 + 9, none⟩ = some (.int .i64 y.own.minor) ∧ w'.cell? ⟨b, off + k * 12 + 10, none⟩ = some (.slice Aa' y.own.attrs.length ca') ∧ w'.cell? ⟨b, off + k * 12 + 11, none⟩ = some (.slice Ak' y.kids.length ck')) := Lib.hid (fun w' hb => (hN.below hb).all)
        have HR := Lib.hid hR
        clear hat hP' hm hR hN
        have HRd := Lib.hid HX.out.below.drew
        have hd2 := Hd1.out
        go_upto_region 7 with fail
        obtain ⟨n0, n1, n2, n3, n4, n5, n6, n7, n8, n9, n10, n11⟩ := HS.out wr.drew HRd.out
        go_region_held3 (fun w' => w'.cell? ⟨b, off + k * 12, none⟩ = some (.int .i64 y.own.kind) ∧ w'.cell? ⟨b, off + k * 12 + 1, none⟩ = some (.string y.own.name) ∧ w'.cell? ⟨b, off + k * 12 + 2, none⟩ = some (.int .i64 y.own.mode) ∧ w'.cell? ⟨b, off + k * 12 + 3, none⟩ = some (.int .i64 y.own.uid) ∧ w'.cell? ⟨b, off + k * 12 + 4, none⟩ = some (.int .i64 y.own.gid) ∧ w'.cell? ⟨b, off + k * 12 + 5, none⟩ = some (.int .i64 y.own.mtime) ∧ w'.cell? ⟨b, off + k * 12 + 6, none⟩ = some (.slice Ad' y.own.data.length cd') ∧ w'.cell? ⟨b, off + k * 12 + 7, none⟩ = some (.string y.own.target) ∧ w'.cell? ⟨b, off + k * 12 + 8, none⟩ = some (.int .i64 y.own.major) ∧ w'.cell? ⟨b, off + k * 12 + 9, none⟩ = some (.int .i64 y.own.minor) ∧ w'.cell? ⟨b, off + k * 12 + 10, none⟩ = some (.slice Aa' y.own.attrs.length ca') ∧ w'.cell? ⟨b, off + k * 12 + 11, none⟩ = some (.slice Ak' y.kids.length ck'))
          (first | with_reducible exact HS.out _ HX8.out.below | with_reducible exact HS.out _ HX7.out.below | with_reducible exact HS.out _ HRd.out)
          (first
          | (refine step_appB rfl (.tmp 24) (.tmp 38) 36 42 rfl w.heap.size _ 14 184 Try.underlying36 Try.infoEnt rfl (by decide) _ _ rfl _ rfl ys.length cells (HO7.out.1) zs.length zcells (Blk.src HZ7.out.1) (HZ7.out.2.1.one) (by omega) (HX7.out.below.size) ?_
             intro v8 w8 hB8 hg8 hrow8
             have hO8 := HO7.out.app HX7.out.ok (Below.refl _ _) hB8 hg8 hrow8 HZ7.out.2.1
             have HX8 := Lib.hid (grown_ext HX7.out hg8 (fun g hg => (HO7.out.1.lt g hg).1))
             have HO8 := Lib.hid hO8
             clear hB8 hg8 hrow8 hO8)
          | (go_at_call 45
             refine (runder_any _ _ _ (by omega) (by omega)).mono ?_
             rintro e w6 ⟨rfl, rfl⟩
             rw [← Hq.out])
          | (go_at_call 50
             try rw [Hd1.out]
             refine (ih y _ q (d + 1) Lk _ ((nodeR n).mono (Ext.sub Hok.out HX.out.drew) HR.out) hbb HNm.out hqs (by omega) HX.out.drew.ok).mono ?_
             rintro e w7 ⟨vz, zcells, L7, rfl, h7, x7⟩
             rw [← Hzs.out] at h7
             obtain ⟨Az, cz, rfl, _, _⟩ := h7.form
             have HX7 := Lib.hid (HX.out.drew.trans x7)
             have HO7 := Lib.hid ((HO.out.ext HX.out.ok (Ext.refl HX.out.ok).drew).ext HX.out.drew.ok x7)
             have HZ7 := Lib.hid (h7.lower hb)
             clear h7 x7))
        all_goals
          clear n0 n1 n2 n3 n4 n5 n6 n7 n8 n9 n10 n11
          go_wp2
          go_roundw
          case rel => exact ⟨k + 1, ys ++ zs, _, L7, by omega, by go_num, by rw [List.length_append]; exact hyl2, HT, HO8.out, HX8.out⟩
          case measure => simp [intOf]; omega
      · have hke : k = ks.length := by omega
        have HEE : Hid (ys = flatN p d x) := Lib.hid (by rw [HY.out, HE.out, hke, List.take_length])
        clear hke
        go_wp2
        go_ret
        exact ⟨_, _, Lk, rfl, by rw [← HEE.out]; exact HO.out, HX.out⟩
end Go.Proofs.Ytojcciciinklbaa
