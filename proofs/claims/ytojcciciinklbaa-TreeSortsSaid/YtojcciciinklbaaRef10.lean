/- Walks: a row that the document makes of any: the walk. No claim by itself. -/
import Derived.Test.YtojcciciinklbaaRef9
set_option linter.unusedSimpArgs false
set_option linter.unusedVariables false
namespace Go.Proofs.Ytojcciciinklbaa
open Go.RowKit

set_option maxRecDepth 100000 in
set_option maxHeartbeats 8000000 in
theorem rrow_of (HNode : NodeOk) (gs : List GV) (v : Value) (L : Live) (w : World) (hS : SliceR gR L w gs v) (hok : LOk L w) :
    Calls Try.prog 19 #[v] w (MadeF (rowF gs) L w) := by
  obtain ⟨A, c, rfl, hc1, hl, hc2⟩ := hS.form
  have HS := Lib.hid hS; have Hok := Lib.hid hok; have HNd := Lib.hid HNode
  clear hS hok HNode
  have c27 := cellsNode
  go_enter Try.func19, Try.ntmps19
  go_wp2_with fail
  obtain ⟨w1, hw1⟩ : ∃ w1, w1 = w.alloc (boxE 0 ⟨#[]⟩ rootE.own none 0 none 0) := ⟨_, rfl⟩
  have hX1 : Ext L w L w1 := by rw [hw1]; exact (Ext.refl Hok.out).alloc _
  have hO1 : Out entR L w1 w.heap.size 42 (.slice (some ⟨w.heap.size, 0, none⟩) 1 1) [rootE] [.int .i64 0, .string ⟨#[]⟩, .int .i64 1, .string ⟨#[]⟩, .int .i64 493, .int .i64 0, .int .i64 0, .int .i64 0, .slice none 0 0, .string ⟨#[]⟩, .int .i64 0, .int .i64 0, .slice none 0 0, .slice none 0 0] := by
    have hh := heap_alloc_new w (boxE 0 ⟨#[]⟩ rootE.own none 0 none 0)
    rw [← hw1] at hh
    refine ⟨⟨rfl, .inr ⟨w.heap.size, 1, _, (0, 0), rfl, Nat.le_refl _, hh, .inl rfl, Nat.le_refl _, by decide, (show (14 : Nat) ≤ 14 from Nat.le_refl _), rfl⟩⟩, Reps.single ⟨_, _, rfl, by decide, by decide, ⟨by unfold I64; decide, by unfold I64; decide, by unfold I64; decide, by unfold I64; decide, by unfold I64; decide, by unfold I64; decide, by unfold I64; decide, by decide, by decide⟩, SliceR.nil _ _ _, SliceR.nil _ _ _⟩, fun g hg j hl => ?_⟩
    simp [Value.ownBlock] at hg
    subst hg
    have := Hok.out _ _ hl
    omega
  show Code.wp _ _ _ _ (w.alloc (boxE 0 ⟨#[]⟩ rootE.own none 0 none 0))
  rw [← hw1]
  have HX1 := Lib.hid hX1; have HO1 := Lib.hid hO1
  clear hX1 hO1 hw1
  go_loopw [3, 4] (fun v i wr => ∃ (k n : Nat) (out : List Ent) (cells : List Value) (Lk : Live) (Ao : Option Addr) (co : Nat), k ≤ gs.length ∧ k ≤ 12 ∧ i = .int .i64 k ∧ v = .slice Ao n co ∧ out.length = n ∧ 1 ≤ n ∧ n ≤ k + 1 ∧ n ≤ co ∧ co ≤ 9223372036854775807 ∧ Hid (out = (gs.take k).foldl stepF [rootE]) ∧ Hid (Out entR Lk wr w.heap.size 42 (.slice Ao n co) out cells) ∧ Hid (Ext L w Lk wr)) (fun _ i _ => gs.length - (intOf i).toNat)
  case atStart => exact ⟨0, 1, [rootE], _, L, _, _, Nat.zero_le _, by decide, rfl, rfl, rfl, Nat.le_refl _, by decide, by decide, by decide, Lib.hid rfl, HO1, HX1⟩
  case round =>
    clear HX1 HO1
    obtain ⟨k, n, out, cells, Lk, Ao, co, hk, hk12, rfl, rfl, hon, hn1, hn2, hn3, hn4, HY, HO, HX⟩ := hrel
    have HT : Hid (Tree1 out) := Lib.hid (by rw [HY.out]; exact fold_tree _ _ root_tree)
    by_cases hlt : k < gs.length
    · have hkI : (k : Int) < (gs.length : Int) := by omega
      by_cases h12 : k < 12
      · have h12I : (k : Int) < 12 := by omega
        obtain ⟨b, off, Ab, cb, rfl, hG, hGb, g0, g1, g2, g3, g4, g5⟩ := gs_at (HS.out.mono (Ext.sub Hok.out HX.out)) k hlt
        have HYs : Hid ((gs.take (k + 1)).foldl stepF [rootE] = stepF out gs[k]) := Lib.hid (by rw [List.take_succ_eq_append_getElem hlt, List.foldl_append, ← HY.out]; rfl)
        obtain ⟨g, hg⟩ : ∃ g, g = gs[k] := ⟨_, rfl⟩
        rw [← hg] at hG hGb g0 g1 g2 g3 g4 g5 HYs
        clear hg
        have HG := Lib.hid hG
        obtain ⟨⟨_, _⟩, ⟨u1, u2⟩, _, _, _⟩ := hG
        go_wp2_with fail
        refine (HNd.out g Ab cb Lk wr HG.out hGb HX.out.ok).mono ?_
        rintro e w2 ⟨vd, va, L2, rfl, hF, hD, hA, hx2⟩
        obtain ⟨Ad, cd, rfl, _, _, _⟩ := hD.form
        obtain ⟨Aa, ca, rfl, _, _, _⟩ := hA.form
        have HX2 := Lib.hid (HX.out.trans hx2)
        have HO2 := Lib.hid (HO.out.ext HX.out.ok hx2)
        have kk : ∀ {p : Addr} {u : Value}, wr.cell? p = some u → w2.cell? p = some u := fun hu => (hx2.below.cell (World.block_lt_of_cell? wr _ hu)).trans hu
        replace g1 := kk g1
        have HF := Lib.hid hF; have HD := Lib.hid hD; have HA := Lib.hid hA
        clear hGb g0 g2 g3 g4 g5 hF hD hA hx2 kk HO HX
        obtain ⟨o, ho⟩ : ∃ o, o = nodeO g := ⟨_, rfl⟩
        rw [← ho] at HF HD HA ⊢
        have Ho := Lib.hid ho
        clear ho
        unfold nodeV
        go_upto_region 6 with fail
        obtain ⟨w3, hw3⟩ : ∃ w3, w3 = w2.alloc (boxO o Ad cd Aa ca none 0 0) := ⟨_, rfl⟩
        obtain ⟨L6, hS6, hsub6, hX6, _⟩ := HO2.out.publish_ext HX2.out (Nat.le_refl _) (by rw [hon]; simp only [big]; omega)
        have hr := around_range g.up n (by omega)
        obtain ⟨ix, hix⟩ : ∃ ix : Nat, around g.up n = (ix : Int) := ⟨(around g.up n).toNat, by omega⟩
        have hixn : ix < n := by omega
        obtain ⟨bo, oo, Au, cu, Bu, eu, rfl, hRu, hud, hup, e0, e1, e2, e3, e4, e5, e6, e7, e8, e9, e10, e11, e12, e13⟩ := ents_at3 hS6 ix (by omega)
        have HUp : Hid (upF out g = out[ix]'(by omega)) := Lib.hid (by
          have h1 : upF out g = out.getD ix default := by unfold upF; rw [hon, hix]; rfl
          rw [h1]; simp [List.getD, List.getElem?_eq_getElem (show ix < out.length by omega)])
        have Hmem := Lib.hid (List.getElem_mem (l := out) (n := ix) (by omega))
        obtain ⟨u, hu⟩ : ∃ u, u = out[ix]'(by omega) := ⟨_, rfl⟩
        rw [← hu] at hud hup e0 e1 e2 e3 e4 e5 e6 e7 e8 e9 e10 e11 e12 HUp Hmem
        have hx3 : Below w2.heap.size w2 w3 := by rw [hw3]; exact (Below.refl _ _).alloc (Nat.le_refl _) _
        have kk : ∀ {p : Addr} {u : Value}, w2.cell? p = some u → w3.cell? p = some u := fun hu => (hx3.cell (World.block_lt_of_cell? w2 _ hu)).trans hu
        replace g1 := kk g1; replace e0 := kk e0; replace e1 := kk e1; replace e2 := kk e2; replace e3 := kk e3; replace e4 := kk e4; replace e5 := kk e5; replace e6 := kk e6; replace e7 := kk e7; replace e8 := kk e8; replace e9 := kk e9; replace e10 := kk e10; replace e11 := kk e11; replace e12 := kk e12; replace e13 := kk e13
        have hb3 : w3.heap[w2.heap.size]? = some (boxO o Ad cd Aa ca none 0 0) := by rw [hw3]; exact heap_alloc_new w2 _
        have hs3 : w3.heap.size = w2.heap.size + 1 := by rw [hw3]; simp
        have HS6 := Lib.hid hS6; have Hsub6 := Lib.hid hsub6; have HX6 := Lib.hid hX6; have HB3 := Lib.hid hb3; have HX3 := Lib.hid hx3; have Hs3 := Lib.hid hs3; have Hix := Lib.hid hix
        show Code.wp _ _ _ _ (w2.alloc (boxO o Ad cd Aa ca none 0 0))
        rw [← hw3]
        clear hS6 hsub6 hX6 hRu hu kk hx3 hb3 hs3 hw3 hr hix
        go_wp2_with fail
        refine (around_any g.up n _ u1 u2 (by omega) (by omega)).mono ?_
        rintro e _ ⟨rfl, rfl⟩
        rw [Hix.out]
        go_upto_region 7 with fail
        obtain ⟨w4, hw4⟩ : ∃ w4, w4 = w3.alloc (boxE u.deep u.path u.own Au cu Bu eu) := ⟨_, rfl⟩
        have hx4 : Below w3.heap.size w3 w4 := by rw [hw4]; exact (Below.refl _ _).alloc (Nat.le_refl _) _
        have hb4 : w4.heap[w2.heap.size]? = some (boxO o Ad cd Aa ca none 0 0) := (hx4.block _ (by have := Hs3.out; omega)).trans HB3.out
        have he4 : w4.heap[w3.heap.size]? = some (boxE u.deep u.path u.own Au cu Bu eu) := by rw [hw4]; exact heap_alloc_new w3 _
        have hs4 : w4.heap.size = w3.heap.size + 1 := by rw [hw4]; simp
        have HX4 := Lib.hid (HX3.out.trans (hx4.mono (by have := Hs3.out; omega)))
        have HB4 := Lib.hid hb4; have HE4 := Lib.hid he4; have Hs4 := Lib.hid hs4
        show Code.wp _ _ _ _ (w3.alloc (boxE u.deep u.path u.own Au cu Bu eu))
        rw [← hw4]
        clear hx4 hb4 he4 hs4 hw4 g1 e0 e1 e2 e3 e4 e5 e6 e7 e8 e9 e10 e11 e12 e13 HX3 HB3
        have HO4 : Hid (Out entR L2 w4 w.heap.size 42 (.slice (some ⟨bo, oo, none⟩) n co) out cells) := Lib.hid (HO2.out.ext HX2.out.ok (Ext.of_below HX2.out.ok HX4.out))
        have HL4 : Hid (Ext L w L2 w4) := Lib.hid (HX2.out.trans (Ext.of_below HX2.out.ok HX4.out))
        by_cases hc1 : u.own.kind = 1
        case neg =>
          have hy : stepF out g = out := by
            unfold stepF
            rw [HUp.out, if_neg (fun h => hc1 h.1)]
          have HY' : Hid (out = (gs.take (k + 1)).foldl stepF [rootE]) := Lib.hid (by rw [HYs.out, hy])
          obtain ⟨e0, e1, e2, e3, e4, e5, e6, e7, e8, e9, e10, e11, e12, e13⟩ := boxE_at HE4.out
          have hneB : (u.own.kind != 1) = true := by rw [bne, beq_eq_false_iff_ne.2 hc1]; rfl
          clear hc1 hy
          go_wp2_with fail
          go_roundw
          case rel => exact ⟨k + 1, n, out, cells, L2, some ⟨bo, oo, none⟩, co, by omega, by omega, by go_num, rfl, hon, hn1, by omega, hn3, hn4, HY', HO4, HL4⟩
          case measure => simp [intOf]; omega
        by_cases hd5 : (5 : Int) < (u.deep : Int)
        · have hy : stepF out g = out := by
            unfold stepF
            rw [HUp.out, if_neg (fun h => by have := h.2; omega)]
          have HY' : Hid (out = (gs.take (k + 1)).foldl stepF [rootE]) := Lib.hid (by rw [HYs.out, hy])
          obtain ⟨e0, e1, e2, e3, e4, e5, e6, e7, e8, e9, e10, e11, e12, e13⟩ := boxE_at HE4.out
          rw [hc1] at e2
          clear hc1 hy
          go_wp2_with fail
          go_roundw
          case rel => exact ⟨k + 1, n, out, cells, L2, some ⟨bo, oo, none⟩, co, by omega, by omega, by go_num, rfl, hon, hn1, by omega, hn3, hn4, HY', HO4, HL4⟩
          case measure => simp [intOf]; omega
        obtain ⟨p, hp⟩ : ∃ p, p = underS u.path o.name := ⟨_, rfl⟩
        have HNw : Hid (newE out g = ⟨u.deep + 1, p, o⟩) := Lib.hid (by unfold newE; rw [HUp.out, ← Ho.out, ← hp])
        have hpz : p.size ≤ 400 := by
          have h1 := underS_size u.path o.name
          have h2 := path_le HT.out u Hmem.out
          have h3 : o.name.size ≤ 24 := by rw [Ho.out]; exact (nameB_no47 (nameOf_ok _)).2.2
          rw [hp]; omega
        have hnz : o.name.size ≤ 24 := by rw [Ho.out]; exact (nameB_no47 (nameOf_ok _)).2.2
        have huz := path_le HT.out u Hmem.out
        have HSt : Hid (stepF out g = if (out.map (·.path))[posF out p]? = some p then out else out.take (posF out p) ++ ⟨u.deep + 1, p, o⟩ :: out.drop (posF out p)) := Lib.hid (by
          unfold stepF
          rw [HUp.out, if_pos ⟨hc1, by omega⟩, HNw.out])
        have Hp := Lib.hid hp
        clear hp
        obtain ⟨e0, e1, e2, e3, e4, e5, e6, e7, e8, e9, e10, e11, e12, e13⟩ := boxE_at HE4.out
        rw [hc1] at e2
        have hsum : IntKind.i64.wrap ((u.deep : Int) + 1) = ((u.deep + 1 : Nat) : Int) := by rw [IntWalk.i64_in _ (by omega)]; omega
        go_upto_region 8 with fail
        clear e0 e1 e2 e3 e4 e5 e6 e7 e8 e9 e10 e11 e12 e13
        have HS8 : Hid (∀ w', Below w4.heap.size w4 w' → w'.cell? ⟨w3.heap.size, 0, none⟩ = some (.int .i64 u.deep) ∧ w'.cell? ⟨w3.heap.size, 1, none⟩ = some (.string u.path) ∧ w'.cell? ⟨w2.heap.size, 0, none⟩ = some (.int .i64 o.kind) ∧ w'.cell? ⟨w2.heap.size, 1, none⟩ = some (.string o.name) ∧ w'.cell? ⟨w2.heap.size, 2, none⟩ = some (.int .i64 o.mode) ∧ w'.cell? ⟨w2.heap.size, 3, none⟩ = some (.int .i64 o.uid) ∧ w'.cell? ⟨w2.heap.size, 4, none⟩ = some (.int .i64 o.gid) ∧ w'.cell? ⟨w2.heap.size, 5, none⟩ = some (.int .i64 o.mtime) ∧ w'.cell? ⟨w2.heap.size, 6, none⟩ = some (.slice Ad o.data.length cd) ∧ w'.cell? ⟨w2.heap.size, 7, none⟩ = some (.string o.target) ∧ w'.cell? ⟨w2.heap.size, 8, none⟩ = some (.int .i64 o.major) ∧ w'.cell? ⟨w2.heap.size, 9, none⟩ = some (.int .i64 o.minor) ∧ w'.cell? ⟨w2.heap.size, 10, none⟩ = some (.slice Aa o.attrs.length ca) ∧ w'.cell? ⟨w2.heap.size, 11, none⟩ = some (.slice none 0 0)) := Lib.hid (fun w' hb => by
          obtain ⟨x0, x1, _⟩ := boxE_at ((hb.block _ (by have := Hs4.out; omega)).trans HE4.out)
          exact ⟨x0, x1, twelve_box ((hb.block _ (by have := Hs4.out; have := Hs3.out; omega)).trans HB4.out)⟩)
        have HXd : Hid (Below w4.heap.size w4 w4.drew) := Lib.hid (Below.refl _ _).drew
        go_cut [7] (fun v wx => v = .pointer (some ⟨w4.heap.size, 0, none⟩) ∧ Hid (wx.heap[w4.heap.size]? = some (boxE (u.deep + 1) p o Ad cd Aa ca)) ∧ Hid (Below w4.heap.size w4 wx))
        case first =>
          obtain ⟨x0, x1, n0, n1, n2, n3, n4, n5, n6, n7, n8, n9, n10, n11⟩ := HS8.out w4.drew HXd.out
          go_region_held3 (fun w' => w'.cell? ⟨w3.heap.size, 0, none⟩ = some (.int .i64 u.deep) ∧ w'.cell? ⟨w3.heap.size, 1, none⟩ = some (.string u.path) ∧ w'.cell? ⟨w2.heap.size, 0, none⟩ = some (.int .i64 o.kind) ∧ w'.cell? ⟨w2.heap.size, 1, none⟩ = some (.string o.name) ∧ w'.cell? ⟨w2.heap.size, 2, none⟩ = some (.int .i64 o.mode) ∧ w'.cell? ⟨w2.heap.size, 3, none⟩ = some (.int .i64 o.uid) ∧ w'.cell? ⟨w2.heap.size, 4, none⟩ = some (.int .i64 o.gid) ∧ w'.cell? ⟨w2.heap.size, 5, none⟩ = some (.int .i64 o.mtime) ∧ w'.cell? ⟨w2.heap.size, 6, none⟩ = some (.slice Ad o.data.length cd) ∧ w'.cell? ⟨w2.heap.size, 7, none⟩ = some (.string o.target) ∧ w'.cell? ⟨w2.heap.size, 8, none⟩ = some (.int .i64 o.major) ∧ w'.cell? ⟨w2.heap.size, 9, none⟩ = some (.int .i64 o.minor) ∧ w'.cell? ⟨w2.heap.size, 10, none⟩ = some (.slice Aa o.attrs.length ca) ∧ w'.cell? ⟨w2.heap.size, 11, none⟩ = some (.slice none 0 0))
            (first | with_reducible exact HS8.out _ HXd.out | with_reducible exact HS8.out _ (HXd.out.alloc HXd.out.size _) | with_reducible exact HS8.out _ (((Below.refl _ w4).alloc (Nat.le_refl _) _).drew))
            (first
            | (go_at_call 45
               refine (runder_any _ _ _ (by omega) (by omega)).mono ?_
               rintro e _ ⟨rfl, rfl⟩
               rw [← Hp.out]))
          all_goals
            go_wp2
            go_meet
            case rel => first
              | exact ⟨rfl, Lib.hid (heap_alloc_new w4 _), Lib.hid (((Below.refl _ w4).alloc (Nat.le_refl _) _).drew)⟩
              | exact ⟨rfl, Lib.hid (heap_alloc_new w4.drew _), Lib.hid ((Below.refl _ w4).drew.alloc (Nat.le_refl _) _)⟩
        case rest =>
          obtain ⟨rfl, HE7, HX7⟩ := hcut
          obtain ⟨wE, hwE⟩ : ∃ x, x = wc := ⟨_, rfl⟩
          subst hwE
          obtain ⟨q, hq⟩ : ∃ q : Ent → Bool, q = fun x => decide (cmpP (pieces x.path) (pieces p) < 0) := ⟨_, rfl⟩
          have HQ := Lib.hid hq
          have HPos : Hid (posF out p = (out.takeWhile q).length) := Lib.hid (by rw [hq]; rfl)
          have hpn : (out.takeWhile q).length ≤ n := by rw [← hon]; exact (List.takeWhile_sublist q).length_le
          have H27 : Hid (Below w2.heap.size w2 wE) := Lib.hid (HX4.out.trans (HX7.out.mono (by have := Hs4.out; have := Hs3.out; omega)))
          clear hq
          go_upto_block 2 with fail
          go_cut [8] (fun v wx => v = .int .i64 ((out.takeWhile q).length : Int) ∧ Hid (Below wE.heap.size wE wx))
          case first =>
            go_wp2_with fail
            go_loopw [8] (fun t wr => ∃ j : Nat, j ≤ n ∧ t = .int .i64 j ∧ Hid (j ≤ (out.takeWhile q).length) ∧ Hid (Below wE.heap.size wE wr)) (fun t _ => n - (intOf t).toNat)
            case atStart => exact ⟨0, Nat.zero_le _, rfl, Lib.hid (Nat.zero_le _), Lib.hid (Below.refl _ _)⟩
            case round =>
              obtain ⟨j, hj, rfl, HJ, HBj⟩ := hrel
              by_cases hjn : j < n
              · have hjI : (j : Int) < (n : Int) := by omega
                have hjd : decide ((j : Int) < (n : Int)) = true := decide_eq_true hjI
                have H2j : Hid (Below w2.heap.size w2 wr) := Lib.hid (H27.out.trans (HBj.out.mono H27.out.size))
                obtain ⟨b', o', _, _, _, _, hbo, _, _, _, _, hp1, _⟩ := ents_at3 (HS6.out.mono (sub_same H2j.out)) j (by omega)
                simp only [Option.some.injEq, Addr.mk.injEq, and_true] at hbo
                obtain ⟨rfl, rfl⟩ := hbo
                have HQ1 := Lib.hid (tw_prefix q out j HJ.out (by omega))
                have hxz := path_le HT.out (out[j]'(by omega)) (List.getElem_mem _)
                have HQx : Hid (q (out[j]'(by omega)) = decide (cmpP (pieces (out[j]'(by omega)).path) (pieces p) < 0)) := Lib.hid (by rw [HQ.out])
                obtain ⟨x, hx⟩ : ∃ x, x = (out[j]'(by omega)).path := ⟨_, rfl⟩
                rw [← hx] at hp1 hxz HQx
                obtain ⟨z, hz⟩ : ∃ z, z = cmpP (pieces x) (pieces p) := ⟨_, rfl⟩
                rw [← hz] at HQx
                have Hz := Lib.hid hz
                have ep1 := (boxE_at ((HBj.out.block _ (Array.getElem?_eq_some_iff.1 HE7.out).1).trans HE7.out)).2.1
                have HSj : Hid (∀ w', Below wr.heap.size wr w' → w'.cell? ⟨bo, oo + j * 14 + 1, none⟩ = some (.string x) ∧ w'.cell? ⟨w4.heap.size, 1, none⟩ = some (.string p)) := Lib.hid (fun w' hb => ⟨(hb.cell (World.block_lt_of_cell? wr _ hp1)).trans hp1, (hb.cell (World.block_lt_of_cell? wr _ ep1)).trans ep1⟩)
                have HXr : Hid (Below wr.heap.size wr wr.drew) := Lib.hid (Below.refl _ _).drew
                clear hx hz
                go_upto_region 10 with fail
                go_cut [72] (fun v wx => v = .bool (decide (z < 0)) ∧ Hid (Below wr.heap.size wr wx))
                case first =>
                  clear hp1 ep1
                  obtain ⟨hp1, ep1⟩ := HSj.out wr.drew HXr.out
                  go_region_held3 (fun w' => w'.cell? ⟨bo, oo + j * 14 + 1, none⟩ = some (.string x) ∧ w'.cell? ⟨w4.heap.size, 1, none⟩ = some (.string p))
                    (first | with_reducible exact HSj.out _ HX9.out | with_reducible exact HSj.out _ HXr.out)
                    (first
                    | (go_at_call 46
                       refine (rcompare_any _ _ _ (by omega) (by omega)).mono ?_
                       rintro e w9 ⟨rfl, h9⟩
                       rw [← Hz.out]
                       have HX9 := Lib.hid (HXr.out.trans h9)
                       clear h9))
                  all_goals
                    go_wp2
                    go_meet
                    case rel => exact ⟨rfl, HX9⟩
                case rest =>
                  obtain ⟨rfl, HX9⟩ := hcut
                  have HB9 : Hid (Below wE.heap.size wE wc) := Lib.hid (HBj.out.trans (HX9.out.mono HBj.out.size))
                  by_cases hzn : z < 0
                  · have HJ' : Hid (j + 1 ≤ (out.takeWhile q).length) := Lib.hid (HQ1.out.1 (by rw [HQx.out]; exact decide_eq_true hzn))
                    go_wp2
                    go_roundw
                    case rel => exact ⟨j + 1, by omega, by go_num, HJ', HB9⟩
                    case measure => simp [intOf]; omega
                  · have HJ' : Hid (j = (out.takeWhile q).length) := Lib.hid (HQ1.out.2 (by rw [HQx.out]; exact decide_eq_false hzn))
                    go_wp2
                    go_meet
                    case rel => exact ⟨by rw [← HJ'.out], HB9⟩
              · have hjd : decide ((j : Int) < (n : Int)) = false := decide_eq_false (by omega)
                have hjI : ¬ (j : Int) < (n : Int) := by omega
                have HJ' : Hid (j = (out.takeWhile q).length) := Lib.hid (by have := HJ.out; omega)
                go_wp2
                go_quiet (fail)
                go_wp2
                go_meet
                case rel => exact ⟨by rw [← HJ'.out], Lib.hid (by first | exact bdn HBj.out _ | exact HBj.out.drew | exact HBj.out)⟩
          case rest =>
            obtain ⟨rfl, HXc⟩ := hcut
            obtain ⟨wG, hwG⟩ : ∃ x, x = wc := ⟨_, rfl⟩
            subst hwG
            have H2G : Hid (Below w2.heap.size w2 wG) := Lib.hid (H27.out.trans (HXc.out.mono H27.out.size))
            have HEG : Hid (wG.heap[w4.heap.size]? = some (boxE (u.deep + 1) p o Ad cd Aa ca)) := Lib.hid ((HXc.out.block _ (Array.getElem?_eq_some_iff.1 HE7.out).1).trans HE7.out)
            obtain ⟨j, hj⟩ : ∃ j, j = (out.takeWhile q).length := ⟨_, rfl⟩
            have HSt2 : Hid (stepF out g = if (out.map (·.path))[j]? = some p then out else out.take j ++ ⟨u.deep + 1, p, o⟩ :: out.drop j) := Lib.hid (by rw [HSt.out, HPos.out, ← hj])
            rw [← hj] at hpn ⊢
            clear hj HXc HE7 HX7 H27 HPos HSt HQ
            have hlenw : IntKind.i64.wrap ((n : Int) - 1) = (n : Int) - 1 := by rw [IntWalk.i64_in _ (by omega)]
            obtain ⟨bq, hbq⟩ : ∃ bq : Bool, bq = decide ((out.map (·.path))[j]? = some p) := ⟨_, rfl⟩
            have HBq : Hid (bq = true ↔ (out.map (·.path))[j]? = some p) := Lib.hid (by rw [hbq]; simp)
            obtain ⟨c0, c1, c2, c3, c4, c5, c6, c7, c8, c9, c10, c11, c12, c13⟩ := boxE_at HEG.out
            go_upto_region 12 with fail
            go_cut [92] (fun v wx => v = .bool bq ∧ Hid (Below wG.heap.size wG wx))
            case first =>
              by_cases hjn : j < n
              · have hjI : (j : Int) < (n : Int) := by omega
                have hjd : decide ((j : Int) < (n : Int)) = true := decide_eq_true hjI
                have hmin : min (j : Int) ((n : Int) - 1) = (j : Int) := by omega
                obtain ⟨b', o', _, _, _, _, hbo, _, _, _, _, hp1, _⟩ := ents_at3 (HS6.out.mono (sub_same H2G.out)) j (by omega)
                simp only [Option.some.injEq, Addr.mk.injEq, and_true] at hbo
                obtain ⟨rfl, rfl⟩ := hbo
                have HM : Hid ((out.map (·.path))[j]? = some (out[j]'(by omega)).path) := Lib.hid (by rw [List.getElem?_map, List.getElem?_eq_getElem (by omega)]; rfl)
                obtain ⟨x, hx⟩ : ∃ x, x = (out[j]'(by omega)).path := ⟨_, rfl⟩
                rw [← hx] at hp1 HM
                clear hx
                by_cases hxp : x = p
                · have Hb : Hid (bq = true) := Lib.hid (HBq.out.2 (by rw [HM.out, hxp]))
                  rw [hxp] at hp1
                  clear hxp hbq
                  go_quiet (fail)
                  go_wp2
                  go_meet
                  case rel => exact ⟨by rw [Hb.out], Lib.hid (by first | exact bdn (Below.refl _ _) _ | exact (Below.refl _ _).drew | exact Below.refl _ _)⟩
                · have Hb : Hid (bq = false) := Lib.hid (by rw [← Bool.not_eq_true]; intro h; exact hxp (by have := HBq.out.1 h; rw [HM.out] at this; exact Option.some.inj this))
                  have l2 := toL_nb hxp
                  have l3 := toL_np hxp
                  clear hxp hbq
                  go_quiet (fail)
                  go_wp2
                  go_meet
                  case rel => exact ⟨by rw [Hb.out], Lib.hid (by first | exact bdn (Below.refl _ _) _ | exact (Below.refl _ _).drew | exact Below.refl _ _)⟩
              · have hjd : decide ((j : Int) < (n : Int)) = false := decide_eq_false (by omega)
                have hjI : ¬ (j : Int) < (n : Int) := by omega
                have Hb : Hid (bq = false) := Lib.hid (by rw [← Bool.not_eq_true]; intro h; have := HBq.out.1 h; rw [List.getElem?_eq_none (by simp; omega)] at this; cases this)
                clear hbq
                go_quiet (fail)
                go_wp2
                go_meet
                case rel => exact ⟨by rw [Hb.out], Lib.hid (by first | exact bdn (Below.refl _ _) _ | exact (Below.refl _ _).drew | exact Below.refl _ _)⟩
            case rest =>
              obtain ⟨rfl, HXc⟩ := hcut
              obtain ⟨wH, hwH⟩ : ∃ x, x = wc := ⟨_, rfl⟩
              subst hwH
              have H2H : Hid (Below w2.heap.size w2 wH) := Lib.hid (H2G.out.trans (HXc.out.mono H2G.out.size))
              have HEH : Hid (wH.heap[w4.heap.size]? = some (boxE (u.deep + 1) p o Ad cd Aa ca)) := Lib.hid ((HXc.out.block _ (Array.getElem?_eq_some_iff.1 HEG.out).1).trans HEG.out)
              clear c0 c1 c2 c3 c4 c5 c6 c7 c8 c9 c10 c11 c12 c13 hbq
              cases bq with
              | true =>
                have hy : stepF out g = out := by rw [HSt2.out, if_pos (HBq.out.1 rfl)]
                have HY' : Hid (out = (gs.take (k + 1)).foldl stepF [rootE]) := Lib.hid (by rw [HYs.out, hy])
                clear hy
                go_wp2_with fail
                go_roundw
                case rel => exact ⟨k + 1, n, out, cells, L2, some ⟨bo, oo, none⟩, co, by omega, by omega, by go_num, rfl, hon, hn1, by omega, hn3, hn4, HY', Lib.hid (HO2.out.ext HX2.out.ok (Ext.of_below HX2.out.ok H2H.out)), Lib.hid (HX2.out.trans (Ext.of_below HX2.out.ok H2H.out))⟩
                case measure => simp [intOf]; omega
              | false =>
                have hy : stepF out g = out.take j ++ ⟨u.deep + 1, p, o⟩ :: out.drop j := by rw [HSt2.out, if_neg (fun h => by have := HBq.out.2 h; cases this)]
                have HY' : Hid (out.take j ++ [⟨u.deep + 1, p, o⟩] ++ out.drop j = (gs.take (k + 1)).foldl stepF [rootE]) := Lib.hid (by rw [HYs.out, hy]; simp)
                clear hy
                have htl : (out.take j).length = j := by rw [List.length_take]; omega
                have hdl : (out.drop j).length = n - j := by rw [List.length_drop]; omega
                have hXH : Ext L w L6 wH := HX6.out.trans (Ext.of_below HX6.out.ok H2H.out)
                have hSH := HS6.out.mono (sub_same H2H.out)
                obtain ⟨cells1, hsrc1, hrep1⟩ := (hSH.take j (by omega)).src
                rw [htl] at hsrc1
                have hDe : entR.R L6 wH ⟨u.deep + 1, p, o⟩ [.int .i64 ((u.deep + 1 : Nat) : Int), .string p, .int .i64 o.kind, .string o.name, .int .i64 o.mode, .int .i64 o.uid, .int .i64 o.gid, .int .i64 o.mtime, .slice Ad o.data.length cd, .string o.target, .int .i64 o.major, .int .i64 o.minor, .slice Aa o.attrs.length ca, .slice none 0 0] := ⟨_, _, rfl, by simp only; omega, by simp only [big]; omega, HF.out, (HD.out.mono Hsub6.out).mono (sub_same H2H.out), (HA.out.mono Hsub6.out).mono (sub_same H2H.out)⟩
                have HSrc1 := Lib.hid hsrc1; have HRep1 := Lib.hid hrep1; have HXH := Lib.hid hXH; have HSH := Lib.hid hSH; have HDe := Lib.hid hDe
                have Htl := Lib.hid htl; have Hdl := Lib.hid hdl
                clear htl hdl hsrc1 hrep1 hXH hSH hDe
                have hjc : j ≤ co := by omega
                have hjnI : (j : Int) ≤ (n : Int) := by omega
                go_wp2_with (at_builtin; refine wpList_appB rfl (.tmp 93) (.tmp 96) 36 42 rfl w.heap.size _ 14 184 Try.underlying36 Try.infoEnt rfl (by decide) wH (.slice none 0 0) rfl _ rfl 0 [] (Blk.nil _ _ _ _) j cells1 ?d1 ?d2 ?d3 ?d4 ?_)
                case d1 => exact HSrc1.out
                case d2 => exact HRep1.out.one
                case d3 => omega
                case d4 => exact HXH.out.below.size
                intro v1 wI hB1 hg1 hrow1
                have hO1 : Out entR L6 wI w.heap.size 42 v1 (out.take j) cells1 := by
                  have := (Out.nil entR L6 wH w.heap.size 42).app (ys := out.take j) HXH.out.ok (Below.refl _ _) (by rw [Htl.out]; show Blk wI w.heap.size _ 14 v1 (0 + j) cells1; rw [Nat.zero_add]; exact hB1) hg1 hrow1 HRep1.out
                  simpa using this
                have hXI := grown_ext HXH.out hg1 (fun k hk => by simp [Value.ownBlock] at hk)
                have hsubI := grown_sub hg1 HXH.out.ok (fun g hg => by simp [Value.ownBlock] at hg)
                have hbI := (hg1.block w4.heap.size (Array.getElem?_eq_some_iff.1 HEH.out).1 (by simp [Value.ownBlock])).trans HEH.out
                obtain ⟨A1, c1, rfl, _, _⟩ := hO1.form
                rw [Htl.out] at hO1 ⊢
                have HO1 := Lib.hid hO1; have HXI := Lib.hid hXI; have HSI := Lib.hid (HSH.out.mono hsubI); have HDI := Lib.hid (entR.mono hsubI HDe.out); have HEI := Lib.hid hbI
                obtain ⟨e0, e1, e2, e3, e4, e5, e6, e7, e8, e9, e10, e11, e12, e13⟩ := boxE_at hbI
                clear hB1 hg1 hrow1 hO1 hXI hsubI hbI HSH HDe HSrc1 HRep1 HXH
                go_wp2_with (at_builtin; refine wpList_appB rfl (.tmp 98) (.tmp 100) 36 42 rfl w.heap.size _ 14 184 Try.underlying36 Try.infoEnt rfl (by decide) _ _ rfl _ rfl j cells1 ?f1 1 [.int .i64 ((u.deep + 1 : Nat) : Int), .string p, .int .i64 o.kind, .string o.name, .int .i64 o.mode, .int .i64 o.uid, .int .i64 o.gid, .int .i64 o.mtime, .slice Ad o.data.length cd, .string o.target, .int .i64 o.major, .int .i64 o.minor, .slice Aa o.attrs.length ca, .slice none 0 0] ?f2 ?f3 ?f4 ?f5 ?_)
                case f1 => have := HO1.out.1.below ((Below.refl _ wI).alloc (Nat.le_refl _) (boxE (u.deep + 1) p o Ad cd Aa ca)); rw [Htl.out] at this; exact this
                case f2 => exact Src.new wI 42 14 1 1 [.int .i64 ((u.deep + 1 : Nat) : Int), .string p, .int .i64 o.kind, .string o.name, .int .i64 o.mode, .int .i64 o.uid, .int .i64 o.gid, .int .i64 o.mtime, .slice Ad o.data.length cd, .string o.target, .int .i64 o.major, .int .i64 o.minor, .slice Aa o.attrs.length ca, .slice none 0 0] rfl
                case f3 => exact entR.one HDI.out
                case f4 => omega
                case f5 => have := HXI.out.below.size; simp; omega
                intro v2 wJ hB2 hg2 hrow2
                have hO2 : Out entR L6 wJ w.heap.size 42 v2 (out.take j ++ [⟨u.deep + 1, p, o⟩]) (cells1 ++ [.int .i64 ((u.deep + 1 : Nat) : Int), .string p, .int .i64 o.kind, .string o.name, .int .i64 o.mode, .int .i64 o.uid, .int .i64 o.gid, .int .i64 o.mtime, .slice Ad o.data.length cd, .string o.target, .int .i64 o.major, .int .i64 o.minor, .slice Aa o.attrs.length ca, .slice none 0 0]) :=
                  HO1.out.snoc (w1 := wI.alloc (boxE (u.deep + 1) p o Ad cd Aa ca)) HXI.out.ok ((Below.refl _ wI).alloc (Nat.le_refl _) _) (by rw [Htl.out]; exact hB2) hg2 (by simpa using hrow2) HDI.out
                have hXJ := grown_ext (HXI.out.alloc (boxE (u.deep + 1) p o Ad cd Aa ca)) hg2 (fun g hg => (HO1.out.1.lt g hg).1)
                have hsubJ : Sub L6 wI L6 wJ := (sub_same ((Below.refl _ wI).alloc (Nat.le_refl _) (boxE (u.deep + 1) p o Ad cd Aa ca))).trans (grown_sub hg2 (HXI.out.ok.alloc _) HO1.out.2.2)
                obtain ⟨A2, c2, rfl, _, _⟩ := hB2.form
                obtain ⟨cells2, hcells2⟩ : ∃ x, x = cells1 ++ [.int .i64 ((u.deep + 1 : Nat) : Int), .string p, .int .i64 o.kind, .string o.name, .int .i64 o.mode, .int .i64 o.uid, .int .i64 o.gid, .int .i64 o.mtime, .slice Ad o.data.length cd, .string o.target, .int .i64 o.major, .int .i64 o.minor, .slice Aa o.attrs.length ca, .slice none 0 0] := ⟨_, rfl⟩
                rw [← hcells2] at hO2
                have HO2' := Lib.hid hO2; have HXJ := Lib.hid hXJ; have HSJ := Lib.hid (HSI.out.mono hsubJ)
                clear hcells2 hB2 hg2 hrow2 hO2 hXJ hsubJ HO1 HXI HSI HDI HEI e0 e1 e2 e3 e4 e5 e6 e7 e8 e9 e10 e11 e12 e13
                have hjn0 : (0 : Int) ≤ (j : Int) := by omega
                by_cases hcj : co = j
                · have hd := HSJ.out.drop j (by omega) (some ⟨bo, oo, none⟩) (fun h => absurd h (by omega))
                  rw [hon] at hd
                  obtain ⟨cells3, hsrc3, hrep3⟩ := hd.src
                  rw [Hdl.out] at hsrc3
                  have HSrc3 := Lib.hid hsrc3; have HRep3 := Lib.hid hrep3
                  clear hd hsrc3 hrep3
                  go_wp2_with (at_builtin; refine wpList_appB rfl (.tmp 102) (.tmp 105) 36 42 rfl w.heap.size _ 14 184 Try.underlying36 Try.infoEnt rfl (by decide) _ _ rfl _ rfl (j + 1) cells2 ?h1 (n - j) cells3 ?h2 ?h3 ?h4 ?h5 ?_)
                  case h1 => have := HO2'.out.1; rw [List.length_append, Htl.out] at this; exact this
                  case h2 => have hs3 := HSrc3.out; rw [show co - j = 0 from by omega] at hs3; exact hs3
                  case h3 => exact HRep3.out.one
                  case h4 => omega
                  case h5 => exact HXJ.out.below.size
                  intro v3 wK hB3 hg3 hrow3
                  have hO3 : Out entR L6 wK w.heap.size 42 v3 (out.take j ++ [⟨u.deep + 1, p, o⟩] ++ out.drop j) (cells2 ++ cells3) :=
                    HO2'.out.app HXJ.out.ok (Below.refl _ _) (by rw [List.length_append, Htl.out, Hdl.out]; exact hB3) hg3 hrow3 HRep3.out
                  have hXK := grown_ext HXJ.out hg3 (fun g hg => (HO2'.out.1.lt g hg).1)
                  have hll : (out.take j ++ [(⟨u.deep + 1, p, o⟩ : Ent)] ++ out.drop j).length = n + 1 := by rw [List.length_append, List.length_append, Htl.out, Hdl.out]; simp; omega
                  obtain ⟨A3, c3, rfl, hc3, hc4⟩ := hO3.form
                  rw [hll] at hO3 hc3 ⊢
                  have HO3 := Lib.hid hO3; have HXK := Lib.hid hXK; have Hll := Lib.hid hll
                  clear hB3 hg3 hrow3 hO3 hXK hll HSrc3 HRep3 HO2' HXJ HSJ
                  go_wp2_with fail
                  go_roundw
                  case rel =>
                    refine ⟨k + 1, n + 1, out.take j ++ [⟨u.deep + 1, p, o⟩] ++ out.drop j, cells2 ++ cells3, L6, A3, c3, ?_, ?_, ?_, ?_, ?_, ?_, ?_, ?_, ?_, ?_, ?_, ?_⟩
                    · exact hlt
                    · exact h12
                    · rfl
                    · rfl
                    · exact Hll.out
                    · exact Nat.le_add_left _ _
                    · exact Nat.succ_le_succ hn2
                    · exact hc3
                    · exact hc4
                    · with_reducible exact HY'
                    · with_reducible exact HO3
                    · with_reducible exact HXK
                  case measure =>
                    clear hlenw hsum
                    simp [intOf]; omega
                · have hd := HSJ.out.drop j (by omega) (some ⟨bo, oo + j * 14, none⟩) (fun h => by simp [addr_add]; rfl)
                  rw [hon] at hd
                  obtain ⟨cells3, hsrc3, hrep3⟩ := hd.src
                  rw [Hdl.out] at hsrc3
                  have HSrc3 := Lib.hid hsrc3; have HRep3 := Lib.hid hrep3
                  clear hd hsrc3 hrep3
                  go_wp2_with (at_builtin; refine wpList_appB rfl (.tmp 102) (.tmp 105) 36 42 rfl w.heap.size _ 14 184 Try.underlying36 Try.infoEnt rfl (by decide) _ _ rfl _ rfl (j + 1) cells2 ?h1 (n - j) cells3 ?h2 ?h3 ?h4 ?h5 ?_)
                  case h1 => have := HO2'.out.1; rw [List.length_append, Htl.out] at this; exact this
                  case h2 => exact HSrc3.out
                  case h3 => exact HRep3.out.one
                  case h4 => omega
                  case h5 => exact HXJ.out.below.size
                  intro v3 wK hB3 hg3 hrow3
                  have hO3 : Out entR L6 wK w.heap.size 42 v3 (out.take j ++ [⟨u.deep + 1, p, o⟩] ++ out.drop j) (cells2 ++ cells3) :=
                    HO2'.out.app HXJ.out.ok (Below.refl _ _) (by rw [List.length_append, Htl.out, Hdl.out]; exact hB3) hg3 hrow3 HRep3.out
                  have hXK := grown_ext HXJ.out hg3 (fun g hg => (HO2'.out.1.lt g hg).1)
                  have hll : (out.take j ++ [(⟨u.deep + 1, p, o⟩ : Ent)] ++ out.drop j).length = n + 1 := by rw [List.length_append, List.length_append, Htl.out, Hdl.out]; simp; omega
                  obtain ⟨A3, c3, rfl, hc3, hc4⟩ := hO3.form
                  rw [hll] at hO3 hc3 ⊢
                  have HO3 := Lib.hid hO3; have HXK := Lib.hid hXK; have Hll := Lib.hid hll
                  clear hB3 hg3 hrow3 hO3 hXK hll HSrc3 HRep3 HO2' HXJ HSJ
                  go_wp2_with fail
                  go_roundw
                  case rel =>
                    refine ⟨k + 1, n + 1, out.take j ++ [⟨u.deep + 1, p, o⟩] ++ out.drop j, cells2 ++ cells3, L6, A3, c3, ?_, ?_, ?_, ?_, ?_, ?_, ?_, ?_, ?_, ?_, ?_, ?_⟩
                    · exact hlt
                    · exact h12
                    · rfl
                    · rfl
                    · exact Hll.out
                    · exact Nat.le_add_left _ _
                    · exact Nat.succ_le_succ hn2
                    · exact hc3
                    · exact hc4
                    · with_reducible exact HY'
                    · with_reducible exact HO3
                    · with_reducible exact HXK
                  case measure =>
                    clear hlenw hsum
                    simp [intOf]; omega
      · have h12I : ¬ (k : Int) < 12 := by omega
        have HE : Hid (out = rowF gs) := Lib.hid (by rw [HY.out]; unfold rowF; congr 1; rw [show k = 12 from by omega])
        go_wp2
        go_ret
        exact ⟨_, cells, Lk, rfl, by rw [← HE.out]; exact HO.out, HX.out⟩
    · have hkI : ¬ (k : Int) < (gs.length : Int) := by omega
      have HE : Hid (out = rowF gs) := Lib.hid (by rw [HY.out]; unfold rowF; congr 1; rw [List.take_of_length_le (by omega), List.take_of_length_le (by omega)])
      go_wp2
      go_ret
      exact ⟨_, cells, Lk, rfl, by rw [← HE.out]; exact HO.out, HX.out⟩
end Go.Proofs.Ytojcciciinklbaa
