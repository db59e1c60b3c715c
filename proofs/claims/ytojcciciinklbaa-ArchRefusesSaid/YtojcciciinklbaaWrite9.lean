/- Walks: a row of entries as bytes, as the document lays it. No claim by itself. -/
import Derived.Test.YtojcciciinklbaaOwn9
import Derived.Test.YtojcciciinklbaaFlat6
import Derived.Test.YtojcciciinklbaaRef7
import Derived.Deep.DeepCutAuto
import Derived.Lib.SlBytesConst
set_option linter.unusedSimpArgs false
set_option linter.unusedVariables false
namespace Go.Proofs.Ytojcciciinklbaa
open Go.RowKit

theorem rowW_at {l : List Ent} {k : Nat} (h : k < l.length) (z : Int) : rowW (l.drop k) z = ownW l[k].own ++ (if l[k].own.kind = 1 ∧ nextD (l.drop (k + 1)) z ≤ (l[k].deep : Int) then [0] else []) ++ List.replicate ((l[k].deep : Int) - max (nextD (l.drop (k + 1)) z) 0).toNat 0 ++ rowW (l.drop (k + 1)) z := by
  rw [List.drop_eq_getElem_cons h]; rfl
theorem nextD_at {l : List Ent} {k : Nat} (h : k < l.length) (z : Int) : nextD (l.drop k) z = l[k].deep := by
  rw [List.drop_eq_getElem_cons h]; rfl
theorem rown9E_any (o : Own) (Ad1 : Option Addr) (cd1 : Nat) (Aa1 : Option Addr) (ca1 : Nat) (L1 : Live) (w : World)
    (h1 : (nodeR 1).R L1 w (.mk o []) (nodeV o (.slice Ad1 o.data.length cd1) (.slice Aa1 o.attrs.length ca1) (.slice none 0 0))) (ho : ownR o = true) (hn : o.name.size ≤ 1000) :
    Calls Try.prog 63 #[.agg #[.int .i64 o.kind, .string o.name, .int .i64 o.mode, .int .i64 o.uid, .int .i64 o.gid, .int .i64 o.mtime, .slice Ad1 o.data.length cd1, .string o.target, .int .i64 o.major, .int .i64 o.minor, .slice Aa1 o.attrs.length ca1, .slice none 0 0]] w fun e w' => ∃ v', e = .returned v' ∧ Blk w' w.heap.size 5 1 v' (ownW o).length (bytesV (ownW o)) ∧ Below w.heap.size w w' := rown9_any 1 (.mk o []) _ L1 w h1 ho hn

set_option maxRecDepth 100000 in
set_option maxHeartbeats 8000000 in
theorem rwrite_any (l : List Ent) (v : Value) (L : Live) (w : World) (hS : SliceR entR L w l v) (hl : l.length ≤ 1000) (hd : ∀ e ∈ l, e.deep ≤ 1000) (ho : ∀ e ∈ l, ownR e.own = true ∧ e.own.name.size ≤ 1000) :
    Calls Try.prog 33 #[v] w fun e w' => ∃ v', e = .returned v' ∧ Blk w' w.heap.size 5 1 v' (writeR l).length (bytesV (writeR l)) ∧ Below w.heap.size w w' := by
  obtain ⟨A, c, rfl, _, _⟩ := hS.form
  have HS := Lib.hid hS; have Hd := Lib.hid hd; have Ho := Lib.hid ho
  clear hS hd ho
  have c27 := cellsNode
  go_enter Try.func33, Try.ntmps33
  have hcv : (convert 23 23 (.slice (some ⟨w.heap.size, 0, none⟩) 4 4)).run Try.prog (w.alloc (.cells #[.int .u8 76, .int .u8 84, .int .u8 82, .int .u8 49] 5)) = .ok (.slice (some ⟨w.heap.size, 0, none⟩) 4 4) (w.alloc (.cells #[.int .u8 76, .int .u8 84, .int .u8 82, .int .u8 49] 5 (4, 5))) := Lib.run_convert_bytes_const w _ _ _ 4 4 Try.underlying23 Try.underlying5
  go_wp2
  have hA0 : Acc w.heap.size w (w.alloc (.cells #[.int .u8 76, .int .u8 84, .int .u8 82, .int .u8 49] 5 (4, 5))) (.slice (some ⟨w.heap.size, 0, none⟩) 4 4) magicB :=
    ⟨⟨rfl, .inr ⟨w.heap.size, 4, _, (4, 5), rfl, Nat.le_refl _, heap_alloc_new w _, .inr (Nat.le_refl _), Nat.le_refl _, by decide, Nat.le_refl _, rfl⟩⟩, (Below.refl _ _).alloc (Nat.le_refl _) _, Nat.le_refl _⟩
  have HA0 := Lib.hid hA0
  clear hA0
  go_loopw [3, 4, 5, 6, 7] (fun v i u5 u6 u7 wr => ∃ (k : Nat) (acc : List UInt8), k ≤ l.length ∧ i = .int .i64 k ∧ acc.length ≤ 4 + 7001 * k ∧ Hid (acc ++ rowW (l.drop k) (-1) = writeR l) ∧ Acc w.heap.size w wr v acc) (fun _ i _ _ _ _ => l.length - (intOf i).toNat)
  case atStart => exact ⟨0, magicB, Nat.zero_le _, rfl, by decide, Lib.hid rfl, HA0.out⟩
  case round =>
    obtain ⟨k, acc1, hk, rfl, hl1, HE1, hA1⟩ := hrel
    obtain ⟨w1, hw1⟩ : ∃ x, x = wr := ⟨_, rfl⟩
    subst hw1
    have HA1 := Lib.hid hA1
    clear hA1 HA0
    by_cases hlt : k < l.length
    · have hkI : (k : Int) < (l.length : Int) := by omega
      obtain ⟨b, off, Ad, cd, Aa, ca, rfl, hR, _, _, m0, m1, m2, m3, m4, m5, m6, m7, m8, m9, m10, m11, m12, m13⟩ := ents_at2 HS.out k hlt
      have HJ := Lib.hid (rowW_at hlt (-1))
      have hde := Hd.out l[k] (List.getElem_mem hlt)
      have HOk := Lib.hid (Ho.out l[k] (List.getElem_mem hlt))
      obtain ⟨u, hu⟩ : ∃ a, a = l[k] := ⟨_, rfl⟩
      rw [← hu] at hR m0 m1 m2 m3 m4 m5 m6 m7 m8 m9 m10 m11 m12 HJ hde HOk
      clear hu
      obtain ⟨nx, hnx⟩ : ∃ n, n = nextD (l.drop (k + 1)) (-1) := ⟨_, rfl⟩
      rw [← hnx] at HJ
      have Hnx := Lib.hid hnx
      have HS1 : Hid (∀ w', Below w.heap.size w w' → w'.cell? ⟨b, off + k * 14, none⟩ = some (.int .i64 u.deep) ∧ w'.cell? ⟨b, off + k * 14 + 2, none⟩ = some (.int .i64 u.own.kind) ∧ w'.cell? ⟨b, off + k * 14 + 2 + 1, none⟩ = some (.string u.own.name) ∧ w'.cell? ⟨b, off + k * 14 + 2 + 2, none⟩ = some (.int .i64 u.own.mode) ∧ w'.cell? ⟨b, off + k * 14 + 2 + 3, none⟩ = some (.int .i64 u.own.uid) ∧ w'.cell? ⟨b, off + k * 14 + 2 + 4, none⟩ = some (.int .i64 u.own.gid) ∧ w'.cell? ⟨b, off + k * 14 + 2 + 5, none⟩ = some (.int .i64 u.own.mtime) ∧ w'.cell? ⟨b, off + k * 14 + 2 + 6, none⟩ = some (.slice Ad u.own.data.length cd) ∧ w'.cell? ⟨b, off + k * 14 + 2 + 7, none⟩ = some (.string u.own.target) ∧ w'.cell? ⟨b, off + k * 14 + 2 + 8, none⟩ = some (.int .i64 u.own.major) ∧ w'.cell? ⟨b, off + k * 14 + 2 + 9, none⟩ = some (.int .i64 u.own.minor) ∧ w'.cell? ⟨b, off + k * 14 + 2 + 10, none⟩ = some (.slice Aa u.own.attrs.length ca) ∧ w'.cell? ⟨b, off + k * 14 + 2 + 11, none⟩ = some (.slice none 0 0)) := Lib.hid (fun w' hb => by
        have kk : ∀ {q : Addr} {u : Value}, w.cell? q = some u → w'.cell? q = some u := fun hu => (hb.cell (World.block_lt_of_cell? w _ hu)).trans hu
        exact ⟨kk m0, kk m2, kk m3, kk m4, kk m5, kk m6, kk m7, kk m8, kk m9, kk m10, kk m11, kk m12, kk m13⟩)
      have HR := Lib.hid hR
      clear hR hnx m0 m1 m2 m3 m4 m5 m6 m7 m8 m9 m10 m11 m12 m13
      obtain ⟨m0, m2, m3, m4, m5, m6, m7, m8, m9, m10, m11, m12, m13⟩ := HS1.out _ HA1.out.bel
      go_wp2_with fail
      refine (rown9E_any u.own _ _ _ _ L _ ((nodeR 1).mono (sub_same HA1.out.bel) HR.out) HOk.out.1 HOk.out.2).mono ?_
      rintro e w2c ⟨v2c, rfl, hBc, hXc⟩
      have HBc := Lib.hid hBc; have HAc := Lib.hid (HA1.out.step hXc)
      have HyL : Hid ((ownW u.own).length ≤ 6000) := Lib.hid (ownW_len (own_facts HOk.out.1) HOk.out.2)
      obtain ⟨ys, hys⟩ : ∃ y, y = ownW u.own := ⟨_, rfl⟩
      rw [← hys] at HBc HJ HyL
      have hyl := HyL.out
      clear hBc hXc hys m0 m2 m3 m4 m5 m6 m7 m8 m9 m10 m11 m12 m13
      go_wp2_with (at_builtin; refine wpList_acc rfl (.tmp 16) (.tmp 22) rfl Try.info5 w.heap.size w _ w2c rfl _ _ acc1 ys rfl rfl HAc.out ys.length rfl (Blk.src HBc.out) (by omega) ?_)
      intro v2 w2 hA2 _ _
      obtain ⟨acc2, hacc2⟩ : ∃ a, a = acc1 ++ ys := ⟨_, rfl⟩
      have hl2 : acc2.length ≤ 4 + 7001 * k + 6000 := by rw [hacc2, List.length_append]; omega
      rw [← hacc2] at hA2
      have HA2 := Lib.hid hA2; have HE2 := Lib.hid hacc2
      clear hA2 HAc HBc HA1 hacc2 HR
      go_upto_if 28 with fail
      go_cut [5] (fun z wx => z = .int .i64 nx ∧ Hid (wx = w2))
      case first =>
        by_cases hn : k + 1 < l.length
        · have hnI : (k : Int) + 1 < (l.length : Int) := by omega
          have hn0 : 0 ≤ (k : Int) + 1 := by omega
          have hn1 : ((k : Int) + 1).toNat = k + 1 := by omega
          have hn2 : IntKind.i64.wrap ((k : Int) + 1) = (k : Int) + 1 := IntWalk.i64_in _ (by omega)
          obtain ⟨b', off', Ad', cd', Aa', ca', hA', _, _, _, c0, _⟩ := ents_at2 HS.out (k + 1) hn
          injection hA' with hA'
          injection hA' with hA1 hA2 _
          subst hA1 hA2
          have hz : (l[k + 1].deep : Int) = nx := by rw [Hnx.out, nextD_at hn]
          rw [hz] at c0
          clear hz
          have c1 : w2.cell? ⟨b, off + (k + 1) * 14, none⟩ = some (.int .i64 nx) := (HA2.out.bel.cell (World.block_lt_of_cell? w _ c0)).trans c0
          clear c0
          go_wp2_with fail
          go_meet
          case rel => exact ⟨rfl, Lib.hid rfl⟩
        · have hnI : ¬ (k : Int) + 1 < (l.length : Int) := by omega
          have hn2 : IntKind.i64.wrap ((k : Int) + 1) = (k : Int) + 1 := IntWalk.i64_in _ (by omega)
          have hz : nx = -1 := by rw [Hnx.out, List.drop_of_length_le (by omega)]; rfl
          subst hz
          go_wp2_with fail
          go_meet
          case rel => exact ⟨rfl, Lib.hid rfl⟩
      case rest =>
        obtain ⟨rfl, Hcut⟩ := hcut
        obtain ⟨w3, hw3⟩ : ∃ y, y = wc := ⟨_, rfl⟩
        subst hw3
        have HA3 : Hid (Acc w.heap.size w w3 v2 acc2) := Lib.hid (by rw [Hcut.out]; exact HA2.out)
        clear HA2 Hcut
        obtain ⟨m0, m2, m3, m4, m5, m6, m7, m8, m9, m10, m11, m12, m13⟩ := HS1.out _ HA3.out.bel
        clear m3 m4 m5 m6 m7 m8 m9 m10 m11 m12 m13
        obtain ⟨d, hd⟩ : ∃ d, d = u.deep := ⟨_, rfl⟩
        obtain ⟨kd, hkd⟩ : ∃ d, d = u.own.kind := ⟨_, rfl⟩
        obtain ⟨bq, hbq⟩ : ∃ b, b = decide (u.own.kind = 1 ∧ nx ≤ (u.deep : Int)) := ⟨_, rfl⟩
        obtain ⟨z1, hz1⟩ : ∃ z, z = (if u.own.kind = 1 ∧ nx ≤ (u.deep : Int) then [(0 : UInt8)] else []) := ⟨_, rfl⟩
        have Hz1 : Hid (z1 = if bq = true then [(0 : UInt8)] else []) := Lib.hid (by rw [hz1, hbq]; simp only [decide_eq_true_eq])
        have hz1l : z1.length ≤ 1 := by rw [hz1]; split <;> simp
        rw [← hz1] at HJ
        rw [← hd] at HJ hbq hde m0
        rw [← hkd] at m2 hbq
        have Hbq := Lib.hid hbq
        clear hz1 hd hkd hbq
        go_upto_region 10 with fail
        go_cut [51] (fun z wx => z = .bool bq ∧ Hid (wx = w3))
        case first =>
          by_cases hk1 : kd = 1
          · subst hk1
            have Hb2 : Hid (decide (nx ≤ (d : Int)) = bq) := Lib.hid (by rw [Hbq.out]; simp)
            go_wp2_with fail
            go_meet
            case rel => exact ⟨congrArg Value.bool Hb2.out, Lib.hid rfl⟩
          · have hk2 : (kd == 1) = false := beq_eq_false_iff_ne.2 hk1
            have Hb2 : Hid (bq = false) := Lib.hid (by rw [Hbq.out]; simp [hk1])
            go_wp2_with fail
            go_meet
            case rel => exact ⟨congrArg Value.bool Hb2.out.symm, Lib.hid rfl⟩
        case rest =>
        obtain ⟨rfl, Hcut⟩ := hcut
        obtain ⟨w3b, hw3b⟩ : ∃ y, y = wc := ⟨_, rfl⟩
        subst hw3b
        have HA3b : Hid (Acc w.heap.size w w3b v2 acc2) := Lib.hid (by rw [Hcut.out]; exact HA3.out)
        clear HA3 Hcut Hbq m0 m2
        go_upto_if 51 with fail
        go_cut [3] (fun z wx => Hid (Acc w.heap.size w wx z (acc2 ++ z1)))
        case first =>
          cases bq with
          | true =>
            have Hz2 : Hid (z1 = [0]) := Lib.hid Hz1.out
            clear Hz1
            go_wp2_with (at_builtin; refine wpList_acc rfl (.tmp 52) (.tmp 53) rfl Try.info5 w.heap.size w _ (w3b.alloc (.cells #[.int .u8 0] 5)) rfl _ _ acc2 [0] rfl rfl (HA3b.out.step ((Below.refl _ _).alloc (Nat.le_refl _) _)) 1 rfl ?e3 ?e4 ?_)
            case e3 => exact Src.new w3b 5 1 1 1 [_] rfl
            case e4 => first | omega | (simp; omega)
            intro v4 w4 hA4 _ _
            have HA4 := Lib.hid hA4
            clear hA4
            go_wp2_with fail
            go_meet
            case rel => exact Lib.hid (by rw [Hz2.out]; exact HA4.out)
          | false =>
            have Hz2 : Hid (z1 = []) := Lib.hid Hz1.out
            clear Hz1
            go_wp2_with fail
            go_meet
            case rel => exact Lib.hid (by rw [Hz2.out, List.append_nil]; exact HA3b.out)
        case rest =>
          obtain ⟨w4, hw4⟩ : ∃ y, y = wc := ⟨_, rfl⟩
          subst hw4
          have HA4 := hcut
          obtain ⟨acc4, hacc4⟩ : ∃ a, a = acc2 ++ z1 := ⟨_, rfl⟩
          have hl4 : acc4.length ≤ 4 + 7001 * k + 6001 := by rw [hacc4, List.length_append]; omega
          rw [← hacc4] at HA4
          have HE4 := Lib.hid hacc4
          clear hacc4 hcut HA3b
          obtain ⟨m, hm⟩ : ∃ m : Nat, max nx 0 = (m : Int) := ⟨(max nx 0).toNat, by omega⟩
          obtain ⟨cnt, hcnt⟩ : ∃ n, n = ((d : Int) - max nx 0).toNat := ⟨_, rfl⟩
          have hcm : cnt = d - m := by rw [hcnt, hm]; omega
          rw [← hcnt] at HJ
          clear hcnt
          go_wp2_with fail
          go_loopw [3, 7] (fun z kv wx => ∃ e j : Nat, kv = .int .i64 e ∧ e + j = d ∧ j ≤ cnt ∧ Hid (Acc w.heap.size w wx z (acc4 ++ List.replicate j 0))) (fun _ kv _ => (intOf kv).toNat)
          case atStart => exact ⟨d, 0, rfl, rfl, Nat.zero_le _, Lib.hid (by simpa using HA4.out)⟩
          case round =>
            obtain ⟨e, j, rfl, hej, hjc, HA5⟩ := hrel
            obtain ⟨w5, hw5⟩ : ∃ y, y = wr := ⟨_, rfl⟩
            subst hw5
            have hl5 : (acc4 ++ List.replicate j 0).length ≤ 4 + 7001 * k + 7001 := by rw [List.length_append, List.length_replicate]; omega
            by_cases hem : m < e
            · have hemI : (m : Int) < (e : Int) := by omega
              have hem2 : IntKind.i64.wrap ((e : Int) - 1) = (e : Int) - 1 := IntWalk.i64_in _ (by omega)
              have hem3 : (e : Int) - 1 = ((e - 1 : Nat) : Int) := by omega
              have HJ5 : Hid (acc4 ++ (List.replicate j 0 ++ [0]) = acc4 ++ List.replicate (j + 1) (0 : UInt8)) := Lib.hid (by rw [List.replicate_succ'])
              go_wp2_with (at_builtin; refine wpList_acc rfl (.tmp 62) (.tmp 63) rfl Try.info5 w.heap.size w _ (w5.alloc (.cells #[.int .u8 0] 5)) rfl _ _ (acc4 ++ List.replicate j 0) [0] rfl rfl (HA5.out.step ((Below.refl _ _).alloc (Nat.le_refl _) _)) 1 rfl ?e3 ?e4 ?_)
              case e3 => exact Src.new w5 5 1 1 1 [_] rfl
              case e4 => first | omega | (simp only [List.length_cons, List.length_nil]; omega)
              intro v6 w6 hA6 _ _
              first | rw [HJ5.out] at hA6 | rw [List.append_assoc, HJ5.out] at hA6
              have HA6 := Lib.hid hA6
              clear hA6 HA5
              go_wp2_with fail
              go_roundw
              case rel => exact ⟨e - 1, j + 1, by first | rfl | rw [hem3] | (simp [hem3]), by omega, by omega, HA6⟩
              case measure => simp [intOf]; omega
            · have hemI : ¬ (m : Int) < (e : Int) := by omega
              have hjd : j = cnt := by omega
              have HJ6 : Hid ((acc4 ++ List.replicate j 0) ++ rowW (l.drop (k + 1)) (-1) = writeR l) := Lib.hid (by
                rw [← HE1.out, HJ.out, HE4.out, HE2.out, hjd]; simp)
              clear hjd HJ HE1 HE2 HE4
              go_wp2_with fail
              go_roundw
              case rel => exact ⟨k + 1, acc4 ++ List.replicate j 0, by omega, by go_num, by omega, HJ6, HA5.out⟩
              case measure => simp [intOf]; omega
    · have hkn : ¬ (k : Int) < (l.length : Int) := by omega
      have HT : Hid (acc1 = writeR l) := Lib.hid (by rw [← HE1.out, List.drop_of_length_le (by omega)]; simp [rowW])
      go_wp2_with fail
      go_ret
      exact HA1.out.fin HT.out (Nat.le_refl _) (Below.refl _ _)
end Go.Proofs.Ytojcciciinklbaa
