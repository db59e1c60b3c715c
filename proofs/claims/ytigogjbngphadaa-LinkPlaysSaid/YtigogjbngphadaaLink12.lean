/- Walks of what the link's statements call, the eleventh part: the document's Turn. No claim by itself. -/
import Derived.Test.YtigogjbngphadaaLink11
set_option linter.unusedSimpArgs false
set_option linter.unusedVariables false
namespace Go.Proofs.Ytigogjbngphadaa
open Go.RowKit

theorem pkV_set (xs : List Pk) (k : Nat) (hk : k < xs.length) (s : ByteArray) : (pkV xs).set (k * 2 + 1) (.string s) = pkV (xs.set k (xs[k].1, s)) := by
  induction xs generalizing k with
  | nil => simp at hk
  | cons x xs ih =>
    cases k with
    | zero => rfl
    | succ k =>
      have := ih k (by simpa using hk)
      rw [show (k + 1) * 2 + 1 = k * 2 + 1 + 1 + 1 from by omega]
      show Value.int .i64 x.1 :: Value.string x.2 :: (pkV xs).set (k * 2 + 1) (.string s) = _
      rw [this]; rfl

theorem turn_pre {w1 : World} {B c2 n base place : Nat} {l : List UInt8} (hB : Blk w1 base 5 1 (.slice (some ⟨B, 0, none⟩) n c2) n (bytesV l)) (hp : place < n) (hl : l.length = n) :
    w1.cell? ⟨B, place, none⟩ = some (.int .u8 (l.getD place 0).toNat) ∧ w1.frozen? ⟨B, place, none⟩ = false ∧ n ≤ c2 ∧ c2 ≤ 9223372036854775807 := by
  obtain ⟨g2, cap2, cur2, fr2, he, hg2, hh2, hf2, hc21, hc22, hc23, hc24⟩ := hB.row (by omega)
  simp at he
  obtain ⟨rfl, rfl⟩ := he
  exact ⟨hc24 place _ (bytesV_getD _ place (by omega)), frozen_free hh2 hf2 (by omega), hc21, hc22⟩

set_option maxHeartbeats 2000000 in
theorem rturn_any (k place : Nat) (y : UInt8) (v : Value) (base : Nat) (w : World) (xs : List Pk) (hk : k < xs.length) (hp : place < xs[k].2.size) (hz : xs[k].2.size ≤ room) (hlt : xs.length ≤ 64) (h : PL w base v xs) (hbase : base ≤ w.heap.size) :
    Calls Try.prog 36 #[v, .int .i64 k, .int .i64 place, .int .u8 y.toNat] w fun e w' => ∃ v', e = .returned (.tuple #[v', .int .i64 0]) ∧ PL w' w.heap.size v' (xs.set k (turnP xs[k] place y)) ∧ Below w.heap.size w w' := by
  have hb := inB_true hk
  have hz' : xs[k].2.size ≤ 140737488355328 := hz
  obtain ⟨r, cap, rfl, _, hcl, hcm, hat⟩ := PL.at_ h (by omega)
  obtain ⟨c0, c1⟩ := hat k hk
  have hkI : (k : Int) < (xs.length : Int) := by omega
  have hd : decide ((place : Int) < 0) = false := by simp
  have hd2 : decide ((xs[k].2.size : Int) ≤ (place : Int)) = false := by simp; omega
  have hp3 : (place : Int) < (xs[k].2.size : Int) := by omega
  have HP := Lib.hid h
  clear h hat c0 hz
  have hlen : xs[k].2.data.toList.length = xs[k].2.size := rfl
  obtain ⟨z, hz⟩ : ∃ z : UInt8, z = xs[k].2.data.toList.getD place 0 := ⟨_, rfl⟩
  have kx0 := xor_u8 z y
  obtain ⟨q, hq⟩ : ∃ q : UInt8, q = z ^^^ y := ⟨_, rfl⟩
  have kx : bits .xor .u8 (z.toNat : Int) (y.toNat : Int) = (q.toNat : Int) := by rw [hq]; exact kx0
  clear kx0
  have Hq := Lib.hid hq; clear hq
  have Hz := Lib.hid hz; clear hz
  go_enter Try.func36, Try.ntmps36
  go_wp2_with fail
  refine (rin_any k _ base w xs HP.out).mono ?_; rintro e w' ⟨rfl, rfl⟩
  go_wp2_with (first
    | (refine wpList_bytes (o := ⟨some 37, _, _, _, _, _⟩) rfl (.tmp 36) 9 22 5 rfl Try.underlying9 Try.underlying22 Try.underlying5 _ w.heap.size w.heap.size rfl xs[k].2 rfl (Nat.le_refl _) hz' ?_
       intro c2 w1 hblk hbel hsz
       obtain ⟨hcc, hff, hc21, hc22⟩ := turn_pre hblk hp rfl
       rw [← Hz.out] at hcc
       have HB := Lib.hid hblk
       have HX := Lib.hid hbel
       have Hs1 : Hid (w.heap.size + 1 ≤ w1.heap.size) := Lib.hid (by omega)
       clear hblk hbel hsz)
    | (at_builtin
       refine wpList_appB rfl (.tmp 47) (.tmp 48) 38 40 rfl w.heap.size _ 2 24 Try.underlying38 Try.info40 rfl (by decide) _ (.slice none 0 0) rfl _ rfl 0 [] (Blk.nil _ _ _ _) xs.length (pkV xs) ?d1 ?d2 ?d3 ?d4 ?_))
  case d1 => exact Blk.src (Blk.below HP.out (HX.out.setCell (Nat.le_refl _) _))
  case d2 => exact pkV_one _
  case d3 => omega
  case d4 => have := Hs1.out; simp [World.setCell]; omega
  intro v4 w4 hB4 hg4 _
  have hX3 : Below w.heap.size w (w1.setCell ⟨w.heap.size, place, none⟩ (.int .u8 (q.toNat : Int))) := HX.out.setCell (Nat.le_refl _) _
  have hK3 : Blk (w1.setCell ⟨w.heap.size, place, none⟩ (.int .u8 (q.toNat : Int))) w.heap.size 5 1 (.slice (some ⟨w.heap.size, 0, none⟩) xs[k].2.size c2) xs[k].2.size (bytesV (xs[k].2.data.toList.set place q)) := by
    obtain ⟨g', hg', hs⟩ := HB.out.store place (.int .u8 (q.toNat : Int)) (by omega)
    simp [Value.ownBlock] at hg'
    subst hg'
    rw [← bytesV_set]; exact hs
  have hX4 : Below w.heap.size w w4 := hX3.grown hg4 hX3.size (fun k h => by simp [Value.ownBlock] at h)
  have hK4 : Blk w4 w.heap.size 5 1 (.slice (some ⟨w.heap.size, 0, none⟩) xs[k].2.size c2) xs[k].2.size (bytesV (xs[k].2.data.toList.set place q)) := hK3.below ((Below.refl _ _).grown hg4 (Nat.le_refl _) (fun k h => by simp [Value.ownBlock] at h))
  have hl4 : (xs[k].2.data.toList.set place q).length = xs[k].2.size := by rw [List.length_set]; exact hlen
  have kc := SliceR.toStr (P := Try.prog) (hK4.list hl4 (by omega)) 22 5 9 Try.underlying22 Try.underlying5 Try.underlying9
  have hP4 : PL w4 w.heap.size v4 xs := by
    unfold PL
    simpa using hB4
  obtain ⟨g4, cap4, cur4, fr4, rfl, hg4', hh4, hf4, hc41, hc42, hc43, _⟩ := Blk.row hP4 (by omega)
  have hff4 : w4.frozen? ⟨g4, k * 2 + 1, none⟩ = false := frozen_free hh4 hf4 (by omega)
  obtain ⟨old, hold⟩ : ∃ old, w4.cell? ⟨g4, k * 2 + 1, none⟩ = some old := ⟨_, (Blk.row hP4 (by omega)).elim fun g h => by
    obtain ⟨cap, cur, fr, he, _, _, _, _, _, _, hc⟩ := h
    simp at he
    obtain ⟨rfl, rfl⟩ := he
    exact hc _ _ (pkV_get xs k hk).2⟩
  have HE : Hid (PL (w4.setCell ⟨g4, k * 2 + 1, none⟩ (.string (mkS (xs[k].2.data.toList.set place q)))) w.heap.size (.slice (some ⟨g4, 0, none⟩) xs.length cap4) (xs.set k (turnP xs[k] place y)) ∧ Below w.heap.size w (w4.setCell ⟨g4, k * 2 + 1, none⟩ (.string (mkS (xs[k].2.data.toList.set place q))))) := by
    refine ⟨?_, hX4.setCell hg4' _⟩
    obtain ⟨g', hg', hs⟩ := Blk.store hP4 (k * 2 + 1) (.string (mkS (xs[k].2.data.toList.set place q))) (by omega)
    simp [Value.ownBlock] at hg'
    subst hg'
    unfold PL
    rw [List.length_set]
    rw [pkV_set xs k hk] at hs
    rw [turnP, ← Hz.out, ← Hq.out]
    exact hs
  clear hB4 hg4 hX3 hK3 hX4 hK4 hl4 hP4 hh4 hf4 hc43 hg4'
  go_wp2
  refine bodyPost_ret (v := .tuple #[.slice (some ⟨g4, 0, none⟩) xs.length cap4, .int .i64 0]) (by simp [results, Try.results36, go_sem]) rfl ?_
  exact ⟨_, rfl, HE.out.1, HE.out.2⟩
end Go.Proofs.Ytigogjbngphadaa
