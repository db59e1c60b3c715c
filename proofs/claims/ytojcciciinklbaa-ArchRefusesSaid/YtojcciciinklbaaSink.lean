/- Walks: where what is laid goes: bytes that are kept. No claim by itself. -/
import Derived.Test.YtojcciciinklbaaLay0
import Derived.Test.YtojcciciinklbaaAppStr
import Derived.Test.YtojcciciinklbaaRef01
import Derived.Deep.RegionHeld3
import Derived.Deep.CutRange
set_option linter.unusedSimpArgs false
set_option linter.unusedVariables false
namespace Go.Proofs.Ytojcciciinklbaa
open Go.RowKit

/-- A step that turns one block, and a row, and makes new ones. -/
structure Turns (B : Nat) (w : World) (r : Option Nat) (w' : World) (r' : Option Nat) : Prop where
  keep : ∀ k, k < w.heap.size → k ≠ B → some k ≠ r → w'.heap[k]? = w.heap[k]?
  row : r' = r ∨ ∃ k, r' = some k ∧ w.heap.size ≤ k
  size : w.heap.size ≤ w'.heap.size
theorem Turns.refl (B : Nat) (w : World) (r : Option Nat) : Turns B w r w r := ⟨fun _ _ _ _ => rfl, .inl rfl, Nat.le_refl _⟩
theorem Turns.trans {B : Nat} {w w1 w2 : World} {r r1 r2 : Option Nat} (h : Turns B w r w1 r1) (k : Turns B w1 r1 w2 r2) : Turns B w r w2 r2 := by
  refine ⟨fun j hj hB hr => ?_, ?_, Nat.le_trans h.size k.size⟩
  · have h1 : some j ≠ r1 := fun e => by
      rcases h.row with h2 | ⟨i, h2, h3⟩
      · exact hr (e.trans h2)
      · rw [h2] at e; injection e with e; omega
    rw [k.keep j (Nat.lt_of_lt_of_le hj h.size) hB h1, h.keep j hj hB hr]
  · rcases k.row with h2 | ⟨i, h2, h3⟩
    · rcases h.row with h4 | ⟨i, h4, h5⟩
      · exact .inl (h2.trans h4)
      · exact .inr ⟨i, h2.trans h4, h5⟩
    · exact .inr ⟨i, h2, Nat.le_trans h.size h3⟩
theorem Turns.step {B : Nat} {w w1 w2 : World} {r r1 : Option Nat} (h : Turns B w r w1 r1) (hb : Below w1.heap.size w1 w2) : Turns B w r w2 r1 :=
  ⟨fun j hj hB hr => by rw [hb.block j (Nat.lt_of_lt_of_le hj h.size), h.keep j hj hB hr], h.row, Nat.le_trans h.size hb.size⟩
/-- Bytes kept: in a variable, in a row. -/
structure SinkB (B : Nat) (W : World) (w : World) (r : Option Nat) (acc : List UInt8) : Prop where
  ex : ∃ v, r = v.ownBlock ∧ w.heap[B]? = some (.cells #[v] 106 (0, 0)) ∧ Blk w (B + 1) 5 1 v acc.length (bytesV acc)
  bel : Below B W w
  le : B ≤ W.heap.size
theorem SinkB.keep {B : Nat} {W w w' : World} {r : Option Nat} {acc : List UInt8} (h : SinkB B W w r acc) (hb : Below w.heap.size w w') : SinkB B W w' r acc := by
  obtain ⟨v, hr, hc, hB⟩ := h.ex
  exact ⟨⟨v, hr, (hb.block B (Array.getElem?_eq_some_iff.1 hc).1).trans hc, hB.below hb⟩, h.bel.trans (hb.mono (Nat.le_trans h.le h.bel.size)), h.le⟩
theorem SinkB.lt {B : Nat} {W w : World} {r : Option Nat} {acc : List UInt8} (h : SinkB B W w r acc) : B < w.heap.size ∧ ∀ k, r = some k → B < k ∧ k < w.heap.size := by
  obtain ⟨v, hr, hc, hB⟩ := h.ex
  refine ⟨(Array.getElem?_eq_some_iff.1 hc).1, fun k hk => ?_⟩
  have := hB.lt k (hr.symm.trans hk)
  omega
/-- A store of the slice that an append has left. -/
theorem SinkB.app {B : Nat} {W w w1 : World} {r : Option Nat} {acc ys : List UInt8} {v v1 : Value} (h : SinkB B W w r acc) (hv : r = v.ownBlock) (w0 : World) (hw0 : Below w.heap.size w w0) (hB : Blk w1 (B + 1) 5 1 v1 (acc.length + ys.length) (bytesV acc ++ bytesV ys)) (hg : w0.grownBy w1 v.ownBlock) (hr : v1.ownBlock = v.ownBlock ∨ v1.ownBlock = some w0.heap.size) :
    ∃ r', SinkB B W (w1.setCell ⟨B, 0, none⟩ v1) r' (acc ++ ys) ∧ Turns B w r (w1.setCell ⟨B, 0, none⟩ v1) r' := by
  have hlt := h.lt
  obtain ⟨u, hu, hc, hBu⟩ := h.ex
  have hs0 := hw0.size
  have hs1 := hg.size
  have hne : some B ≠ v.ownBlock := fun e => by have := (hlt.2 B (hv.trans e.symm)).1; omega
  have hc1 : w1.heap[B]? = some (.cells #[u] 106 (0, 0)) := (hg.block B (by omega) (fun e => hne e)).trans ((hw0.block B hlt.1).trans hc)
  have hne1 : some B ≠ v1.ownBlock := fun e => by
    have := (hB.lt B e.symm).1; omega
  refine ⟨v1.ownBlock, ⟨⟨v1, rfl, ?_, ?_⟩, ?_, h.le⟩, ⟨fun k hk hkB hkr => ?_, ?_, ?_⟩⟩
  · simp [World.setCell, Array.getElem?_modify, hc1]
  · rw [List.length_append, bytesV_append]
    exact hB.kept fun k hk => Below.heap_setCell w1 ⟨B, 0, none⟩ v1 k (fun e => hne1 (by rw [hk]; exact congrArg some e.symm))
  · refine ((h.bel.trans (hw0.mono (by omega))).grown hg (by have := h.bel.size; have := h.le; omega) (fun k hk => ?_)).setCell (Nat.le_refl _) _
    have := (hlt.2 k (hv.trans hk)).1; omega
  · rw [Below.heap_setCell w1 ⟨B, 0, none⟩ v1 k hkB, hg.block k (by omega) (fun e => hkr (e.trans hv.symm)), hw0.block k hk]
  · rcases hr with hr | hr
    · exact .inl (hr.trans hv.symm)
    · exact .inr ⟨_, hr, hs0⟩
  · simp only [World.setCell, Array.size_modify]; omega

set_option maxRecDepth 100000 in
set_option maxHeartbeats 1000000 in
theorem btext_any (B : Nat) (W w : World) (r : Option Nat) (acc : List UInt8) (s : ByteArray) (h : SinkB B W w r acc) (hl : acc.length + s.size ≤ 140737488355328) :
    Calls Try.prog 68 #[.pointer (some ⟨B, 0, none⟩), .string s] w fun e w' => e = .returned (.tuple #[]) ∧ ∃ r', SinkB B W w' r' (acc ++ s.data.toList) ∧ Turns B w r w' r' := by
  have H := Lib.hid h
  obtain ⟨v, hr, hc, hB⟩ := h.ex
  have hlt := h.lt.1
  have HB := Lib.hid hB; have Hr := Lib.hid hr
  have c0 : w.cell? ⟨B, 0, none⟩ = some v := by rw [cell_block hc]; rfl
  have f0 : w.frozen? ⟨B, 0, none⟩ = false := by simp [World.frozen?, hc]
  clear h hB hr hc
  go_enter Try.func68, Try.ntmps68
  go_wp2_with (at_builtin; refine wpList_appStr rfl (.tmp 8) (.tmp 9) 23 9 5 rfl (B + 1) Try.underlying23 Try.underlying9 Try.info5 w v rfl s rfl acc.length (bytesV acc) HB.out hl (by omega) ?_)
  intro v1 w1 hB1 hg1 hr1
  have hne : some B ≠ v.ownBlock := fun e => by have := (HB.out.lt B e.symm).1; omega
  have hc1 : w1.heap[B]? = w.heap[B]? := hg1.block B hlt (fun e => hne e)
  have c1 : w1.cell? ⟨B, 0, none⟩ = some v := (World.cell?_of_block (w := w) (a := ⟨B, 0, none⟩) hc1).trans c0
  have f1 : w1.frozen? ⟨B, 0, none⟩ = false := by rw [← f0]; simp only [World.frozen?, hc1]
  have HN : Hid (∃ r', SinkB B W (w1.setCell ⟨B, 0, none⟩ v1) r' (acc ++ s.data.toList) ∧ Turns B w r (w1.setCell ⟨B, 0, none⟩ v1) r') := Lib.hid (H.out.app Hr.out w (Below.refl _ _) hB1 hg1 hr1)
  obtain ⟨A1, cc, rfl, _, _⟩ := hB1.form
  clear hB1 hg1 hr1 hne hc1 c0 f0
  go_wp2
  go_end0
  exact ⟨rfl, HN.out⟩

set_option maxRecDepth 100000 in
set_option maxHeartbeats 1000000 in
theorem bnumber_any (B : Nat) (W w : World) (r : Option Nat) (acc : List UInt8) (n : Int) (K : Nat) (h : SinkB B W w r acc) (hl : acc.length + K ≤ 140737488355328) (hK : K ≤ 100) (hn : -9223372036854775808 ≤ n ∧ n ≤ 9223372036854775807) :
    Calls Try.prog 140 #[.pointer (some ⟨B, 0, none⟩), .int .i64 n, .int .i64 K] w fun e w' => e = .returned (.tuple #[]) ∧ ∃ r', SinkB B W w' r' (acc ++ numB K n) ∧ Turns B w r w' r' := by
  have H := Lib.hid h
  clear h
  go_enter Try.func140, Try.ntmps140
  go_wp2
  go_loopw [1, 7] (fun nv i wr => ∃ (k : Nat) (m : Int) (ys : List UInt8) (r' : Option Nat), k ≤ K ∧ i = .int .i64 k ∧ nv = .int .i64 m ∧ (-9223372036854775808 ≤ m ∧ m ≤ 9223372036854775807) ∧ ys.length = k ∧ Hid (ys ++ numB (K - k) m = numB K n) ∧ Hid (SinkB B W wr r' (acc ++ ys)) ∧ Hid (Turns B w r wr r')) (fun _ i _ => K - (intOf i).toNat)
  case atStart => exact ⟨0, n, [], r, Nat.zero_le _, rfl, rfl, hn, rfl, Lib.hid rfl, Lib.hid (by simpa using H.out), Lib.hid (Turns.refl _ _ _)⟩
  case round =>
    obtain ⟨k, m, ys, r', hk, rfl, rfl, hm, hyl, HX, HS, HT⟩ := hrel
    by_cases hlt : k < K
    · have hkI : (k : Int) < (K : Int) := by omega
      obtain ⟨v, hr, hc, hB⟩ := HS.out.ex
      have hBlt := HS.out.lt.1
      have c0 : wr.cell? ⟨B, 0, none⟩ = some v := by rw [cell_block hc]; rfl
      have f0 : wr.frozen? ⟨B, 0, none⟩ = false := by simp [World.frozen?, hc]
      have HB := Lib.hid hB; have Hr := Lib.hid hr
      clear hB hr hc
      obtain ⟨q, hq⟩ : ∃ q, q = UInt8.ofNat (m % 256).toNat := ⟨_, rfl⟩
      have hw1 : IntKind.u8.wrap m = (q.toNat : Int) := by
        rw [IntKind.wrap_u8, hq]
        have : (m % 256).toNat < 256 := by omega
        rw [UInt8.toNat_ofNat_of_lt' this]; omega
      obtain ⟨z, hz⟩ : ∃ z, z = m / 256 := ⟨_, rfl⟩
      have HN : Hid ((ys ++ [q]) ++ numB (K - (k + 1)) z = numB K n) := Lib.hid (by
        rw [← HX.out, show K - k = (K - (k + 1)) + 1 from by omega, numB, hq, hz]; simp)
      have hz2 : -9223372036854775808 ≤ z ∧ z ≤ 9223372036854775807 := by omega
      have Hz := Lib.hid hz
      clear hq hz
      go_wp2_with (at_builtin; refine wpList_appB rfl (.tmp 13) (.tmp 16) 23 5 rfl (B + 1) _ 1 1 Try.underlying23 Try.info5 rfl (by decide) (wr.alloc (.cells #[.int .u8 (q.toNat : Int)] 5)) v rfl _ rfl (acc ++ ys).length (bytesV (acc ++ ys)) ?c1 1 (bytesV [q]) ?c2 (bytesV_one _) ?c4 ?c5 ?_)
      case c1 => exact HB.out.below ((Below.refl _ wr).alloc (Nat.le_refl _) _)
      case c2 => exact Src.new wr 5 1 1 1 [_] rfl
      case c4 => rw [List.length_append]; omega
      case c5 => simp; omega
      intro v1 w1 hB1 hg1 hr1
      have hne : some B ≠ v.ownBlock := fun e => by have := (HB.out.lt B e.symm).1; omega
      have hc1 : w1.heap[B]? = wr.heap[B]? := (hg1.block B (by simp; omega) (fun e => hne e)).trans (Below.heap_alloc _ _ _ hBlt)
      have c1 : w1.cell? ⟨B, 0, none⟩ = some v := (World.cell?_of_block (w := wr) (a := ⟨B, 0, none⟩) hc1).trans c0
      have f1 : w1.frozen? ⟨B, 0, none⟩ = false := by rw [← f0]; simp only [World.frozen?, hc1]
      have HM : Hid (∃ r2, SinkB B W (w1.setCell ⟨B, 0, none⟩ v1) r2 (acc ++ ys ++ [q]) ∧ Turns B wr r' (w1.setCell ⟨B, 0, none⟩ v1) r2) := Lib.hid (HS.out.app Hr.out _ ((Below.refl _ wr).alloc (Nat.le_refl _) _) (by rw [List.length_append, hyl]; exact hB1) hg1 (by rw [World.size_alloc]; exact hr1))
      obtain ⟨A1, cc, rfl, _, _⟩ := hB1.form
      clear hB1 hg1 hr1 hne hc1 c0 f0
      obtain ⟨r2, h2, t2⟩ := HM.out
      have H2 : Hid (SinkB B W (w1.setCell ⟨B, 0, none⟩ (.slice A1 (acc.length + k + 1) cc)) r2 (acc ++ (ys ++ [q]))) := Lib.hid (by rw [← List.append_assoc]; exact h2)
      have T2 := Lib.hid (HT.out.trans t2)
      clear h2 t2 HM
      go_wp2
      go_roundw
      case rel => exact ⟨k + 1, z, ys ++ [q], r2, by omega, by go_num, by rw [Hz.out], hz2, by simp [hyl], HN, H2, T2⟩
      case measure => simp [intOf]; omega
    · have hke : k = K := by omega
      subst hke
      have hI : ¬ (k : Int) < (k : Int) := by omega
      have HEq : Hid (ys = numB k n) := Lib.hid (by rw [← HX.out, Nat.sub_self]; simp [numB])
      go_wp2
      go_end0
      exact ⟨rfl, r', by rw [← HEq.out]; exact HS.out, HT.out⟩

/-- How many bytes were laid. -/
structure SinkC (B : Nat) (W : World) (w : World) (r : Option Nat) (acc : List UInt8) : Prop where
  cell : w.heap[B]? = some (.cells #[.int .i64 ((4 + acc.length : Nat) : Int)] 111 (0, 0))
  row : r = none
  bel : Below B W w
  le : B ≤ W.heap.size
theorem SinkC.keep {B : Nat} {W w w' : World} {r : Option Nat} {acc : List UInt8} (h : SinkC B W w r acc) (hb : Below w.heap.size w w') : SinkC B W w' r acc :=
  ⟨(hb.block B (Array.getElem?_eq_some_iff.1 h.cell).1).trans h.cell, h.row, h.bel.trans (hb.mono (Nat.le_trans h.le h.bel.size)), h.le⟩
theorem SinkC.lt {B : Nat} {W w : World} {r : Option Nat} {acc : List UInt8} (h : SinkC B W w r acc) : B < w.heap.size ∧ ∀ k, r = some k → B < k ∧ k < w.heap.size :=
  ⟨(Array.getElem?_eq_some_iff.1 h.cell).1, fun k hk => by rw [h.row] at hk; cases hk⟩
theorem SinkC.set {B : Nat} {W w : World} {r : Option Nat} {acc : List UInt8} (h : SinkC B W w r acc) (ys : List UInt8) (m : Int) (hm : m = ((4 + (acc ++ ys).length : Nat) : Int)) : SinkC B W (w.setCell ⟨B, 0, none⟩ (.int .i64 m)) r (acc ++ ys) ∧ Turns B w r (w.setCell ⟨B, 0, none⟩ (.int .i64 m)) r := by
  refine ⟨⟨?_, h.row, h.bel.setCell (Nat.le_refl _) _, h.le⟩, ⟨fun k _ hkB _ => Below.heap_setCell w ⟨B, 0, none⟩ _ k hkB, .inl rfl, ?_⟩⟩
  · rw [← hm]; simp [World.setCell, Array.getElem?_modify, h.cell]
  · simp [World.setCell]

set_option maxRecDepth 100000 in
set_option maxHeartbeats 1000000 in
theorem ctext_any (B : Nat) (W w : World) (r : Option Nat) (acc : List UInt8) (s : ByteArray) (h : SinkC B W w r acc) (hl : acc.length + s.size ≤ 140737488355328) :
    Calls Try.prog 142 #[.pointer (some ⟨B, 0, none⟩), .string s] w fun e w' => e = .returned (.tuple #[]) ∧ ∃ r', SinkC B W w' r' (acc ++ s.data.toList) ∧ Turns B w r w' r' := by
  have H := Lib.hid h
  have c0 : w.cell? ⟨B, 0, none⟩ = some (.int .i64 ((4 + acc.length : Nat) : Int)) := by rw [cell_block h.cell]; rfl
  have f0 : w.frozen? ⟨B, 0, none⟩ = false := by simp [World.frozen?, h.cell]
  obtain ⟨q, hq⟩ : ∃ q, q = 4 + acc.length := ⟨_, rfl⟩
  have hl1 : s.data.toList.length = s.size := by rw [Array.length_toList]; rfl
  have HM : Hid (((q : Int) + (s.size : Int)) = ((4 + (acc ++ s.data.toList).length : Nat) : Int)) := Lib.hid (by rw [List.length_append, hl1, hq]; omega)
  have hq2 : q + s.size ≤ 140737488355332 := by omega
  rw [← hq] at c0
  clear h hq hl1
  go_enter Try.func142, Try.ntmps142
  go_wp2
  go_end0
  exact ⟨rfl, r, H.out.set s.data.toList _ HM.out⟩

set_option maxRecDepth 100000 in
set_option maxHeartbeats 1000000 in
theorem cnumber_any (B : Nat) (W w : World) (r : Option Nat) (acc : List UInt8) (n : Int) (K : Nat) (h : SinkC B W w r acc) (hl : acc.length + K ≤ 140737488355328) (hK : K ≤ 100) (hn : -9223372036854775808 ≤ n ∧ n ≤ 9223372036854775807) :
    Calls Try.prog 141 #[.pointer (some ⟨B, 0, none⟩), .int .i64 n, .int .i64 K] w fun e w' => e = .returned (.tuple #[]) ∧ ∃ r', SinkC B W w' r' (acc ++ numB K n) ∧ Turns B w r w' r' := by
  have H := Lib.hid h
  have c0 : w.cell? ⟨B, 0, none⟩ = some (.int .i64 ((4 + acc.length : Nat) : Int)) := by rw [cell_block h.cell]; rfl
  have f0 : w.frozen? ⟨B, 0, none⟩ = false := by simp [World.frozen?, h.cell]
  obtain ⟨q, hq⟩ : ∃ q, q = 4 + acc.length := ⟨_, rfl⟩
  have HM : Hid (((q : Int) + (K : Int)) = ((4 + (acc ++ numB K n).length : Nat) : Int)) := Lib.hid (by rw [List.length_append, numB_len, hq]; omega)
  have hq2 : q + K ≤ 140737488355332 := by omega
  rw [← hq] at c0
  clear h hq
  go_enter Try.func141, Try.ntmps141
  go_wp2
  go_end0
  exact ⟨rfl, r, H.out.set (numB K n) _ HM.out⟩
end Go.Proofs.Ytojcciciinklbaa
