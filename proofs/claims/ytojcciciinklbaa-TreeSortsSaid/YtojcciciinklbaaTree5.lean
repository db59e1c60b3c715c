/- Walks: whether two nodes are the same. No claim by itself. -/
import Derived.Test.YtojcciciinklbaaTree3
import Derived.Test.YtojcciciinklbaaCmp
import Derived.BigQuiet
import Derived.Deep.QuietTactic
import Derived.Deep.CutBlock
import Derived.Deep.DeepCutAuto
set_option linter.unusedSimpArgs false
set_option linter.unusedVariables false
namespace Go.Proofs.Ytojcciciinklbaa
open Go.RowKit

/-- Are two things the same? -/
noncomputable def eqB {α : Type} (x y : α) : Bool := @decide (x = y) (Classical.propDecidable _)
theorem eqB_true {α : Type} {x y : α} (h : x = y) : eqB x y = true := by simp [eqB, h]
theorem eqB_false {α : Type} {x y : α} (h : x ≠ y) : eqB x y = false := by simp [eqB, h]
theorem eqB_iff {α : Type} {x y : α} : eqB x y = true ↔ x = y := by simp [eqB]
theorem mkS_ne {xs ys : List UInt8} (h : xs ≠ ys) : mkS xs ≠ mkS ys := fun e => h (mkS_inj e)
theorem tn_eq {a b : ByteArray} (h : a ≠ b) : (a.toList == b.toList) = false := beq_eq_false_iff_ne.2 fun e => h (toL_inj e)
theorem tn_ne {a b : ByteArray} (h : a ≠ b) : ¬ a.toList = b.toList := fun e => h (toL_inj e)

set_option maxHeartbeats 400000 in
theorem bequal_any (xs ys : List UInt8) (v1 v2 : Value) (L1 L2 : Live) (w : World) (h1 : SliceR Rp.byte L1 w xs v1) (h2 : SliceR Rp.byte L2 w ys v2) :
    Calls Try.prog 57 #[v1, v2] w fun e w' => e = .returned (.bool (eqB xs ys)) ∧ w = w' := by
  obtain ⟨A1, c1, rfl, _, _, _⟩ := h1.form
  obtain ⟨A2, c2, rfl, _, _, _⟩ := h2.form
  have k1 := SliceR.toStr (P := Try.prog) h1 23 5 9 Try.underlying23 Try.underlying5 Try.underlying9
  have k2 := SliceR.toStr (P := Try.prog) h2 23 5 9 Try.underlying23 Try.underlying5 Try.underlying9
  clear h1 h2
  obtain ⟨S, hS⟩ : ∃ S, S = mkS xs := ⟨_, rfl⟩
  obtain ⟨T, hT⟩ : ∃ S, S = mkS ys := ⟨_, rfl⟩
  rw [← hS] at k1
  rw [← hT] at k2
  by_cases he : xs = ys
  · have HE := Lib.hid (eqB_true he)
    have hst : T = S := by rw [hS, hT, he]
    clear he hS hT
    subst hst
    go_enter Try.func57, Try.ntmps57
    go_wp2
    go_ret
    exact ⟨ret_bool (by rw [HE.out]), rfl⟩
  · have HE := Lib.hid (eqB_false he)
    have hst : S ≠ T := by rw [hS, hT]; exact mkS_ne he
    have q1 := tn_eq hst
    have q2 := tn_ne hst
    clear he hS hT hst
    go_enter Try.func57, Try.ntmps57
    go_wp2
    go_ret
    exact ⟨ret_bool (by rw [HE.out]), rfl⟩

theorem attrs_at {L : Live} {w : World} {xs : List (ByteArray × ByteArray)} {A : Option Addr} {n c : Nat} (h : SliceR attrR L w xs (.slice A n c)) (i : Nat) (hi : i < xs.length) : ∃ b off, A = some ⟨b, off, none⟩ ∧ w.cell? ⟨b, off + i * 2, none⟩ = some (.string xs[i].1) ∧ w.cell? ⟨b, off + i * 2 + 1, none⟩ = some (.string xs[i].2) ∧ xs[i].1.size ≤ big ∧ xs[i].2.size ≤ big := by
  obtain ⟨b, off, cs, hA, ⟨rfl, hb⟩, hc⟩ := h.get (by decide) i hi
  exact ⟨b, off, hA, (hc 0 _ rfl).1, (hc 1 _ rfl).1, hb⟩

set_option maxHeartbeats 2000000 in
theorem aequal_any (xs ys : List (ByteArray × ByteArray)) (v1 v2 : Value) (L1 L2 : Live) (w : World) (h1 : SliceR attrR L1 w xs v1) (h2 : SliceR attrR L2 w ys v2) :
    Calls Try.prog 58 #[v1, v2] w fun e w' => e = .returned (.bool (eqB xs ys)) ∧ Below w.heap.size w w' := by
  obtain ⟨A1, c1, rfl, hnc1, hn1, _⟩ := h1.form
  obtain ⟨A2, c2, rfl, hnc2, hn2, _⟩ := h2.form
  have H1 := Lib.hid h1; have H2 := Lib.hid h2
  clear h1 h2
  by_cases hlen : ¬ xs.length = ys.length
  · have hne : xs ≠ ys := fun e => hlen (by rw [e])
    have Hd := Lib.hid (eqB_false hne)
    have hb : ((xs.length : Int) != (ys.length : Int)) = true := bne_iff_ne.2 (by omega)
    clear hlen hne
    go_enter Try.func58, Try.ntmps58
    go_wp2
    go_ret
    exact ⟨ret_bool (by rw [Hd.out]), Below.refl _ _⟩
  have hlen := Classical.not_not.1 hlen
  have hb : ((xs.length : Int) != (ys.length : Int)) = false := by rw [hlen]; simp
  have Hlen := Lib.hid hlen
  clear hlen
  go_enter Try.func58, Try.ntmps58
  go_wp2
  go_loopw [13] (fun i wr => ∃ k : Nat, k ≤ xs.length ∧ i = .int .i64 k ∧ Hid (xs.take k = ys.take k) ∧ Below w.heap.size w wr) (fun i _ => xs.length - (intOf i).toNat)
  case atStart => exact ⟨0, Nat.zero_le _, rfl, Lib.hid rfl, Below.refl _ _⟩
  case round =>
    obtain ⟨k, hk, rfl, HI, hB⟩ := hrel
    have HB := Lib.hid hB
    clear hB
    by_cases hl1 : k < xs.length
    · have hl2 : k < ys.length := by have := Hlen.out; omega
      obtain ⟨b1, o1, rfl, p0, p1, _, _⟩ := attrs_at (H1.out.mono (sub_same HB.out)) k hl1
      obtain ⟨b2, o2, rfl, q0, q1, _, _⟩ := attrs_at (H2.out.mono (sub_same HB.out)) k hl2
      have hI1 : (k : Int) < (xs.length : Int) := by omega
      have hI2 : (k : Int) < (ys.length : Int) := by omega
      by_cases he : xs[k] = ys[k]
      · have HJ : Hid (xs.take (k + 1) = ys.take (k + 1)) := Lib.hid (by rw [List.take_succ_eq_append_getElem hl1, List.take_succ_eq_append_getElem hl2, HI.out, he])
        rw [he] at p0 p1
        obtain ⟨s, hs⟩ : ∃ s, s = ys[k].1 := ⟨_, rfl⟩
        obtain ⟨t, ht⟩ : ∃ t, t = ys[k].2 := ⟨_, rfl⟩
        rw [← hs] at p0 q0
        rw [← ht] at p1 q1
        have e1 : (s == s) = true := str_beq_self _
        have e2 : (t == t) = true := str_beq_self _
        clear he hs ht
        go_wp2
        go_quiet (fail)
        go_wp2
        go_roundw
        case rel => exact ⟨k + 1, by omega, by go_num, HJ, ⟨HB.out.os, HB.out.tape, HB.out.output, HB.out.size, HB.out.block⟩⟩
        case measure => simp [intOf]; omega
      · have hne : xs ≠ ys := fun e => he (by subst e; rfl)
        have Hd := Lib.hid (eqB_false hne)
        obtain ⟨s, hs⟩ : ∃ s, s = xs[k].1 := ⟨_, rfl⟩
        obtain ⟨t, ht⟩ : ∃ t, t = xs[k].2 := ⟨_, rfl⟩
        obtain ⟨s2, hs2⟩ : ∃ s, s = ys[k].1 := ⟨_, rfl⟩
        obtain ⟨t2, ht2⟩ : ∃ t, t = ys[k].2 := ⟨_, rfl⟩
        have hst : s ≠ s2 ∨ (s = s2 ∧ t ≠ t2) := by
          by_cases hh : s = s2
          · exact .inr ⟨hh, fun e => he (Prod.ext (by rw [← hs, ← hs2]; exact hh) (by rw [← ht, ← ht2]; exact e))⟩
          · exact .inl hh
        rw [← hs] at p0
        rw [← ht] at p1
        rw [← hs2] at q0
        rw [← ht2] at q1
        clear he hs ht hs2 ht2 hne
        rcases hst with hst | ⟨rfl, hst⟩
        · have e1 : (s == s2) = false := by rw [str_beq]; simp [hst]
          have e1n : ¬ s = s2 := hst
          have e1m : (s != s2) = true := by rw [str_bne]; simp [hst]
          have q1 := tn_eq hst
          have q2 := tn_ne hst
          go_wp2
          go_quiet (fail)
          go_wp2
          go_ret
          exact ⟨ret_bool (by rw [Hd.out]), ⟨HB.out.os, HB.out.tape, HB.out.output, HB.out.size, HB.out.block⟩⟩
        · have e1 : (t == t2) = false := by rw [str_beq]; simp [hst]
          have e2 : (s == s) = true := str_beq_self _
          have e1n : ¬ t = t2 := hst
          have e1m : (t != t2) = true := by rw [str_bne]; simp [hst]
          have q1 := tn_eq hst
          have q2 := tn_ne hst
          go_wp2
          go_quiet (fail)
          go_wp2
          go_ret
          exact ⟨ret_bool (by rw [Hd.out]), ⟨HB.out.os, HB.out.tape, HB.out.output, HB.out.size, HB.out.block⟩⟩
    · have hke : k = xs.length := by omega
      subst hke
      have Hd : Hid (eqB xs ys = true) := Lib.hid (eqB_true (by
        have := HI.out
        rw [List.take_length, Hlen.out, List.take_length] at this
        exact this))
      go_wp2
      go_ret
      exact ⟨ret_bool (by rw [Hd.out]), HB.out⟩
end Go.Proofs.Ytojcciciinklbaa
