/- Walks: how many nodes there are, and how deep. No claim by itself. -/
import Derived.Test.YtojcciciinklbaaNode
import Derived.WalkKit
import Derived.Lib.Hide
set_option linter.unusedSimpArgs false
set_option linter.unusedVariables false
namespace Go.Proofs.Ytojcciciinklbaa
open Go.RowKit

theorem cellsNode : Try.prog.cellsOf 27 = 12 := by kernel_rfl

set_option maxRecDepth 100000 in
set_option maxHeartbeats 4000000 in
theorem count_any : ∀ (n : Nat) (x : Nd) (cs : List Value) (L : Live) (w : World), (nodeR n).R L w x cs → count x ≤ 1000000 →
    Calls Try.prog 15 #[.agg cs.toArray] w fun e w' => e = .returned (.int .i64 (count x)) ∧ Below w.heap.size w w' := by
  intro n
  induction n with
  | zero => intro x cs L w h; exact h.elim
  | succ n ih =>
    intro x cs L w h hc
    obtain ⟨m, Ad, cd, Aa, ca, Ak, ck, hm, rfl, hP, d1, d2, a1, a2, k1, k2⟩ := node_open h
    obtain rfl : n = m := by omega
    clear hm h
    rw [count_eq] at hc
    have HE := Lib.hid (count_eq x)
    have hK := hP.kids
    have HK := Lib.hid hK
    have hkl := countL_len x.kids
    obtain ⟨ks, hks⟩ : ∃ ks, ks = x.kids := ⟨_, rfl⟩
    rw [← hks] at HK HE hc hkl k1 ⊢
    clear hks hK hP
    have c27 := cellsNode
    simp only [nodeV]
    go_enter Try.func15, Try.ntmps15
    go_wp2_with fail
    go_loopw [3, 9] (fun s i wr => ∃ k : Nat, k ≤ ks.length ∧ i = .int .i64 k ∧ s = .int .i64 ((countL (ks.take k) + 1 : Nat) : Int) ∧ Below w.heap.size w wr) (fun _ i _ => ks.length - (intOf i).toNat)
    case atStart => exact ⟨0, Nat.zero_le _, rfl, rfl, (Below.refl _ _).alloc (Nat.le_refl _) _⟩
    case round =>
      obtain ⟨k, hk, rfl, rfl, hB⟩ := hrel
      have hb := hB.size
      have HB := Lib.hid hB
      clear hB
      by_cases hlt : k < ks.length
      · have hkI : (k : Int) < (ks.length : Int) := by omega
        have hct := countL_take hlt
        have hcl := countL_le (xs := ks) (k + 1)
        obtain ⟨s, hs⟩ : ∃ s, s = countL (ks.take k) := ⟨_, rfl⟩
        obtain ⟨t, ht⟩ : ∃ t, t = count ks[k] := ⟨_, rfl⟩
        rw [hct, ← hs, ← ht] at hcl
        rw [← hs, ← ht] at hct
        have Hct := Lib.hid hct
        rw [← hs]
        have Ht := Lib.hid ht
        clear hct hs
        obtain ⟨b, off, cs, rfl, hR, hat⟩ := nodes_at (HK.out.mono (sub_same HB.out)) k hlt
        obtain ⟨y, hy⟩ : ∃ y, y = ks[k] := ⟨_, rfl⟩
        rw [← hy] at hR hat Ht
        clear hy ht
        obtain ⟨m, Ad', cd', Aa', ca', Ak', ck', hm, rfl, hP', _, _, _, _, _, _⟩ := node_open hR
        have hN := hat _ _ _ rfl
        obtain ⟨n0, n1, n2, n3, n4, n5, n6, n7, n8, n9, n10, n11⟩ := hN.all
        have HR := Lib.hid hR
        clear hat hP' hm hR hN
        go_wp2_with fail
        refine (ih y _ L _ ((nodeR n).mono (sub_same ((Below.refl _ wr).alloc (Nat.le_refl _) _)) HR.out) (by rw [← Ht.out]; omega)).mono ?_
        rintro e w1 ⟨rfl, h1⟩
        rw [← Ht.out]
        have X1 := Lib.hid (HB.out.trans ((((Below.refl _ wr).alloc (Nat.le_refl _) _).trans (h1.mono (by simp))).mono hb))
        clear h1 n0 n1 n2 n3 n4 n5 n6 n7 n8 n9 n10 n11
        go_wp2
        go_roundw
        case rel => exact ⟨k + 1, by omega, by go_num, congrArg (Value.int .i64) (by rw [Hct.out]; omega), X1.out⟩
        case measure => simp [intOf]; omega
      · have hke : k = ks.length := by omega
        subst hke
        have HT := Lib.hid (List.take_length (l := ks))
        go_wp2
        go_ret
        exact ⟨by rw [HE.out, HT.out]; rfl, HB.out⟩

set_option maxRecDepth 100000 in
set_option maxHeartbeats 4000000 in
theorem depth_any : ∀ (n : Nat) (x : Nd) (cs : List Value) (L : Live) (w : World), (nodeR n).R L w x cs → count x ≤ 1000000 →
    Calls Try.prog 16 #[.agg cs.toArray] w fun e w' => e = .returned (.int .i64 (depth x)) ∧ Below w.heap.size w w' := by
  intro n
  induction n with
  | zero => intro x cs L w h; exact h.elim
  | succ n ih =>
    intro x cs L w h hc
    obtain ⟨m, Ad, cd, Aa, ca, Ak, ck, hm, rfl, hP, d1, d2, a1, a2, k1, k2⟩ := node_open h
    obtain rfl : n = m := by omega
    clear hm h
    rw [count_eq] at hc
    have HE := Lib.hid (depth_eq x)
    have hK := hP.kids
    have HK := Lib.hid hK
    have hkl := countL_len x.kids
    obtain ⟨ks, hks⟩ : ∃ ks, ks = x.kids := ⟨_, rfl⟩
    rw [← hks] at HK HE hc hkl k1 ⊢
    clear hks hK hP
    have c27 := cellsNode
    simp only [nodeV]
    go_enter Try.func16, Try.ntmps16
    go_wp2_with fail
    go_loopw [3, 9] (fun s i wr => ∃ k : Nat, k ≤ ks.length ∧ i = .int .i64 k ∧ s = .int .i64 (depthL (ks.take k) : Int) ∧ Below w.heap.size w wr) (fun _ i _ => ks.length - (intOf i).toNat)
    case atStart => exact ⟨0, Nat.zero_le _, rfl, rfl, (Below.refl _ _).alloc (Nat.le_refl _) _⟩
    case round =>
      obtain ⟨k, hk, rfl, rfl, hB⟩ := hrel
      have hb := hB.size
      have HB := Lib.hid hB
      clear hB
      by_cases hlt : k < ks.length
      · have hkI : (k : Int) < (ks.length : Int) := by omega
        have hct := depthL_take hlt
        have hcm := countL_mem hlt
        have hcl := depthL_le (ks.take k)
        have hcl2 := countL_le (xs := ks) k
        have hdl := depthL_le ks[k].kids
        rw [← depth_eq] at hdl
        have hce := count_eq ks[k]
        obtain ⟨s, hs⟩ : ∃ s, s = depthL (ks.take k) := ⟨_, rfl⟩
        obtain ⟨t, ht⟩ : ∃ t, t = depth ks[k] := ⟨_, rfl⟩
        rw [← hs] at hcl
        rw [← hs, ← ht] at hct
        rw [← ht] at hdl
        have Hct := Lib.hid hct
        rw [← hs]
        have Ht := Lib.hid ht
        have hs1 : s ≤ 1000000 := by omega
        have ht1 : t ≤ 1000000 := by omega
        have hcy : count ks[k] ≤ 1000000 := by omega
        obtain ⟨M, hM⟩ : ∃ M, M = max s (t + 1) := ⟨_, rfl⟩
        have hMI : max (s : Int) ((t : Int) + 1) = (M : Int) := by omega
        rw [← hM] at Hct
        clear hct hs hcl hcl2 hcm hdl hce hM
        obtain ⟨b, off, cs, rfl, hR, hat⟩ := nodes_at (HK.out.mono (sub_same HB.out)) k hlt
        obtain ⟨y, hy⟩ : ∃ y, y = ks[k] := ⟨_, rfl⟩
        rw [← hy] at hR hat Ht hcy
        clear hy ht
        obtain ⟨m, Ad', cd', Aa', ca', Ak', ck', hm, rfl, hP', _, _, _, _, _, _⟩ := node_open hR
        have hN := hat _ _ _ rfl
        obtain ⟨n0, n1, n2, n3, n4, n5, n6, n7, n8, n9, n10, n11⟩ := hN.all
        have HR := Lib.hid hR
        clear hat hP' hm hR hN
        go_wp2_with fail
        refine (ih y _ L _ ((nodeR n).mono (sub_same ((Below.refl _ wr).alloc (Nat.le_refl _) _)) HR.out) hcy).mono ?_
        rintro e w1 ⟨rfl, h1⟩
        rw [← Ht.out]
        have X1 := Lib.hid (HB.out.trans ((((Below.refl _ wr).alloc (Nat.le_refl _) _).trans (h1.mono (by simp))).mono hb))
        clear h1 n0 n1 n2 n3 n4 n5 n6 n7 n8 n9 n10 n11
        go_wp2
        go_roundw
        case rel => exact ⟨k + 1, by omega, by go_num, congrArg (Value.int .i64) (by rw [Hct.out]; omega), X1.out⟩
        case measure => simp [intOf]; omega
      · have hke : k = ks.length := by omega
        subst hke
        have HT := Lib.hid (List.take_length (l := ks))
        go_wp2
        go_ret
        exact ⟨by rw [HE.out, HT.out]; rfl, HB.out⟩
end Go.Proofs.Ytojcciciinklbaa
