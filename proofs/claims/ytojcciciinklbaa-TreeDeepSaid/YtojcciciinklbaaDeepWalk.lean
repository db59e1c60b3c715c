/- The law TreeDeep: its walk. No claim by itself. -/
import Derived.Test.YtojcciciinklbaaDeepLaw
set_option linter.unusedSimpArgs false
set_option linter.unusedVariables false
namespace Go.Proofs.Ytojcciciinklbaa
open Go.RowKit

set_option maxRecDepth 100000 in
set_option maxHeartbeats 8000000 in
theorem deep_walk (deep many : Int) (w : World) (h1 : I64 deep) (h2 : I64 many) :
    Calls Try.prog 3 #[.int .i64 deep, .int .i64 many] w fun e w' => e = .returned (.bool true) ∧ Below w.heap.size w w' := by
  obtain ⟨d, hd, hd2⟩ : ∃ d : Nat, around deep 10 = (d : Int) ∧ d < 10 := by
    have := around_range deep 10 (by omega)
    exact ⟨(around deep 10).toNat, by omega, by omega⟩
  obtain ⟨a, ha, ha2⟩ : ∃ a : Nat, around many 16 = (a : Int) ∧ a < 16 := by
    have := around_range many 16 (by omega)
    exact ⟨(around many 16).toNat, by omega, by omega⟩
  have c27 := cellsNode
  have Hd := Lib.hid hd
  have Ha := Lib.hid ha
  clear hd ha
  obtain ⟨k, hk⟩ : ∃ k : Nat, k = 55 + a := ⟨_, rfl⟩
  have hkI : IntKind.i64.wrap (55 + (a : Int)) = (k : Int) := by rw [IntWalk.i64_in _ (by omega)]; omega
  go_enter Try.func3, Try.ntmps3
  go_wp2_with fail
  refine (around_any deep 10 _ h1.1 h1.2 (by decide) (by decide)).mono ?_
  rintro e _ ⟨rfl, rfl⟩
  rw [Hd.out]
  go_wp2_with fail
  refine (around_any many 16 _ h2.1 h2.2 (by decide) (by decide)).mono ?_
  rintro e _ ⟨rfl, rfl⟩
  rw [Ha.out]
  go_wp2_with fail
  obtain ⟨w0, hw0⟩ : ∃ w0, w0 = w.alloc (boxO (exO 1 ⟨#[100]⟩) none 0 none 0 none 0 0) := ⟨_, rfl⟩
  have hS0 : w0.heap.size = w.heap.size + 1 := by rw [hw0]; simp
  have hO0 : LOk (fun _ _ => False) w0 := fun _ _ h => h.elim
  have hZ0 : w0.heap[w.heap.size]? = some (boxO (exO 1 ⟨#[100]⟩) none 0 none 0 none 0 0) := by rw [hw0]; exact heap_alloc_new w _
  have hW0 : Below w.heap.size w w0 := by rw [hw0]; exact (Below.refl _ _).alloc (Nat.le_refl _) _
  have HO0 := Lib.hid hO0; have HZ0 := Lib.hid hZ0; have HW0 := Lib.hid hW0
  show Code.wp _ _ _ _ (w.alloc (boxO (exO 1 ⟨#[100]⟩) none 0 none 0 none 0 0))
  rw [← hw0]
  clear hO0 hZ0 hW0 hw0
  go_loopw [8] (fun i wr => ∃ (m : Nat) (ys : List Nd) (cells : List Value) (Ak : Option Addr) (ck : Nat), m ≤ k ∧ i = .int .i64 m ∧ Hid (ys = filesN m) ∧ ys.length = m ∧ Hid (Out (nodeR 1) (fun _ _ => False) wr (w.heap.size + 1) 27 (.slice Ak m ck) ys cells) ∧ Hid (Below w.heap.size w wr) ∧ Hid (wr.heap[w.heap.size]? = some (boxO (exO 1 ⟨#[100]⟩) none 0 none 0 Ak m ck))) (fun i _ => k - (intOf i).toNat)
  case atStart => exact ⟨0, [], [], none, 0, Nat.zero_le _, rfl, Lib.hid rfl, rfl, Lib.hid (Out.nil _ _ _ _ _), HW0, HZ0⟩
  case round =>
    obtain ⟨m, ys, cells, Ak, ck, hm, rfl, HY, hyl, HO, HX, HZ⟩ := hrel
    have hb : w.heap.size + 1 ≤ wr.heap.size := (Array.getElem?_eq_some_iff.1 HZ.out).1
    obtain ⟨n0, n1, n2, n3, n4, n5, n6, n7, n8, n9, n10, n11⟩ := twelve_box HZ.out
    by_cases hlt : m < k
    · have hmI : (m : Int) < (k : Int) := by omega
      have hq : (m : Int).tdiv 10 = ((m / 10 : Nat) : Int) := by rw [Int.tdiv_eq_ediv_of_nonneg (by omega)]; omega
      have hr : (m : Int).tmod 10 = ((m % 10 : Nat) : Int) := by rw [Int.tmod_eq_emod_of_nonneg (by omega)]; omega
      obtain ⟨x, hx⟩ : ∃ x, x = m / 10 := ⟨_, rfl⟩
      obtain ⟨y, hy⟩ : ∃ y, y = m % 10 := ⟨_, rfl⟩
      rw [← hx] at hq
      rw [← hy] at hr
      have hx10 : x < 10 := by omega
      have hy10 : y < 10 := by omega
      have Hx := Lib.hid hx; have Hy := Lib.hid hy
      clear hx hy
      have hmI' : (m : Int) < 55 + (a : Int) := by omega
      have kc : (convert 23 9 (.slice (some ⟨wr.heap.size, 0, none⟩) 2 2)).run Try.prog (wr.alloc (.cells #[.int .u8 (48 + (x : Int)), .int .u8 (48 + (y : Int))] 5)) = .ok (.string (mkS [UInt8.ofNat (48 + x), UInt8.ofNat (48 + y)])) (wr.alloc (.cells #[.int .u8 (48 + (x : Int)), .int .u8 (48 + (y : Int))] 5)) := by
        obtain ⟨L', h, _⟩ := slice_new (d := Rp.byte) 5 (bytes_reps (fun _ _ => False) wr [UInt8.ofNat (48 + x), UInt8.ofNat (48 + y)]) (fun _ _ h => h.elim) (by simp [big])
        have e1 : (((UInt8.ofNat (48 + x)).toNat : Nat) : Int) = 48 + (x : Int) := by simp; omega
        have e2 : (((UInt8.ofNat (48 + y)).toNat : Nat) : Int) = 48 + (y : Int) := by simp; omega
        have h' := h.toStr (P := Try.prog) 23 5 9 Try.underlying23 Try.underlying5 Try.underlying9
        simp only [bytesV, List.map_cons, List.map_nil, e1, e2] at h'
        exact h'
      have hn : (⟨#[102]⟩ : ByteArray) ++ mkS [UInt8.ofNat (48 + x), UInt8.ofNat (48 + y)] = fname m := by rw [Hx.out, Hy.out]; rfl
      obtain ⟨s2, hs2⟩ : ∃ s, s = mkS [UInt8.ofNat (48 + x), UInt8.ofNat (48 + y)] := ⟨_, rfl⟩
      rw [← hs2] at kc hn
      have hsz : ¬ 9223372036854775807 < 1 + s2.size := by rw [hs2, mkS_size]; simp
      have Hn := Lib.hid hn
      clear hs2 hn
      have hF : (nodeR 1).R (fun _ _ => False) wr (fileN m) (nodeV (exO 2 ((⟨#[102]⟩ : ByteArray) ++ s2)) (.slice none 0 0) (.slice none 0 0) (.slice none 0 0)) := by
        rw [Hn.out]
        exact ⟨_, _, _, rfl, exO_fits 2 _ (by unfold I64; omega) (by simp [fname, ByteArray.size, big]), SliceR.nil _ _ _, SliceR.nil _ _ _, SliceR.nil _ _ _⟩
      have HF := Lib.hid hF
      clear hF n0 n1 n2 n3 n4 n5 n6 n7 n8 n9 n10
      have hx2 : ∀ o1 o2, Below wr.heap.size wr ((wr.alloc o1).alloc o2) := fun o1 o2 => ((Below.refl _ _).alloc (Nat.le_refl _) _).alloc (by simp) _
      have HX2 := Lib.hid hx2
      clear hx2
      go_wp2_with (at_builtin; refine wpList_appB rfl (.tmp 23) (.tmp 36) 25 27 rfl (w.heap.size + 1) _ 12 160 Try.underlying25 Try.infoNode rfl (by decide) _ _ rfl _ rfl m cells ?c1 1 (nodeV (exO 2 ((⟨#[102]⟩ : ByteArray) ++ s2)) (.slice none 0 0) (.slice none 0 0) (.slice none 0 0)) ?c2 ?c3 ?c4 ?c5 ?_)
      case c1 => have := HO.out.1.below (HX2.out (.cells #[.int .u8 (48 + (x : Int)), .int .u8 (48 + (y : Int))] 5) (.cells (nodeV (exO 2 ((⟨#[102]⟩ : ByteArray) ++ s2)) (.slice none 0 0) (.slice none 0 0) (.slice none 0 0)).toArray 27)); rw [nodeR_sz, hyl] at this; exact this
      case c2 => have := Src.new (wr.alloc (.cells #[.int .u8 (48 + (x : Int)), .int .u8 (48 + (y : Int))] 5)) 27 12 1 1 (nodeV (exO 2 ((⟨#[102]⟩ : ByteArray) ++ s2)) (.slice none 0 0) (.slice none 0 0) (.slice none 0 0)) rfl; rw [World.size_alloc] at this; exact this
      case c3 => exact nodeV_one rfl rfl rfl
      case c4 => omega
      case c5 => simp; omega
      intro v6 w6 hB6 hg6 hrow6
      have hlow := HO.out.1.lt
      have b0 := (hg6.block w.heap.size (by simp; omega) (fun e => by have := (hlow _ e.symm).1; omega)).trans ((((HX2.out _ _).block w.heap.size (by omega))).trans HZ.out)
      have hX6 := (HX.out.trans ((HX2.out _ _).mono (by omega))).grown hg6 (by simp; omega) (fun g hg => by have := (hlow g hg).1; omega)
      have hO6 := HO.out.snoc (fun _ _ h => h.elim) (HX2.out _ _) (by rw [nodeR_sz, hyl]; exact hB6) hg6 (by simpa using hrow6) HF.out
      obtain ⟨p0, p1, p2, p3, p4, p5, p6, p7, p8, p9, p10, p11⟩ := twelve b0
      obtain ⟨f0, f1, f2, f3, f4, f5, f6, f7, f8, f9, f10, f11⟩ := twelve_free b0
      obtain ⟨A6, c6, rfl, _, _⟩ := hB6.form
      have b1 : (w6.setCell ⟨w.heap.size, 11, none⟩ (.slice A6 (m + 1) c6)).heap[w.heap.size]? = some (boxO (exO 1 ⟨#[100]⟩) none 0 none 0 A6 (m + 1) c6) := (heap_setCell_same (j := 11) b0 _).trans rfl
      have hX7 := hX6.setCell (p := ⟨w.heap.size, 11, none⟩) (Nat.le_refl _) (.slice A6 (m + 1) c6)
      have hO7 : Out (nodeR 1) (fun _ _ => False) (w6.setCell ⟨w.heap.size, 11, none⟩ (.slice A6 (m + 1) c6)) (w.heap.size + 1) 27 (.slice A6 (m + 1) c6) (ys ++ [fileN m]) (cells ++ nodeV (exO 2 ((⟨#[102]⟩ : ByteArray) ++ s2)) (.slice none 0 0) (.slice none 0 0) (.slice none 0 0)) :=
        ⟨hO6.1.kept (fun k hk => heap_set_ne _ _ _ (by have := (hO6.1.lt k hk).1; omega)), hO6.2.1.mono (sub_set fun _ h => h), hO6.2.2⟩
      have hY7 : ys ++ [fileN m] = filesN (m + 1) := by rw [filesN_succ, HY.out]
      have B1 := Lib.hid b1; have HX7 := Lib.hid hX7; have HO7 := Lib.hid hO7; have HY7 := Lib.hid hY7
      clear b0 b1 hX6 hX7 hO6 hO7 hY7 hB6 hg6 hrow6 hlow
      go_wp2_with fail
      go_roundw
      case rel => exact ⟨m + 1, ys ++ [fileN m], _, A6, c6, by omega, by go_num, HY7, by simp [hyl], HO7, HX7, B1⟩
      case measure => simp [intOf]; omega
    · have hke : m = k := by omega
      have hk55 : m = 55 + a := by omega
      clear hke
      obtain ⟨L1, hS1, _, hX1, hL1⟩ := HO.out.publish_ext (Ext.of_below (fun _ _ h => h.elim) HX.out) (by omega) (by rw [hyl]; simp only [big]; omega)
      rw [HY.out, hk55] at hS1
      have hN1 : ∀ j, ¬ L1 w.heap.size j := fun j h => by
        rw [hL1 w.heap.size (fun e => by have := (HO.out.1.lt _ e.symm).1; omega)] at h; exact h
      have hT1 : (nodeR 2).R L1 wr (dirsN (55 + a) 0) (nodeV (exO 1 ⟨#[100]⟩) (.slice none 0 0) (.slice none 0 0) (.slice Ak m ck)) :=
        ⟨_, _, _, rfl, exO_fits 1 _ (by unfold I64; omega) (by simp [ByteArray.size, big]), SliceR.nil _ _ _, SliceR.nil _ _ _, by rw [hk55]; exact hS1⟩
      have HX1 := Lib.hid hX1; have HN1 := Lib.hid hN1; have HT1 := Lib.hid hT1
      have hmI : ¬ (m : Int) < 55 + (a : Int) := by omega
      clear hS1 hX1 hL1 hN1 hT1 HO HY hyl hk55
      go_wp2_with fail
      go_loopw [9] (fun i wr => ∃ (j : Nat) (L2 : Live) (Ak : Option Addr) (lk ck : Nat), j ≤ d ∧ i = .int .i64 j ∧ Hid ((nodeR (j + 2)).R L2 wr (dirsN (55 + a) j) (nodeV (exO 1 ⟨#[100]⟩) (.slice none 0 0) (.slice none 0 0) (.slice Ak lk ck))) ∧ Hid (Ext (fun _ _ => False) w L2 wr) ∧ Hid (∀ j, ¬ L2 w.heap.size j) ∧ Hid (wr.heap[w.heap.size]? = some (boxO (exO 1 ⟨#[100]⟩) none 0 none 0 Ak lk ck))) (fun i _ => d - (intOf i).toNat)
      case atStart => exact ⟨0, L1, Ak, m, ck, Nat.zero_le _, rfl, HT1, HX1, HN1, HZ⟩
      case round =>
        clear HT1 HX1 HN1 HZ n0 n1 n2 n3 n4 n5 n6 n7 n8 n9 n10 n11 HX hb
        obtain ⟨j, L2, Ak, lk, ck, hj, rfl, HT, HX, HN, HZ⟩ := hrel
        have hb : w.heap.size + 1 ≤ wr.heap.size := (Array.getElem?_eq_some_iff.1 HZ.out).1
        obtain ⟨n0, n1, n2, n3, n4, n5, n6, n7, n8, n9, n10, n11⟩ := twelve_box HZ.out
        obtain ⟨f0, f1, f2, f3, f4, f5, f6, f7, f8, f9, f10, f11⟩ := twelve_free HZ.out
        simp only [exO, List.length_nil] at n0 n1 n2 n3 n4 n5 n6 n7 n8 n9 n10 n11
        by_cases hlt : j < d
        · have hI : (j : Int) < (d : Int) := by omega
          obtain ⟨L', hS, hX', hL'⟩ := slice_new (d := nodeR (j + 2)) 27 (Reps.single HT.out) HX.out.ok (by simp [big])
          have hT' : (nodeR (j + 1 + 2)).R L' (wr.alloc (.cells (nodeV (exO 1 ⟨#[100]⟩) (.slice none 0 0) (.slice none 0 0) (.slice Ak lk ck)).toArray 27)) (dirsN (55 + a) (j + 1)) (nodeV (exO 1 ⟨#[100]⟩) (.slice none 0 0) (.slice none 0 0) (.slice (some ⟨wr.heap.size, 0, none⟩) 1 1)) :=
            ⟨_, _, _, rfl, exO_fits 1 _ (by unfold I64; omega) (by simp [ByteArray.size, big]), SliceR.nil _ _ _, SliceR.nil _ _ _, hS⟩
          have hN' : ∀ i, ¬ L' w.heap.size i := fun i h => by
            rcases hL' _ _ h with h | h
            · exact HN.out i h
            · omega
          have hB : Bears (j + 1 + 2) (dirsN (55 + a) (j + 1)) (nodeV (exO 1 ⟨#[100]⟩) (.slice none 0 0) (.slice none 0 0) (.slice (some ⟨wr.heap.size, 0, none⟩) 1 1)) (fun _ _ => False) w L' (wr.alloc (.cells (nodeV (exO 1 ⟨#[100]⟩) (.slice none 0 0) (.slice none 0 0) (.slice Ak lk ck)).toArray 27)) := ⟨HX.out.trans hX', hT'⟩
          have hZ' : (wr.alloc (.cells (nodeV (exO 1 ⟨#[100]⟩) (.slice none 0 0) (.slice none 0 0) (.slice Ak lk ck)).toArray 27)).heap[w.heap.size]? = some (boxO (exO 1 ⟨#[100]⟩) none 0 none 0 Ak lk ck) := (Below.heap_alloc _ _ _ (by omega)).trans HZ.out
          have HBr := Lib.hid hB; have HN' := Lib.hid hN'; have HZ' := Lib.hid hZ'
          obtain ⟨p0, p1, p2, p3, p4, p5, p6, p7, p8, p9, p10, p11⟩ := twelve_box hZ'
          obtain ⟨g0, g1, g2, g3, g4, g5, g6, g7, g8, g9, g10, g11⟩ := twelve_free hZ'
          simp only [exO, List.length_nil, nodeV] at p0 p1 p2 p3 p4 p5 p6 p7 p8 p9 p10 p11 g0 g1 g2 g3 g4 g5 g6 g7 g8 g9 g10 g11
          clear hS hX' hL' hT' hN' hB hZ'
          go_wp2_with fail
          go_roundw
          case rel =>
            have key : ∀ W, Bears (j + 1 + 2) (dirsN (55 + a) (j + 1)) (nodeV (exO 1 ⟨#[100]⟩) (.slice none 0 0) (.slice none 0 0) (.slice (some ⟨wr.heap.size, 0, none⟩) 1 1)) (fun _ _ => False) w L' W → W.heap[w.heap.size]? = some (boxO (exO 1 ⟨#[100]⟩) none 0 none 0 (some ⟨wr.heap.size, 0, none⟩) 1 1) → ∃ (j' : Nat) (L2 : Live) (Ak : Option Addr) (lk ck : Nat), j' ≤ d ∧ Value.int .i64 ((j : Int) + 1) = .int .i64 j' ∧ Hid ((nodeR (j' + 2)).R L2 W (dirsN (55 + a) j') (nodeV (exO 1 ⟨#[100]⟩) (.slice none 0 0) (.slice none 0 0) (.slice Ak lk ck))) ∧ Hid (Ext (fun _ _ => False) w L2 W) ∧ Hid (∀ j, ¬ L2 w.heap.size j) ∧ Hid (W.heap[w.heap.size]? = some (boxO (exO 1 ⟨#[100]⟩) none 0 none 0 Ak lk ck)) := fun W h1 h2 =>
              ⟨j + 1, L', some ⟨wr.heap.size, 0, none⟩, 1, 1, by omega, by go_num, Lib.hid h1.node, Lib.hid h1.ext, HN', Lib.hid h2⟩
            refine key _ ?_ ?_
            · repeat (with_reducible refine Bears.set ?_ (Nat.le_refl _) HN'.out _ _)
              exact HBr.out
            · exact fill12 HZ'.out _ _ _ _ _ _ _ _ _ _ _ _
          case measure => simp [intOf]; omega
        · have hjd : j = d := by omega
          subst hjd
          have hI : ¬ (j : Int) < (j : Int) := by omega
          have hB : Bears (j + 2) (rootN (55 + a) j) (nodeV (exO 1 ⟨#[]⟩) (.slice none 0 0) (.slice none 0 0) (.slice Ak lk ck)) (fun _ _ => False) w L2 wr := by
            refine ⟨HX.out, ?_⟩
            obtain ⟨vd, va, vk, he, _, _, _, h3⟩ := HT.out
            simp only [nodeV, List.cons.injEq] at he
            obtain ⟨_, _, _, _, _, _, _, _, _, _, _, rfl, _⟩ := he
            exact ⟨_, _, _, rfl, exO_fits 1 _ (by unfold I64; omega) (by simp [ByteArray.size, big]), SliceR.nil _ _ _, SliceR.nil _ _ _, h3⟩
          have HR := Lib.hid (hB.set (Nat.le_refl _) HN.out 1 (.string ⟨#[]⟩))
          have b1 : (wr.setCell ⟨w.heap.size, 1, none⟩ (.string ⟨#[]⟩)).heap[w.heap.size]? = some (boxO (exO 1 ⟨#[]⟩) none 0 none 0 Ak lk ck) := (heap_setCell_same (j := 1) HZ.out _).trans rfl
          have HB1 := Lib.hid b1
          clear hB b1 HT HX HN HZ n0 n2 n3 n4 n5 n6 n7 n8 n9 n10 n11 f0 f2 f3 f4 f5 f6 f7 f8 f9 f10 f11
          go_upto_region 13 with fail
          obtain ⟨w5, hw5⟩ : ∃ x, x = wr.setCell ⟨w.heap.size, 1, none⟩ (.string ⟨#[]⟩) := ⟨_, rfl⟩
          rw [← hw5] at HR HB1 ⊢
          have hs5 : w.heap.size + 1 ≤ w5.heap.size := (Array.getElem?_eq_some_iff.1 HB1.out).1
          have HC : Hid (count (rootN (55 + a) j) = 55 + a + j + 1) := Lib.hid (count_root _ _)
          have HD : Hid (depth (rootN (55 + a) j) = j + 1) := Lib.hid (depth_root _ _ (by omega))
          have HM : Hid (mayI (rootN (55 + a) j) = if 6 < j + 1 ∨ 64 < 55 + a + j + 1 then 3 else 0) := Lib.hid (may_root _ _ (by omega) (by omega))
          have HNB : Hid (∀ W, Below w5.heap.size w5 W → W.heap[w.heap.size]? = some (boxO (exO 1 ⟨#[]⟩) none 0 none 0 Ak lk ck)) := Lib.hid (fun W hb => (hb.block _ (by omega)).trans HB1.out)
          have HNR : Hid (∀ W, Below w5.heap.size w5 W → (nodeR (j + 2)).R L2 W (rootN (55 + a) j) (nodeV (exO 1 ⟨#[]⟩) (.slice none 0 0) (.slice none 0 0) (.slice Ak lk ck))) := Lib.hid (fun W hb => (nodeR (j + 2)).mono (sub_same hb) HR.out.node)
          clear hw5 f1 n1
          have hcase : ((6 : Int) < (j : Int) + 1 ∧ Hid (mayI (rootN (55 + a) j) = 3)) ∨ (¬ (6 : Int) < (j : Int) + 1 ∧ (64 : Int) < 55 + (a : Int) + (j : Int) + 1 ∧ Hid (mayI (rootN (55 + a) j) = 3)) ∨ (¬ (6 : Int) < (j : Int) + 1 ∧ ¬ (64 : Int) < 55 + (a : Int) + (j : Int) + 1 ∧ Hid (mayI (rootN (55 + a) j) = 0)) := by
            by_cases h6 : 6 < j + 1
            · exact .inl ⟨by omega, Lib.hid (by rw [HM.out, if_pos (.inl h6)])⟩
            · by_cases h64 : 64 < 55 + a + j + 1
              · exact .inr (.inl ⟨by omega, by omega, Lib.hid (by rw [HM.out, if_pos (.inr h64)])⟩)
              · exact .inr (.inr ⟨by omega, by omega, Lib.hid (by rw [HM.out, if_neg (by omega)])⟩)
          clear HM
          rcases hcase with ⟨h6I, HM3⟩ | ⟨h6I, h64I, HM3⟩ | ⟨h6I, h64I, HM3⟩
          · obtain ⟨n0, n1, n2, n3, n4, n5, n6, n7, n8, n9, n10, n11⟩ := twelve_box HB1.out
            simp only [exO, List.length_nil] at n0 n1 n2 n3 n4 n5 n6 n7 n8 n9 n10 n11
            go_wp2_with fail
            refine (may_any (j + 2) (rootN (55 + a) j) _ L2 _ (HNR.out _ (Below.refl _ _)) (by rw [HC.out]; omega)).mono ?_
            rintro e w6 ⟨rfl, h6⟩
            rw [HM3.out]
            have X6 := Lib.hid h6
            clear h6 n0 n1 n2 n3 n4 n5 n6 n7 n8 n9 n10 n11
            obtain ⟨n0, n1, n2, n3, n4, n5, n6, n7, n8, n9, n10, n11⟩ := twelve_box (HNB.out _ X6.out)
            simp only [exO, List.length_nil] at n0 n1 n2 n3 n4 n5 n6 n7 n8 n9 n10 n11
            go_wp2_with fail
            refine (count_any (j + 2) (rootN (55 + a) j) _ L2 _ (HNR.out _ X6.out) (by rw [HC.out]; omega)).mono ?_
            rintro e w7 ⟨rfl, h7⟩
            rw [HC.out]
            have X7 := Lib.hid (X6.out.trans (h7.mono X6.out.size))
            clear h7 n0 n1 n2 n3 n4 n5 n6 n7 n8 n9 n10 n11
            obtain ⟨n0, n1, n2, n3, n4, n5, n6, n7, n8, n9, n10, n11⟩ := twelve_box (HNB.out _ X7.out)
            simp only [exO, List.length_nil] at n0 n1 n2 n3 n4 n5 n6 n7 n8 n9 n10 n11
            have hce : (((55 + a + j + 1 : Nat) : Int) == 55 + (a : Int) + (j : Int) + 1) = true := by simp
            go_wp2_with fail
            refine (depth_any (j + 2) (rootN (55 + a) j) _ L2 _ (HNR.out _ X7.out) (by rw [HC.out]; omega)).mono ?_
            rintro e w8 ⟨rfl, h8⟩
            rw [HD.out]
            have X8 := Lib.hid (X7.out.trans (h8.mono X7.out.size))
            clear h8 n0 n1 n2 n3 n4 n5 n6 n7 n8 n9 n10 n11
            go_wp2_with fail
            refine (lives_any _).mono ?_
            rintro e w9 ⟨rfl, h9⟩
            have X9 := Lib.hid (X8.out.trans (h9.mono X8.out.size))
            clear h9
            go_wp2_with fail
            go_ret
            exact ⟨rfl, HR.out.ext.below.trans (X9.out.mono (by omega))⟩
          · obtain ⟨n0, n1, n2, n3, n4, n5, n6, n7, n8, n9, n10, n11⟩ := twelve_box HB1.out
            simp only [exO, List.length_nil] at n0 n1 n2 n3 n4 n5 n6 n7 n8 n9 n10 n11
            go_wp2_with fail
            refine (may_any (j + 2) (rootN (55 + a) j) _ L2 _ (HNR.out _ (Below.refl _ _)) (by rw [HC.out]; omega)).mono ?_
            rintro e w6 ⟨rfl, h6⟩
            rw [HM3.out]
            have X6 := Lib.hid h6
            clear h6 n0 n1 n2 n3 n4 n5 n6 n7 n8 n9 n10 n11
            obtain ⟨n0, n1, n2, n3, n4, n5, n6, n7, n8, n9, n10, n11⟩ := twelve_box (HNB.out _ X6.out)
            simp only [exO, List.length_nil] at n0 n1 n2 n3 n4 n5 n6 n7 n8 n9 n10 n11
            go_wp2_with fail
            refine (count_any (j + 2) (rootN (55 + a) j) _ L2 _ (HNR.out _ X6.out) (by rw [HC.out]; omega)).mono ?_
            rintro e w7 ⟨rfl, h7⟩
            rw [HC.out]
            have X7 := Lib.hid (X6.out.trans (h7.mono X6.out.size))
            clear h7 n0 n1 n2 n3 n4 n5 n6 n7 n8 n9 n10 n11
            obtain ⟨n0, n1, n2, n3, n4, n5, n6, n7, n8, n9, n10, n11⟩ := twelve_box (HNB.out _ X7.out)
            simp only [exO, List.length_nil] at n0 n1 n2 n3 n4 n5 n6 n7 n8 n9 n10 n11
            have hce : (((55 + a + j + 1 : Nat) : Int) == 55 + (a : Int) + (j : Int) + 1) = true := by simp
            go_wp2_with fail
            refine (depth_any (j + 2) (rootN (55 + a) j) _ L2 _ (HNR.out _ X7.out) (by rw [HC.out]; omega)).mono ?_
            rintro e w8 ⟨rfl, h8⟩
            rw [HD.out]
            have X8 := Lib.hid (X7.out.trans (h8.mono X7.out.size))
            clear h8 n0 n1 n2 n3 n4 n5 n6 n7 n8 n9 n10 n11
            go_wp2_with fail
            refine (lives_any _).mono ?_
            rintro e w9 ⟨rfl, h9⟩
            have X9 := Lib.hid (X8.out.trans (h9.mono X8.out.size))
            clear h9
            go_wp2_with fail
            go_ret
            exact ⟨rfl, HR.out.ext.below.trans (X9.out.mono (by omega))⟩
          · obtain ⟨n0, n1, n2, n3, n4, n5, n6, n7, n8, n9, n10, n11⟩ := twelve_box HB1.out
            simp only [exO, List.length_nil] at n0 n1 n2 n3 n4 n5 n6 n7 n8 n9 n10 n11
            go_wp2_with fail
            refine (may_any (j + 2) (rootN (55 + a) j) _ L2 _ (HNR.out _ (Below.refl _ _)) (by rw [HC.out]; omega)).mono ?_
            rintro e w6 ⟨rfl, h6⟩
            rw [HM3.out]
            have X6 := Lib.hid h6
            clear h6 n0 n1 n2 n3 n4 n5 n6 n7 n8 n9 n10 n11
            obtain ⟨n0, n1, n2, n3, n4, n5, n6, n7, n8, n9, n10, n11⟩ := twelve_box (HNB.out _ X6.out)
            simp only [exO, List.length_nil] at n0 n1 n2 n3 n4 n5 n6 n7 n8 n9 n10 n11
            go_wp2_with fail
            refine (count_any (j + 2) (rootN (55 + a) j) _ L2 _ (HNR.out _ X6.out) (by rw [HC.out]; omega)).mono ?_
            rintro e w7 ⟨rfl, h7⟩
            rw [HC.out]
            have X7 := Lib.hid (X6.out.trans (h7.mono X6.out.size))
            clear h7 n0 n1 n2 n3 n4 n5 n6 n7 n8 n9 n10 n11
            obtain ⟨n0, n1, n2, n3, n4, n5, n6, n7, n8, n9, n10, n11⟩ := twelve_box (HNB.out _ X7.out)
            simp only [exO, List.length_nil] at n0 n1 n2 n3 n4 n5 n6 n7 n8 n9 n10 n11
            have hce : (((55 + a + j + 1 : Nat) : Int) == 55 + (a : Int) + (j : Int) + 1) = true := by simp
            go_wp2_with fail
            refine (depth_any (j + 2) (rootN (55 + a) j) _ L2 _ (HNR.out _ X7.out) (by rw [HC.out]; omega)).mono ?_
            rintro e w8 ⟨rfl, h8⟩
            rw [HD.out]
            have X8 := Lib.hid (X7.out.trans (h8.mono X7.out.size))
            clear h8 n0 n1 n2 n3 n4 n5 n6 n7 n8 n9 n10 n11
            go_wp2_with fail
            refine (lives_any _).mono ?_
            rintro e w9 ⟨rfl, h9⟩
            have X9 := Lib.hid (X8.out.trans (h9.mono X8.out.size))
            clear h9
            go_wp2_with fail
            go_ret
            exact ⟨rfl, HR.out.ext.below.trans (X9.out.mono (by omega))⟩
end Go.Proofs.Ytojcciciinklbaa
