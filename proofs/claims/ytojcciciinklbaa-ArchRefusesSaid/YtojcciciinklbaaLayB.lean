/- Walks: a node, and all below it, laid: its bytes. No claim by itself. -/
import Derived.Test.YtojcciciinklbaaSink
import Derived.Test.YtojcciciinklbaaTree12
set_option linter.unusedSimpArgs false
set_option linter.unusedVariables false
namespace Go.Proofs.Ytojcciciinklbaa
open Go.RowKit

set_option maxRecDepth 100000 in
set_option maxHeartbeats 1000000 in
theorem bshort_any (B : Nat) (W w : World) (r : Option Nat) (acc : List UInt8) (s : ByteArray) (h : SinkB B W w r acc) (hl : acc.length + s.size + 1 ≤ 140737488355328) :
    Calls Try.prog 89 #[.iface 104 (.pointer (some ⟨B, 0, none⟩)), .string s] w fun e w' => e = .returned (.tuple #[]) ∧ ∃ r', SinkB B W w' r' (acc ++ shortB s) ∧ Turns B w r w' r' := by
  have H := Lib.hid h
  clear h
  have hmN : ∀ w : World, (method 169 104 (.pointer (some ⟨B, 0, none⟩)) "lighterage/arch.number").run Try.prog w = .ok (140, .pointer (some ⟨B, 0, none⟩)) w := fun _ => by kernel_rfl
  have hmT : ∀ w : World, (method 169 104 (.pointer (some ⟨B, 0, none⟩)) "lighterage/arch.text").run Try.prog w = .ok (68, .pointer (some ⟨B, 0, none⟩)) w := fun _ => by kernel_rfl
  go_enter Try.func89, Try.ntmps89
  go_wp2_with fail
  refine (bnumber_any B W _ r acc (s.size : Int) 1 H.out (by omega) (by omega) (by omega)).mono ?_
  rintro e w1 ⟨rfl, r1, h1, t1⟩
  have H1 := Lib.hid h1; have T1 := Lib.hid t1
  clear h1 t1
  go_wp2_with fail
  refine (btext_any B W _ r1 _ s H1.out (by rw [List.length_append, numB_len]; omega)).mono ?_
  rintro e w2 ⟨rfl, r2, h2, t2⟩
  have H2 := Lib.hid h2; have T2 := Lib.hid t2
  clear h2 t2
  go_wp2_with fail
  go_end0
  exact ⟨rfl, r2, by unfold shortB; rw [← List.append_assoc]; exact H2.out, T1.out.trans T2.out⟩

theorem layN_eq (x : Nd) : layN x = ownW x.own ++ (if x.own.kind = 1 then layK x.kids ++ [0] else []) := by cases x; rfl
theorem headW0_len (o : Own) : (numB 1 o.kind ++ shortB o.name ++ numB 2 o.mode ++ numB 4 o.uid ++ numB 4 o.gid ++ numB 8 o.mtime ++ numB 1 o.attrs.length).length = o.name.size + 21 := by
  simp only [List.length_append, numB_len, shortB_len]; omega
theorem attrsW_le (xs : List (ByteArray × ByteArray)) (k : Nat) : (attrsW (xs.take k)).length ≤ (attrsW xs).length := by
  have := attrsW_app (xs.take k) (xs.drop k)
  rw [List.take_append_drop] at this
  rw [this, List.length_append]; omega
theorem layK_le (xs : List Nd) (k : Nat) : (layK (xs.take k)).length ≤ (layK xs).length := by
  have := layK_app (xs.take k) (xs.drop k)
  rw [List.take_append_drop] at this
  rw [this, List.length_append]; omega


set_option maxRecDepth 100000 in
set_option maxHeartbeats 8000000 in
theorem blay_any : ∀ (n : Nat) (x : Nd) (cs : List Value) (L : Live) (B : Nat) (W w : World) (r : Option Nat) (acc : List UInt8), (nodeR n).R L W x cs → (∀ b i, L b i → b < B) → SinkB B W w r acc → acc.length + (layN x).length ≤ 140737488355328 →
    Calls Try.prog 69 #[.iface 104 (.pointer (some ⟨B, 0, none⟩)), .agg cs.toArray] w fun e w' => e = .returned (.tuple #[]) ∧ ∃ r', SinkB B W w' r' (acc ++ layN x) ∧ Turns B w r w' r' := by
  intro n
  induction n with
  | zero => intro x cs L B W w r acc h; exact h.elim
  | succ n ih =>
    intro x cs L B W w r acc h hLB hS hlen
    obtain ⟨m, Ad, cd, Aa, ca, Ak, ck, hm, rfl, hP, d1, d2, a1, a2, k1, k2⟩ := node_open h
    obtain rfl : n = m := by omega
    have HL : Hid (layN x = ownW x.own ++ (if x.own.kind = 1 then layK x.kids ++ [0] else [])) := Lib.hid (layN_eq x)
    unfold nodeV
    have hD := hP.data
    have hA := hP.attrs
    have hK := hP.kids
    have hF := hP.fits
    obtain ⟨lay, hlay⟩ : ∃ l, l = layN x := ⟨_, rfl⟩
    rw [← hlay] at hlen HL ⊢
    obtain ⟨o, ho⟩ : ∃ o, o = x.own := ⟨_, rfl⟩
    obtain ⟨ks, hks⟩ : ∃ ks, ks = x.kids := ⟨_, rfl⟩
    rw [← ho] at hD hA hF HL d1 a1 ⊢
    rw [← hks] at hK HL k1 ⊢
    have HSub : Hid (∀ w', Below B W w' → Sub L W L w') := Lib.hid (fun w' hb b i hl => ⟨hl, fun u hu => (hb.cell (hLB b i hl)).trans hu⟩)
    have HLB := Lib.hid hLB
    clear hm h hP ho hks hlay hLB
    have HD := Lib.hid hD; have HA := Lib.hid hA; have HK := Lib.hid hK; have HS := Lib.hid hS
    have f1 := hF.kind; have f2 := hF.mode; have f3 := hF.uid; have f4 := hF.gid; have f5 := hF.mtime; have f9 := hF.major; have f10 := hF.minor
    unfold I64 at f1 f2 f3 f4 f5 f9 f10
    have hBlt := hS.lt.1
    have HRl : Hid (∀ k, r = some k → B < k ∧ k < w.heap.size) := Lib.hid hS.lt.2
    clear hD hA hK hF hS
    have hhd := headW0_len o
    obtain ⟨hd0, hhd0⟩ : ∃ l, l = numB 1 o.kind ++ shortB o.name ++ numB 2 o.mode ++ numB 4 o.uid ++ numB 4 o.gid ++ numB 8 o.mtime ++ numB 1 o.attrs.length := ⟨_, rfl⟩
    have HL2 : Hid (lay = hd0 ++ attrsW o.attrs ++ tailW o ++ (if o.kind = 1 then layK ks ++ [0] else [])) := Lib.hid (by rw [HL.out, hhd0]; rfl)
    rw [← hhd0] at hhd
    have Hhd0 := Lib.hid hhd0
    clear hhd0 HL
    have hll : lay.length = o.name.size + 21 + (attrsW o.attrs).length + (tailW o).length + (if o.kind = 1 then layK ks ++ [0] else []).length := by
      rw [HL2.out, List.length_append, List.length_append, List.length_append, hhd]
    have Hll := Lib.hid hll
    clear hll hhd
    have hlen1 : acc.length + o.name.size + 21 + (attrsW o.attrs).length ≤ 140737488355328 := by have := Hll.out; omega
    have hmN : ∀ w : World, (method 169 104 (.pointer (some ⟨B, 0, none⟩)) "lighterage/arch.number").run Try.prog w = .ok (140, .pointer (some ⟨B, 0, none⟩)) w := fun _ => by kernel_rfl
    have hmT : ∀ w : World, (method 169 104 (.pointer (some ⟨B, 0, none⟩)) "lighterage/arch.text").run Try.prog w = .ok (68, .pointer (some ⟨B, 0, none⟩)) w := fun _ => by kernel_rfl
    have c27 := cellsNode
    go_enter Try.func69, Try.ntmps69
    go_upto_region 1 with fail
    obtain ⟨wb, hwb⟩ : ∃ y, y = w.alloc (boxO o Ad cd Aa ca Ak ks.length ck) := ⟨_, rfl⟩
    have hBx : Box1 w (boxO o Ad cd Aa ca Ak ks.length ck) wb := by rw [hwb]; exact box1
    have hsz : wb.heap.size = w.heap.size + 1 := by rw [hwb]; simp
    have HSb : Hid (SinkB B W wb r acc) := Lib.hid (HS.out.keep (by rw [hwb]; exact (Below.refl _ _).alloc (Nat.le_refl _) _))
    have HTb : Hid (Turns B w r wb r) := Lib.hid ((Turns.refl B w r).step (by rw [hwb]; exact (Below.refl _ _).alloc (Nat.le_refl _) _))
    have HC : Hid (∀ w' r', Turns B wb r w' r' → w'.cell? ⟨w.heap.size, 0, none⟩ = some (.int .i64 o.kind) ∧ w'.cell? ⟨w.heap.size, 1, none⟩ = some (.string o.name) ∧ w'.cell? ⟨w.heap.size, 2, none⟩ = some (.int .i64 o.mode) ∧ w'.cell? ⟨w.heap.size, 3, none⟩ = some (.int .i64 o.uid) ∧ w'.cell? ⟨w.heap.size, 4, none⟩ = some (.int .i64 o.gid) ∧ w'.cell? ⟨w.heap.size, 5, none⟩ = some (.int .i64 o.mtime) ∧ w'.cell? ⟨w.heap.size, 6, none⟩ = some (.slice Ad o.data.length cd) ∧ w'.cell? ⟨w.heap.size, 7, none⟩ = some (.string o.target) ∧ w'.cell? ⟨w.heap.size, 8, none⟩ = some (.int .i64 o.major) ∧ w'.cell? ⟨w.heap.size, 9, none⟩ = some (.int .i64 o.minor) ∧ w'.cell? ⟨w.heap.size, 10, none⟩ = some (.slice Aa o.attrs.length ca) ∧ w'.cell? ⟨w.heap.size, 11, none⟩ = some (.slice Ak ks.length ck)) := Lib.hid (fun w' r' ht => by
      obtain ⟨n0, n1, n2, n3, n4, n5, n6, n7, n8, n9, n10, n11⟩ := hBx.cells
      have hk := ht.keep w.heap.size (by omega) (by omega) (fun e => by have := (HRl.out _ e.symm).2; omega)
      have kk : ∀ {j : Nat} {u : Value}, wb.cell? ⟨w.heap.size, j, none⟩ = some u → w'.cell? ⟨w.heap.size, j, none⟩ = some u := fun hu => (World.cell?_of_block (w := wb) (a := ⟨w.heap.size, _, none⟩) hk).trans hu
      exact ⟨kk n0, kk n1, kk n2, kk n3, kk n4, kk n5, kk n6, kk n7, kk n8, kk n9, kk n10, kk n11⟩)
    unfold boxO at hwb
    rw [← hwb]
    clear hwb hBx hsz HS
    have HT0 : Hid (Turns B wb r wb r) := Lib.hid (Turns.refl _ _ _)
    obtain ⟨acc0, hacc0⟩ : ∃ a, a = acc := ⟨_, rfl⟩
    have he0 : acc0.length = acc.length := by rw [hacc0]
    have HE0 := Lib.hid hacc0
    have HS0 : Hid (SinkB B W wb r acc0) := Lib.hid (by rw [hacc0]; exact HSb.out)
    clear hacc0 HSb
    obtain ⟨r0, hr0⟩ : ∃ y, y = r := ⟨_, rfl⟩
    obtain ⟨w0, hw0⟩ : ∃ y, y = wb := ⟨_, rfl⟩
    have HT0 : Hid (Turns B wb r w0 r0) := Lib.hid (by rw [hw0, hr0]; exact HT0.out)
    have HS0 : Hid (SinkB B W w0 r0 acc0) := Lib.hid (by rw [hw0, hr0]; exact HS0.out)
    rw [← hw0]
    clear hw0 hr0
    obtain ⟨c0, c1, c2, c3, c4, c5, c6, c7, c8, c9, c10, c11⟩ := HC.out _ _ HT0.out
    go_wp2_with fail
    refine (bnumber_any B W _ r0 acc0 (o.kind) 1 HS0.out (by omega) (by omega) (by omega)).mono ?_
    rintro e w1 ⟨rfl, r1, hs, ht⟩
    have HT1 := Lib.hid (HT0.out.trans ht)
    obtain ⟨acc1, hacc⟩ : ∃ a, a = acc0 ++ numB 1 o.kind := ⟨_, rfl⟩
    have he1 : acc1.length = acc.length + 1 := by rw [hacc, List.length_append]; first | (rw [numB_len]; omega) | (rw [shortB_len]; omega) | omega
    rw [← hacc] at hs
    have HS1 := Lib.hid hs; have HE1 := Lib.hid hacc
    clear hs ht hacc HS0 HT0 he0
    clear c0 c1 c2 c3 c4 c5 c6 c7 c8 c9 c10 c11
    obtain ⟨c0, c1, c2, c3, c4, c5, c6, c7, c8, c9, c10, c11⟩ := HC.out _ _ HT1.out
    go_wp2_with fail
    refine (bshort_any B W _ r1 acc1 o.name HS1.out (by omega)).mono ?_
    rintro e w2 ⟨rfl, r2, hs, ht⟩
    have HT2 := Lib.hid (HT1.out.trans ht)
    obtain ⟨acc2, hacc⟩ : ∃ a, a = acc1 ++ shortB o.name := ⟨_, rfl⟩
    have he2 : acc2.length = acc.length + o.name.size + 2 := by rw [hacc, List.length_append]; first | (rw [numB_len]; omega) | (rw [shortB_len]; omega) | omega
    rw [← hacc] at hs
    have HS2 := Lib.hid hs; have HE2 := Lib.hid hacc
    clear hs ht hacc HS1 HT1 he1
    clear c0 c1 c2 c3 c4 c5 c6 c7 c8 c9 c10 c11
    obtain ⟨c0, c1, c2, c3, c4, c5, c6, c7, c8, c9, c10, c11⟩ := HC.out _ _ HT2.out
    go_wp2_with fail
    refine (bnumber_any B W _ r2 acc2 (o.mode) 2 HS2.out (by omega) (by omega) (by omega)).mono ?_
    rintro e w3 ⟨rfl, r3, hs, ht⟩
    have HT3 := Lib.hid (HT2.out.trans ht)
    obtain ⟨acc3, hacc⟩ : ∃ a, a = acc2 ++ numB 2 o.mode := ⟨_, rfl⟩
    have he3 : acc3.length = acc.length + o.name.size + 4 := by rw [hacc, List.length_append]; first | (rw [numB_len]; omega) | (rw [shortB_len]; omega) | omega
    rw [← hacc] at hs
    have HS3 := Lib.hid hs; have HE3 := Lib.hid hacc
    clear hs ht hacc HS2 HT2 he2
    clear c0 c1 c2 c3 c4 c5 c6 c7 c8 c9 c10 c11
    obtain ⟨c0, c1, c2, c3, c4, c5, c6, c7, c8, c9, c10, c11⟩ := HC.out _ _ HT3.out
    go_wp2_with fail
    refine (bnumber_any B W _ r3 acc3 (o.uid) 4 HS3.out (by omega) (by omega) (by omega)).mono ?_
    rintro e w4 ⟨rfl, r4, hs, ht⟩
    have HT4 := Lib.hid (HT3.out.trans ht)
    obtain ⟨acc4, hacc⟩ : ∃ a, a = acc3 ++ numB 4 o.uid := ⟨_, rfl⟩
    have he4 : acc4.length = acc.length + o.name.size + 8 := by rw [hacc, List.length_append]; first | (rw [numB_len]; omega) | (rw [shortB_len]; omega) | omega
    rw [← hacc] at hs
    have HS4 := Lib.hid hs; have HE4 := Lib.hid hacc
    clear hs ht hacc HS3 HT3 he3
    clear c0 c1 c2 c3 c4 c5 c6 c7 c8 c9 c10 c11
    obtain ⟨c0, c1, c2, c3, c4, c5, c6, c7, c8, c9, c10, c11⟩ := HC.out _ _ HT4.out
    go_wp2_with fail
    refine (bnumber_any B W _ r4 acc4 (o.gid) 4 HS4.out (by omega) (by omega) (by omega)).mono ?_
    rintro e w5 ⟨rfl, r5, hs, ht⟩
    have HT5 := Lib.hid (HT4.out.trans ht)
    obtain ⟨acc5, hacc⟩ : ∃ a, a = acc4 ++ numB 4 o.gid := ⟨_, rfl⟩
    have he5 : acc5.length = acc.length + o.name.size + 12 := by rw [hacc, List.length_append]; first | (rw [numB_len]; omega) | (rw [shortB_len]; omega) | omega
    rw [← hacc] at hs
    have HS5 := Lib.hid hs; have HE5 := Lib.hid hacc
    clear hs ht hacc HS4 HT4 he4
    clear c0 c1 c2 c3 c4 c5 c6 c7 c8 c9 c10 c11
    obtain ⟨c0, c1, c2, c3, c4, c5, c6, c7, c8, c9, c10, c11⟩ := HC.out _ _ HT5.out
    go_wp2_with fail
    refine (bnumber_any B W _ r5 acc5 (o.mtime) 8 HS5.out (by omega) (by omega) (by omega)).mono ?_
    rintro e w6 ⟨rfl, r6, hs, ht⟩
    have HT6 := Lib.hid (HT5.out.trans ht)
    obtain ⟨acc6, hacc⟩ : ∃ a, a = acc5 ++ numB 8 o.mtime := ⟨_, rfl⟩
    have he6 : acc6.length = acc.length + o.name.size + 20 := by rw [hacc, List.length_append]; first | (rw [numB_len]; omega) | (rw [shortB_len]; omega) | omega
    rw [← hacc] at hs
    have HS6 := Lib.hid hs; have HE6 := Lib.hid hacc
    clear hs ht hacc HS5 HT5 he5
    clear c0 c1 c2 c3 c4 c5 c6 c7 c8 c9 c10 c11
    obtain ⟨c0, c1, c2, c3, c4, c5, c6, c7, c8, c9, c10, c11⟩ := HC.out _ _ HT6.out
    go_wp2_with fail
    refine (bnumber_any B W _ r6 acc6 ((o.attrs.length : Int)) 1 HS6.out (by omega) (by omega) (by omega)).mono ?_
    rintro e w7 ⟨rfl, r7, hs, ht⟩
    have HT7 := Lib.hid (HT6.out.trans ht)
    obtain ⟨acc7, hacc⟩ : ∃ a, a = acc6 ++ numB 1 (o.attrs.length : Int) := ⟨_, rfl⟩
    have he7 : acc7.length = acc.length + o.name.size + 21 := by rw [hacc, List.length_append]; first | (rw [numB_len]; omega) | (rw [shortB_len]; omega) | omega
    rw [← hacc] at hs
    have HS7 := Lib.hid hs; have HE7 := Lib.hid hacc
    clear hs ht hacc HS6 HT6 he6
    clear c0 c1 c2 c3 c4 c5 c6 c7 c8 c9 c10 c11
    have HE : Hid (acc7 = acc ++ hd0) := Lib.hid (by
      rw [HE7.out, HE6.out, HE5.out, HE4.out, HE3.out, HE2.out, HE1.out, HE0.out, Hhd0.out]; simp only [List.append_assoc])
    clear HE0 HE1 HE2 HE3 HE4 HE5 HE6 HE7 Hhd0
    obtain ⟨c0, c1, c2, c3, c4, c5, c6, c7, c8, c9, c10, c11⟩ := HC.out _ _ HT7.out
    go_wp2_with fail
    clear c0 c1 c2 c3 c4 c5 c6 c7 c8 c9 c10 c11
    go_loopw [40] (fun i wr => ∃ (k : Nat) (r' : Option Nat), k ≤ o.attrs.length ∧ i = .int .i64 k ∧ Hid (SinkB B W wr r' (acc7 ++ attrsW (o.attrs.take k))) ∧ Hid (Turns B wb r wr r')) (fun i _ => o.attrs.length - (intOf i).toNat)
    case atStart => exact ⟨0, r7, Nat.zero_le _, rfl, Lib.hid (by simpa [attrsW] using HS7.out), HT7⟩
    case round =>
      obtain ⟨k, r1, hk, rfl, HS1, HT1⟩ := hrel
      obtain ⟨w1, hw1⟩ : ∃ y, y = wr := ⟨_, rfl⟩
      subst hw1
      obtain ⟨acc1, hacc1⟩ : ∃ a, a = acc7 ++ attrsW (o.attrs.take k) := ⟨_, rfl⟩
      have hle := attrsW_le o.attrs k
      have he1 : acc1.length = acc.length + o.name.size + 21 + (attrsW (o.attrs.take k)).length := by rw [hacc1, List.length_append, he7]
      rw [← hacc1] at HS1
      have HE1 := Lib.hid hacc1
      clear hacc1
      by_cases hlt : k < o.attrs.length
      · have hkI : (k : Int) < (o.attrs.length : Int) := by omega
        obtain ⟨b, off, rfl, p0, p1, z1, z2⟩ := attrs_at (HA.out.mono (HSub.out _ HS1.out.bel)) k hlt
        have hJ := attrsW_take hlt
        have hle2 := attrsW_le o.attrs (k + 1)
        rw [hJ, List.length_append, List.length_append, shortB_len, shortB_len] at hle2
        obtain ⟨a, ha⟩ : ∃ a, a = o.attrs[k] := ⟨_, rfl⟩
        rw [← ha] at p0 p1 z1 z2 hJ hle2
        have HJ := Lib.hid hJ
        clear ha hJ
        obtain ⟨x1, x2⟩ := a
        dsimp only at p0 p1 z1 z2 HJ hle2
        obtain ⟨al, hal⟩ : ∃ n, n = (attrsW (o.attrs.take k)).length := ⟨_, rfl⟩
        rw [← hal] at he1 hle hle2
        clear hal
        go_upto_region 11 with fail
        obtain ⟨w2, hw2⟩ : ∃ y, y = w1.alloc (.cells #[.string x1, .string x2] 88) := ⟨_, rfl⟩
        have hg2 : w2.heap[w1.heap.size]? = some (.cells #[.string x1, .string x2] 88) := by rw [hw2]; exact heap_alloc_new _ _
        have hsz2 : w2.heap.size = w1.heap.size + 1 := by rw [hw2]; simp
        have hb2 : Below w1.heap.size w1 w2 := by rw [hw2]; exact (Below.refl _ _).alloc (Nat.le_refl _) _
        have HT2 := Lib.hid (HT1.out.step hb2)
        have HS2 := Lib.hid (HS1.out.keep hb2)
        have HP : Hid (∀ w' r', Turns B w2 r1 w' r' → w'.cell? ⟨w1.heap.size, 0, none⟩ = some (.string x1) ∧ w'.cell? ⟨w1.heap.size, 1, none⟩ = some (.string x2)) := Lib.hid (fun w' r' ht => by
          have hlt1 := HS1.out.lt
          have hk := ht.keep w1.heap.size (by omega) (by omega) (fun e => by have := (hlt1.2 _ e.symm).2; omega)
          have h1 := hk.trans hg2
          exact ⟨by rw [cell_block h1]; rfl, by rw [cell_block h1]; rfl⟩)
        rw [← hw2]
        have he2 : acc1.length = acc.length + o.name.size + 21 + al := he1
        clear hw2 hg2 hsz2 hb2 p0 p1 z1 z2 HS1 HT1 he1
        obtain ⟨p0, p1⟩ := HP.out _ _ (Turns.refl _ _ _)
        go_wp2_with fail
        refine (bshort_any B W _ r1 acc1 x1 HS2.out (by omega)).mono ?_
        rintro e w3 ⟨rfl, r3, hs, ht⟩
        have HT3 := Lib.hid (HT2.out.trans ht); have HS3 := Lib.hid hs
        clear p0 p1
        obtain ⟨p0, p1⟩ := HP.out _ _ ht
        clear hs ht HS2 HT2
        go_wp2_with fail
        refine (bshort_any B W _ r3 _ x2 HS3.out (by rw [List.length_append, shortB_len]; omega)).mono ?_
        rintro e w4 ⟨rfl, r4, hs, ht⟩
        have HT4 := Lib.hid (HT3.out.trans ht)
        have HS4 : Hid (SinkB B W w4 r4 (acc7 ++ attrsW (o.attrs.take (k + 1)))) := Lib.hid (by rw [HJ.out, ← List.append_assoc, ← List.append_assoc, ← HE1.out]; exact hs)
        clear hs ht HS3 HT3 p0 p1
        go_wp2
        go_roundw
        case rel => exact ⟨k + 1, r4, by omega, by go_num, HS4, HT4⟩
        case measure => simp [intOf]; omega
      · have hkn : ¬ (k : Int) < (o.attrs.length : Int) := by omega
        have hke : k = o.attrs.length := by omega
        have HE2 : Hid (acc1 = acc ++ hd0 ++ attrsW o.attrs) := Lib.hid (by rw [HE1.out, HE.out, hke, List.take_length])
        have he2 : acc1.length = acc.length + o.name.size + 21 + (attrsW o.attrs).length := by rw [he1, hke, List.take_length]
        clear HE1 HE hke hle he1 he7 HS7 HT7
        have he1 := he2
        clear he2
        obtain ⟨al, hal⟩ : ∃ n, n = (attrsW o.attrs).length := ⟨_, rfl⟩
        rw [← hal] at he1 hlen1
        have Hal := Lib.hid hal
        clear hal
        obtain ⟨c0, c1, c2, c3, c4, c5, c6, c7, c8, c9, c10, c11⟩ := HC.out _ _ HT1.out
        by_cases hk1 : o.kind = 1
        · have HL3 : Hid (acc ++ lay = acc1 ++ layK ks ++ [0]) := Lib.hid (by
            have ht : tailW o = [] := by unfold tailW; rw [hk1]; rfl
            rw [HL2.out, HE2.out, ht, if_pos hk1]; simp)
          have hlen2 : acc1.length + (layK ks).length + 1 ≤ 140737488355328 := by
            have h1 := Hll.out
            have ht : (tailW o).length = 0 := by unfold tailW; rw [hk1]; rfl
            rw [if_pos hk1, List.length_append, ht, ← Hal.out] at h1
            simp only [List.length_cons, List.length_nil] at h1
            omega
          rw [hk1] at c0
          clear hk1 HL2 HE2 Hll he1 hlen1 Hal hlen
          go_wp2_with fail
          clear c0 c1 c2 c3 c4 c5 c6 c7 c8 c9 c10 c11
          go_loopw [60] (fun i wr => ∃ (k : Nat) (r' : Option Nat), k ≤ ks.length ∧ i = .int .i64 k ∧ Hid (SinkB B W wr r' (acc1 ++ layK (ks.take k))) ∧ Hid (Turns B wb r wr r')) (fun i _ => ks.length - (intOf i).toNat)
          case atStart => exact ⟨0, r1, Nat.zero_le _, rfl, Lib.hid (by simpa [layK] using HS1.out), HT1⟩
          case round =>
            clear HS1 HT1
            obtain ⟨k2, r2, hk2, rfl, HS2, HT2⟩ := hrel
            obtain ⟨w2, hw2⟩ : ∃ y, y = wr := ⟨_, rfl⟩
            subst hw2
            by_cases hlt2 : k2 < ks.length
            · have hkI2 : (k2 : Int) < (ks.length : Int) := by omega
              have HJ := Lib.hid (layK_take hlt2)
              have hle2 := layK_le ks (k2 + 1)
              rw [HJ.out, List.length_append] at hle2
              obtain ⟨b, off, cs, rfl, hR, hc⟩ := HK.out.get (by rw [nodeR_sz]; decide) k2 hlt2
              rw [nodeR_sz] at hc
              obtain ⟨y, hy⟩ : ∃ y, y = ks[k2] := ⟨_, rfl⟩
              rw [← hy] at hR HJ hle2
              clear hy
              obtain ⟨m, Ad', cd', Aa', ca', Ak', ck', hm, rfl, hP', _, _, _, _, _, _⟩ := node_open hR
              have hbB : b < B := HLB.out b _ (hc 0 _ rfl).2
              have kk : ∀ {j : Nat} {u : Value}, W.cell? ⟨b, j, none⟩ = some u → w2.cell? ⟨b, j, none⟩ = some u := fun hu => (HS2.out.bel.cell hbB).trans hu
              have n0 := kk (hc 0 _ rfl).1
              have n1 := kk (hc 1 _ rfl).1
              have n2 := kk (hc 2 _ rfl).1
              have n3 := kk (hc 3 _ rfl).1
              have n4 := kk (hc 4 _ rfl).1
              have n5 := kk (hc 5 _ rfl).1
              have n6 := kk (hc 6 _ rfl).1
              have n7 := kk (hc 7 _ rfl).1
              have n8 := kk (hc 8 _ rfl).1
              have n9 := kk (hc 9 _ rfl).1
              have n10 := kk (hc 10 _ rfl).1
              have n11 := kk (hc 11 _ rfl).1
              rw [Nat.add_zero] at n0
              have HRW := Lib.hid hR
              clear hP' hm hR hc kk hbB
              go_wp2_with fail
              have HT2b := HT2.out.step ((Below.refl _ w2).alloc (Nat.le_refl _) (boxO y.own Ad' cd' Aa' ca' Ak' y.kids.length ck'))
              refine (ih y _ L B W _ r2 (acc1 ++ layK (ks.take k2)) HRW.out HLB.out (HS2.out.keep ((Below.refl _ w2).alloc (Nat.le_refl _) _)) (by rw [List.length_append]; omega)).mono ?_
              rintro e w3 ⟨rfl, r3, hs, ht⟩
              have HT3 := Lib.hid (HT2b.trans ht)
              have HS3 : Hid (SinkB B W w3 r3 (acc1 ++ layK (ks.take (k2 + 1)))) := Lib.hid (by rw [HJ.out, ← List.append_assoc]; exact hs)
              clear hs ht HT2b n0 n1 n2 n3 n4 n5 n6 n7 n8 n9 n10 n11
              go_wp2
              go_roundw
              case rel => exact ⟨k2 + 1, r3, by omega, by go_num, HS3, HT3⟩
              case measure => simp [intOf]; omega
            · have hkn2 : ¬ (k2 : Int) < (ks.length : Int) := by omega
              have hke2 : k2 = ks.length := by omega
              have HS3 : Hid (SinkB B W w2 r2 (acc1 ++ layK ks)) := Lib.hid (by have h := HS2.out; rw [hke2, List.take_length] at h; exact h)
              clear hke2 HS2
              go_wp2_with fail
              refine (bnumber_any B W _ r2 _ 0 1 HS3.out (by rw [List.length_append]; omega) (by omega) (by omega)).mono ?_
              rintro e w3 ⟨rfl, r3, hs, ht⟩
              have HS4 : Hid (SinkB B W w3 r3 (acc ++ lay)) := Lib.hid (by rw [HL3.out]; exact hs)
              have HT4 := Lib.hid ((HTb.out.trans HT2.out).trans ht)
              clear hs ht
              go_wp2_with fail
              go_end0
              exact ⟨rfl, r3, HS4.out, HT4.out⟩
        · have hk1b : (o.kind == 1) = false := beq_eq_false_iff_ne.2 hk1
          have HL3 : Hid (acc ++ lay = acc1 ++ tailW o) := Lib.hid (by
            rw [HL2.out, HE2.out, if_neg hk1]; simp)
          have hlen2 : acc1.length + (tailW o).length ≤ 140737488355328 := by
            have h1 := Hll.out
            rw [if_neg hk1, ← Hal.out] at h1
            simp only [List.length_nil] at h1
            omega
          clear HL2 HE2 Hll he1 hlen1 Hal hlen
          by_cases hk2 : o.kind = 2
          · have ht : tailW o = numB 4 (o.data.length : Int) ++ o.data := by unfold tailW; rw [if_pos hk2]
            rw [ht] at HL3 hlen2
            rw [List.length_append, numB_len] at hlen2
            rw [hk2] at c0
            clear hk1 hk2 hk1b ht
            go_wp2_with fail
            refine (bnumber_any B W _ r1 acc1 (o.data.length : Int) 4 HS1.out (by omega) (by omega) (by omega)).mono ?_
            rintro e w3 ⟨rfl, r3, hs, ht⟩
            have HS3 := Lib.hid hs; have HT3 := Lib.hid (HT1.out.trans ht)
            clear hs ht HS1 HT1 c0 c1 c2 c3 c4 c5 c6 c7 c8 c9 c10 c11
            obtain ⟨c0, c1, c2, c3, c4, c5, c6, c7, c8, c9, c10, c11⟩ := HC.out _ _ HT3.out
            have hcv : (convert 23 9 (.slice Ad o.data.length cd)).run Try.prog w3 = .ok (.string (mkS o.data)) w3 :=
              (HD.out.mono (HSub.out _ HS3.out.bel)).toStr (P := Try.prog) 23 5 9 Try.underlying23 Try.underlying5 Try.underlying9
            have hms : (mkS o.data).size = o.data.length := rfl
            go_wp2_with fail
            refine (btext_any B W _ r3 _ (mkS o.data) HS3.out (by rw [List.length_append, numB_len, hms]; omega)).mono ?_
            rintro e w4 ⟨rfl, r4, hs, ht⟩
            have HS4 : Hid (SinkB B W w4 r4 (acc ++ lay)) := Lib.hid (by rw [HL3.out, ← List.append_assoc]; exact hs)
            have HT4 := Lib.hid ((HTb.out.trans HT3.out).trans ht)
            clear hs ht
            go_wp2_with fail
            go_end0
            exact ⟨rfl, r4, HS4.out, HT4.out⟩
          · have hk2b : (o.kind == 2) = false := beq_eq_false_iff_ne.2 hk2
            by_cases hk3 : o.kind = 3
            · have ht : tailW o = shortB o.target := by unfold tailW; rw [if_neg hk2, if_pos hk3]
              rw [ht] at HL3 hlen2
              rw [shortB_len] at hlen2
              rw [hk3] at c0
              clear hk1 hk2 hk1b hk2b hk3 ht
              go_wp2_with fail
              refine (bshort_any B W _ r1 acc1 o.target HS1.out (by omega)).mono ?_
              rintro e w4 ⟨rfl, r4, hs, ht⟩
              have HS4 : Hid (SinkB B W w4 r4 (acc ++ lay)) := Lib.hid (by rw [HL3.out]; exact hs)
              have HT4 := Lib.hid ((HTb.out.trans HT1.out).trans ht)
              clear hs ht
              go_wp2_with fail
              go_end0
              exact ⟨rfl, r4, HS4.out, HT4.out⟩
            · have hk3b : (o.kind == 3) = false := beq_eq_false_iff_ne.2 hk3
              by_cases hk4 : o.kind = 4
              · have ht : tailW o = numB 1 o.major ++ numB 1 o.minor := by unfold tailW; rw [if_neg hk2, if_neg hk3, if_pos hk4]
                rw [ht] at HL3 hlen2
                rw [List.length_append, numB_len, numB_len] at hlen2
                rw [hk4] at c0
                clear hk1 hk2 hk1b hk2b hk3 hk3b hk4 ht
                go_wp2_with fail
                refine (bnumber_any B W _ r1 acc1 o.major 1 HS1.out (by omega) (by omega) (by omega)).mono ?_
                rintro e w3 ⟨rfl, r3, hs, ht⟩
                have HS3 := Lib.hid hs; have HT3 := Lib.hid (HT1.out.trans ht)
                clear hs ht HS1 HT1 c0 c1 c2 c3 c4 c5 c6 c7 c8 c9 c10 c11
                obtain ⟨c0, c1, c2, c3, c4, c5, c6, c7, c8, c9, c10, c11⟩ := HC.out _ _ HT3.out
                go_wp2_with fail
                refine (bnumber_any B W _ r3 _ o.minor 1 HS3.out (by rw [List.length_append, numB_len]; omega) (by omega) (by omega)).mono ?_
                rintro e w4 ⟨rfl, r4, hs, ht⟩
                have HS4 : Hid (SinkB B W w4 r4 (acc ++ lay)) := Lib.hid (by rw [HL3.out, ← List.append_assoc]; exact hs)
                have HT4 := Lib.hid ((HTb.out.trans HT3.out).trans ht)
                clear hs ht
                go_wp2_with fail
                go_end0
                exact ⟨rfl, r4, HS4.out, HT4.out⟩
              · have hk4b : (o.kind == 4) = false := beq_eq_false_iff_ne.2 hk4
                have ht : tailW o = [] := by unfold tailW; rw [if_neg hk2, if_neg hk3, if_neg hk4]
                have HS4 : Hid (SinkB B W w1 r1 (acc ++ lay)) := Lib.hid (by rw [HL3.out, ht, List.append_nil]; exact HS1.out)
                have HT4 := Lib.hid (HTb.out.trans HT1.out)
                clear ht
                go_wp2_with fail
                go_end0
                exact ⟨rfl, r1, HS4.out, HT4.out⟩
end Go.Proofs.Ytojcciciinklbaa
