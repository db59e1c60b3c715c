/- Walks: the document's small helpers. No claim by itself. -/
import Derived.Test.YtojcciciinklbaaPath1
import Derived.Handy
import Derived.Lib.Strings
set_option linter.unusedSimpArgs false
set_option linter.unusedVariables false
namespace Go.Proofs.Ytojcciciinklbaa
open Go.RowKit

def around (n m : Int) : Int := if n < 0 then (-(n + 1)) % m else n % m
theorem around_range (n m : Int) (hm : 0 < m) : 0 ≤ around n m ∧ around n m < m := by
  unfold around; split
  · exact ⟨Int.emod_nonneg _ (by omega), Int.emod_lt_of_pos _ hm⟩
  · exact ⟨Int.emod_nonneg _ (by omega), Int.emod_lt_of_pos _ hm⟩

theorem around_any (n m : Int) (w : World) (h1 : -9223372036854775808 ≤ n) (h2 : n ≤ 9223372036854775807) (h3 : 0 < m) (h4 : m ≤ 9223372036854775807) :
    Calls Try.prog 13 #[.int .i64 n, .int .i64 m] w fun e w' => e = .returned (.int .i64 (around n m)) ∧ w = w' := by
  have hz : ((m : Int) == 0) = false := by simp; omega
  by_cases hn : n < 0
  · have h0 : 0 ≤ -(n + 1) := by omega
    go_enter Try.func13, Try.ntmps13
    go_wp2
    go_ret
    exact ⟨ret_int (by rw [around, if_pos hn]; exact (Int.neg_tmod _ _).symm.trans (Int.tmod_eq_emod_of_nonneg h0)), rfl⟩
  · go_enter Try.func13, Try.ntmps13
    go_wp2
    go_ret
    exact ⟨ret_int (by rw [around, if_neg (by omega)]), rfl⟩

theorem Try.info5 : (Try.prog.info? 5).map (fun i => (i.zero, i.size, i.bytes)) = some (some (.int .u8 0), 1, 1) := by kernel_rfl

set_option maxHeartbeats 400000 in
theorem few_any (xs : List UInt8) (v : Value) (m : Int) (L : Live) (w : World) (hm : 0 ≤ m) (hm2 : m ≤ 1000000) (hS : SliceR Rp.byte L w xs v) :
    Calls Try.prog 25 #[v, .int .i64 m] w fun e w' => ∃ v', e = .returned v' ∧ Blk w' w.heap.size 5 1 v' (xs.take m.toNat).length (bytesV (xs.take m.toNat)) ∧ Below w.heap.size w w' := by
  obtain ⟨A, c, rfl, hnc, hn1, hn2⟩ := hS.form
  have HS := Lib.hid hS; clear hS
  obtain ⟨k, rfl⟩ := Int.eq_ofNat_of_zero_le hm
  by_cases hk : xs.length ≤ k
  · have hmin : min (xs.length : Int) (k : Int) = xs.length := by omega
    obtain ⟨cells, hsrc, hrep⟩ := HS.out.src
    obtain rfl := bytes_cells hrep
    have hsrc := Lib.hid hsrc
    go_enter Try.func25, Try.ntmps25
    go_wp2_with (at_builtin; refine wpList_appB rfl (.tmp 6) (.tmp 12) 23 5 rfl w.heap.size _ 1 1 Try.underlying23 Try.info5 rfl (by decide) w (.slice none 0 0) rfl _ rfl 0 [] (Blk.nil _ _ _ _) xs.length (bytesV xs) ?c1 ?c2 ?c3 ?c4 ?_)
    case c1 => exact hsrc.out
    case c2 => exact (bytes_reps L w xs).one
    case c3 => omega
    case c4 => exact Nat.le_refl _
    intro v1 w1 hB1 hA1 _
    have HX := Lib.hid hB1
    have HA := Lib.hid hA1
    clear hB1 hA1
    go_wp2
    go_ret
    refine ⟨_, rfl, ?_, (Below.refl _ _).grown HA.out (Nat.le_refl _) (fun k h => by simp [Value.ownBlock] at h)⟩
    rw [Int.toNat_natCast, List.take_of_length_le hk]
    have := HX.out
    exact this
  · have hmin : min (xs.length : Int) (k : Int) = k := by omega
    have hkc : (k : Int) ≤ c := by omega
    have hsrc := (HS.out.take k (by omega)).src
    have hlk : (xs.take k).length = k := by rw [List.length_take]; omega
    rw [hlk] at hsrc
    obtain ⟨cells, hsrc, hrep⟩ := hsrc
    obtain rfl := bytes_cells hrep
    have hsrc := Lib.hid hsrc
    have Hlk := Lib.hid hlk; clear hlk
    go_enter Try.func25, Try.ntmps25
    go_wp2_with (at_builtin; refine wpList_appB rfl (.tmp 6) (.tmp 12) 23 5 rfl w.heap.size _ 1 1 Try.underlying23 Try.info5 rfl (by decide) w (.slice none 0 0) rfl _ rfl 0 [] (Blk.nil _ _ _ _) k (bytesV (xs.take k)) ?d1 ?d2 ?d3 ?d4 ?_)
    case d1 => exact hsrc.out
    case d2 => exact (bytes_reps L w _).one
    case d3 => omega
    case d4 => exact Nat.le_refl _
    intro v1 w1 hB1 hA1 _
    have HX := Lib.hid hB1
    have HA := Lib.hid hA1
    clear hB1 hA1
    go_wp2
    go_ret
    refine ⟨_, rfl, ?_, (Below.refl _ _).grown HA.out (Nat.le_refl _) (fun k h => by simp [Value.ownBlock] at h)⟩
    rw [Int.toNat_natCast, Hlk.out]
    have := HX.out
    exact this

/-- The first bytes of a text. -/
def shortS (s : ByteArray) (m : Nat) : ByteArray := mkS (s.data.toList.take m)
theorem shortS_all {s : ByteArray} {m : Nat} (h : s.size ≤ m) : shortS s m = s := by
  unfold shortS
  rw [List.take_of_length_le (by rw [show s.data.toList.length = s.size from rfl]; exact h)]; rfl
theorem shortS_cut (s : ByteArray) (m : Nat) : s.extract 0 m = shortS s m := by
  apply Go.WideShapes.bytes_inj
  rw [Lib.extract_data]; rfl
theorem shortS_size (s : ByteArray) (m : Nat) : (shortS s m).size ≤ m := by
  unfold shortS; rw [mkS_size, List.length_take]; omega

set_option maxHeartbeats 400000 in
theorem short_any (s : ByteArray) (m : Nat) (w : World) (hm : m ≤ 1000000) (hs : s.size ≤ 9223372036854775807) :
    Calls Try.prog 20 #[.string s, .int .i64 m] w fun e w' => e = .returned (.string (shortS s m)) ∧ w = w' := by
  by_cases h : s.size ≤ m
  · have hI : ¬ (m : Int) < (s.size : Int) := by omega
    have HE := Lib.hid (shortS_all h)
    go_enter Try.func20, Try.ntmps20
    go_wp2
    go_ret
    exact ⟨ret_str HE.out.symm, rfl⟩
  · have hI : (m : Int) < (s.size : Int) := by omega
    have HE := Lib.hid (shortS_cut s m)
    have hle : m ≤ s.size := by omega
    have hleI : (m : Int) ≤ (s.size : Int) := by omega
    go_enter Try.func20, Try.ntmps20
    go_wp2
    go_ret
    exact ⟨ret_str HE.out, rfl⟩

/-- So many bytes, made of any. -/
def fillAt (b : List UInt8) (i : Nat) : UInt8 := b.getD (i % b.length) 0
def fillL (b : List UInt8) (n : Nat) : List UInt8 := (List.range n).map (fillAt b)
theorem fillL_len (b : List UInt8) (n : Nat) : (fillL b n).length = n := by simp [fillL]
theorem fillL_succ (b : List UInt8) (n : Nat) : fillL b (n + 1) = fillL b n ++ [fillAt b n] := by simp [fillL, List.range_succ]

set_option maxHeartbeats 1000000 in
theorem fill_any (b : List UInt8) (v : Value) (n : Nat) (L : Live) (w : World) (hn : n ≤ 100000) (hS : SliceR Rp.byte L w b v) :
    Calls Try.prog 52 #[v, .int .i64 n] w fun e w' => ∃ v', e = .returned v' ∧ Blk w' w.heap.size 5 1 v' n (bytesV (fillL b n)) ∧ Below w.heap.size w w' := by
  obtain ⟨A, c, rfl, hnc, hn1, hn2⟩ := hS.form
  have HS := Lib.hid hS; clear hS
  go_enter Try.func52, Try.ntmps52
  go_wp2
  go_loopw [5, 6] (fun v i wr => ∃ (k : Nat) (xs : List UInt8), k ≤ n ∧ i = .int .i64 k ∧ Hid (xs = fillL b k) ∧ Blk wr w.heap.size 5 1 v k (bytesV xs) ∧ Below w.heap.size w wr) (fun _ i _ => n - (intOf i).toNat)
  case atStart => exact ⟨0, [], Nat.zero_le _, rfl, Lib.hid rfl, Blk.nil _ _ _ _, Below.refl _ _⟩
  case round =>
    obtain ⟨k, xs, hk, rfl, HX, hB, hX⟩ := hrel
    obtain ⟨Ap, cp, rfl, _, _⟩ := hB.form
    have hs := hX.size
    have HB := Lib.hid hB
    have HXw := Lib.hid hX
    clear hB hX
    by_cases hlt : k < n
    · have hkI : (k : Int) < (n : Int) := by omega
      have HN : Hid (xs ++ [fillAt b k] = fillL b (k + 1)) := Lib.hid (by rw [fillL_succ, HX.out])
      obtain ⟨q, hq⟩ : ∃ q, q = fillAt b k := ⟨_, rfl⟩
      rw [← hq] at HN
      have HQ := Lib.hid hq
      clear hq
      have HBV : Hid (bytesV (xs ++ [q]) = bytesV xs ++ [.int .u8 (q.toNat : Int)]) := Lib.hid (by rw [bytesV_append]; rfl)
      by_cases h0 : 0 < b.length
      · have h0I : (0 : Int) < (b.length : Int) := by omega
        obtain ⟨m, hm⟩ : ∃ m, m = k % b.length := ⟨_, rfl⟩
        have hml : m < b.length := by rw [hm]; exact Nat.mod_lt _ h0
        obtain ⟨bl, off, rfl, d0, _⟩ := bytes_at HS.out m hml
        have c0 := (HXw.out.cell (World.block_lt_of_cell? w _ d0)).trans d0
        have hqm : b[m] = q := by rw [HQ.out]; unfold fillAt; rw [← hm]; simp [List.getD, List.getElem?_eq_getElem hml]
        rw [hqm] at c0
        have hmod : (k : Int) % (b.length : Int) = (m : Int) := by omega
        have hmI : (m : Int) < (b.length : Int) := by omega
        have hnz : ((b.length : Int) == 0) = false := beq_eq_false_iff_ne.2 (by omega)
        clear d0 hqm hm
        go_wp2_with (at_builtin; refine wpList_appB rfl (.tmp 15) (.tmp 23) 23 5 rfl w.heap.size _ 1 1 Try.underlying23 Try.info5 rfl (by decide) _ _ rfl _ rfl k (bytesV xs) ?c1 1 [.int .u8 (q.toNat : Int)] ?c2 ?c3 ?c4 ?c5 ?_)
        case c1 => exact HB.out.below ((Below.refl _ wr).alloc (Nat.le_refl _) _)
        case c2 => exact Src.new wr 5 1 1 1 [_] rfl
        case c3 => first | (intro u hu; simp at hu; subst hu; rfl) | rfl
        case c4 => omega
        case c5 => first | omega | (simp; omega)
        intro v1 w1 hB1 hg1 _
        rw [← HBV.out] at hB1
        have HB1 := Lib.hid hB1
        have HX1 : Hid (Below w.heap.size w w1) := Lib.hid ((HXw.out.alloc hs _).grown hg1 (by simp; omega) (fun k hk => (HB.out.lt k hk).1))
        clear hB1 hg1
        go_wp2
        go_roundw
        case rel => exact ⟨k + 1, xs ++ [q], by omega, by go_num, HN, HB1.out, HX1.out⟩
        case measure => simp [intOf]; omega
      · have hq0 : q = 0 := by
          have hb0 : b = [] := List.eq_nil_of_length_eq_zero (by omega)
          rw [HQ.out, hb0]; rfl
        subst hq0
        have h0I : ¬ (0 : Int) < (b.length : Int) := by omega
        go_wp2_with (at_builtin; refine wpList_appB rfl (.tmp 25) (.tmp 26) 23 5 rfl w.heap.size _ 1 1 Try.underlying23 Try.info5 rfl (by decide) _ _ rfl _ rfl k (bytesV xs) ?d1 1 [.int .u8 0] ?d2 ?d3 ?d4 ?d5 ?_)
        case d1 => exact HB.out.below ((Below.refl _ wr).alloc (Nat.le_refl _) _)
        case d2 => exact Src.new wr 5 1 1 1 [_] rfl
        case d3 => first | (intro u hu; simp at hu; subst hu; rfl) | rfl
        case d4 => omega
        case d5 => first | omega | (simp; omega)
        intro v1 w1 hB1 hg1 _
        rw [show ([.int .u8 0] : List Value) = [.int .u8 ((0 : UInt8).toNat : Int)] from rfl, ← HBV.out] at hB1
        have HB1 := Lib.hid hB1
        have HX1 : Hid (Below w.heap.size w w1) := Lib.hid ((HXw.out.alloc hs _).grown hg1 (by simp; omega) (fun k hk => (HB.out.lt k hk).1))
        clear hB1 hg1
        go_wp2
        go_roundw
        case rel => exact ⟨k + 1, xs ++ [0], by omega, by go_num, HN, HB1.out, HX1.out⟩
        case measure => simp [intOf]; omega
    · have hke : k = n := by omega
      subst hke
      have hI : ¬ (k : Int) < (k : Int) := by omega
      go_wp2
      go_ret
      exact ⟨_, rfl, by rw [← HX.out]; exact HB.out, HXw.out⟩
end Go.Proofs.Ytojcciciinklbaa
