/- Walks: paths made of any numbers (on the seat without paths). No claim by itself. -/
import Derived.Test.YtojcciciinklbaaRCmp
import Derived.Test.YtojcciciinklbaaRef01
import Derived.Test.YtojcciciinklbaaOpen
set_option linter.unusedSimpArgs false
set_option linter.unusedVariables false
namespace Go.Proofs.Ytojcciciinklbaa
open Go.RowKit

theorem jn_take (xs : List (List UInt8)) (k : Nat) (hk : k < xs.length) : jn (xs.take (k + 1)) = if k = 0 then xs[k] else jn (xs.take k) ++ 47 :: xs[k] := by
  rw [List.take_succ_eq_append_getElem hk, jn_snoc]
  by_cases h : k = 0
  · subst h; simp
  · rw [if_neg h, if_neg (fun e => by have := congrArg List.length e; rw [List.length_take, List.length_nil] at this; omega)]

theorem mkS_app (a b : List UInt8) : mkS a ++ mkS b = mkS (a ++ b) := by
  apply Go.WideShapes.bytes_inj
  rw [ByteArray.data_append, Array.toList_append]
  rfl

set_option maxHeartbeats 1000000 in
theorem rjoin_any (base : Nat) (v : Value) (xs : List ByteArray) (w : World) (h : SL w base v xs) (hl : xs.length ≤ 1000) (hz : ∀ x ∈ xs, x.size ≤ 1000) :
    Calls Try.prog 48 #[v] w fun e w' => e = .returned (.string (joinS xs)) ∧ w = w' := by
  obtain ⟨A1, c1, rfl, hnc1, hn1⟩ := h.form
  have H1 := Lib.hid h; clear h
  have Hz := Lib.hid hz; clear hz
  go_enter Try.func48, Try.ntmps48
  go_wp2
  go_loop [3, 4] (fun t i => ∃ (k : Nat) (s : ByteArray), k ≤ xs.length ∧ i = .int .i64 k ∧ t = .string s ∧ Hid (s = mkS (jn ((xs.map (·.data.toList)).take k))) ∧ s.size ≤ k * 1001) (fun _ i => xs.length - (intOf i).toNat)
  case atStart => exact ⟨0, ⟨#[]⟩, Nat.zero_le _, rfl, rfl, Lib.hid rfl, Nat.zero_le _⟩
  case round =>
    obtain ⟨k, s, hk, rfl, rfl, HI, hsz⟩ := hrel
    by_cases hl1 : k < xs.length
    · obtain ⟨r1, cap1, he1, _, _, _, _, hat1⟩ := SL.at_ H1.out (by omega)
      simp at he1
      obtain ⟨rfl, rfl⟩ := he1
      have c1 := hat1 k hl1
      clear hat1
      have hI1 : (k : Int) < (xs.length : Int) := by omega
      obtain ⟨x, hx⟩ : ∃ x, x = xs[k] := ⟨_, rfl⟩
      have hxz : x.size ≤ 1000 := by rw [hx]; exact Hz.out _ (List.getElem_mem hl1)
      have HX : Hid ((xs.map (·.data.toList))[k]'(by simpa using hl1) = x.data.toList) := Lib.hid (by rw [hx]; simp)
      have HJ := Lib.hid (jn_take (xs.map (·.data.toList)) k (by simpa using hl1))
      rw [← hx] at c1
      clear hx
      by_cases h0 : k = 0
      · subst h0
        have hc1 : s.size + x.size ≤ 9223372036854775807 := by omega
        have HK : Hid (s ++ x = mkS (jn ((xs.map (·.data.toList)).take (0 + 1)))) := Lib.hid (by
          rw [HJ.out, if_pos rfl, HX.out, HI.out, ← mkS_of x, mkS_app]
          simp [jn]; rfl)
        have hsz2 : (s ++ x).size ≤ (0 + 1) * 1001 := by rw [ByteArray.size_append]; omega
        have Hs2 := Lib.hid hsz2
        clear hsz2
        go_wp2
        go_round
        case rel => exact ⟨0 + 1, s ++ x, by omega, by go_num, rfl, HK, Hs2.out⟩
        case measure => simp [intOf]; omega
      · have hk0 : 0 < k := by omega
        have hk0I : (0 : Int) < (k : Int) := by omega
        have hd0 : decide ((0 : Int) < (k : Int)) = true := by simpa using hk0
        have hc1 : s.size + 1 ≤ 9223372036854775807 := by omega
        have hc2 : s.size + 1 + x.size ≤ 9223372036854775807 := by omega
        have hc3 : (s ++ ⟨#[47]⟩).size + x.size ≤ 9223372036854775807 := by
          have : (s ++ (⟨#[47]⟩ : ByteArray)).size = s.size + 1 := by rw [ByteArray.size_append]; rfl
          omega
        have HK : Hid (s ++ ⟨#[47]⟩ ++ x = mkS (jn ((xs.map (·.data.toList)).take (k + 1)))) := Lib.hid (by
          rw [HJ.out, if_neg h0, HX.out, HI.out, show (⟨#[47]⟩ : ByteArray) = mkS [47] from rfl, ← mkS_of x, mkS_app, mkS_app]
          simp; rfl)
        have hsz2 : (s ++ ⟨#[47]⟩ ++ x).size ≤ (k + 1) * 1001 := by
          have : (s ++ (⟨#[47]⟩ : ByteArray) ++ x).size = s.size + 1 + x.size := by rw [ByteArray.size_append, ByteArray.size_append]; rfl
          omega
        have Hs2 := Lib.hid hsz2
        clear hsz2 h0
        go_wp2
        go_round
        case rel => exact ⟨k + 1, s ++ ⟨#[47]⟩ ++ x, by omega, by go_num, rfl, HK, Hs2.out⟩
        case measure => simp [intOf]; omega
    · have hke : k = xs.length := by omega
      subst hke
      have HE : Hid (s = joinS xs) := Lib.hid (by rw [HI.out, List.take_of_length_le (by simp)]; rfl)
      go_wp2
      go_ret
      exact ⟨ret_str HE.out, rfl⟩

/-- A path made of any numbers. -/
def madeN (l : List Int) : List ByteArray := (l.take 6).map nameOf
def madeP (l : List Int) : ByteArray := joinS (madeN l)
theorem madeN_ok (l : List Int) : ∀ x ∈ madeN l, nameB x = true := fun x hx => by
  obtain ⟨n, _, rfl⟩ := List.mem_map.1 hx
  exact nameOf_ok n
theorem madeN_len (l : List Int) : (madeN l).length ≤ 6 := by unfold madeN; rw [List.length_map, List.length_take]; omega
theorem pieces_made (l : List Int) : pieces (madeP l) = madeN l := pieces_join (madeN_ok l)
theorem joinS_size (xs : List ByteArray) (m : Nat) (h : ∀ x ∈ xs, x.size ≤ m) : (joinS xs).size ≤ xs.length * (m + 1) := by
  have := jn_len m (xs.map (·.data.toList)) (fun x hx => by
    obtain ⟨y, hy, rfl⟩ := List.mem_map.1 hx
    exact h y hy)
  rw [List.length_map] at this
  exact this
theorem madeP_size (l : List Int) : (madeP l).size ≤ 150 := by
  have h1 := joinS_size (madeN l) 24 (fun x hx => (nameB_no47 (madeN_ok l x hx)).2.2)
  have h2 := madeN_len l
  unfold madeP; omega

set_option maxHeartbeats 1000000 in
theorem made_any (l : List Int) (v : Value) (L : Live) (w : World) (hS : SliceR Rp.i64 L w l v) :
    Calls Try.prog 21 #[v] w fun e w' => e = .returned (.string (madeP l)) ∧ Below w.heap.size w w' := by
  obtain ⟨A, c, rfl, hnc, hn1, hn2⟩ := hS.form
  have HS := Lib.hid hS; clear hS
  go_enter Try.func21, Try.ntmps21
  go_wp2
  go_loopw [3, 4] (fun v i wr => ∃ (k : Nat) (xs : List ByteArray), k ≤ l.length ∧ k ≤ 6 ∧ i = .int .i64 k ∧ xs.length ≤ k ∧ Hid (xs = (l.take k).map nameOf) ∧ SL wr w.heap.size v xs ∧ Below w.heap.size w wr) (fun _ i _ => l.length - (intOf i).toNat)
  case atStart => exact ⟨0, [], Nat.zero_le _, Nat.zero_le _, rfl, Nat.le_refl _, Lib.hid rfl, SL.nil _ _, Below.refl _ _⟩
  case round =>
    obtain ⟨k, xs, hk, hk6, rfl, hxl, HX, hS, hB⟩ := hrel
    obtain ⟨Ap, cp, rfl, _, _⟩ := hS.form
    have hB' := hB.size
    have Hv := Lib.hid hS
    have HB := Lib.hid hB
    clear hS hB
    have hcase : (decide ((k : Int) < (l.length : Int)) = true ∧ decide ((k : Int) < 6) = true ∧ k < l.length ∧ k < 6) ∨ (((decide ((k : Int) < (l.length : Int)) = true ∧ decide ((k : Int) < 6) = false ∧ 6 ≤ (k : Int) ∧ (k : Int) < (l.length : Int)) ∨ (decide ((k : Int) < (l.length : Int)) = false ∧ (l.length : Int) ≤ (k : Int)))) := by
      by_cases h : k < l.length
      · by_cases h8 : k < 6
        · exact .inl ⟨by simpa using h, by simp; omega, h, h8⟩
        · exact .inr (.inl ⟨by simpa using h, by simp; omega, by omega, by omega⟩)
      · exact .inr (.inr ⟨by simpa using h, by omega⟩)
    rcases hcase with ⟨d1, d2, hlt, hlt6⟩ | hend
    · obtain ⟨b, off, rfl, d0, hb1, hb2⟩ := ints_at HS.out k hlt
      have c0 := (HB.out.cell (World.block_lt_of_cell? w _ d0)).trans d0
      have hkI : (k : Int) < (l.length : Int) := by omega
      have HT : Hid (xs ++ [nameOf l[k]] = (l.take (k + 1)).map nameOf) := Lib.hid (by rw [List.take_succ_eq_append_getElem hlt, List.map_append, HX.out]; rfl)
      obtain ⟨nm, hnm⟩ : ∃ nm, nm = nameOf l[k] := ⟨_, rfl⟩
      rw [← hnm] at HT
      have Hnm := Lib.hid hnm
      clear d0 hnm
      go_wp2_with fail
      refine (nameof_any l[k] wr hb1 hb2).mono ?_
      rintro e w1 ⟨rfl, x1⟩
      rw [← Hnm.out]
      have Hv1 := Lib.hid (Hv.out.below x1)
      have X1 := Lib.hid (HB.out.trans (x1.mono hB'))
      have X1s := X1.out.size
      clear x1 c0
      go_wp2_with (at_builtin; refine wpList_appB rfl (.tmp 15) (.tmp 21) 40 9 rfl w.heap.size _ 1 16 Try.underlying40 Try.infoStr rfl (by decide) _ _ rfl _ rfl xs.length (strV xs) ?c1 1 [.string nm] ?c2 ?c3 ?c4 ?c5 ?_)
      case c1 => exact Blk.below Hv1.out ((Below.refl _ w1).alloc (Nat.le_refl _) _)
      case c2 => exact Src.new w1 9 1 1 1 [_] rfl
      case c3 => first | exact strV_one [nm] | rfl
      case c4 => omega
      case c5 => first | omega | (simp; omega)
      intro v2 w2 hB2 hg2 _
      have HS2 := Lib.hid (SL.snoc rfl hB2)
      have HB2 : Hid (Below w.heap.size w w2) := Lib.hid ((X1.out.alloc X1s _).grown hg2 (by simp; omega) (fun k hk => (Blk.lt Hv1.out k hk).1))
      clear hB2 hg2
      go_wp2
      go_roundw
      case rel => exact ⟨k + 1, xs ++ [nm], by omega, by omega, by go_num, by simp; omega, HT, HS2.out, HB2.out⟩
      case measure => simp [intOf]; omega
    · have HE : Hid (xs = madeN l) := Lib.hid (by
        rw [HX.out]
        unfold madeN
        rcases hend with ⟨_, _, h, _⟩ | ⟨_, h⟩
        · rw [show k = 6 from by omega]
        · rw [List.take_of_length_le (by omega), List.take_of_length_le (by omega)])
      have HO : Hid (∀ x ∈ xs, x.size ≤ 1000) := Lib.hid (fun x hx => Nat.le_trans (nameB_no47 (madeN_ok l x (by rw [← HE.out]; exact hx))).2.2 (by decide))
      rcases hend with ⟨d1, d2, d3, d4⟩ | ⟨d1, d3⟩
      all_goals
        go_wp2_with fail
        refine (rjoin_any _ _ _ wr Hv.out (by omega) HO.out).mono ?_
        rintro e w1 ⟨rfl, rfl⟩
        go_wp2
        go_ret
        exact ⟨ret_str (by rw [HE.out]; rfl), HB.out⟩

end Go.Proofs.Ytojcciciinklbaa
