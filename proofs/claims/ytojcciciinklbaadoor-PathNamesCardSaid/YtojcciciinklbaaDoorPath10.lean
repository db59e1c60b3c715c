/- Walks: names of a small world, paths made of them; the path's example. No claim by itself. -/
import Derived.Test.YtojcciciinklbaaDoorPath9
set_option linter.unusedSimpArgs false
set_option linter.unusedVariables false
namespace Go.Proofs.YtojcciciinklbaaDoor
open Go.RowKit

/-- The names of the small world. -/
def names10 : List ByteArray := [⟨#[97]⟩, ⟨#[98]⟩, ⟨#[97, 98]⟩, ⟨#[97, 46, 98]⟩, ⟨#[97, 45]⟩, ⟨#[122]⟩, ⟨#[66]⟩, ⟨#[46, 46, 46]⟩, ⟨#[97, 32, 98]⟩, ⟨#[97, 97, 97, 97, 97, 97, 97, 97, 97, 97, 97, 97, 97, 97, 97, 97, 97, 97, 97, 97, 97, 97, 97, 97]⟩]
def nameOf (n : Int) : ByteArray := names10.getD (around n 10).toNat ⟨#[]⟩
theorem names10_ok : ∀ x ∈ names10, nameB x = true := by decide +kernel
theorem nameOf_mem (n : Int) : nameOf n ∈ names10 := by
  have h := around_range n 10 (by decide)
  have : (around n 10).toNat < names10.length := by show _ < 10; omega
  unfold nameOf
  rw [List.getD, List.getElem?_eq_getElem this]
  exact List.getElem_mem this
theorem nameOf_ok (n : Int) : nameB (nameOf n) = true := names10_ok _ (nameOf_mem n)

theorem ints_at {L : Live} {w : World} {xs : List Int} {A : Option Addr} {n c : Nat} (h : SliceR Rp.i64 L w xs (.slice A n c)) (i : Nat) (hi : i < xs.length) : ∃ b off, A = some ⟨b, off, none⟩ ∧ w.cell? ⟨b, off + i, none⟩ = some (.int .i64 xs[i]) ∧ -9223372036854775808 ≤ xs[i] ∧ xs[i] ≤ 9223372036854775807 := by
  obtain ⟨b, off, cs, hA, ⟨rfl, hb⟩, hc⟩ := h.get (by decide) i hi
  have := (hc 0 _ rfl).1
  have e : off + i * Rp.i64.sz + 0 = off + i := by show off + i * 1 + 0 = _; omega
  rw [e] at this
  exact ⟨b, off, hA, this, hb⟩

set_option maxHeartbeats 1000000 in
theorem nameof_any (n : Int) (w : World) (h1 : -9223372036854775808 ≤ n) (h2 : n ≤ 9223372036854775807) :
    Calls Tryd.prog 21 #[.int .i64 n] w fun e w' => e = .returned (.string (nameOf n)) ∧ Below w.heap.size w w' := by
  have hr := around_range n 10 (by decide)
  obtain ⟨k, hk⟩ := Int.eq_ofNat_of_zero_le hr.1
  have hk10 : k < 10 := by omega
  have HE : Hid (names10[k]? = some (nameOf n)) := Lib.hid (by
    unfold nameOf
    rw [hk, Int.toNat_natCast, List.getD, List.getElem?_eq_getElem (show k < names10.length from hk10)]; rfl)
  have Hk := Lib.hid hk
  clear hr hk
  go_enter Tryd.func21, Tryd.ntmps21
  go_wp2_with fail
  refine (around_any n 10 _ h1 h2 (by decide) (by decide)).mono ?_
  rintro e w1 ⟨rfl, rfl⟩
  rw [Hk.out]
  have hcase : k = 0 ∨ k = 1 ∨ k = 2 ∨ k = 3 ∨ k = 4 ∨ k = 5 ∨ k = 6 ∨ k = 7 ∨ k = 8 ∨ k = 9 := by omega
  rcases hcase with rfl | rfl | rfl | rfl | rfl | rfl | rfl | rfl | rfl | rfl
  all_goals
    go_wp2
    go_ret
    exact ⟨ret_str (Option.some.inj HE.out), (Below.refl _ _).alloc (Nat.le_refl _) _⟩

/-- A path made of any numbers. -/
def madeN (l : List Int) : List ByteArray := (l.take 6).map nameOf
def madeP (l : List Int) : ByteArray := joinS (madeN l)
theorem madeN_ok (l : List Int) : ∀ x ∈ madeN l, nameB x = true := fun x hx => by
  obtain ⟨n, _, rfl⟩ := List.mem_map.1 hx
  exact nameOf_ok n
theorem madeN_len (l : List Int) : (madeN l).length ≤ 6 := by unfold madeN; rw [List.length_map, List.length_take]; omega
theorem pieces_made (l : List Int) : pieces (madeP l) = madeN l := pieces_join (madeN_ok l)
theorem joinS_size (xs : List ByteArray) (m : Nat) (h : ∀ x ∈ xs, x.size ≤ m) : (joinS xs).size ≤ xs.length * (m + 1) := by
  have := jn_len m (xs.map (·.data.toList)) (fun x hx => by
    obtain ⟨y, hy, rfl⟩ := List.mem_map.1 hx
    exact h y hy)
  rw [List.length_map] at this
  exact this
theorem madeP_size (l : List Int) : (madeP l).size ≤ 150 := by
  have h1 := joinS_size (madeN l) 24 (fun x hx => (nameB_no47 (madeN_ok l x hx)).2.2)
  have h2 := madeN_len l
  unfold madeP; omega

set_option maxHeartbeats 1000000 in
theorem made_any (l : List Int) (v : Value) (L : Live) (w : World) (hS : SliceR Rp.i64 L w l v) :
    Calls Tryd.prog 16 #[v] w fun e w' => e = .returned (.string (madeP l)) ∧ Below w.heap.size w w' := by
  obtain ⟨A, c, rfl, hnc, hn1, hn2⟩ := hS.form
  have HS := Lib.hid hS; clear hS
  go_enter Tryd.func16, Tryd.ntmps16
  go_wp2
  go_loopw [3, 4] (fun v i wr => ∃ (k : Nat) (xs : List ByteArray), k ≤ l.length ∧ k ≤ 6 ∧ i = .int .i64 k ∧ xs.length ≤ k ∧ Hid (xs = (l.take k).map nameOf) ∧ SL wr w.heap.size v xs ∧ Below w.heap.size w wr) (fun _ i _ => l.length - (intOf i).toNat)
  case atStart => exact ⟨0, [], Nat.zero_le _, Nat.zero_le _, rfl, Nat.le_refl _, Lib.hid rfl, SL.nil _ _, Below.refl _ _⟩
  case round =>
    obtain ⟨k, xs, hk, hk6, rfl, hxl, HX, hS, hB⟩ := hrel
    obtain ⟨Ap, cp, rfl, _, _⟩ := hS.form
    have hB' := hB.size
    have Hv := Lib.hid hS
    have HB := Lib.hid hB
    clear hS hB
    have hcase : (decide ((k : Int) < (l.length : Int)) = true ∧ decide ((k : Int) < 6) = true ∧ k < l.length ∧ k < 6) ∨ (((decide ((k : Int) < (l.length : Int)) = true ∧ decide ((k : Int) < 6) = false ∧ 6 ≤ (k : Int) ∧ (k : Int) < (l.length : Int)) ∨ (decide ((k : Int) < (l.length : Int)) = false ∧ (l.length : Int) ≤ (k : Int)))) := by
      by_cases h : k < l.length
      · by_cases h8 : k < 6
        · exact .inl ⟨by simpa using h, by simp; omega, h, h8⟩
        · exact .inr (.inl ⟨by simpa using h, by simp; omega, by omega, by omega⟩)
      · exact .inr (.inr ⟨by simpa using h, by omega⟩)
    rcases hcase with ⟨d1, d2, hlt, hlt6⟩ | hend
    · obtain ⟨b, off, rfl, d0, hb1, hb2⟩ := ints_at HS.out k hlt
      have c0 := (HB.out.cell (World.block_lt_of_cell? w _ d0)).trans d0
      have hkI : (k : Int) < (l.length : Int) := by omega
      have HT : Hid (xs ++ [nameOf l[k]] = (l.take (k + 1)).map nameOf) := Lib.hid (by rw [List.take_succ_eq_append_getElem hlt, List.map_append, HX.out]; rfl)
      obtain ⟨nm, hnm⟩ : ∃ nm, nm = nameOf l[k] := ⟨_, rfl⟩
      rw [← hnm] at HT
      have Hnm := Lib.hid hnm
      clear d0 hnm
      go_wp2_with fail
      refine (nameof_any l[k] wr hb1 hb2).mono ?_
      rintro e w1 ⟨rfl, x1⟩
      rw [← Hnm.out]
      have Hv1 := Lib.hid (Hv.out.below x1)
      have X1 := Lib.hid (HB.out.trans (x1.mono hB'))
      have X1s := X1.out.size
      clear x1 c0
      go_wp2_with (at_builtin; refine wpList_appB rfl (.tmp 15) (.tmp 21) 26 9 rfl w.heap.size _ 1 16 Tryd.underlying26 Tryd.infoStr rfl (by decide) _ _ rfl _ rfl xs.length (strV xs) ?c1 1 [.string nm] ?c2 ?c3 ?c4 ?c5 ?_)
      case c1 => exact Blk.below Hv1.out ((Below.refl _ w1).alloc (Nat.le_refl _) _)
      case c2 => exact Src.new w1 9 1 1 1 [_] rfl
      case c3 => first | exact strV_one [nm] | rfl
      case c4 => omega
      case c5 => first | omega | (simp; omega)
      intro v2 w2 hB2 hg2 _
      have HS2 := Lib.hid (SL.snoc rfl hB2)
      have HB2 : Hid (Below w.heap.size w w2) := Lib.hid ((X1.out.alloc X1s _).grown hg2 (by simp; omega) (fun k hk => (Blk.lt Hv1.out k hk).1))
      clear hB2 hg2
      go_wp2
      go_roundw
      case rel => exact ⟨k + 1, xs ++ [nm], by omega, by omega, by go_num, by simp; omega, HT, HS2.out, HB2.out⟩
      case measure => simp [intOf]; omega
    · have HE : Hid (xs = madeN l) := Lib.hid (by
        rw [HX.out]
        unfold madeN
        rcases hend with ⟨_, _, h, _⟩ | ⟨_, h⟩
        · rw [show k = 6 from by omega]
        · rw [List.take_of_length_le (by omega), List.take_of_length_le (by omega)])
      have HO : Hid (∀ x ∈ xs, x.size ≤ 1000) := Lib.hid (fun x hx => Nat.le_trans (nameB_no47 (madeN_ok l x (by rw [← HE.out]; exact hx))).2.2 (by decide))
      rcases hend with ⟨d1, d2, d3, d4⟩ | ⟨d1, d3⟩
      all_goals
        go_wp2_with fail
        refine (rjoin_any _ _ _ wr Hv.out (by omega) HO.out).mono ?_
        rintro e w1 ⟨rfl, rfl⟩
        go_wp2
        go_ret
        exact ⟨ret_str (by rw [HE.out]; rfl), HB.out⟩

set_option maxHeartbeats 1000000 in
theorem plives_any (w : World) :
    Calls Tryd.prog 15 #[] w fun e w' => e = .returned (.bool true) ∧ Below w.heap.size w w' := by
  have e1 : cmpP (pieces ⟨#[97, 47, 98]⟩) (pieces ⟨#[97, 46, 98]⟩) = -1 := by decide +kernel
  have e2 : nameB ⟨#[97, 46, 98]⟩ = true := by decide +kernel
  have e3 : joinS [⟨#[97]⟩, ⟨#[98]⟩] = ⟨#[97, 47, 98]⟩ := by decide +kernel
  have H1 := Lib.hid e1; have H2 := Lib.hid e2; have H3 := Lib.hid e3
  clear e1 e2 e3
  go_enter Tryd.func15, Tryd.ntmps15
  go_wp2_with fail
  refine (pcompare_any _ _ w (by decide) (by decide)).mono ?_
  rintro e w1 ⟨rfl, x1⟩
  rw [H1.out]
  have X1 := Lib.hid x1; clear x1
  go_wp2_with fail
  refine (name_any _ w1).mono ?_
  rintro e w2 ⟨rfl, x2⟩
  rw [H2.out]
  have X2 := Lib.hid (X1.out.trans (x2.mono X1.out.size)); clear x2
  have hs2 := X2.out.size
  go_wp2_with fail
  refine (pjoin_any w2.heap.size _ [⟨#[97]⟩, ⟨#[98]⟩] _ ⟨rfl, .inr ⟨w2.heap.size, 2, _, (0, 0), rfl, Nat.le_refl _, heap_alloc_new w2 _, .inl rfl, Nat.le_refl _, by decide, by simp, rfl⟩⟩ (by decide) (by decide)).mono ?_
  rintro e w3 ⟨rfl, x3⟩
  rw [H3.out]
  have X3 := Lib.hid (((X2.out).alloc hs2 _).trans (x3.mono (by simp; omega)))
  clear x3
  go_wp2
  go_ret
  exact ⟨rfl, X3.out⟩
end Go.Proofs.YtojcciciinklbaaDoor
