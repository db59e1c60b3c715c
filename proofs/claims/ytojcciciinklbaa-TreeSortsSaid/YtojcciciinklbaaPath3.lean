/- Walks: a path's pieces, as the document says them. No claim by itself. -/
import Derived.Test.YtojcciciinklbaaPath2
import Derived.Lib.Strings
set_option linter.unusedSimpArgs false
set_option linter.unusedVariables false
namespace Go.Proofs.Ytojcciciinklbaa
open Go.RowKit

/-- Texts, as cells. -/
def strV (xs : List ByteArray) : List Value := xs.map .string
theorem strV_length (xs : List ByteArray) : (strV xs).length = xs.length := by simp [strV]
theorem strV_append (xs ys : List ByteArray) : strV (xs ++ ys) = strV xs ++ strV ys := by simp [strV]
theorem strV_one (xs : List ByteArray) : ∀ u ∈ strV xs, u.oneCell' = true := by
  intro u hu
  obtain ⟨x, _, rfl⟩ := List.mem_map.1 hu
  rfl
theorem Try.infoStr : (Try.prog.info? 9).map (fun i => (i.zero, i.size, i.bytes)) = some (some (.string ⟨#[]⟩), 1, 16) := by kernel_rfl
/-- A list of texts in a row of its own. -/
def SL (w : World) (base : Nat) (v : Value) (xs : List ByteArray) : Prop := Blk w base 9 1 v xs.length (strV xs)
theorem SL.at_ {w : World} {base : Nat} {v : Value} {xs : List ByteArray} (h : SL w base v xs) (hn : 0 < xs.length) : ∃ r cap, v = .slice (some ⟨r, 0, none⟩) xs.length cap ∧ base ≤ r ∧ r < w.heap.size ∧ xs.length ≤ cap ∧ cap ≤ 9223372036854775807 ∧
    ∀ (i : Nat) (hi : i < xs.length), w.cell? ⟨r, i, none⟩ = some (.string xs[i]) := by
  obtain ⟨g, cap, cur, fr, rfl, hb, hh, hf, h1, h2, h3, hc⟩ := Blk.row h hn
  exact ⟨g, cap, rfl, hb, (Array.getElem?_eq_some_iff.1 hh).1, h1, h2, fun i hi => hc i _ (by simp [strV, List.getElem?_eq_getElem hi])⟩
theorem SL.nil (w : World) (base : Nat) : SL w base (.slice none 0 0) [] := Blk.nil w base _ 1
theorem SL.below {w w' : World} {base : Nat} {v : Value} {xs : List ByteArray} (h : SL w base v xs) (hb : Below w.heap.size w w') : SL w' base v xs := Blk.below h hb
theorem SL.lower {w : World} {base base' : Nat} {v : Value} {xs : List ByteArray} (h : SL w base v xs) (hb : base' ≤ base) : SL w base' v xs := Blk.lower h hb
theorem SL.snoc {w : World} {base : Nat} {v : Value} {xs : List ByteArray} {n : Nat} {x : ByteArray} (hn : xs.length = n) (h : Blk w base 9 1 v (n + 1) (strV xs ++ [.string x])) : SL w base v (xs ++ [x]) := by
  subst hn
  unfold SL
  rw [List.length_append, strV_append]
  exact h

/-- What stands between the bytes 47. -/
def spl (cur : List UInt8) : List UInt8 → List (List UInt8)
  | [] => [cur]
  | c :: r => if c = 47 then cur :: spl [] r else spl (cur ++ [c]) r
theorem spl_hit (cur r : List UInt8) : spl cur (47 :: r) = cur :: spl [] r := by simp [spl]
theorem spl_miss (cur r : List UInt8) (c : UInt8) (h : c ≠ 47) : spl cur (c :: r) = spl (cur ++ [c]) r := by simp [spl, h]
/-- A path's pieces. -/
def pieces (p : ByteArray) : List ByteArray := if p = ⟨#[]⟩ then [] else (spl [] p.data.toList).map mkS
theorem drop_at (s : ByteArray) (k : Nat) (h : k < s.size) : s.data.toList.drop k = s.data.toList.getD k 0 :: s.data.toList.drop (k + 1) := by
  have hl : k < s.data.toList.length := h
  rw [List.drop_eq_getElem_cons hl]
  simp [List.getD, List.getElem?_eq_getElem hl]
theorem extract_one (s : ByteArray) (k : Nat) (h : k < s.size) (cur : List UInt8) : mkS cur ++ s.extract k (k + 1) = mkS (cur ++ [s.data.toList.getD k 0]) := by
  have hl : k < s.data.toList.length := h
  apply Go.WideShapes.bytes_inj
  rw [ByteArray.data_append]
  rw [Array.toList_append, Lib.extract_data]
  simp only [mkS]
  rw [show k + 1 - k = 1 from by omega]
  rw [List.drop_eq_getElem_cons hl]
  simp [List.getD, List.getElem?_eq_getElem hl]

theorem pieces_nil : pieces ⟨#[]⟩ = [] := rfl

set_option maxHeartbeats 2000000 in
theorem rpieces_any (p : ByteArray) (w : World) (hp : p.size ≤ 1000000) :
    Calls Try.prog 78 #[.string p] w fun e w' => ∃ v, e = .returned v ∧ SL w' w.heap.size v (pieces p) ∧ Below w.heap.size w w' := by
  by_cases he : p = ⟨#[]⟩
  · subst he
    go_enter Try.func78, Try.ntmps78
    go_wp2
    go_ret
    exact ⟨_, rfl, SL.nil _ _, Below.refl _ _⟩
  have q0 := toL_emp he
  have n0 : ¬ p.toList = [] := fun e => he ((toL_eq p []).1 e)
  have Hp : Hid (pieces p = (spl [] p.data.toList).map mkS) := Lib.hid (by unfold pieces; rw [if_neg he])
  clear he
  go_enter Try.func78, Try.ntmps78
  go_wp2
  go_loopw [3, 4, 5] (fun v t i wr => ∃ (k : Nat) (xs : List ByteArray) (cur : List UInt8), k ≤ p.size ∧ i = .int .i64 k ∧ t = .string (mkS cur) ∧ cur.length ≤ k ∧ xs.length ≤ k ∧ Hid (xs ++ (spl cur (p.data.toList.drop k)).map mkS = pieces p) ∧ SL wr w.heap.size v xs ∧ Below w.heap.size w wr) (fun _ _ i _ => p.size - (intOf i).toNat)
  case atStart => exact ⟨0, [], [], Nat.zero_le _, rfl, rfl, Nat.le_refl _, Nat.le_refl _, Lib.hid (by rw [Hp.out]; rfl), SL.nil _ _, Below.refl _ _⟩
  case round =>
    obtain ⟨k, xs, cur, hk, rfl, rfl, hcur, hxs, HI, hS, hB⟩ := hrel
    obtain ⟨A, c, rfl, hc1, hc2⟩ := hS.form
    have HS := Lib.hid hS
    have HB := Lib.hid hB
    have hsz : (mkS cur).size = cur.length := rfl
    have Hsz := Lib.hid hsz
    have hb := hB.size
    clear hS hB hsz
    by_cases hlt : k < p.size
    · have hkI : (k : Int) < (p.size : Int) := by omega
      obtain ⟨ch, hch⟩ : ∃ c, p[k]'hlt = c := ⟨_, rfl⟩
      have Hch : Hid (p.data.toList.getD k 0 = ch) := Lib.hid (by rw [← hch, idx_getD])
      by_cases h1 : ch = 47
      · subst h1
        go_wp2_with (at_builtin; refine wpList_appB rfl (.tmp 18) (.tmp 20) 40 9 rfl w.heap.size _ 1 16 Try.underlying40 Try.infoStr rfl (by decide) _ _ rfl _ rfl xs.length (strV xs) ?c1 1 [.string (mkS cur)] ?c2 ?c3 ?c4 ?c5 ?_)
        case c1 => exact Blk.below HS.out ((Below.refl _ wr).alloc (Nat.le_refl _) _)
        case c2 => exact Src.new wr 9 1 1 1 [_] rfl
        case c3 => exact strV_one [mkS cur]
        case c4 => omega
        case c5 => simp; omega
        intro v1 w1 hB1 hg1 _
        have HS1 := Lib.hid (SL.snoc rfl hB1)
        have HB1 : Hid (Below w.heap.size w w1) := Lib.hid ((HB.out.alloc hb _).grown hg1 (by simp; omega) (fun k hk => (Blk.lt HS.out k hk).1))
        have HI1 : Hid ((xs ++ [mkS cur]) ++ (spl [] (p.data.toList.drop (k + 1))).map mkS = pieces p) := Lib.hid (by rw [← HI.out, drop_at p k hlt, Hch.out, spl_hit]; simp)
        clear hB1 hg1
        go_wp2
        go_roundw
        case rel => exact ⟨k + 1, xs ++ [mkS cur], [], by omega, by go_num, rfl, by simp, by simp; omega, HI1, HS1.out, HB1.out⟩
        case measure => simp [intOf]; omega
      · have d1 : ((ch.toNat : Int) == 47) = false := beq_eq_false_iff_ne.2 fun e => h1 (UInt8.toNat_inj.1 (by have : (47 : UInt8).toNat = 47 := rfl; omega))
        have HI1 : Hid (xs ++ (spl (cur ++ [ch]) (p.data.toList.drop (k + 1))).map mkS = pieces p) := Lib.hid (by rw [← HI.out, drop_at p k hlt, Hch.out, spl_miss _ _ _ h1])
        have HX : Hid (mkS cur ++ p.extract k (k + 1) = mkS (cur ++ [ch])) := Lib.hid (by rw [extract_one p k hlt, Hch.out])
        have hcat : (mkS cur).size + (min (k + 1) p.size - k) ≤ 9223372036854775807 := by rw [Hsz.out]; omega
        clear h1
        go_wp2
        go_roundw
        case rel => exact ⟨k + 1, xs, cur ++ [ch], by omega, by go_num, by first | rw [HX.out] | rw [← HX.out], by simp; omega, by omega, HI1, HS.out, HB.out⟩
        case measure => simp [intOf]; omega
    · have hge : ¬ ((k : Int) < (p.size : Int)) := by omega
      have HE : Hid (xs ++ [mkS cur] = pieces p) := Lib.hid (by rw [← HI.out, List.drop_of_length_le (by rw [show p.data.toList.length = p.size from rfl]; omega)]; rfl)
      go_wp2_with (at_builtin; refine wpList_appB rfl (.tmp 29) (.tmp 31) 40 9 rfl w.heap.size _ 1 16 Try.underlying40 Try.infoStr rfl (by decide) _ _ rfl _ rfl xs.length (strV xs) ?d1 1 [.string (mkS cur)] ?d2 ?d3 ?d4 ?d5 ?_)
      case d1 => exact Blk.below HS.out ((Below.refl _ wr).alloc (Nat.le_refl _) _)
      case d2 => exact Src.new wr 9 1 1 1 [_] rfl
      case d3 => first | exact strV_one [mkS cur] | rfl
      case d4 => omega
      case d5 => first | omega | (simp; omega)
      intro v1 w1 hB1 hg1 _
      have HS1 := Lib.hid (SL.snoc rfl hB1)
      have HB1 : Hid (Below w.heap.size w w1) := Lib.hid ((HB.out.alloc hb _).grown hg1 (by simp; omega) (fun k hk => (Blk.lt HS.out k hk).1))
      clear hB1 hg1
      go_wp2
      go_ret
      exact ⟨_, rfl, by rw [← HE.out]; exact HS1.out, HB1.out⟩
end Go.Proofs.Ytojcciciinklbaa
