/- Walks: a text cut at its first '/'; the node of a path. No claim by itself. -/
import Derived.Test.YtojcciciinklbaaTree3
import Derived.Test.YtojcciciinklbaaTree6
import Derived.Test.YtojcciciinklbaaRef7
import Derived.Test.YtojcciciinklbaaShelf
import Derived.Lib.IndexLaws
set_option linter.unusedSimpArgs false
set_option linter.unusedVariables false
namespace Go.Proofs.Ytojcciciinklbaa
open Go.RowKit

/-- What stands ahead of the first '/', what behind it, and whether there is one. -/
def cutA (s : ByteArray) : ByteArray := mkS (s.data.toList.takeWhile fun c => decide (c ≠ 47))
def cutR (s : ByteArray) : List UInt8 := s.data.toList.dropWhile fun c => decide (c ≠ 47)
def cutB (s : ByteArray) : ByteArray := mkS ((cutR s).drop 1)
def cutM (s : ByteArray) : Bool := !(cutR s).isEmpty

theorem tw_all {l : List UInt8} (h : ∀ k : Nat, l[k]? ≠ some 47) : (l.takeWhile fun c => decide (c ≠ 47)) = l ∧ (l.dropWhile fun c => decide (c ≠ 47)) = [] := by
  induction l with
  | nil => simp
  | cons b l ih =>
    have hb : b ≠ 47 := fun e => h 0 (by simp [e])
    obtain ⟨h1, h2⟩ := ih fun k => by have := h (k + 1); simpa using this
    simp [List.takeWhile_cons, List.dropWhile_cons, hb] at h1 h2 ⊢
    exact ⟨h1, h2⟩
theorem tw_at {l : List UInt8} {o : Nat} (h0 : l[o]? = some 47) (h : ∀ k : Nat, k < o → l[k]? ≠ some 47) : (l.takeWhile fun c => decide (c ≠ 47)) = l.take o ∧ (l.dropWhile fun c => decide (c ≠ 47)) = l.drop o := by
  induction l generalizing o with
  | nil => simp at h0
  | cons b l ih =>
    cases o with
    | zero => simp at h0; simp [List.takeWhile_cons, List.dropWhile_cons, h0]
    | succ o =>
      have hb : b ≠ 47 := fun e => h 0 (by omega) (by simp [e])
      obtain ⟨h1, h2⟩ := ih (o := o) (by simpa using h0) fun k hk => by have := h (k + 1) (by omega); simpa using this
      simp [List.takeWhile_cons, List.dropWhile_cons, hb] at h1 h2 ⊢
      exact ⟨h1, h2⟩
theorem mkS_self (s : ByteArray) : mkS s.data.toList = s := rfl
theorem cut_none {s : ByteArray} (h : Lib.indexByte s.data.toList 47 = -1) : cutA s = s ∧ cutB s = ⟨#[]⟩ ∧ cutM s = false := by
  obtain ⟨h1, h2⟩ := tw_all (Lib.indexByte_none h)
  refine ⟨?_, ?_, ?_⟩
  · unfold cutA; rw [h1]; rfl
  · unfold cutB cutR; rw [h2]; rfl
  · unfold cutM cutR; rw [h2]; rfl
theorem cut_some {s : ByteArray} {o : Nat} (h : Lib.indexByte s.data.toList 47 = o) : cutA s = s.extract 0 o ∧ cutB s = s.extract (o + 1) s.size ∧ cutM s = true ∧ o < s.size := by
  obtain ⟨h0, hk⟩ := Lib.indexByte_some h
  obtain ⟨h1, h2⟩ := tw_at h0 hk
  have hlt : o < s.size := by have := (List.getElem?_eq_some_iff.1 h0).1; exact this
  refine ⟨?_, ?_, ?_, hlt⟩
  · unfold cutA; rw [h1]; apply Go.WideShapes.bytes_inj; rw [Lib.extract_data]; rfl
  · unfold cutB cutR; rw [h2]; apply Go.WideShapes.bytes_inj; rw [Lib.extract_data]
    show (((s.data.toList.drop o).drop 1)).toArray.toList = _
    rw [List.drop_drop]
    simp only [List.toList_toArray]
    rw [List.take_of_length_le (by rw [List.length_drop]; show s.size - (o + 1) ≤ _; omega)]
  · unfold cutM cutR; rw [h2]
    cases hd : s.data.toList.drop o with
    | nil => have := congrArg List.length hd; rw [List.length_drop] at this; have hs : s.data.toList.length = s.size := rfl; simp at this; omega
    | cons _ _ => rfl
theorem cutB_size (s : ByteArray) : (cutB s).size ≤ s.size := by
  unfold cutB cutR
  rw [mkS_size, List.length_drop]
  have : s.data.toList.length = s.size := rfl
  have h2 := (List.dropWhile_sublist (l := s.data.toList) (fun c => decide (c ≠ 47))).length_le
  omega

theorem slcut_any (s : ByteArray) (w : World) (hs : s.size ≤ big) :
    Calls Try.prog 79 #[.string s, .string ⟨#[47]⟩] w fun e w' => e = .returned (.tuple #[.string (cutA s), .string (cutB s), .bool (cutM s)]) ∧ Below w.heap.size w w' := by
  unfold big at hs
  go_enter Try.func79, Try.ntmps79
  go_wp2_with fail
  refine (Try.stringslite_Index_one s 47 w).mono ?_
  rintro e w1 ⟨rfl, rfl⟩
  have hge := Lib.indexByte_ge s.data.toList 47
  by_cases h : Lib.indexByte s.data.toList 47 = -1
  · obtain ⟨h1, h2, h3⟩ := cut_none h
    have H1 := Lib.hid h1; have H2 := Lib.hid h2; have H3 := Lib.hid h3
    rw [h]
    clear h h1 h2 h3 hge
    go_wp2_with fail
    go_ret3
    exact ⟨by rw [H1.out, H2.out, H3.out]; rfl, Below.refl _ _⟩
  · obtain ⟨o, ho⟩ : ∃ o : Nat, Lib.indexByte s.data.toList 47 = (o : Int) := ⟨(Lib.indexByte s.data.toList 47).toNat, by omega⟩
    obtain ⟨h1, h2, h3, h4⟩ := cut_some ho
    have H1 := Lib.hid h1; have H2 := Lib.hid h2; have H3 := Lib.hid h3
    rw [ho]
    have e1 : (1 : Int) ≤ (s.size : Int) := by omega
    have e2 : IntKind.i64.wrap ((o : Int) + 1) = (o : Int) + 1 := IntWalk.i64_in _ (by omega)
    have e3 : ((o : Int) + 1) ≤ (s.size : Int) := by omega
    have e4 : ((o : Int) + 1).toNat = o + 1 := by omega
    have e5 : (0 : Int) ≤ (o : Int) + 1 := by omega
    have e6 : (o : Int) ≤ (s.size : Int) := by omega
    clear h h1 h2 h3 hge ho
    go_wp2
    go_quiet (fail)
    go_wp2
    go_ret3
    exact ⟨by rw [H1.out, H2.out, H3.out]; rfl, by first | exact (Below.refl _ _).drew | exact (Below.refl _ _).drewN _ | exact (Ext.drewN (Ext.refl (L := fun _ _ => False) (fun _ _ h => h.elim)) _).below⟩

theorem cut_any (s : ByteArray) (w : World) (hs : s.size ≤ big) :
    Calls Try.prog 49 #[.string s, .string ⟨#[47]⟩] w fun e w' => e = .returned (.tuple #[.string (cutA s), .string (cutB s), .bool (cutM s)]) ∧ Below w.heap.size w w' := by
  go_enter Try.func49, Try.ntmps49
  go_wp2_with fail
  refine (slcut_any s w hs).mono ?_
  rintro e w1 ⟨rfl, h1⟩
  go_wp2_with fail
  go_ret3
  exact ⟨rfl, h1⟩

mutual
/-- The node of a path. -/
def findN : Nd → ByteArray → Option Nd
  | .mk o ks, p => if p = ⟨#[]⟩ then some (.mk o ks) else findK ks p
def findK : List Nd → ByteArray → Option Nd
  | [], _ => none
  | .mk o ks :: r, p => if o.name = cutA p then (if cutM p = false then some (.mk o ks) else if cutB p = ⟨#[]⟩ then none else (findK ks (cutB p)).or (findK r p)) else findK r p
end
theorem findN_eq (x : Nd) (p : ByteArray) : findN x p = if p = ⟨#[]⟩ then some x else findK x.kids p := by cases x; rw [findN]; rfl
theorem findK_cons (x : Nd) (r : List Nd) (p : ByteArray) : findK (x :: r) p = if x.own.name = cutA p then (if cutM p = false then some x else if cutB p = ⟨#[]⟩ then none else (findN x (cutB p)).or (findK r p)) else findK r p := by
  cases x with
  | mk o ks =>
    rw [findK]
    show _ = if o.name = cutA p then _ else _
    split
    · split
      · rfl
      · split
        · rfl
        · rename_i h; rw [findN, if_neg h]
    · rfl
theorem findK_at {ks : List Nd} {k : Nat} (h : k < ks.length) (p : ByteArray) : findK (ks.drop k) p = if ks[k].own.name = cutA p then (if cutM p = false then some ks[k] else if cutB p = ⟨#[]⟩ then none else (findN ks[k] (cutB p)).or (findK (ks.drop (k + 1)) p)) else findK (ks.drop (k + 1)) p := by
  rw [List.drop_eq_getElem_cons h, findK_cons]

/-- No node. -/
def emptyN : Nd := .mk ⟨0, ⟨#[]⟩, 0, 0, 0, 0, [], ⟨#[]⟩, 0, 0, []⟩ []
theorem emptyN_R (n : Nat) (L : Live) (w : World) : (nodeR (n + 1)).R L w emptyN (nodeV emptyN.own (.slice none 0 0) (.slice none 0 0) (.slice none 0 0)) :=
  ⟨_, _, _, rfl, ⟨by unfold I64; decide, by unfold I64; decide, by unfold I64; decide, by unfold I64; decide, by unfold I64; decide, by unfold I64; decide, by unfold I64; decide, by decide, by decide⟩, SliceR.nil _ _ _, SliceR.nil _ _ _, SliceR.nil _ _ _⟩
end Go.Proofs.Ytojcciciinklbaa
