/- Walks: the document's nodes, made of any. No claim by itself. -/
import Derived.Test.YtojcciciinklbaaFlat5
import Derived.Deep.RegionHeld3
import Derived.Deep.CutRange
set_option linter.unusedSimpArgs false
set_option linter.unusedVariables false
namespace Go.Proofs.Ytojcciciinklbaa
open Go.RowKit

/-- An entry, as it lies. -/
def entR : Rp Ent where
  sz := 14
  R := fun L w e cs => ∃ vd va, cs = .int .i64 e.deep :: .string e.path :: nodeV e.own vd va (.slice none 0 0) ∧ e.deep ≤ 1000000 ∧ e.path.size ≤ big ∧ Fits e.own ∧ SliceR Rp.byte L w e.own.data vd ∧ SliceR attrR L w e.own.attrs va
  len := fun h => by obtain ⟨vd, va, rfl, _⟩ := h; rfl
  mono := fun hs h => by obtain ⟨vd, va, rfl, h1, h2, h3, h4, h5⟩ := h; exact ⟨vd, va, rfl, h1, h2, h3, h4.mono hs, h5.mono hs⟩
  one := fun h u hu => by
    obtain ⟨vd, va, rfl, h1, h2, h3, h4, h5⟩ := h
    rcases List.mem_cons.1 hu with rfl | hu
    · rfl
    · rcases List.mem_cons.1 hu with rfl | hu
      · rfl
      · exact nodeV_one (slice_one h4) (slice_one h5) rfl u hu
/-- What a node is made of, as it lies. -/
structure GFits (g : GV) : Prop where
  kind : I64 g.kind
  up : I64 g.up
  name : I64 g.name
  n : I64 g.n
  s : g.s.size ≤ big
def gR : Rp GV where
  sz := 6
  R := fun L w g cs => ∃ vb, cs = [.int .i64 g.kind, .int .i64 g.up, .int .i64 g.name, .int .i64 g.n, vb, .string g.s] ∧ GFits g ∧ SliceR Rp.byte L w g.b vb
  len := fun h => by obtain ⟨vb, rfl, _⟩ := h; rfl
  mono := fun hs h => by obtain ⟨vb, rfl, h1, h2⟩ := h; exact ⟨vb, rfl, h1, h2.mono hs⟩
  one := fun h u hu => by
    obtain ⟨vb, rfl, h1, h2⟩ := h
    simp at hu
    rcases hu with rfl | rfl | rfl | rfl | rfl | rfl <;> first | rfl | exact slice_one h2

set_option maxHeartbeats 1000000 in
theorem clean_any (s : ByteArray) (w : World) (hs : s.size ≤ 1000000) :
    Calls Try.prog 77 #[.string s] w fun e w' => e = .returned (.string (cleanS s)) ∧ w = w' := by
  go_enter Try.func77, Try.ntmps77
  go_wp2
  go_loop [3, 4] (fun t i => ∃ (k : Nat) (cur : List UInt8), k ≤ s.size ∧ i = .int .i64 k ∧ t = .string (mkS cur) ∧ cur.length ≤ k ∧ Hid (cur = (s.data.toList.take k).filter fun c => decide (c ≠ 0))) (fun _ i => s.size - (intOf i).toNat)
  case atStart => exact ⟨0, [], Nat.zero_le _, rfl, rfl, Nat.le_refl _, Lib.hid rfl⟩
  case round =>
    obtain ⟨k, cur, hk, rfl, rfl, hcur, HI⟩ := hrel
    have hsz : (mkS cur).size = cur.length := rfl
    have Hsz := Lib.hid hsz
    clear hsz
    by_cases hlt : k < s.size
    · have hkI : (k : Int) < (s.size : Int) := by omega
      obtain ⟨ch, hch⟩ : ∃ c, s[k]'hlt = c := ⟨_, rfl⟩
      have hlt' : k < s.data.toList.length := hlt
      have HT : Hid (s.data.toList.take (k + 1) = s.data.toList.take k ++ [ch]) := Lib.hid (by
        rw [List.take_succ_eq_append_getElem hlt', ← hch]; rfl)
      have Hch : Hid (s.data.toList.getD k 0 = ch) := Lib.hid (by rw [← hch, idx_getD])
      by_cases h1 : ch = 0
      · subst h1
        have HJ : Hid (cur = (s.data.toList.take (k + 1)).filter fun c => decide (c ≠ 0)) := Lib.hid (by rw [HT.out, List.filter_append, ← HI.out]; simp)
        go_wp2
        go_round
        case rel => exact ⟨k + 1, cur, by omega, by go_num, rfl, by omega, HJ⟩
        case measure => simp [intOf]; omega
      · have d0 : ¬ (ch.toNat : Int) = 0 := fun e => h1 (UInt8.toNat_inj.1 (by have : (0 : UInt8).toNat = 0 := rfl; omega))
        have d1 : ((ch.toNat : Int) == 0) = false := beq_eq_false_iff_ne.2 d0
        have HJ : Hid (cur ++ [ch] = (s.data.toList.take (k + 1)).filter fun c => decide (c ≠ 0)) := Lib.hid (by rw [HT.out, List.filter_append, ← HI.out]; simp [h1])
        have HX : Hid (mkS cur ++ s.extract k (k + 1) = mkS (cur ++ [ch])) := Lib.hid (by rw [extract_one s k hlt, Hch.out])
        have hcat : (mkS cur).size + (min (k + 1) s.size - k) ≤ 9223372036854775807 := by rw [Hsz.out]; omega
        clear h1
        go_wp2
        go_round
        case rel => exact ⟨k + 1, cur ++ [ch], by omega, by go_num, by first | rw [HX.out] | rw [← HX.out], by simp; omega, HJ⟩
        case measure => simp [intOf]; omega
    · have hge : ¬ ((k : Int) < (s.size : Int)) := by omega
      have HE : Hid (mkS cur = cleanS s) := Lib.hid (by rw [HI.out, List.take_of_length_le (by rw [show s.data.toList.length = s.size from rfl]; omega)]; rfl)
      go_wp2
      go_ret
      exact ⟨ret_str HE.out, rfl⟩
end Go.Proofs.Ytojcciciinklbaa
