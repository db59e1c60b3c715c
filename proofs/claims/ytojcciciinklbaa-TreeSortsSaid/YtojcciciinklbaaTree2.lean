/- Walks: clones of bytes and of attributes. No claim by itself. -/
import Derived.Test.YtojcciciinklbaaTree1
import Derived.Test.YtojcciciinklbaaOut
import Derived.Test.YtojcciciinklbaaRef01
import Derived.WalkSpells
set_option linter.unusedSimpArgs false
set_option linter.unusedVariables false
namespace Go.Proofs.Ytojcciciinklbaa
open Go.RowKit

/-- Attributes, as cells. -/
def attrV (xs : List (ByteArray × ByteArray)) : List Value := xs.flatMap fun x => [.string x.1, .string x.2]
theorem attrV_length (xs : List (ByteArray × ByteArray)) : (attrV xs).length = xs.length * 2 := by
  induction xs with
  | nil => rfl
  | cons x xs ih => simp [attrV] at ih ⊢; omega
theorem attrV_append (xs ys : List (ByteArray × ByteArray)) : attrV (xs ++ ys) = attrV xs ++ attrV ys := by simp [attrV]
theorem attr_cells {L : Live} {w : World} {xs : List (ByteArray × ByteArray)} {cells : List Value} (h : Reps attrR L w xs cells) : cells = attrV xs := by
  induction h with
  | nil => rfl
  | cons h t ih => obtain ⟨rfl, _⟩ := h; rw [ih]; rfl
theorem Try.infoAttr : (Try.prog.info? 88).map (fun i => (i.zero, i.size, i.bytes)) = some (some (.agg #[.string ⟨#[]⟩, .string ⟨#[]⟩]), 2, 32) := by kernel_rfl

theorem nil_len {α : Type} {d : Rp α} {L : Live} {w : World} {xs : List α} {n c : Nat} (h : SliceR d L w xs (.slice none n c)) : xs = [] := by
  obtain ⟨A, c', cells, he, h1, _, _, _, h4, _⟩ := h
  simp at he
  obtain ⟨rfl, rfl, rfl⟩ := he
  have := h4 rfl
  exact List.eq_nil_of_length_eq_zero (by omega)

set_option maxHeartbeats 400000 in
theorem bclone_any (xs : List UInt8) (v : Value) (L : Live) (w : World) (hS : SliceR Rp.byte L w xs v) (hnr : xs.length ≤ 140737488355328) :
    Calls Try.prog 55 #[v] w fun e w' => ∃ v', e = .returned v' ∧ Blk w' w.heap.size 5 1 v' xs.length (bytesV xs) ∧ Below w.heap.size w w' := by
  obtain ⟨A, c, rfl, hnc, hn1, hn2⟩ := hS.form
  cases A with
  | none =>
    obtain rfl := nil_len hS
    clear hS
    have kn := Lib.run_eql_slice_nil (P := Try.prog) w 23 5 none 0 c 0 0 Try.underlying23
    go_enter Try.func55, Try.ntmps55
    go_wp2
    go_ret
    exact ⟨_, rfl, Blk.nil _ _ _ _, Below.refl _ _⟩
  | some a =>
    obtain ⟨cells, hsrc, hrep⟩ := hS.src
    obtain rfl := bytes_cells hrep
    have HS := Lib.hid hsrc; clear hS hsrc hrep
    have kn := Lib.run_eql_slice_nil (P := Try.prog) w 23 5 (some a) xs.length c 0 0 Try.underlying23
    go_enter Try.func55, Try.ntmps55
    go_wp2_with (at_builtin; refine wpList_appB rfl (.tmp 5) (.tmp 6) 23 5 rfl w.heap.size _ 1 1 Try.underlying23 Try.info5 rfl (by decide) _ _ rfl _ rfl 0 [] ?c1 xs.length (bytesV xs) ?c2 ?c3 ?c4 ?c5 ?_)
    case c1 => exact ⟨rfl, .inr ⟨w.heap.size, 0, #[], _, rfl, Nat.le_refl _, heap_alloc_new w _, .inl rfl, Nat.le_refl _, Nat.zero_le _, by simp, rfl⟩⟩
    case c2 => exact HS.out.keep fun a u hu => ((Below.refl _ w).alloc (Nat.le_refl _) _ |>.cell (World.block_lt_of_cell? w _ hu)).trans hu
    case c3 => exact (bytes_reps L w xs).one
    case c4 => omega
    case c5 => simp
    intro v1 w1 h1 h2 _
    have H1 := Lib.hid h1
    have H2 := Lib.hid h2
    clear h1 h2
    go_wp2
    go_ret
    exact ⟨_, rfl, H1.out, ((Below.refl _ w).alloc (Nat.le_refl _) _).grown H2.out (by simp) (fun k hk => by simp [Value.ownBlock] at hk; omega)⟩

set_option maxHeartbeats 400000 in
theorem aclone_any (xs : List (ByteArray × ByteArray)) (v : Value) (L : Live) (w : World) (hS : SliceR attrR L w xs v) (hnr : xs.length ≤ 1000000) :
    Calls Try.prog 56 #[v] w fun e w' => ∃ v', e = .returned v' ∧ Blk w' w.heap.size 88 2 v' xs.length (attrV xs) ∧ Below w.heap.size w w' := by
  obtain ⟨A, c, rfl, hnc, hn1, hn2⟩ := hS.form
  cases A with
  | none =>
    obtain rfl := nil_len hS
    clear hS
    have kn := Lib.run_eql_slice_nil (P := Try.prog) w 24 88 none 0 c 0 0 Try.underlying24
    go_enter Try.func56, Try.ntmps56
    go_wp2
    go_ret
    exact ⟨_, rfl, Blk.nil _ _ _ _, Below.refl _ _⟩
  | some a =>
    obtain ⟨cells, hsrc, hrep⟩ := hS.src
    obtain rfl := attr_cells hrep
    have HS := Lib.hid hsrc
    have H1' := Lib.hid hrep.one
    clear hS hsrc hrep
    have kn := Lib.run_eql_slice_nil (P := Try.prog) w 24 88 (some a) xs.length c 0 0 Try.underlying24
    go_enter Try.func56, Try.ntmps56
    go_wp2_with (at_builtin; refine wpList_appB rfl (.tmp 5) (.tmp 6) 24 88 rfl w.heap.size _ 2 32 Try.underlying24 Try.infoAttr rfl (by decide) _ _ rfl _ rfl 0 [] ?c1 xs.length (attrV xs) ?c2 ?c3 ?c4 ?c5 ?_)
    case c1 => exact ⟨rfl, .inr ⟨w.heap.size, 0, #[], _, rfl, Nat.le_refl _, heap_alloc_new w _, .inl rfl, Nat.le_refl _, Nat.zero_le _, by simp, rfl⟩⟩
    case c2 => exact HS.out.keep fun a u hu => ((Below.refl _ w).alloc (Nat.le_refl _) _ |>.cell (World.block_lt_of_cell? w _ hu)).trans hu
    case c3 => exact H1'.out
    case c4 => omega
    case c5 => simp
    intro v1 w1 h1 h2 _
    have H1 := Lib.hid h1
    have H2 := Lib.hid h2
    clear h1 h2
    go_wp2
    go_ret
    exact ⟨_, rfl, H1.out, ((Below.refl _ w).alloc (Nat.le_refl _) _).grown H2.out (by simp) (fun k hk => by simp [Value.ownBlock] at hk; omega)⟩
end Go.Proofs.Ytojcciciinklbaa
