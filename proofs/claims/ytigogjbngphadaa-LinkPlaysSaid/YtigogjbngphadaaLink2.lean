/- Walks of what the link's statements call. No claim by itself. -/
import Derived.Test.YtigogjbngphadaaLink1
import Derived.Handy
namespace Go.Proofs.Ytigogjbngphadaa
open Go.RowKit

def around (n m : Int) : Int := if n < 0 then (-(n + 1)) % m else n % m
theorem around_range (n m : Int) (hm : 0 < m) : 0 ≤ around n m ∧ around n m < m := by
  unfold around; split
  · exact ⟨Int.emod_nonneg _ (by omega), Int.emod_lt_of_pos _ hm⟩
  · exact ⟨Int.emod_nonneg _ (by omega), Int.emod_lt_of_pos _ hm⟩

theorem around_any (n m : Int) (w : World) (h1 : -9223372036854775808 ≤ n) (h2 : n ≤ 9223372036854775807) (h3 : 0 < m) (h4 : m ≤ 9223372036854775807) :
    Calls Try.prog 10 #[.int .i64 n, .int .i64 m] w fun e w' => e = .returned (.int .i64 (around n m)) ∧ w = w' := by
  have hz : ((m : Int) == 0) = false := by simp; omega
  by_cases hn : n < 0
  · have h0 : 0 ≤ -(n + 1) := by omega
    go_enter Try.func10, Try.ntmps10
    go_wp2
    go_ret
    exact ⟨ret_int (by rw [around, if_pos hn]; exact (Int.neg_tmod _ _).symm.trans (Int.tmod_eq_emod_of_nonneg h0)), rfl⟩
  · go_enter Try.func10, Try.ntmps10
    go_wp2
    go_ret
    exact ⟨ret_int (by rw [around, if_neg (by omega)]), rfl⟩

theorem Try.info5 : (Try.prog.info? 5).map (fun i => (i.zero, i.size, i.bytes)) = some (some (.int .u8 0), 1, 1) := by kernel_rfl

set_option maxHeartbeats 400000 in
theorem few_any (xs : List UInt8) (v : Value) (m : Int) (L : Live) (w : World) (hm : 0 ≤ m) (hm2 : m ≤ 1000000) (hS : SliceR Rp.byte L w xs v) :
    Calls Try.prog 9 #[v, .int .i64 m] w fun e w' => ∃ v', e = .returned v' ∧ Blk w' w.heap.size 5 1 v' (xs.take m.toNat).length (bytesV (xs.take m.toNat)) ∧ Below w.heap.size w w' := by
  obtain ⟨A, c, rfl, hnc, hn1, hn2⟩ := hS.form
  have HS := Lib.hid hS; clear hS
  obtain ⟨k, rfl⟩ := Int.eq_ofNat_of_zero_le hm
  by_cases hk : xs.length ≤ k
  · have hmin : min (xs.length : Int) (k : Int) = xs.length := by omega
    obtain ⟨cells, hsrc, hrep⟩ := HS.out.src
    obtain rfl := bytes_cells hrep
    have hsrc := Lib.hid hsrc
    go_enter Try.func9, Try.ntmps9
    go_wp2_with (at_builtin; refine wpList_appB rfl (.tmp 6) (.tmp 12) 22 5 rfl w.heap.size _ 1 1 Try.underlying22 Try.info5 rfl (by decide) w (.slice none 0 0) rfl _ rfl 0 [] (Blk.nil _ _ _ _) xs.length (bytesV xs) ?c1 ?c2 ?c3 ?c4 ?_)
    case c1 => exact hsrc.out
    case c2 => exact (bytes_reps L w xs).one
    case c3 => omega
    case c4 => exact Nat.le_refl _
    intro v1 w1 hB1 hA1 _
    have HX := Lib.hid hB1
    have HA := Lib.hid hA1
    clear hB1 hA1
    go_wp2
    go_ret
    refine ⟨_, rfl, ?_, (Below.refl _ _).grown HA.out (Nat.le_refl _) (fun k h => by simp [Value.ownBlock] at h)⟩
    rw [Int.toNat_natCast, List.take_of_length_le hk]
    have := HX.out
    exact this
  · have hmin : min (xs.length : Int) (k : Int) = k := by omega
    have hkc : (k : Int) ≤ c := by omega
    have hsrc := (HS.out.take k (by omega)).src
    have hlk : (xs.take k).length = k := by rw [List.length_take]; omega
    rw [hlk] at hsrc
    obtain ⟨cells, hsrc, hrep⟩ := hsrc
    obtain rfl := bytes_cells hrep
    have hsrc := Lib.hid hsrc
    have Hlk := Lib.hid hlk; clear hlk
    go_enter Try.func9, Try.ntmps9
    go_wp2_with (at_builtin; refine wpList_appB rfl (.tmp 6) (.tmp 12) 22 5 rfl w.heap.size _ 1 1 Try.underlying22 Try.info5 rfl (by decide) w (.slice none 0 0) rfl _ rfl 0 [] (Blk.nil _ _ _ _) k (bytesV (xs.take k)) ?d1 ?d2 ?d3 ?d4 ?_)
    case d1 => exact hsrc.out
    case d2 => exact (bytes_reps L w _).one
    case d3 => omega
    case d4 => exact Nat.le_refl _
    intro v1 w1 hB1 hA1 _
    have HX := Lib.hid hB1
    have HA := Lib.hid hA1
    clear hB1 hA1
    go_wp2
    go_ret
    refine ⟨_, rfl, ?_, (Below.refl _ _).grown HA.out (Nat.le_refl _) (fun k h => by simp [Value.ownBlock] at h)⟩
    rw [Int.toNat_natCast, Hlk.out]
    have := HX.out
    exact this

set_option maxHeartbeats 400000 in
theorem told_any (to : Int) (s : ByteArray) (w : World) (hs : s.size ≤ 140737488355328) :
    Calls Try.prog 29 #[.agg #[.int .i64 to, .string s]] w fun e w' => ∃ v, e = .returned (.agg #[.int .i64 to, v]) ∧ Blk w' w.heap.size 5 1 v s.size (bytesV s.data.toList) ∧ Below w.heap.size w w' := by
  go_enter Try.func29, Try.ntmps29
  go_wp2_with (refine wpList_bytes (o := ⟨some 7, _, _, _, _, _⟩) rfl (.tmp 6) 9 22 5 rfl Try.underlying9 Try.underlying22 Try.underlying5 _ w.heap.size (w.heap.size + 1 + 1) (by simp) s rfl (by omega) hs ?_; intro c w1 hblk hbel hsz; obtain ⟨hc, hf⟩ := bcell hbel; have HB := Lib.hid hblk; have HL := Lib.hid hbel; clear hblk hbel)
  refine bodyPost_ret (v := .agg #[.int .i64 to, .slice (some ⟨w.heap.size + 1 + 1, 0, none⟩) s.size c]) (by simp [results, Try.results29, go_sem, hc]) rfl ?_
  refine ⟨_, rfl, HB.out.kept (fun k hk => ?_), ?_⟩
  · simp [Value.ownBlock] at hk
    rw [Below.heap_setCell _ _ _ _ (by show k ≠ w.heap.size + 1; omega), Below.heap_setCell _ _ _ _ (by show k ≠ w.heap.size + 1; omega)]
  · exact ((((Below.refl _ w).alloc (Nat.le_refl _) _).alloc (by simp) _).trans (HL.out.mono (by omega))).setCell (by simp) _ |>.setCell (by simp) _

set_option maxHeartbeats 400000 in
theorem send_bad (to : Int) (v : Value) (g : Nat) (w : World) (h0 : to ≠ 0) (h1 : to ≠ 1) :
    Calls Try.prog 11 #[.pointer (some ⟨g, 0, none⟩), .int .i64 to, v] w fun e w' => e = .returned (.int .i64 1) ∧ w = w' := by
  have h0' : ((to : Int) != 0) = true := by simpa using h0
  have h1' : ((to : Int) != 1) = true := by simpa using h1
  go_enter Try.func11, Try.ntmps11
  go_wp2
  go_ret
  exact ⟨rfl, rfl⟩

set_option maxHeartbeats 400000 in
theorem send_any (to : Int) (bs : List UInt8) (v : Value) (g base : Nat) (L Lb : Live) (w : World) (xs : List Pk) (hto : to = 0 ∨ to = 1) (hS : SliceR Rp.byte Lb w bs v) (hbs : bs.length ≤ 140737488355328) (hlt : xs.length < 64) (hL : LinkAt L w base g xs) (hok : LOk L w) (hbase : base ≤ w.heap.size) :
    Calls Try.prog 11 #[.pointer (some ⟨g, 0, none⟩), .int .i64 to, v] w fun e w' => e = .returned (.int .i64 0) ∧ LinkAt L w' base g (xs ++ [(to, mkS bs)]) ∧ LStep L base w w' := by
  have h0 : ((to : Int) != 0 && to != 1) = false := by rcases hto with rfl | rfl <;> rfl
  obtain ⟨A, c, rfl, hnc, hn1, hn2⟩ := hS.form
  have kc := SliceR.toStr (P := Try.prog) hS 22 5 9 Try.underlying22 Try.underlying5 Try.underlying9
  have hsz : (mkS bs).size ≤ room := hbs
  have HL := Lib.hid hL; clear hL
  have HZ := Lib.hid hsz; clear hsz
  have Hok := Lib.hid hok; clear hok
  rcases hto with rfl | rfl
  all_goals
    go_enter Try.func11, Try.ntmps11
    go_wp2_with (go_at_call 26; refine (put_any _ _ HZ.out L w base g xs hlt HL.out Hok.out hbase).mono ?_; rintro e w' ⟨rfl, h1, h2⟩; have H1 := Lib.hid h1; have H2 := Lib.hid h2; clear h1 h2)
    go_ret
    exact ⟨rfl, H1.out, H2.out⟩

set_option maxHeartbeats 400000 in
theorem send_full (to : Int) (bs : List UInt8) (v : Value) (g base : Nat) (L Lb : Live) (w : World) (xs : List Pk) (hto : to = 0 ∨ to = 1) (hS : SliceR Rp.byte Lb w bs v) (hlt : 64 ≤ xs.length) (hL : LinkAt L w base g xs) (hok : LOk L w) :
    Calls Try.prog 11 #[.pointer (some ⟨g, 0, none⟩), .int .i64 to, v] w fun e w' => e = .returned (.int .i64 5) ∧ Ext L w L w' := by
  have h0 : ((to : Int) != 0 && to != 1) = false := by rcases hto with rfl | rfl <;> rfl
  obtain ⟨A, c, rfl, hnc, hn1, hn2⟩ := hS.form
  have kc := SliceR.toStr (P := Try.prog) hS 22 5 9 Try.underlying22 Try.underlying5 Try.underlying9
  have HL := Lib.hid hL; clear hL
  have Hok := Lib.hid hok; clear hok
  rcases hto with rfl | rfl
  all_goals
    go_enter Try.func11, Try.ntmps11
    go_wp2_with (go_at_call 26; refine (put_full _ _ L w base g xs hlt HL.out Hok.out).mono ?_; rintro e w' ⟨rfl, h1⟩; have H1 := Lib.hid h1; clear h1)
    go_ret
    exact ⟨rfl, H1.out⟩
end Go.Proofs.Ytigogjbngphadaa
