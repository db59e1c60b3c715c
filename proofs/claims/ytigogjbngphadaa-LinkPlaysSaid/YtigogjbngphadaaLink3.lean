/- Walks of what the link's statements call, the second part. No claim by itself. -/
import Derived.Test.YtigogjbngphadaaLink2
namespace Go.Proofs.Ytigogjbngphadaa
open Go.RowKit

theorem inB_true {n : Nat} {k : Nat} (h : k < n) : inB n (k : Int) = true := by simp [inB]; omega
theorem inB_false {n : Nat} {k : Int} (h : ¬ (0 ≤ k ∧ k < n)) : inB n k = false := by simp [inB]; omega

theorem copy_none (k : Int) (g base : Nat) (L : Live) (w : World) (xs : List Pk) (hk : ¬ (0 ≤ k ∧ k < xs.length)) (hL : LinkAt L w base g xs) :
    Calls Try.prog 12 #[.pointer (some ⟨g, 0, none⟩), .int .i64 k] w fun e w' => e = .returned (.int .i64 4) ∧ w = w' := by
  have hb := inB_false hk
  have HL := Lib.hid hL; clear hL
  go_enter Try.func12, Try.ntmps12
  go_wp2_with (go_at_call 27; refine (in_any k L w base g xs HL.out).mono ?_; rintro e w' ⟨rfl, rfl⟩)
  go_ret
  exact ⟨rfl, rfl⟩

set_option maxHeartbeats 400000 in
theorem copy_any (k : Nat) (g base : Nat) (L : Live) (w : World) (xs : List Pk) (hk : k < xs.length) (hlt : xs.length < 64) (hL : LinkAt L w base g xs) (hok : LOk L w) (hbase : base ≤ w.heap.size) :
    Calls Try.prog 12 #[.pointer (some ⟨g, 0, none⟩), .int .i64 k] w fun e w' => e = .returned (.int .i64 0) ∧ LinkAt L w' base g (xs ++ [xs[k]]) ∧ LStep L base w w' := by
  have hb := inB_true hk
  have hL' := hL
  obtain ⟨v, hg, _, _, hrow, _⟩ := hL'
  obtain ⟨_, _, _, hS⟩ := hrow.list
  obtain ⟨A, c, rfl, hnc, hn1, hn2⟩ := hS.form
  have hcell := cell_block hg 0
  simp at hcell
  obtain ⟨b, off, cs, rfl, ⟨rfl, hz⟩, hcc⟩ := hS.get (by decide) k hk
  have c0 : w.cell? ⟨b, off + k * 2, none⟩ = some (.int .i64 xs[k].1) := (hcc 0 _ rfl).1
  have c1 : w.cell? ⟨b, off + k * 2 + 1, none⟩ = some (.string xs[k].2) := (hcc 1 _ rfl).1
  clear hcc hS hrow hg
  have HZ := Lib.hid hz; clear hz
  have HL := Lib.hid hL; clear hL
  have Hok := Lib.hid hok; clear hok
  go_enter Try.func12, Try.ntmps12
  go_wp2_with (first | (go_at_call 27; refine (in_any k L w base g xs HL.out).mono ?_; rintro e w' ⟨rfl, rfl⟩) | (go_at_call 26; refine (put_any _ _ HZ.out L w base g xs hlt HL.out Hok.out hbase).mono ?_; rintro e w' ⟨rfl, h1, h2⟩; have H1 := Lib.hid h1; have H2 := Lib.hid h2; clear h1 h2))
  go_ret
  exact ⟨rfl, H1.out, H2.out⟩

set_option maxHeartbeats 400000 in
theorem copy_full (k : Nat) (g base : Nat) (L : Live) (w : World) (xs : List Pk) (hk : k < xs.length) (hlt : 64 ≤ xs.length) (hL : LinkAt L w base g xs) (hok : LOk L w) :
    Calls Try.prog 12 #[.pointer (some ⟨g, 0, none⟩), .int .i64 k] w fun e w' => e = .returned (.int .i64 5) ∧ Ext L w L w' := by
  have hb := inB_true hk
  have hL' := hL
  obtain ⟨v, hg, _, _, hrow, _⟩ := hL'
  obtain ⟨_, _, _, hS⟩ := hrow.list
  obtain ⟨A, c, rfl, hnc, hn1, hn2⟩ := hS.form
  have hcell := cell_block hg 0
  simp at hcell
  obtain ⟨b, off, cs, rfl, ⟨rfl, hz⟩, hcc⟩ := hS.get (by decide) k hk
  have c0 : w.cell? ⟨b, off + k * 2, none⟩ = some (.int .i64 xs[k].1) := (hcc 0 _ rfl).1
  have c1 : w.cell? ⟨b, off + k * 2 + 1, none⟩ = some (.string xs[k].2) := (hcc 1 _ rfl).1
  clear hcc hS hrow hg
  have HL := Lib.hid hL; clear hL
  have Hok := Lib.hid hok; clear hok
  go_enter Try.func12, Try.ntmps12
  go_wp2_with (first | (go_at_call 27; refine (in_any k L w base g xs HL.out).mono ?_; rintro e w' ⟨rfl, rfl⟩) | (go_at_call 26; refine (put_full _ _ L w base g xs hlt HL.out Hok.out).mono ?_; rintro e w' ⟨rfl, h1⟩; have H1 := Lib.hid h1; clear h1))
  go_ret
  exact ⟨rfl, H1.out⟩

/-- Packets, as they are told: each one's bytes in a row of their own. -/
def flatV (tos : List Int) (vs : List Value) : List Value := (tos.zip vs).flatMap fun p => [.int .i64 p.1, p.2]
structure Told (w : World) (base : Nat) (v : Value) (xs : List Pk) (vs : List Value) : Prop where
  len : vs.length = xs.length
  row : Blk w base 34 2 v xs.length (flatV (xs.map (·.1)) vs)
  each : ∀ i (h : i < vs.length) (h' : i < xs.length), Blk w base 5 1 vs[i] xs[i].2.size (bytesV xs[i].2.data.toList)

theorem Told.below {w w' : World} {base : Nat} {v : Value} {xs : List Pk} {vs : List Value} (h : Told w base v xs vs) (hb : Below w.heap.size w w') : Told w' base v xs vs := ⟨h.len, h.row.below hb, fun i h1 h2 => (h.each i h1 h2).below hb⟩
theorem flatV_snoc (tos : List Int) (vs : List Value) (h : vs.length = tos.length) (to : Int) (v : Value) : flatV (tos ++ [to]) (vs ++ [v]) = flatV tos vs ++ [.int .i64 to, v] := by
  unfold flatV
  rw [List.zip_append h.symm]
  simp
theorem Told.snoc {w1 w2 : World} {base : Nat} {out out' : Value} {xs : List Pk} {vs : List Value} {p : Pk} {v : Value} (h : Told w1 base out xs vs) (hv : Blk w1 base 5 1 v p.2.size (bytesV p.2.data.toList))
    (hr : Blk w2 base 34 2 out' (xs.length + 1) (flatV (xs.map (·.1)) vs ++ [.int .i64 p.1, v])) (hg : w1.grownBy w2 out.ownBlock) : Told w2 base out' (xs ++ [p]) (vs ++ [v]) := by
  refine ⟨by simp [h.len], by rw [List.length_append, List.map_append, List.map_singleton, flatV_snoc _ _ (by simp [h.len])]; exact hr, fun i h1 h2 => ?_⟩
  have hne := h.row.types (e' := 5) (by decide)
  by_cases hi : i < vs.length
  · rw [List.getElem_append_left hi, List.getElem_append_left (by rw [← h.len]; exact hi)]
    exact (h.each i hi (by rw [← h.len]; exact hi)).other hg hne
  · have : i = vs.length := by simp at h1; omega
    subst this
    simp only [List.getElem_append_right (Nat.le_refl _), Nat.sub_self, List.getElem_cons_zero]
    have e : (xs ++ [p])[vs.length] = p := by simp [h.len]
    rw [e]
    exact hv.other hg hne
theorem Blk.slice5 {w : World} {base e size n : Nat} {v : Value} {cells : List Value} (h : Blk w base e size v n cells) : v.oneCell' = true := by
  obtain ⟨A, c, rfl, _⟩ := h.form; rfl

theorem all_round {w wr w1 w2 : World} {o o' : Obj} {out out' v : Value} {xs : List Pk} {k : Nat} {vs : List Value} (hT : Told wr w.heap.size out (xs.take k) vs) (hlk : (xs.take k).length = k) (hk : k < xs.length) (hB : Below w.heap.size w wr)
    (h1 : Blk w1 (wr.alloc o').heap.size 5 1 v xs[k].2.size (bytesV xs[k].2.data.toList)) (h2 : Below (wr.alloc o').heap.size (wr.alloc o') w1)
    (hr : Blk w2 w.heap.size 34 2 out' (k + 1) (flatV (List.take k (List.map (fun x => x.1) xs)) vs ++ [.int .i64 xs[k].1, v])) (hg : (w1.alloc o).grownBy w2 out.ownBlock) :
    Told w2 w.heap.size out' (xs.take (k + 1)) (vs ++ [v]) ∧ Below w.heap.size w w2 := by
  have hs := h2.size
  have hbs := hB.size
  simp at hs
  have e1 : Below wr.heap.size wr (w1.alloc o) := ((((Below.refl _ wr).alloc (Nat.le_refl _) _).trans (h2.mono (by simp))).alloc (by omega) _)
  have hT1 := hT.below e1
  refine ⟨?_, ((hB.trans (e1.mono hbs)).grown hg (by simp; omega) (fun k hk => (hT.row.lt k hk).1))⟩
  rw [List.take_succ_eq_append_getElem hk]
  refine hT1.snoc ((h1.lower (by simp; omega)).below ((Below.refl _ _).alloc (Nat.le_refl _) _)) ?_ hg
  rw [hlk, List.map_take]
  exact hr

theorem Try.info34 : (Try.prog.info? 34).map (fun i => (i.zero, i.size, i.bytes)) = some (some (.agg #[.int .i64 0, .slice none 0 0]), 2, 32) := by kernel_rfl

set_option maxHeartbeats 800000 in
theorem all_any (g base : Nat) (L : Live) (w : World) (xs : List Pk) (hlt : xs.length ≤ 64) (hL : LinkAt L w base g xs) :
    Calls Try.prog 14 #[.pointer (some ⟨g, 0, none⟩)] w fun e w' => ∃ v vs, e = .returned v ∧ Told w' w.heap.size v xs vs ∧ Below w.heap.size w w' := by
  obtain ⟨v, hg, _, _, hrow, _⟩ := hL
  obtain ⟨_, _, _, hS⟩ := hrow.list
  obtain ⟨A, c, rfl, hnc, hn1, hn2⟩ := hS.form
  have hcell := cell_block hg 0
  simp at hcell
  have hglt : g < w.heap.size := (Array.getElem?_eq_some_iff.1 hg).1
  clear hg hrow
  have HS := Lib.hid hS; clear hS
  go_enter Try.func14, Try.ntmps14
  go_wp2
  go_loopw [3, 11] (fun out i wr => ∃ k : Nat, k ≤ xs.length ∧ i = .int .i64 k ∧ ∃ vs, Told wr w.heap.size out (xs.take k) vs ∧ Below w.heap.size w wr) (fun _ i _ => xs.length - (intOf i).toNat)
  case atStart => exact ⟨0, Nat.zero_le _, rfl, [], ⟨rfl, Blk.nil _ _ _ _, fun i h => by simp at h⟩, Below.refl _ _⟩
  case round =>
    obtain ⟨k, hk, rfl, vs, hT, hB⟩ := hrel
    by_cases hlt' : k < xs.length
    · obtain ⟨b, off, cs, rfl, ⟨rfl, hz⟩, hcc⟩ := HS.out.get (by decide) k hlt'
      have d0 : w.cell? ⟨b, off + k * 2, none⟩ = some (.int .i64 xs[k].1) := (hcc 0 _ rfl).1
      have d1 : w.cell? ⟨b, off + k * 2 + 1, none⟩ = some (.string xs[k].2) := (hcc 1 _ rfl).1
      have c0 := (hB.cell (World.block_lt_of_cell? w _ d0)).trans d0
      have c1 := (hB.cell (World.block_lt_of_cell? w _ d1)).trans d1
      clear hcc d0 d1
      have hbsz := hB.size
      have hlk : (xs.take k).length = k := by rw [List.length_take]; omega
      have hz' : xs[k].2.size ≤ 140737488355328 := hz
      have HT := Lib.hid hT; clear hT
      have HB := Lib.hid hB; clear hB
      have Hlk := Lib.hid hlk; clear hlk
      clear hcell
      go_wp2_with (first | (go_at_call 29; refine (told_any _ _ _ hz').mono ?_; rintro e w1 ⟨v1, rfl, h1, h2⟩; obtain ⟨A1, c1', rfl, hx1, hx2⟩ := h1.form; have H1 := Lib.hid h1; have H2 := Lib.hid h2; have hs2 := h2.size; clear h1 h2) | (at_builtin; go_loud (refine wpList_appB rfl (.tmp 15) (.tmp 18) 31 34 rfl w.heap.size _ 2 32 Try.underlying31 Try.info34 rfl (by decide) _ _ rfl _ rfl k (flatV ((xs.take k).map (·.1)) vs) ?c1 1 [.int .i64 xs[k].1, .slice A1 xs[k].2.size c1'] ?c2 ?c3 ?c4 ?c5 ?_)))
      case c1 =>
        have hT1 := (HT.out.below ((((Below.refl _ wr).alloc (Nat.le_refl _) _).trans (H2.out.mono (by simp))).alloc (by simp at hs2; omega) (.cells #[.int .i64 xs[k].1, .slice A1 xs[k].2.size c1'] 34))).row
        rw [Hlk.out] at hT1
        exact hT1
      case c2 => exact Src.new w1 34 2 1 1 [_, _] rfl
      case c3 => intro u hu; rcases List.mem_cons.1 hu with rfl | hu; rfl; simp at hu; subst hu; rfl
      case c4 => omega
      case c5 => simp at hs2 ⊢; omega
      intro v1 w2 hr hg _
      have HE := Lib.hid (all_round (o := .cells #[.int .i64 xs[k].1, .slice A1 xs[k].2.size c1'] 34) HT.out Hlk.out hlt' HB.out H1.out H2.out hr hg)
      clear hr hg
      go_wp2
      go_roundw
      case rel => exact ⟨k + 1, by omega, by go_num, _, HE.out.1, HE.out.2⟩
      case measure => simp [intOf]; omega
    · have hke : k = xs.length := by omega
      subst hke
      rw [List.take_length] at hT
      have HT := Lib.hid hT; clear hT
      have HB := Lib.hid hB; clear hB
      go_wp2
      go_ret
      exact ⟨_, vs, rfl, HT.out, HB.out⟩
end Go.Proofs.Ytigogjbngphadaa
