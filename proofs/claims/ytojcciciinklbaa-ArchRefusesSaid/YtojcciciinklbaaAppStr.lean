/- append of a text's bytes, to a row that is known whole. No claim by itself. -/
import Derived.Test.YtojcciciinklbaaOut
import Derived.Lib.AppendStr
set_option linter.unusedVariables false
set_option linter.unusedSimpArgs false
namespace Go.Proofs.Ytojcciciinklbaa
open Go.RowKit Go.Lib

theorem bytesV_one (xs : List UInt8) : ∀ u ∈ bytesV xs, u.oneCell' = true := by
  intro u hu
  simp only [bytesV, List.mem_map] at hu
  obtain ⟨b, _, rfl⟩ := hu
  rfl
theorem strCells_bytes (s : ByteArray) : strCells s = bytesV s.data.toList := by simp [strCells, bytesV]
/-- A row of its own that a growth has made. -/
theorem Blk.grown {w : World} {base e m : Nat} {news : List Value} (size : Nat) (tail : Array Value) (cap : Nat) (hn : news.length = m * size) (hb : base ≤ w.heap.size) (h1 : m ≤ cap) (h2 : cap ≤ maxLen) (h3 : cap * size ≤ news.length + tail.size) :
    Blk (w.drew.alloc (.cells (news.toArray ++ tail) e)) base e size (.slice (some ⟨w.heap.size, 0, none⟩) m cap) m news := by
  refine ⟨hn, .inr ⟨w.heap.size, cap, _, (0, 0), rfl, hb, heap_alloc_new w.drew _, .inl rfl, h1, h2, by simpa using h3, ?_⟩⟩
  rw [← hn]; simp
theorem run_append_blk_str {P : Program} (w : World) (base : Nat) (t u ty e : TypeId) (ht : P.underlying t = some (.slice e)) (hu : P.underlying u = some .string) (hinfo : (P.info? e).map (fun i => (i.zero, i.size, i.bytes)) = some (some (.int .u8 0), 1, 1))
    (v : Value) (n : Nat) (cells : List Value) (hb : Blk w base e 1 v n cells) (s : ByteArray) (hbytes : n + s.size ≤ 140737488355328) (hbase : base ≤ w.heap.size) :
    ∃ v' w', (Builtin.append_ #[t, u] ty #[v, .string s]).run P w = .ok v' w' ∧ Blk w' base e 1 v' (n + s.size) (cells ++ bytesV s.data.toList) ∧ w.grownBy w' v.ownBlock ∧ (v'.ownBlock = v.ownBlock ∨ v'.ownBlock = some w.heap.size) := by
  obtain ⟨i, hi, hzz⟩ := Option.map_eq_some_iff.1 hinfo
  simp only [Prod.mk.injEq] at hzz
  obtain ⟨hz0, hz1, hz2⟩ := hzz
  have hl : s.data.toList.length = s.size := by rw [Array.length_toList]; rfl
  by_cases hm : s.size = 0
  · have hs : s = ⟨#[]⟩ := by
      apply Go.WideShapes.bytes_inj
      exact List.eq_nil_of_length_eq_zero (by rw [hl, hm])
    have hsz : (⟨#[]⟩ : ByteArray).size = 0 := rfl
    have hse : (⟨#[]⟩ : ByteArray) = ByteArray.empty := rfl
    refine ⟨v, w, ?_, by rw [hs, hsz]; simpa [bytesV] using hb, ⟨rfl, rfl, rfl, Nat.le_refl _, fun _ _ _ => rfl⟩, .inl rfl⟩
    subst hs
    rcases hb.2 with ⟨rfl, h0⟩ | ⟨g, cap, cur, fr, rfl, hg, hh, hf, h1, h2, h3, h4⟩
    · simp [Builtin.append_, run_underlying ht, run_underlying hu, sizeOf, typeInfo, hi, Builtin.lenOf, Builtin.firstCells, hse, h0]
    · simp [Builtin.append_, run_underlying ht, run_underlying hu, sizeOf, typeInfo, hi, Builtin.lenOf, Builtin.firstCells, h1, storeCells, hse]
  · rcases hb.2 with ⟨rfl, h0⟩ | ⟨g, cap, cur, fr, rfl, hg, hh, hf, h1, h2, h3, h4⟩
    · have hc0 : cells = [] := List.eq_nil_of_length_eq_zero (by rw [hb.1, h0])
      subst h0 hc0
      have hr := run_append_nil_string (P := P) w t u ty e i _ ht hu hi hz0 s (by omega) (by omega) (by rw [hz2]; omega)
      refine ⟨_, _, hr, ?_, ⟨rfl, rfl, rfl, by simp, fun k hk _ => Below.heap_alloc w.drew _ k hk⟩, .inr rfl⟩
      have hge := grownCap_ge w s.size 0 e
      have hcm := grownCap_le_maxLen w s.size 0 e (by simp only [maxLen]; omega)
      have hmap : s.data.map (fun b => Value.int .u8 b.toNat) = (bytesV s.data.toList).toArray := by
        apply Array.ext'; simp [bytesV]
      rw [hmap]
      simp only [Nat.zero_add, List.nil_append]
      refine Blk.grown 1 _ _ (by rw [bytesV_length, hl]; omega) hbase hge hcm ?_
      have hzc : (Value.int IntKind.u8 0).cells.size = 1 := rfl
      rw [size_zeroCells, bytesV_length, hl, hzc]; omega
    · have hcl : ∀ j x, cells[j]? = some x → w.cell? ⟨g, j, none⟩ = some x := fun j x hx => by
        have hj := (List.getElem?_eq_some_iff.1 hx).1
        rw [cell_block hh, ← hx, ← h4, List.getElem?_take_of_lt (by rw [← hb.1]; exact hj)]; simp
      by_cases hroom : n + s.size ≤ cap
      · have hfit : n + (bytesV s.data.toList).length ≤ cur.size := by rw [bytesV_length, hl]; omega
        have hst := run_storeCells_cells (P := P) g n (bytesV s.data.toList) 0 w (fun j hj => by
            rw [Nat.add_zero, cell_block hh, Array.getElem?_eq_getElem (by omega)]; rfl)
          (fun j hj => by rw [Nat.add_zero]; exact frozen_free hh hf (by omega)) (bytesV_one _)
        simp only [Nat.add_zero] at hst
        have hfc := run_firstCells_string (P := P) (w := w) 1 s
        rw [strCells_bytes] at hfc
        refine ⟨.slice (some ⟨g, 0, none⟩) (n + s.size) cap, w.setCells g n (bytesV s.data.toList), ?_, ?_, setCells_grown g _ n w, .inl rfl⟩
        · simp [Builtin.append_, run_underlying ht, run_underlying hu, sizeOf, typeInfo, hi, hz1, Builtin.lenOf, hroom, hfc, Addr.add_lit, hst]
        · have hwide : Blk w base e 1 (.slice (some ⟨g, 0, none⟩) (n + s.size) cap) (n + s.size) (cur.toList.take (n + s.size)) :=
            ⟨by rw [List.length_take, Array.length_toList]; omega, .inr ⟨g, cap, cur, fr, rfl, hg, hh, hf, hroom, h2, h3, by rw [Nat.mul_one]⟩⟩
          have hst2 := Blk.stores (bytesV s.data.toList) n w _ hwide (by omega) g rfl
          have hcs : cur.toList.length = cur.size := Array.length_toList
          rw [putL_eq _ _ _ (by rw [List.length_take, bytesV_length, hl, hcs]; omega)] at hst2
          rw [bytesV_length, hl, List.drop_of_length_le (by rw [List.length_take]; omega), List.append_nil, List.take_take, Nat.min_eq_left (by omega)] at hst2
          rw [← h4, Nat.mul_one]; exact hst2
      · have hr := run_append_grow_string (P := P) (w := w) t u ty e i _ ht hu hi hz0 ⟨g, 0, none⟩ n cap cells (by rw [hb.1, hz1]) (fun j x hx => by rw [addr_add, Nat.zero_add]; exact hcl j x hx) s (by omega) (by omega) (growslice_fits (by omega) (by rw [hz2]; omega))
        refine ⟨_, _, hr, ?_, ⟨rfl, rfl, rfl, by simp, fun k hk _ => Below.heap_alloc w.drew _ k hk⟩, .inr rfl⟩
        have hge := grownCap_ge w (n + s.size) cap e
        have hcm := grownCap_le_maxLen w (n + s.size) cap e (by simp only [maxLen]; omega)
        rw [strCells_bytes, show cells.toArray ++ (bytesV s.data.toList).toArray = (cells ++ bytesV s.data.toList).toArray from by simp]
        have hcl2 := hb.1
        refine Blk.grown 1 _ _ (by rw [List.length_append, hb.1, bytesV_length, hl]; omega) hbase hge hcm ?_
        have hzc : (Value.int IntKind.u8 0).cells.size = 1 := rfl
        rw [size_zeroCells, List.length_append, bytesV_length, hl, hb.1, hzc]; omega

section
variable {P : Program} {ops : Array Oper} {rest : List Oper} {o : Oper} {a : Act} {Q : Exit → Act → World → Prop}
theorem wpList_appStr (hgd : o.guard = none) (s x : Operand) (t u e : TypeId) (ho : o.op = .call { callee := .builtin .append, args := #[s, x], argTypes := #[t, u] })
    (base : Nat) (ht : P.underlying t = some (.slice e)) (hu : P.underlying u = some .string) (hinfo : (P.info? e).map (fun i => (i.zero, i.size, i.bytes)) = some (some (.int .u8 0), 1, 1))
    (w : World) (v : Value) (hs : a.eval s = v) (tx : ByteArray) (hx : a.eval x = .string tx) (n : Nat) (cells : List Value) (hb : Blk w base e 1 v n cells)
    (hbytes : n + tx.size ≤ 140737488355328) (hbase : base ≤ w.heap.size)
    (h : ∀ v1 w1, Blk w1 base e 1 v1 (n + tx.size) (cells ++ bytesV tx.data.toList) → w.grownBy w1 v.ownBlock → (v1.ownBlock = v.ownBlock ∨ v1.ownBlock = some w.heap.size) → wpList P ops Q rest (a.put o.dst v1) w1) : wpList P ops Q (o :: rest) a w := by
  refine wpList_plain hgd fun K hK => ?_
  obtain ⟨v', w', hrun, r1, r2, r3⟩ := run_append_blk_str (P := P) w base t u o.type e ht hu hinfo v n cells hb tx hbytes hbase
  unfold Oper.wp execOp
  simp only [ho, resolve, invoke, builtin, Sem.run_bind, Sem.run_pure, Result.andThen_ok, List.map_toArray, List.map_cons, List.map_nil, hs, hx, hrun]
  exact hK _ _ (h v' w' r1 r2 r3)
end

/-! ### Bytes that are being made, over the memory that was -/
/-- Bytes made so far, in a row of their own; what was below is as it was. -/
structure Acc (B : Nat) (W w : World) (v : Value) (acc : List UInt8) : Prop where
  blk : Blk w B 5 1 v acc.length (bytesV acc)
  bel : Below B W w
  le : B ≤ W.heap.size
theorem Acc.form {B : Nat} {W w : World} {v : Value} {acc : List UInt8} (h : Acc B W w v acc) : ∃ A c, v = .slice A acc.length c ∧ acc.length ≤ c ∧ c ≤ 9223372036854775807 := h.blk.form
theorem Acc.step {B : Nat} {W w w' : World} {v : Value} {acc : List UInt8} (h : Acc B W w v acc) (hb : Below w.heap.size w w') : Acc B W w' v acc :=
  ⟨h.blk.below hb, h.bel.trans (hb.mono (Nat.le_trans h.le h.bel.size)), h.le⟩
theorem Acc.nil {W : World} {B : Nat} (h : B ≤ W.heap.size) : Acc B W W (.slice none 0 0) [] := ⟨Blk.nil _ _ _ _, Below.refl _ _, h⟩
theorem Acc.size {B : Nat} {W w : World} {v : Value} {acc : List UInt8} (h : Acc B W w v acc) : B ≤ w.heap.size := Nat.le_trans h.le h.bel.size
theorem Acc.of {B b0 : Nat} {W w w' : World} {v : Value} {acc : List UInt8} {n : Nat} (h : Blk w' b0 5 1 v n (bytesV acc)) (hn : n = acc.length) (hb : Below w.heap.size w w') (hW : Below B W w) (hB : B ≤ W.heap.size) (h0 : B ≤ b0) : Acc B W w' v acc := by
  subst hn
  exact ⟨h.lower h0, hW.trans (hb.mono (Nat.le_trans hB hW.size)), hB⟩
section
variable {ops : Array Oper} {rest : List Oper} {o : Oper} {a : Act} {Q : Exit → Act → World → Prop}
/-- append of what a call has made. -/
theorem wpList_acc (hgd : o.guard = none) (s x : Operand) (ho : o.op = .call { callee := .builtin .append, args := #[s, x], argTypes := #[23, 23] }) (hinfo : (Try.prog.info? 5).map (fun i => (i.zero, i.size, i.bytes)) = some (some (.int .u8 0), 1, 1))
    (B : Nat) (W w w2 : World) (hw : w = w2) (v v' : Value) (acc ys : List UInt8) (hs : a.eval s = v) (hx : a.eval x = v') (hacc : Acc B W w2 v acc) (n : Nat) (hn : n = ys.length) (hsrc : Src w2 v' n 1 (bytesV ys)) (hroom : acc.length + ys.length ≤ 140737488355328)
    (h : ∀ v1 w1, Acc B W w1 v1 (acc ++ ys) → w2.grownBy w1 v.ownBlock → (v1.ownBlock = v.ownBlock ∨ v1.ownBlock = some w2.heap.size) → wpList Try.prog ops Q rest (a.put o.dst v1) w1) : wpList Try.prog ops Q (o :: rest) a w := by
  subst hw hn
  refine wpList_appB hgd s x 23 5 ho B _ 1 1 Try.underlying23 hinfo rfl (by decide) w v hs v' hx acc.length (bytesV acc) hacc.blk ys.length (bytesV ys) hsrc (bytesV_one _) (by omega) hacc.size ?_
  intro v1 w1 hB hg hr
  refine h v1 w1 ⟨by rw [List.length_append, bytesV_append]; exact hB, hacc.bel.grown hg hacc.size (fun k hk => (hacc.blk.lt k hk).1), hacc.le⟩ hg hr
/-- append of a text. -/
theorem wpList_accS (hgd : o.guard = none) (s x : Operand) (ho : o.op = .call { callee := .builtin .append, args := #[s, x], argTypes := #[23, 9] }) (hinfo : (Try.prog.info? 5).map (fun i => (i.zero, i.size, i.bytes)) = some (some (.int .u8 0), 1, 1))
    (B : Nat) (W w w2 : World) (hw : w = w2) (v : Value) (acc : List UInt8) (tx : ByteArray) (hs : a.eval s = v) (hx : a.eval x = .string tx) (hacc : Acc B W w2 v acc) (hroom : acc.length + tx.size ≤ 140737488355328)
    (h : ∀ v1 w1, Acc B W w1 v1 (acc ++ tx.data.toList) → w2.grownBy w1 v.ownBlock → (v1.ownBlock = v.ownBlock ∨ v1.ownBlock = some w2.heap.size) → wpList Try.prog ops Q rest (a.put o.dst v1) w1) : wpList Try.prog ops Q (o :: rest) a w := by
  subst hw
  refine wpList_appStr hgd s x 23 9 5 ho B Try.underlying23 Try.underlying9 hinfo w v hs tx hx acc.length (bytesV acc) hacc.blk hroom hacc.size ?_
  intro v1 w1 hB hg hr
  have hl : tx.data.toList.length = tx.size := by rw [Array.length_toList]; rfl
  refine h v1 w1 ⟨by rw [List.length_append, bytesV_append, hl]; exact hB, hacc.bel.grown hg hacc.size (fun k hk => (hacc.blk.lt k hk).1), hacc.le⟩ hg hr
end
end Go.Proofs.Ytojcciciinklbaa
