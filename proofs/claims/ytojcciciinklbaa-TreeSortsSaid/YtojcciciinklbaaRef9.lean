/- Walks: a row that the document makes of any. No claim by itself. -/
import Derived.Test.YtojcciciinklbaaRef7
set_option linter.unusedSimpArgs false
set_option linter.unusedVariables false
namespace Go.Proofs.Ytojcciciinklbaa
open Go.RowKit

/-- A node without kids that a call has made. -/
def MadeO (o : Own) (L : Live) (w : World) (e : Ending) (w' : World) : Prop := ∃ vd va L', e = .returned (.agg (nodeV o vd va (.slice none 0 0)).toArray) ∧ Fits o ∧ SliceR Rp.byte L' w' o.data vd ∧ SliceR attrR L' w' o.attrs va ∧ Ext L w L' w'
/-- What the call that makes a node does. -/
def NodeOk : Prop := ∀ (g : GV) (Ab : Option Addr) (cb : Nat) (L : Live) (w : World), GFits g → SliceR Rp.byte L w g.b (.slice Ab g.b.length cb) → LOk L w →
    Calls Try.prog 44 #[.agg #[.int .i64 g.kind, .int .i64 g.up, .int .i64 g.name, .int .i64 g.n, .slice Ab g.b.length cb, .string g.s]] w (MadeO (nodeO g) L w)
/-- An entry's cells, in memory. -/
theorem ents_at3 {L : Live} {w : World} {xs : List Ent} {A : Option Addr} {n c : Nat} (h : SliceR entR L w xs (.slice A n c)) (i : Nat) (hi : i < xs.length) : ∃ b off Ad cd Aa ca, A = some ⟨b, off, none⟩ ∧
    (nodeR 1).R L w (.mk xs[i].own []) (nodeV xs[i].own (.slice Ad xs[i].own.data.length cd) (.slice Aa xs[i].own.attrs.length ca) (.slice none 0 0)) ∧ xs[i].deep ≤ 1000000 ∧ xs[i].path.size ≤ big ∧
    w.cell? ⟨b, off + i * 14, none⟩ = some (.int .i64 xs[i].deep) ∧ w.cell? ⟨b, off + i * 14 + 1, none⟩ = some (.string xs[i].path) ∧ w.cell? ⟨b, off + i * 14 + 2, none⟩ = some (.int .i64 xs[i].own.kind) ∧ w.cell? ⟨b, off + i * 14 + 3, none⟩ = some (.string xs[i].own.name) ∧ w.cell? ⟨b, off + i * 14 + 4, none⟩ = some (.int .i64 xs[i].own.mode) ∧ w.cell? ⟨b, off + i * 14 + 5, none⟩ = some (.int .i64 xs[i].own.uid) ∧ w.cell? ⟨b, off + i * 14 + 6, none⟩ = some (.int .i64 xs[i].own.gid) ∧ w.cell? ⟨b, off + i * 14 + 7, none⟩ = some (.int .i64 xs[i].own.mtime) ∧
    w.cell? ⟨b, off + i * 14 + 8, none⟩ = some (.slice Ad xs[i].own.data.length cd) ∧ w.cell? ⟨b, off + i * 14 + 9, none⟩ = some (.string xs[i].own.target) ∧ w.cell? ⟨b, off + i * 14 + 10, none⟩ = some (.int .i64 xs[i].own.major) ∧ w.cell? ⟨b, off + i * 14 + 11, none⟩ = some (.int .i64 xs[i].own.minor) ∧ w.cell? ⟨b, off + i * 14 + 12, none⟩ = some (.slice Aa xs[i].own.attrs.length ca) ∧ w.cell? ⟨b, off + i * 14 + 13, none⟩ = some (.slice none 0 0) := by
  obtain ⟨b, off, cs, hA, ⟨vd, va, rfl, h1, h2, h3, h4, h5⟩, hc⟩ := h.get (by decide) i hi
  obtain ⟨Ad, cd, rfl, _, _, _⟩ := h4.form
  obtain ⟨Aa, ca, rfl, _, _, _⟩ := h5.form
  exact ⟨b, off, Ad, cd, Aa, ca, hA, ⟨_, _, _, rfl, h3, h4, h5, SliceR.nil _ _ _⟩, h1, h2, (hc 0 _ rfl).1, (hc 1 _ rfl).1, (hc 2 _ rfl).1, (hc 3 _ rfl).1, (hc 4 _ rfl).1, (hc 5 _ rfl).1, (hc 6 _ rfl).1, (hc 7 _ rfl).1, (hc 8 _ rfl).1, (hc 9 _ rfl).1, (hc 10 _ rfl).1, (hc 11 _ rfl).1, (hc 12 _ rfl).1, (hc 13 _ rfl).1⟩

theorem Src.eq {w : World} {x y : Value} {m size : Nat} {news : List Value} (h : Src w x m size news) (e : x = y) : Src w y m size news := e ▸ h
theorem path_le {out : List Ent} (h : Tree1 out) (e : Ent) (he : e ∈ out) : e.path.size ≤ 200 := by
  have hf := h.rows.fine e he
  have hd := (h.own e he).2
  have h1 := jn_len 24 ((pieces e.path).map (·.data.toList)) (fun x hx => by
    obtain ⟨y, hy, rfl⟩ := List.mem_map.1 hx
    exact (nameB_no47 (hf.names y hy)).2.2)
  have h2 : e.path.size = (jn ((pieces e.path).map (·.data.toList))).length := by
    conv => lhs; rw [← joinS_pieces e.path]
    rfl
  rw [List.length_map, ← hf.deep] at h1
  have := Nat.mul_le_mul_right (24 + 1) hd
  omega
/-- An entry in a block of its own. -/
def boxE (d : Nat) (p : ByteArray) (o : Own) (Ad : Option Addr) (cd : Nat) (Aa : Option Addr) (ca : Nat) : Obj := .cells #[.int .i64 d, .string p, .int .i64 o.kind, .string o.name, .int .i64 o.mode, .int .i64 o.uid, .int .i64 o.gid, .int .i64 o.mtime, .slice Ad o.data.length cd, .string o.target, .int .i64 o.major, .int .i64 o.minor, .slice Aa o.attrs.length ca, .slice none 0 0] 42
theorem boxE_at {w : World} {b d : Nat} {p : ByteArray} {o : Own} {Ad Aa : Option Addr} {cd ca : Nat} (h : w.heap[b]? = some (boxE d p o Ad cd Aa ca)) :
    w.cell? ⟨b, 0, none⟩ = some (.int .i64 d) ∧ w.cell? ⟨b, 1, none⟩ = some (.string p) ∧ w.cell? ⟨b, 2, none⟩ = some (.int .i64 o.kind) ∧ w.cell? ⟨b, 3, none⟩ = some (.string o.name) ∧ w.cell? ⟨b, 4, none⟩ = some (.int .i64 o.mode) ∧ w.cell? ⟨b, 5, none⟩ = some (.int .i64 o.uid) ∧ w.cell? ⟨b, 6, none⟩ = some (.int .i64 o.gid) ∧ w.cell? ⟨b, 7, none⟩ = some (.int .i64 o.mtime) ∧ w.cell? ⟨b, 8, none⟩ = some (.slice Ad o.data.length cd) ∧ w.cell? ⟨b, 9, none⟩ = some (.string o.target) ∧ w.cell? ⟨b, 10, none⟩ = some (.int .i64 o.major) ∧ w.cell? ⟨b, 11, none⟩ = some (.int .i64 o.minor) ∧ w.cell? ⟨b, 12, none⟩ = some (.slice Aa o.attrs.length ca) ∧ w.cell? ⟨b, 13, none⟩ = some (.slice none 0 0) := by
  unfold boxE at h
  refine ⟨?_, ?_, ?_, ?_, ?_, ?_, ?_, ?_, ?_, ?_, ?_, ?_, ?_, ?_⟩ <;> (rw [cell_block h]; rfl)
theorem gs_at {L : Live} {w : World} {xs : List GV} {A : Option Addr} {n c : Nat} (h : SliceR gR L w xs (.slice A n c)) (i : Nat) (hi : i < xs.length) : ∃ b off Ab cb, A = some ⟨b, off, none⟩ ∧ GFits xs[i] ∧ SliceR Rp.byte L w xs[i].b (.slice Ab xs[i].b.length cb) ∧
    w.cell? ⟨b, off + i * 6, none⟩ = some (.int .i64 xs[i].kind) ∧ w.cell? ⟨b, off + i * 6 + 1, none⟩ = some (.int .i64 xs[i].up) ∧ w.cell? ⟨b, off + i * 6 + 2, none⟩ = some (.int .i64 xs[i].name) ∧ w.cell? ⟨b, off + i * 6 + 3, none⟩ = some (.int .i64 xs[i].n) ∧ w.cell? ⟨b, off + i * 6 + 4, none⟩ = some (.slice Ab xs[i].b.length cb) ∧ w.cell? ⟨b, off + i * 6 + 5, none⟩ = some (.string xs[i].s) := by
  obtain ⟨b, off, cs, hA, ⟨vb, rfl, h1, h2⟩, hc⟩ := h.get (by decide) i hi
  obtain ⟨Ab, cb, rfl, _, _, _⟩ := h2.form
  exact ⟨b, off, Ab, cb, hA, h1, h2, (hc 0 _ rfl).1, (hc 1 _ rfl).1, (hc 2 _ rfl).1, (hc 3 _ rfl).1, (hc 4 _ rfl).1, (hc 5 _ rfl).1⟩
theorem tw_prefix {α : Type} (p : α → Bool) : ∀ (l : List α) (k : Nat), k ≤ (l.takeWhile p).length → ∀ (h : k < l.length), (p l[k] = true → k + 1 ≤ (l.takeWhile p).length) ∧ (p l[k] = false → k = (l.takeWhile p).length)
  | [], k, _, h => absurd h (by simp)
  | a :: l, 0, _, h => by
    simp only [List.getElem_cons_zero, List.takeWhile_cons]
    constructor
    · intro hp; rw [if_pos hp]; simp
    · intro hp; rw [hp]; rfl
  | a :: l, k + 1, hk, h => by
    rw [List.takeWhile_cons] at hk ⊢
    by_cases ha : p a = true
    · rw [if_pos ha] at hk ⊢
      simp only [List.length_cons, List.getElem_cons_succ] at hk h ⊢
      obtain ⟨h1, h2⟩ := tw_prefix p l k (by omega) (by omega)
      exact ⟨fun hp => by have := h1 hp; omega, fun hp => by have := h2 hp; omega⟩
    · rw [if_neg ha] at hk; simp at hk
end Go.Proofs.Ytojcciciinklbaa
