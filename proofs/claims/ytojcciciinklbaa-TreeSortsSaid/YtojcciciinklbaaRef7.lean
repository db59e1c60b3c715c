/- Walks: the tree of a row, as the document makes it. No claim by itself. -/
import Derived.Test.YtojcciciinklbaaRef2
import Derived.BigQuiet
import Derived.BigRegion
set_option linter.unusedSimpArgs false
set_option linter.unusedVariables false
namespace Go.Proofs.Ytojcciciinklbaa
open Go.RowKit

/-- What is below so deep, from a place on. -/
def seg (l : List Ent) (d k : Nat) : List Ent := (l.drop k).takeWhile fun x => decide (d < x.deep)
def nextI (l : List Ent) (i : Nat) : Nat := i + 1 + (seg l (l.getD i default).deep (i + 1)).length
theorem tw_tw {d d' : Nat} (h : d ≤ d') : ∀ r : List Ent, (r.takeWhile fun x => decide (d < x.deep)).takeWhile (fun x => decide (d' < x.deep)) = r.takeWhile (fun x => decide (d' < x.deep)) ∧
    (r.takeWhile fun x => decide (d < x.deep)).dropWhile (fun x => decide (d' < x.deep)) = (r.dropWhile fun x => decide (d' < x.deep)).takeWhile (fun x => decide (d < x.deep))
  | [] => ⟨rfl, rfl⟩
  | x :: r => by
    obtain ⟨h1, h2⟩ := tw_tw h r
    by_cases hd : d < x.deep
    · by_cases hd' : d' < x.deep
      · simp only [List.takeWhile_cons, List.dropWhile_cons, hd, hd', decide_true, if_true, h1, h2, and_self]
      · simp only [List.takeWhile_cons, List.dropWhile_cons, hd, hd', decide_true, decide_false, if_true, Bool.false_eq_true, if_false, and_self]
    · have hd' : ¬ d' < x.deep := by omega
      simp only [List.takeWhile_cons, List.dropWhile_cons, hd, hd', decide_false, Bool.false_eq_true, if_false, List.takeWhile_nil, List.dropWhile_nil, and_self]
theorem seg_stop {l : List Ent} {d k : Nat} (h : ∀ hk : k < l.length, ¬ d < l[k].deep) : seg l d k = [] := by
  unfold seg
  by_cases hk : k < l.length
  · rw [List.drop_eq_getElem_cons hk, List.takeWhile_cons]
    simp [h hk]
  · rw [List.drop_of_length_le (by omega)]; rfl
theorem treeF_at {l : List Ent} {k : Nat} (hk : k < l.length) : treeF (l.drop k) = .mk l[k].own (forest (seg l l[k].deep (k + 1))) := by
  rw [List.drop_eq_getElem_cons hk]; rfl
theorem nextI_at {l : List Ent} {k : Nat} (hk : k < l.length) : nextI l k = k + 1 + (seg l l[k].deep (k + 1)).length := by
  unfold nextI; rw [List.getD, List.getElem?_eq_getElem hk]; rfl
theorem seg_step {l : List Ent} {d k : Nat} (hk : k < l.length) (h : d < l[k].deep) : forest (seg l d k) = treeF (l.drop k) :: forest (seg l d (nextI l k)) ∧ k + (seg l d k).length = nextI l k + (seg l d (nextI l k)).length := by
  have hs : seg l d k = l[k] :: seg l d (k + 1) := by
    unfold seg; rw [List.drop_eq_getElem_cons hk, List.takeWhile_cons]; simp [h]
  obtain ⟨t1, t2⟩ := tw_tw (Nat.le_of_lt h) (l.drop (k + 1))
  have hn := nextI_at hk
  have hd : l.drop (nextI l k) = (l.drop (k + 1)).dropWhile fun x => decide (l[k].deep < x.deep) := by
    rw [hn, ← (take_tw _ (l.drop (k + 1))).2, List.drop_drop]; rfl
  have ha : (seg l d (k + 1)).dropWhile (fun x => decide (l[k].deep < x.deep)) = seg l d (nextI l k) := by
    unfold seg; rw [t2, ← hd]
  have hb : (seg l d (k + 1)).takeWhile (fun x => decide (l[k].deep < x.deep)) = seg l l[k].deep (k + 1) := by
    unfold seg; rw [t1]
  refine ⟨?_, ?_⟩
  · rw [hs, forest_cons, ha, hb, treeF_at hk]
  · have hl := congrArg List.length (List.takeWhile_append_dropWhile (p := fun x : Ent => decide (l[k].deep < x.deep)) (l := seg l d (k + 1)))
    rw [List.length_append, ha, hb] at hl
    rw [hs, List.length_cons]; omega
theorem seg_len (l : List Ent) (d k : Nat) : (seg l d k).length ≤ l.length - k := by
  unfold seg
  have := (List.takeWhile_sublist (l := l.drop k) (fun x => decide (d < x.deep))).length_le
  rwa [List.length_drop] at this

theorem Reps.lift {α : Type} {d d' : Rp α} {L : Live} {w : World} (h : ∀ x cs, d.R L w x cs → d'.R L w x cs) {xs : List α} {cells : List Value} (hr : Reps d L w xs cells) : Reps d' L w xs cells := by
  induction hr with
  | nil => exact .nil
  | cons h1 t ih => exact .cons (h _ _ h1) ih
theorem SliceR.lift {α : Type} {d d' : Rp α} {L : Live} {w : World} (h : ∀ x cs, d.R L w x cs → d'.R L w x cs) {xs : List α} {v : Value} (hs : SliceR d L w xs v) : SliceR d' L w xs v := by
  obtain ⟨A, c, cells, h0, h1, h2, h2', h3, h4, h5⟩ := hs
  exact ⟨A, c, cells, h0, h1, h2, h2', h3.lift h, h4, h5⟩
/-- More floors do not harm. -/
theorem nodeR_up : ∀ (n : Nat) (x : Nd) (cs : List Value) (L : Live) (w : World), (nodeR n).R L w x cs → (nodeR (n + 1)).R L w x cs
  | 0, _, _, _, _, h => h.elim
  | n + 1, x, cs, L, w, h => by
    obtain ⟨vd, va, vk, rfl, hf, h1, h2, h3⟩ := h
    exact ⟨vd, va, vk, rfl, hf, h1, h2, h3.lift fun y ds hy => nodeR_up n y ds L w hy⟩
theorem nodeR_le {n m : Nat} (h : n ≤ m) {x : Nd} {cs : List Value} {L : Live} {w : World} (hr : (nodeR n).R L w x cs) : (nodeR m).R L w x cs := by
  induction h with
  | refl => exact hr
  | step _ ih => exact nodeR_up _ _ _ _ _ ih

/-- A tree that a call has made, and a place. -/
def MadeT (n : Nat) (x : Nd) (k : Nat) (L : Live) (w : World) (e : Ending) (w' : World) : Prop := ∃ cs L', e = .returned (.tuple #[.agg cs.toArray, .int .i64 k]) ∧ (nodeR n).R L' w' x cs ∧ Ext L w L' w'
theorem results_row2 {P : Program} {fn : Func} {p q : Tmp} {ty t g : Nat} {cs : Array Value} {fr : Nat × Nat} {d : TypeDesc} {w : World} {vq : Value} (h : fn.results = #[.cell p ty, .tmp q]) (tmps : Array Value) (hp : tmps.getD p undef = .pointer (some ⟨g, 0, none⟩)) (hq : tmps.getD q undef = vq)
    (hg : w.heap[g]? = some (.cells cs t fr)) (hu : P.underlying ty = some d) (hd : (match d with | .struct _ | .array _ _ => true | _ => false) = true) (hi : (P.info? ty).map (·.size) = some cs.size) :
    (results fn tmps).run P w = .ok (.tuple #[.agg cs, vq]) w := by
  have hl := run_loadVar_row (P := P) w g t ty cs fr d hg hu hd hi
  have hp' := hp
  have hq' := hq
  simp only [Array.getD_eq_getD_getElem?] at hp' hq'
  simp only [results, h]
  simp [Sem.run_bind, hp', hq', asAddr, hl]
end Go.Proofs.Ytojcciciinklbaa

/- Walks: the tree of a row, as the document makes it: the walk. No claim by itself. -/
set_option linter.unusedSimpArgs false
set_option linter.unusedVariables false
namespace Go.Proofs.Ytojcciciinklbaa
open Go.RowKit

/-- An entry's cells, in memory. -/
theorem ents_at2 {L : Live} {w : World} {xs : List Ent} {A : Option Addr} {n c : Nat} (h : SliceR entR L w xs (.slice A n c)) (i : Nat) (hi : i < xs.length) : ∃ b off Ad cd Aa ca, A = some ⟨b, off, none⟩ ∧
    (nodeR 1).R L w (.mk xs[i].own []) (nodeV xs[i].own (.slice Ad xs[i].own.data.length cd) (.slice Aa xs[i].own.attrs.length ca) (.slice none 0 0)) ∧ xs[i].deep ≤ 1000000 ∧ xs[i].path.size ≤ big ∧
    w.cell? ⟨b, off + i * 14, none⟩ = some (.int .i64 xs[i].deep) ∧ w.cell? ⟨b, off + i * 14 + 1, none⟩ = some (.string xs[i].path) ∧ w.cell? ⟨b, off + i * 14 + 2, none⟩ = some (.int .i64 xs[i].own.kind) ∧ w.cell? ⟨b, off + i * 14 + 2 + 1, none⟩ = some (.string xs[i].own.name) ∧ w.cell? ⟨b, off + i * 14 + 2 + 2, none⟩ = some (.int .i64 xs[i].own.mode) ∧ w.cell? ⟨b, off + i * 14 + 2 + 3, none⟩ = some (.int .i64 xs[i].own.uid) ∧ w.cell? ⟨b, off + i * 14 + 2 + 4, none⟩ = some (.int .i64 xs[i].own.gid) ∧ w.cell? ⟨b, off + i * 14 + 2 + 5, none⟩ = some (.int .i64 xs[i].own.mtime) ∧
    w.cell? ⟨b, off + i * 14 + 2 + 6, none⟩ = some (.slice Ad xs[i].own.data.length cd) ∧ w.cell? ⟨b, off + i * 14 + 2 + 7, none⟩ = some (.string xs[i].own.target) ∧ w.cell? ⟨b, off + i * 14 + 2 + 8, none⟩ = some (.int .i64 xs[i].own.major) ∧ w.cell? ⟨b, off + i * 14 + 2 + 9, none⟩ = some (.int .i64 xs[i].own.minor) ∧ w.cell? ⟨b, off + i * 14 + 2 + 10, none⟩ = some (.slice Aa xs[i].own.attrs.length ca) ∧ w.cell? ⟨b, off + i * 14 + 2 + 11, none⟩ = some (.slice none 0 0) := by
  obtain ⟨b, off, cs, hA, ⟨vd, va, rfl, h1, h2, h3, h4, h5⟩, hc⟩ := h.get (by decide) i hi
  obtain ⟨Ad, cd, rfl, _, _, _⟩ := h4.form
  obtain ⟨Aa, ca, rfl, _, _, _⟩ := h5.form
  exact ⟨b, off, Ad, cd, Aa, ca, hA, ⟨_, _, _, rfl, h3, h4, h5, SliceR.nil _ _ _⟩, h1, h2, (hc 0 _ rfl).1, (hc 1 _ rfl).1, (hc 2 _ rfl).1, (hc 3 _ rfl).1, (hc 4 _ rfl).1, (hc 5 _ rfl).1, (hc 6 _ rfl).1, (hc 7 _ rfl).1, (hc 8 _ rfl).1, (hc 9 _ rfl).1, (hc 10 _ rfl).1, (hc 11 _ rfl).1, (hc 12 _ rfl).1, (hc 13 _ rfl).1⟩

/-- The two blocks of a call: what it answers with, and the node that is being made. -/
def zeroB : Obj := .cells #[.int .i64 0, .string ⟨#[]⟩, .int .i64 0, .int .i64 0, .int .i64 0, .int .i64 0, .slice none 0 0, .string ⟨#[]⟩, .int .i64 0, .int .i64 0, .slice none 0 0, .slice none 0 0] 27

theorem Bears.drewN {n : Nat} {x : Nd} {cs : List Value} {L0 L : Live} {w0 w : World} (h : Bears n x cs L0 w0 L w) (k : Nat) : Bears n x cs L0 w0 L (w.drewN k) := ⟨h.ext.drewN k, (nodeR n).mono ((Sub.refl L w).drewN k) h.node⟩
theorem Bears.drew {n : Nat} {x : Nd} {cs : List Value} {L0 L : Live} {w0 w : World} (h : Bears n x cs L0 w0 L w) : Bears n x cs L0 w0 L w.drew := ⟨h.ext.drew, (nodeR n).mono (Sub.refl L w).drew h.node⟩
theorem MadeT.of {n k k' : Nat} {x : Nd} {cs : List Value} {L L' : Live} {w w' : World} (hk : k = k') (h : Bears n x cs L w L' w') : MadeT n x k' L w (.returned (.tuple #[.agg cs.toArray, .int .i64 k])) w' := ⟨cs, L', by rw [hk], h.node, h.ext⟩

set_option maxRecDepth 100000 in
set_option maxHeartbeats 8000000 in
theorem rtree_any : ∀ (n : Nat) (l : List Ent) (i : Nat) (v : Value) (L : Live) (w : World), SliceR entR L w l v → i < l.length → l.length - i ≤ n → l.length ≤ 1000000 → LOk L w →
    Calls Try.prog 38 #[v, .int .i64 i] w (MadeT n (treeF (l.drop i)) (nextI l i) L w) := by
  intro n
  induction n with
  | zero => intro l i v L w _ h1 h2; omega
  | succ n ih =>
    intro l i v L w hS hi hn hl hok
    obtain ⟨A, c, rfl, hc1, _, hc2⟩ := hS.form
    obtain ⟨b, off, Ad, cd, Aa, ca, rfl, hR, _, _, c0, c1, c2, c3, c4, c5, c6, c7, c8, c9, c10, c11, c12, c13⟩ := ents_at2 hS i hi
    have hT := treeF_at hi
    have hNx := nextI_at hi
    obtain ⟨d, hd⟩ : ∃ d, d = l[i].deep := ⟨_, rfl⟩
    obtain ⟨o, ho⟩ : ∃ o, o = l[i].own := ⟨_, rfl⟩
    rw [← hd] at hT hNx c0
    rw [← ho] at hT hR c2 c3 c4 c5 c6 c7 c8 c9 c10 c11 c12
    have Hd := Lib.hid hd; have HT := Lib.hid hT; have HNx := Lib.hid hNx; have HS := Lib.hid hS; have Hok := Lib.hid hok
    have C0 := Lib.hid c0
    obtain ⟨_, _, _, he, hF, hDt, hAt, _⟩ := hR
    simp only [nodeV, List.cons.injEq, and_true, true_and] at he
    obtain ⟨_, _, _, _, _, _, rfl, _, _, _, rfl, rfl⟩ := he
    have HF := Lib.hid hF
    have HRd := Lib.hid hDt; have HRa := Lib.hid hAt
    clear hd hT hNx hS ho hok c0 c1 hF hDt hAt
    have c27 := cellsNode
    have ii : IntKind.i64.wrap ((i : Int) + 1) = ((i + 1 : Nat) : Int) := by rw [IntWalk.i64_in _ (by omega)]; omega
    go_enter Try.func38, Try.ntmps38
    go_upto_region 1 with fail
    obtain ⟨w1, hw1⟩ : ∃ w1, w1 = w.alloc zeroB := ⟨_, rfl⟩
    have hX1 : Ext L w L w1 := by rw [hw1]; exact (Ext.refl Hok.out).alloc _
    have hz1 : w1.heap[w.heap.size]? = some zeroB := by rw [hw1]; exact heap_alloc_new w _
    have hsz1 : w1.heap.size = w.heap.size + 1 := by rw [hw1]; simp
    have kk : ∀ {p : Addr} {u : Value}, w.cell? p = some u → w1.cell? p = some u := fun hu => (hX1.below.cell (World.block_lt_of_cell? w _ hu)).trans hu
    replace c2 := kk c2; replace c3 := kk c3; replace c4 := kk c4; replace c5 := kk c5; replace c6 := kk c6; replace c7 := kk c7; replace c8 := kk c8; replace c9 := kk c9; replace c10 := kk c10; replace c11 := kk c11; replace c12 := kk c12; replace c13 := kk c13
    have HX1 := Lib.hid hX1; have HZ1 := Lib.hid hz1
    unfold zeroB at hw1
    rw [← hw1]
    clear hX1 hz1 kk hw1
    go_wp2_with fail
    obtain ⟨w2, hw2⟩ : ∃ w2, w2 = w1.alloc (boxO o Ad cd Aa ca none 0 0) := ⟨_, rfl⟩
    have hX2 : Ext L w L w2 := by rw [hw2]; exact HX1.out.alloc _
    have hb2 : w2.heap[w.heap.size + 1]? = some (boxO o Ad cd Aa ca none 0 0) := by rw [hw2, ← hsz1]; exact heap_alloc_new w1 _
    have hz2 : w2.heap[w.heap.size]? = some zeroB := by rw [hw2]; exact (Below.heap_alloc _ _ _ (by omega)).trans HZ1.out
    have HX2 := Lib.hid hX2; have HB2 := Lib.hid hb2; have HZ2 := Lib.hid hz2
    have HN2 : Hid (∀ j, ¬ L w.heap.size j ∧ ¬ L (w.heap.size + 1) j) := Lib.hid (fun j => ⟨not_live Hok.out (Nat.le_refl _) j, not_live Hok.out (by omega) j⟩)
    show Code.wp _ _ _ _ (w1.alloc (boxO o Ad cd Aa ca none 0 0))
    rw [← hw2]
    clear hX2 hb2 hz2 hw2 HX1 HZ1 hsz1 c2 c3 c4 c5 c6 c7 c8 c9 c10 c11 c12 c13
    have HD : Hid (SliceR Rp.byte L w o.data (.slice Ad o.data.length cd)) := HRd
    have HA : Hid (SliceR attrR L w o.attrs (.slice Aa o.attrs.length ca)) := HRa
    clear HRd HRa
    go_loopw [7] (fun t wr => ∃ (k lk : Nat) (ys : List Nd) (cells : List Value) (Lk : Live) (Ak : Option Addr) (ck : Nat), k ≤ l.length ∧ i + 1 ≤ k ∧ t = .int .i64 k ∧ lk ≤ k ∧ ys.length = lk ∧ Hid (ys ++ forest (seg l d k) = forest (seg l d (i + 1))) ∧ Hid (k + (seg l d k).length = i + 1 + (seg l d (i + 1)).length) ∧
      Hid (Out (nodeR n) Lk wr (w.heap.size + 2) 27 (.slice Ak lk ck) ys cells) ∧ Hid (Ext L w Lk wr) ∧ Hid (wr.heap[w.heap.size]? = some zeroB) ∧ Hid (wr.heap[w.heap.size + 1]? = some (boxO o Ad cd Aa ca Ak lk ck)) ∧ Hid (∀ j, ¬ Lk w.heap.size j ∧ ¬ Lk (w.heap.size + 1) j)) (fun t _ => l.length - (intOf t).toNat)
    case atStart => exact ⟨i + 1, 0, [], [], L, none, 0, by omega, Nat.le_refl _, by go_num, Nat.zero_le _, rfl, Lib.hid rfl, Lib.hid rfl, Lib.hid (Out.nil _ _ _ _ _), HX2, HZ2, HB2, HN2⟩
    case round =>
      clear HX2 HZ2 HB2 HN2
      obtain ⟨k, lk, ys, cells, Lk, Ak, ck, hk, hik, rfl, hyk, hyl, HI, HJ, HO, HX, HZ, HBx, HN⟩ := hrel
      have hb : w.heap.size + 2 ≤ wr.heap.size := (Array.getElem?_eq_some_iff.1 HBx.out).1
      have ci := (HX.out.below.cell (World.block_lt_of_cell? w _ C0.out)).trans C0.out
      have hlen1 : IntKind.i64.wrap ((l.length : Int) - 1) = (l.length : Int) - 1 := by rw [IntWalk.i64_in _ (by omega)]
      have hiI : (i : Int) < (l.length : Int) := by omega
      by_cases hlt : k < l.length
      · have hkI : (k : Int) < (l.length : Int) := by omega
        have hkd : decide ((k : Int) < (l.length : Int)) = true := decide_eq_true hkI
        have hmin : min (k : Int) ((l.length : Int) - 1) = (k : Int) := by omega
        obtain ⟨b', off', _, _, _, _, hbo, _, _, _, ck0, _⟩ := ents_at2 HS.out k hlt
        simp only [Option.some.injEq, Addr.mk.injEq, and_true] at hbo
        obtain ⟨rfl, rfl⟩ := hbo
        replace ck0 := (HX.out.below.cell (World.block_lt_of_cell? w _ ck0)).trans ck0
        obtain ⟨dk, hdk⟩ : ∃ dk, dk = l[k].deep := ⟨_, rfl⟩
        rw [← hdk] at ck0
        by_cases hdeep : d < dk
        · have hdI : (d : Int) < (dk : Int) := by omega
          obtain ⟨HF1, HF2⟩ := seg_step (d := d) hlt (by rw [← hdk]; exact hdeep)
          have HF1 := Lib.hid HF1; have HF2 := Lib.hid HF2
          have hnk : k + 1 ≤ nextI l k ∧ nextI l k ≤ l.length := by
            have h1 := nextI_at hlt
            have h2 := seg_len l l[k].deep (k + 1)
            omega
          clear hdk
          go_wp2
          go_quiet (fail)
          go_wp2_with fail
          have hXd : Ext L w Lk wr.drew := HX.out.drew
          have HXd := Lib.hid hXd
          clear hXd
          refine (ih l k _ Lk _ (HS.out.mono (Ext.sub Hok.out (by first | exact HXd.out | exact HX.out.drewN _ | exact HX.out))) hlt (by omega) hl (by first | exact HXd.out.ok | exact (HX.out.drewN _).ok | exact HX.out.ok)).mono ?_
          rintro e w4 ⟨cs4, L4, rfl, h4, x4⟩
          obtain ⟨m4, Ad4, cd4, Aa4, ca4, Ak4, ck4, hm4, rfl, hP4, _, _, _, _, _, _⟩ := node_open h4
          have x4' : Ext Lk wr L4 w4 := by first | exact (Ext.refl HX.out.ok).drew.trans x4 | exact ((Ext.refl HX.out.ok).drewN _).trans x4 | exact x4
          have HX4 := Lib.hid (HX.out.trans x4')
          have HO4 := Lib.hid (HO.out.ext HX.out.ok x4')
          have hs4 := x4'.below.size
          have HZ4 := Lib.hid ((x4'.below.block _ (by omega)).trans HZ.out)
          have HB4 := Lib.hid ((x4'.below.block _ (by omega)).trans HBx.out)
          have HN4 : Hid (∀ j, ¬ L4 w.heap.size j ∧ ¬ L4 (w.heap.size + 1) j) := Lib.hid (fun j => ⟨Ext.not_live x4' (by omega) (fun j => (HN.out j).1) j, Ext.not_live x4' (by omega) (fun j => (HN.out j).2) j⟩)
          obtain ⟨y, hy⟩ : ∃ y, y = treeF (l.drop k) := ⟨_, rfl⟩
          rw [← hy] at h4 HF1 ⊢
          have H4 := Lib.hid h4
          clear h4 x4 x4' hP4 hm4 hy HX HO HZ HBx HN HXd ci ck0
          unfold nodeV
          obtain ⟨p0, p1, p2, p3, p4, p5, p6, p7, p8, p9, p10, p11⟩ := twelve_box HB4.out
          go_upto_region 5 with fail
          obtain ⟨w5, hw5⟩ : ∃ w5, w5 = w4.alloc (boxO y.own Ad4 cd4 Aa4 ca4 Ak4 y.kids.length ck4) := ⟨_, rfl⟩
          have hX5 : Ext L4 w4 L4 w5 := by rw [hw5]; exact (Ext.refl HX4.out.ok).alloc _
          have hb5 : w5.heap[w4.heap.size]? = some (boxO y.own Ad4 cd4 Aa4 ca4 Ak4 y.kids.length ck4) := by rw [hw5]; exact heap_alloc_new w4 _
          show Code.wp _ _ _ _ (w4.alloc (boxO y.own Ad4 cd4 Aa4 ca4 Ak4 y.kids.length ck4))
          rw [← hw5]
          have hs5 := hX5.below.size
          have HB5 := Lib.hid ((hX5.below.block _ (by omega)).trans HB4.out)
          have HZ5 := Lib.hid ((hX5.below.block _ (by omega)).trans HZ4.out)
          have HO5 := Lib.hid (HO4.out.ext HX4.out.ok hX5)
          have H5 := Lib.hid ((nodeR n).mono (Ext.sub HX4.out.ok hX5) H4.out)
          have HX5 := Lib.hid (HX4.out.trans hX5)
          obtain ⟨q0, q1, q2, q3, q4, q5, q6, q7, q8, q9, q10, q11⟩ := twelve_box hb5
          clear hX5 hb5 hw5 p0 p1 p2 p3 p4 p5 p6 p7 p8 p9 p10 p11
          obtain ⟨p0, p1, p2, p3, p4, p5, p6, p7, p8, p9, p10, p11⟩ := twelve_box HB5.out
          clear HX4 HO4 HZ4 HB4 H4
          go_wp2_with (at_builtin; refine wpList_appB rfl (.tmp 45) (.tmp 47) 25 27 rfl (w.heap.size + 2) _ 12 160 Try.underlying25 Try.infoNode rfl (by decide) _ _ rfl _ rfl lk cells ?c1 1 (nodeV y.own (.slice Ad4 y.own.data.length cd4) (.slice Aa4 y.own.attrs.length ca4) (.slice Ak4 y.kids.length ck4)) ?c2 ?c3 ?c4 ?c5 ?_)
          case c1 => have := HO5.out.1.below ((Below.refl _ w5).alloc (Nat.le_refl _) (.cells (nodeV y.own (.slice Ad4 y.own.data.length cd4) (.slice Aa4 y.own.attrs.length ca4) (.slice Ak4 y.kids.length ck4)).toArray 27)); rw [nodeR_sz, hyl] at this; exact this
          case c2 => exact Src.new w5 27 12 1 1 (nodeV y.own (.slice Ad4 y.own.data.length cd4) (.slice Aa4 y.own.attrs.length ca4) (.slice Ak4 y.kids.length ck4)) rfl
          case c3 => exact nodeV_one rfl rfl rfl
          case c4 => omega
          case c5 => simp; omega
          intro v6 w6 hB6 hg6 hrow6
          have hlow := HO5.out.1.lt
          have hO6 := HO5.out.snoc (w1 := w5.alloc (.cells (nodeV y.own (.slice Ad4 y.own.data.length cd4) (.slice Aa4 y.own.attrs.length ca4) (.slice Ak4 y.kids.length ck4)).toArray 27)) HX5.out.ok ((Below.refl _ w5).alloc (Nat.le_refl _) _) (by rw [nodeR_sz, hyl]; exact hB6) hg6 (by simpa using hrow6) H5.out
          have hX6 := grown_ext (HX5.out.alloc (.cells (nodeV y.own (.slice Ad4 y.own.data.length cd4) (.slice Aa4 y.own.attrs.length ca4) (.slice Ak4 y.kids.length ck4)).toArray 27)) hg6 (fun g hg => by have := (hlow g hg).1; omega)
          have b6 := (hg6.block (w.heap.size + 1) (by simp; omega) (fun e => by have := (hlow _ e.symm).1; omega)).trans ((Below.heap_alloc w5 (.cells (nodeV y.own (.slice Ad4 y.own.data.length cd4) (.slice Aa4 y.own.attrs.length ca4) (.slice Ak4 y.kids.length ck4)).toArray 27) _ (by omega)).trans HB5.out)
          have z6 := (hg6.block w.heap.size (by simp; omega) (fun e => by have := (hlow _ e.symm).1; omega)).trans ((Below.heap_alloc w5 (.cells (nodeV y.own (.slice Ad4 y.own.data.length cd4) (.slice Aa4 y.own.attrs.length ca4) (.slice Ak4 y.kids.length ck4)).toArray 27) _ (by omega)).trans HZ5.out)
          obtain ⟨A6, c6, rfl, _, _⟩ := hB6.form
          obtain ⟨r0, r1, r2, r3, r4, r5, r6, r7, r8, r9, r10, r11⟩ := twelve_box b6
          obtain ⟨f0, f1, f2, f3, f4, f5, f6, f7, f8, f9, f10, f11⟩ := twelve_free b6
          have b7 : (w6.setCell ⟨w.heap.size + 1, 11, none⟩ (.slice A6 (lk + 1) c6)).heap[w.heap.size + 1]? = some (boxO o Ad cd Aa ca A6 (lk + 1) c6) := (heap_setCell_same (j := 11) b6 _).trans rfl
          have z7 : (w6.setCell ⟨w.heap.size + 1, 11, none⟩ (.slice A6 (lk + 1) c6)).heap[w.heap.size]? = some zeroB := (heap_set_ne _ _ _ (by omega)).trans z6
          have hX7 := hX6.setCell (p := ⟨w.heap.size + 1, 11, none⟩) (by simp) (.slice A6 (lk + 1) c6)
          have hO7 : Out (nodeR n) L4 (w6.setCell ⟨w.heap.size + 1, 11, none⟩ (.slice A6 (lk + 1) c6)) (w.heap.size + 2) 27 (.slice A6 (lk + 1) c6) (ys ++ [y]) (cells ++ (nodeV y.own (.slice Ad4 y.own.data.length cd4) (.slice Aa4 y.own.attrs.length ca4) (.slice Ak4 y.kids.length ck4))) :=
            ⟨hO6.1.kept (fun k hk => heap_set_ne _ _ _ (by have := (hO6.1.lt k hk).1; omega)), hO6.2.1.mono (sub_set fun j => (HN4.out j).2), hO6.2.2⟩
          have HI7 : Hid ((ys ++ [y]) ++ forest (seg l d (nextI l k)) = forest (seg l d (i + 1))) := Lib.hid (by rw [← HI.out, HF1.out]; simp)
          have HJ7 : Hid (nextI l k + (seg l d (nextI l k)).length = i + 1 + (seg l d (i + 1)).length) := Lib.hid (by rw [← HJ.out, HF2.out])
          have B7 := Lib.hid b7; have Z7 := Lib.hid z7; have HX7 := Lib.hid hX7; have HO7 := Lib.hid hO7
          clear b7 z7 hX7 hO7 b6 z6 hX6 hO6 hlow hB6 hg6 hrow6 p0 p1 p2 p3 p4 p5 p6 p7 p8 p9 p10 p11 q0 q1 q2 q3 q4 q5 q6 q7 q8 q9 q10 q11
          go_wp2_with fail
          go_roundw
          case rel => exact ⟨nextI l k, lk + 1, ys ++ [y], _, L4, A6, c6, hnk.2, by omega, rfl, by omega, by simp [hyl], HI7, HJ7, HO7, HX7, Z7, B7, HN4⟩
          case measure => simp [intOf]; omega
        · have hdI : ¬ (d : Int) < (dk : Int) := by omega
          have HSg : Hid (seg l d k = []) := Lib.hid (seg_stop fun _ => by rw [← hdk]; exact hdeep)
          clear hdk
          obtain ⟨L7, hS7, _, hX7, hL7⟩ := HO.out.publish_ext HX.out (by omega) (by simp only [big]; omega)
          have hn7 : ∀ j, ¬ L7 w.heap.size j := fun j hj => by
            rw [hL7 w.heap.size (fun e => by have := (HO.out.1.lt _ e.symm).1; omega)] at hj
            exact (HN.out j).1 hj
          have hB : Bears (n + 1) (treeF (l.drop i)) (nodeV o (.slice Ad o.data.length cd) (.slice Aa o.attrs.length ca) (.slice Ak lk ck)) L w L7 wr :=
            ⟨hX7, by
              rw [HT.out, ← HI.out, HSg.out, forest_nil, List.append_nil]
              exact ⟨_, _, _, rfl, HF.out, HD.out.mono (Ext.sub Hok.out hX7), HA.out.mono (Ext.sub Hok.out hX7), hS7⟩⟩
          have HBr := Lib.hid hB; have HN7 := Lib.hid hn7
          have HK : Hid (k = nextI l i) := Lib.hid (by have h1 := HJ.out; rw [HSg.out, List.length_nil] at h1; rw [HNx.out]; omega)
          obtain ⟨n0, n1, n2, n3, n4, n5, n6, n7, n8, n9, n10, n11⟩ := twelve_box HBx.out
          obtain ⟨p0, p1, p2, p3, p4, p5, p6, p7, p8, p9, p10, p11⟩ := twelve HZ.out
          obtain ⟨q0, q1, q2, q3, q4, q5, q6, q7, q8, q9, q10, q11⟩ := twelve_free HZ.out
          clear hS7 hX7 hL7 hn7 hB HO HX HN HI HJ HSg
          go_wp2
          go_quiet (fail)
          go_wp2
          refine bodyPost_ret (v := .tuple #[.agg (nodeV o (.slice Ad o.data.length cd) (.slice Aa o.attrs.length ca) (.slice Ak lk ck)).toArray, .int .i64 k]) (results_row2 rfl _ rfl rfl (fill12 (by exact HZ.out) _ _ _ _ _ _ _ _ _ _ _ _) Try.underlying27 rfl (by kernel_rfl)) rfl ?_
          refine MadeT.of (L' := L7) HK.out ?_
          repeat (first | (with_reducible refine Bears.set ?_ (Nat.le_refl _) HN7.out _ _) | (with_reducible refine Bears.drewN ?_ _) | (with_reducible refine Bears.drew ?_) | (with_reducible exact HBr.out))
      · have hkd : decide ((k : Int) < (l.length : Int)) = false := decide_eq_false (by omega)
        have hkn : ¬ (k : Int) < (l.length : Int) := by omega
        have HSg : Hid (seg l d k = []) := Lib.hid (seg_stop fun h => absurd h hlt)
        obtain ⟨L7, hS7, _, hX7, hL7⟩ := HO.out.publish_ext HX.out (by omega) (by simp only [big]; omega)
        have hn7 : ∀ j, ¬ L7 w.heap.size j := fun j hj => by
          rw [hL7 w.heap.size (fun e => by have := (HO.out.1.lt _ e.symm).1; omega)] at hj
          exact (HN.out j).1 hj
        have hB : Bears (n + 1) (treeF (l.drop i)) (nodeV o (.slice Ad o.data.length cd) (.slice Aa o.attrs.length ca) (.slice Ak lk ck)) L w L7 wr :=
          ⟨hX7, by
            rw [HT.out, ← HI.out, HSg.out, forest_nil, List.append_nil]
            exact ⟨_, _, _, rfl, HF.out, HD.out.mono (Ext.sub Hok.out hX7), HA.out.mono (Ext.sub Hok.out hX7), hS7⟩⟩
        have HBr := Lib.hid hB; have HN7 := Lib.hid hn7
        have HK : Hid (k = nextI l i) := Lib.hid (by have h1 := HJ.out; rw [HSg.out, List.length_nil] at h1; rw [HNx.out]; omega)
        obtain ⟨n0, n1, n2, n3, n4, n5, n6, n7, n8, n9, n10, n11⟩ := twelve_box HBx.out
        obtain ⟨p0, p1, p2, p3, p4, p5, p6, p7, p8, p9, p10, p11⟩ := twelve HZ.out
        obtain ⟨q0, q1, q2, q3, q4, q5, q6, q7, q8, q9, q10, q11⟩ := twelve_free HZ.out
        clear hS7 hX7 hL7 hn7 hB HO HX HN HI HJ HSg
        go_wp2
        go_quiet (fail)
        go_wp2
        refine bodyPost_ret (v := .tuple #[.agg (nodeV o (.slice Ad o.data.length cd) (.slice Aa o.attrs.length ca) (.slice Ak lk ck)).toArray, .int .i64 k]) (results_row2 rfl _ rfl rfl (fill12 (by exact HZ.out) _ _ _ _ _ _ _ _ _ _ _ _) Try.underlying27 rfl (by kernel_rfl)) rfl ?_
        refine MadeT.of (L' := L7) HK.out ?_
        repeat (first | (with_reducible refine Bears.set ?_ (Nat.le_refl _) HN7.out _ _) | (with_reducible refine Bears.drewN ?_ _) | (with_reducible refine Bears.drew ?_) | (with_reducible exact HBr.out))
end Go.Proofs.Ytojcciciinklbaa
