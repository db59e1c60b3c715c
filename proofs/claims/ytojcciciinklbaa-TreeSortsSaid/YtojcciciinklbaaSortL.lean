/- TreeSorts, walked: a tree whose kids stand in another row is sorted to what it was. No claim by itself. -/
import Derived.Test.YtojcciciinklbaaRef12
import Derived.Test.YtojcciciinklbaaRef5
import Derived.Test.YtojcciciinklbaaTree13
import Derived.Test.YtojcciciinklbaaSortW
import Derived.Test.YtojcciciinklbaaRoundW
set_option linter.unusedSimpArgs false
set_option linter.unusedVariables false
namespace Go.Proofs.Ytojcciciinklbaa
open Go.RowKit

theorem made_good (gs : List GV) : mayI (madeF gs) = 0 ∧ count (madeF gs) ≤ 13 ∧ namesOk (madeF gs) ∧ bulk (madeF gs) ≤ 1000000 := by
  have hl := row_len gs
  obtain ⟨s1, s2, s3, s4⟩ := row_small (row_pos gs) hl (rowF_small gs)
  exact ⟨(row_tree gs).mayI (by omega), s1, s3, s4⟩
theorem made_form (gs : List GV) : formB (madeF gs) = true := by
  have h := (made_good gs).1
  unfold mayI at h
  by_cases hf : (rootB (madeF gs) && formB (madeF gs)) = true
  · simp only [Bool.and_eq_true] at hf; exact hf.2
  · rw [if_neg hf] at h; exact absurd h (by decide)

set_option maxRecDepth 100000 in
set_option maxHeartbeats 16000000 in
theorem sortlaw_walk (gs : List GV) (v : Value) (W : World) (hS : SliceR gR (Lw W) W gs v) :
    Calls Try.prog 7 #[v] W fun e w' => e = .returned (.bool true) ∧ Below W.heap.size W w' := by
  have HS := Lib.hid hS
  clear hS
  have c27 := cellsNode
  go_enter Try.func7, Try.ntmps7
  go_wp2_with fail
  refine (rmade_any gs v (Lw W) W HS.out (Lw_ok W)).mono ?_
  rintro e w1 ⟨cs1, L1, rfl, h1', x1⟩
  obtain ⟨m1, Adx, cdx, Aax, cax, Akx, ckx, hm1, rfl, hP1, _, _, _, _, _, _⟩ := node_open h1'
  obtain ⟨_, fx3, fx5, fx6⟩ := made_good gs
  have hso := sort_same _ (madeF gs) (Nat.le_refl _) (made_form gs)
  obtain ⟨x, hx⟩ : ∃ x, x = madeF gs := ⟨_, rfl⟩
  rw [← hx] at h1' hP1 fx3 fx5 fx6 hso ⊢
  have HE1 := Lib.hid x1; have HN1 := Lib.hid h1'; have HX5 := Lib.hid fx5
  have HSo1 : Hid (∀ y, SortRel x y → y = x) := Lib.hid hso.1
  have HSo2 : Hid (∀ y, SortRel (roundN x) y → y = x) := Lib.hid hso.2
  have hs1 := x1.below.size
  clear h1' hP1 hm1 x1 hx fx5 hso
  unfold nodeV
  go_upto_region 2 with fail
  obtain ⟨w2, hw2⟩ : ∃ y, y = w1.alloc (boxO x.own Adx cdx Aax cax Akx x.kids.length ckx) := ⟨_, rfl⟩
  have hs2 : w1.heap.size < w2.heap.size := by rw [hw2]; simp
  have HE2 : Hid (Ext (Lw W) W L1 w2) := Lib.hid (by rw [hw2]; exact HE1.out.alloc _)
  have hb2 : Below w1.heap.size w1 w2 := by rw [hw2]; exact (Below.refl _ _).alloc (Nat.le_refl _) _
  have HBx2 : Hid (w2.heap[w1.heap.size]? = some (boxO x.own Adx cdx Aax cax Akx x.kids.length ckx)) := Lib.hid (by rw [hw2]; exact heap_alloc_new w1 _)
  have HN2 : Hid ((nodeR 13).R L1 w2 x (nodeV x.own (.slice Adx x.own.data.length cdx) (.slice Aax x.own.attrs.length cax) (.slice Akx x.kids.length ckx))) := Lib.hid ((nodeR 13).mono (sub_same hb2) HN1.out)
  show Code.wp _ _ _ _ (w1.alloc (boxO x.own Adx cdx Aax cax Akx x.kids.length ckx))
  rw [← hw2]
  clear hw2 hb2 HN1 HE1
  have HOk : Hid (LOk L1 w2) := Lib.hid HE2.out.ok
  have Hbt : Hid (eqB x x = true) := Lib.hid (eqB_true rfl)
  have hrb : bulk (roundN x) ≤ 1000000 := by rw [round_bulk]; exact fx6
  have hrc : count (roundN x) ≤ 20 := by rw [round_count]; omega
  obtain ⟨r, hr⟩ : ∃ r, r = roundN x := ⟨_, rfl⟩
  have HRd : Hid (∀ (cs : List Value) (L : Live) (w : World), (nodeR 13).R L w x cs → LOk L w → Calls Try.prog 32 #[.agg cs.toArray] w (MadeN 13 r L w)) := Lib.hid (fun cs L w h1 h2 => by rw [hr]; exact round_any 13 x cs L w h1 fx6 h2)
  rw [← hr] at hrb hrc HSo2
  clear hr
  refine wp_named _ ?_
  intro l0 hl0
  obtain ⟨E, hE⟩ : ∃ E : Option Addr → Nat → Option Addr → Nat → Option Addr → Nat → Option Addr → Nat → Option Addr → Nat → Option Addr → Nat → Option Addr → Nat → Option Addr → Nat → Option Addr → Nat → Live → List (Nat × Nat × Value), E = fun Adr cdr Aar car Akr ckr Adp cdp Aap cap Akp ckp Adq cdq Aaq caq Akq ckq Lv => [(0, 6, .agg #[.int .i64 x.own.kind, .string x.own.name, .int .i64 x.own.mode, .int .i64 x.own.uid, .int .i64 x.own.gid, .int .i64 x.own.mtime, .slice Adx x.own.data.length cdx, .string x.own.target, .int .i64 x.own.major, .int .i64 x.own.minor, .slice Aax x.own.attrs.length cax, .slice Akx x.kids.length ckx]), (1, 7, .agg #[.int .i64 r.own.kind, .string r.own.name, .int .i64 r.own.mode, .int .i64 r.own.uid, .int .i64 r.own.gid, .int .i64 r.own.mtime, .slice Adr r.own.data.length cdr, .string r.own.target, .int .i64 r.own.major, .int .i64 r.own.minor, .slice Aar r.own.attrs.length car, .slice Akr r.kids.length ckr]), (2, 8, .agg #[.int .i64 x.own.kind, .string x.own.name, .int .i64 x.own.mode, .int .i64 x.own.uid, .int .i64 x.own.gid, .int .i64 x.own.mtime, .slice Adp x.own.data.length cdp, .string x.own.target, .int .i64 x.own.major, .int .i64 x.own.minor, .slice Aap x.own.attrs.length cap, .slice Akp x.kids.length ckp]), (3, 9, .agg #[.int .i64 x.own.kind, .string x.own.name, .int .i64 x.own.mode, .int .i64 x.own.uid, .int .i64 x.own.gid, .int .i64 x.own.mtime, .slice Adx x.own.data.length cdx, .string x.own.target, .int .i64 x.own.major, .int .i64 x.own.minor, .slice Aax x.own.attrs.length cax, .slice Akx x.kids.length ckx]), (4, 10, .bool true), (5, 11, .bool true), (6, 12, .agg #[.int .i64 x.own.kind, .string x.own.name, .int .i64 x.own.mode, .int .i64 x.own.uid, .int .i64 x.own.gid, .int .i64 x.own.mtime, .slice Adx x.own.data.length cdx, .string x.own.target, .int .i64 x.own.major, .int .i64 x.own.minor, .slice Aax x.own.attrs.length cax, .slice Akx x.kids.length ckx]), (7, 13, .agg #[.int .i64 x.own.kind, .string x.own.name, .int .i64 x.own.mode, .int .i64 x.own.uid, .int .i64 x.own.gid, .int .i64 x.own.mtime, .slice Adq x.own.data.length cdq, .string x.own.target, .int .i64 x.own.major, .int .i64 x.own.minor, .slice Aaq x.own.attrs.length caq, .slice Akq x.kids.length ckq]), (8, 14, .agg #[.int .i64 x.own.kind, .string x.own.name, .int .i64 x.own.mode, .int .i64 x.own.uid, .int .i64 x.own.gid, .int .i64 x.own.mtime, .slice Adx x.own.data.length cdx, .string x.own.target, .int .i64 x.own.major, .int .i64 x.own.minor, .slice Aax x.own.attrs.length cax, .slice Akx x.kids.length ckx]), (9, 15, .bool true), (10, 16, .bool true), (11, 17, .bool true), (12, 18, .bool true), (13, 19, .bool true), (14, 2, .bool true)] := ⟨_, rfl⟩
  have hlen : l0.length = 20 := by rw [hl0]; rfl
  have hE1 : ∀ (Adr : Option Addr) (cdr : Nat) (Aar : Option Addr) (car : Nat) (Akr : Option Addr) (ckr : Nat) (Adp : Option Addr) (cdp : Nat) (Aap : Option Addr) (cap : Nat) (Akp : Option Addr) (ckp : Nat) (Adq : Option Addr) (cdq : Nat) (Aaq : Option Addr) (caq : Nat) (Akq : Option Addr) (ckq : Nat) (Lv : Live), (E Adr cdr Aar car Akr ckr Adp cdp Aap cap Akp ckp Adq cdq Aaq caq Akq ckq Lv).map (fun t => t.1) = [0, 1, 2, 3, 4, 5, 6, 7, 8, 9, 10, 11, 12, 13, 14] := fun Adr cdr Aar car Akr ckr Adp cdp Aap cap Akp ckp Adq cdq Aaq caq Akq ckq Lv => by rw [hE]; rfl
  have hE2 : ∀ (Adr : Option Addr) (cdr : Nat) (Aar : Option Addr) (car : Nat) (Akr : Option Addr) (ckr : Nat) (Adp : Option Addr) (cdp : Nat) (Aap : Option Addr) (cap : Nat) (Akp : Option Addr) (ckp : Nat) (Adq : Option Addr) (cdq : Nat) (Aaq : Option Addr) (caq : Nat) (Akq : Option Addr) (ckq : Nat) (Lv : Live), (E Adr cdr Aar car Akr ckr Adp cdp Aap cap Akp ckp Adq cdq Aaq caq Akq ckq Lv).map (fun t => t.2.1) = [6, 7, 8, 9, 10, 11, 12, 13, 14, 15, 16, 17, 18, 19, 2] := fun Adr cdr Aar car Akr ckr Adp cdp Aap cap Akp ckp Adq cdq Aaq caq Akq ckq Lv => by rw [hE]; rfl
  have m0 : ∀ (Adr : Option Addr) (cdr : Nat) (Aar : Option Addr) (car : Nat) (Akr : Option Addr) (ckr : Nat) (Adp : Option Addr) (cdp : Nat) (Aap : Option Addr) (cap : Nat) (Akp : Option Addr) (ckp : Nat) (Adq : Option Addr) (cdq : Nat) (Aaq : Option Addr) (caq : Nat) (Akq : Option Addr) (ckq : Nat) (Lv : Live), (0, 6, (.agg #[.int .i64 x.own.kind, .string x.own.name, .int .i64 x.own.mode, .int .i64 x.own.uid, .int .i64 x.own.gid, .int .i64 x.own.mtime, .slice Adx x.own.data.length cdx, .string x.own.target, .int .i64 x.own.major, .int .i64 x.own.minor, .slice Aax x.own.attrs.length cax, .slice Akx x.kids.length ckx] : Value)) ∈ E Adr cdr Aar car Akr ckr Adp cdp Aap cap Akp ckp Adq cdq Aaq caq Akq ckq Lv := fun Adr cdr Aar car Akr ckr Adp cdp Aap cap Akp ckp Adq cdq Aaq caq Akq ckq Lv => by rw [hE]; simp
  have m1 : ∀ (Adr : Option Addr) (cdr : Nat) (Aar : Option Addr) (car : Nat) (Akr : Option Addr) (ckr : Nat) (Adp : Option Addr) (cdp : Nat) (Aap : Option Addr) (cap : Nat) (Akp : Option Addr) (ckp : Nat) (Adq : Option Addr) (cdq : Nat) (Aaq : Option Addr) (caq : Nat) (Akq : Option Addr) (ckq : Nat) (Lv : Live), (1, 7, (.agg #[.int .i64 r.own.kind, .string r.own.name, .int .i64 r.own.mode, .int .i64 r.own.uid, .int .i64 r.own.gid, .int .i64 r.own.mtime, .slice Adr r.own.data.length cdr, .string r.own.target, .int .i64 r.own.major, .int .i64 r.own.minor, .slice Aar r.own.attrs.length car, .slice Akr r.kids.length ckr] : Value)) ∈ E Adr cdr Aar car Akr ckr Adp cdp Aap cap Akp ckp Adq cdq Aaq caq Akq ckq Lv := fun Adr cdr Aar car Akr ckr Adp cdp Aap cap Akp ckp Adq cdq Aaq caq Akq ckq Lv => by rw [hE]; simp
  have m2 : ∀ (Adr : Option Addr) (cdr : Nat) (Aar : Option Addr) (car : Nat) (Akr : Option Addr) (ckr : Nat) (Adp : Option Addr) (cdp : Nat) (Aap : Option Addr) (cap : Nat) (Akp : Option Addr) (ckp : Nat) (Adq : Option Addr) (cdq : Nat) (Aaq : Option Addr) (caq : Nat) (Akq : Option Addr) (ckq : Nat) (Lv : Live), (2, 8, (.agg #[.int .i64 x.own.kind, .string x.own.name, .int .i64 x.own.mode, .int .i64 x.own.uid, .int .i64 x.own.gid, .int .i64 x.own.mtime, .slice Adp x.own.data.length cdp, .string x.own.target, .int .i64 x.own.major, .int .i64 x.own.minor, .slice Aap x.own.attrs.length cap, .slice Akp x.kids.length ckp] : Value)) ∈ E Adr cdr Aar car Akr ckr Adp cdp Aap cap Akp ckp Adq cdq Aaq caq Akq ckq Lv := fun Adr cdr Aar car Akr ckr Adp cdp Aap cap Akp ckp Adq cdq Aaq caq Akq ckq Lv => by rw [hE]; simp
  have m3 : ∀ (Adr : Option Addr) (cdr : Nat) (Aar : Option Addr) (car : Nat) (Akr : Option Addr) (ckr : Nat) (Adp : Option Addr) (cdp : Nat) (Aap : Option Addr) (cap : Nat) (Akp : Option Addr) (ckp : Nat) (Adq : Option Addr) (cdq : Nat) (Aaq : Option Addr) (caq : Nat) (Akq : Option Addr) (ckq : Nat) (Lv : Live), (3, 9, (.agg #[.int .i64 x.own.kind, .string x.own.name, .int .i64 x.own.mode, .int .i64 x.own.uid, .int .i64 x.own.gid, .int .i64 x.own.mtime, .slice Adx x.own.data.length cdx, .string x.own.target, .int .i64 x.own.major, .int .i64 x.own.minor, .slice Aax x.own.attrs.length cax, .slice Akx x.kids.length ckx] : Value)) ∈ E Adr cdr Aar car Akr ckr Adp cdp Aap cap Akp ckp Adq cdq Aaq caq Akq ckq Lv := fun Adr cdr Aar car Akr ckr Adp cdp Aap cap Akp ckp Adq cdq Aaq caq Akq ckq Lv => by rw [hE]; simp
  have m4 : ∀ (Adr : Option Addr) (cdr : Nat) (Aar : Option Addr) (car : Nat) (Akr : Option Addr) (ckr : Nat) (Adp : Option Addr) (cdp : Nat) (Aap : Option Addr) (cap : Nat) (Akp : Option Addr) (ckp : Nat) (Adq : Option Addr) (cdq : Nat) (Aaq : Option Addr) (caq : Nat) (Akq : Option Addr) (ckq : Nat) (Lv : Live), (4, 10, (.bool true : Value)) ∈ E Adr cdr Aar car Akr ckr Adp cdp Aap cap Akp ckp Adq cdq Aaq caq Akq ckq Lv := fun Adr cdr Aar car Akr ckr Adp cdp Aap cap Akp ckp Adq cdq Aaq caq Akq ckq Lv => by rw [hE]; simp
  have m5 : ∀ (Adr : Option Addr) (cdr : Nat) (Aar : Option Addr) (car : Nat) (Akr : Option Addr) (ckr : Nat) (Adp : Option Addr) (cdp : Nat) (Aap : Option Addr) (cap : Nat) (Akp : Option Addr) (ckp : Nat) (Adq : Option Addr) (cdq : Nat) (Aaq : Option Addr) (caq : Nat) (Akq : Option Addr) (ckq : Nat) (Lv : Live), (5, 11, (.bool true : Value)) ∈ E Adr cdr Aar car Akr ckr Adp cdp Aap cap Akp ckp Adq cdq Aaq caq Akq ckq Lv := fun Adr cdr Aar car Akr ckr Adp cdp Aap cap Akp ckp Adq cdq Aaq caq Akq ckq Lv => by rw [hE]; simp
  have m6 : ∀ (Adr : Option Addr) (cdr : Nat) (Aar : Option Addr) (car : Nat) (Akr : Option Addr) (ckr : Nat) (Adp : Option Addr) (cdp : Nat) (Aap : Option Addr) (cap : Nat) (Akp : Option Addr) (ckp : Nat) (Adq : Option Addr) (cdq : Nat) (Aaq : Option Addr) (caq : Nat) (Akq : Option Addr) (ckq : Nat) (Lv : Live), (6, 12, (.agg #[.int .i64 x.own.kind, .string x.own.name, .int .i64 x.own.mode, .int .i64 x.own.uid, .int .i64 x.own.gid, .int .i64 x.own.mtime, .slice Adx x.own.data.length cdx, .string x.own.target, .int .i64 x.own.major, .int .i64 x.own.minor, .slice Aax x.own.attrs.length cax, .slice Akx x.kids.length ckx] : Value)) ∈ E Adr cdr Aar car Akr ckr Adp cdp Aap cap Akp ckp Adq cdq Aaq caq Akq ckq Lv := fun Adr cdr Aar car Akr ckr Adp cdp Aap cap Akp ckp Adq cdq Aaq caq Akq ckq Lv => by rw [hE]; simp
  have m7 : ∀ (Adr : Option Addr) (cdr : Nat) (Aar : Option Addr) (car : Nat) (Akr : Option Addr) (ckr : Nat) (Adp : Option Addr) (cdp : Nat) (Aap : Option Addr) (cap : Nat) (Akp : Option Addr) (ckp : Nat) (Adq : Option Addr) (cdq : Nat) (Aaq : Option Addr) (caq : Nat) (Akq : Option Addr) (ckq : Nat) (Lv : Live), (7, 13, (.agg #[.int .i64 x.own.kind, .string x.own.name, .int .i64 x.own.mode, .int .i64 x.own.uid, .int .i64 x.own.gid, .int .i64 x.own.mtime, .slice Adq x.own.data.length cdq, .string x.own.target, .int .i64 x.own.major, .int .i64 x.own.minor, .slice Aaq x.own.attrs.length caq, .slice Akq x.kids.length ckq] : Value)) ∈ E Adr cdr Aar car Akr ckr Adp cdp Aap cap Akp ckp Adq cdq Aaq caq Akq ckq Lv := fun Adr cdr Aar car Akr ckr Adp cdp Aap cap Akp ckp Adq cdq Aaq caq Akq ckq Lv => by rw [hE]; simp
  have m8 : ∀ (Adr : Option Addr) (cdr : Nat) (Aar : Option Addr) (car : Nat) (Akr : Option Addr) (ckr : Nat) (Adp : Option Addr) (cdp : Nat) (Aap : Option Addr) (cap : Nat) (Akp : Option Addr) (ckp : Nat) (Adq : Option Addr) (cdq : Nat) (Aaq : Option Addr) (caq : Nat) (Akq : Option Addr) (ckq : Nat) (Lv : Live), (8, 14, (.agg #[.int .i64 x.own.kind, .string x.own.name, .int .i64 x.own.mode, .int .i64 x.own.uid, .int .i64 x.own.gid, .int .i64 x.own.mtime, .slice Adx x.own.data.length cdx, .string x.own.target, .int .i64 x.own.major, .int .i64 x.own.minor, .slice Aax x.own.attrs.length cax, .slice Akx x.kids.length ckx] : Value)) ∈ E Adr cdr Aar car Akr ckr Adp cdp Aap cap Akp ckp Adq cdq Aaq caq Akq ckq Lv := fun Adr cdr Aar car Akr ckr Adp cdp Aap cap Akp ckp Adq cdq Aaq caq Akq ckq Lv => by rw [hE]; simp
  have m9 : ∀ (Adr : Option Addr) (cdr : Nat) (Aar : Option Addr) (car : Nat) (Akr : Option Addr) (ckr : Nat) (Adp : Option Addr) (cdp : Nat) (Aap : Option Addr) (cap : Nat) (Akp : Option Addr) (ckp : Nat) (Adq : Option Addr) (cdq : Nat) (Aaq : Option Addr) (caq : Nat) (Akq : Option Addr) (ckq : Nat) (Lv : Live), (9, 15, (.bool true : Value)) ∈ E Adr cdr Aar car Akr ckr Adp cdp Aap cap Akp ckp Adq cdq Aaq caq Akq ckq Lv := fun Adr cdr Aar car Akr ckr Adp cdp Aap cap Akp ckp Adq cdq Aaq caq Akq ckq Lv => by rw [hE]; simp
  have m10 : ∀ (Adr : Option Addr) (cdr : Nat) (Aar : Option Addr) (car : Nat) (Akr : Option Addr) (ckr : Nat) (Adp : Option Addr) (cdp : Nat) (Aap : Option Addr) (cap : Nat) (Akp : Option Addr) (ckp : Nat) (Adq : Option Addr) (cdq : Nat) (Aaq : Option Addr) (caq : Nat) (Akq : Option Addr) (ckq : Nat) (Lv : Live), (10, 16, (.bool true : Value)) ∈ E Adr cdr Aar car Akr ckr Adp cdp Aap cap Akp ckp Adq cdq Aaq caq Akq ckq Lv := fun Adr cdr Aar car Akr ckr Adp cdp Aap cap Akp ckp Adq cdq Aaq caq Akq ckq Lv => by rw [hE]; simp
  have m11 : ∀ (Adr : Option Addr) (cdr : Nat) (Aar : Option Addr) (car : Nat) (Akr : Option Addr) (ckr : Nat) (Adp : Option Addr) (cdp : Nat) (Aap : Option Addr) (cap : Nat) (Akp : Option Addr) (ckp : Nat) (Adq : Option Addr) (cdq : Nat) (Aaq : Option Addr) (caq : Nat) (Akq : Option Addr) (ckq : Nat) (Lv : Live), (11, 17, (.bool true : Value)) ∈ E Adr cdr Aar car Akr ckr Adp cdp Aap cap Akp ckp Adq cdq Aaq caq Akq ckq Lv := fun Adr cdr Aar car Akr ckr Adp cdp Aap cap Akp ckp Adq cdq Aaq caq Akq ckq Lv => by rw [hE]; simp
  have m12 : ∀ (Adr : Option Addr) (cdr : Nat) (Aar : Option Addr) (car : Nat) (Akr : Option Addr) (ckr : Nat) (Adp : Option Addr) (cdp : Nat) (Aap : Option Addr) (cap : Nat) (Akp : Option Addr) (ckp : Nat) (Adq : Option Addr) (cdq : Nat) (Aaq : Option Addr) (caq : Nat) (Akq : Option Addr) (ckq : Nat) (Lv : Live), (12, 18, (.bool true : Value)) ∈ E Adr cdr Aar car Akr ckr Adp cdp Aap cap Akp ckp Adq cdq Aaq caq Akq ckq Lv := fun Adr cdr Aar car Akr ckr Adp cdp Aap cap Akp ckp Adq cdq Aaq caq Akq ckq Lv => by rw [hE]; simp
  have m13 : ∀ (Adr : Option Addr) (cdr : Nat) (Aar : Option Addr) (car : Nat) (Akr : Option Addr) (ckr : Nat) (Adp : Option Addr) (cdp : Nat) (Aap : Option Addr) (cap : Nat) (Akp : Option Addr) (ckp : Nat) (Adq : Option Addr) (cdq : Nat) (Aaq : Option Addr) (caq : Nat) (Akq : Option Addr) (ckq : Nat) (Lv : Live), (13, 19, (.bool true : Value)) ∈ E Adr cdr Aar car Akr ckr Adp cdp Aap cap Akp ckp Adq cdq Aaq caq Akq ckq Lv := fun Adr cdr Aar car Akr ckr Adp cdp Aap cap Akp ckp Adq cdq Aaq caq Akq ckq Lv => by rw [hE]; simp
  have m14 : ∀ (Adr : Option Addr) (cdr : Nat) (Aar : Option Addr) (car : Nat) (Akr : Option Addr) (ckr : Nat) (Adp : Option Addr) (cdp : Nat) (Aap : Option Addr) (cap : Nat) (Akp : Option Addr) (ckp : Nat) (Adq : Option Addr) (cdq : Nat) (Aaq : Option Addr) (caq : Nat) (Akq : Option Addr) (ckq : Nat) (Lv : Live), (14, 2, (.bool true : Value)) ∈ E Adr cdr Aar car Akr ckr Adp cdp Aap cap Akp ckp Adq cdq Aaq caq Akq ckq Lv := fun Adr cdr Aar car Akr ckr Adp cdp Aap cap Akp ckp Adq cdq Aaq caq Akq ckq Lv => by rw [hE]; simp
  have hn1 : ∀ (Adr : Option Addr) (cdr : Nat) (Aar : Option Addr) (car : Nat) (Akr : Option Addr) (ckr : Nat) (Adp : Option Addr) (cdp : Nat) (Aap : Option Addr) (cap : Nat) (Akp : Option Addr) (ckp : Nat) (Adq : Option Addr) (cdq : Nat) (Aaq : Option Addr) (caq : Nat) (Akq : Option Addr) (ckq : Nat) (Lv : Live), ((E Adr cdr Aar car Akr ckr Adp cdp Aap cap Akp ckp Adq cdq Aaq caq Akq ckq Lv).map fun t => t.1).Nodup := fun Adr cdr Aar car Akr ckr Adp cdp Aap cap Akp ckp Adq cdq Aaq caq Akq ckq Lv => by rw [hE1]; decide
  have hn2 : ∀ (Adr : Option Addr) (cdr : Nat) (Aar : Option Addr) (car : Nat) (Akr : Option Addr) (ckr : Nat) (Adp : Option Addr) (cdp : Nat) (Aap : Option Addr) (cap : Nat) (Akp : Option Addr) (ckp : Nat) (Adq : Option Addr) (cdq : Nat) (Aaq : Option Addr) (caq : Nat) (Akq : Option Addr) (ckq : Nat) (Lv : Live), ((E Adr cdr Aar car Akr ckr Adp cdp Aap cap Akp ckp Adq cdq Aaq caq Akq ckq Lv).map fun t => t.2.1).Nodup := fun Adr cdr Aar car Akr ckr Adp cdp Aap cap Akp ckp Adq cdq Aaq caq Akq ckq Lv => by rw [hE2]; decide
  have hlt : ∀ (Adr : Option Addr) (cdr : Nat) (Aar : Option Addr) (car : Nat) (Akr : Option Addr) (ckr : Nat) (Adp : Option Addr) (cdp : Nat) (Aap : Option Addr) (cap : Nat) (Akp : Option Addr) (ckp : Nat) (Adq : Option Addr) (cdq : Nat) (Aaq : Option Addr) (caq : Nat) (Akq : Option Addr) (ckq : Nat) (Lv : Live), ∀ t ∈ E Adr cdr Aar car Akr ckr Adp cdp Aap cap Akp ckp Adq cdq Aaq caq Akq ckq Lv, t.2.1 < l0.length := fun Adr cdr Aar car Akr ckr Adp cdp Aap cap Akp ckp Adq cdq Aaq caq Akq ckq Lv => fun t ht => by
    have h1 : t.2.1 ∈ (E Adr cdr Aar car Akr ckr Adp cdp Aap cap Akp ckp Adq cdq Aaq caq Akq ckq Lv).map fun t => t.2.1 := List.mem_map.2 ⟨t, ht, rfl⟩
    rw [hE2] at h1
    rw [hlen]
    simp only [List.mem_cons, List.mem_nil_iff, or_false] at h1
    omega
  have Xm0 := Lib.hid m0
  have Xm1 := Lib.hid m1
  have Xm2 := Lib.hid m2
  have Xm3 := Lib.hid m3
  have Xm4 := Lib.hid m4
  have Xm5 := Lib.hid m5
  have Xm6 := Lib.hid m6
  have Xm7 := Lib.hid m7
  have Xm8 := Lib.hid m8
  have Xm9 := Lib.hid m9
  have Xm10 := Lib.hid m10
  have Xm11 := Lib.hid m11
  have Xm12 := Lib.hid m12
  have Xm13 := Lib.hid m13
  have Xm14 := Lib.hid m14
  have Xhn1 := Lib.hid hn1; have Xhn2 := Lib.hid hn2; have Xhlt := Lib.hid hlt; have XhE1 := Lib.hid hE1; have XhE2 := Lib.hid hE2; have XhE := Lib.hid hE; have Xl0 := Lib.hid hl0
  clear m0 m1 m2 m3 m4 m5 m6 m7 m8 m9 m10 m11 m12 m13 m14 hn1 hn2 hlt hE1 hE2 hE hlen hl0
  refine wp_region_any (by kernel_rfl) ?_
  refine wpAny_inv (by kernel_rfl) (fun listed a' w' => ∃ (Adr : Option Addr) (cdr : Nat) (Aar : Option Addr) (car : Nat) (Akr : Option Addr) (ckr : Nat) (Adp : Option Addr) (cdp : Nat) (Aap : Option Addr) (cap : Nat) (Akp : Option Addr) (ckp : Nat) (Adq : Option Addr) (cdq : Nat) (Aaq : Option Addr) (caq : Nat) (Akq : Option Addr) (ckq : Nat) (Lv : Live), Slots (E Adr cdr Aar car Akr ckr Adp cdp Aap cap Akp ckp Adq cdq Aaq caq Akq ckq Lv) l0 listed a' ∧ Ext L1 w2 Lv w' ∧ Below w2.heap.size w2 w' ∧ (listed.getD 1 true = true → (nodeR 13).R Lv w' r (nodeV r.own (.slice Adr r.own.data.length cdr) (.slice Aar r.own.attrs.length car) (.slice Akr r.kids.length ckr))) ∧ (listed.getD 2 true = true → (nodeR 13).R Lv w' x (nodeV x.own (.slice Adp x.own.data.length cdp) (.slice Aap x.own.attrs.length cap) (.slice Akp x.kids.length ckp))) ∧ (listed.getD 7 true = true → (nodeR 13).R Lv w' x (nodeV x.own (.slice Adq x.own.data.length cdq) (.slice Aaq x.own.attrs.length caq) (.slice Akq x.kids.length ckq)))) ?step ?fin _ _ _ _ ?hs ?hf ?init
  case hs => simp
  case hf => simp
  case init =>
    refine ⟨none, 0, none, 0, none, 0, none, 0, none, 0, none, 0, none, 0, none, 0, none, 0, L1, ?_, (Ext.refl HOk.out).drew, (Below.refl _ _).drew, fun h => ?_, fun h => ?_, fun h => ?_⟩
    · exact Slots.start (exp := E (none) (0) (none) (0) (none) (0) (none) (0) (none) (0) (none) (0) (none) (0) (none) (0) (none) (0) (L1)) (l0 := l0) (m := 15) (fun t ht => by
        have h1 : t.1 ∈ (E (none) (0) (none) (0) (none) (0) (none) (0) (none) (0) (none) (0) (none) (0) (none) (0) (none) (0) (L1)).map fun t => t.1 := List.mem_map.2 ⟨t, ht, rfl⟩
        rw [XhE1.out] at h1
        simp only [List.mem_cons, List.mem_nil_iff, or_false] at h1
        omega)
    · exact absurd (show (Array.replicate 15 false).getD 1 true = true from h) (by decide)
    · exact absurd (show (Array.replicate 15 false).getD 2 true = true from h) (by decide)
    · exact absurd (show (Array.replicate 15 false).getD 7 true = true from h) (by decide)
  case fin =>
    intro listed a' w' hls hall ⟨Adr, cdr, Aar, car, Akr, ckr, Adp, cdp, Aap, cap, Akp, ckp, Adq, cdq, Aaq, caq, Akq, ckq, Lv, hS, hA0, hB, _⟩
    have hf2 : a'.tmps.getD 2 undef = .bool true := hS.done _ (Xm14.out Adr cdr Aar car Akr ckr Adp cdp Aap cap Akp ckp Adq cdq Aaq caq Akq ckq Lv) (hall 14 (by show 14 < 15; decide))
    have hf3 : a'.defers = [] := hS.defers
    have HF2' := Lib.hid hf2; have HF3' := Lib.hid hf3
    clear hf2 hf3 hS
    go_wp2
    refine bodyPost_ret (results_tmp rfl _ _ _) HF3'.out ?_
    exact ⟨by rw [HF2'.out], HE2.out.below.trans (hB.mono HE2.out.below.size)⟩
  case step =>
    intro listed a' w' i hls hI hmem
    have hr := ready_of hls hmem
    have hi : i < 15 := hr.1
    have hcase : i = 0 ∨ i = 1 ∨ i = 2 ∨ i = 3 ∨ i = 4 ∨ i = 5 ∨ i = 6 ∨ i = 7 ∨ i = 8 ∨ i = 9 ∨ i = 10 ∨ i = 11 ∨ i = 12 ∨ i = 13 ∨ i = 14 := by omega
    rcases hcase with rfl | rfl | rfl | rfl | rfl | rfl | rfl | rfl | rfl | rfl | rfl | rfl | rfl | rfl | rfl
    · obtain ⟨Adr, cdr, Aar, car, Akr, ckr, Adp, cdp, Aap, cap, Akp, ckp, Adq, cdq, Aaq, caq, Akq, ckq, Lv, hS, hA0, hB, hF0, hF1, hF2⟩ := hI
      obtain ⟨n0, n1, n2, n3, n4, n5, n6, n7, n8, n9, n10, n11⟩ := twelve_box ((hB.block _ hs2).trans HBx2.out)
      have e3 := hS.at0 3 (.pointer (some ⟨w1.heap.size, 0, none⟩)) (by rw [XhE2.out]; decide) (by rw [Xl0.out]; rfl)
      refine wpOp_plain' rfl rfl fun K' hK => ?_
      go_simp
      exact hK _ _ ⟨Adr, cdr, Aar, car, Akr, ckr, Adp, cdp, Aap, cap, Akp, ckp, Adq, cdq, Aaq, caq, Akq, ckq, Lv, hS.put' (Xhn1.out Adr cdr Aar car Akr ckr Adp cdp Aap cap Akp ckp Adq cdq Aaq caq Akq ckq Lv) (Xhn2.out Adr cdr Aar car Akr ckr Adp cdp Aap cap Akp ckp Adq cdq Aaq caq Akq ckq Lv) (Xhlt.out Adr cdr Aar car Akr ckr Adp cdp Aap cap Akp ckp Adq cdq Aaq caq Akq ckq Lv) (Xm0.out Adr cdr Aar car Akr ckr Adp cdp Aap cap Akp ckp Adq cdq Aaq caq Akq ckq Lv), hA0, hB, fun h => hF0 (by rwa [set_get (by decide)] at h), fun h => hF1 (by rwa [set_get (by decide)] at h), fun h => hF2 (by rwa [set_get (by decide)] at h)⟩
    · obtain ⟨Adr, cdr, Aar, car, Akr, ckr, Adp, cdp, Aap, cap, Akp, ckp, Adq, cdq, Aaq, caq, Akq, ckq, Lv, hS, hA0, hB, hF0, hF1, hF2⟩ := hI
      have d0 := hr.2.2 _ rfl ⟨0, .data⟩ (by simp) rfl
      have e6 := hS.at_ (Xm0.out Adr cdr Aar car Akr ckr Adp cdp Aap cap Akp ckp Adq cdq Aaq caq Akq ckq Lv) d0
      refine wpOp_plain' rfl rfl fun K' hK => ?_
      go_simp
      refine (HRd.out _ Lv w' ((nodeR 13).mono (Ext.sub HOk.out hA0) HN2.out) hA0.ok).mono ?_
      rintro e w1' ⟨cs', Lv', rfl, hz', hX'⟩
      obtain ⟨m', Adr', cdr', Aar', car', Akr', ckr', _, rfl, _, _, _, _, _, _, _⟩ := node_open hz'
      have hS2 : Slots (E Adr' cdr' Aar' car' Akr' ckr' Adp cdp Aap cap Akp ckp Adq cdq Aaq caq Akq ckq Lv') l0 listed a' := by
        rw [XhE.out] at hS ⊢
        exact Slots.turn1 (P := [(0, 6, .agg #[.int .i64 x.own.kind, .string x.own.name, .int .i64 x.own.mode, .int .i64 x.own.uid, .int .i64 x.own.gid, .int .i64 x.own.mtime, .slice Adx x.own.data.length cdx, .string x.own.target, .int .i64 x.own.major, .int .i64 x.own.minor, .slice Aax x.own.attrs.length cax, .slice Akx x.kids.length ckx])]) (Q := [(2, 8, .agg #[.int .i64 x.own.kind, .string x.own.name, .int .i64 x.own.mode, .int .i64 x.own.uid, .int .i64 x.own.gid, .int .i64 x.own.mtime, .slice Adp x.own.data.length cdp, .string x.own.target, .int .i64 x.own.major, .int .i64 x.own.minor, .slice Aap x.own.attrs.length cap, .slice Akp x.kids.length ckp]), (3, 9, .agg #[.int .i64 x.own.kind, .string x.own.name, .int .i64 x.own.mode, .int .i64 x.own.uid, .int .i64 x.own.gid, .int .i64 x.own.mtime, .slice Adx x.own.data.length cdx, .string x.own.target, .int .i64 x.own.major, .int .i64 x.own.minor, .slice Aax x.own.attrs.length cax, .slice Akx x.kids.length ckx]), (4, 10, .bool true), (5, 11, .bool true), (6, 12, .agg #[.int .i64 x.own.kind, .string x.own.name, .int .i64 x.own.mode, .int .i64 x.own.uid, .int .i64 x.own.gid, .int .i64 x.own.mtime, .slice Adx x.own.data.length cdx, .string x.own.target, .int .i64 x.own.major, .int .i64 x.own.minor, .slice Aax x.own.attrs.length cax, .slice Akx x.kids.length ckx]), (7, 13, .agg #[.int .i64 x.own.kind, .string x.own.name, .int .i64 x.own.mode, .int .i64 x.own.uid, .int .i64 x.own.gid, .int .i64 x.own.mtime, .slice Adq x.own.data.length cdq, .string x.own.target, .int .i64 x.own.major, .int .i64 x.own.minor, .slice Aaq x.own.attrs.length caq, .slice Akq x.kids.length ckq]), (8, 14, .agg #[.int .i64 x.own.kind, .string x.own.name, .int .i64 x.own.mode, .int .i64 x.own.uid, .int .i64 x.own.gid, .int .i64 x.own.mtime, .slice Adx x.own.data.length cdx, .string x.own.target, .int .i64 x.own.major, .int .i64 x.own.minor, .slice Aax x.own.attrs.length cax, .slice Akx x.kids.length ckx]), (9, 15, .bool true), (10, 16, .bool true), (11, 17, .bool true), (12, 18, .bool true), (13, 19, .bool true), (14, 2, .bool true)]) hS hr.2.1
      exact hK _ _ ⟨Adr', cdr', Aar', car', Akr', ckr', Adp, cdp, Aap, cap, Akp, ckp, Adq, cdq, Aaq, caq, Akq, ckq, Lv', hS2.put' (Xhn1.out Adr' cdr' Aar' car' Akr' ckr' Adp cdp Aap cap Akp ckp Adq cdq Aaq caq Akq ckq Lv') (Xhn2.out Adr' cdr' Aar' car' Akr' ckr' Adp cdp Aap cap Akp ckp Adq cdq Aaq caq Akq ckq Lv') (Xhlt.out Adr' cdr' Aar' car' Akr' ckr' Adp cdp Aap cap Akp ckp Adq cdq Aaq caq Akq ckq Lv') (Xm1.out Adr' cdr' Aar' car' Akr' ckr' Adp cdp Aap cap Akp ckp Adq cdq Aaq caq Akq ckq Lv'), hA0.trans hX', hB.trans (hX'.below.mono hB.size), fun _ => hz', fun h => (nodeR 13).mono (Ext.sub hA0.ok hX') (hF1 (by rwa [set_get (by decide)] at h)), fun h => (nodeR 13).mono (Ext.sub hA0.ok hX') (hF2 (by rwa [set_get (by decide)] at h))⟩
    · obtain ⟨Adr, cdr, Aar, car, Akr, ckr, Adp, cdp, Aap, cap, Akp, ckp, Adq, cdq, Aaq, caq, Akq, ckq, Lv, hS, hA0, hB, hF0, hF1, hF2⟩ := hI
      have d1 := hr.2.2 _ rfl ⟨1, .data⟩ (by simp) rfl
      have e7 := hS.at_ (Xm1.out Adr cdr Aar car Akr ckr Adp cdp Aap cap Akp ckp Adq cdq Aaq caq Akq ckq Lv) d1
      refine wpOp_plain' rfl rfl fun K' hK => ?_
      go_simp
      have hD := hF0 (hr.2.2 _ rfl ⟨1, .data⟩ (by simp) rfl)
      refine (sort_any 13 r _ Lv w' hD hrb hrc hA0.ok).mono ?_
      rintro e w1' ⟨y', hy', cs', Lv', rfl, hz', hX'⟩
      have hyx := HSo2.out y' hy'
      rw [hyx] at hz'
      clear hyx
      obtain ⟨m', Adp', cdp', Aap', cap', Akp', ckp', _, rfl, _, _, _, _, _, _, _⟩ := node_open hz'
      have hS2 : Slots (E Adr cdr Aar car Akr ckr Adp' cdp' Aap' cap' Akp' ckp' Adq cdq Aaq caq Akq ckq Lv') l0 listed a' := by
        rw [XhE.out] at hS ⊢
        exact Slots.turn1 (P := [(0, 6, .agg #[.int .i64 x.own.kind, .string x.own.name, .int .i64 x.own.mode, .int .i64 x.own.uid, .int .i64 x.own.gid, .int .i64 x.own.mtime, .slice Adx x.own.data.length cdx, .string x.own.target, .int .i64 x.own.major, .int .i64 x.own.minor, .slice Aax x.own.attrs.length cax, .slice Akx x.kids.length ckx]), (1, 7, .agg #[.int .i64 r.own.kind, .string r.own.name, .int .i64 r.own.mode, .int .i64 r.own.uid, .int .i64 r.own.gid, .int .i64 r.own.mtime, .slice Adr r.own.data.length cdr, .string r.own.target, .int .i64 r.own.major, .int .i64 r.own.minor, .slice Aar r.own.attrs.length car, .slice Akr r.kids.length ckr])]) (Q := [(3, 9, .agg #[.int .i64 x.own.kind, .string x.own.name, .int .i64 x.own.mode, .int .i64 x.own.uid, .int .i64 x.own.gid, .int .i64 x.own.mtime, .slice Adx x.own.data.length cdx, .string x.own.target, .int .i64 x.own.major, .int .i64 x.own.minor, .slice Aax x.own.attrs.length cax, .slice Akx x.kids.length ckx]), (4, 10, .bool true), (5, 11, .bool true), (6, 12, .agg #[.int .i64 x.own.kind, .string x.own.name, .int .i64 x.own.mode, .int .i64 x.own.uid, .int .i64 x.own.gid, .int .i64 x.own.mtime, .slice Adx x.own.data.length cdx, .string x.own.target, .int .i64 x.own.major, .int .i64 x.own.minor, .slice Aax x.own.attrs.length cax, .slice Akx x.kids.length ckx]), (7, 13, .agg #[.int .i64 x.own.kind, .string x.own.name, .int .i64 x.own.mode, .int .i64 x.own.uid, .int .i64 x.own.gid, .int .i64 x.own.mtime, .slice Adq x.own.data.length cdq, .string x.own.target, .int .i64 x.own.major, .int .i64 x.own.minor, .slice Aaq x.own.attrs.length caq, .slice Akq x.kids.length ckq]), (8, 14, .agg #[.int .i64 x.own.kind, .string x.own.name, .int .i64 x.own.mode, .int .i64 x.own.uid, .int .i64 x.own.gid, .int .i64 x.own.mtime, .slice Adx x.own.data.length cdx, .string x.own.target, .int .i64 x.own.major, .int .i64 x.own.minor, .slice Aax x.own.attrs.length cax, .slice Akx x.kids.length ckx]), (9, 15, .bool true), (10, 16, .bool true), (11, 17, .bool true), (12, 18, .bool true), (13, 19, .bool true), (14, 2, .bool true)]) hS hr.2.1
      exact hK _ _ ⟨Adr, cdr, Aar, car, Akr, ckr, Adp', cdp', Aap', cap', Akp', ckp', Adq, cdq, Aaq, caq, Akq, ckq, Lv', hS2.put' (Xhn1.out Adr cdr Aar car Akr ckr Adp' cdp' Aap' cap' Akp' ckp' Adq cdq Aaq caq Akq ckq Lv') (Xhn2.out Adr cdr Aar car Akr ckr Adp' cdp' Aap' cap' Akp' ckp' Adq cdq Aaq caq Akq ckq Lv') (Xhlt.out Adr cdr Aar car Akr ckr Adp' cdp' Aap' cap' Akp' ckp' Adq cdq Aaq caq Akq ckq Lv') (Xm2.out Adr cdr Aar car Akr ckr Adp' cdp' Aap' cap' Akp' ckp' Adq cdq Aaq caq Akq ckq Lv'), hA0.trans hX', hB.trans (hX'.below.mono hB.size), fun h => (nodeR 13).mono (Ext.sub hA0.ok hX') (hF0 (by rwa [set_get (by decide)] at h)), fun _ => hz', fun h => (nodeR 13).mono (Ext.sub hA0.ok hX') (hF2 (by rwa [set_get (by decide)] at h))⟩
    · obtain ⟨Adr, cdr, Aar, car, Akr, ckr, Adp, cdp, Aap, cap, Akp, ckp, Adq, cdq, Aaq, caq, Akq, ckq, Lv, hS, hA0, hB, hF0, hF1, hF2⟩ := hI
      obtain ⟨n0, n1, n2, n3, n4, n5, n6, n7, n8, n9, n10, n11⟩ := twelve_box ((hB.block _ hs2).trans HBx2.out)
      have e3 := hS.at0 3 (.pointer (some ⟨w1.heap.size, 0, none⟩)) (by rw [XhE2.out]; decide) (by rw [Xl0.out]; rfl)
      refine wpOp_plain' rfl rfl fun K' hK => ?_
      go_simp
      exact hK _ _ ⟨Adr, cdr, Aar, car, Akr, ckr, Adp, cdp, Aap, cap, Akp, ckp, Adq, cdq, Aaq, caq, Akq, ckq, Lv, hS.put' (Xhn1.out Adr cdr Aar car Akr ckr Adp cdp Aap cap Akp ckp Adq cdq Aaq caq Akq ckq Lv) (Xhn2.out Adr cdr Aar car Akr ckr Adp cdp Aap cap Akp ckp Adq cdq Aaq caq Akq ckq Lv) (Xhlt.out Adr cdr Aar car Akr ckr Adp cdp Aap cap Akp ckp Adq cdq Aaq caq Akq ckq Lv) (Xm3.out Adr cdr Aar car Akr ckr Adp cdp Aap cap Akp ckp Adq cdq Aaq caq Akq ckq Lv), hA0, hB, fun h => hF0 (by rwa [set_get (by decide)] at h), fun h => hF1 (by rwa [set_get (by decide)] at h), fun h => hF2 (by rwa [set_get (by decide)] at h)⟩
    · obtain ⟨Adr, cdr, Aar, car, Akr, ckr, Adp, cdp, Aap, cap, Akp, ckp, Adq, cdq, Aaq, caq, Akq, ckq, Lv, hS, hA0, hB, hF0, hF1, hF2⟩ := hI
      have d2 := hr.2.2 _ rfl ⟨2, .data⟩ (by simp) rfl
      have e8 := hS.at_ (Xm2.out Adr cdr Aar car Akr ckr Adp cdp Aap cap Akp ckp Adq cdq Aaq caq Akq ckq Lv) d2
      have d3 := hr.2.2 _ rfl ⟨3, .data⟩ (by simp) rfl
      have e9 := hS.at_ (Xm3.out Adr cdr Aar car Akr ckr Adp cdp Aap cap Akp ckp Adq cdq Aaq caq Akq ckq Lv) d3
      refine wpOp_plain' rfl rfl fun K' hK => ?_
      go_simp
      have hD := hF1 (hr.2.2 _ rfl ⟨2, .data⟩ (by simp) rfl)
      refine (rsame_any 13 13 x x _ _ Lv w' hD ((nodeR 13).mono (Ext.sub HOk.out hA0) HN2.out) (by omega) (by omega) HX5.out HX5.out (by decide) (by decide) hA0.ok).mono ?_
      rintro e w1' ⟨rfl, y1⟩
      rw [Hbt.out]
      exact hK _ _ ⟨Adr, cdr, Aar, car, Akr, ckr, Adp, cdp, Aap, cap, Akp, ckp, Adq, cdq, Aaq, caq, Akq, ckq, Lv, hS.put' (Xhn1.out Adr cdr Aar car Akr ckr Adp cdp Aap cap Akp ckp Adq cdq Aaq caq Akq ckq Lv) (Xhn2.out Adr cdr Aar car Akr ckr Adp cdp Aap cap Akp ckp Adq cdq Aaq caq Akq ckq Lv) (Xhlt.out Adr cdr Aar car Akr ckr Adp cdp Aap cap Akp ckp Adq cdq Aaq caq Akq ckq Lv) (Xm4.out Adr cdr Aar car Akr ckr Adp cdp Aap cap Akp ckp Adq cdq Aaq caq Akq ckq Lv), (hA0).trans (Ext.of_below (hA0).ok y1), hB.trans (y1.mono hB.size), fun h => (nodeR 13).mono (sub_same y1) (hF0 (by rwa [set_get (by decide)] at h)), fun h => (nodeR 13).mono (sub_same y1) (hF1 (by rwa [set_get (by decide)] at h)), fun h => (nodeR 13).mono (sub_same y1) (hF2 (by rwa [set_get (by decide)] at h))⟩
    · obtain ⟨Adr, cdr, Aar, car, Akr, ckr, Adp, cdp, Aap, cap, Akp, ckp, Adq, cdq, Aaq, caq, Akq, ckq, Lv, hS, hA0, hB, hF0, hF1, hF2⟩ := hI
      have d4 := hr.2.2 _ rfl ⟨4, .data⟩ (by simp) rfl
      have e10 := hS.at_ (Xm4.out Adr cdr Aar car Akr ckr Adp cdp Aap cap Akp ckp Adq cdq Aaq caq Akq ckq Lv) d4
      refine wpOp_plain' rfl rfl fun K' hK => ?_
      go_simp
      exact hK _ _ ⟨Adr, cdr, Aar, car, Akr, ckr, Adp, cdp, Aap, cap, Akp, ckp, Adq, cdq, Aaq, caq, Akq, ckq, Lv, hS.put' (Xhn1.out Adr cdr Aar car Akr ckr Adp cdp Aap cap Akp ckp Adq cdq Aaq caq Akq ckq Lv) (Xhn2.out Adr cdr Aar car Akr ckr Adp cdp Aap cap Akp ckp Adq cdq Aaq caq Akq ckq Lv) (Xhlt.out Adr cdr Aar car Akr ckr Adp cdp Aap cap Akp ckp Adq cdq Aaq caq Akq ckq Lv) (Xm5.out Adr cdr Aar car Akr ckr Adp cdp Aap cap Akp ckp Adq cdq Aaq caq Akq ckq Lv), hA0, hB, fun h => hF0 (by rwa [set_get (by decide)] at h), fun h => hF1 (by rwa [set_get (by decide)] at h), fun h => hF2 (by rwa [set_get (by decide)] at h)⟩
    · obtain ⟨Adr, cdr, Aar, car, Akr, ckr, Adp, cdp, Aap, cap, Akp, ckp, Adq, cdq, Aaq, caq, Akq, ckq, Lv, hS, hA0, hB, hF0, hF1, hF2⟩ := hI
      obtain ⟨n0, n1, n2, n3, n4, n5, n6, n7, n8, n9, n10, n11⟩ := twelve_box ((hB.block _ hs2).trans HBx2.out)
      have e3 := hS.at0 3 (.pointer (some ⟨w1.heap.size, 0, none⟩)) (by rw [XhE2.out]; decide) (by rw [Xl0.out]; rfl)
      have dg := hr.2.2 _ rfl ⟨5, .guard⟩ (by simp) rfl
      have eg := hS.at_ (Xm5.out Adr cdr Aar car Akr ckr Adp cdp Aap cap Akp ckp Adq cdq Aaq caq Akq ckq Lv) dg
      refine wpOp_on rfl rfl rfl rfl eg fun K' hK => ?_
      go_simp
      exact hK _ _ ⟨Adr, cdr, Aar, car, Akr, ckr, Adp, cdp, Aap, cap, Akp, ckp, Adq, cdq, Aaq, caq, Akq, ckq, Lv, hS.put' (Xhn1.out Adr cdr Aar car Akr ckr Adp cdp Aap cap Akp ckp Adq cdq Aaq caq Akq ckq Lv) (Xhn2.out Adr cdr Aar car Akr ckr Adp cdp Aap cap Akp ckp Adq cdq Aaq caq Akq ckq Lv) (Xhlt.out Adr cdr Aar car Akr ckr Adp cdp Aap cap Akp ckp Adq cdq Aaq caq Akq ckq Lv) (Xm6.out Adr cdr Aar car Akr ckr Adp cdp Aap cap Akp ckp Adq cdq Aaq caq Akq ckq Lv), hA0, hB, fun h => hF0 (by rwa [set_get (by decide)] at h), fun h => hF1 (by rwa [set_get (by decide)] at h), fun h => hF2 (by rwa [set_get (by decide)] at h)⟩
    · obtain ⟨Adr, cdr, Aar, car, Akr, ckr, Adp, cdp, Aap, cap, Akp, ckp, Adq, cdq, Aaq, caq, Akq, ckq, Lv, hS, hA0, hB, hF0, hF1, hF2⟩ := hI
      have d6 := hr.2.2 _ rfl ⟨6, .data⟩ (by simp) rfl
      have e12 := hS.at_ (Xm6.out Adr cdr Aar car Akr ckr Adp cdp Aap cap Akp ckp Adq cdq Aaq caq Akq ckq Lv) d6
      have dg := hr.2.2 _ rfl ⟨5, .guard⟩ (by simp) rfl
      have eg := hS.at_ (Xm5.out Adr cdr Aar car Akr ckr Adp cdp Aap cap Akp ckp Adq cdq Aaq caq Akq ckq Lv) dg
      refine wpOp_on rfl rfl rfl rfl eg fun K' hK => ?_
      go_simp
      refine (sort_any 13 x _ Lv w' ((nodeR 13).mono (Ext.sub HOk.out hA0) HN2.out) fx6 (by omega) hA0.ok).mono ?_
      rintro e w1' ⟨y', hy', cs', Lv', rfl, hz', hX'⟩
      have hyx := HSo1.out y' hy'
      rw [hyx] at hz'
      clear hyx
      obtain ⟨m', Adq', cdq', Aaq', caq', Akq', ckq', _, rfl, _, _, _, _, _, _, _⟩ := node_open hz'
      have hS2 : Slots (E Adr cdr Aar car Akr ckr Adp cdp Aap cap Akp ckp Adq' cdq' Aaq' caq' Akq' ckq' Lv') l0 listed a' := by
        rw [XhE.out] at hS ⊢
        exact Slots.turn1 (P := [(0, 6, .agg #[.int .i64 x.own.kind, .string x.own.name, .int .i64 x.own.mode, .int .i64 x.own.uid, .int .i64 x.own.gid, .int .i64 x.own.mtime, .slice Adx x.own.data.length cdx, .string x.own.target, .int .i64 x.own.major, .int .i64 x.own.minor, .slice Aax x.own.attrs.length cax, .slice Akx x.kids.length ckx]), (1, 7, .agg #[.int .i64 r.own.kind, .string r.own.name, .int .i64 r.own.mode, .int .i64 r.own.uid, .int .i64 r.own.gid, .int .i64 r.own.mtime, .slice Adr r.own.data.length cdr, .string r.own.target, .int .i64 r.own.major, .int .i64 r.own.minor, .slice Aar r.own.attrs.length car, .slice Akr r.kids.length ckr]), (2, 8, .agg #[.int .i64 x.own.kind, .string x.own.name, .int .i64 x.own.mode, .int .i64 x.own.uid, .int .i64 x.own.gid, .int .i64 x.own.mtime, .slice Adp x.own.data.length cdp, .string x.own.target, .int .i64 x.own.major, .int .i64 x.own.minor, .slice Aap x.own.attrs.length cap, .slice Akp x.kids.length ckp]), (3, 9, .agg #[.int .i64 x.own.kind, .string x.own.name, .int .i64 x.own.mode, .int .i64 x.own.uid, .int .i64 x.own.gid, .int .i64 x.own.mtime, .slice Adx x.own.data.length cdx, .string x.own.target, .int .i64 x.own.major, .int .i64 x.own.minor, .slice Aax x.own.attrs.length cax, .slice Akx x.kids.length ckx]), (4, 10, .bool true), (5, 11, .bool true), (6, 12, .agg #[.int .i64 x.own.kind, .string x.own.name, .int .i64 x.own.mode, .int .i64 x.own.uid, .int .i64 x.own.gid, .int .i64 x.own.mtime, .slice Adx x.own.data.length cdx, .string x.own.target, .int .i64 x.own.major, .int .i64 x.own.minor, .slice Aax x.own.attrs.length cax, .slice Akx x.kids.length ckx])]) (Q := [(8, 14, .agg #[.int .i64 x.own.kind, .string x.own.name, .int .i64 x.own.mode, .int .i64 x.own.uid, .int .i64 x.own.gid, .int .i64 x.own.mtime, .slice Adx x.own.data.length cdx, .string x.own.target, .int .i64 x.own.major, .int .i64 x.own.minor, .slice Aax x.own.attrs.length cax, .slice Akx x.kids.length ckx]), (9, 15, .bool true), (10, 16, .bool true), (11, 17, .bool true), (12, 18, .bool true), (13, 19, .bool true), (14, 2, .bool true)]) hS hr.2.1
      exact hK _ _ ⟨Adr, cdr, Aar, car, Akr, ckr, Adp, cdp, Aap, cap, Akp, ckp, Adq', cdq', Aaq', caq', Akq', ckq', Lv', hS2.put' (Xhn1.out Adr cdr Aar car Akr ckr Adp cdp Aap cap Akp ckp Adq' cdq' Aaq' caq' Akq' ckq' Lv') (Xhn2.out Adr cdr Aar car Akr ckr Adp cdp Aap cap Akp ckp Adq' cdq' Aaq' caq' Akq' ckq' Lv') (Xhlt.out Adr cdr Aar car Akr ckr Adp cdp Aap cap Akp ckp Adq' cdq' Aaq' caq' Akq' ckq' Lv') (Xm7.out Adr cdr Aar car Akr ckr Adp cdp Aap cap Akp ckp Adq' cdq' Aaq' caq' Akq' ckq' Lv'), hA0.trans hX', hB.trans (hX'.below.mono hB.size), fun h => (nodeR 13).mono (Ext.sub hA0.ok hX') (hF0 (by rwa [set_get (by decide)] at h)), fun h => (nodeR 13).mono (Ext.sub hA0.ok hX') (hF1 (by rwa [set_get (by decide)] at h)), fun _ => hz'⟩
    · obtain ⟨Adr, cdr, Aar, car, Akr, ckr, Adp, cdp, Aap, cap, Akp, ckp, Adq, cdq, Aaq, caq, Akq, ckq, Lv, hS, hA0, hB, hF0, hF1, hF2⟩ := hI
      obtain ⟨n0, n1, n2, n3, n4, n5, n6, n7, n8, n9, n10, n11⟩ := twelve_box ((hB.block _ hs2).trans HBx2.out)
      have e3 := hS.at0 3 (.pointer (some ⟨w1.heap.size, 0, none⟩)) (by rw [XhE2.out]; decide) (by rw [Xl0.out]; rfl)
      have dg := hr.2.2 _ rfl ⟨5, .guard⟩ (by simp) rfl
      have eg := hS.at_ (Xm5.out Adr cdr Aar car Akr ckr Adp cdp Aap cap Akp ckp Adq cdq Aaq caq Akq ckq Lv) dg
      refine wpOp_on rfl rfl rfl rfl eg fun K' hK => ?_
      go_simp
      exact hK _ _ ⟨Adr, cdr, Aar, car, Akr, ckr, Adp, cdp, Aap, cap, Akp, ckp, Adq, cdq, Aaq, caq, Akq, ckq, Lv, hS.put' (Xhn1.out Adr cdr Aar car Akr ckr Adp cdp Aap cap Akp ckp Adq cdq Aaq caq Akq ckq Lv) (Xhn2.out Adr cdr Aar car Akr ckr Adp cdp Aap cap Akp ckp Adq cdq Aaq caq Akq ckq Lv) (Xhlt.out Adr cdr Aar car Akr ckr Adp cdp Aap cap Akp ckp Adq cdq Aaq caq Akq ckq Lv) (Xm8.out Adr cdr Aar car Akr ckr Adp cdp Aap cap Akp ckp Adq cdq Aaq caq Akq ckq Lv), hA0, hB, fun h => hF0 (by rwa [set_get (by decide)] at h), fun h => hF1 (by rwa [set_get (by decide)] at h), fun h => hF2 (by rwa [set_get (by decide)] at h)⟩
    · obtain ⟨Adr, cdr, Aar, car, Akr, ckr, Adp, cdp, Aap, cap, Akp, ckp, Adq, cdq, Aaq, caq, Akq, ckq, Lv, hS, hA0, hB, hF0, hF1, hF2⟩ := hI
      have d7 := hr.2.2 _ rfl ⟨7, .data⟩ (by simp) rfl
      have e13 := hS.at_ (Xm7.out Adr cdr Aar car Akr ckr Adp cdp Aap cap Akp ckp Adq cdq Aaq caq Akq ckq Lv) d7
      have d8 := hr.2.2 _ rfl ⟨8, .data⟩ (by simp) rfl
      have e14 := hS.at_ (Xm8.out Adr cdr Aar car Akr ckr Adp cdp Aap cap Akp ckp Adq cdq Aaq caq Akq ckq Lv) d8
      have dg := hr.2.2 _ rfl ⟨5, .guard⟩ (by simp) rfl
      have eg := hS.at_ (Xm5.out Adr cdr Aar car Akr ckr Adp cdp Aap cap Akp ckp Adq cdq Aaq caq Akq ckq Lv) dg
      refine wpOp_on rfl rfl rfl rfl eg fun K' hK => ?_
      go_simp
      have hD := hF2 (hr.2.2 _ rfl ⟨7, .data⟩ (by simp) rfl)
      refine (rsame_any 13 13 x x _ _ Lv w' hD ((nodeR 13).mono (Ext.sub HOk.out hA0) HN2.out) (by omega) (by omega) HX5.out HX5.out (by decide) (by decide) hA0.ok).mono ?_
      rintro e w1' ⟨rfl, y1⟩
      rw [Hbt.out]
      exact hK _ _ ⟨Adr, cdr, Aar, car, Akr, ckr, Adp, cdp, Aap, cap, Akp, ckp, Adq, cdq, Aaq, caq, Akq, ckq, Lv, hS.put' (Xhn1.out Adr cdr Aar car Akr ckr Adp cdp Aap cap Akp ckp Adq cdq Aaq caq Akq ckq Lv) (Xhn2.out Adr cdr Aar car Akr ckr Adp cdp Aap cap Akp ckp Adq cdq Aaq caq Akq ckq Lv) (Xhlt.out Adr cdr Aar car Akr ckr Adp cdp Aap cap Akp ckp Adq cdq Aaq caq Akq ckq Lv) (Xm9.out Adr cdr Aar car Akr ckr Adp cdp Aap cap Akp ckp Adq cdq Aaq caq Akq ckq Lv), (hA0).trans (Ext.of_below (hA0).ok y1), hB.trans (y1.mono hB.size), fun h => (nodeR 13).mono (sub_same y1) (hF0 (by rwa [set_get (by decide)] at h)), fun h => (nodeR 13).mono (sub_same y1) (hF1 (by rwa [set_get (by decide)] at h)), fun h => (nodeR 13).mono (sub_same y1) (hF2 (by rwa [set_get (by decide)] at h))⟩
    · obtain ⟨Adr, cdr, Aar, car, Akr, ckr, Adp, cdp, Aap, cap, Akp, ckp, Adq, cdq, Aaq, caq, Akq, ckq, Lv, hS, hA0, hB, hF0, hF1, hF2⟩ := hI
      have d5 := hr.2.2 _ rfl ⟨5, .data⟩ (by simp) rfl
      have e11 := hS.at_ (Xm5.out Adr cdr Aar car Akr ckr Adp cdp Aap cap Akp ckp Adq cdq Aaq caq Akq ckq Lv) d5
      have d9 := hr.2.2 _ rfl ⟨9, .data⟩ (by simp) rfl
      have e15 := hS.at_ (Xm9.out Adr cdr Aar car Akr ckr Adp cdp Aap cap Akp ckp Adq cdq Aaq caq Akq ckq Lv) d9
      refine wpOp_plain' rfl rfl fun K' hK => ?_
      go_simp
      exact hK _ _ ⟨Adr, cdr, Aar, car, Akr, ckr, Adp, cdp, Aap, cap, Akp, ckp, Adq, cdq, Aaq, caq, Akq, ckq, Lv, hS.put' (Xhn1.out Adr cdr Aar car Akr ckr Adp cdp Aap cap Akp ckp Adq cdq Aaq caq Akq ckq Lv) (Xhn2.out Adr cdr Aar car Akr ckr Adp cdp Aap cap Akp ckp Adq cdq Aaq caq Akq ckq Lv) (Xhlt.out Adr cdr Aar car Akr ckr Adp cdp Aap cap Akp ckp Adq cdq Aaq caq Akq ckq Lv) (Xm10.out Adr cdr Aar car Akr ckr Adp cdp Aap cap Akp ckp Adq cdq Aaq caq Akq ckq Lv), hA0, hB, fun h => hF0 (by rwa [set_get (by decide)] at h), fun h => hF1 (by rwa [set_get (by decide)] at h), fun h => hF2 (by rwa [set_get (by decide)] at h)⟩
    · obtain ⟨Adr, cdr, Aar, car, Akr, ckr, Adp, cdp, Aap, cap, Akp, ckp, Adq, cdq, Aaq, caq, Akq, ckq, Lv, hS, hA0, hB, hF0, hF1, hF2⟩ := hI
      have d10 := hr.2.2 _ rfl ⟨10, .data⟩ (by simp) rfl
      have e16 := hS.at_ (Xm10.out Adr cdr Aar car Akr ckr Adp cdp Aap cap Akp ckp Adq cdq Aaq caq Akq ckq Lv) d10
      refine wpOp_plain' rfl rfl fun K' hK => ?_
      go_simp
      exact hK _ _ ⟨Adr, cdr, Aar, car, Akr, ckr, Adp, cdp, Aap, cap, Akp, ckp, Adq, cdq, Aaq, caq, Akq, ckq, Lv, hS.put' (Xhn1.out Adr cdr Aar car Akr ckr Adp cdp Aap cap Akp ckp Adq cdq Aaq caq Akq ckq Lv) (Xhn2.out Adr cdr Aar car Akr ckr Adp cdp Aap cap Akp ckp Adq cdq Aaq caq Akq ckq Lv) (Xhlt.out Adr cdr Aar car Akr ckr Adp cdp Aap cap Akp ckp Adq cdq Aaq caq Akq ckq Lv) (Xm11.out Adr cdr Aar car Akr ckr Adp cdp Aap cap Akp ckp Adq cdq Aaq caq Akq ckq Lv), hA0, hB, fun h => hF0 (by rwa [set_get (by decide)] at h), fun h => hF1 (by rwa [set_get (by decide)] at h), fun h => hF2 (by rwa [set_get (by decide)] at h)⟩
    · obtain ⟨Adr, cdr, Aar, car, Akr, ckr, Adp, cdp, Aap, cap, Akp, ckp, Adq, cdq, Aaq, caq, Akq, ckq, Lv, hS, hA0, hB, hF0, hF1, hF2⟩ := hI
      have dg := hr.2.2 _ rfl ⟨11, .guard⟩ (by simp) rfl
      have eg := hS.at_ (Xm11.out Adr cdr Aar car Akr ckr Adp cdp Aap cap Akp ckp Adq cdq Aaq caq Akq ckq Lv) dg
      refine wpOp_on rfl rfl rfl rfl eg fun K' hK => ?_
      go_simp
      refine (lives_any w').mono ?_
      rintro e w1' ⟨rfl, y1⟩
      exact hK _ _ ⟨Adr, cdr, Aar, car, Akr, ckr, Adp, cdp, Aap, cap, Akp, ckp, Adq, cdq, Aaq, caq, Akq, ckq, Lv, hS.put' (Xhn1.out Adr cdr Aar car Akr ckr Adp cdp Aap cap Akp ckp Adq cdq Aaq caq Akq ckq Lv) (Xhn2.out Adr cdr Aar car Akr ckr Adp cdp Aap cap Akp ckp Adq cdq Aaq caq Akq ckq Lv) (Xhlt.out Adr cdr Aar car Akr ckr Adp cdp Aap cap Akp ckp Adq cdq Aaq caq Akq ckq Lv) (Xm12.out Adr cdr Aar car Akr ckr Adp cdp Aap cap Akp ckp Adq cdq Aaq caq Akq ckq Lv), (hA0).trans (Ext.of_below (hA0).ok y1), hB.trans (y1.mono hB.size), fun h => (nodeR 13).mono (sub_same y1) (hF0 (by rwa [set_get (by decide)] at h)), fun h => (nodeR 13).mono (sub_same y1) (hF1 (by rwa [set_get (by decide)] at h)), fun h => (nodeR 13).mono (sub_same y1) (hF2 (by rwa [set_get (by decide)] at h))⟩
    · obtain ⟨Adr, cdr, Aar, car, Akr, ckr, Adp, cdp, Aap, cap, Akp, ckp, Adq, cdq, Aaq, caq, Akq, ckq, Lv, hS, hA0, hB, hF0, hF1, hF2⟩ := hI
      have d11 := hr.2.2 _ rfl ⟨11, .data⟩ (by simp) rfl
      have e17 := hS.at_ (Xm11.out Adr cdr Aar car Akr ckr Adp cdp Aap cap Akp ckp Adq cdq Aaq caq Akq ckq Lv) d11
      have d12 := hr.2.2 _ rfl ⟨12, .data⟩ (by simp) rfl
      have e18 := hS.at_ (Xm12.out Adr cdr Aar car Akr ckr Adp cdp Aap cap Akp ckp Adq cdq Aaq caq Akq ckq Lv) d12
      refine wpOp_plain' rfl rfl fun K' hK => ?_
      go_simp
      exact hK _ _ ⟨Adr, cdr, Aar, car, Akr, ckr, Adp, cdp, Aap, cap, Akp, ckp, Adq, cdq, Aaq, caq, Akq, ckq, Lv, hS.put' (Xhn1.out Adr cdr Aar car Akr ckr Adp cdp Aap cap Akp ckp Adq cdq Aaq caq Akq ckq Lv) (Xhn2.out Adr cdr Aar car Akr ckr Adp cdp Aap cap Akp ckp Adq cdq Aaq caq Akq ckq Lv) (Xhlt.out Adr cdr Aar car Akr ckr Adp cdp Aap cap Akp ckp Adq cdq Aaq caq Akq ckq Lv) (Xm13.out Adr cdr Aar car Akr ckr Adp cdp Aap cap Akp ckp Adq cdq Aaq caq Akq ckq Lv), hA0, hB, fun h => hF0 (by rwa [set_get (by decide)] at h), fun h => hF1 (by rwa [set_get (by decide)] at h), fun h => hF2 (by rwa [set_get (by decide)] at h)⟩
    · obtain ⟨Adr, cdr, Aar, car, Akr, ckr, Adp, cdp, Aap, cap, Akp, ckp, Adq, cdq, Aaq, caq, Akq, ckq, Lv, hS, hA0, hB, hF0, hF1, hF2⟩ := hI
      have d13 := hr.2.2 _ rfl ⟨13, .data⟩ (by simp) rfl
      have e19 := hS.at_ (Xm13.out Adr cdr Aar car Akr ckr Adp cdp Aap cap Akp ckp Adq cdq Aaq caq Akq ckq Lv) d13
      refine wpOp_plain' rfl rfl fun K' hK => ?_
      go_simp
      exact hK _ _ ⟨Adr, cdr, Aar, car, Akr, ckr, Adp, cdp, Aap, cap, Akp, ckp, Adq, cdq, Aaq, caq, Akq, ckq, Lv, hS.put' (Xhn1.out Adr cdr Aar car Akr ckr Adp cdp Aap cap Akp ckp Adq cdq Aaq caq Akq ckq Lv) (Xhn2.out Adr cdr Aar car Akr ckr Adp cdp Aap cap Akp ckp Adq cdq Aaq caq Akq ckq Lv) (Xhlt.out Adr cdr Aar car Akr ckr Adp cdp Aap cap Akp ckp Adq cdq Aaq caq Akq ckq Lv) (Xm14.out Adr cdr Aar car Akr ckr Adp cdp Aap cap Akp ckp Adq cdq Aaq caq Akq ckq Lv), hA0, hB, fun h => hF0 (by rwa [set_get (by decide)] at h), fun h => hF1 (by rwa [set_get (by decide)] at h), fun h => hF2 (by rwa [set_get (by decide)] at h)⟩
end Go.Proofs.Ytojcciciinklbaa
