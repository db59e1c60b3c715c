/- Walks: the library's stable sort at nodes, by their names (at most 20): the walks. No claim by itself. -/
import Derived.Test.YtojcciciinklbaaSortC
set_option linter.unusedSimpArgs false
set_option linter.unusedVariables false
namespace Go.Proofs.Ytojcciciinklbaa
open Go.RowKit Go.Shelf

def sortRen : Go.Shelf.Ren := ⟨fun | 20 => 100 | n => n, fun | 22 => 25 | 24 => 27 | 25 => 92 | 3 => 3 | 4 => 4 | 0 => 0 | n => n, fun | n => n⟩
theorem laysSort : Go.Proofs.SlLaysF0.n20 Try.prog sortRen := {
  mixed := by kernel_rfl
  f20 := ⟨(Try.f100).name, by kernel_rfl, Try.func100.trans (congrArg some (by kernel_rfl))⟩
  t0 := Try.underlying0
  a0 := Try.isAgg0
  z0 := Try.sizeOf0
  v0 := Try.zeroValue0
  t3 := Try.underlying3
  a3 := Try.isAgg3
  z3 := Try.sizeOf3
  v3 := Try.zeroValue3
  t4 := Try.underlying4
  a4 := Try.isAgg4
  z4 := Try.sizeOf4
  v4 := Try.zeroValue4
  t22 := Try.underlying25
  a22 := Try.isAgg25
  z22 := Try.sizeOf25
  v22 := Try.zeroValue25
  t25 := Try.underlying92
  a25 := Try.isAgg92
  z25 := Try.sizeOf92
  v25 := Try.zeroValue92 }

theorem isnan_any (a : ByteArray) (w : World) : Calls Try.prog 81 #[.string a] w fun e w' => e = .returned (.bool false) ∧ w = w' := by
  go_enter Try.func81, Try.ntmps81
  go_wp2
  go_ret
  exact ⟨rfl, rfl⟩
set_option maxHeartbeats 1000000 in
theorem ccompare_any (a b : ByteArray) (w : World) : Calls Try.prog 62 #[.string a, .string b] w fun e w' => e = .returned (.int .i64 (cmpS a b)) ∧ w = w' := by
  go_enter Try.func62, Try.ntmps62
  go_wp2_with fail
  refine (isnan_any a w).mono ?_
  rintro e w1 ⟨rfl, rfl⟩
  go_wp2_with fail
  refine (isnan_any b w).mono ?_
  rintro e w1 ⟨rfl, rfl⟩
  rcases three a b with ⟨h1, h2, h3⟩ | rfl | ⟨h1, h2, h3⟩
  · have HE := Lib.hid (cmpS_lt h1)
    have l1 : Op.bytesLess a.toList b.toList = true := h1
    clear h1 h2 h3
    go_wp2
    go_ret
    exact ⟨ret_int HE.out.symm, rfl⟩
  · have HE := Lib.hid (cmpS_eq a)
    have l1 : Op.bytesLess a.toList a.toList = false := bl_irrefl _
    go_wp2
    go_ret
    exact ⟨ret_int HE.out.symm, rfl⟩
  · have HE := Lib.hid (cmpS_gt h1)
    have l1 : Op.bytesLess b.toList a.toList = true := h1
    have l2 : Op.bytesLess a.toList b.toList = false := h2
    have l3 := toL_nb h3
    have l4 := toL_np h3
    clear h1 h2 h3
    go_wp2
    go_ret
    exact ⟨ret_int HE.out.symm, rfl⟩
set_option maxHeartbeats 1000000 in
theorem byname_any (a b : KE) (w : World) : Calls Try.prog 61 #[.agg (encK a).toArray, .agg (encK b).toArray] w fun e w' => e = .returned (.int .i64 (cfK a b)) ∧ ∃ q os, w' = Go.Sort.grow (w.drewN q) os := by
  have c27 := cellsNode
  obtain ⟨x, Ad, cd, Aa, ca, Ak, ck⟩ := a
  obtain ⟨y, Ad2, cd2, Aa2, ca2, Ak2, ck2⟩ := b
  unfold encK nodeV cfK
  dsimp only
  have HB : Hid (Boxed w (boxO x.own Ad cd Aa ca Ak x.kids.length ck) (boxO y.own Ad2 cd2 Aa2 ca2 Ak2 y.kids.length ck2) ((w.alloc (boxO x.own Ad cd Aa ca Ak x.kids.length ck)).alloc (boxO y.own Ad2 cd2 Aa2 ca2 Ak2 y.kids.length ck2))) := Lib.hid boxed
  go_enter Try.func61, Try.ntmps61
  go_wp2_with fail
  refine (ccompare_any _ _ _).mono ?_
  rintro e w1 ⟨rfl, rfl⟩
  go_wp2
  go_ret
  refine ⟨rfl, 0, #[boxO x.own Ad cd Aa ca Ak x.kids.length ck] ++ #[boxO y.own Ad2 cd2 Aa2 ca2 Ak2 y.kids.length ck2], ?_⟩
  rw [← Go.Sort.grow_grow, ← Go.Sort.alloc_eq_grow, ← Go.Sort.alloc_eq_grow]
  rfl

theorem byname_lays (g size : Nat) (w : World) : Go.Proofs.CmpLays Try.prog 61 #[] encK 12 cfK g 0 size w := fun m os dk hs x y => by
  refine (byname_any x y _).mono ?_
  rintro e w' ⟨rfl, q, os', rfl⟩
  exact ⟨rfl, q, os', rfl⟩

/-- What the library's sorts do of a row of nodes. -/
def Sorts (n : Nat) (L : Live) (w : World) (base : Nat) (v : Value) (ys : List Nd) (e : Ending) (w' : World) : Prop :=
  e = .returned (.tuple #[]) ∧ ∃ ys' kc', ys.Perm ys' ∧ (ys'.Pairwise fun a b => leS a.own.name b.own.name) ∧ Out (nodeR n) L w' base 27 v ys' kc' ∧ w.grownBy w' v.ownBlock

theorem grown_world {w : World} {g m : Nat} {vs : List Value} {os : Array Obj} : w.grownBy (Go.Sort.grow ((Go.Sort.ahead w m).setCells g 0 vs) os) (some g) := by
  have h := setCells_grown g vs 0 (Go.Sort.ahead w m)
  refine ⟨h.os, h.tape, h.output, ?_, fun k hk hne => ?_⟩
  · show w.heap.size ≤ (((Go.Sort.ahead w m).setCells g 0 vs).heap ++ os).size
    rw [Array.size_append]
    have := h.size
    exact Nat.le_trans this (Nat.le_add_right _ _)
  · show ((((Go.Sort.ahead w m).setCells g 0 vs).heap ++ os))[k]? = _
    have hs := h.size
    rw [Array.getElem?_append_left (Nat.lt_of_lt_of_le hk hs)]
    exact h.block k hk hne
theorem below_grow (w : World) (os : Array Obj) : Below w.heap.size w (Go.Sort.grow w os) :=
  ⟨rfl, rfl, rfl, by show w.heap.size ≤ (w.heap ++ os).size; rw [Array.size_append]; omega, fun k hk => by show (w.heap ++ os)[k]? = _; rw [Array.getElem?_append_left hk]⟩
theorem below_ahead (w : World) (m : Nat) : Below w.heap.size w (Go.Sort.ahead w m) := ⟨rfl, rfl, rfl, Nat.le_refl _, fun _ _ => rfl⟩

set_option maxRecDepth 100000 in
theorem insert_any (n : Nat) (L : Live) (w : World) (base : Nat) (A : Option Addr) (c : Nat) (ys : List Nd) (kc : List Value) (h : Out (nodeR n) L w base 27 (.slice A ys.length c) ys kc) (hok : LOk L w) (hl : ys.length ≤ 19) (hn : 0 < ys.length) :
    Calls Try.prog 100 #[.slice A ys.length c, .int .i64 0, .int .i64 ys.length, .func (.func 61) #[] #[]] w (Sorts n L w base (.slice A ys.length c) ys) := by
  obtain ⟨h1, h2, h3⟩ := h
  obtain ⟨g, cap, cur, fr, he, hg, hh, hf, hc1, hc2, hc3, hcc⟩ := h1.row hn
  simp only [Value.slice.injEq, true_and] at he
  obtain ⟨rfl, rfl⟩ := he
  have hgl : g < w.heap.size := (Array.getElem?_eq_some_iff.1 hh).1
  obtain ⟨es, rfl, rfl, hR⟩ := reps_ke h2
  have hsz : (nodeR n).sz = 12 := nodeR_sz n
  have hel : (es.map (·.y)).length = es.length := List.length_map _
  have hlen : es.toArray.size = es.length := rfl
  have hH : Go.Sort.HoldsK encK 12 w g 0 es.toArray := fun j hj => by
    rw [Go.Sort.size_flatK] at hj
    have hj2 := flat_at es.toArray j hj
    have e0 : (0 + j) = j := by omega
    rw [e0]
    refine ⟨hcc j _ hj2, frozen_free hh hf ?_⟩
    rw [hsz] at hc3
    have := Nat.mul_le_mul_right 12 hc1
    rw [hlen] at hj
    omega
  have hI := Go.Proofs.AnyQ.insertionSortCmpFunc laysSort 12 Try.isAgg27 Try.sizeOf27 encK encK_len encK_one cfK 61 #[] g 0 c 0 es.length es.toArray w (fun _ _ => rfl) (byname_lays g _ w) hH hgl (Nat.zero_le _) (Nat.le_refl _) (by rw [hlen]; omega)
  rw [hel]
  refine Calls.mono hI ?_
  rintro e w' ⟨rfl, m, os, rfl⟩
  obtain ⟨⟨p1, p2, p3⟩, ps⟩ := Go.Sort.insertionSort_holds swoK es.toArray 0 es.length (Nat.zero_le _) (Nat.le_refl _)
  obtain ⟨d', hd'⟩ : ∃ d', d' = Go.Sort.insertionSort (ltOf cfK) es.toArray 0 es.length := ⟨_, rfl⟩
  rw [← hd'] at p1 p2 p3 ps ⊢
  have hds : d'.size = es.length := p1
  have hperm : d'.toList.Perm es := by
    have e1 : d'.extract 0 es.length = d' := by rw [← hds]; exact Array.extract_size
    have e2 : es.toArray.extract 0 es.length = es.toArray := by rw [← hlen]; exact Array.extract_size
    rw [e1, e2] at p3
    exact p3
  rw [world_sets hH p1]
  refine ⟨rfl, d'.toList.map (·.y), (d'.toList.map encK).flatten, (hperm.map _).symm, ?_, ?_, grown_world⟩
  · rw [List.pairwise_map, List.pairwise_iff_getElem]
    intro i j hi hj hij
    have hi' : i < d'.size := hi
    have hj' : j < d'.size := hj
    have := ps i j (Nat.zero_le _) hij (by omega)
    rw [ltK, getElem!_pos d' j hj', getElem!_pos d' i hi'] at this
    exact this
  · have hlm : (d'.toList.map (·.y)).length = (es.map (·.y)).length := by rw [List.length_map, List.length_map, hperm.length_eq]
    have hb0 : Blk (Go.Sort.ahead w m) base 27 (nodeR n).sz (.slice (some ⟨g, 0, none⟩) (es.map (·.y)).length c) (es.map (·.y)).length ((es.map encK).flatten) := h1.below (below_ahead w m)
    have hb1 := hb0.stores ((d'.toList.map encK).flatten) 0 _ _ (by rw [hel]; omega) g rfl
    have hdl : d'.toList.length = es.length := hperm.length_eq
    rw [putL_eq _ _ _ (by rw [enc_len, enc_len, hdl]; omega), List.take_zero, List.nil_append, List.drop_of_length_le (by rw [enc_len, enc_len, hdl]; omega), List.append_nil, hel] at hb1
    refine ⟨?_, ke_reps _ fun x hx => ?_, h3⟩
    · rw [hlm, hel]
      exact hb1.below (below_grow _ _)
    · have hx2 := hR x (hperm.subset hx)
      have hs0 : Sub L w L (Go.Sort.ahead w m) := fun b i hb => ⟨hb, fun u hu => hu⟩
      have hs1 := hs0.trans (Sub.setCells ((d'.toList.map encK).flatten) 0 (Go.Sort.ahead w m) (h3 g rfl))
      have hok1 : LOk L ((Go.Sort.ahead w m).setCells g 0 ((d'.toList.map encK).flatten)) := fun b i hb => Nat.lt_of_lt_of_le (hok b i hb) (setCells_grown g _ 0 (Go.Sort.ahead w m)).size
      exact (nodeR n).mono (hs1.trans (sub_same (below_grow _ _))) hx2

set_option maxRecDepth 100000 in
theorem insert_none (v : Value) (c : Nat) (A : Option Addr) (fv : Value) (w : World) :
    Calls Try.prog 100 #[.slice A 0 c, .int .i64 0, .int .i64 0, fv] w fun e w' => e = .returned (.tuple #[]) ∧ w = w' := by
  go_enter Try.func100, Try.ntmps100
  go_wp2
  refine wp_loop_rounds 1 ?_
  rw [rounds_succ]
  go_wp2
  go_end0
  exact ⟨rfl, rfl⟩
set_option maxRecDepth 100000 in
theorem insert_sorts (n : Nat) (L : Live) (w : World) (base : Nat) (A : Option Addr) (c : Nat) (ys : List Nd) (kc : List Value) (h : Out (nodeR n) L w base 27 (.slice A ys.length c) ys kc) (hok : LOk L w) (hl : ys.length ≤ 19) :
    Calls Try.prog 100 #[.slice A ys.length c, .int .i64 0, .int .i64 ys.length, .func (.func 61) #[] #[]] w (Sorts n L w base (.slice A ys.length c) ys) := by
  by_cases hn : 0 < ys.length
  · exact insert_any n L w base A c ys kc h hok hl hn
  · obtain rfl := List.eq_nil_of_length_eq_zero (by omega : ys.length = 0)
    refine (insert_none .nilFunc c A _ w).mono ?_
    rintro e w' ⟨rfl, rfl⟩
    exact ⟨rfl, [], kc, .refl _, .nil, h, ⟨rfl, rfl, rfl, Nat.le_refl _, fun _ _ _ => rfl⟩⟩
set_option maxRecDepth 100000 in
set_option maxHeartbeats 1000000 in
theorem stable_any (n : Nat) (L : Live) (w : World) (base : Nat) (A : Option Addr) (c : Nat) (ys : List Nd) (kc : List Value) (h : Out (nodeR n) L w base 27 (.slice A ys.length c) ys kc) (hok : LOk L w) (hl : ys.length ≤ 19) :
    Calls Try.prog 80 #[.slice A ys.length c, .int .i64 ys.length, .func (.func 61) #[] #[]] w (Sorts n L w base (.slice A ys.length c) ys) := by
  have hI := Lib.hid (insert_sorts n L w base A c ys kc h hok hl)
  have h1 : ¬ (20 : Int) ≤ (ys.length : Int) := by omega
  have h2 : ¬ (20 : Int) < (ys.length : Int) := by omega
  clear h hok
  go_enter Try.func80, Try.ntmps80
  go_wp2
  refine wp_loop_rounds 1 ?_
  rw [rounds_succ]
  go_wp2_with fail
  refine hI.out.mono ?_
  rintro e w' ⟨rfl, h'⟩
  have H := Lib.hid h'
  clear h'
  go_wp2
  refine wp_loop_rounds 1 ?_
  rw [rounds_succ]
  go_wp2
  go_end0
  exact ⟨rfl, H.out⟩
set_option maxRecDepth 100000 in
theorem kidsort_any (n : Nat) (L : Live) (w : World) (base : Nat) (A : Option Addr) (c : Nat) (ys : List Nd) (kc : List Value) (h : Out (nodeR n) L w base 27 (.slice A ys.length c) ys kc) (hok : LOk L w) (hl : ys.length ≤ 19) :
    Calls Try.prog 60 #[.slice A ys.length c, .func (.func 61) #[] #[]] w (Sorts n L w base (.slice A ys.length c) ys) := by
  have hI := Lib.hid (stable_any n L w base A c ys kc h hok hl)
  clear h hok
  go_enter Try.func60, Try.ntmps60
  go_wp2_with fail
  refine hI.out.mono ?_
  rintro e w' ⟨rfl, h'⟩
  have H := Lib.hid h'
  clear h'
  go_wp2
  go_end0
  exact ⟨rfl, H.out⟩
end Go.Proofs.Ytojcciciinklbaa
