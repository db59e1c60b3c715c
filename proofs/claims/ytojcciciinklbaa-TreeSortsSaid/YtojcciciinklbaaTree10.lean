/- Walks: whether a node's own fields may be. No claim by itself. -/
import Derived.Test.YtojcciciinklbaaTree9
import Derived.Test.YtojcciciinklbaaShelf
set_option linter.unusedSimpArgs false
set_option linter.unusedVariables false
namespace Go.Proofs.Ytojcciciinklbaa
open Go.RowKit

/-- The one parameter's block, above the world that the call began in. -/
def Box1 (w : World) (o : Obj) (w1 : World) : Prop := w1.heap[w.heap.size]? = some o ∧ Below w.heap.size w w1 ∧ w.heap.size + 1 ≤ w1.heap.size
theorem Box1.step {w w1 w2 : World} {o : Obj} (h : Box1 w o w1) (h2 : Below w1.heap.size w1 w2) : Box1 w o w2 := by
  obtain ⟨a, b, c⟩ := h
  have := h2.size
  exact ⟨by rw [h2.block _ (by omega)]; exact a, b.trans (h2.mono (by omega)), by omega⟩
theorem box1 {w : World} {o : Obj} : Box1 w o (w.alloc o) := one_box (Below.refl _ _)
theorem Box1.drew {w w1 : World} {o : Obj} (h : Box1 w o w1) : Box1 w o w1.drew := h.step (Below.refl _ _).drew

theorem twelve_box {w : World} {b : Nat} {o : Own} {Ad Aa Ak : Option Addr} {cd ca lk ck : Nat} (h : w.heap[b]? = some (boxO o Ad cd Aa ca Ak lk ck)) :
    w.cell? ⟨b, 0, none⟩ = some (.int .i64 o.kind) ∧ w.cell? ⟨b, 1, none⟩ = some (.string o.name) ∧ w.cell? ⟨b, 2, none⟩ = some (.int .i64 o.mode) ∧ w.cell? ⟨b, 3, none⟩ = some (.int .i64 o.uid) ∧ w.cell? ⟨b, 4, none⟩ = some (.int .i64 o.gid) ∧ w.cell? ⟨b, 5, none⟩ = some (.int .i64 o.mtime) ∧ w.cell? ⟨b, 6, none⟩ = some (.slice Ad o.data.length cd) ∧ w.cell? ⟨b, 7, none⟩ = some (.string o.target) ∧ w.cell? ⟨b, 8, none⟩ = some (.int .i64 o.major) ∧ w.cell? ⟨b, 9, none⟩ = some (.int .i64 o.minor) ∧ w.cell? ⟨b, 10, none⟩ = some (.slice Aa o.attrs.length ca) ∧ w.cell? ⟨b, 11, none⟩ = some (.slice Ak lk ck) := twelve h
theorem Box1.cells {w w1 : World} {o : Own} {Ad Aa Ak : Option Addr} {cd ca lk ck : Nat} (h : Box1 w (boxO o Ad cd Aa ca Ak lk ck) w1) :
    w1.cell? ⟨w.heap.size, 0, none⟩ = some (.int .i64 o.kind) ∧ w1.cell? ⟨w.heap.size, 1, none⟩ = some (.string o.name) ∧ w1.cell? ⟨w.heap.size, 2, none⟩ = some (.int .i64 o.mode) ∧ w1.cell? ⟨w.heap.size, 3, none⟩ = some (.int .i64 o.uid) ∧ w1.cell? ⟨w.heap.size, 4, none⟩ = some (.int .i64 o.gid) ∧ w1.cell? ⟨w.heap.size, 5, none⟩ = some (.int .i64 o.mtime) ∧ w1.cell? ⟨w.heap.size, 6, none⟩ = some (.slice Ad o.data.length cd) ∧ w1.cell? ⟨w.heap.size, 7, none⟩ = some (.string o.target) ∧ w1.cell? ⟨w.heap.size, 8, none⟩ = some (.int .i64 o.major) ∧ w1.cell? ⟨w.heap.size, 9, none⟩ = some (.int .i64 o.minor) ∧ w1.cell? ⟨w.heap.size, 10, none⟩ = some (.slice Aa o.attrs.length ca) ∧ w1.cell? ⟨w.heap.size, 11, none⟩ = some (.slice Ak lk ck) := twelve_box h.1
theorem Box1.drewN {w w1 : World} {o : Obj} (h : Box1 w o w1) (n : Nat) : Box1 w o (w1.drewN n) := h.step ⟨rfl, rfl, rfl, Nat.le_refl _, fun _ _ => rfl⟩
theorem Box1.below {w w1 : World} {o : Obj} (h : Box1 w o w1) : Below w.heap.size w w1 := h.2.1
theorem size_zero {s : ByteArray} (h : s.size = 0) : s = ⟨#[]⟩ := by
  cases s with | mk d => rw [Array.eq_empty_of_size_eq_zero (xs := d) h]
def inB (a b : Int) : Bool := decide (0 ≤ a ∧ a ≤ b)
def headB (o : Own) : Bool := !(decide (o.kind < 1) || decide (4 < o.kind) || !inB o.mode 4095 || !inB o.uid 2147483647 || !inB o.gid 2147483647 || !inB o.mtime 1099511627776)
noncomputable def midB (x : Nd) : Bool := !(x.own.attrs.any oddA || decide (4 < x.own.attrs.length) || !risesB (·.1) x.own.attrs || !eqB x (plainN x))
def linkB (o : Own) : Bool := !decide (o.kind = 3) || (!decide (o.target.size = 0) && decide (o.target.size ≤ 64) && !decide (0 ≤ Lib.indexByte o.target.data.toList 0))
def restB (o : Own) : Bool := linkB o && decide (o.data.length ≤ 4096) && inB o.major 255 && inB o.minor 255
noncomputable def ownB (x : Nd) : Bool := headB x.own && midB x && restB x.own

set_option maxRecDepth 100000 in
set_option maxHeartbeats 8000000 in
theorem own_any (n : Nat) (x : Nd) (cs : List Value) (L : Live) (w : World) (h : (nodeR n).R L w x cs) :
    Calls Try.prog 73 #[.agg cs.toArray] w fun e w' => e = .returned (.bool (ownB x)) ∧ Below w.heap.size w w' := by
  obtain ⟨m, Ad, cd, Aa, ca, Ak, ck, hm, rfl, hP, d1, d2, a1, a2, k1, k2⟩ := node_open h
  have HP := Lib.hid hP
  have HE : Hid (ownB x = (headB x.own && midB x && restB x.own)) := Lib.hid rfl
  have HM : Hid (midB x = !(x.own.attrs.any oddA || decide (4 < x.own.attrs.length) || !risesB (·.1) x.own.attrs || !eqB x (plainN x))) := Lib.hid rfl
  clear hP hm
  have c27 := cellsNode
  unfold nodeV
  obtain ⟨o, ho⟩ : ∃ o, o = x.own := ⟨_, rfl⟩
  have hF := HP.out.fits
  have hA := HP.out.attrs
  rw [← ho] at HE HM hF hA h ⊢
  have H := Lib.hid h
  clear h
  have HF := Lib.hid hF; have HA := Lib.hid hA
  clear hF hA HP
  have Hho := Lib.hid ho
  clear ho
  have HH : Hid (headB o = !(decide (o.kind < 1) || decide (4 < o.kind) || !inB o.mode 4095 || !inB o.uid 2147483647 || !inB o.gid 2147483647 || !inB o.mtime 1099511627776)) := Lib.hid rfl
  go_enter Try.func73, Try.ntmps73
  go_upto_region 1 with fail
  go_cut [36] (fun v wx => v = .bool (!headB o) ∧ Hid (Box1 w (boxO o Ad cd Aa ca Ak x.kids.length ck) wx))
  case first =>
    go_wp2_with (first
      | (go_at_call 91
         refine (in_any _ _ _).mono ?_
         rintro e _ ⟨rfl, rfl⟩))
    all_goals (go_meet; case rel => exact ⟨congrArg Value.bool (by rw [HH.out]; simp [inB, *] <;> omega), Lib.hid box1⟩)
  case rest =>
    obtain ⟨rfl, HB⟩ := hcut
    obtain ⟨q0, hq0⟩ : ∃ q, q = headB o := ⟨_, rfl⟩
    rw [← hq0] at HE ⊢
    clear hq0 HH
    obtain ⟨z0, z1, z2⟩ := HB.out
    have Z1 := Lib.hid z1
    obtain ⟨n0, n1, n2, n3, n4, n5, n6, n7, n8, n9, n10, n11⟩ := twelve_box z0
    clear z0 z1 z2
    cases q0 with
    | false =>
      go_wp2
      go_ret
      exact ⟨ret_bool (by rw [HE.out]; simp), Z1.out⟩
    | true =>
      go_wp2_with fail
      refine (acontains_any o.attrs _ L _ (HA.out.mono (sub_same Z1.out))).mono ?_
      rintro e w1 ⟨rfl, h1⟩
      have X1 := Lib.hid ((HB.out.step h1).drew)
      have X0 := Lib.hid (HB.out.step h1)
      clear h1 n0 n1 n2 n3 n4 n5 n6 n7 n8 n9 n10 n11 HB Z1
      obtain ⟨q1, hq1⟩ : ∃ q, q = o.attrs.any oddA := ⟨_, rfl⟩
      obtain ⟨q2, hq2⟩ : ∃ q, q = risesB (·.1) o.attrs := ⟨_, rfl⟩
      obtain ⟨q3, hq3⟩ : ∃ q, q = eqB x (plainN x) := ⟨_, rfl⟩
      obtain ⟨q4, hq4⟩ : ∃ q, q = decide ((4 : Int) < (o.attrs.length : Int)) := ⟨_, rfl⟩
      have hq4' : decide (4 < o.attrs.length) = q4 := by rw [hq4]; congr 1; exact propext (by omega)
      rw [hq4', ← hq1, ← hq2, ← hq3] at HM
      rw [← hq1]
      have HQ2 := Lib.hid hq2
      have HQ3 := Lib.hid hq3
      have hd4 := hq4.symm
      clear hq1 hq2 hq3 hq4' hq4
      go_upto_region 4 with fail
      go_cut [59] (fun v wx => v = .bool (!midB x) ∧ Hid (Box1 w (boxO o Ad cd Aa ca Ak x.kids.length ck) wx))
      case first =>
        obtain ⟨n0, n1, n2, n3, n4, n5, n6, n7, n8, n9, n10, n11⟩ := twelve_box (And.left X0.out)
        cases q1 with
        | true =>
          go_quiet (fail)
          go_wp2_with fail
          go_meet
          case rel => exact ⟨congrArg Value.bool (by rw [HM.out]; simp), Lib.hid (X0.out.drewN _)⟩
        | false =>
          cases q4 with
          | true =>
            go_quiet (fail)
            go_wp2_with fail
            go_meet
            case rel => exact ⟨congrArg Value.bool (by rw [HM.out]; simp), Lib.hid (X0.out.drewN _)⟩
          | false =>
            cases q2 with
            | false =>
              go_region_with (go_at_call 94
                              refine (arising_any o.attrs _ L _ (HA.out.mono (sub_same X1.out.below))).mono ?_
                              rintro e w2 ⟨rfl, h2⟩
                              rw [← HQ2.out]
                              have X2 := Lib.hid (X1.out.step h2)
                              clear h2)
              all_goals (go_wp2_with fail)
              all_goals (go_meet; case rel => exact ⟨congrArg Value.bool (by rw [HM.out]; simp), X2⟩)
            | true =>
              go_region_held3 (fun w' => w'.cell? ⟨w.heap.size, 0, none⟩ = some (.int .i64 o.kind) ∧ w'.cell? ⟨w.heap.size, 1, none⟩ = some (.string o.name) ∧ w'.cell? ⟨w.heap.size, 2, none⟩ = some (.int .i64 o.mode) ∧ w'.cell? ⟨w.heap.size, 3, none⟩ = some (.int .i64 o.uid) ∧ w'.cell? ⟨w.heap.size, 4, none⟩ = some (.int .i64 o.gid) ∧ w'.cell? ⟨w.heap.size, 5, none⟩ = some (.int .i64 o.mtime) ∧ w'.cell? ⟨w.heap.size, 6, none⟩ = some (.slice Ad o.data.length cd) ∧ w'.cell? ⟨w.heap.size, 7, none⟩ = some (.string o.target) ∧ w'.cell? ⟨w.heap.size, 8, none⟩ = some (.int .i64 o.major) ∧ w'.cell? ⟨w.heap.size, 9, none⟩ = some (.int .i64 o.minor) ∧ w'.cell? ⟨w.heap.size, 10, none⟩ = some (.slice Aa o.attrs.length ca) ∧ w'.cell? ⟨w.heap.size, 11, none⟩ = some (.slice Ak x.kids.length ck))
                (first | with_reducible exact Box1.cells X1.out | with_reducible exact Box1.cells X0.out)
                (first
                | (go_at_call 94
                   refine (arising_any o.attrs _ L _ (HA.out.mono (sub_same X1.out.below))).mono ?_
                   rintro e w2 ⟨rfl, h2⟩
                   rw [← HQ2.out]
                   have X1 := Lib.hid (X1.out.step h2)
                   clear h2)
                | (go_at_call 96
                   refine (plain_any _ x _ L _ ((nodeR _).mono (sub_same X1.out.below) H.out)).mono ?_
                   rintro e w3 ⟨ds, rfl, h3, x3⟩
                   have HD := Lib.hid h3
                   have X1 := Lib.hid (X1.out.step x3)
                   clear h3 x3)
                | (go_at_call 29
                   refine (same_at _ _ x (plainN x) _ ds L L _ ((nodeR _).mono (sub_same X1.out.below) H.out) HD.out).mono ?_
                   rintro e w4 ⟨rfl, h4⟩
                   rw [← HQ3.out]
                   have X1 := Lib.hid (X1.out.step h4)
                   clear h4))
              all_goals (go_wp2_with fail)
              all_goals (go_meet; case rel => exact ⟨congrArg Value.bool (by rw [HM.out]; simp), X1⟩)
      case rest =>
        clear X0 X1 HM HQ2 HQ3 hd4
        obtain ⟨rfl, HB⟩ := hcut
        obtain ⟨q5, hq5⟩ : ∃ q, q = midB x := ⟨_, rfl⟩
        rw [← hq5] at HE ⊢
        clear hq5
        obtain ⟨n0, n1, n2, n3, n4, n5, n6, n7, n8, n9, n10, n11⟩ := HB.out.cells
        have Z1 := Lib.hid HB.out.below
        cases q5 with
        | false =>
          go_wp2
          go_ret
          exact ⟨ret_bool (by rw [HE.out]; simp), Z1.out⟩
        | true =>
          have HL : Hid (linkB o = (!decide (o.kind = 3) || (!decide (o.target.size = 0) && decide (o.target.size ≤ 64) && !decide (0 ≤ Lib.indexByte o.target.data.toList 0)))) := Lib.hid rfl
          have hts := HF.out.target
          obtain ⟨b3, hb3⟩ : ∃ b, (o.kind == 3) = b := ⟨_, rfl⟩
          have hb3' : (o.kind != 3) = !b3 := by rw [← hb3]; rfl
          have hb3'' : decide (o.kind = 3) = b3 := by rw [← hb3]; rw [Bool.eq_iff_iff]; simp
          rw [hb3''] at HL
          clear hb3''
          obtain ⟨t, ht⟩ : ∃ t, t = o.target := ⟨_, rfl⟩
          rw [← ht] at n7 HL hts ⊢
          clear ht
          go_upto_region 6 with fail
          go_cut [4] (fun v wx => v = .bool (linkB o) ∧ Hid (Box1 w (boxO o Ad cd Aa ca Ak x.kids.length ck) wx))
          case first =>
            cases b3 with
            | false =>
              go_wp2_with fail
              go_meet
              case rel => exact ⟨congrArg Value.bool (by rw [HL.out]; simp), HB⟩
            | true =>
              by_cases he : t = ⟨#[]⟩
              · subst he
                go_wp2_with fail
                go_meet
                case rel => exact ⟨congrArg Value.bool (by rw [HL.out]; simp [ByteArray.size]), HB⟩
              · have q0 := toL_emp he
                have hne : ¬ t.size = 0 := fun h => he (size_zero h)
                by_cases h64 : t.size ≤ 64
                · have h64I : (t.size : Int) ≤ 64 := by omega
                  go_wp2_with fail
                  refine (Try.strings_Contains_one t 0 _).mono ?_
                  rintro e _ ⟨rfl, rfl⟩
                  obtain ⟨q6, hq6⟩ : ∃ q, q = decide (0 ≤ Lib.indexByte t.data.toList 0) := ⟨_, rfl⟩
                  rw [← hq6] at HL ⊢
                  clear hq6
                  go_wp2_with fail
                  go_meet
                  case rel => exact ⟨congrArg Value.bool (by rw [HL.out]; simp [*]), HB⟩
                · have h64I : ¬ (t.size : Int) ≤ 64 := by omega
                  go_wp2_with fail
                  go_meet
                  case rel => exact ⟨congrArg Value.bool (by rw [HL.out]; simp [*]), HB⟩
          case rest =>
            obtain ⟨rfl, HB⟩ := hcut
            have HR : Hid (restB o = (linkB o && decide (o.data.length ≤ 4096) && inB o.major 255 && inB o.minor 255)) := Lib.hid rfl
            obtain ⟨q7, hq7⟩ : ∃ q, q = linkB o := ⟨_, rfl⟩
            rw [← hq7] at HR ⊢
            clear hq7 HL hb3 hb3' n0 n1 n2 n3 n4 n5 n6 n7 n8 n9 n10 n11 Z1 hts
            obtain ⟨n0, n1, n2, n3, n4, n5, n6, n7, n8, n9, n10, n11⟩ := HB.out.cells
            have Z1 := Lib.hid HB.out.below
            cases q7 with
            | false =>
              go_wp2_with fail
              go_ret
              exact ⟨ret_bool (by rw [HE.out, HR.out]; simp), Z1.out⟩
            | true =>
              by_cases h40 : o.data.length ≤ 4096
              · have h40I : (o.data.length : Int) ≤ 4096 := by omega
                go_wp2_with (first
                  | (go_at_call 91
                     refine (in_any _ _ _).mono ?_
                     rintro e _ ⟨rfl, rfl⟩))
                all_goals (go_ret; exact ⟨ret_bool (by rw [HE.out, HR.out]; simp [inB, *] <;> omega), Z1.out⟩)
              · have h40I : ¬ (o.data.length : Int) ≤ 4096 := by omega
                go_wp2_with fail
                go_ret
                exact ⟨ret_bool (by rw [HE.out, HR.out]; simp [*]), Z1.out⟩
end Go.Proofs.Ytojcciciinklbaa
