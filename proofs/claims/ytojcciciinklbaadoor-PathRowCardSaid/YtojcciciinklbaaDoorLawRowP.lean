/- PathRow: how paths stand, and whether one is under another one, is the document's, and an order. -/
import Derived.Test.YtojcciciinklbaaDoorPath10
set_option linter.unusedSimpArgs false
set_option linter.unusedVariables false
namespace Go.Proofs.YtojcciciinklbaaDoor
open Go.RowKit

set_option maxHeartbeats 4000000 in
theorem law_row (as1 as2 as3 : List Int) (v1 v2 v3 : Value) (Lb : Live) (w : World) (hS1 : SliceR Rp.i64 Lb w as1 v1) (hS2 : SliceR Rp.i64 Lb w as2 v2) (hS3 : SliceR Rp.i64 Lb w as3 v3) :
    Calls Tryd.prog 6 #[v1, v2, v3] w fun e w' => e = .returned (.bool true) ∧ Below w.heap.size w w' := by
  obtain ⟨X, hX⟩ : ∃ X, X = madeP as1 := ⟨_, rfl⟩
  obtain ⟨Y, hY⟩ : ∃ X, X = madeP as2 := ⟨_, rfl⟩
  obtain ⟨Z, hZ⟩ : ∃ X, X = madeP as3 := ⟨_, rfl⟩
  have x1 : X.size ≤ 100000 := by rw [hX]; exact Nat.le_trans (madeP_size _) (by decide)
  have x2 : Y.size ≤ 100000 := by rw [hY]; exact Nat.le_trans (madeP_size _) (by decide)
  have x3 : Z.size ≤ 100000 := by rw [hZ]; exact Nat.le_trans (madeP_size _) (by decide)
  have HX := Lib.hid hX; have HY := Lib.hid hY; have HZ := Lib.hid hZ
  clear hX hY hZ
  have HS1 := Lib.hid hS1
  have HS2 : Hid (∀ w', Below w.heap.size w w' → SliceR Rp.i64 (fun _ _ => True) w' as2 v2) := Lib.hid (fun w' h => hS2.mono (sub_any h))
  have HS3 : Hid (∀ w', Below w.heap.size w w' → SliceR Rp.i64 (fun _ _ => True) w' as3 v3) := Lib.hid (fun w' h => hS3.mono (sub_any h))
  clear hS1 hS2 hS3
  have hr1 := cmpP_range (pieces X) (pieces Y)
  have hr2 := cmpP_range (pieces Y) (pieces Z)
  have hr3 := cmpP_range (pieces X) (pieces Z)
  have ht := cmpP_trans (pieces X) (pieces Y) (pieces Z)
  have ha := cmpP_anti (pieces X) (pieces Y)
  have hz : cmpP (pieces X) (pieces Y) = 0 ↔ X = Y := (cmpP_zero _ _).trans ⟨pieces_inj, fun h => by rw [h]⟩
  obtain ⟨n, hn⟩ : ∃ n, n = cmpP (pieces X) (pieces Y) := ⟨_, rfl⟩
  obtain ⟨m, hm⟩ : ∃ n, n = cmpP (pieces Y) (pieces Z) := ⟨_, rfl⟩
  obtain ⟨k, hk⟩ : ∃ n, n = cmpP (pieces X) (pieces Z) := ⟨_, rfl⟩
  obtain ⟨u1, hu1⟩ : ∃ n, n = underP (pieces X) (pieces Y) := ⟨_, rfl⟩
  obtain ⟨u2, hu2⟩ : ∃ n, n = underP (pieces Y) (pieces X) := ⟨_, rfl⟩
  rw [← hn] at hr1 ht ha hz
  rw [← hm] at hr2 ht
  rw [← hk] at hr3 ht
  have Hn := Lib.hid hn; have Hm := Lib.hid hm; have Hk := Lib.hid hk; have Hu1 := Lib.hid hu1; have Hu2 := Lib.hid hu2
  have Ha := Lib.hid ha
  clear hn hm hk hu1 hu2 ha
  have hcases : (n = -1 ∧ X ≠ Y) ∨ (n = 0 ∧ X = Y) ∨ (n = 1 ∧ X ≠ Y) := by
    rcases hr1 with h | h | h
    · exact .inl ⟨h, fun e => by have := hz.2 e; omega⟩
    · exact .inr (.inl ⟨h, hz.1 h⟩)
    · exact .inr (.inr ⟨h, fun e => by have := hz.2 e; omega⟩)
  clear hr1 hz
  have Ht := Lib.hid ht
  clear ht
  go_enter Tryd.func6, Tryd.ntmps6
  go_wp2_with fail
  refine (made_any as1 v1 _ w HS1.out).mono ?_
  rintro e w1 ⟨rfl, h1⟩
  rw [← HX.out]
  have B1 := Lib.hid h1; clear h1
  go_wp2_with fail
  refine (made_any as2 v2 _ w1 (HS2.out _ B1.out)).mono ?_
  rintro e w2 ⟨rfl, h2⟩
  rw [← HY.out]
  have B2 := Lib.hid (B1.out.trans (h2.mono B1.out.size)); clear h2
  go_wp2_with fail
  refine (made_any as3 v3 _ w2 (HS3.out _ B2.out)).mono ?_
  rintro e w3 ⟨rfl, h3⟩
  rw [← HZ.out]
  have B3 := Lib.hid (B2.out.trans (h3.mono B2.out.size)); clear h3
  go_wp2_with fail
  refine (pcompare_any X Y w3 x1 x2).mono ?_
  rintro e w4 ⟨rfl, h4⟩
  rw [← Hn.out]
  have B4 := Lib.hid (B3.out.trans (h4.mono B3.out.size)); clear h4
  go_wp2_with fail
  refine (pcompare_any Y Z w4 x2 x3).mono ?_
  rintro e w5 ⟨rfl, h5⟩
  rw [← Hm.out]
  have B5 := Lib.hid (B4.out.trans (h5.mono B4.out.size)); clear h5
  go_wp2_with fail
  refine (rcompare_any X Y w5 x1 x2).mono ?_
  rintro e w6 ⟨rfl, h6⟩
  rw [← Hn.out]
  have B6 := Lib.hid (B5.out.trans (h6.mono B5.out.size)); clear h6
  go_wp2_with fail
  refine (pcompare_any Y X w6 x2 x1).mono ?_
  rintro e w7 ⟨rfl, h7⟩
  rw [Ha.out]
  have B7 := Lib.hid (B6.out.trans (h7.mono B6.out.size)); clear h7
  rcases hcases with ⟨rfl, hxy⟩ | ⟨rfl, hxy⟩ | ⟨rfl, hxy⟩
  · have l2 := toL_nb hxy
    have l3 := toL_np hxy
    clear hxy
    rcases hr2 with rfl | rfl | rfl
    · have hk' : k = -1 ∨ k = 0 := by have := Ht.out (by decide) (by decide); omega
      clear hr3
      rcases hk' with rfl | rfl
      all_goals
        go_wp2_with fail
        refine (pcompare_any X Z w7 x1 x3).mono ?_
        rintro e w8 ⟨rfl, h8⟩
        rw [← Hk.out]
        have B8 := Lib.hid (B7.out.trans (h8.mono B7.out.size)); clear h8
        go_wp2_with fail
        refine (punder_any X Y w8 x2).mono ?_
        rintro e w9 ⟨rfl, rfl⟩
        rw [← Hu1.out]
        go_wp2_with fail
        refine (runder_any X Y w8 x1 x2).mono ?_
        rintro e w9 ⟨rfl, h9⟩
        rw [← Hu1.out]
        have B9 := Lib.hid (B8.out.trans (h9.mono B8.out.size)); clear h9
        go_wp2_with fail
        refine (punder_any Y X w9 x1).mono ?_
        rintro e w10 ⟨rfl, rfl⟩
        rw [← Hu2.out]
        go_wp2_with fail
        refine (runder_any Y X w9 x2 x1).mono ?_
        rintro e w10 ⟨rfl, h10⟩
        rw [← Hu2.out]
        have B10 := Lib.hid (B9.out.trans (h10.mono B9.out.size)); clear h10
        go_wp2_with fail
        refine (plives_any w10).mono ?_
        rintro e w11 ⟨rfl, h11⟩
        have B11 := Lib.hid (B10.out.trans (h11.mono B10.out.size)); clear h11
        go_wp2
        go_ret
        exact ⟨rfl, B11.out⟩
    · have hk' : k = -1 ∨ k = 0 := by have := Ht.out (by decide) (by decide); omega
      clear hr3
      rcases hk' with rfl | rfl
      all_goals
        go_wp2_with fail
        refine (pcompare_any X Z w7 x1 x3).mono ?_
        rintro e w8 ⟨rfl, h8⟩
        rw [← Hk.out]
        have B8 := Lib.hid (B7.out.trans (h8.mono B7.out.size)); clear h8
        go_wp2_with fail
        refine (punder_any X Y w8 x2).mono ?_
        rintro e w9 ⟨rfl, rfl⟩
        rw [← Hu1.out]
        go_wp2_with fail
        refine (runder_any X Y w8 x1 x2).mono ?_
        rintro e w9 ⟨rfl, h9⟩
        rw [← Hu1.out]
        have B9 := Lib.hid (B8.out.trans (h9.mono B8.out.size)); clear h9
        go_wp2_with fail
        refine (punder_any Y X w9 x1).mono ?_
        rintro e w10 ⟨rfl, rfl⟩
        rw [← Hu2.out]
        go_wp2_with fail
        refine (runder_any Y X w9 x2 x1).mono ?_
        rintro e w10 ⟨rfl, h10⟩
        rw [← Hu2.out]
        have B10 := Lib.hid (B9.out.trans (h10.mono B9.out.size)); clear h10
        go_wp2_with fail
        refine (plives_any w10).mono ?_
        rintro e w11 ⟨rfl, h11⟩
        have B11 := Lib.hid (B10.out.trans (h11.mono B10.out.size)); clear h11
        go_wp2
        go_ret
        exact ⟨rfl, B11.out⟩
    · clear hr3
      go_wp2_with fail
      refine (punder_any X Y w7 x2).mono ?_
      rintro e w9 ⟨rfl, rfl⟩
      rw [← Hu1.out]
      go_wp2_with fail
      refine (runder_any X Y w7 x1 x2).mono ?_
      rintro e w9 ⟨rfl, h9⟩
      rw [← Hu1.out]
      have B9 := Lib.hid (B7.out.trans (h9.mono B7.out.size)); clear h9
      go_wp2_with fail
      refine (punder_any Y X w9 x1).mono ?_
      rintro e w10 ⟨rfl, rfl⟩
      rw [← Hu2.out]
      go_wp2_with fail
      refine (runder_any Y X w9 x2 x1).mono ?_
      rintro e w10 ⟨rfl, h10⟩
      rw [← Hu2.out]
      have B10 := Lib.hid (B9.out.trans (h10.mono B9.out.size)); clear h10
      go_wp2_with fail
      refine (plives_any w10).mono ?_
      rintro e w11 ⟨rfl, h11⟩
      have B11 := Lib.hid (B10.out.trans (h11.mono B10.out.size)); clear h11
      go_wp2
      go_ret
      exact ⟨rfl, B11.out⟩
  · subst hxy
    rcases hr2 with rfl | rfl | rfl
    · have hk' : k = -1 ∨ k = 0 := by have := Ht.out (by decide) (by decide); omega
      clear hr3
      rcases hk' with rfl | rfl
      all_goals
        go_wp2_with fail
        refine (pcompare_any X Z w7 x1 x3).mono ?_
        rintro e w8 ⟨rfl, h8⟩
        rw [← Hk.out]
        have B8 := Lib.hid (B7.out.trans (h8.mono B7.out.size)); clear h8
        go_wp2_with fail
        refine (punder_any X X w8 x2).mono ?_
        rintro e w9 ⟨rfl, rfl⟩
        rw [← Hu1.out]
        go_wp2_with fail
        refine (runder_any X X w8 x1 x2).mono ?_
        rintro e w9 ⟨rfl, h9⟩
        rw [← Hu1.out]
        have B9 := Lib.hid (B8.out.trans (h9.mono B8.out.size)); clear h9
        go_wp2_with fail
        refine (punder_any X X w9 x1).mono ?_
        rintro e w10 ⟨rfl, rfl⟩
        rw [← Hu2.out]
        go_wp2_with fail
        refine (runder_any X X w9 x2 x1).mono ?_
        rintro e w10 ⟨rfl, h10⟩
        rw [← Hu2.out]
        have B10 := Lib.hid (B9.out.trans (h10.mono B9.out.size)); clear h10
        go_wp2_with fail
        refine (plives_any w10).mono ?_
        rintro e w11 ⟨rfl, h11⟩
        have B11 := Lib.hid (B10.out.trans (h11.mono B10.out.size)); clear h11
        go_wp2
        go_ret
        exact ⟨rfl, B11.out⟩
    · have hk' : k = -1 ∨ k = 0 := by have := Ht.out (by decide) (by decide); omega
      clear hr3
      rcases hk' with rfl | rfl
      all_goals
        go_wp2_with fail
        refine (pcompare_any X Z w7 x1 x3).mono ?_
        rintro e w8 ⟨rfl, h8⟩
        rw [← Hk.out]
        have B8 := Lib.hid (B7.out.trans (h8.mono B7.out.size)); clear h8
        go_wp2_with fail
        refine (punder_any X X w8 x2).mono ?_
        rintro e w9 ⟨rfl, rfl⟩
        rw [← Hu1.out]
        go_wp2_with fail
        refine (runder_any X X w8 x1 x2).mono ?_
        rintro e w9 ⟨rfl, h9⟩
        rw [← Hu1.out]
        have B9 := Lib.hid (B8.out.trans (h9.mono B8.out.size)); clear h9
        go_wp2_with fail
        refine (punder_any X X w9 x1).mono ?_
        rintro e w10 ⟨rfl, rfl⟩
        rw [← Hu2.out]
        go_wp2_with fail
        refine (runder_any X X w9 x2 x1).mono ?_
        rintro e w10 ⟨rfl, h10⟩
        rw [← Hu2.out]
        have B10 := Lib.hid (B9.out.trans (h10.mono B9.out.size)); clear h10
        go_wp2_with fail
        refine (plives_any w10).mono ?_
        rintro e w11 ⟨rfl, h11⟩
        have B11 := Lib.hid (B10.out.trans (h11.mono B10.out.size)); clear h11
        go_wp2
        go_ret
        exact ⟨rfl, B11.out⟩
    · clear hr3
      go_wp2_with fail
      refine (punder_any X X w7 x2).mono ?_
      rintro e w9 ⟨rfl, rfl⟩
      rw [← Hu1.out]
      go_wp2_with fail
      refine (runder_any X X w7 x1 x2).mono ?_
      rintro e w9 ⟨rfl, h9⟩
      rw [← Hu1.out]
      have B9 := Lib.hid (B7.out.trans (h9.mono B7.out.size)); clear h9
      go_wp2_with fail
      refine (punder_any X X w9 x1).mono ?_
      rintro e w10 ⟨rfl, rfl⟩
      rw [← Hu2.out]
      go_wp2_with fail
      refine (runder_any X X w9 x2 x1).mono ?_
      rintro e w10 ⟨rfl, h10⟩
      rw [← Hu2.out]
      have B10 := Lib.hid (B9.out.trans (h10.mono B9.out.size)); clear h10
      go_wp2_with fail
      refine (plives_any w10).mono ?_
      rintro e w11 ⟨rfl, h11⟩
      have B11 := Lib.hid (B10.out.trans (h11.mono B10.out.size)); clear h11
      go_wp2
      go_ret
      exact ⟨rfl, B11.out⟩
  · have l2 := toL_nb hxy
    have l3 := toL_np hxy
    clear hxy hr2 hr3
    go_wp2_with fail
    refine (punder_any X Y w7 x2).mono ?_
    rintro e w9 ⟨rfl, rfl⟩
    rw [← Hu1.out]
    go_wp2_with fail
    refine (runder_any X Y w7 x1 x2).mono ?_
    rintro e w9 ⟨rfl, h9⟩
    rw [← Hu1.out]
    have B9 := Lib.hid (B7.out.trans (h9.mono B7.out.size)); clear h9
    go_wp2_with fail
    refine (punder_any Y X w9 x1).mono ?_
    rintro e w10 ⟨rfl, rfl⟩
    rw [← Hu2.out]
    go_wp2_with fail
    refine (runder_any Y X w9 x2 x1).mono ?_
    rintro e w10 ⟨rfl, h10⟩
    rw [← Hu2.out]
    have B10 := Lib.hid (B9.out.trans (h10.mono B9.out.size)); clear h10
    go_wp2_with fail
    refine (plives_any w10).mono ?_
    rintro e w11 ⟨rfl, h11⟩
    have B11 := Lib.hid (B10.out.trans (h11.mono B10.out.size)); clear h11
    go_wp2
    go_ret
    exact ⟨rfl, B11.out⟩
end Go.Proofs.YtojcciciinklbaaDoor
