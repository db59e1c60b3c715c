/- Walks: the library's stable sort at nodes, by their names (at most 20). No claim by itself. -/
import Derived.Test.YtojcciciinklbaaSortP
import Derived.Shelf.SlSortCmp.InsertionK
set_option linter.unusedSimpArgs false
set_option linter.unusedVariables false
namespace Go.Proofs.Ytojcciciinklbaa
open Go.RowKit

/-- A node and where its lists lie. -/
structure KE where
  y : Nd
  Ad : Option Addr
  cd : Nat
  Aa : Option Addr
  ca : Nat
  Ak : Option Addr
  ck : Nat
instance : Inhabited KE := ⟨⟨.mk ⟨0, ⟨#[]⟩, 0, 0, 0, 0, [], ⟨#[]⟩, 0, 0, []⟩ [], none, 0, none, 0, none, 0⟩⟩
def encK (e : KE) : List Value := nodeV e.y.own (.slice e.Ad e.y.own.data.length e.cd) (.slice e.Aa e.y.own.attrs.length e.ca) (.slice e.Ak e.y.kids.length e.ck)
theorem encK_len (e : KE) : (encK e).length = 12 := rfl
theorem encK_one (e : KE) : ∀ v ∈ encK e, v.oneCell' = true := nodeV_one rfl rfl rfl
def cfK (a b : KE) : Int := cmpS a.y.own.name b.y.own.name
theorem ltK (a b : KE) : ltOf cfK a b = ltS a.y.own.name b.y.own.name := by
  unfold ltOf cfK
  rcases three a.y.own.name b.y.own.name with ⟨h1, h2, h3⟩ | h | ⟨h1, h2, h3⟩
  · rw [cmpS_lt h1, h1]; rfl
  · rw [h, cmpS_eq, ltS_irrefl]; rfl
  · rw [cmpS_gt h1, h2]; rfl
theorem swoK : Go.Sort.SWO (ltOf cfK) where
  irrefl x := by rw [ltK]; exact ltS_irrefl _
  trans x y z h k := by rw [ltK] at h k ⊢; exact ltS_trans h k
  ntrans x y z h k := by
    rw [ltK] at h k ⊢
    cases hz : ltS x.y.own.name z.y.own.name with
    | false => rfl
    | true =>
      rcases three x.y.own.name y.y.own.name with ⟨h1, _⟩ | h1 | ⟨h1, _⟩
      · rw [h1] at h; cases h
      · rw [h1] at hz; rw [hz] at k; cases k
      · rw [ltS_trans h1 hz] at k; cases k

theorem enc_get : ∀ (es : List KE) (t : Nat) (h : t < es.length * 12), ((es.map encK).flatten)[t]? = (encK (es[t / 12]'(by omega)))[t % 12]?
  | [], t, h => by simp at h
  | x :: r, t, h => by
    simp only [List.map_cons, List.flatten_cons]
    by_cases h1 : t < 12
    · rw [List.getElem?_append_left (by rw [encK_len]; exact h1)]
      have e1 : t / 12 = 0 := by omega
      have e2 : t % 12 = t := by omega
      simp only [e1, e2, List.getElem_cons_zero]
    · obtain ⟨q, rfl⟩ : ∃ q, t = q + 12 := ⟨t - 12, by omega⟩
      rw [List.getElem?_append_right (by rw [encK_len]; omega), encK_len, Nat.add_sub_cancel]
      have e1 : (q + 12) / 12 = q / 12 + 1 := by omega
      have e2 : (q + 12) % 12 = q % 12 := by omega
      simp only [e1, e2, List.getElem_cons_succ]
      exact enc_get r q (by simp at h; omega)
theorem enc_len (es : List KE) : ((es.map encK).flatten).length = es.length * 12 := by
  induction es with
  | nil => rfl
  | cons x r ih => simp only [List.map_cons, List.flatten_cons, List.length_append, ih, encK_len, List.length_cons]; omega
theorem flat_at (d : Array KE) (t : Nat) (h : t < d.size * 12) : ((d.toList.map encK).flatten)[t]? = some ((Go.Sort.flatK encK 12 d)[t]!) := by
  have hd : t / 12 < d.toList.length := by rw [Array.length_toList]; omega
  rw [enc_get d.toList t (by rw [Array.length_toList]; exact h), Go.Sort.get_flatK encK 12 d t h]
  have e1 : d[t / 12]! = d.toList[t / 12] := by
    rw [getElem!_pos d (t / 12) (by rw [Array.length_toList] at hd; exact hd), Array.getElem_toList]
  rw [e1]
  rw [getElem!_pos _ (t % 12) (by rw [encK_len]; omega)]
  exact List.getElem?_eq_getElem _
theorem flat_list (d : Array KE) : (Go.Sort.flatK encK 12 d).toList = (d.toList.map encK).flatten := by
  apply List.ext_getElem?
  intro t
  by_cases h : t < d.size * 12
  · rw [flat_at d t h]
    rw [List.getElem?_eq_getElem (by rw [Array.length_toList, Go.Sort.size_flatK]; exact h), getElem!_pos _ t (by rw [Go.Sort.size_flatK]; exact h), Array.getElem_toList]
  · rw [List.getElem?_eq_none (by rw [Array.length_toList, Go.Sort.size_flatK]; omega), List.getElem?_eq_none (by rw [enc_len, Array.length_toList]; omega)]
/-- A list of nodes, and where their lists lie. -/
theorem reps_ke {n : Nat} {L : Live} {w : World} {ys : List Nd} {kc : List Value} (h : Reps (nodeR n) L w ys kc) : ∃ es : List KE, es.map (·.y) = ys ∧ kc = (es.map encK).flatten ∧ ∀ e ∈ es, (nodeR n).R L w e.y (encK e) := by
  induction h with
  | nil => exact ⟨[], rfl, rfl, by simp⟩
  | cons hx t ih =>
    rename_i x cs xs r
    obtain ⟨es, h1, h2, h3⟩ := ih
    obtain ⟨m, Ad, cd, Aa, ca, Ak, ck, hm, rfl, hP, _, _, _, _, _, _⟩ := node_open hx
    refine ⟨⟨x, Ad, cd, Aa, ca, Ak, ck⟩ :: es, by simp [h1], by simp [h2]; rfl, fun e he => ?_⟩
    rcases List.mem_cons.1 he with rfl | he
    · exact hx
    · exact h3 e he
theorem ke_reps {n : Nat} {L : Live} {w : World} : ∀ (es : List KE), (∀ e ∈ es, (nodeR n).R L w e.y (encK e)) → Reps (nodeR n) L w (es.map (·.y)) ((es.map encK).flatten)
  | [], _ => .nil
  | e :: r, h => .cons (h e (by simp)) (ke_reps r fun x hx => h x (by simp [hx]))

theorem take_set1 {l : List Value} {s : Nat} {v : Value} (h : s < l.length) : (l.set s v).take (s + 1) = l.take s ++ [v] := by
  rw [List.set_eq_take_append_cons_drop, if_pos h, List.take_append, List.length_take, Nat.min_eq_left (Nat.le_of_lt h), List.take_of_length_le (by rw [List.length_take]; omega), show s + 1 - s = 1 from by omega]
  rfl
theorem setMany_all : ∀ (vs : List Value) (s : Nat) (F : Array Value), s + vs.length = F.size → (Go.Sort.setMany F s vs).toList = F.toList.take s ++ vs
  | [], s, F, h => by
    rw [Go.Sort.setMany, List.append_nil, List.take_of_length_le (by rw [Array.length_toList]; simp at h; omega)]
  | v :: r, s, F, h => by
    rw [Go.Sort.setMany, setMany_all r (s + 1) _ (by simp at h ⊢; omega), Array.toList_setIfInBounds]
    have hlt : s < F.toList.length := by rw [Array.length_toList]; simp at h; omega
    rw [take_set1 hlt]
    simp
/-- A world of the sort's, said by stores. -/
theorem world_sets {w : World} {g m : Nat} {d d' : Array KE} {os : Array Obj} (hH : Go.Sort.HoldsK encK 12 w g 0 d) (hs : d'.size = d.size) :
    sortWorldK encK 12 w g 0 m d' os = Go.Sort.grow (((Go.Sort.ahead w m)).setCells g 0 ((d'.toList.map encK).flatten)) os := by
  have h1 : Go.Sort.HoldsK encK 12 (Go.Sort.ahead w m) g 0 d := Go.Sort.holdsK_ahead encK 12 w m g 0 d hH
  have h2 := Go.Sort.putRow_self id (Go.Sort.ahead w m) g 0 (Go.Sort.flatK encK 12 d) h1
  have hl : ((d'.toList.map encK).flatten).length = (Go.Sort.flatK encK 12 d).size := by rw [enc_len, Go.Sort.size_flatK, Array.length_toList, hs]
  have h3 := Go.Sort.setCells_putRow (Go.Sort.ahead w m) g 0 ((d'.toList.map encK).flatten) 0 (Go.Sort.flatK encK 12 d) (by omega)
  rw [h2] at h3
  have h4 : Go.Sort.setMany (Go.Sort.flatK encK 12 d) 0 ((d'.toList.map encK).flatten) = Go.Sort.flatK encK 12 d' := by
    apply Array.toList_inj.1
    rw [setMany_all _ _ _ (by omega), List.take_zero, List.nil_append, flat_list]
  rw [h4] at h3
  unfold sortWorldK Go.Sort.putRowK
  rw [← h3]
end Go.Proofs.Ytojcciciinklbaa
