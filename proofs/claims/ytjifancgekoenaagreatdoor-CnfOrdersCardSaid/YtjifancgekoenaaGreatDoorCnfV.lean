import Derived.Test.YtjifancgekoenaaGreatDoorCnfU
namespace Go.Proofs.YtjifancgekoenaaGreatDoor
open Go.RowKit Go.Proofs.YtjifancgekoenaaGreatDoorW.PrintWords Go.Proofs.YtjifancgekoenaaGreatDoorW.PrintLast
set_option linter.unusedVariables false
set_option linter.unusedSimpArgs false

theorem vari_small {x : Int} (h0 : -1000 ≤ x) (h1 : x ≤ 1000) : vari x = if x < 0 then -x else x := by
  unfold vari
  by_cases h : x < 0
  · rw [if_pos h, if_pos h, wrap64_small (by omega) (by omega)]; omega
  · rw [if_neg h, if_neg h]; omega
/-- Of one literal, not 0, just it or its opposite holds. -/
theorem isLit_opp {x : Int} (a : List Bool) (h0 : -1000 ≤ x) (h1 : x ≤ 1000) (hx : x ≠ 0) : isLit (-x) a = !isLit x a := by
  unfold isLit
  rw [vari_small (x := x) h0 h1, vari_small (x := -x) (by omega) (by omega)]
  by_cases h : x < 0
  · rw [if_neg (by omega), if_pos h, decide_eq_true (by omega : (0 : Int) < -x), decide_eq_false (by omega : ¬ (0 : Int) < x)]
    cases (decide (-x ≤ (a.length : Int)) && rdOf false a (-x - 1)) <;> rfl
  · rw [if_pos (by omega), if_neg h, decide_eq_false (by omega : ¬ (0 : Int) < -x), Int.neg_neg, decide_eq_true (by omega : (0 : Int) < x)]
    cases (decide (x ≤ (a.length : Int)) && rdOf false a (x - 1)) <;> rfl
theorem isLit_more {x : Int} (a : List Bool) (h0 : -1000 ≤ x) (h1 : x ≤ 1000) : isLit x (a ++ [false]) = isLit x a := by
  unfold isLit
  generalize hv : vari x = v
  by_cases hp : 0 < v
  · rw [decide_eq_true hp]
    congr 2
    by_cases h : v ≤ (a.length : Int)
    · rw [decide_eq_true h, decide_eq_true (by rw [List.length_append]; simp; omega)]
      unfold rdOf
      rw [Bool.true_and, Bool.true_and, List.getD_eq_getElem?_getD, List.getD_eq_getElem?_getD, List.getElem?_append_left (by omega)]
    · rw [decide_eq_false h]
      by_cases h2 : v ≤ ((a ++ [false]).length : Int)
      · rw [decide_eq_true h2]
        rw [List.length_append] at h2
        simp at h2
        have : (v - 1).toNat = a.length := by omega
        unfold rdOf
        rw [this, List.getD_eq_getElem?_getD]
        simp
      · rw [decide_eq_false h2]; rfl
  · rw [decide_eq_false hp]; rfl
def Small (l : List Int) : Prop := ∀ x ∈ l, x ≠ 0 ∧ -1000 ≤ x ∧ x ≤ 1000
theorem clause_more {l : List Int} (a : List Bool) (h : Small l) : clauseB l (a ++ [false]) = clauseB l a := by
  unfold clauseB
  rw [Bool.eq_iff_iff, List.any_eq_true, List.any_eq_true]
  constructor
  · rintro ⟨x, hx, h2⟩
    exact ⟨x, hx, by rw [← isLit_more a (h x hx).2.1 (h x hx).2.2]; exact h2⟩
  · rintro ⟨x, hx, h2⟩
    exact ⟨x, hx, by rw [isLit_more a (h x hx).2.1 (h x hx).2.2]; exact h2⟩
theorem clause_same {l p : List Int} (a : List Bool) (h : ∀ x, x ∈ p ↔ x ∈ l) : clauseB p a = clauseB l a := by
  unfold clauseB
  rw [Bool.eq_iff_iff, List.any_eq_true, List.any_eq_true]
  exact ⟨fun ⟨x, hx, h2⟩ => ⟨x, (h x).1 hx, h2⟩, fun ⟨x, hx, h2⟩ => ⟨x, (h x).2 hx, h2⟩⟩
theorem opp_some : ∀ {p : List Int}, oppI p = false → ∃ x ∈ p, wrap64 (-x) ∈ p
  | [], h => by simp [oppI] at h
  | [x], h => by simp [oppI] at h
  | x :: y :: r, h => by
    unfold oppI at h
    by_cases e : y = wrap64 (-x)
    · exact ⟨x, by simp, by rw [← e]; simp⟩
    · rw [if_neg e] at h
      obtain ⟨z, h1, h2⟩ := opp_some h
      exact ⟨z, List.mem_cons_of_mem _ h1, List.mem_cons_of_mem _ h2⟩
theorem opp_holds {l p : List Int} (a : List Bool) (hp : IsPlain l p) (h : Small l) (ho : oppI p = false) : clauseB l a = true := by
  obtain ⟨x, h1, h2⟩ := opp_some ho
  have hx := (hp.mem x).1 h1
  obtain ⟨h3, h4, h5⟩ := h x hx
  rw [wrap64_small (by omega) (by omega)] at h2
  have h6 := (hp.mem _).1 h2
  have h7 := isLit_opp a h4 h5 h3
  unfold clauseB
  rw [List.any_eq_true]
  cases hb : isLit x a with
  | true => exact ⟨x, hx, hb⟩
  | false => exact ⟨-x, h6, by rw [h7, hb]; rfl⟩
/-- The clause that a law makes of what came in. -/
def modL (q : Int) (l : List Int) : List Int := (l.map fun x => x.tmod q).filter (· ≠ 0)
theorem modL_snoc (q : Int) (l : List Int) (x : Int) : modL q (l ++ [x]) = modL q l ++ (if x.tmod q = 0 then [] else [x.tmod q]) := by
  unfold modL
  rw [List.map_append, List.filter_append]
  congr 1
  by_cases h : x.tmod q = 0 <;> simp [h]
theorem modL_small {q : Int} (hq : 0 < q) (hq2 : q ≤ 1000) (l : List Int) : Small (modL q l) := by
  intro y hy
  obtain ⟨h1, h2⟩ := List.mem_filter.1 hy
  obtain ⟨x, _, rfl⟩ := List.mem_map.1 h1
  have h3 := Int.tmod_lt_of_pos x hq
  have h4 : -q < x.tmod q := by
    have := Int.tmod_lt_of_pos (-x) hq
    rw [Int.neg_tmod] at this
    omega
  exact ⟨by simpa using h2, by omega, by omega⟩
theorem modL_len (q : Int) (l : List Int) : (modL q l).length ≤ l.length := by
  unfold modL
  exact Nat.le_trans (List.length_filter_le _ _) (by simp)
theorem small_wf {l : List Int} (h : Small l) : Wf l := fun x hx => by have := h x hx; omega

theorem own_reads {w : World} {base : Nat} {v : Value} {xs : List Int} (h : w.ownsRow base 3 1 v xs.length (nums .i64 xs)) (hv : v.ownBlock ≠ none) : ∃ a c, v = .slice (some a) xs.length c ∧ xs.length ≤ c ∧ Kd.C kI w (some a) xs.length xs := by
  rcases h.2 with ⟨rfl, _⟩ | ⟨g, cap, cur, rfl, _, _, h3, h4, _⟩
  · exact absurd rfl hv
  · refine ⟨_, cap, rfl, h3, C_of_cells (by unfold maxLen at h4; omega) (fun j y hj => ?_)⟩
    have := h.cells (g := g) rfl j (.int .i64 y) (by
      unfold nums
      rw [List.getElem?_map, hj]; rfl)
    rw [add_plain] at this
    simpa using this
end Go.Proofs.YtjifancgekoenaaGreatDoor
