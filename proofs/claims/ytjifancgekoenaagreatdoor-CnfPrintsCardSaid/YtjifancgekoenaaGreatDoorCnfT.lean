import Derived.Test.YtjifancgekoenaaGreatDoorCnfS
import Derived.Test.YtjifancgekoenaaGreatDoorCnfM
namespace Go.Proofs.YtjifancgekoenaaGreatDoor
open Go.RowKit Go.Proofs.YtjifancgekoenaaGreatDoorW.PrintWords Go.Proofs.YtjifancgekoenaaGreatDoorW.PrintLast Go.Proofs.YtjifancgekoenaaGreatDoorW.PrintMore
set_option linter.unusedVariables false
set_option linter.unusedSimpArgs false

theorem wrap64_small {x : Int} (h0 : -9223372036854775808 ≤ x) (h1 : x ≤ 9223372036854775807) : wrap64 x = x := by simp [wrap64]; omega
theorem wrap64_min : wrap64 (-(-9223372036854775808)) = -9223372036854775808 := by kernel_rfl
theorem vari_cases (x : Int) (h0 : -9223372036854775808 ≤ x) (h1 : x ≤ 9223372036854775807) : (0 ≤ x ∧ vari x = x) ∨ (x < 0 ∧ x ≠ -9223372036854775808 ∧ vari x = -x) ∨ (x = -9223372036854775808 ∧ vari x = 0) := by
  unfold vari
  by_cases h : x < 0
  · by_cases h2 : x = -9223372036854775808
    · subst h2; exact .inr (.inr ⟨rfl, by kernel_rfl⟩)
    · rw [if_pos h, wrap64_small (by omega) (by omega)]
      exact .inr (.inl ⟨h, h2, by omega⟩)
  · rw [if_neg h]
    exact .inl ⟨by omega, by omega⟩
theorem lit_pure (x : Int) (a : List Bool) (h0 : -9223372036854775808 ≤ x) (h1 : x ≤ 9223372036854775807) (ha : a.length ≤ 1000000) : ∀ (k i : Nat), a.length + 2 ≤ i + k → 1 ≤ i → i ≤ a.length + 1 → (∀ u : Int, 1 ≤ u → u < i → x ≠ u ∧ x ≠ -u) → whetstoneref13_Lit.l0 k x a (i : Int) = some (isLit x a)
  | 0, i, hk, hi, hi2, hp => by omega
  | k + 1, i, hk, hi, hi2, hp => by
    have hv := vari_cases x h0 h1
    unfold whetstoneref13_Lit.l0
    by_cases hle : (i : Int) ≤ (a.length : Int)
    · rw [if_pos hle, wrap64_small (x := (i : Int) - 1) (by omega) (by omega), wrap64_small (x := -(i : Int)) (by omega) (by omega), wrap64_small (x := (i : Int) + 1) (by omega) (by omega)]
      by_cases e1 : x = (i : Int)
      · rw [if_pos e1, if_pos (by omega), if_pos (by omega)]
        have hvi : vari x = (i : Int) := by omega
        unfold isLit
        rw [hvi, decide_eq_true (by omega : (0 : Int) < i), decide_eq_true hle, decide_eq_true (by omega : (0 : Int) < x)]
        simp
      · rw [if_neg e1]
        by_cases e2 : x = -(i : Int)
        · rw [if_pos e2, if_pos (by omega), if_pos (by omega)]
          have hvi : vari x = (i : Int) := by omega
          unfold isLit
          rw [hvi, decide_eq_true (by omega : (0 : Int) < i), decide_eq_true hle, decide_eq_false (by omega : ¬ (0 : Int) < x)]
          simp
        · rw [if_neg e2]
          refine lit_pure x a h0 h1 ha k (i + 1) (by omega) (by omega) (by omega) (fun u hu1 hu2 => ?_)
          rcases Int.lt_or_le u i with h | h
          · exact hp u hu1 h
          · have : u = (i : Int) := by omega
            subst this
            exact ⟨e1, e2⟩
    · have hi3 : i = a.length + 1 := by omega
      have hx : x = 0 ∨ (a.length : Int) < x ∨ x < -(a.length : Int) := by
        by_cases h : x = 0
        · exact .inl h
        · right
          by_cases h2 : 0 < x
          · left
            rcases Int.lt_or_le (a.length : Int) x with h3 | h3
            · exact h3
            · exact absurd rfl (hp x (by omega) (by omega)).1
          · right
            rcases Int.lt_or_le x (-(a.length : Int)) with h3 | h3
            · exact h3
            · exact absurd (by omega) (hp (-x) (by omega) (by omega)).2
      rw [if_neg hle]
      unfold isLit
      by_cases hn : x < 0
      · rw [if_pos hn]
        rcases hv with h | ⟨_, h2, h3⟩ | ⟨h2, h3⟩
        · omega
        · rw [h3, wrap64_small (by omega) (by omega), decide_eq_true (by omega : (0 : Int) < -x), decide_eq_false (by omega : ¬ -x ≤ (a.length : Int)), decide_eq_false (by omega : ¬ (0 : Int) < x)]
          rfl
        · subst h2
          rw [h3, wrap64_min]
          simp
      · rw [if_neg hn]
        have h3 : vari x = x := by omega
        rw [h3]
        by_cases hz : x = 0
        · subst hz; simp
        · rw [decide_eq_true (by omega : (0 : Int) < x), decide_eq_false (by omega : ¬ x ≤ (a.length : Int))]
          simp
theorem Lit_f (x : Int) (a : List Bool) (h0 : -9223372036854775808 ≤ x) (h1 : x ≤ 9223372036854775807) (ha : a.length ≤ 1000000) (k : Nat) (hk : a.length + 1 ≤ k) : whetstoneref13_Lit.f k x a = some (isLit x a) :=
  lit_pure x a h0 h1 ha k 1 (by omega) (by omega) (by omega) (fun u h1 h2 => by omega)
theorem clause_pure (l : List Int) (a : List Bool) (hl : Wf l) (hl2 : l.length ≤ 1000000) (ha : a.length ≤ 1000000) : ∀ (k i : Nat), i ≤ l.length → (l.length - i) + a.length + 2 ≤ k → whetstoneref13_Clause.l0 k l a (i : Int) = some ((l.drop i).any fun x => isLit x a)
  | 0, i, hi, hk => by omega
  | k + 1, i, hi, hk => by
    unfold whetstoneref13_Clause.l0
    by_cases hlt : (i : Int) < (l.length : Int)
    · have hlt2 : i < l.length := by omega
      have hr : rd l (i : Int) = l[i] := by simp [rd, List.getD_eq_getElem?_getD, hlt2]
      have hw := hl l[i] (List.getElem_mem hlt2)
      rw [if_pos hlt, if_pos (by omega), hr, Lit_f _ a hw.1 hw.2 ha k (by omega), wrap64_small (by omega) (by omega)]
      simp only [Option.bind_some]
      rw [List.drop_eq_getElem_cons hlt2, List.any_cons]
      by_cases hb : isLit l[i] a = true
      · rw [if_pos hb, hb]; rfl
      · rw [if_neg hb]
        have hb2 : isLit l[i] a = false := by simpa using hb
        rw [hb2, Bool.false_or]
        exact clause_pure l a hl hl2 ha k (i + 1) (by omega) (by omega)
    · rw [if_neg hlt, List.drop_of_length_le (by omega)]; rfl
theorem Clause_f (l : List Int) (a : List Bool) (hl : Wf l) (hl2 : l.length ≤ 1000000) (ha : a.length ≤ 1000000) (k : Nat) (hk : l.length + a.length + 2 ≤ k) : whetstoneref13_Clause.f k l a = some (clauseB l a) := by
  have := clause_pure l a hl hl2 ha k 0 (by omega) (by omega)
  rw [List.drop_zero] at this
  exact this
theorem rd_at (L : List (List Int)) (i : Nat) (h : i < L.length) : rd_L6 L (i : Int) = L[i] := by
  unfold rd_L6
  simp [List.getD_eq_getElem?_getD, h]
theorem true_pure (n : Int) (L : List (List Int)) (a : List Bool) (M : Nat) (hM : ∀ r ∈ L, r.length ≤ M) (hM2 : M ≤ 1000000) (hl : WfL L) (hl2 : L.length ≤ 1000000) (ha : a.length ≤ 1000000) : ∀ (k i : Nat), i ≤ L.length → (L.length - i) + M + a.length + 3 ≤ k → whetstoneref13_True.l0 k a (i : Int) n L = some ((L.drop i).all fun r => clauseB r a)
  | 0, i, hi, hk => by omega
  | k + 1, i, hi, hk => by
    unfold whetstoneref13_True.l0
    by_cases hlt : (i : Int) < (L.length : Int)
    · have hlt2 : i < L.length := by omega
      have hm := hM L[i] (List.getElem_mem hlt2)
      rw [if_pos hlt, if_pos (by omega), rd_at L i hlt2, Clause_f _ a (hl L[i] (List.getElem_mem hlt2)) (by omega) ha k (by omega), wrap64_small (by omega) (by omega)]
      simp only [Option.bind_some]
      rw [List.drop_eq_getElem_cons hlt2, List.all_cons]
      by_cases hb : clauseB L[i] a = true
      · rw [if_pos hb, hb, Bool.true_and]
        exact true_pure n L a M hM hM2 hl hl2 ha k (i + 1) (by omega) (by omega)
      · rw [if_neg hb]
        have hb2 : clauseB L[i] a = false := by simpa using hb
        rw [hb2]; rfl
    · rw [if_neg hlt, List.drop_of_length_le (by omega)]; rfl
theorem trueB_all (L : List (List Int)) (a : List Bool) : trueB L a = L.all fun r => clauseB r a := by
  unfold trueB
  rw [← List.all_eq_not_any_not]
theorem True_f (n : Int) (L : List (List Int)) (a : List Bool) (M : Nat) (hM : ∀ r ∈ L, r.length ≤ M) (hM2 : M ≤ 1000000) (hl : WfL L) (hl2 : L.length ≤ 1000000) (ha : a.length ≤ 1000000) (k : Nat) (hk : L.length + M + a.length + 3 ≤ k) : whetstoneref13_True.f k n L a = some (trueB L a) := by
  have := true_pure n L a M hM hM2 hl hl2 ha k 0 (by omega) (by omega)
  rw [trueB_all]
  rw [List.drop_zero] at this
  exact this

theorem odd_iff (n x : Int) (h0 : -9223372036854775808 ≤ x) (h1 : x ≤ 9223372036854775807) (hn : 0 ≤ n) (hn2 : n ≤ 1048576) : oddB n x = true ↔ (x = 0 ∨ x > n ∨ x < -n) := by
  have hv := vari_cases x h0 h1
  unfold oddB
  simp only [Bool.or_eq_true, decide_eq_true_eq]
  omega
theorem check_rows (n : Int) (L : List (List Int)) (M : Nat) (hM : ∀ r ∈ L, r.length ≤ M) (hM2 : M ≤ 1000000) (hl : WfL L) (hl2 : L.length ≤ 1000000) (hn : 0 ≤ n) (hn2 : n ≤ 1048576) : ∀ (k : Nat),
    (∀ i : Nat, i ≤ L.length → (L.length - i) * (M + 2) + 1 ≤ k → whetstoneref13_Check.l0 k (i : Int) n L = some (if ((L.drop i).any fun r => r.any (oddB n)) then 130 else 0)) ∧
    (∀ (i j : Nat) (hi : i < L.length), j ≤ L[i].length → (L[i].length - j) + 2 + (L.length - (i + 1)) * (M + 2) ≤ k → whetstoneref13_Check.l1 k (i : Int) (j : Int) n L = some (if ((L[i].drop j).any (oddB n) || (L.drop (i + 1)).any fun r => r.any (oddB n)) then 130 else 0))
  | 0 => ⟨fun i hi hk => by omega, fun i j hi hj hk => by omega⟩
  | k + 1 => by
    obtain ⟨ih0, ih1⟩ := check_rows n L M hM hM2 hl hl2 hn hn2 k
    refine ⟨fun i hi hk => ?_, fun i j hi hj hk => ?_⟩
    · unfold whetstoneref13_Check.l0
      by_cases hlt : (i : Int) < (L.length : Int)
      · have hlt2 : i < L.length := by omega
        have hm := hM L[i] (List.getElem_mem hlt2)
        rw [if_pos hlt]
        have e : (L.length - i) * (M + 2) = (L.length - (i + 1)) * (M + 2) + (M + 2) := by
          rw [← Nat.succ_mul]; congr 1; omega
        have := ih1 i 0 hlt2 (by omega) (by omega)
        rw [show ((0 : Nat) : Int) = 0 from rfl] at this
        rw [this, List.drop_zero, List.drop_eq_getElem_cons hlt2, List.any_cons]
      · rw [if_neg hlt, List.drop_of_length_le (by omega)]; rfl
    · unfold whetstoneref13_Check.l1
      have hm := hM L[i] (List.getElem_mem hi)
      rw [if_pos (by omega), if_pos (by omega), rd_at L i hi]
      by_cases hlt : (j : Int) < (L[i].length : Int)
      · have hlt2 : j < L[i].length := by omega
        have hr : rd L[i] (j : Int) = L[i][j] := by simp [rd, List.getD_eq_getElem?_getD, hlt2]
        have hw := hl L[i] (List.getElem_mem hi) L[i][j] (List.getElem_mem hlt2)
        have ho := odd_iff n L[i][j] hw.1 hw.2 hn hn2
        rw [if_pos hlt, if_pos (by omega), hr, wrap64_small (x := -n) (by omega) (by omega), wrap64_small (x := (j : Int) + 1) (by omega) (by omega), List.drop_eq_getElem_cons hlt2, List.any_cons]
        by_cases h1 : L[i][j] = 0
        · rw [if_pos h1, ho.2 (.inl h1)]; rfl
        · rw [if_neg h1]
          by_cases h2 : L[i][j] > n
          · rw [if_pos h2, ho.2 (.inr (.inl h2))]; rfl
          · rw [if_neg h2]
            by_cases h3 : L[i][j] < -n
            · rw [if_pos h3, ho.2 (.inr (.inr h3))]; rfl
            · rw [if_neg h3]
              have hf : oddB n L[i][j] = false := by
                cases hb : oddB n L[i][j] with
                | false => rfl
                | true => rcases ho.1 hb with h | h | h <;> contradiction
              rw [hf, Bool.false_or]
              exact ih1 i (j + 1) hi (by omega) (by omega)
      · rw [if_neg hlt, List.drop_of_length_le (by omega), wrap64_small (by omega) (by omega)]
        have := ih0 (i + 1) (by omega) (by omega)
        rw [show ((i + 1 : Nat) : Int) = (i : Int) + 1 from by omega] at this
        rw [this]; rfl
theorem Check_f (n : Int) (L : List (List Int)) (M : Nat) (hM : ∀ r ∈ L, r.length ≤ M) (hM2 : M ≤ 1000000) (hl : WfL L) (hl2 : L.length ≤ 1000000) (k : Nat) (hk : L.length * (M + 2) + 2 ≤ k) : whetstoneref13_Check.f k n L = some (checkI n L) := by
  unfold whetstoneref13_Check.f checkI
  by_cases h1 : n < 0
  · rw [if_pos h1, if_pos h1]
  · rw [if_neg h1, if_neg h1]
    obtain ⟨k', rfl⟩ : ∃ k', k = k' + 1 := ⟨k - 1, by omega⟩
    by_cases h2 : 1048576 < n
    · rw [if_pos h2, if_pos h2]; simp [whetstoneref13_Check.j0]
    · rw [if_neg h2, if_neg h2, if_neg (by omega)]
      have hd : decide ((L.length : Int) > 1048576) = false := by simp; omega
      rw [hd]
      simp only [whetstoneref13_Check.j0, Bool.false_eq_true, if_false]
      have := (check_rows n L M hM hM2 hl hl2 (by omega) (by omega) k').1 0 (by omega) (by rw [Nat.sub_zero]; omega)
      simpa using this
end Go.Proofs.YtjifancgekoenaaGreatDoor
