/- The reference's functions; Solve's contract; the fixed calls. -/
import Derived.Test.YtbagcbiekpopbaaRefS
import Derived.Test.YtbagcbiekpopbaaG1
import Derived.Test.YtbagcbiekpopbaaG2
import Derived.Test.YtbagcbiekpopbaaG6
namespace Go.Proofs.Ytbagcbiekpopbaa
open Go.RowKit Go.Proofs.YtbagcbiekpopbaaW.PrintWords Go.Proofs.YtbagcbiekpopbaaW.PrintLast Go.Proofs.YtbagcbiekpopbaaW.PrintMore
set_option linter.unusedVariables false
set_option linter.unusedSimpArgs false

def isLit (x : Int) (a : List Bool) : Bool := decide (0 < vari x) && ((decide (vari x ≤ (a.length : Int)) && rdOf false a (vari x - 1)) == decide (0 < x))
def clauseB (l : List Int) (a : List Bool) : Bool := l.any fun x => isLit x a
def trueB (l : List (List Int)) (a : List Bool) : Bool := !(l.any fun l => !clauseB l a)
def Wf (l : List Int) : Prop := ∀ x ∈ l, -9223372036854775808 ≤ x ∧ x ≤ 9223372036854775807
def WfL (l : List (List Int)) : Prop := ∀ x ∈ l, Wf x
theorem wrap64_small {x : Int} (h0 : -9223372036854775808 ≤ x) (h1 : x ≤ 9223372036854775807) : wrap64 x = x := by simp [wrap64]; omega
theorem wrap64_min : wrap64 (-(-9223372036854775808)) = -9223372036854775808 := by kernel_rfl
theorem vari_cases (x : Int) (h0 : -9223372036854775808 ≤ x) (h1 : x ≤ 9223372036854775807) : (0 ≤ x ∧ vari x = x) ∨ (x < 0 ∧ x ≠ -9223372036854775808 ∧ vari x = -x) ∨ (x = -9223372036854775808 ∧ vari x = 0) := by
  unfold vari
  by_cases h : x < 0
  · by_cases h2 : x = -9223372036854775808
    · subst h2; exact .inr (.inr ⟨rfl, by kernel_rfl⟩)
    · rw [if_pos h, wrap64_small (by omega) (by omega)]
      exact .inr (.inl ⟨h, h2, by omega⟩)
  · rw [if_neg h]
    exact .inl ⟨by omega, by omega⟩
theorem lit_pure (x : Int) (a : List Bool) (h0 : -9223372036854775808 ≤ x) (h1 : x ≤ 9223372036854775807) (ha : a.length ≤ 1000000) : ∀ (k i : Nat), a.length + 2 ≤ i + k → 1 ≤ i → i ≤ a.length + 1 → (∀ u : Int, 1 ≤ u → u < i → x ≠ u ∧ x ≠ -u) → whetstoneref13_Lit.l0 k x a (i : Int) = some (isLit x a)
  | 0, i, hk, hi, hi2, hp => by omega
  | k + 1, i, hk, hi, hi2, hp => by
    have hv := vari_cases x h0 h1
    unfold whetstoneref13_Lit.l0
    by_cases hle : (i : Int) ≤ (a.length : Int)
    · rw [if_pos hle, wrap64_small (x := (i : Int) - 1) (by omega) (by omega), wrap64_small (x := -(i : Int)) (by omega) (by omega), wrap64_small (x := (i : Int) + 1) (by omega) (by omega)]
      by_cases e1 : x = (i : Int)
      · rw [if_pos e1, if_pos (by omega), if_pos (by omega)]
        have hvi : vari x = (i : Int) := by omega
        unfold isLit
        rw [hvi, decide_eq_true (by omega : (0 : Int) < i), decide_eq_true hle, decide_eq_true (by omega : (0 : Int) < x)]
        simp
      · rw [if_neg e1]
        by_cases e2 : x = -(i : Int)
        · rw [if_pos e2, if_pos (by omega), if_pos (by omega)]
          have hvi : vari x = (i : Int) := by omega
          unfold isLit
          rw [hvi, decide_eq_true (by omega : (0 : Int) < i), decide_eq_true hle, decide_eq_false (by omega : ¬ (0 : Int) < x)]
          simp
        · rw [if_neg e2]
          refine lit_pure x a h0 h1 ha k (i + 1) (by omega) (by omega) (by omega) (fun u hu1 hu2 => ?_)
          rcases Int.lt_or_le u i with h | h
          · exact hp u hu1 h
          · have : u = (i : Int) := by omega
            subst this
            exact ⟨e1, e2⟩
    · have hi3 : i = a.length + 1 := by omega
      have hx : x = 0 ∨ (a.length : Int) < x ∨ x < -(a.length : Int) := by
        by_cases h : x = 0
        · exact .inl h
        · right
          by_cases h2 : 0 < x
          · left
            rcases Int.lt_or_le (a.length : Int) x with h3 | h3
            · exact h3
            · exact absurd rfl (hp x (by omega) (by omega)).1
          · right
            rcases Int.lt_or_le x (-(a.length : Int)) with h3 | h3
            · exact h3
            · exact absurd (by omega) (hp (-x) (by omega) (by omega)).2
      rw [if_neg hle]
      unfold isLit
      by_cases hn : x < 0
      · rw [if_pos hn]
        rcases hv with h | ⟨_, h2, h3⟩ | ⟨h2, h3⟩
        · omega
        · rw [h3, wrap64_small (by omega) (by omega), decide_eq_true (by omega : (0 : Int) < -x), decide_eq_false (by omega : ¬ -x ≤ (a.length : Int)), decide_eq_false (by omega : ¬ (0 : Int) < x)]
          rfl
        · subst h2
          rw [h3, wrap64_min]
          simp
      · rw [if_neg hn]
        have h3 : vari x = x := by omega
        rw [h3]
        by_cases hz : x = 0
        · subst hz; simp
        · rw [decide_eq_true (by omega : (0 : Int) < x), decide_eq_false (by omega : ¬ x ≤ (a.length : Int))]
          simp
theorem Lit_f (x : Int) (a : List Bool) (h0 : -9223372036854775808 ≤ x) (h1 : x ≤ 9223372036854775807) (ha : a.length ≤ 1000000) (k : Nat) (hk : a.length + 1 ≤ k) : whetstoneref13_Lit.f k x a = some (isLit x a) :=
  lit_pure x a h0 h1 ha k 1 (by omega) (by omega) (by omega) (fun u h1 h2 => by omega)
theorem clause_pure (l : List Int) (a : List Bool) (hl : Wf l) (hl2 : l.length ≤ 1000000) (ha : a.length ≤ 1000000) : ∀ (k i : Nat), i ≤ l.length → (l.length - i) + a.length + 2 ≤ k → whetstoneref13_Clause.l0 k l a (i : Int) = some ((l.drop i).any fun x => isLit x a)
  | 0, i, hi, hk => by omega
  | k + 1, i, hi, hk => by
    unfold whetstoneref13_Clause.l0
    by_cases hlt : (i : Int) < (l.length : Int)
    · have hlt2 : i < l.length := by omega
      have hr : rd l (i : Int) = l[i] := by simp [rd, List.getD_eq_getElem?_getD, hlt2]
      have hw := hl l[i] (List.getElem_mem hlt2)
      rw [if_pos hlt, if_pos (by omega), hr, Lit_f _ a hw.1 hw.2 ha k (by omega), wrap64_small (by omega) (by omega)]
      simp only [Option.bind_some]
      rw [List.drop_eq_getElem_cons hlt2, List.any_cons]
      by_cases hb : isLit l[i] a = true
      · rw [if_pos hb, hb]; rfl
      · rw [if_neg hb]
        have hb2 : isLit l[i] a = false := by simpa using hb
        rw [hb2, Bool.false_or]
        exact clause_pure l a hl hl2 ha k (i + 1) (by omega) (by omega)
    · rw [if_neg hlt, List.drop_of_length_le (by omega)]; rfl
theorem Clause_f (l : List Int) (a : List Bool) (hl : Wf l) (hl2 : l.length ≤ 1000000) (ha : a.length ≤ 1000000) (k : Nat) (hk : l.length + a.length + 2 ≤ k) : whetstoneref13_Clause.f k l a = some (clauseB l a) := by
  have := clause_pure l a hl hl2 ha k 0 (by omega) (by omega)
  rw [List.drop_zero] at this
  exact this
theorem rd_at (L : List (List Int)) (i : Nat) (h : i < L.length) : rd_L1 L (i : Int) = L[i] := by
  unfold rd_L1
  simp [List.getD_eq_getElem?_getD, h]
theorem true_pure (n : Int) (L : List (List Int)) (a : List Bool) (M : Nat) (hM : ∀ r ∈ L, r.length ≤ M) (hM2 : M ≤ 1000000) (hl : WfL L) (hl2 : L.length ≤ 1000000) (ha : a.length ≤ 1000000) : ∀ (k i : Nat), i ≤ L.length → (L.length - i) + M + a.length + 3 ≤ k → whetstoneref13_True.l0 k a (i : Int) n L = some ((L.drop i).all fun r => clauseB r a)
  | 0, i, hi, hk => by omega
  | k + 1, i, hi, hk => by
    unfold whetstoneref13_True.l0
    by_cases hlt : (i : Int) < (L.length : Int)
    · have hlt2 : i < L.length := by omega
      have hm := hM L[i] (List.getElem_mem hlt2)
      rw [if_pos hlt, if_pos (by omega), rd_at L i hlt2, Clause_f _ a (hl L[i] (List.getElem_mem hlt2)) (by omega) ha k (by omega), wrap64_small (by omega) (by omega)]
      simp only [Option.bind_some]
      rw [List.drop_eq_getElem_cons hlt2, List.all_cons]
      by_cases hb : clauseB L[i] a = true
      · rw [if_pos hb, hb, Bool.true_and]
        exact true_pure n L a M hM hM2 hl hl2 ha k (i + 1) (by omega) (by omega)
      · rw [if_neg hb]
        have hb2 : clauseB L[i] a = false := by simpa using hb
        rw [hb2]; rfl
    · rw [if_neg hlt, List.drop_of_length_le (by omega)]; rfl
theorem trueB_all (L : List (List Int)) (a : List Bool) : trueB L a = L.all fun r => clauseB r a := by
  unfold trueB
  rw [← List.all_eq_not_any_not]
theorem True_f (n : Int) (L : List (List Int)) (a : List Bool) (M : Nat) (hM : ∀ r ∈ L, r.length ≤ M) (hM2 : M ≤ 1000000) (hl : WfL L) (hl2 : L.length ≤ 1000000) (ha : a.length ≤ 1000000) (k : Nat) (hk : L.length + M + a.length + 3 ≤ k) : whetstoneref13_True.f k n L a = some (trueB L a) := by
  have := true_pure n L a M hM hM2 hl hl2 ha k 0 (by omega) (by omega)
  rw [trueB_all]
  rw [List.drop_zero] at this
  exact this

theorem odd_iff (n x : Int) (h0 : -9223372036854775808 ≤ x) (h1 : x ≤ 9223372036854775807) (hn : 0 ≤ n) (hn2 : n ≤ 1048576) : oddB n x = true ↔ (x = 0 ∨ x > n ∨ x < -n) := by
  have hv := vari_cases x h0 h1
  unfold oddB
  simp only [Bool.or_eq_true, decide_eq_true_eq]
  omega
theorem check_rows (n : Int) (L : List (List Int)) (M : Nat) (hM : ∀ r ∈ L, r.length ≤ M) (hM2 : M ≤ 1000000) (hl : WfL L) (hl2 : L.length ≤ 1000000) (hn : 0 ≤ n) (hn2 : n ≤ 1048576) : ∀ (k : Nat),
    (∀ i : Nat, i ≤ L.length → (L.length - i) * (M + 2) + 1 ≤ k → whetstoneref13_Check.l0 k (i : Int) n L = some (if ((L.drop i).any fun r => r.any (oddB n)) then 130 else 0)) ∧
    (∀ (i j : Nat) (hi : i < L.length), j ≤ L[i].length → (L[i].length - j) + 2 + (L.length - (i + 1)) * (M + 2) ≤ k → whetstoneref13_Check.l1 k (i : Int) (j : Int) n L = some (if ((L[i].drop j).any (oddB n) || (L.drop (i + 1)).any fun r => r.any (oddB n)) then 130 else 0))
  | 0 => ⟨fun i hi hk => by omega, fun i j hi hj hk => by omega⟩
  | k + 1 => by
    obtain ⟨ih0, ih1⟩ := check_rows n L M hM hM2 hl hl2 hn hn2 k
    refine ⟨fun i hi hk => ?_, fun i j hi hj hk => ?_⟩
    · unfold whetstoneref13_Check.l0
      by_cases hlt : (i : Int) < (L.length : Int)
      · have hlt2 : i < L.length := by omega
        have hm := hM L[i] (List.getElem_mem hlt2)
        rw [if_pos hlt]
        have e : (L.length - i) * (M + 2) = (L.length - (i + 1)) * (M + 2) + (M + 2) := by
          rw [← Nat.succ_mul]; congr 1; omega
        have := ih1 i 0 hlt2 (by omega) (by omega)
        rw [show ((0 : Nat) : Int) = 0 from rfl] at this
        rw [this, List.drop_zero, List.drop_eq_getElem_cons hlt2, List.any_cons]
      · rw [if_neg hlt, List.drop_of_length_le (by omega)]; rfl
    · unfold whetstoneref13_Check.l1
      have hm := hM L[i] (List.getElem_mem hi)
      rw [if_pos (by omega), if_pos (by omega), rd_at L i hi]
      by_cases hlt : (j : Int) < (L[i].length : Int)
      · have hlt2 : j < L[i].length := by omega
        have hr : rd L[i] (j : Int) = L[i][j] := by simp [rd, List.getD_eq_getElem?_getD, hlt2]
        have hw := hl L[i] (List.getElem_mem hi) L[i][j] (List.getElem_mem hlt2)
        have ho := odd_iff n L[i][j] hw.1 hw.2 hn hn2
        rw [if_pos hlt, if_pos (by omega), hr, wrap64_small (x := -n) (by omega) (by omega), wrap64_small (x := (j : Int) + 1) (by omega) (by omega), List.drop_eq_getElem_cons hlt2, List.any_cons]
        by_cases h1 : L[i][j] = 0
        · rw [if_pos h1, ho.2 (.inl h1)]; rfl
        · rw [if_neg h1]
          by_cases h2 : L[i][j] > n
          · rw [if_pos h2, ho.2 (.inr (.inl h2))]; rfl
          · rw [if_neg h2]
            by_cases h3 : L[i][j] < -n
            · rw [if_pos h3, ho.2 (.inr (.inr h3))]; rfl
            · rw [if_neg h3]
              have hf : oddB n L[i][j] = false := by
                cases hb : oddB n L[i][j] with
                | false => rfl
                | true => rcases ho.1 hb with h | h | h <;> contradiction
              rw [hf, Bool.false_or]
              exact ih1 i (j + 1) hi (by omega) (by omega)
      · rw [if_neg hlt, List.drop_of_length_le (by omega), wrap64_small (by omega) (by omega)]
        have := ih0 (i + 1) (by omega) (by omega)
        rw [show ((i + 1 : Nat) : Int) = (i : Int) + 1 from by omega] at this
        rw [this]; rfl
theorem Check_f (n : Int) (L : List (List Int)) (M : Nat) (hM : ∀ r ∈ L, r.length ≤ M) (hM2 : M ≤ 1000000) (hl : WfL L) (hl2 : L.length ≤ 1000000) (k : Nat) (hk : L.length * (M + 2) + 2 ≤ k) : whetstoneref13_Check.f k n L = some (checkI n L) := by
  unfold whetstoneref13_Check.f checkI
  by_cases h1 : n < 0
  · rw [if_pos h1, if_pos h1]
  · rw [if_neg h1, if_neg h1]
    obtain ⟨k', rfl⟩ : ∃ k', k = k' + 1 := ⟨k - 1, by omega⟩
    by_cases h2 : 1048576 < n
    · rw [if_pos h2, if_pos h2]; simp [whetstoneref13_Check.j0]
    · rw [if_neg h2, if_neg h2, if_neg (by omega)]
      have hd : decide ((L.length : Int) > 1048576) = false := by simp; omega
      rw [hd]
      simp only [whetstoneref13_Check.j0, Bool.false_eq_true, if_false]
      have := (check_rows n L M hM hM2 hl hl2 (by omega) (by omega) k').1 0 (by omega) (by rw [Nat.sub_zero]; omega)
      simpa using this
theorem vari_small {x : Int} (h0 : -1000 ≤ x) (h1 : x ≤ 1000) : vari x = if x < 0 then -x else x := by
  unfold vari
  by_cases h : x < 0
  · rw [if_pos h, if_pos h, wrap64_small (by omega) (by omega)]; omega
  · rw [if_neg h, if_neg h]; omega
/-- Of one literal, not 0, just it or its opposite holds. -/
theorem isLit_opp {x : Int} (a : List Bool) (h0 : -1000 ≤ x) (h1 : x ≤ 1000) (hx : x ≠ 0) : isLit (-x) a = !isLit x a := by
  unfold isLit
  rw [vari_small (x := x) h0 h1, vari_small (x := -x) (by omega) (by omega)]
  by_cases h : x < 0
  · rw [if_neg (by omega), if_pos h, decide_eq_true (by omega : (0 : Int) < -x), decide_eq_false (by omega : ¬ (0 : Int) < x)]
    cases (decide (-x ≤ (a.length : Int)) && rdOf false a (-x - 1)) <;> rfl
  · rw [if_pos (by omega), if_neg h, decide_eq_false (by omega : ¬ (0 : Int) < -x), Int.neg_neg, decide_eq_true (by omega : (0 : Int) < x)]
    cases (decide (x ≤ (a.length : Int)) && rdOf false a (x - 1)) <;> rfl
theorem drawn_below {w w' : World} (h : Drawn0 w w') : Below w.heap.size w w' := by
  obtain ⟨n, rfl⟩ := h
  exact bel_drewN w n
theorem RClause_any (A0 : Option Addr) (c0 : Nat) (l0 : List Int) (A1 : Option Addr) (c1 : Nat) (l1 : List Bool) (w : World) (h0 : Kd.C kI w A0 l0.length l0) (hc0 : l0.length ≤ c0) (h1 : Kd.C Kd.bool w A1 l1.length l1) (hc1 : l1.length ≤ c1)
    (hW : Wf l0) (hl0 : l0.length ≤ 1000000) (hl1 : l1.length ≤ 1000000) :
    Calls Try.prog 18 #[.slice A0 l0.length c0, .slice A1 l1.length c1] w fun e w' => e = .returned (.bool (clauseB l0 l1)) ∧ Below w.heap.size w w' :=
  (whetstoneref13_Clause.calls (l0.length + l1.length + 2) A0 c0 l0 A1 c1 l1 (clauseB l0 l1) w h0 hc0 h1 hc1 (Clause_f l0 l1 hW hl0 hl1 _ (Nat.le_refl _))).mono fun _ _ ⟨h1, h2⟩ => ⟨h1, drawn_below h2⟩
theorem RCheck_any (n : Int) (A : Option Addr) (c : Nat) (L : List (List Int)) (w : World) (hC : Kd.C kII w A L.length L) (hc : L.length ≤ c) (hW : WfL L) (hM : ∀ r ∈ L, r.length ≤ 12) (hl : L.length ≤ 1000000) :
    Calls Try.prog 11 #[.agg #[.int .i64 n, .slice A L.length c]] w fun e w' => e = .returned (.int .i64 (checkI n L)) ∧ Below w.heap.size w w' :=
  whetstoneref13_Check.calls (L.length * (12 + 2) + 2) n A c L (checkI n L) w hC hc (Check_f n L 12 hM (by omega) hW hl _ (Nat.le_refl _))
theorem RTrue_any (n : Int) (A : Option Addr) (c : Nat) (L : List (List Int)) (A1 : Option Addr) (c1 : Nat) (a : List Bool) (w : World) (hC : Kd.C kII w A L.length L) (hc : L.length ≤ c) (h1 : Kd.C Kd.bool w A1 a.length a) (hc1 : a.length ≤ c1) (hW : WfL L) (hM : ∀ r ∈ L, r.length ≤ 12) (hl : L.length ≤ 1000000) (ha : a.length ≤ 1000000) :
    Calls Try.prog 13 #[.agg #[.int .i64 n, .slice A L.length c], .slice A1 a.length c1] w fun e w' => e = .returned (.bool (trueB L a)) ∧ Below w.heap.size w w' :=
  whetstoneref13_True.calls (L.length + 12 + a.length + 3) n A c L A1 c1 a (trueB L a) w hC hc h1 hc1 (True_f n L a 12 hM (by omega) hW hl ha _ (Nat.le_refl _))

end Go.Proofs.Ytbagcbiekpopbaa

namespace Go.Proofs.Ytbagcbiekpopbaa
open Go.RowKit Go.Proofs.YtbagcbiekpopbaaW.PrintWords Go.Proofs.YtbagcbiekpopbaaW.PrintLast Go.Proofs.YtbagcbiekpopbaaW.PrintMore
set_option linter.unusedVariables false
set_option linter.unusedSimpArgs false

/-! ### The reference's functions -/
theorem enough_pure (n : Nat) (L : List (List Int)) (hn : n ≤ 10) : ∀ (k i : Nat), i ≤ n → n - i + 1 ≤ k → whetstoneref15_Enough.l0 k (((3 ^ i : Nat) : Int)) (i : Int) (n : Int) L = some ((3 ^ n : Nat) : Int)
  | 0, i, hi, hk => by omega
  | k + 1, i, hi, hk => by
    unfold whetstoneref15_Enough.l0
    by_cases h : i < n
    · have h3 : (3 : Nat) ^ i ≤ 3 ^ 10 := Nat.pow_le_pow_right (by omega) (by omega)
      have e10 : (3 : Nat) ^ 10 = 59049 := by decide
      have e1 : (3 : Nat) ^ (i + 1) = 3 * 3 ^ i := by rw [Nat.pow_succ]; omega
      rw [if_pos (by omega), if_pos (by omega), wrap64_small (x := 3 * ((3 ^ i : Nat) : Int)) (by omega) (by omega), wrap64_small (x := (i : Int) + 1) (by omega) (by omega)]
      have := enough_pure n L hn k (i + 1) (by omega) (by omega)
      rw [e1, show ((3 * 3 ^ i : Nat) : Int) = 3 * ((3 ^ i : Nat) : Int) from by omega, show ((i + 1 : Nat) : Int) = (i : Int) + 1 from by omega] at this
      exact this
    · obtain rfl : i = n := by omega
      rw [if_neg (by omega)]
theorem Enough_f (n : Nat) (L : List (List Int)) (hn : n ≤ 10) : whetstoneref15_Enough.f (n + 1) (n : Int) L = some ((3 ^ n : Nat) : Int) := by
  have := enough_pure n L hn (n + 1) 0 (by omega) (by omega)
  simpa [whetstoneref15_Enough.f] using this

theorem odd_f {n : Nat} (hn : n ≤ 1000000) {x : Int} (h : V n x) : whetstoneref15_odd.f x = some false := by
  unfold V at h
  unfold whetstoneref15_odd.f
  rw [if_neg (by omega)]
  split
  · rw [wrap64_small (by omega) (by omega)]
    simp
    omega
  · rfl
theorem rd_ints (l : List Int) (i : Nat) (h : i < l.length) : rd l (i : Int) = l[i] := by simp [rd, List.getD_eq_getElem?_getD, h]
theorem has_pure (l : List Int) (x : Int) (hl : l.length ≤ 1000000000000) : ∀ (k i : Nat), i ≤ l.length → l.length - i + 1 ≤ k → whetstoneref15_has.l0 k l x (i : Int) = some (decide (x ∈ l.drop i))
  | 0, i, hi, hk => by omega
  | k + 1, i, hi, hk => by
    unfold whetstoneref15_has.l0
    by_cases h : i < l.length
    · rw [if_pos (by omega), if_pos (by omega), rd_ints l i h, wrap64_small (x := (i : Int) + 1) (by omega) (by omega), List.drop_eq_getElem_cons h]
      by_cases e : l[i] = x
      · rw [if_pos e, e]; simp
      · rw [if_neg e]
        have := has_pure l x hl k (i + 1) (by omega) (by omega)
        rw [show ((i + 1 : Nat) : Int) = (i : Int) + 1 from by omega] at this
        rw [this, Option.some.injEq, decide_eq_decide, List.mem_cons]
        exact ⟨.inr, fun h => h.resolve_left (fun h => e h.symm)⟩
    · rw [if_neg (by omega), List.drop_of_length_le (by omega)]; simp
theorem Has_f (l : List Int) (x : Int) (hl : l.length ≤ 1000000000000) (k : Nat) (hk : l.length + 1 ≤ k) : whetstoneref15_has.f k l x = some (decide (x ∈ l)) := by
  have := has_pure l x hl k 0 (by omega) (by omega)
  simpa [whetstoneref15_has.f] using this
def restA (hs : List Int) : List Int → List Int → List Int
  | [], out => out
  | x :: l, out => if -x ∈ hs then restA hs l out else if x ∈ out then restA hs l out else restA hs l (out ++ [x])
def restI (l hs : List Int) : List Int := restA hs l []
theorem rest_pure {n : Nat} (hn : n ≤ 1000000) (l hs : List Int) (hV : ∀ x ∈ l, V n x) (hl : l.length ≤ 1000000) (hh : hs.length ≤ 1000000000000) : ∀ (k i : Nat) (out : List Int), i ≤ l.length → out.length ≤ i → (l.length - i) + l.length + hs.length + 2 ≤ k →
    whetstoneref15_rest.l0 k l hs out (i : Int) = some (restA hs (l.drop i) out)
  | 0, i, out, hi, ho, hk => by omega
  | k + 1, i, out, hi, ho, hk => by
    unfold whetstoneref15_rest.l0
    by_cases h : i < l.length
    · have hx := hV l[i] (List.getElem_mem h)
      have hx' := hx
      unfold V at hx'
      have nxt : ∀ o : List Int, o.length ≤ i + 1 → whetstoneref15_rest.l0 k l hs o ((i : Int) + 1) = some (restA hs (l.drop (i + 1)) o) := fun o ho => by
        have := rest_pure hn l hs hV hl hh k (i + 1) o (by omega) ho (by omega)
        rw [show ((i + 1 : Nat) : Int) = (i : Int) + 1 from by omega] at this
        exact this
      rw [if_pos (by omega), if_pos (by omega), rd_ints l i h, wrap64_small (x := (i : Int) + 1) (by omega) (by omega), odd_f hn hx, wrap64_small (x := -l[i]) (by omega) (by omega), List.drop_eq_getElem_cons h]
      simp only [Option.bind_some, Bool.false_eq_true, if_false]
      rw [Has_f hs _ hh k (by omega)]
      simp only [Option.bind_some, decide_eq_true_eq]
      unfold restA
      by_cases h1 : -l[i] ∈ hs
      · rw [if_pos h1, if_pos h1]; exact nxt out (by omega)
      · rw [if_neg h1, if_neg h1, Has_f out _ (by omega) k (by omega)]
        simp only [Option.bind_some, decide_eq_true_eq]
        by_cases h2 : l[i] ∈ out
        · rw [if_pos h2, if_pos h2]; exact nxt out (by omega)
        · rw [if_neg h2, if_neg h2, if_pos (by omega)]
          exact nxt _ (by simp; omega)
    · rw [if_neg (by omega), List.drop_of_length_le (by omega)]; rfl
theorem Rest_f {n : Nat} (hn : n ≤ 1000000) (l hs : List Int) (hV : ∀ x ∈ l, V n x) (hl : l.length ≤ 1000000) (hh : hs.length ≤ 1000000000000) : whetstoneref15_rest.f (l.length + l.length + hs.length + 2) l hs = some (restI l hs) := by
  have := rest_pure hn l hs hV hl hh (l.length + l.length + hs.length + 2) 0 [] (by omega) (by simp) (by omega)
  simpa [whetstoneref15_rest.f, restI] using this
theorem values_pure (n : Nat) (hn : n ≤ 1000) : ∀ (k i : Nat) (x : Int) (a : List Bool), i ≤ n → a.length ≤ i → n - i + 1 ≤ k → ∃ r, whetstoneref15_values.l0 k (n : Int) x a (i : Int) = some r ∧ r.length ≤ n
  | 0, i, x, a, hi, ha, hk => by omega
  | k + 1, i, x, a, hi, ha, hk => by
    unfold whetstoneref15_values.l0
    by_cases h : i < n
    · rw [if_pos (by omega), if_pos (by omega), wrap64_small (x := (i : Int) + 1) (by omega) (by omega)]
      have := values_pure n hn k (i + 1) (wrap64 (Int.tdiv x 2)) (a ++ [(Int.tmod x 2) == 1]) (by omega) (by simp; omega) (by omega)
      rw [show ((i + 1 : Nat) : Int) = (i : Int) + 1 from by omega] at this
      exact this
    · rw [if_neg (by omega)]
      exact ⟨a, rfl, by omega⟩
/-- Where no values do, none is found. -/
theorem any_l1 (n : Nat) (hn : n ≤ 10) (L : List (List Int)) (hM : ∀ r ∈ L, r.length ≤ 12) (hl : WfL L) (hl2 : L.length ≤ 1000) (hno : ∀ a : List Bool, trueB L a = false) (m : Nat) (hm : m ≤ 1024) : ∀ (k i : Nat), i ≤ m → (m - i) + 2000 ≤ k → whetstoneref15_Any.l1 k (m : Int) (i : Int) (n : Int) L = some false
  | 0, i, hi, hk => by omega
  | k + 1, i, hi, hk => by
    unfold whetstoneref15_Any.l1
    by_cases h : i < m
    · rw [if_pos (by omega), wrap64_small (x := (i : Int) + 1) (by omega) (by omega)]
      obtain ⟨r, h1, h2⟩ := values_pure n (by omega) k 0 (i : Int) [] (by omega) (by simp) (by omega)
      have h1' : whetstoneref15_values.f k (n : Int) (i : Int) = some r := by simpa [whetstoneref15_values.f] using h1
      rw [h1']
      simp only [Option.bind_some]
      rw [True_f (n : Int) L r 12 hM (by omega) hl (by omega) (by omega) k (by omega), hno r]
      simp only [Option.bind_some, Bool.false_eq_true, if_false]
      have := any_l1 n hn L hM hl hl2 hno m hm k (i + 1) (by omega) (by omega)
      rw [show ((i + 1 : Nat) : Int) = (i : Int) + 1 from by omega] at this
      exact this
    · rw [if_neg (by omega)]
theorem any_l0 (n : Nat) (hn : n ≤ 10) (L : List (List Int)) (hM : ∀ r ∈ L, r.length ≤ 12) (hl : WfL L) (hl2 : L.length ≤ 1000) (hno : ∀ a : List Bool, trueB L a = false) : ∀ (k i : Nat), i ≤ n → (n - i) + 3100 ≤ k → whetstoneref15_Any.l0 k (((2 ^ i : Nat) : Int)) (i : Int) (n : Int) L = some false
  | 0, i, hi, hk => by omega
  | k + 1, i, hi, hk => by
    have h2 : (2 : Nat) ^ i ≤ 2 ^ 10 := Nat.pow_le_pow_right (by omega) (by omega)
    have e10 : (2 : Nat) ^ 10 = 1024 := by decide
    unfold whetstoneref15_Any.l0
    by_cases h : i < n
    · have e1 : (2 : Nat) ^ (i + 1) = 2 * 2 ^ i := by rw [Nat.pow_succ]; omega
      rw [if_pos (by omega), if_pos (by omega), wrap64_small (x := 2 * ((2 ^ i : Nat) : Int)) (by omega) (by omega), wrap64_small (x := (i : Int) + 1) (by omega) (by omega)]
      have := any_l0 n hn L hM hl hl2 hno k (i + 1) (by omega) (by omega)
      rw [e1, show ((2 * 2 ^ i : Nat) : Int) = 2 * ((2 ^ i : Nat) : Int) from by omega, show ((i + 1 : Nat) : Int) = (i : Int) + 1 from by omega] at this
      exact this
    · rw [if_neg (by omega)]
      obtain ⟨k', rfl⟩ : ∃ k', k = k' + 1 := ⟨k - 1, by omega⟩
      unfold whetstoneref15_Any.j1
      generalize (2 : Nat) ^ i = P at *
      have := any_l1 n hn L hM hl hl2 hno P (by omega) k' 0 (by omega) (by omega)
      simpa using this
theorem Any_f (n : Nat) (hn : n ≤ 10) (L : List (List Int)) (hM : ∀ r ∈ L, r.length ≤ 12) (hl : WfL L) (hl2 : L.length ≤ 1000) (hno : ∀ a : List Bool, trueB L a = false) : whetstoneref15_Any.f (n + 3100) (n : Int) L = some false := by
  have := any_l0 n hn L hM hl hl2 hno (n + 3100) 0 (by omega) (by omega)
  simpa [whetstoneref15_Any.f] using this

/-! ### Follows -/
theorem restA_mem (hs : List Int) : ∀ (l out : List Int) (x : Int), x ∈ restA hs l out ↔ (x ∈ out ∨ (x ∈ l ∧ -x ∉ hs))
  | [], out, x => by simp [restA]
  | y :: l, out, x => by
    unfold restA
    split
    · rename_i h
      rw [restA_mem hs l out x]
      constructor
      · rintro (h1 | ⟨h1, h2⟩)
        · exact .inl h1
        · exact .inr ⟨by simp [h1], h2⟩
      · rintro (h1 | ⟨h1, h2⟩)
        · exact .inl h1
        · rcases List.mem_cons.1 h1 with rfl | h1
          · exact absurd h h2
          · exact .inr ⟨h1, h2⟩
    · rename_i h
      split
      · rename_i h0
        rw [restA_mem hs l out x]
        constructor
        · rintro (h1 | ⟨h1, h2⟩)
          · exact .inl h1
          · exact .inr ⟨by simp [h1], h2⟩
        · rintro (h1 | ⟨h1, h2⟩)
          · exact .inl h1
          · rcases List.mem_cons.1 h1 with rfl | h1
            · exact .inl h0
            · exact .inr ⟨h1, h2⟩
      · rename_i h0
        rw [restA_mem hs l _ x, List.mem_append]
        constructor
        · rintro ((h1 | h1) | ⟨h1, h2⟩)
          · exact .inl h1
          · obtain rfl : x = y := by simpa using h1
            exact .inr ⟨by simp, h⟩
          · exact .inr ⟨by simp [h1], h2⟩
        · rintro (h1 | ⟨h1, h2⟩)
          · exact .inl (.inl h1)
          · rcases List.mem_cons.1 h1 with rfl | h1
            · exact .inl (.inr (by simp))
            · exact .inr ⟨h1, h2⟩
theorem restA_nodup (hs : List Int) : ∀ (l out : List Int), out.Nodup → (restA hs l out).Nodup
  | [], out, h => h
  | y :: l, out, h => by
    unfold restA
    split
    · exact restA_nodup hs l out h
    · split
      · exact restA_nodup hs l out h
      · rename_i h0
        refine restA_nodup hs l _ ?_
        rw [List.nodup_append]
        exact ⟨h, by simp, fun a ha b hb e => by
          obtain rfl : b = y := by simpa using hb
          exact h0 (e ▸ ha)⟩
theorem restI_mem {l hs : List Int} {x : Int} : x ∈ restI l hs ↔ (x ∈ l ∧ -x ∉ hs) := by
  unfold restI
  rw [restA_mem]
  simp
theorem restI_one {l hs : List Int} {x : Int} (h : ∀ y ∈ restI l hs, y = x) (hne : restI l hs ≠ []) : restI l hs = [x] := by
  have hd := restA_nodup hs l [] (by simp)
  change (restI l hs).Nodup at hd
  match hr : restI l hs with
  | [] => exact absurd hr hne
  | [y] => rw [hr] at h; rw [h y (by simp)]
  | y :: z :: r =>
    rw [hr] at h hd
    have h1 := h y (by simp)
    have h2 := h z (by simp)
    rw [h1, h2] at hd
    simp at hd

def passF : List (List Int) → List Int → Option (List Int)
  | [], m => some m
  | l :: ls, m => if restI l m = [] then none else if (restI l m).length = 1 ∧ (restI l m).getD 0 0 ∉ m then passF ls (m ++ [(restI l m).getD 0 0]) else passF ls m
def follow (L : List (List Int)) : Nat → List Int → Option Bool
  | 0, _ => none
  | f + 1, h => match passF L h with
    | none => some true
    | some m => if m.length = h.length then some false else follow L f m
def initF : List Int → List Int → Option (List Int)
  | [], h => some h
  | x :: p, h => if x ∈ h then none else initF p (h ++ [-x])
def followsI (fuel : Nat) (L : List (List Int)) (p : List Int) : Option Bool := match initF p [] with
  | none => some true
  | some h => follow L fuel h

def lits (n : Nat) : List Int := (List.range n).map (fun i : Nat => (i : Int) + 1) ++ (List.range n).map (fun i : Nat => -((i : Int) + 1))
theorem mem_lits {n : Nat} {x : Int} : x ∈ lits n ↔ V n x := by
  unfold lits V
  rw [List.mem_append, List.mem_map, List.mem_map]
  constructor
  · rintro (⟨i, h1, rfl⟩ | ⟨i, h1, rfl⟩) <;> (rw [List.mem_range] at h1; omega)
  · intro h
    rcases Int.natAbs_eq x with e | e
    · exact .inl ⟨x.natAbs - 1, List.mem_range.2 (by omega), by omega⟩
    · exact .inr ⟨x.natAbs - 1, List.mem_range.2 (by omega), by omega⟩
def missing (n : Nat) (h : List Int) : Nat := (lits n).countP (fun x => decide (x ∉ h))
theorem countP_lt {p q : Int → Bool} : ∀ {l : List Int} {x : Int}, x ∈ l → q x = false → p x = true → (∀ y, q y = true → p y = true) → l.countP q < l.countP p
  | [], _, hx, _, _, _ => by cases hx
  | a :: l, x, hx, h1, h2, h3 => by
    have hle : l.countP q ≤ l.countP p := List.countP_mono_left (fun y _ hy => h3 y hy)
    rw [List.countP_cons, List.countP_cons]
    rcases List.mem_cons.1 hx with rfl | hx
    · rw [h1, h2]; simp; omega
    · have ih := countP_lt hx h1 h2 h3
      cases hq : q a with
      | true => rw [h3 a hq]; simp; omega
      | false =>
        simp only [hq, Bool.false_eq_true, if_false]
        omega
theorem missing_lt {n : Nat} {h : List Int} {x : Int} (hx : V n x) (hn : x ∉ h) : missing n (h ++ [x]) < missing n h := by
  unfold missing
  refine countP_lt (mem_lits.2 hx) (by simp) (by simpa using hn) (fun y hy => ?_)
  simp at hy ⊢
  exact hy.1
theorem missing_le (n : Nat) (h : List Int) : missing n h ≤ 2 * n := by
  unfold missing
  have := List.countP_le_length (p := fun x => decide (x ∉ h)) (l := lits n)
  have e : (lits n).length = 2 * n := by unfold lits; simp; omega
  omega

theorem passF_ok {n : Nat} : ∀ {L : List (List Int)} {h m : List Int}, (∀ l ∈ L, ∀ x ∈ l, V n x) → passF L h = some m →
    h.length ≤ m.length ∧ missing n m ≤ missing n h ∧ (h.length < m.length → missing n m < missing n h) ∧ (m.length = h.length → m = h ∧ ∀ l ∈ L, restI l h ≠ [] ∧ ∀ x, restI l h = [x] → x ∈ h)
  | [], h, m, hV, e => by
    obtain rfl := Option.some.inj e
    exact ⟨Nat.le_refl _, Nat.le_refl _, fun h => by omega, fun _ => ⟨rfl, fun l hl => by cases hl⟩⟩
  | l :: ls, h, m, hV, e => by
    unfold passF at e
    have hV' : ∀ l ∈ ls, ∀ x ∈ l, V n x := fun l hl => hV l (by simp [hl])
    split at e
    · cases e
    · rename_i hne
      split at e
      · rename_i h1
        obtain ⟨i1, i2, i3, i4⟩ := passF_ok hV' e
        have hx : (restI l h).getD 0 0 ∈ restI l h := by
          match hr : restI l h, h1.1 with
          | [y], _ => simp
        have hxV := hV l (by simp) _ (restI_mem.1 hx).1
        have hlt := missing_lt hxV h1.2
        simp only [List.length_append, List.length_cons, List.length_nil] at i1 i3 i4
        refine ⟨by omega, by omega, fun _ => by omega, fun hc => by omega⟩
      · rename_i h1
        obtain ⟨i1, i2, i3, i4⟩ := passF_ok hV' e
        refine ⟨i1, i2, i3, fun hc => ?_⟩
        obtain ⟨j1, j2⟩ := i4 hc
        refine ⟨j1, fun l2 hl2 => ?_⟩
        rcases List.mem_cons.1 hl2 with rfl | hl2
        · refine ⟨hne, fun x hx => ?_⟩
          rw [hx] at h1
          exact Decidable.byContradiction fun hn => h1 ⟨rfl, by simpa using hn⟩
        · exact j2 l2 hl2
theorem follow_ok {n : Nat} {L : List (List Int)} (hV : ∀ l ∈ L, ∀ x ∈ l, V n x) : ∀ (f : Nat) (h : List Int), missing n h < f → ∃ r, follow L f h = some r ∧ (r = false → ∃ m, (∀ x ∈ h, x ∈ m) ∧ ∀ l ∈ L, restI l m ≠ [] ∧ ∀ x, restI l m = [x] → x ∈ m)
  | 0, h, hf => by omega
  | f + 1, h, hf => by
    unfold follow
    cases e : passF L h with
    | none => exact ⟨true, rfl, fun h => by cases h⟩
    | some m =>
      obtain ⟨i1, i2, i3, i4⟩ := passF_ok hV e
      simp only
      split
      · rename_i hc
        obtain ⟨j1, j2⟩ := i4 hc
        exact ⟨false, rfl, fun _ => ⟨h, fun x hx => hx, j2⟩⟩
      · rename_i hc
        obtain ⟨r, h1, h2⟩ := follow_ok hV f m (by have := i3 (by omega); omega)
        refine ⟨r, h1, fun hr => ?_⟩
        obtain ⟨m', h3, h4⟩ := h2 hr
        exact ⟨m', fun x hx => h3 x (passF_sub e x hx), h4⟩
where
  passF_sub : ∀ {L : List (List Int)} {h m : List Int}, passF L h = some m → ∀ x ∈ h, x ∈ m
    | [], h, m, e, x, hx => by obtain rfl := Option.some.inj e; exact hx
    | l :: ls, h, m, e, x, hx => by
      unfold passF at e
      split at e
      · cases e
      · split at e
        · exact passF_sub e x (List.mem_append.2 (.inl hx))
        · exact passF_sub e x hx
theorem initF_ok : ∀ {p h m : List Int}, initF p h = some m → (∀ x ∈ h, x ∈ m) ∧ (∀ x ∈ p, -x ∈ m) ∧ m.length = h.length + p.length
  | [], h, m, e => by
    obtain rfl := Option.some.inj e
    exact ⟨fun x hx => hx, fun x hx => (by cases hx), by simp⟩
  | y :: p, h, m, e => by
    unfold initF at e
    split at e
    · cases e
    · obtain ⟨h1, h2, h3⟩ := initF_ok e
      refine ⟨fun x hx => h1 x (List.mem_append.2 (.inl hx)), fun x hx => ?_, by simp at h3 ⊢; omega⟩
      rcases List.mem_cons.1 hx with rfl | hx
      · exact h1 _ (by simp)
      · exact h2 x hx
theorem UP.closed {D : List (List Int)} {p m : List Int} (hp : ∀ x ∈ p, -x ∈ m) (hc : ∀ l ∈ D, restI l m ≠ [] ∧ ∀ x, restI l m = [x] → x ∈ m) {x : Int} (h : UP D p x) : x ∈ m := by
  induction h with
  | neg h => exact hp _ h
  | @unit l x hl hx hu ih =>
    obtain ⟨h1, h2⟩ := hc l hl
    refine h2 x (restI_one (fun y hy => ?_) h1)
    obtain ⟨h3, h4⟩ := restI_mem.1 hy
    exact Decidable.byContradiction fun hne => h4 (ih y h3 hne)
theorem follows_rup {n : Nat} {L : List (List Int)} (hV : ∀ l ∈ L, ∀ x ∈ l, V n x) {p : List Int} (h : RUP L p) : followsI (2 * n + 1) L p = some true := by
  unfold followsI
  cases e : initF p [] with
  | none => rfl
  | some h0 =>
    obtain ⟨-, h2, -⟩ := initF_ok e
    obtain ⟨r, h3, h4⟩ := follow_ok hV (2 * n + 1) h0 (by have := missing_le n h0; omega)
    simp only
    rw [h3]
    cases r with
    | true => rfl
    | false =>
      exfalso
      obtain ⟨m, h5, h6⟩ := h4 rfl
      obtain ⟨l, hl, hu⟩ := h
      refine (h6 l hl).1 (List.eq_nil_iff_forall_not_mem.2 (fun x hx => ?_))
      obtain ⟨h7, h8⟩ := restI_mem.1 hx
      exact h8 (UP.closed (fun x hx => h5 _ (h2 x hx)) h6 (hu x h7))
end Go.Proofs.Ytbagcbiekpopbaa

namespace Go.Proofs.Ytbagcbiekpopbaa
open Go.RowKit Go.Shelf Go.Proofs.YtbagcbiekpopbaaW.PrintWords Go.Proofs.YtbagcbiekpopbaaW.PrintLast
set_option linter.unusedVariables false
set_option linter.unusedSimpArgs false

set_option maxHeartbeats 4000000 in
set_option maxRecDepth 100000 in
theorem Solve_bad (n budget : Int) (A : Option Addr) (c : Nat) (l : List (List Int)) (w : World) (hC : Kd.C kII w A l.length l) (hc : checkI n l ≠ 0) :
    Calls Try.prog 9 #[.agg #[.int .i64 n, .slice A l.length c], .int .i64 budget] w (AnsOut w ⟨0, [], []⟩ (checkI n l)) := by
  have HCk := Check_any n A c l _ (Kd.C_below hC (bel_alloc w (.cells #[.int .i64 n, .slice A l.length c] 24)))
  have HB := Aside0.mk (bel_alloc w (.cells #[.int .i64 n, .slice A l.length c] 24))
  generalize checkI n l = e at *
  have he : (e != 0) = true := by simpa using hc
  clear hC hc
  go_enter Try.func9, Try.ntmps9
  go_wp2_with (go_at_call 17; refine HCk.mono ?_; rintro e w1 ⟨rfl, hb1⟩; have HB1 := Aside0.mk hb1; clear hb1)
  (try simp only [Exit.inBlock, Exit.then]); refine bodyPost_ret (results_tmp4 rfl _ _ _) rfl ?_
  exact AnsOut.nils (below_then HB.out HB.out.size HB1.out)

set_option maxHeartbeats 4000000 in
set_option maxRecDepth 100000 in
theorem Solve_neg (n budget : Int) (A : Option Addr) (c : Nat) (l : List (List Int)) (w : World) (hC : Kd.C kII w A l.length l) (hc : checkI n l = 0) (hb : budget < 0) :
    Calls Try.prog 9 #[.agg #[.int .i64 n, .slice A l.length c], .int .i64 budget] w (AnsOut w ⟨0, [], []⟩ 0) := by
  have HCk := Check_any n A c l _ (Kd.C_below hC (bel_alloc w (.cells #[.int .i64 n, .slice A l.length c] 24)))
  have HB := Aside0.mk (bel_alloc w (.cells #[.int .i64 n, .slice A l.length c] 24))
  rw [hc] at HCk
  have hd : decide (budget < 0) = true := decide_eq_true hb
  clear hC hc
  go_enter Try.func9, Try.ntmps9
  go_wp2_with (go_at_call 17; refine HCk.mono ?_; rintro e w1 ⟨rfl, hb1⟩; have HB1 := Aside0.mk hb1; clear hb1)
  (try simp only [Exit.inBlock, Exit.then]); refine bodyPost_ret (results_tmp4 rfl _ _ _) rfl ?_
  exact AnsOut.nils (below_then HB.out HB.out.size HB1.out)

theorem check_V {n : Int} {L : List (List Int)} (h : checkI n L = 0) (hW : WfL L) : 0 ≤ n ∧ n ≤ 1048576 ∧ ∀ r ∈ L, ∀ x ∈ r, V n.toNat x := by
  unfold checkI at h
  split at h
  · omega
  · split at h
    · omega
    · split at h
      · omega
      · rename_i h1 h2 _
        split at h
        · omega
        · rename_i h3
          refine ⟨by omega, by omega, fun r hr x hx => ?_⟩
          have hw := hW r hr x hx
          have ho := odd_iff n x hw.1 hw.2 (by omega) (by omega)
          have hx2 : ¬ oddB n x = true := fun e => h3 (List.any_eq_true.2 ⟨r, hr, List.any_eq_true.2 ⟨x, hx, e⟩⟩)
          rw [ho] at hx2
          unfold V
          omega
theorem solveR_run {n budget : Int} {L : List (List Int)} (h : checkI n L = 0) (h0 : 0 ≤ budget) (hn : n ≤ 1000) (hb : budget ≤ 100000) (hL : L.length ≤ 1000) (hW : WfL L) :
    solveRun budget (3 ^ n.toNat * (n.toNat + 2) + (n.toNat + 1) + 1) n.toNat L = some (solveR budget n L) ∧ AnsOk n.toNat L budget (solveR budget n L) := by
  obtain ⟨h1, h2, h3⟩ := check_V h hW
  obtain ⟨r, h4, h5⟩ := solveRun_ok (n := n.toNat) (L := L) (budget := budget) (by omega) h0 hb hL h3 (fuel := 3 ^ n.toNat * (n.toNat + 2) + (n.toNat + 1) + 1) (by omega)
  have e : solveR budget n L = r := by
    unfold solveR
    rw [if_pos ⟨h, h0⟩, h4]
    rfl
  rw [e]
  exact ⟨h4, h5⟩
theorem solveR_bad {n budget : Int} {L : List (List Int)} (h : checkI n L ≠ 0 ∨ budget < 0) : solveR budget n L = ⟨0, [], []⟩ := by
  unfold solveR
  rw [if_neg]
  rintro ⟨h1, h2⟩
  rcases h with h | h
  · exact h h1
  · omega
theorem Solve_any (n budget : Int) (A : Option Addr) (c : Nat) (L : List (List Int)) (w : World) (hrow : RowsN w A c L) (hn : n ≤ 1000) (hb : budget ≤ 100000) (hL : L.length ≤ 1000) (hW : WfL L) :
    Calls Try.prog 9 #[.agg #[.int .i64 n, .slice A L.length c], .int .i64 budget] w (AnsOut w (solveR budget n L) (checkI n L)) := by
  by_cases h : checkI n L = 0
  · by_cases h0 : 0 ≤ budget
    · obtain ⟨h1, -⟩ := solveR_run h h0 hn hb hL hW
      obtain ⟨h2, h3, -⟩ := check_V h hW
      obtain ⟨cnt, hcnt⟩ : ∃ cnt : Nat, n.toNat = cnt := ⟨_, rfl⟩
      obtain rfl : n = (cnt : Int) := by omega
      rw [hcnt] at h1
      have := Solve_run cnt budget A c L w hrow h h0 hb (by omega) _ _ h1
      rw [h]
      exact this
    · rw [solveR_bad (.inr (by omega)), h]
      exact Solve_neg n budget A c L w hrow.C h (by omega)
  · rw [solveR_bad (.inl h)]
    exact Solve_bad n budget A c L w hrow.C h
end Go.Proofs.Ytbagcbiekpopbaa

namespace Go.Proofs.Ytbagcbiekpopbaa
open Go.RowKit Go.Shelf Go.Proofs.YtbagcbiekpopbaaW.PrintWords Go.Proofs.YtbagcbiekpopbaaW.PrintLast Go.Proofs.YtbagcbiekpopbaaW.PrintMore
set_option linter.unusedVariables false
set_option linter.unusedSimpArgs false

/-! ### Soundness -/
def Opp (T : Int → Bool) (n : Nat) : Prop := ∀ x, V n x → T (-x) = !T x
def SatT (T : Int → Bool) (L : List (List Int)) : Prop := ∀ l ∈ L, ∃ x ∈ l, T x = true
theorem UP.sound {T : Int → Bool} {n : Nat} {D : List (List Int)} {p : List Int} (hT : Opp T n) (hV : ∀ l ∈ D, ∀ x ∈ l, V n x) (hpV : ∀ x ∈ p, V n x) (hs : SatT T D) (hp : ∀ y ∈ p, T y = false) {x : Int} (h : UP D p x) : T x = true := by
  induction h with
  | @neg y h => rw [hT y (hpV y h), hp y h]; rfl
  | @unit l x hl hx hu ih =>
    obtain ⟨z, hz, hzT⟩ := hs l hl
    by_cases e : z = x
    · rw [← e]; exact hzT
    · have h1 := ih z hz e
      rw [hT z (hV l hl z hz), hzT] at h1
      cases h1
theorem RUP.sound {T : Int → Bool} {n : Nat} {D : List (List Int)} {p : List Int} (hT : Opp T n) (hV : ∀ l ∈ D, ∀ x ∈ l, V n x) (hpV : ∀ x ∈ p, V n x) (hs : SatT T D) (h : RUP D p) : ∃ y ∈ p, T y = true := by
  apply Decidable.byContradiction
  intro hn
  have hp : ∀ y ∈ p, T y = false := fun y hy => by
    cases e : T y with
    | false => rfl
    | true => exact absurd ⟨y, hy, e⟩ hn
  obtain ⟨l, hl, hu⟩ := h
  obtain ⟨z, hz, hzT⟩ := hs l hl
  have h1 := UP.sound hT hV hpV hs hp (hu z hz)
  rw [hT z (hV l hl z hz), hzT] at h1
  cases h1
theorem RUPs.sound {T : Int → Bool} {n : Nat} {Inp pf : List (List Int)} (hT : Opp T n) (hV : ∀ l ∈ Inp, ∀ x ∈ l, V n x) (hpV : ∀ l ∈ pf, ∀ x ∈ l, V n x) (hs : SatT T Inp) (h : RUPs Inp pf) : SatT T pf := by
  have key : ∀ (i : Nat) (C : List Int), pf[i]? = some C → ∃ y ∈ C, T y = true := by
    intro i
    induction i using Nat.strongRecOn with
    | _ i ih =>
      intro C hC
      have hD : ∀ l ∈ Inp ++ pf.take i, (∀ x ∈ l, V n x) ∧ ∃ x ∈ l, T x = true := fun l hl => by
        rcases List.mem_append.1 hl with h1 | h1
        · exact ⟨hV l h1, hs l h1⟩
        · refine ⟨hpV l (List.mem_of_mem_take h1), ?_⟩
          obtain ⟨j, hj⟩ := List.mem_iff_getElem?.1 h1
          rw [List.getElem?_take] at hj
          split at hj
          · exact ih j ‹_› l hj
          · cases hj
      exact RUP.sound hT (fun l hl => (hD l hl).1) (hpV C (List.mem_of_getElem? hC)) (fun l hl => (hD l hl).2) (h i C hC)
  intro l hl
  obtain ⟨i, hi⟩ := List.mem_iff_getElem?.1 hl
  exact key i l hi
theorem opp_isLit {n : Nat} (hn : n ≤ 1000) (a : List Bool) : Opp (fun x => isLit x a) n := fun x hx => by
  unfold V at hx
  exact isLit_opp a (by omega) (by omega) (by omega)
theorem trueB_iff (L : List (List Int)) (a : List Bool) : trueB L a = true ↔ SatT (fun x => isLit x a) L := by
  rw [trueB_all, List.all_eq_true]
  unfold SatT clauseB
  constructor
  · intro h l hl
    exact List.any_eq_true.1 (h l hl)
  · intro h l hl
    exact List.any_eq_true.2 (h l hl)
theorem lit_of_soV {n : Nat} (hn : n ≤ 1000) {a : List Bool} (ha : a.length = n) {x : Int} (hx : V n x) (h : soV a x) : isLit x a = true := by
  unfold V at hx
  have hv : vari x = (x.natAbs : Int) := by rw [vari_small (by omega) (by omega)]; split <;> omega
  unfold soV at h
  have hr : rdOf false a (vari x - 1) = decide (0 < x) := by
    rw [hv, show ((x.natAbs : Int) - 1) = ((x.natAbs - 1 : Nat) : Int) from by omega]
    simp [rdOf, List.getD_eq_getElem?_getD, h]
  unfold isLit
  rw [hr, hv, decide_eq_true (by omega : (0 : Int) < (x.natAbs : Int)), decide_eq_true (by omega : (x.natAbs : Int) ≤ (a.length : Int))]
  simp
/-- What the answer says. -/
def AnsLaw (n : Nat) (L : List (List Int)) (budget : Int) (r : St.Ans) : Prop :=
  (r.what = 0 ∧ r.vals = [] ∧ r.pf = [] ∧ budget < 3 ^ n) ∨
  (r.what = 1 ∧ r.vals.length = n ∧ r.pf = [] ∧ trueB L r.vals = true) ∨
  (r.what = 2 ∧ r.vals = [] ∧ (∃ q, r.pf = q ++ [[]]) ∧ RUPs L r.pf ∧ (r.pf.length : Int) ≤ budget ∧ (∀ C ∈ r.pf, C.length ≤ n ∧ ∀ x ∈ C, V n x) ∧ ∀ a, trueB L a = false)
theorem AnsOk.law {n : Nat} (hn : n ≤ 1000) {L : List (List Int)} {budget : Int} {r : St.Ans} (hV : ∀ l ∈ L, ∀ x ∈ l, V n x) (h : AnsOk n L budget r) : AnsLaw n L budget r := by
  rcases h with h | ⟨h1, h2, h3, h4⟩ | ⟨h1, h2, h3, h4, h5, h6⟩
  · exact .inl h
  · refine .inr (.inl ⟨h1, h2, h3, (trueB_iff _ _).2 fun l hl => ?_⟩)
    obtain ⟨x, hx, hs⟩ := h4 l hl
    exact ⟨x, hx, lit_of_soV hn h2 (hV l hl x hx) hs⟩
  · refine .inr (.inr ⟨h1, h2, h3, h4, h5, h6, fun a => ?_⟩)
    cases e : trueB L a with
    | false => rfl
    | true =>
      have hs := RUPs.sound (opp_isLit hn a) hV (fun l hl => (h6 l hl).2) ((trueB_iff _ _).1 e) h4
      obtain ⟨q, hq⟩ := h3
      obtain ⟨x, hx, _⟩ := hs [] (by rw [hq]; simp)
      cases hx

/-! ### Contracts -/
theorem has_any (A : Option Addr) (c : Nat) (l : List Int) (x : Int) (w : World) (hC : Kd.C kI w A l.length l) (hc : l.length ≤ c) (hl : l.length ≤ 1000000000000) :
    Calls Try.prog 43 #[.slice A l.length c, .int .i64 x] w fun e w' => e = .returned (.bool (decide (x ∈ l))) ∧ Below w.heap.size w w' :=
  (whetstoneref15_has.calls (l.length + 1) A c l x _ w hC hc (Has_f l x hl _ (Nat.le_refl _))).mono fun _ _ ⟨h1, h2⟩ => ⟨h1, drawn_below h2⟩
theorem odd_any {n : Nat} (hn : n ≤ 1000000) (x : Int) (hx : V n x) (w : World) :
    Calls Try.prog 42 #[.int .i64 x] w fun e w' => e = .returned (.bool false) ∧ Below w.heap.size w w' :=
  (whetstoneref15_odd.calls x _ w (odd_f hn hx)).mono fun _ _ ⟨h1, h2⟩ => ⟨h1, drawn_below h2⟩
theorem rest_any {n : Nat} (hn : n ≤ 1000000) (A0 : Option Addr) (c0 : Nat) (l : List Int) (A1 : Option Addr) (c1 : Nat) (hs : List Int) (w : World) (hC0 : Kd.C kI w A0 l.length l) (hc0 : l.length ≤ c0) (hC1 : Kd.C kI w A1 hs.length hs) (hc1 : hs.length ≤ c1)
    (hV : ∀ x ∈ l, V n x) (hl : l.length ≤ 1000000) (hh : hs.length ≤ 1000000000000) :
    Calls Try.prog 44 #[.slice A0 l.length c0, .slice A1 hs.length c1] w fun e w' => ∃ A c, e = .returned (.slice A (restI l hs).length c) ∧ Kd.C kI w' A (restI l hs).length (restI l hs) ∧ (restI l hs).length ≤ c ∧ Below w.heap.size w w' := by
  refine (whetstoneref15_rest.calls (l.length + l.length + hs.length + 2) A0 c0 l A1 c1 hs _ w hC0 hc0 hC1 hc1 (Rest_f hn l hs hV hl hh)).mono ?_
  rintro e w' ⟨v, rfl, hR, hb⟩
  obtain ⟨A, c, rfl, h1, h2⟩ := own_ints (Kd.own_of_R hR) rfl
  exact ⟨A, c, rfl, h2, h1, hb⟩
theorem Enough_any (n : Nat) (hn : n ≤ 10) (A : Option Addr) (c : Nat) (L : List (List Int)) (w : World) (hC : Kd.C kII w A L.length L) (hc : L.length ≤ c) :
    Calls Try.prog 10 #[.agg #[.int .i64 (n : Int), .slice A L.length c]] w fun e w' => e = .returned (.int .i64 ((3 ^ n : Nat) : Int)) ∧ Below w.heap.size w w' :=
  whetstoneref15_Enough.calls (n + 1) (n : Int) A c L _ w hC hc (Enough_f n L hn)
theorem Any_any (n : Nat) (hn : n ≤ 10) (A : Option Addr) (c : Nat) (L : List (List Int)) (w : World) (hC : Kd.C kII w A L.length L) (hc : L.length ≤ c) (hM : ∀ r ∈ L, r.length ≤ 12) (hW : WfL L) (hl2 : L.length ≤ 1000) (hno : ∀ a : List Bool, trueB L a = false) :
    Calls Try.prog 15 #[.agg #[.int .i64 (n : Int), .slice A L.length c]] w fun e w' => e = .returned (.bool false) ∧ Below w.heap.size w w' :=
  whetstoneref15_Any.calls (n + 3100) (n : Int) A c L _ w hC hc (Any_f n hn L hM hW hl2 hno)
end Go.Proofs.Ytbagcbiekpopbaa

namespace Go.Proofs.Ytbagcbiekpopbaa
open Go.RowKit Go.Shelf Go.Proofs.YtbagcbiekpopbaaW.PrintWords Go.Proofs.YtbagcbiekpopbaaW.PrintLast Go.Proofs.YtbagcbiekpopbaaW.PrintMore
set_option linter.unusedVariables false
set_option linter.unusedSimpArgs false

theorem passF_cons (l : List Int) (ls : List (List Int)) (m : List Int) : passF (l :: ls) m = if restI l m = [] then none else if (restI l m).length = 1 ∧ (restI l m).getD 0 0 ∉ m then passF ls (m ++ [(restI l m).getD 0 0]) else passF ls m := rfl
theorem initF_cons (x : Int) (p h : List Int) : initF (x :: p) h = if x ∈ h then none else initF p (h ++ [-x]) := rfl

set_option maxHeartbeats 8000000 in
set_option maxRecDepth 100000 in
theorem Follows_any {n : Nat} (hn : n ≤ 1000000) (fuel : Nat) (L : List (List Int)) (p : List Int) (r : Bool) (A0 : Option Addr) (c0 : Nat) (A1 : Option Addr) (c1 : Nat) (w : World) (hC0 : Kd.C kII w A0 L.length L) (hc0 : L.length ≤ c0) (hC1 : Kd.C kI w A1 p.length p) (hc1 : p.length ≤ c1)
    (hVL : ∀ l ∈ L, ∀ x ∈ l, V n x) (hVp : ∀ x ∈ p, V n x) (hLl : ∀ l ∈ L, l.length ≤ 1000000) (hcap : p.length + fuel * L.length ≤ 100000000000) (h : followsI fuel L p = some r) :
    Calls Try.prog 25 #[.slice A0 L.length c0, .slice A1 p.length c1] w fun e w' => e = .returned (.bool r) ∧ Below w.heap.size w w' := by
  obtain ⟨LL, hLL⟩ : ∃ LL, L.length = LL := ⟨_, rfl⟩
  obtain ⟨m, hm⟩ : ∃ m, p.length = m := ⟨_, rfl⟩
  have hm9 : m ≤ 100000000000 := by omega
  have hL9 : LL ≤ 9223372036854775807 := by rw [← hLL]; exact C_max hC0
  have HH := Aside0.mk (And.intro hC0 (And.intro hC1 (And.intro hLL (And.intro hm (And.intro hVL (And.intro hVp (And.intro hLl (And.intro h hcap))))))))
  rw [hLL] at hc0 ⊢
  rw [hm] at hc1 ⊢
  clear hC0 hC1 hLL hm hVL hVp hLl h hcap
  go_enter Try.func25, Try.ntmps25
  go_wp2
  go_loopg [4, 5, 6] m (fun gg s4 s5 s6 wr => ∃ (i : Nat) (hs : List Int), i + gg = m ∧ s6 = .int .i64 (i : Int) ∧ Aside0 (Below w.heap.size w wr ∧ wr.ownsRow w.heap.size 3 1 s5 hs.length (nums .i64 hs) ∧ hs.length = i ∧ initF (p.drop i) hs = initF p []))
  case atStart => exact ⟨0, [], by omega, rfl, ⟨bel_alloc w _, own_empty w _, rfl, rfl⟩⟩
  case round =>
    obtain ⟨i, hs, hig, rfl, HI⟩ := hrel
    match gk, hig with
    | 0, hig =>
      have hlt : decide ((i : Int) < (m : Int)) = false := by simp; omega
      have hlt2 : decide (i < m) = false := by simp; omega
      have HI2 : Aside0 (Below w.heap.size w wr ∧ wr.ownsRow w.heap.size 3 1 u5 hs.length (nums .i64 hs) ∧ follow L fuel hs = some r ∧ hs.length + fuel * LL ≤ 100000000000) := ⟨by
        obtain ⟨h1, h2, h3, h4⟩ := HI.out
        obtain ⟨-, -, e1, e2, -, -, -, e3, e4⟩ := HH.out
        refine ⟨h1, h2, ?_, by rw [e1] at e4; omega⟩
        rw [List.drop_of_length_le (by omega)] at h4
        unfold followsI at e3
        rw [← h4] at e3
        exact e3⟩
      clear HI
      go_wp2
      go_loopg [4, 5, 7, 8, 9] fuel (fun gg s4 s5 s7 s8 s9 wr => ∃ H : List Int, gg ≤ fuel ∧ Aside0 (Below w.heap.size w wr ∧ wr.ownsRow w.heap.size 3 1 s5 H.length (nums .i64 H) ∧ follow L gg H = some r ∧ H.length + gg * LL ≤ 100000000000))
      case atStart => exact ⟨hs, Nat.le_refl _, HI2⟩
      case round =>
        obtain ⟨H, hgf, HO⟩ := hrel
        clear HI2
        cases gk with
        | zero => have h0 := HO.out.2.2.1; exact absurd h0 (by unfold follow; simp)
        | succ g' =>
          obtain ⟨A5, c5, rfl, hc5, hC5⟩ := own_ints HO.out.2.1 rfl
          obtain ⟨hl, hhl⟩ : ∃ hl, H.length = hl := ⟨_, rfl⟩
          have HHL : Aside0 (H.length = hl ∧ hl + (g' + 1) * LL ≤ 100000000000) := ⟨hhl, by rw [← hhl]; exact HO.out.2.2.2⟩
          have hcap2 : hl + LL + g' * LL ≤ 100000000000 := by have := HHL.out.2; rw [Nat.succ_mul] at this; omega
          have HFo := Aside0.mk HO.out.2.2.1
          rw [hhl]
          clear hC5 hc5 hhl
          go_wp2
          go_loopg [4, 7, 8, 9] LL (fun gg s4 s7 s8 s9 wi => ∃ (i : Nat) (M : List Int), i + gg = LL ∧ s8 = .int .i64 (i : Int) ∧ Aside0 (Below w.heap.size w wi ∧ wi.ownsRow w.heap.size 3 1 s7 M.length (nums .i64 M) ∧ passF (L.drop i) M = passF L H ∧ M.length ≤ hl + i))
          case atStart => exact ⟨0, H, by omega, rfl, ⟨HO.out.1, by have := HO.out.2.1; rw [HHL.out.1] at this ⊢; exact this, rfl, by rw [HHL.out.1]; omega⟩⟩
          case round =>
            obtain ⟨i, M, hig, rfl, HI⟩ := hrel
            clear HO
            obtain ⟨A7, c7, rfl, hc7, hC7⟩ := own_ints HI.out.2.1 rfl
            match gk, hig with
            | 0, hig =>
              have hlt : decide ((i : Int) < (LL : Int)) = false := by simp; omega
              have hlt2 : decide (i < LL) = false := by simp; omega
              have hps : passF L H = some M := by
                have := HI.out.2.2.1
                rw [List.drop_of_length_le (by rw [HH.out.2.2.1]; omega)] at this
                exact this.symm
              have hfo := HFo.out
              unfold follow at hfo
              rw [hps] at hfo
              simp only [HHL.out.1] at hfo
              have HI2 := Aside0.mk (And.intro HI.out.1 (And.intro HI.out.2.1 HI.out.2.2.2))
              obtain ⟨ml, hml⟩ : ∃ ml, M.length = ml := ⟨_, rfl⟩
              have HML := Aside0.mk hml
              rw [hml] at hfo ⊢
              clear hC7 hps HI hml hc7
              by_cases he : ml = hl
              · subst he
                rw [if_pos rfl] at hfo
                obtain rfl := Option.some.inj hfo
                clear hfo
                go_wp2
                go_ret
                exact ⟨rfl, HI2.out.1⟩
              · rw [if_neg he] at hfo
                have he2 : ((ml : Int) == (hl : Int)) = false := by simp; omega
                have HN : Aside0 (Below w.heap.size w wr ∧ wr.ownsRow w.heap.size 3 1 (.slice A7 ml c7) M.length (nums .i64 M) ∧ follow L g' M = some r ∧ M.length + g' * LL ≤ 100000000000) := ⟨by
                  have h1 := HI2.out.2.1
                  rw [HML.out] at h1
                  refine ⟨HI2.out.1, by rw [HML.out]; exact h1, hfo, ?_⟩
                  have := HI2.out.2.2
                  omega⟩
                clear hfo he
                go_wp2
                go_roundg g'
                case measure => omega
                case rel => exact ⟨M, by omega, HN⟩
            | gi + 1, hig =>
              have hlt : decide ((i : Int) < (LL : Int)) = true := by simp; omega
              have hlt2 : decide (i < LL) = true := by simp; omega
              have hlt3 : (i : Int) < (LL : Int) := by omega
              obtain ⟨b, off, rfl, hbl, hrow⟩ := C_rows HH.out.1 (by rw [HH.out.2.2.1]; omega)
              obtain ⟨Ar, cr, hcell, hcr, hCr⟩ := hrow i (by rw [HH.out.2.2.1]; omega)
              have hLi : L[i]? = some L[i]! := getBang (by rw [HH.out.2.2.1]; omega)
              obtain ⟨l, hl0⟩ : ∃ l, L[i]! = l := ⟨_, rfl⟩
              rw [hl0] at hcell hcr hCr hLi
              have hmem := List.mem_of_getElem? hLi
              have hdrop : L.drop i = l :: L.drop (i + 1) := by
                obtain ⟨q1, q2⟩ := List.getElem?_eq_some_iff.1 hLi
                rw [List.drop_eq_getElem_cons q1, q2]
              have hcw : wr.cell? ⟨b, off + i, none⟩ = some (.slice Ar l.length cr) := (HI.out.1.cell (World.block_lt_of_cell? w _ hcell)).trans hcell
              have HRs := rest_any hn Ar cr l A7 c7 M wr (Kd.C_below hCr HI.out.1) hcr hC7 hc7 (HH.out.2.2.2.2.1 l hmem) (HH.out.2.2.2.2.2.2.1 l hmem) (by have := HI.out.2.2.2; omega)
              have hps := HI.out.2.2.1
              rw [hdrop, passF_cons] at hps
              obtain ⟨R, hR⟩ : ∃ R, restI l M = R := ⟨_, rfl⟩
              rw [hR] at HRs hps
              have HP := Aside0.mk (And.intro hps (And.intro hC7 hc7))
              have HB := Aside0.mk HI.out.1
              have HOw := Aside0.mk (And.intro HI.out.2.1 HI.out.2.2.2)
              obtain ⟨rl, hrl⟩ : ∃ rl, R.length = rl := ⟨_, rfl⟩
              have HRL := Aside0.mk hrl
              obtain ⟨ml, hml⟩ : ∃ ml, M.length = ml := ⟨_, rfl⟩
              have HML := Aside0.mk hml
              obtain ⟨l1, hl1⟩ : ∃ l1, l.length = l1 := ⟨_, rfl⟩
              rw [hrl, hml, hl1] at HRs
              rw [hl1] at hcw
              rw [hml]
              clear hC7 hc7 hrow hcell hcr hCr hLi hl0 hmem hdrop hps hR HI hrl hml hl1
              by_cases hr0 : rl = 0
              · subst hr0
                have hrt : r = true := by
                  have h1 := HP.out.1
                  rw [if_pos (List.eq_nil_of_length_eq_zero HRL.out)] at h1
                  have h2 := HFo.out
                  unfold follow at h2
                  rw [← h1] at h2
                  exact (Option.some.inj h2).symm
                subst hrt
                go_wp2_with (go_at_call 44; refine HRs.mono ?_; rintro e w2 ⟨A9, c9, rfl, hC9, hc9, hb9⟩; have HB9 := Aside0.mk (below_then HB.out HB.out.size hb9); clear hC9 hc9 hb9)
                go_ret
                exact ⟨rfl, HB9.out⟩
              · have hr0' : ((rl : Int) == 0) = false := by simp; omega
                have hRne : R ≠ [] := fun e => hr0 (by rw [← HRL.out, e]; rfl)
                have HPs : Aside0 ((if R.length = 1 ∧ R.getD 0 0 ∉ M then passF (L.drop (i + 1)) (M ++ [R.getD 0 0]) else passF (L.drop (i + 1)) M) = passF L H) := ⟨by have h1 := HP.out.1; rw [if_neg hRne] at h1; exact h1⟩
                clear hRne
                by_cases hr1 : rl = 1
                · subst hr1
                  obtain ⟨y, hy⟩ : ∃ y, R.getD 0 0 = y := ⟨_, rfl⟩
                  have hy2 : R[0]! = y := by
                    have := HRL.out
                    match R, this with
                    | [z], _ => exact hy
                  have HHs := Aside0.mk (fun (W : World) (hb : Below wr.heap.size wr W) => (by have := has_any A7 c7 M y W (Kd.C_below HP.out.2.1 hb) HP.out.2.2 (by have := HOw.out.2; omega); rw [HML.out] at this; exact this : Calls Try.prog 43 #[.slice A7 ml c7, .int .i64 y] W fun e w' => e = .returned (.bool (decide (y ∈ M))) ∧ Below W.heap.size W w'))
                  by_cases hym : y ∈ M
                  · have hd : decide (y ∈ M) = true := decide_eq_true hym
                    have HPn : Aside0 (passF (L.drop (i + 1)) M = passF L H) := ⟨by have h1 := HPs.out; rw [if_neg (by rw [hy]; exact fun e => e.2 hym)] at h1; exact h1⟩
                    go_wp2_with (first
                      | (go_at_call 44; refine HRs.mono ?_; rintro e w2 ⟨A9, c9, rfl, hC9, hc9, hb9⟩; obtain ⟨g9, off9, rfl, hcl9⟩ := C_ints (xs := R) (by rw [HRL.out]; exact hC9) (by rw [HRL.out]; omega); have hc90 : w2.cell? ⟨g9, off9, none⟩ = some (.int .i64 y) := (by have := hcl9 0 (by rw [HRL.out]; omega); rw [hy2] at this; simpa using this); have HHs2 := HHs.out w2 hb9; have HB9 := Aside0.mk hb9; clear hC9 hb9 hcl9)
                      | (go_at_call 43; refine HHs2.mono ?_; rintro e w3 ⟨rfl, hb3⟩; have HB3 := Aside0.mk (below_then HB9.out HB9.out.size hb3); clear hb3))
                    have HN : Aside0 (Below w.heap.size w w3 ∧ w3.ownsRow w.heap.size 3 1 (.slice A7 ml c7) M.length (nums .i64 M) ∧ passF (L.drop (i + 1)) M = passF L H ∧ M.length ≤ hl + (i + 1)) := ⟨by
                      have h1 := HOw.out.1
                      rw [HML.out] at h1
                      refine ⟨below_then HB.out HB.out.size HB3.out, by rw [HML.out]; exact pw_own_below h1 HB3.out, HPn.out, ?_⟩
                      have := HOw.out.2
                      omega⟩
                    go_roundg gi
                    case measure => omega
                    case rel => exact ⟨i + 1, M, by omega, by go_num, HN⟩
                  · have hd : decide (y ∈ M) = false := decide_eq_false hym
                    have HPn : Aside0 (passF (L.drop (i + 1)) (M ++ [y]) = passF L H) := ⟨by have h1 := HPs.out; rw [if_pos ⟨HRL.out, by rw [hy]; exact hym⟩, hy] at h1; exact h1⟩
                    go_wp2_with (first
                      | (go_at_call 44; refine HRs.mono ?_; rintro e w2 ⟨A9, c9, rfl, hC9, hc9, hb9⟩; obtain ⟨g9, off9, rfl, hcl9⟩ := C_ints (xs := R) (by rw [HRL.out]; exact hC9) (by rw [HRL.out]; omega); have hc90 : w2.cell? ⟨g9, off9, none⟩ = some (.int .i64 y) := (by have := hcl9 0 (by rw [HRL.out]; omega); rw [hy2] at this; simpa using this); have HHs2 := HHs.out w2 hb9; have HB9 := Aside0.mk hb9; clear hC9 hb9 hcl9)
                      | (go_at_call 43; refine HHs2.mono ?_; rintro e w3 ⟨rfl, hb3⟩; have hc93 := (hb3.cell (World.block_lt_of_cell? w2 _ hc90)).trans hc90; have HB3 := Aside0.mk (below_then HB9.out HB9.out.size hb3); clear hb3)
                      | (at_builtin; refine print_append_num (w0 := w) w.heap.size rfl (.tmp 64) (.tmp 68) 37 3 .i64 8 rfl Try.underlying37 infoI (by decide) (.slice A7 ml c7) M y rfl rfl ?aO ?aB ?aS ?aL ?_))
                    case aO => have h1 := HOw.out.1; rw [HML.out] at h1 ⊢; exact pw_own_below h1 HB3.out
                    case aB => exact below_then HB.out HB.out.size HB3.out
                    case aS => exact Nat.le_trans HB.out.size HB3.out.size
                    case aL => have := HOw.out.2; omega
                    intro v1 w4 hown hb4 hg4 hat4
                    have HN : Aside0 (Below w.heap.size w w4 ∧ w4.ownsRow w.heap.size 3 1 v1 (M ++ [y]).length (nums .i64 (M ++ [y])) ∧ passF (L.drop (i + 1)) (M ++ [y]) = passF L H ∧ (M ++ [y]).length ≤ hl + (i + 1)) := ⟨hb4, by rw [List.length_append]; exact hown, HPn.out, by have := HOw.out.2; simp; omega⟩
                    clear hown hb4 hg4 hat4
                    go_wp2
                    go_roundg gi
                    case measure => omega
                    case rel => exact ⟨i + 1, M ++ [y], by omega, by go_num, HN⟩
                · have hr1' : ((rl : Int) == 1) = false := by simp; omega
                  have HPn : Aside0 (passF (L.drop (i + 1)) M = passF L H) := ⟨by have h1 := HPs.out; rw [if_neg (by rw [HRL.out]; exact fun e => hr1 e.1)] at h1; exact h1⟩
                  go_wp2_with (go_at_call 44; refine HRs.mono ?_; rintro e w2 ⟨A9, c9, rfl, hC9, hc9, hb9⟩; have HB3 := Aside0.mk hb9; clear hC9 hb9)
                  have HN : Aside0 (Below w.heap.size w w2 ∧ w2.ownsRow w.heap.size 3 1 (.slice A7 ml c7) M.length (nums .i64 M) ∧ passF (L.drop (i + 1)) M = passF L H ∧ M.length ≤ hl + (i + 1)) := ⟨by
                    have h1 := HOw.out.1
                    rw [HML.out] at h1
                    refine ⟨below_then HB.out HB.out.size HB3.out, by rw [HML.out]; exact pw_own_below h1 HB3.out, HPn.out, ?_⟩
                    have := HOw.out.2
                    omega⟩
                  go_roundg gi
                  case measure => omega
                  case rel => exact ⟨i + 1, M, by omega, by go_num, HN⟩
    | g' + 1, hig =>
      have hlt : decide ((i : Int) < (m : Int)) = true := by simp; omega
      have hlt2 : decide (i < m) = true := by simp; omega
      have hlt3 : (i : Int) < (m : Int) := by omega
      obtain ⟨b, off, rfl, hcl⟩ := C_ints HH.out.2.1 (by rw [HH.out.2.2.2.1]; omega)
      have hx0 := hcl i (by rw [HH.out.2.2.2.1]; omega)
      have hpi : p[i]? = some p[i]! := getBang (by rw [HH.out.2.2.2.1]; omega)
      obtain ⟨x, hx⟩ : ∃ x, p[i]! = x := ⟨_, rfl⟩
      rw [hx] at hx0 hpi
      have hcx : wr.cell? ⟨b, off + i, none⟩ = some (.int .i64 x) := (HI.out.1.cell (World.block_lt_of_cell? w _ hx0)).trans hx0
      have hdrop : p.drop i = x :: p.drop (i + 1) := by
        obtain ⟨q1, q2⟩ := List.getElem?_eq_some_iff.1 hpi
        rw [List.drop_eq_getElem_cons q1, q2]
      have hxV : V n x := HH.out.2.2.2.2.2.1 x (List.mem_of_getElem? hpi)
      have hwx : wrap64 (-x) = -x := by unfold V at hxV; unfold wrap64; omega
      obtain ⟨A5, c5, rfl, hc5, hC5⟩ := own_ints HI.out.2.1 rfl
      have hin := HI.out.2.2.2
      rw [hdrop, initF_cons] at hin
      have HIn := Aside0.mk hin
      have HOd := odd_any hn x hxV wr
      have HHs := Aside0.mk (fun (W : World) (hb : Below wr.heap.size wr W) => has_any A5 c5 hs x W (Kd.C_below hC5 hb) hc5 (by have := HI.out.2.2.1; omega))
      have HCx := Aside0.mk (fun (W : World) (hb : Below wr.heap.size wr W) => (hb.cell (World.block_lt_of_cell? wr _ hcx)).trans hcx)
      have HX := Aside0.mk hxV
      clear hin hdrop hpi hx hx0 hcl hC5 hc5 hxV
      by_cases hxh : x ∈ hs
      · have hd : decide (x ∈ hs) = true := decide_eq_true hxh
        have hrt : r = true := by
          have h1 := HIn.out
          rw [if_pos hxh] at h1
          have h2 := HH.out.2.2.2.2.2.2.2.1
          unfold followsI at h2
          rw [← h1] at h2
          exact (Option.some.inj h2).symm
        subst hrt
        go_wp2_with (first
          | (go_at_call 42; refine HOd.mono ?_; rintro e w2 ⟨rfl, hb2⟩; have hcx2 := HCx.out w2 hb2; have HHs2 := HHs.out w2 hb2; have HB2 := Aside0.mk hb2; clear hb2)
          | (go_at_call 43; refine HHs2.mono ?_; rintro e w3 ⟨rfl, hb3⟩; have HB3 := Aside0.mk (below_then HI.out.1 HI.out.1.size (below_then HB2.out HB2.out.size hb3)); clear hb3))
        go_ret
        exact ⟨rfl, HB3.out⟩
      · have hd : decide (x ∈ hs) = false := decide_eq_false hxh
        go_wp2_with (first
          | (go_at_call 42; refine HOd.mono ?_; rintro e w2 ⟨rfl, hb2⟩; have hcx2 := HCx.out w2 hb2; have HHs2 := HHs.out w2 hb2; have HB2 := Aside0.mk hb2; clear hb2)
          | (go_at_call 43; refine HHs2.mono ?_; rintro e w3 ⟨rfl, hb3⟩; have hcx3 := HCx.out w3 (below_then HB2.out HB2.out.size hb3); have HB3 := Aside0.mk (below_then HB2.out HB2.out.size hb3); clear hb3)
          | (at_builtin; refine print_append_num (w0 := w) w.heap.size rfl (.tmp 29) (.tmp 35) 37 3 .i64 8 rfl Try.underlying37 infoI (by decide) (.slice A5 hs.length c5) hs (-x) rfl rfl ?aO ?aB ?aS ?aL ?_))
        case aO => exact pw_own_below HI.out.2.1 HB3.out
        case aB => exact below_then HI.out.1 HI.out.1.size HB3.out
        case aS => exact Nat.le_trans HI.out.1.size HB3.out.size
        case aL => have := HI.out.2.2.1; omega
        intro v1 w4 hown hb4 hg4 hat4
        have HN : Aside0 (Below w.heap.size w w4 ∧ w4.ownsRow w.heap.size 3 1 v1 (hs ++ [-x]).length (nums .i64 (hs ++ [-x])) ∧ (hs ++ [-x]).length = i + 1 ∧ initF (p.drop (i + 1)) (hs ++ [-x]) = initF p []) := ⟨hb4, by rw [List.length_append]; exact hown, by have := HI.out.2.2.1; simp; omega, by have h1 := HIn.out; rw [if_neg hxh] at h1; exact h1⟩
        clear hown hb4 hg4 hat4
        go_wp2
        go_roundg g'
        case measure => omega
        case rel => exact ⟨i + 1, hs ++ [-x], by omega, by go_num, HN⟩
end Go.Proofs.Ytbagcbiekpopbaa

namespace Go.Proofs.Ytbagcbiekpopbaa
open Go.RowKit Go.Shelf Go.Proofs.YtbagcbiekpopbaaW.PrintWords Go.Proofs.YtbagcbiekpopbaaW.PrintLast Go.Proofs.YtbagcbiekpopbaaW.PrintMore
set_option linter.unusedVariables false
set_option linter.unusedSimpArgs false

/-- Headers of rows that lie in a world. -/
structure RowsV (w : World) (vs : List Value) (L : List (List Int)) : Prop where
  len : vs.length = L.length
  read : ∀ (j : Nat) y r, vs[j]? = some y → L[j]? = some r → ∃ A c, y = .slice A r.length c ∧ r.length ≤ c ∧ Kd.C kI w A r.length r
theorem RowsV.snoc {w : World} {vs : List Value} {L : List (List Int)} (h : RowsV w vs L) {A : Option Addr} {c : Nat} {r : List Int} (hc : r.length ≤ c) (hC : Kd.C kI w A r.length r) : RowsV w (vs ++ [.slice A r.length c]) (L ++ [r]) := by
  refine ⟨by simp [h.len], fun j y r' hy hr => ?_⟩
  rcases getElem?_snoc hr with h1 | ⟨h1, rfl⟩
  · have := lt_of_getElem? h1
    rw [List.getElem?_append_left (by rw [h.len]; exact this)] at hy
    exact h.read j y r' hy h1
  · subst h1
    rw [← h.len] at hy
    simp at hy
    subst hy
    exact ⟨A, c, rfl, hc, hC⟩
theorem RowsV.one {w : World} {vs : List Value} {L : List (List Int)} (h : RowsV w vs L) : ∀ u ∈ vs, u.oneCell' = true := fun u hu => by
  obtain ⟨j, hj⟩ := List.mem_iff_getElem?.1 hu
  have hl := lt_of_getElem? hj
  obtain ⟨A, c, rfl, -⟩ := h.read j u _ hj (List.getElem?_eq_getElem (by rw [← h.len]; exact hl))
  rfl
theorem RowsV.C {w W : World} {B : Nat} {v : Value} {vs : List Value} {L : List (List Int)} (h : RowsV w vs L) (hb : Below w.heap.size w W) (ho : W.ownsRow B 37 1 v vs.length vs) : ∃ A c, v = .slice A L.length c ∧ L.length ≤ c ∧ Kd.C kII W A L.length L := by
  rcases ho.2 with ⟨rfl, h0⟩ | ⟨g, cap, cur, rfl, _, _, h4, h5, _⟩
  · have : L = [] := List.eq_nil_of_length_eq_zero (by rw [← h.len]; exact h0)
    subst this
    exact ⟨none, 0, rfl, Nat.le_refl _, Kd.C_nil _ _⟩
  · rw [h.len] at h4
    refine ⟨some ⟨g, 0, none⟩, cap, by rw [h.len], h4, CII_of_cells (by unfold maxLen at h5; omega) (fun j r hj => ?_)⟩
    have hjl := lt_of_getElem? hj
    obtain ⟨y, hy⟩ : ∃ y, vs[j]? = some y := ⟨_, List.getElem?_eq_getElem (by rw [h.len]; exact hjl)⟩
    obtain ⟨A, c, rfl, hc, hC⟩ := h.read j y r hy hj
    have := ho.cells (g := g) rfl j _ hy
    rw [add_plain] at this
    exact ⟨A, c, by simpa using this, hc, Kd.C_below hC hb⟩
def boxW (w : World) (n0 : Int) (A0 : Option Addr) (LL c0 : Nat) : World := w.alloc (.cells #[.int .i64 n0, .slice A0 LL c0] 24)
theorem boxW_below (w : World) (n0 : Int) (A0 : Option Addr) (LL c0 : Nat) : Below w.heap.size w (boxW w n0 A0 LL c0) := bel_alloc _ _
theorem boxW_cell (w : World) (n0 : Int) (A0 : Option Addr) (LL c0 : Nat) : (boxW w n0 A0 LL c0).cell? ⟨w.heap.size, 1, none⟩ = some (.slice A0 LL c0) := cell_new w _ _ 1

theorem boxW_empty (w : World) (n0 : Int) (A0 : Option Addr) (LL c0 : Nat) : ((boxW w n0 A0 LL c0).alloc (.cells #[] 37)).ownsRow (boxW w n0 A0 LL c0).heap.size 37 1 (.slice (some ⟨w.heap.size + 1, 0, none⟩) 0 0) 0 [] := by
  have h1 := own_empty (boxW w n0 A0 LL c0) 37
  have e : (boxW w n0 A0 LL c0).heap.size = w.heap.size + 1 := by simp [boxW]
  rw [e] at h1 ⊢
  exact h1

set_option maxHeartbeats 8000000 in
set_option maxRecDepth 100000 in
theorem PCheck_any {n : Nat} (hn : n ≤ 1000000) (fuel : Nat) (n0 : Int) (L pf : List (List Int)) (A0 : Option Addr) (c0 : Nat) (A1 : Option Addr) (c1 : Nat) (w : World) (hC0 : Kd.C kII w A0 L.length L) (hc0 : L.length ≤ c0) (hC1 : Kd.C kII w A1 pf.length pf) (hc1 : pf.length ≤ c1)
    (hVL : ∀ l ∈ L, l.length ≤ 1000000 ∧ ∀ x ∈ l, V n x) (hVp : ∀ l ∈ pf, l.length ≤ 1000000 ∧ ∀ x ∈ l, V n x) (hcap : 1000000 + fuel * (L.length + pf.length) ≤ 100000000000) (hsz : L.length + pf.length ≤ 100000000000) (h : ∀ (i : Nat) C, pf[i]? = some C → followsI fuel (L ++ pf.take i) C = some true) :
    Calls Try.prog 14 #[.agg #[.int .i64 n0, .slice A0 L.length c0], .slice A1 pf.length c1] w fun e w' => e = .returned (.tuple #[.int .i64 (pf.length : Int), .bool (pf.any List.isEmpty)]) ∧ Below w.heap.size w w' := by
  obtain ⟨LL, hLL⟩ : ∃ LL, L.length = LL := ⟨_, rfl⟩
  obtain ⟨m, hm⟩ : ∃ m, pf.length = m := ⟨_, rfl⟩
  have hsz2 : LL + m ≤ 100000000000 := by omega
  have HH := Aside0.mk (And.intro hC0 (And.intro hC1 (And.intro hLL (And.intro hm (And.intro hVL (And.intro hVp (And.intro h hcap)))))))
  rw [hLL] at hc0 ⊢
  rw [hm] at hc1 ⊢
  clear hC0 hC1 hLL hm hVL hVp h hcap hsz
  go_enter Try.func14, Try.ntmps14
  go_wp2
  go_loopg [6, 8] LL (fun gg s6 s8 wr => ∃ (i : Nat) (vs : List Value), i + gg = LL ∧ s8 = .int .i64 (i : Int) ∧ Aside0 (Below (boxW w n0 A0 LL c0).heap.size (boxW w n0 A0 LL c0) wr ∧ wr.ownsRow (boxW w n0 A0 LL c0).heap.size 37 1 s6 vs.length vs ∧ RowsV w vs (L.take i)))
  case atStart => exact ⟨0, [], by omega, rfl, ⟨bel_alloc (boxW w n0 A0 LL c0) _, boxW_empty w n0 A0 LL c0, ⟨rfl, fun j y r hy => by simp at hy⟩⟩⟩
  case round =>
    obtain ⟨i, vs, hig, rfl, HI⟩ := hrel
    have hbox : wr.cell? ⟨w.heap.size, 1, none⟩ = some (.slice A0 LL c0) := (HI.out.1.cell (World.block_lt_of_cell? _ _ (boxW_cell w n0 A0 LL c0))).trans (boxW_cell w n0 A0 LL c0)
    have HBw : Aside0 (Below w.heap.size w wr) := ⟨below_then (boxW_below w n0 A0 LL c0) (boxW_below w n0 A0 LL c0).size HI.out.1⟩
    match gk, hig with
    | 0, hig =>
      have hlt : decide ((i : Int) < (LL : Int)) = false := by simp; omega
      have hlt2 : decide (i < LL) = false := by simp; omega
      have HI2 : Aside0 (Below (boxW w n0 A0 LL c0).heap.size (boxW w n0 A0 LL c0) wr ∧ wr.ownsRow (boxW w n0 A0 LL c0).heap.size 37 1 u6 vs.length vs ∧ RowsV w vs (L ++ pf.take 0)) := ⟨by
        obtain ⟨h1, h2, h3⟩ := HI.out
        rw [List.take_of_length_le (by rw [HH.out.2.2.1]; omega)] at h3
        exact ⟨h1, h2, by simpa using h3⟩⟩
      clear HI
      go_wp2
      clear hbox
      go_loopg [4, 5, 6, 7, 9] m (fun gg s4 s5 s6 s7 s9 wi => ∃ (i : Nat) (vs : List Value), i + gg = m ∧ s9 = .int .i64 (i : Int) ∧ s7 = .bool ((pf.take i).any List.isEmpty) ∧ Aside0 (Below (boxW w n0 A0 LL c0).heap.size (boxW w n0 A0 LL c0) wi ∧ wi.ownsRow (boxW w n0 A0 LL c0).heap.size 37 1 s6 vs.length vs ∧ RowsV w vs (L ++ pf.take i)))
      case atStart => exact ⟨0, vs, by omega, rfl, by simp, HI2⟩
      case round =>
        obtain ⟨i, vs, hig, rfl, rfl, HI⟩ := hrel
        clear HI2 HBw
        have HBw : Aside0 (Below w.heap.size w wr) := ⟨below_then (boxW_below w n0 A0 LL c0) (boxW_below w n0 A0 LL c0).size HI.out.1⟩
        match gk, hig with
        | 0, hig =>
          have hlt : decide ((i : Int) < (m : Int)) = false := by simp; omega
          have hlt2 : decide (i < m) = false := by simp; omega
          have hall : (pf.take i).any List.isEmpty = pf.any List.isEmpty := by rw [List.take_of_length_le (by rw [HH.out.2.2.2.1]; omega)]
          rw [hall]
          clear hall
          go_wp2
          go_ret2
          exact ⟨rfl, HBw.out⟩
        | g' + 1, hig =>
          have hlt : decide ((i : Int) < (m : Int)) = true := by simp; omega
          have hlt2 : decide (i < m) = true := by simp; omega
          have hlt3 : (i : Int) < (m : Int) := by omega
          obtain ⟨b, off, rfl, hbl, hrow⟩ := C_rows HH.out.2.1 (by rw [HH.out.2.2.2.1]; omega)
          obtain ⟨Ar, cr, hcell, hcr, hCr⟩ := hrow i (by rw [HH.out.2.2.2.1]; omega)
          have hpi : pf[i]? = some pf[i]! := getBang (by rw [HH.out.2.2.2.1]; omega)
          obtain ⟨C, hC0⟩ : ∃ C, pf[i]! = C := ⟨_, rfl⟩
          rw [hC0] at hcell hcr hCr hpi
          have hmem := List.mem_of_getElem? hpi
          have htake : pf.take (i + 1) = pf.take i ++ [C] := by
            obtain ⟨q1, q2⟩ := List.getElem?_eq_some_iff.1 hpi
            rw [List.take_succ_eq_append_getElem q1, q2]
          have hcw : wr.cell? ⟨b, off + i, none⟩ = some (.slice Ar C.length cr) := (HBw.out.cell (World.block_lt_of_cell? w _ hcell)).trans hcell
          obtain ⟨A6, c6, rfl, hc6, hC6⟩ := HI.out.2.2.C HBw.out HI.out.2.1
          have hlen6 : (L ++ pf.take i).length = LL + i := by rw [List.length_append, List.length_take, HH.out.2.2.1, HH.out.2.2.2.1]; omega
          have HFo := Follows_any hn fuel (L ++ pf.take i) C true A6 c6 Ar cr wr hC6 hc6 (Kd.C_below hCr HBw.out) hcr (fun l hl => by
            rcases List.mem_append.1 hl with h1 | h1
            · exact (HH.out.2.2.2.2.1 l h1).2
            · exact (HH.out.2.2.2.2.2.1 l (List.mem_of_mem_take h1)).2) (HH.out.2.2.2.2.2.1 C hmem).2 (fun l hl => by
            rcases List.mem_append.1 hl with h1 | h1
            · exact (HH.out.2.2.2.2.1 l h1).1
            · exact (HH.out.2.2.2.2.2.1 l (List.mem_of_mem_take h1)).1) (by
            have h1 := HH.out.2.2.2.2.2.2.2
            have h2 := (HH.out.2.2.2.2.2.1 C hmem).1
            have h3 : fuel * (L ++ pf.take i).length ≤ fuel * (L.length + pf.length) := Nat.mul_le_mul_left _ (by rw [hlen6, HH.out.2.2.1, HH.out.2.2.2.1]; omega)
            omega) (HH.out.2.2.2.2.2.2.1 i C hpi)
          have HT := Aside0.mk (And.intro htake (And.intro HI.out.1 (And.intro HI.out.2.1 HI.out.2.2)))
          have HCr := Aside0.mk (And.intro hcr hCr)
          have HL6 := Aside0.mk (And.intro hlen6 hc6)
          rw [hlen6] at HFo ⊢
          obtain ⟨cl, hcl⟩ : ∃ cl, C.length = cl := ⟨_, rfl⟩
          have HCL := Aside0.mk hcl
          rw [hcl] at HFo hcw
          obtain ⟨em, hem⟩ : ∃ em, (pf.take i).any List.isEmpty = em := ⟨_, rfl⟩
          have HEM := Aside0.mk hem
          rw [hem]
          clear hC6 hcr hCr hrow hcell hpi hC0 hmem htake hlen6 hcl hem HI hc6
          have hLi : LL + i ≤ 100000000000 := by omega
          cases em with
          | true =>
            have hlv : vs.length = LL + i := by have := HT.out.2.2.2.len; rw [this]; exact HL6.out.1
            go_wp2_with (first
              | (go_at_call 25; refine HFo.mono ?_; rintro e w2 ⟨rfl, hb2⟩; have hcw2 := (hb2.cell (World.block_lt_of_cell? wr _ hcw)).trans hcw; have HB2 := Aside0.mk hb2; clear hb2)
              | (at_builtin; refine print_append (w0 := boxW w n0 A0 LL c0) (boxW w n0 A0 LL c0).heap.size rfl (.tmp 50) (.tmp 55) 22 37 (.slice none 0 0) 24 rfl Try.underlying22 infoII rfl (by decide) (.slice A6 (LL + i) c6) vs (.slice Ar cl cr) rfl rfl rfl ?aO ?aB ?aS ?aL ?_))
            case aO => have h1 := HT.out.2.2.1; rw [HL6.out.1] at h1; exact pw_own_below h1 HB2.out
            case aB => exact below_then HT.out.2.1 HT.out.2.1.size HB2.out
            case aS => exact Nat.le_trans HT.out.2.1.size HB2.out.size
            case aL => omega
            intro v1 w4 hown hb4 hg4 hat4
            have HN : Aside0 (Below (boxW w n0 A0 LL c0).heap.size (boxW w n0 A0 LL c0) w4 ∧ w4.ownsRow (boxW w n0 A0 LL c0).heap.size 37 1 v1 (vs ++ [Value.slice Ar cl cr]).length (vs ++ [Value.slice Ar cl cr]) ∧ RowsV w (vs ++ [Value.slice Ar cl cr]) (L ++ pf.take (i + 1))) := ⟨hb4, by rw [List.length_append, hlv]; exact hown, by
              have h1 := HT.out.2.2.2.snoc HCr.out.1 HCr.out.2
              rw [HCL.out, List.append_assoc, ← HT.out.1] at h1
              exact h1⟩
            clear hown hb4 hg4 hat4
            go_wp2
            go_roundg g'
            case measure => omega
            case rel => exact ⟨i + 1, vs ++ [Value.slice Ar cl cr], by omega, by go_num, by rw [HT.out.1, List.any_append, HEM.out]; simp, HN⟩
          | false =>
            by_cases hc0 : cl = 0
            · subst hc0
              have hnil : C = [] := List.eq_nil_of_length_eq_zero HCL.out
              have hlv : vs.length = LL + i := by have := HT.out.2.2.2.len; rw [this]; exact HL6.out.1
              go_wp2_with (first
                | (go_at_call 25; refine HFo.mono ?_; rintro e w2 ⟨rfl, hb2⟩; have hcw2 := (hb2.cell (World.block_lt_of_cell? wr _ hcw)).trans hcw; have HB2 := Aside0.mk hb2; clear hb2)
                | (at_builtin; refine print_append (w0 := boxW w n0 A0 LL c0) (boxW w n0 A0 LL c0).heap.size rfl (.tmp 50) (.tmp 55) 22 37 (.slice none 0 0) 24 rfl Try.underlying22 infoII rfl (by decide) (.slice A6 (LL + i) c6) vs (.slice Ar 0 cr) rfl rfl rfl ?aO ?aB ?aS ?aL ?_))
              case aO => have h1 := HT.out.2.2.1; rw [HL6.out.1] at h1; exact pw_own_below h1 HB2.out
              case aB => exact below_then HT.out.2.1 HT.out.2.1.size HB2.out
              case aS => exact Nat.le_trans HT.out.2.1.size HB2.out.size
              case aL => omega
              intro v1 w4 hown hb4 hg4 hat4
              have HN : Aside0 (Below (boxW w n0 A0 LL c0).heap.size (boxW w n0 A0 LL c0) w4 ∧ w4.ownsRow (boxW w n0 A0 LL c0).heap.size 37 1 v1 (vs ++ [Value.slice Ar 0 cr]).length (vs ++ [Value.slice Ar 0 cr]) ∧ RowsV w (vs ++ [Value.slice Ar 0 cr]) (L ++ pf.take (i + 1))) := ⟨hb4, by rw [List.length_append, hlv]; exact hown, by
                have h1 := HT.out.2.2.2.snoc HCr.out.1 HCr.out.2
                rw [HCL.out, List.append_assoc, ← HT.out.1] at h1
                exact h1⟩
              clear hown hb4 hg4 hat4
              go_wp2
              go_roundg g'
              case measure => omega
              case rel => exact ⟨i + 1, vs ++ [Value.slice Ar 0 cr], by omega, by go_num, by rw [HT.out.1, List.any_append, HEM.out]; rw [hnil]; simp, HN⟩
            · have hc1 : ((cl : Int) == 0) = false := by simp; omega
              have hnil : C.isEmpty = false := by
                cases C with
                | nil => exact absurd HCL.out.symm hc0
                | cons _ _ => rfl
              have hlv : vs.length = LL + i := by have := HT.out.2.2.2.len; rw [this]; exact HL6.out.1
              go_wp2_with (first
                | (go_at_call 25; refine HFo.mono ?_; rintro e w2 ⟨rfl, hb2⟩; have hcw2 := (hb2.cell (World.block_lt_of_cell? wr _ hcw)).trans hcw; have HB2 := Aside0.mk hb2; clear hb2)
                | (at_builtin; refine print_append (w0 := boxW w n0 A0 LL c0) (boxW w n0 A0 LL c0).heap.size rfl (.tmp 50) (.tmp 55) 22 37 (.slice none 0 0) 24 rfl Try.underlying22 infoII rfl (by decide) (.slice A6 (LL + i) c6) vs (.slice Ar cl cr) rfl rfl rfl ?aO ?aB ?aS ?aL ?_))
              case aO => have h1 := HT.out.2.2.1; rw [HL6.out.1] at h1; exact pw_own_below h1 HB2.out
              case aB => exact below_then HT.out.2.1 HT.out.2.1.size HB2.out
              case aS => exact Nat.le_trans HT.out.2.1.size HB2.out.size
              case aL => omega
              intro v1 w4 hown hb4 hg4 hat4
              have HN : Aside0 (Below (boxW w n0 A0 LL c0).heap.size (boxW w n0 A0 LL c0) w4 ∧ w4.ownsRow (boxW w n0 A0 LL c0).heap.size 37 1 v1 (vs ++ [Value.slice Ar cl cr]).length (vs ++ [Value.slice Ar cl cr]) ∧ RowsV w (vs ++ [Value.slice Ar cl cr]) (L ++ pf.take (i + 1))) := ⟨hb4, by rw [List.length_append, hlv]; exact hown, by
                have h1 := HT.out.2.2.2.snoc HCr.out.1 HCr.out.2
                rw [HCL.out, List.append_assoc, ← HT.out.1] at h1
                exact h1⟩
              clear hown hb4 hg4 hat4
              go_wp2
              go_roundg g'
              case measure => omega
              case rel => exact ⟨i + 1, vs ++ [Value.slice Ar cl cr], by omega, by go_num, by rw [HT.out.1, List.any_append, HEM.out]; simp [hnil], HN⟩
    | g' + 1, hig =>
      have hlt : decide ((i : Int) < (LL : Int)) = true := by simp; omega
      have hlt2 : decide (i < LL) = true := by simp; omega
      have hlt3 : (i : Int) < (LL : Int) := by omega
      obtain ⟨b, off, rfl, hbl, hrow⟩ := C_rows HH.out.1 (by rw [HH.out.2.2.1]; omega)
      obtain ⟨Ar, cr, hcell, hcr, hCr⟩ := hrow i (by rw [HH.out.2.2.1]; omega)
      have hpi : L[i]? = some L[i]! := getBang (by rw [HH.out.2.2.1]; omega)
      obtain ⟨C, hC0⟩ : ∃ C, L[i]! = C := ⟨_, rfl⟩
      rw [hC0] at hcell hcr hCr hpi
      have htake : L.take (i + 1) = L.take i ++ [C] := by
        obtain ⟨q1, q2⟩ := List.getElem?_eq_some_iff.1 hpi
        rw [List.take_succ_eq_append_getElem q1, q2]
      have hcw : wr.cell? ⟨b, off + i, none⟩ = some (.slice Ar C.length cr) := (HBw.out.cell (World.block_lt_of_cell? w _ hcell)).trans hcell
      have hlv : vs.length = i := by have := HI.out.2.2.len; rw [this, List.length_take, HH.out.2.2.1]; omega
      have HCr := Aside0.mk (And.intro hcr (And.intro hCr htake))
      obtain ⟨cl, hcl⟩ : ∃ cl, C.length = cl := ⟨_, rfl⟩
      have HCL := Aside0.mk hcl
      rw [hcl] at hcw
      have HV := Aside0.mk hlv
      clear hcr hCr hrow hcell hpi hC0 htake hcl hlv
      go_wp2_with (at_builtin; refine print_append (w0 := boxW w n0 (some ⟨b, off, none⟩) LL c0) (boxW w n0 (some ⟨b, off, none⟩) LL c0).heap.size rfl (.tmp 18) (.tmp 24) 22 37 (.slice none 0 0) 24 rfl Try.underlying22 infoII rfl (by decide) (u6) vs (.slice Ar cl cr) rfl rfl rfl ?aO ?aB ?aS ?aL ?_)
      case aO => exact HI.out.2.1
      case aB => exact HI.out.1
      case aS => exact HI.out.1.size
      case aL => rw [HV.out]; omega
      intro v1 w4 hown hb4 hg4 hat4
      have HN : Aside0 (Below (boxW w n0 (some ⟨b, off, none⟩) LL c0).heap.size (boxW w n0 (some ⟨b, off, none⟩) LL c0) w4 ∧ w4.ownsRow (boxW w n0 (some ⟨b, off, none⟩) LL c0).heap.size 37 1 v1 (vs ++ [Value.slice Ar cl cr]).length (vs ++ [Value.slice Ar cl cr]) ∧ RowsV w (vs ++ [Value.slice Ar cl cr]) (L.take (i + 1))) := ⟨hb4, by rw [List.length_append]; exact hown, by
        have h1 := HI.out.2.2.snoc HCr.out.1 HCr.out.2.1
        rw [HCL.out, ← HCr.out.2.2] at h1
        exact h1⟩
      clear hown hb4 hg4 hat4
      go_wp2
      go_roundg g'
      case measure => omega
      case rel => exact ⟨i + 1, vs ++ [Value.slice Ar cl cr], by omega, by go_num, HN⟩
end Go.Proofs.Ytbagcbiekpopbaa

namespace Go.Proofs.Ytbagcbiekpopbaa
open Go.RowKit Go.Shelf Go.Proofs.YtbagcbiekpopbaaW.PrintWords Go.Proofs.YtbagcbiekpopbaaW.PrintLast Go.Proofs.YtbagcbiekpopbaaW.PrintMore
set_option linter.unusedVariables false
set_option linter.unusedSimpArgs false

theorem C_bools {w : World} {A : Option Addr} {xs : List Bool} (h : Kd.C Kd.bool w A xs.length xs) (hp : 0 < xs.length) : ∃ b off, A = some ⟨b, off, none⟩ ∧ ∀ j, j < xs.length → w.cell? ⟨b, off + j, none⟩ = some (.bool xs[j]!) := by
  obtain ⟨ad, e, hc⟩ := Kd.at_bool h 0 (by omega) (by omega)
  have hs : ad.spot = none := by
    have := spot_none hc
    simpa [Addr.add] using this
  refine ⟨ad.block, ad.off, by rw [e]; cases ad; simp_all, fun j hj => ?_⟩
  obtain ⟨ad', e', hc'⟩ := Kd.at_bool h (j : Int) (by omega) (by omega)
  obtain rfl : ad = ad' := Option.some.inj (e.symm.trans e')
  rw [add_spot hs] at hc'
  simp only [Int.toNat_natCast] at hc'
  rw [hc']
  simp [rdOf, List.getD_eq_getElem?_getD, List.getElem!_eq_getElem?_getD]
/-- Rows that are written down. -/
theorem row_lit {W : World} {g : Nat} {r : List Int} {T : TypeId} {cs : Array Value} (hb : W.heap[g]? = some (.cells cs T (0, 0))) (hcs : cs = (r.map (Value.int .i64)).toArray) (hr : r.length ≤ 1000) : Kd.C kI W (some ⟨g, 0, none⟩) r.length r :=
  C_of_cells (by omega) fun j x hj => by rw [Nat.zero_add, blk_cellA hb, hcs]; simp [hj]
theorem RowsN.lit {W : World} {g : Nat} {vs : List Value} {L : List (List Int)} {T : TypeId} {cs : Array Value} (hb : W.heap[g]? = some (.cells cs T (0, 0))) (hcs : cs = vs.toArray) (hL : L.length ≤ 1000) (hs : ∀ l ∈ L, l.length ≤ 1000)
    (h : ∀ (j : Nat) r, L[j]? = some r → ∃ a, vs[j]? = some (.slice (some a) r.length r.length) ∧ Kd.C kI W (some a) r.length r) : RowsN W (some ⟨g, 0, none⟩) L.length L := by
  have hc : ∀ (j : Nat) r, L[j]? = some r → ∃ a, W.cell? ⟨g, 0 + j, none⟩ = some (.slice (some a) r.length r.length) ∧ Kd.C kI W (some a) r.length r := fun j r hj => by
    obtain ⟨a, h1, h2⟩ := h j r hj
    refine ⟨a, ?_, h2⟩
    rw [Nat.zero_add, blk_cellA hb, hcs]
    simp [h1]
  exact { C := CII_of_cells (by omega) (fun j r hj => by obtain ⟨a, h1, h2⟩ := hc j r hj; exact ⟨some a, _, h1, Nat.le_refl _, h2⟩), cap := Nat.le_refl _, max := by omega, short := hs, rows := fun _ => ⟨g, 0, rfl, fun j r hj => by obtain ⟨a, h1, h2⟩ := hc j r hj; exact ⟨a, _, h1, h2⟩⟩ }

theorem fix1 : solveR 9 2 [[1, -2], [2], [-1, 2]] = ⟨1, [true, true], []⟩ := by
  obtain ⟨-, hok⟩ := solveR_run (n := 2) (budget := 9) (L := [[1, -2], [2], [-1, 2]]) (by kernel_rfl) (by omega) (by omega) (by omega) (by simp) (fun l hl x hx => by simp at hl; rcases hl with rfl | rfl | rfl <;> simp at hx <;> omega)
  have hl := hok.law (by decide) (fun l hl x hx => by simp at hl; unfold V; rcases hl with rfl | rfl | rfl <;> simp at hx <;> omega)
  generalize solveR 9 2 [[1, -2], [2], [-1, 2]] = r at *
  obtain ⟨what, vals, pf⟩ := r
  rcases hl with ⟨_, _, _, h⟩ | ⟨h1, h2, h3, h4⟩ | ⟨_, _, _, _, _, _, h⟩
  · exact absurd h (by decide)
  · simp only at h1 h2 h3 h4
    subst h1 h3
    have h2' : vals.length = 2 := h2
    match vals, h2', h4 with
    | [true, true], _, _ => rfl
    | [true, false], _, h4 => exact absurd h4 (by rw [show trueB [[1, -2], [2], [-1, 2]] [true, false] = false from by kernel_rfl]; decide)
    | [false, true], _, h4 => exact absurd h4 (by rw [show trueB [[1, -2], [2], [-1, 2]] [false, true] = false from by kernel_rfl]; decide)
    | [false, false], _, h4 => exact absurd h4 (by rw [show trueB [[1, -2], [2], [-1, 2]] [false, false] = false from by kernel_rfl]; decide)
  · have := h [true, true]
    rw [show trueB [[1, -2], [2], [-1, 2]] [true, true] = true from by kernel_rfl] at this
    cases this
theorem fix2 : solveR 9 1 [[1], [-1]] = ⟨2, [], [[]]⟩ := by
  have e1 : ∀ x, plI [x] = ([x], true) := fun x => plI_eq ⟨fun _ => Iff.rfl, by simp⟩
  have e2 : St.begin (St.start 1) ([[1], [-1]].map plI) = some ((St.start 1).setd 1 (-1), false) := by
    simp only [List.map_cons, List.map_nil, e1]
    rfl
  unfold solveR
  rw [if_pos ⟨by kernel_rfl, by omega⟩]
  unfold solveRun
  rw [show (1 : Int).toNat = 1 from rfl, e2]
  simp
theorem fix4 : solveR (-1) 1 [[1]] = ⟨0, [], []⟩ := solveR_bad (.inr (by omega))
theorem heap_old {X : World} {o x : Obj} {k : Nat} (h : X.heap[k]? = some x) : (X.alloc o).heap[k]? = some x := (Below.heap_alloc X o k (blk_lt h)).trans h
theorem heap_at {X : World} {o : Obj} {k : Nat} (h : X.heap.size = k) : (X.alloc o).heap[k]? = some o := h ▸ heap_alloc_new X o
theorem bel4 (W : World) (a b c d : Obj) : Below W.heap.size W ((((W.alloc a).alloc b).alloc c).alloc d) := (bel3 W a b c).alloc (by simp; omega) _

theorem Solve_fix1 (W : World) : Calls Try.prog 9 #[.agg #[.int .i64 2, .slice (some ⟨W.heap.size + 3, 0, none⟩) 3 3], .int .i64 9]
    ((((W.alloc (.cells #[.int .i64 1, .int .i64 (-2)] 3)).alloc (.cells #[.int .i64 2] 3)).alloc (.cells #[.int .i64 (-1), .int .i64 2] 3)).alloc (.cells #[.slice (some ⟨W.heap.size, 0, none⟩) 2 2, .slice (some ⟨W.heap.size + 1, 0, none⟩) 1 1, .slice (some ⟨W.heap.size + 2, 0, none⟩) 2 2] 37))
    fun e w' => ∃ b off c1 A2 c2, e = .returned (.tuple #[.int .i64 1, .slice (some ⟨b, off, none⟩) 2 c1, .slice A2 0 c2, .int .i64 0]) ∧ 2 ≤ c1 ∧ Keeps (fun X => X.cell? ⟨b, off, none⟩ = some (.bool true)) w' ∧ Keeps (fun X => X.cell? ⟨b, off + 1, none⟩ = some (.bool true)) w' ∧ Below W.heap.size W w' := by
  have hb := bel4 W (.cells #[.int .i64 1, .int .i64 (-2)] 3) (.cells #[.int .i64 2] 3) (.cells #[.int .i64 (-1), .int .i64 2] 3) (.cells #[.slice (some ⟨W.heap.size, 0, none⟩) 2 2, .slice (some ⟨W.heap.size + 1, 0, none⟩) 1 1, .slice (some ⟨W.heap.size + 2, 0, none⟩) 2 2] 37)
  have h0 : ((((W.alloc (.cells #[.int .i64 1, .int .i64 (-2)] 3)).alloc (.cells #[.int .i64 2] 3)).alloc (.cells #[.int .i64 (-1), .int .i64 2] 3)).alloc (.cells #[.slice (some ⟨W.heap.size, 0, none⟩) 2 2, .slice (some ⟨W.heap.size + 1, 0, none⟩) 1 1, .slice (some ⟨W.heap.size + 2, 0, none⟩) 2 2] 37)).heap[W.heap.size]? = some (.cells #[.int .i64 1, .int .i64 (-2)] 3) := heap_old (heap_old (heap_old (heap_at rfl)))
  have h1 : ((((W.alloc (.cells #[.int .i64 1, .int .i64 (-2)] 3)).alloc (.cells #[.int .i64 2] 3)).alloc (.cells #[.int .i64 (-1), .int .i64 2] 3)).alloc (.cells #[.slice (some ⟨W.heap.size, 0, none⟩) 2 2, .slice (some ⟨W.heap.size + 1, 0, none⟩) 1 1, .slice (some ⟨W.heap.size + 2, 0, none⟩) 2 2] 37)).heap[W.heap.size + 1]? = some (.cells #[.int .i64 2] 3) := heap_old (heap_old (heap_at (by simp)))
  have h2 : ((((W.alloc (.cells #[.int .i64 1, .int .i64 (-2)] 3)).alloc (.cells #[.int .i64 2] 3)).alloc (.cells #[.int .i64 (-1), .int .i64 2] 3)).alloc (.cells #[.slice (some ⟨W.heap.size, 0, none⟩) 2 2, .slice (some ⟨W.heap.size + 1, 0, none⟩) 1 1, .slice (some ⟨W.heap.size + 2, 0, none⟩) 2 2] 37)).heap[W.heap.size + 2]? = some (.cells #[.int .i64 (-1), .int .i64 2] 3) := heap_old (heap_at (by simp))
  have h3 : ((((W.alloc (.cells #[.int .i64 1, .int .i64 (-2)] 3)).alloc (.cells #[.int .i64 2] 3)).alloc (.cells #[.int .i64 (-1), .int .i64 2] 3)).alloc (.cells #[.slice (some ⟨W.heap.size, 0, none⟩) 2 2, .slice (some ⟨W.heap.size + 1, 0, none⟩) 1 1, .slice (some ⟨W.heap.size + 2, 0, none⟩) 2 2] 37)).heap[W.heap.size + 3]? = some (.cells #[.slice (some ⟨W.heap.size, 0, none⟩) 2 2, .slice (some ⟨W.heap.size + 1, 0, none⟩) 1 1, .slice (some ⟨W.heap.size + 2, 0, none⟩) 2 2] 37) := heap_at (by simp)
  generalize ((((W.alloc (.cells #[.int .i64 1, .int .i64 (-2)] 3)).alloc (.cells #[.int .i64 2] 3)).alloc (.cells #[.int .i64 (-1), .int .i64 2] 3)).alloc (.cells #[.slice (some ⟨W.heap.size, 0, none⟩) 2 2, .slice (some ⟨W.heap.size + 1, 0, none⟩) 1 1, .slice (some ⟨W.heap.size + 2, 0, none⟩) 2 2] 37)) = X at *
  have hR : RowsN X (some ⟨W.heap.size + 3, 0, none⟩) 3 [[1, -2], [2], [-1, 2]] := RowsN.lit (L := [[1, -2], [2], [-1, 2]]) (vs := [.slice (some ⟨W.heap.size, 0, none⟩) 2 2, .slice (some ⟨W.heap.size + 1, 0, none⟩) 1 1, .slice (some ⟨W.heap.size + 2, 0, none⟩) 2 2]) h3 rfl (by simp) (by simp) (fun j r hj => by
    match j, hj with
    | 0, hj => obtain rfl : [1, -2] = r := by simpa using hj
               exact ⟨_, rfl, row_lit h0 rfl (by simp)⟩
    | 1, hj => obtain rfl : [2] = r := by simpa using hj
               exact ⟨_, rfl, row_lit h1 rfl (by simp)⟩
    | 2, hj => obtain rfl : [-1, 2] = r := by simpa using hj
               exact ⟨_, rfl, row_lit h2 rfl (by simp)⟩
    | j + 3, hj => simp at hj)
  have HS := Solve_any 2 9 (some ⟨W.heap.size + 3, 0, none⟩) 3 [[1, -2], [2], [-1, 2]] X hR (by omega) (by omega) (by simp) (fun l hl x hx => by simp at hl; rcases hl with rfl | rfl | rfl <;> simp at hx <;> omega)
  rw [fix1, show checkI 2 [[1, -2], [2], [-1, 2]] = 0 from by kernel_rfl] at HS
  refine HS.mono ?_
  rintro e w' ⟨A1, c1, A2, c2, rfl, hv, hc1, -, -, hb2⟩
  obtain ⟨b, off, rfl, hcl⟩ := C_bools hv (by simp)
  refine ⟨b, off, c1, A2, c2, rfl, hc1, Keeps.cell (by simpa using hcl 0 (by simp)), Keeps.cell (by simpa using hcl 1 (by simp)), below_then hb hb.size hb2⟩
theorem Solve_fix2 (W : World) : Calls Try.prog 9 #[.agg #[.int .i64 1, .slice (some ⟨W.heap.size + 2, 0, none⟩) 2 2], .int .i64 9]
    (((W.alloc (.cells #[.int .i64 1] 3)).alloc (.cells #[.int .i64 (-1)] 3)).alloc (.cells #[.slice (some ⟨W.heap.size, 0, none⟩) 1 1, .slice (some ⟨W.heap.size + 1, 0, none⟩) 1 1] 37))
    fun e w' => ∃ A1 c1 b off c2 Ar cr, e = .returned (.tuple #[.int .i64 2, .slice A1 0 c1, .slice (some ⟨b, off, none⟩) 1 c2, .int .i64 0]) ∧ 1 ≤ c2 ∧ Keeps (fun X => X.cell? ⟨b, off, none⟩ = some (.slice Ar 0 cr)) w' ∧ Below W.heap.size W w' := by
  have hb := bel3 W (.cells #[.int .i64 1] 3) (.cells #[.int .i64 (-1)] 3) (.cells #[.slice (some ⟨W.heap.size, 0, none⟩) 1 1, .slice (some ⟨W.heap.size + 1, 0, none⟩) 1 1] 37)
  have h0 : (((W.alloc (.cells #[.int .i64 1] 3)).alloc (.cells #[.int .i64 (-1)] 3)).alloc (.cells #[.slice (some ⟨W.heap.size, 0, none⟩) 1 1, .slice (some ⟨W.heap.size + 1, 0, none⟩) 1 1] 37)).heap[W.heap.size]? = some (.cells #[.int .i64 1] 3) := heap_old (heap_old (heap_at rfl))
  have h1 : (((W.alloc (.cells #[.int .i64 1] 3)).alloc (.cells #[.int .i64 (-1)] 3)).alloc (.cells #[.slice (some ⟨W.heap.size, 0, none⟩) 1 1, .slice (some ⟨W.heap.size + 1, 0, none⟩) 1 1] 37)).heap[W.heap.size + 1]? = some (.cells #[.int .i64 (-1)] 3) := heap_old (heap_at (by simp))
  have h3 : (((W.alloc (.cells #[.int .i64 1] 3)).alloc (.cells #[.int .i64 (-1)] 3)).alloc (.cells #[.slice (some ⟨W.heap.size, 0, none⟩) 1 1, .slice (some ⟨W.heap.size + 1, 0, none⟩) 1 1] 37)).heap[W.heap.size + 2]? = some (.cells #[.slice (some ⟨W.heap.size, 0, none⟩) 1 1, .slice (some ⟨W.heap.size + 1, 0, none⟩) 1 1] 37) := heap_at (by simp)
  generalize (((W.alloc (.cells #[.int .i64 1] 3)).alloc (.cells #[.int .i64 (-1)] 3)).alloc (.cells #[.slice (some ⟨W.heap.size, 0, none⟩) 1 1, .slice (some ⟨W.heap.size + 1, 0, none⟩) 1 1] 37)) = X at *
  have hR : RowsN X (some ⟨W.heap.size + 2, 0, none⟩) 2 [[1], [-1]] := RowsN.lit (L := [[1], [-1]]) (vs := [.slice (some ⟨W.heap.size, 0, none⟩) 1 1, .slice (some ⟨W.heap.size + 1, 0, none⟩) 1 1]) h3 rfl (by simp) (by simp) (fun j r hj => by
    match j, hj with
    | 0, hj => obtain rfl : [1] = r := by simpa using hj
               exact ⟨_, rfl, row_lit h0 rfl (by simp)⟩
    | 1, hj => obtain rfl : [-1] = r := by simpa using hj
               exact ⟨_, rfl, row_lit h1 rfl (by simp)⟩
    | j + 2, hj => simp at hj)
  have HS := Solve_any 1 9 (some ⟨W.heap.size + 2, 0, none⟩) 2 [[1], [-1]] X hR (by omega) (by omega) (by simp) (fun l hl x hx => by simp at hl; rcases hl with rfl | rfl <;> simp at hx <;> omega)
  rw [fix2, show checkI 1 [[1], [-1]] = 0 from by kernel_rfl] at HS
  refine HS.mono ?_
  rintro e w' ⟨A1, c1, A2, c2, rfl, -, -, hp, hc2, hb2⟩
  obtain ⟨b, off, rfl, -, hrow⟩ := C_rows hp (by simp)
  obtain ⟨Ar, cr, hcell, -, -⟩ := hrow 0 (by simp)
  exact ⟨A1, c1, b, off, c2, Ar, cr, rfl, hc2, Keeps.cell (by simpa using hcell), below_then hb hb.size hb2⟩
theorem Solve_fix3 (W : World) : Calls Try.prog 9 #[.agg #[.int .i64 1, .slice (some ⟨W.heap.size + 1, 0, none⟩) 1 1], .int .i64 9]
    ((W.alloc (.cells #[.int .i64 2] 3)).alloc (.cells #[.slice (some ⟨W.heap.size, 0, none⟩) 1 1] 37))
    fun e w' => ∃ A1 c1 A2 c2, e = .returned (.tuple #[.int .i64 0, .slice A1 0 c1, .slice A2 0 c2, .int .i64 130]) ∧ Below W.heap.size W w' := by
  have hb := bel2 W (.cells #[.int .i64 2] 3) (.cells #[.slice (some ⟨W.heap.size, 0, none⟩) 1 1] 37)
  have h0 : ((W.alloc (.cells #[.int .i64 2] 3)).alloc (.cells #[.slice (some ⟨W.heap.size, 0, none⟩) 1 1] 37)).heap[W.heap.size]? = some (.cells #[.int .i64 2] 3) := heap_old (heap_at rfl)
  have h3 : ((W.alloc (.cells #[.int .i64 2] 3)).alloc (.cells #[.slice (some ⟨W.heap.size, 0, none⟩) 1 1] 37)).heap[W.heap.size + 1]? = some (.cells #[.slice (some ⟨W.heap.size, 0, none⟩) 1 1] 37) := heap_at (by simp)
  generalize ((W.alloc (.cells #[.int .i64 2] 3)).alloc (.cells #[.slice (some ⟨W.heap.size, 0, none⟩) 1 1] 37)) = X at *
  have hR : RowsN X (some ⟨W.heap.size + 1, 0, none⟩) 1 [[2]] := RowsN.lit (L := [[2]]) (vs := [.slice (some ⟨W.heap.size, 0, none⟩) 1 1]) h3 rfl (by simp) (by simp) (fun j r hj => by
    match j, hj with
    | 0, hj => obtain rfl : [2] = r := by simpa using hj
               exact ⟨_, rfl, row_lit h0 rfl (by simp)⟩
    | j + 1, hj => simp at hj)
  have hck : checkI 1 [[2]] = 130 := by kernel_rfl
  have HS := Solve_bad 1 9 (some ⟨W.heap.size + 1, 0, none⟩) 1 [[2]] X hR.C (by rw [hck]; omega)
  rw [hck] at HS
  refine HS.mono ?_
  rintro e w' ⟨A1, c1, A2, c2, rfl, -, -, -, -, hb2⟩
  exact ⟨A1, c1, A2, c2, rfl, below_then hb hb.size hb2⟩
theorem Solve_fix4 (W : World) : Calls Try.prog 9 #[.agg #[.int .i64 1, .slice (some ⟨W.heap.size + 1, 0, none⟩) 1 1], .int .i64 (-1)]
    ((W.alloc (.cells #[.int .i64 1] 3)).alloc (.cells #[.slice (some ⟨W.heap.size, 0, none⟩) 1 1] 37))
    fun e w' => ∃ A1 c1 A2 c2, e = .returned (.tuple #[.int .i64 0, .slice A1 0 c1, .slice A2 0 c2, .int .i64 0]) ∧ Below W.heap.size W w' := by
  have hb := bel2 W (.cells #[.int .i64 1] 3) (.cells #[.slice (some ⟨W.heap.size, 0, none⟩) 1 1] 37)
  have h0 : ((W.alloc (.cells #[.int .i64 1] 3)).alloc (.cells #[.slice (some ⟨W.heap.size, 0, none⟩) 1 1] 37)).heap[W.heap.size]? = some (.cells #[.int .i64 1] 3) := heap_old (heap_at rfl)
  have h3 : ((W.alloc (.cells #[.int .i64 1] 3)).alloc (.cells #[.slice (some ⟨W.heap.size, 0, none⟩) 1 1] 37)).heap[W.heap.size + 1]? = some (.cells #[.slice (some ⟨W.heap.size, 0, none⟩) 1 1] 37) := heap_at (by simp)
  generalize ((W.alloc (.cells #[.int .i64 1] 3)).alloc (.cells #[.slice (some ⟨W.heap.size, 0, none⟩) 1 1] 37)) = X at *
  have hR : RowsN X (some ⟨W.heap.size + 1, 0, none⟩) 1 [[1]] := RowsN.lit (L := [[1]]) (vs := [.slice (some ⟨W.heap.size, 0, none⟩) 1 1]) h3 rfl (by simp) (by simp) (fun j r hj => by
    match j, hj with
    | 0, hj => obtain rfl : [1] = r := by simpa using hj
               exact ⟨_, rfl, row_lit h0 rfl (by simp)⟩
    | j + 1, hj => simp at hj)
  refine (Solve_neg 1 (-1) (some ⟨W.heap.size + 1, 0, none⟩) 1 [[1]] X hR.C (by kernel_rfl) (by omega)).mono ?_
  rintro e w' ⟨A1, c1, A2, c2, rfl, -, -, -, -, hb2⟩
  exact ⟨A1, c1, A2, c2, rfl, below_then hb hb.size hb2⟩

set_option maxHeartbeats 8000000 in
set_option maxRecDepth 100000 in
theorem fixed_any (w : World) : Calls Try.prog 12 #[] w fun e w' => e = .returned (.bool true) ∧ Below w.heap.size w w' := by
  go_enter Try.func12, Try.ntmps12
  go_wp2_with fail
  refine (Solve_fix1 w).mono ?_
  rintro e w1 ⟨b1, o1, c1, A1, d1, rfl, hc1, hk10, hk11, hb1⟩
  have HK1 := Aside0.mk (And.intro hk10 (And.intro hk11 hb1))
  clear hk10 hk11 hb1
  go_wp2_with fail
  refine (Solve_fix2 w1).mono ?_
  rintro e w2 ⟨A2, c2, b2, o2, d2, Ar, cr, rfl, hd2, hk20, hb2⟩
  have HK2 := Aside0.mk (And.intro (HK1.out.1.step hb2) (And.intro (HK1.out.2.1.step hb2) (And.intro hk20 (below_then HK1.out.2.2 HK1.out.2.2.size hb2))))
  clear hk20 hb2 HK1
  go_wp2_with fail
  refine (Solve_fix3 w2).mono ?_
  rintro e w3 ⟨A3, c3, A4, c4, rfl, hb3⟩
  have HK3 := Aside0.mk (And.intro (HK2.out.1.step hb3) (And.intro (HK2.out.2.1.step hb3) (And.intro (HK2.out.2.2.1.step hb3) (below_then HK2.out.2.2.2 HK2.out.2.2.2.size hb3))))
  clear hb3 HK2
  go_wp2_with fail
  refine (Solve_fix4 w3).mono ?_
  rintro e w4 ⟨A5, c5, A6, c6, rfl, hb4⟩
  have hx1 := (HK3.out.1.step hb4).here
  have hx2 := (HK3.out.2.1.step hb4).here
  have hx3 := (HK3.out.2.2.1.step hb4).here
  have HK4 := Aside0.mk (below_then HK3.out.2.2.2 HK3.out.2.2.2.size hb4)
  clear hb4 HK3
  go_wp2
  go_ret
  exact ⟨rfl, HK4.out⟩
end Go.Proofs.Ytbagcbiekpopbaa
