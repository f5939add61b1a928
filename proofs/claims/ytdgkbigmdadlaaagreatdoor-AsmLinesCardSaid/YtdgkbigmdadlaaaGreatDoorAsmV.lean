import Derived.Test.YtdgkbigmdadlaaaGreatDoorAsmT
import Derived.Test.YtdgkbigmdadlaaaGreatDoorRefP
import Derived.Test.YtdgkbigmdadlaaaGreatDoorAsmK
namespace Go.Proofs.YtdgkbigmdadlaaaGreatDoor
open Go.RowKit Go.Lib Go.Proofs.YtdgkbigmdadlaaaGreatDoorW.PrintWords Go.Proofs.YtdgkbigmdadlaaaGreatDoorW.PrintLast Go.Proofs.YtdgkbigmdadlaaaGreatDoorW.PrintMore
set_option linter.unusedVariables false
set_option linter.unusedSimpArgs false

/-! What the document's reading functions tell. -/
theorem bt_bytes (s : List UInt8) (p : Nat) (h : p < s.length) : bt (bytesB s) (p : Int) = ((s[p]).toNat : Int) := by
  unfold bt
  rw [dif_pos (by rw [bytesB_size]; simpa using h)]
  simp [bytesB, ByteArray.getElem_eq_getElem_data]
theorem digit_f (c : UInt8) : whetstoneref05_digit.f (c.toNat : Int) = some (isDig c) := by
  unfold whetstoneref05_digit.f isDig
  by_cases h : (c.toNat : Int) ≥ 48
  · rw [if_pos h]
    have e : decide (48 ≤ c.toNat) = true := by simp; omega
    rw [e, Bool.true_and]
    congr 1
    rw [decide_eq_decide]
    omega
  · rw [if_neg h]
    have e : decide (48 ≤ c.toNat) = false := by simp; omega
    rw [e, Bool.false_and]
theorem nums_run (s : List UInt8) (hs : s.length ≤ 100000) (l : List Int) (i : Nat) : ∀ (m j : Nat) (n : Int) (k : Nat), j + m = 7 → i + j ≤ s.length → 0 ≤ n → n < 10 ^ j → m < k →
    ∃ q, k ≤ q + m + 1 ∧ q < k ∧ whetstoneref05_nums.l1 k (bytesB s) l (i : Int) n ((i + j : Nat) : Int) = whetstoneref05_nums.j3 q (bytesB s) l (i : Int) (digs m (s.drop (i + j)) n).1 ((i + j + (digs m (s.drop (i + j)) n).2 : Nat) : Int) ∧ 0 ≤ (digs m (s.drop (i + j)) n).1 ∧ (digs m (s.drop (i + j)) n).1 < 10 ^ 7
  | m, j, n, 0, hj, hi, h0, h1, hk => by omega
  | m, j, n, k + 1, hj, hi, h0, h1, hk => by
    have hp7 : (10 : Int) ^ j ≤ 10 ^ 7 := by
      have : (10 : Nat) ^ j ≤ 10 ^ 7 := Nat.pow_le_pow_right (by decide) (by omega)
      exact_mod_cast this
    unfold whetstoneref05_nums.l1
    by_cases hlt : i + j < s.length
    · rw [if_pos (by rw [bytesB_size]; omega), if_pos (by omega), bt_bytes s (i + j) hlt, digit_f]
      simp only [Option.bind_some]
      have hd : s.drop (i + j) = s[i + j] :: s.drop (i + j + 1) := List.drop_eq_getElem_cons hlt
      have hw : wrap64 ((i : Int) + 7) = (i : Int) + 7 := wrap64_small (by omega) (by omega)
      cases hdig : isDig s[i + j] with
      | false =>
        rw [if_neg (by simp)]
        refine ⟨k, by omega, by omega, ?_⟩
        have e : digs m (s.drop (i + j)) n = (n, 0) := by
          rw [hd]; cases m <;> simp [digs, hdig]
        rw [e]
        exact ⟨rfl, h0, by simp only; omega⟩
      | true =>
        rw [if_pos rfl, hw]
        match m, hj with
        | 0, hj =>
          rw [if_neg (by omega)]
          refine ⟨k, by omega, by omega, ?_⟩
          have e : digs 0 (s.drop (i + j)) n = (n, 0) := by simp [digs]
          rw [e]
          exact ⟨rfl, h0, by simp only; omega⟩
        | m + 1, hj =>
          rw [if_pos (by omega)]
          have hj6 : (10 : Int) ^ j ≤ 10 ^ 6 := by
            have : (10 : Nat) ^ j ≤ 10 ^ 6 := Nat.pow_le_pow_right (by decide) (by omega)
            exact_mod_cast this
          have hc := hdig
          unfold isDig at hc
          simp only [Bool.and_eq_true, decide_eq_true_eq] at hc
          have hc1 : (48 : Int) ≤ (s[i + j].toNat : Int) := by exact_mod_cast hc.1
          have hc2 : (s[i + j].toNat : Int) ≤ 57 := by exact_mod_cast hc.2
          have h6 : (10 : Int) ^ 6 = 1000000 := by decide
          have hsucc : (10 : Int) ^ (j + 1) = 10 * 10 ^ j := by rw [Int.pow_succ]; omega
          obtain ⟨q, hq1, hq2, hq3, hq4, hq5⟩ := nums_run s hs l i m (j + 1) (10 * n + s[i + j].toNat - 48) k (by omega) (by omega) (by omega) (by omega) (by omega)
          refine ⟨q, by omega, by omega, ?_⟩
          have e : digs (m + 1) (s.drop (i + j)) n = ((digs m (s.drop (i + (j + 1))) (10 * n + s[i + j].toNat - 48)).1, (digs m (s.drop (i + (j + 1))) (10 * n + s[i + j].toNat - 48)).2 + 1) := by
            rw [hd]
            show (if isDig s[i + j] then _ else _) = _
            rw [if_pos hdig]
            rfl
          rw [e]
          refine ⟨?_, hq4, hq5⟩
          rw [wrap64_small (x := 10 * n) (by omega) (by omega), wrap64_small (x := (s[i + j].toNat : Int)) (by omega) (by omega), wrap64_small (x := 10 * n + (s[i + j].toNat : Int)) (by omega) (by omega), wrap64_small (x := 10 * n + (s[i + j].toNat : Int) - 48) (by omega) (by omega), wrap64_small (x := ((i + j : Nat) : Int) + 1) (by omega) (by omega)]
          rw [show ((i + j : Nat) : Int) + 1 = ((i + (j + 1) : Nat) : Int) by omega, hq3]
          simp only
          rw [show i + (j + 1) + (digs m (s.drop (i + (j + 1))) (10 * n + s[i + j].toNat - 48)).2 = i + j + ((digs m (s.drop (i + (j + 1))) (10 * n + s[i + j].toNat - 48)).2 + 1) by omega]
    · rw [if_neg (by rw [bytesB_size]; omega)]
      refine ⟨k, by omega, by omega, ?_⟩
      have e : digs m (s.drop (i + j)) n = (n, 0) := by
        rw [List.drop_eq_nil_of_le (by omega)]; cases m <;> simp [digs]
      rw [e]
      exact ⟨rfl, h0, by simp only; omega⟩
def negAt (s : List UInt8) (i : Nat) : Bool := decide (0 < i ∧ s[i - 1]? = some 45)
theorem digs_tail (s : List UInt8) : ∀ (m i : Nat) (n : Int), 0 < (digs m (s.drop i) n).2 → ∃ c, s[i + (digs m (s.drop i) n).2 - 1]? = some c ∧ isDig c = true
  | 0, i, n, h => by simp [digs] at h
  | m + 1, i, n, h => by
    by_cases hlt : i < s.length
    · have hd : s.drop i = s[i] :: s.drop (i + 1) := List.drop_eq_getElem_cons hlt
      rw [hd] at h ⊢
      unfold digs at h ⊢
      cases hdig : isDig s[i] with
      | false => rw [hdig] at h; simp at h
      | true =>
        simp only [if_true]
        by_cases h0 : 0 < (digs m (s.drop (i + 1)) (10 * n + s[i].toNat - 48)).2
        · obtain ⟨c, h1, h2⟩ := digs_tail s m (i + 1) _ h0
          refine ⟨c, ?_, h2⟩
          rw [← h1]
          congr 1
          omega
        · refine ⟨s[i], ?_, hdig⟩
          rw [show i + ((digs m (s.drop (i + 1)) (10 * n + s[i].toNat - 48)).2 + 1) - 1 = i by omega, List.getElem?_eq_getElem hlt]
    · rw [List.drop_eq_nil_of_le (by omega)] at h
      simp [digs] at h
theorem nums_l0 (s : List UInt8) (hs : s.length ≤ 100000) : ∀ (f i : Nat) (l : List Int) (k : Nat), i ≤ s.length → s.length - i < f → l.length ≤ 4 → 12 * f ≤ k →
    whetstoneref05_nums.l0 k (bytesB s) l (i : Int) = some (numsG f (negAt s i) (s.drop i) l)
  | 0, i, l, k, hi, hf, hl, hk => by omega
  | f + 1, i, l, k, hi, hf, hl, hk => by
    obtain ⟨k, rfl⟩ : ∃ k', k = k' + 12 := ⟨k - 12, by omega⟩
    unfold whetstoneref05_nums.l0
    by_cases hlt : i < s.length
    · rw [if_pos (by rw [bytesB_size]; omega)]
      have hd : s.drop i = s[i] :: s.drop (i + 1) := List.drop_eq_getElem_cons hlt
      show whetstoneref05_nums.j1 (k + 11) _ _ _ _ = _
      unfold whetstoneref05_nums.j1
      by_cases hl4 : l.length < 4
      · rw [if_pos (by simp; omega)]
        obtain ⟨q, hq1, hq2, hq3, hq4, hq5⟩ := nums_run s hs l i 7 0 0 (k + 10) (by omega) (by omega) (by omega) (by decide) (by omega)
        simp only [Nat.add_zero] at hq3 hq4 hq5
        rw [hq3]
        obtain ⟨q, rfl⟩ : ∃ q', q = q' + 1 := ⟨q - 1, by omega⟩
        have hdl := digs_len 7 (s.drop i) 0
        rw [List.length_drop] at hdl
        unfold whetstoneref05_nums.j3
        have hG : numsG (f + 1) (negAt s i) (s.drop i) l = if 0 < (digs 7 (s.drop i) 0).2 then numsG f false ((s.drop i).drop (digs 7 (s.drop i) 0).2) (l ++ [if negAt s i then -(digs 7 (s.drop i) 0).1 else (digs 7 (s.drop i) 0).1]) else numsG f (s[i] == 45) (s.drop (i + 1)) l := by
          rw [hd]
          conv => lhs; unfold numsG
          rw [if_neg (by omega)]
        rw [hG]
        have hdt := digs_tail s 7 i 0
        generalize digs 7 (s.drop i) 0 = d at *
        obtain ⟨v, t⟩ := d
        simp only at *
        by_cases ht : 0 < t
        · rw [if_pos (by omega), if_pos ht, List.drop_drop]
          have hrec := fun l' (hl' : l'.length ≤ 4) => nums_l0 s hs f (i + t) l' q (by omega) (by omega) hl' (by omega)
          have hneg : negAt s (i + t) = false := by
            unfold negAt
            simp only [decide_eq_false_iff_not, not_and]
            intro _ h45
            obtain ⟨c, hc1, hc2⟩ := hdt ht
            rw [h45] at hc1
            cases hc1
            exact absurd hc2 (by decide)
          rw [hneg] at hrec
          by_cases hi0 : 0 < i
          · rw [if_pos (by omega), wrap64_small (by omega) (by omega), if_pos (by omega), if_pos (by rw [bytesB_size]; omega)]
            rw [show (i : Int) - 1 = ((i - 1 : Nat) : Int) by omega, bt_bytes s (i - 1) (by omega)]
            by_cases h45 : s[i - 1] = 45
            · have e : negAt s i = true := by unfold negAt; rw [List.getElem?_eq_getElem (by omega), h45]; simp; omega
              rw [if_pos (by rw [h45]; rfl), if_pos (by omega), e, if_pos rfl, wrap64_small (by omega) (by omega)]
              exact hrec _ (by simp; omega)
            · have e : negAt s i = false := by unfold negAt; rw [List.getElem?_eq_getElem (by omega)]; simp [h45]
              rw [if_neg (fun hh => h45 (UInt8.toNat_inj.1 (by exact_mod_cast hh))), if_pos (by omega), e, if_neg (by simp)]
              exact hrec _ (by simp; omega)
          · have e : negAt s i = false := by unfold negAt; simp; omega
            rw [if_neg (by omega), if_pos (by omega), e, if_neg (by simp)]
            exact hrec _ (by simp; omega)
        · rw [if_neg (by omega), if_neg ht, wrap64_small (by omega) (by omega)]
          have hrec := nums_l0 s hs f (i + 1) l q (by omega) (by omega) hl (by omega)
          rw [show ((i + 1 : Nat) : Int) = (i : Int) + 1 by omega] at hrec
          rw [hrec]
          have e : negAt s (i + 1) = (s[i] == 45) := by
            unfold negAt
            rw [Nat.add_sub_cancel, List.getElem?_eq_getElem hlt]
            by_cases h : s[i] = 45 <;> simp [h]
          rw [e]
      · rw [if_neg (by simp; omega)]
        rw [hd]
        conv => rhs; unfold numsG
        rw [if_pos (by omega)]
    · rw [if_neg (by rw [bytesB_size]; omega)]
      show whetstoneref05_nums.j1 (k + 11) _ _ _ _ = _
      unfold whetstoneref05_nums.j1
      rw [if_neg (by simp), List.drop_eq_nil_of_le (by omega)]
      rfl
theorem fill_f (op : Int) (l : List Int) (k : Nat) : whetstoneref05_fill.f (k + 1 + 1) op l = some ((fillR op l).op, (fillR op l).rd, (fillR op l).a, (fillR op l).b, (fillR op l).n) := by
  have e : whetstoneref05_fill.f (k + 1 + 1) op l = whetstoneref05_fill.j0 (k + 1 + 1) op l (formI op) (around op) := by
    unfold whetstoneref05_fill.f around
    rw [form_f]
    simp only [Option.bind_some]
    by_cases h3 : op = 3
    · simp [h3]
    · rw [if_neg h3]
      by_cases h10 : op ≥ 10
      · rw [if_pos h10]
        simp [h3]
        have : decide (10 ≤ op) = true := by simpa using h10
        simp [h10]
      · rw [if_neg h10]
        have : decide (10 ≤ op) = false := by simp; omega
        simp [h3, this]
  rw [e]
  simp only [whetstoneref05_fill.j0]
  unfold fillR
  by_cases h69 : formI op = 69
  · rw [if_pos h69, if_pos h69]
  · rw [if_neg h69, if_neg h69]
    match l with
    | [] => simp [whetstoneref05_fill.j1]
    | [a] => simp [whetstoneref05_fill.j1]
    | [a, b] =>
      by_cases h1 : formI op = 85
      · simp [whetstoneref05_fill.j1, h1, rd]
      · by_cases h2 : formI op = 74
        · simp [whetstoneref05_fill.j1, h2, rd]
        · simp [whetstoneref05_fill.j1, h1, h2, rd]
    | [a, b, c] =>
      by_cases h1 : formI op = 82
      · simp [whetstoneref05_fill.j1, h1, rd]
      · by_cases h2 : formI op = 66
        · simp [whetstoneref05_fill.j1, h2, rd]
        · by_cases h3 : formI op = 83
          · simp [whetstoneref05_fill.j1, h3, rd]
          · by_cases h4 : around op = true
            · simp [whetstoneref05_fill.j1, h1, h2, h3, h4, rd]
            · simp [whetstoneref05_fill.j1, h1, h2, h3, h4, rd]
    | a :: b :: c :: d :: r =>
      have e2 : ¬ (((a :: b :: c :: d :: r).length : Int) = 2) := by simp; omega
      have e3 : ¬ (((a :: b :: c :: d :: r).length : Int) = 3) := by simp; omega
      rw [if_neg e2]
      simp only [whetstoneref05_fill.j1]
      rw [if_neg (by simp), if_neg e3]
theorem extract_bytes (s : List UInt8) (i j : Nat) : (bytesB s).extract i j = bytesB ((s.drop i).take (j - i)) := by
  apply ByteArray.ext
  apply Array.ext'
  simp only [bytesB, ByteArray.data_extract, List.extract_toArray, List.extract_eq_take_drop]
def tryR2 (s : List UInt8) : I5 := fillR (byL (cutB 32 s).1) (numsG (s.length + 12) false (s.drop (cutB 32 s).1.length) [])
theorem parse_same (s : List UInt8) : parseI s (tryR2 s) = parseA s :=
  parseI_same s _ _ (fun z h1 h2 => by subst h2; exact tryR_text h1 _ (by omega)) (fun z h1 h2 => by subst h2; exact tryA_text h1)
theorem parse_j1 (s : List UInt8) (hs : s.length ≤ 100000) (k : Nat) (hk : 12 * s.length + 200 ≤ k) :
    whetstoneref05_Parse.j1 (k + 1) (bytesB s) ((cutB 32 s).1.length : Int) = some ((parseA s).1.op, (parseA s).1.rd, (parseA s).1.a, (parseA s).1.b, (parseA s).1.n, (parseA s).2) := by
  have hc := (cutB_len 32 s).1
  simp only [whetstoneref05_Parse.j1]
  rw [if_pos (by omega), if_pos (by rw [bytesB_size]; omega)]
  have e1 : (bytesB s).extract 0 (((cutB 32 s).1.length : Nat) : Int).toNat = bytesB (cutB 32 s).1 := by
    rw [Int.toNat_natCast, bytesB_take]
    congr 1
    obtain ⟨h1, h2, _⟩ := cutB_parts 32 s
    cases h : (cutB 32 s).2.2 with
    | true => exact (congrArg (List.take (cutB 32 s).1.length) (h1 h)).trans (by simp)
    | false => rw [(h2 h).1, List.take_length]
  have e2 : (bytesB s).extract (((cutB 32 s).1.length : Nat) : Int).toNat (bytesB s).size = bytesB (s.drop (cutB 32 s).1.length) := by
    rw [Int.toNat_natCast, extract_bytes, bytesB_size, ← List.length_drop, List.take_length]
  have hby : whetstoneref05_By.f k (bytesB (cutB 32 s).1) = some (byL (cutB 32 s).1) := by_from _ k 0 (by omega) (by omega)
  have hnu : whetstoneref05_nums.f k (bytesB (s.drop (cutB 32 s).1.length)) = some (numsG (s.length + 12) false (s.drop (cutB 32 s).1.length) []) := by
    have := nums_l0 (s.drop (cutB 32 s).1.length) (by rw [List.length_drop]; omega) (s.length + 12) 0 [] k (by omega) (by rw [List.length_drop]; omega) (by simp) (by omega)
    exact this
  obtain ⟨k, rfl⟩ : ∃ j, k = j + 1 + 1 := ⟨k - 2, by omega⟩
  rw [e1, e2, hby]
  simp only [Option.bind_some]
  rw [hnu]
  simp only [Option.bind_some]
  rw [fill_f]
  simp only [Option.bind_some]
  have hx : fillR (byL (cutB 32 s).1) (numsG (s.length + 12) false (s.drop (cutB 32 s).1.length) []) = tryR2 s := rfl
  rw [hx]
  unfold whetstoneref05_Print.f
  simp only [Option.bind_some]
  rw [← parse_same s]
  unfold parseI
  generalize tryR2 s = x
  obtain ⟨op, rd, a, b, n⟩ := x
  simp only
  by_cases hp : printE ⟨op, rd, a, b, n⟩ = 0
  · rw [if_pos hp, toList_bytes, toList_bytes]
    by_cases ht : printT ⟨op, rd, a, b, n⟩ = s
    · rw [if_pos ht, if_pos ⟨hp, ht⟩]
    · rw [if_neg ht, if_neg (fun h => ht h.2)]; rfl
  · rw [if_neg hp, if_neg (fun h => hp h.1)]; rfl
theorem parse_l0 (s : List UInt8) (hs : s.length ≤ 100000) (k : Nat) (hk : 12 * s.length + 200 ≤ k) : ∀ (d p : Nat), p + d = (cutB 32 s).1.length →
    whetstoneref05_Parse.l0 (k + d + 2) (bytesB s) (p : Int) = some ((parseA s).1.op, (parseA s).1.rd, (parseA s).1.a, (parseA s).1.b, (parseA s).1.n, (parseA s).2)
  | 0, p, h => by
    have hj := parse_j1 s hs k hk
    simp only [whetstoneref05_Parse.l0]
    have hc := (cutB_len 32 s).1
    obtain ⟨h1, h2, h3⟩ := cutB_parts 32 s
    rw [show (p : Nat) = (cutB 32 s).1.length by omega]
    by_cases hlt : (cutB 32 s).1.length < s.length
    · have hf : (cutB 32 s).2.2 = true := by
        cases hq : (cutB 32 s).2.2 with
        | true => rfl
        | false => have := (h2 hq).1; rw [this] at hlt; omega
      have h32 : s[(cutB 32 s).1.length] = 32 := by
        have e := h1 hf
        have e2 : s[(cutB 32 s).1.length]? = some 32 := by
          conv => lhs; arg 1; rw [e]
          simp
        rw [List.getElem?_eq_getElem hlt] at e2
        exact Option.some.inj e2
      rw [if_pos (by rw [bytesB_size]; omega), if_pos (by omega), bt_bytes s _ hlt, if_pos (by rw [h32]; rfl)]
      exact hj
    · rw [if_neg (by rw [bytesB_size]; omega)]
      exact hj
  | d + 1, p, h => by
    have hc := (cutB_len 32 s).1
    obtain ⟨h1, h2, h3⟩ := cutB_parts 32 s
    have hp : p < (cutB 32 s).1.length := by omega
    have hne : s[p]'(by omega) ≠ 32 := fun he => by
      apply h3
      have e2 : (cutB 32 s).1[p]? = some 32 := by
        cases hq : (cutB 32 s).2.2 with
        | true =>
          have e := h1 hq
          have : s[p]? = (cutB 32 s).1[p]? := by
            conv => lhs; arg 1; rw [e]
            rw [List.getElem?_append_left hp]
          rw [← this, List.getElem?_eq_getElem (by omega), he]
        | false => rw [(h2 hq).1, List.getElem?_eq_getElem (by omega), he]
      exact List.mem_of_getElem? e2
    show whetstoneref05_Parse.l0 (k + d + 2 + 1) _ _ = _
    simp only [whetstoneref05_Parse.l0]
    rw [if_pos (by rw [bytesB_size]; omega), if_pos (by omega), bt_bytes s p (by omega), if_neg (fun hh => hne (UInt8.toNat_inj.1 (by exact_mod_cast hh))), wrap64_small (by omega) (by omega)]
    have := parse_l0 s hs k hk d (p + 1) (by omega)
    rw [show ((p + 1 : Nat) : Int) = (p : Int) + 1 by omega] at this
    exact this
theorem parse_f (s : List UInt8) (hs : s.length ≤ 100000) (k : Nat) (hk : 13 * s.length + 202 ≤ k) :
    whetstoneref05_Parse.f k (bytesB s) = some ((parseA s).1.op, (parseA s).1.rd, (parseA s).1.a, (parseA s).1.b, (parseA s).1.n, (parseA s).2) := by
  have hc := (cutB_len 32 s).1
  have := parse_l0 s hs (k - (cutB 32 s).1.length - 2) (by omega) (cutB 32 s).1.length 0 (by omega)
  rw [show k - (cutB 32 s).1.length - 2 + (cutB 32 s).1.length + 2 = k by omega] at this
  exact this
theorem RParse_any (s : List UInt8) (hs : s.length ≤ 100000) (w : World) : Calls Tryz.prog 6 #[.string (bytesB s)] w fun e w' => e = .returned (.tuple #[.agg #[.int .i64 (parseA s).1.op, .int .i64 (parseA s).1.rd, .int .i64 (parseA s).1.a, .int .i64 (parseA s).1.b, .int .i64 (parseA s).1.n], .int .i64 (parseA s).2]) ∧ Below w.heap.size w w' :=
  whetstoneref05_Parse.calls (13 * s.length + 202) _ _ _ _ _ _ _ w (parse_f s hs _ (Nat.le_refl _))
end Go.Proofs.YtdgkbigmdadlaaaGreatDoor
