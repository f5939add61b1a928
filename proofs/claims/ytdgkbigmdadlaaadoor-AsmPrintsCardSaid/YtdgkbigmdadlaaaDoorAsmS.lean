import Derived.Test.YtdgkbigmdadlaaaDoorAsmC
import Derived.Test.YtdgkbigmdadlaaaDoorRefB
namespace Go.Proofs.YtdgkbigmdadlaaaDoor
open Go.RowKit Go.Lib Go.Proofs.YtdgkbigmdadlaaaDoorW.PrintWords Go.Proofs.YtdgkbigmdadlaaaDoorW.PrintLast Go.Proofs.YtdgkbigmdadlaaaDoorW.PrintMore
set_option linter.unusedVariables false
set_option linter.unusedSimpArgs false

/-! What the document's functions tell. -/
theorem wrap64_small {x : Int} (h0 : -9223372036854775808 ≤ x) (h1 : x ≤ 9223372036854775807) : wrap64 x = x := by simp [wrap64]; omega
theorem digit_str (u : Nat) (hu : u < 10) : strOfNums [(48 + (u : Int)) % 256] = bytesB [UInt8.ofNat (48 + u)] := by
  have h : u = 0 ∨ u = 1 ∨ u = 2 ∨ u = 3 ∨ u = 4 ∨ u = 5 ∨ u = 6 ∨ u = 7 ∨ u = 8 ∨ u = 9 := by omega
  rcases h with rfl | rfl | rfl | rfl | rfl | rfl | rfl | rfl | rfl | rfl <;> rfl
theorem num_dec : ∀ (k u : Nat), u < 10 ^ k → u < 1000000000000000 → 0 < k → whetstoneref05_Num.f k (u : Int) = some (bytesB (Lib.decDigits u))
  | 0, u, h, hu, h0 => by omega
  | k + 1, u, h, hu, h0 => by
    unfold whetstoneref05_Num.f
    rw [if_neg (by omega)]
    simp only [Option.bind_some]
    have et : Int.tmod (u : Int) 10 = ((u % 10 : Nat) : Int) := by rw [Int.tmod_eq_emod_of_nonneg (by omega)]; omega
    have ed : Int.tdiv (u : Int) 10 = ((u / 10 : Nat) : Int) := by rw [Int.tdiv_eq_ediv_of_nonneg (by omega)]; omega
    rw [et, ed, wrap64_small (x := 48 + ((u % 10 : Nat) : Int)) (by omega) (by omega), wrap64_small (x := ((u / 10 : Nat) : Int)) (by omega) (by omega), digit_str (u % 10) (by omega)]
    rw [Lib.decDigits]
    by_cases h10 : u < 10
    · rw [if_neg (by omega), dif_pos h10, Nat.mod_eq_of_lt h10]
    · have hk0 : 0 < k := by
        rcases Nat.eq_zero_or_pos k with h | h
        · subst h; simp at *; omega
        · exact h
      rw [if_pos (by omega), dif_neg h10, num_dec k (u / 10) (by rw [Nat.pow_succ] at h; omega) (by omega) hk0]
      simp only [Option.bind_some]
      have hl : (Lib.decDigits (u / 10)).length ≤ 21 := by
        have := Lib.itoa_length_le ((u / 10 : Nat) : Int) (by omega) (by omega)
        rw [Lib.itoa_nonneg] at this
        exact this
      rw [if_pos (by rw [bytesB_size, bytesB_size]; simp; omega), bytesB_app]
theorem Num_f (x : Int) (h0 : -100000000 ≤ x) (h1 : x ≤ 100000000) (k : Nat) (hk : 10 ≤ k) : whetstoneref05_Num.f k x = some (bytesB (Lib.itoa x)) := by
  by_cases h : x < 0
  · obtain ⟨k', rfl⟩ : ∃ k', k = k' + 1 := ⟨k - 1, by omega⟩
    unfold whetstoneref05_Num.f
    rw [if_pos h, wrap64_small (by omega) (by omega)]
    have hp : 10 ^ 9 ≤ 10 ^ k' := Nat.pow_le_pow_right (by decide) (by omega)
    have e9 : (10 : Nat) ^ 9 = 1000000000 := by decide
    have e : -x = ((x.natAbs : Nat) : Int) := by omega
    rw [e, num_dec k' x.natAbs (by omega) (by omega) (by omega)]
    simp only [Option.bind_some]
    have hl : (Lib.decDigits x.natAbs).length ≤ 21 := by
      have := Lib.itoa_length_le ((x.natAbs : Nat) : Int) (by omega) (by omega)
      rw [Lib.itoa_nonneg] at this
      exact this
    rw [if_pos (by rw [bytesB_size]; omega)]
    unfold Lib.itoa
    rw [if_pos h]
    exact congrArg some (bytesB_app [45] _)
  · have e : x = ((x.toNat : Nat) : Int) := by omega
    rw [e, Lib.itoa_nonneg]
    have hp : 10 ^ 9 ≤ 10 ^ k := Nat.pow_le_pow_right (by decide) (by omega)
    have e9 : (10 : Nat) ^ 9 = 1000000000 := by decide
    exact num_dec k x.toNat (by omega) (by omega) (by omega)

theorem names_eq : whetstoneref05_names.f = some (nameTab.map bytesB) := rfl
theorem name_rd (i : Int) (h0 : 0 ≤ i) (h1 : i < 47) : rdOf ByteArray.empty (nameTab.map bytesB) i = bytesB (nameTab.getD i.toNat []) := by
  unfold rdOf
  have hl : i.toNat < nameTab.length := by rw [nameTab_len]; omega
  simp [List.getD_eq_getElem?_getD, List.getElem?_map, List.getElem?_eq_getElem hl]
theorem name_f (op : Int) : whetstoneref05_Name.f op = some (bytesB (nameL op)) := by
  unfold whetstoneref05_Name.f nameL
  rw [names_eq]
  simp only [Option.bind_some]
  have hlen : ((nameTab.map bytesB).length : Int) = 47 := by rw [List.length_map, nameTab_len]; rfl
  rw [hlen]
  by_cases h0 : op < 0
  · rw [if_pos h0, if_pos h0]; rfl
  · rw [if_neg h0, if_neg h0]
    by_cases h1 : op ≥ 47
    · rw [if_pos h1, List.getD_eq_getElem?_getD, List.getElem?_eq_none (by rw [nameTab_len]; omega)]; rfl
    · rw [if_neg h1, if_pos (by omega), if_pos (by omega), name_rd op (by omega) (by omega)]
theorem by_from (s : List UInt8) : ∀ (k i : Nat), 47 < k + i → i ≤ 47 → whetstoneref05_By.l0 k (bytesB s) (i : Int) = some (byFrom (i : Int) (nameTab.drop i) s)
  | 0, i, h, hi => by omega
  | k + 1, i, h, hi => by
    unfold whetstoneref05_By.l0
    rw [names_eq]
    simp only [Option.bind_some]
    have hlen : ((nameTab.map bytesB).length : Int) = 47 := by rw [List.length_map, nameTab_len]; rfl
    rw [hlen]
    by_cases h1 : i < 47
    · have hd : nameTab.drop i = nameTab.getD i [] :: nameTab.drop (i + 1) := by
        rw [List.drop_eq_getElem_cons (by rw [nameTab_len]; exact h1)]
        simp [List.getD_eq_getElem?_getD, List.getElem?_eq_getElem (show i < nameTab.length by rw [nameTab_len]; exact h1)]
      rw [if_pos (by omega), if_pos (by omega), if_pos (by omega), name_rd (i : Int) (by omega) (by omega), toList_bytes, toList_bytes, hd]
      show _ = some (if nameTab.getD i [] = s then (i : Int) else byFrom ((i : Int) + 1) (nameTab.drop (i + 1)) s)
      rw [Int.toNat_natCast, wrap64_small (by omega) (by omega)]
      split
      · rfl
      · have := by_from s k (i + 1) (by omega) (by omega)
        rw [show (((i + 1 : Nat)) : Int) = (i : Int) + 1 by omega] at this
        exact this
    · obtain rfl : i = 47 := by omega
      rw [if_neg (by omega), List.drop_eq_nil_of_le (by rw [nameTab_len]; omega)]
      rfl
theorem by_f (s : List UInt8) : whetstoneref05_By.f 48 (bytesB s) = some (byL s) := by_from s 48 0 (by omega) (by omega)
theorem form_f_nat : ∀ i, i < 47 → whetstoneref02_Form.f (i : Nat) = some (formTab.getD i 0) := by decide +kernel
theorem form_f (op : Int) : whetstoneref02_Form.f op = some (formI op) := by
  by_cases h : 0 ≤ op ∧ op < 47
  · have := form_f_nat op.toNat (by omega)
    rw [show ((op.toNat : Nat) : Int) = op by omega] at this
    rw [this]
    unfold formI
    rw [if_neg (by omega)]
  · rw [form_off h]
    unfold whetstoneref02_Form.f whetstoneref02_forms.f
    by_cases h0 : op < 0
    · rw [if_pos h0]
    · rw [if_neg h0]
      simp only [Option.bind_some]
      exact if_pos (show op ≥ 47 by omega)
theorem form_allN : ∀ i, i < 47 → formTab.getD i 0 = 85 ∨ formTab.getD i 0 = 74 ∨ formTab.getD i 0 = 73 ∨ formTab.getD i 0 = 66 ∨ formTab.getD i 0 = 83 ∨ formTab.getD i 0 = 72 ∨ formTab.getD i 0 = 82 ∨ formTab.getD i 0 = 69 := by decide +kernel
theorem form_all (op : Int) : formI op = 0 ∨ formI op = 85 ∨ formI op = 74 ∨ formI op = 73 ∨ formI op = 66 ∨ formI op = 83 ∨ formI op = 72 ∨ formI op = 82 ∨ formI op = 69 := by
  by_cases h : 0 ≤ op ∧ op < 47
  · right
    unfold formI
    rw [if_neg (by omega)]
    exact form_allN op.toNat (by omega)
  · exact .inl (form_off h)
theorem reg_f (n : Int) (b : Bool) : whetstoneref02_reg.f n b = some (regOk b n) := by
  unfold whetstoneref02_reg.f regOk
  by_cases h : n = 0
  · simp [h]
  · rw [if_neg h]
    cases b
    · simp [h]
    · simp only [if_true, Bool.true_and, h, decide_false, Bool.or_false]
      by_cases h1 : n > 0
      · rw [if_pos h1]
        have e : decide (0 ≤ n) = true := by simp; omega
        rw [e, Bool.true_and]
        congr 1
        rw [decide_eq_decide]
        omega
      · rw [if_neg h1]
        have e : decide (0 ≤ n) = false := by simp; omega
        rw [e, Bool.false_and]
def spanF (f : Int) : Int × Int × Int :=
  if f = 85 then (0, 1048575, 1) else if f = 74 then (-1048576, 1048574, 2) else if f = 73 ∨ f = 83 then (-2048, 2047, 1) else if f = 66 then (-4096, 4094, 2) else if f = 72 then (0, 31, 1) else (0, 0, 1)
theorem closed_f (f : Int) (h : f = 0 ∨ f = 85 ∨ f = 74 ∨ f = 73 ∨ f = 66 ∨ f = 83 ∨ f = 72 ∨ f = 82 ∨ f = 69) :
    whetstoneref02_span.f 9 f = some (spanF f) ∧ whetstoneref02_in.f 9 f ⟨#[85, 74, 73, 72, 82]⟩ = some (has1 f) ∧ whetstoneref02_in.f 9 f ⟨#[73, 72, 66, 83, 82]⟩ = some (has2 f) ∧ whetstoneref02_in.f 9 f ⟨#[66, 83, 82]⟩ = some (has3 f) := by
  rcases h with rfl | rfl | rfl | rfl | rfl | rfl | rfl | rfl | rfl <;> exact ⟨by kernel_rfl, by kernel_rfl, by kernel_rfl, by kernel_rfl⟩
theorem beq_dec0 (n : Int) : (n == 0) = decide (n = 0) := by by_cases h : n = 0 <;> simp [h]
theorem num_last (f n : Int) : (if n ≥ (spanF f).1 then (if n ≤ (spanF f).2.1 then (if (spanF f).2.2 = 0 then (none : Option Bool) else some ((Int.tmod n (spanF f).2.2) == 0)) else some false) else some false) = some (numOk f n) := by
  unfold spanF numOk
  have key : ∀ lo hi : Int, (if n ≥ lo then (if n ≤ hi then (if (1 : Int) = 0 then (none : Option Bool) else some ((Int.tmod n 1) == 0)) else some false) else some false) = some (decide (lo ≤ n) && decide (n ≤ hi)) := fun lo hi => by
    by_cases h1 : n ≥ lo <;> by_cases h2 : n ≤ hi <;> simp [h1, h2] <;> omega
  have key2 : ∀ lo hi : Int, (if n ≥ lo then (if n ≤ hi then (if (2 : Int) = 0 then (none : Option Bool) else some ((Int.tmod n 2) == 0)) else some false) else some false) = some ((decide (lo ≤ n) && decide (n ≤ hi)) && decide (n.tmod 2 = 0)) := fun lo hi => by
    by_cases h1 : n ≥ lo <;> by_cases h2 : n ≤ hi <;> simp [h1, h2, beq_dec0]
  have key0 : (if n ≥ 0 then (if n ≤ 0 then (if (1 : Int) = 0 then (none : Option Bool) else some ((Int.tmod n 1) == 0)) else some false) else some false) = some (decide (n = 0)) := by
    rw [key 0 0]
    congr 1
    by_cases h : n = 0
    · simp [h]
    · simp [h]; omega
  by_cases h1 : f = 85
  · simp only [h1, if_true]; exact key _ _
  by_cases h2 : f = 74
  · simp only [h1, h2, if_true, if_false]; exact key2 _ _
  by_cases h3 : f = 73 ∨ f = 83
  · simp only [h1, h2, h3, if_true, if_false]; exact key _ _
  by_cases h4 : f = 66
  · simp only [h1, h2, h3, h4, if_true, if_false]; exact key2 _ _
  by_cases h5 : f = 72
  · simp only [h1, h2, h3, h4, h5, if_true, if_false]; exact key _ _
  · simp only [h1, h2, h3, h4, h5, if_false]; exact key0
theorem right_f (x : I5) : whetstoneref02_Right.f 9 x.op x.rd x.a x.b x.n = some (rightI x) := by
  have hc := form_all x.op
  unfold whetstoneref02_Right.f rightI
  rw [form_f]
  generalize formI x.op = f at hc ⊢
  obtain ⟨h1, h2, h3, h4⟩ := closed_f f hc
  simp only [Option.bind_some, h1, h2, h3, h4, reg_f, num_last]
  by_cases hf : f = 0
  · simp [hf]
  · simp only [hf, if_false, decide_false, Bool.not_false, Bool.true_and]
    cases regOk (has1 f) x.rd <;> cases regOk (has2 f) x.a <;> cases regOk (has3 f) x.b <;> simp
theorem RName_any (op : Int) (w : World) : Calls Tryd.prog 13 #[.int .i64 op] w fun e w' => e = .returned (.string (bytesB (nameL op))) ∧ Below w.heap.size w w' :=
  whetstoneref05_Name.calls op _ w (name_f op)
theorem RBy_any (s : List UInt8) (w : World) : Calls Tryd.prog 15 #[.string (bytesB s)] w fun e w' => e = .returned (.int .i64 (byL s)) ∧ Below w.heap.size w w' :=
  whetstoneref05_By.calls 48 _ _ w (by_f s)
theorem RForm_any (op : Int) (w : World) : Calls Tryd.prog 29 #[.int .i64 op] w fun e w' => e = .returned (.int .u8 (formI op)) ∧ Below w.heap.size w w' :=
  (whetstoneref02_Form.calls op _ w (form_f op)).mono fun e w' ⟨h1, h2⟩ => ⟨h1, by obtain ⟨k, rfl⟩ := h2; exact bel_drewN _ _⟩
theorem RRight_any (x : I5) (w : World) : Calls Tryd.prog 27 #[.agg #[.int .i64 x.op, .int .i64 x.rd, .int .i64 x.a, .int .i64 x.b, .int .i64 x.n]] w fun e w' => e = .returned (.bool (rightI x)) ∧ Below w.heap.size w w' :=
  whetstoneref02_Right.calls 9 x.op x.rd x.a x.b x.n _ w (right_f x)
theorem RNum_any (x : Int) (h0 : -100000000 ≤ x) (h1 : x ≤ 100000000) (w : World) : Calls Tryd.prog 28 #[.int .i64 x] w fun e w' => e = .returned (.string (itoaB x)) ∧ Below w.heap.size w w' :=
  whetstoneref05_Num.calls 10 x (itoaB x) w (Num_f x h0 h1 10 (Nat.le_refl _))
end Go.Proofs.YtdgkbigmdadlaaaDoor
