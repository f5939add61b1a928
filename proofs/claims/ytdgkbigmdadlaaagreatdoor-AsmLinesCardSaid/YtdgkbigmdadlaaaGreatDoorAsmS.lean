import Derived.Test.YtdgkbigmdadlaaaGreatDoorAsmE
import Derived.Deep.QuietTactic
import Derived.BigQuiet
import Derived.Test.YtdgkbigmdadlaaaGreatDoorRefB
namespace Go.Proofs.YtdgkbigmdadlaaaGreatDoor
open Go.RowKit Go.Lib Go.Proofs.YtdgkbigmdadlaaaGreatDoorW.PrintWords Go.Proofs.YtdgkbigmdadlaaaGreatDoorW.PrintLast Go.Proofs.YtdgkbigmdadlaaaGreatDoorW.PrintMore
set_option linter.unusedVariables false
set_option linter.unusedSimpArgs false

/-! What the document's functions tell. -/
theorem wrap64_small {x : Int} (h0 : -9223372036854775808 ≤ x) (h1 : x ≤ 9223372036854775807) : wrap64 x = x := by simp [wrap64]; omega
theorem digit_str (u : Nat) (hu : u < 10) : strOfNums [(48 + (u : Int)) % 256] = bytesB [UInt8.ofNat (48 + u)] := by
  have h : u = 0 ∨ u = 1 ∨ u = 2 ∨ u = 3 ∨ u = 4 ∨ u = 5 ∨ u = 6 ∨ u = 7 ∨ u = 8 ∨ u = 9 := by omega
  rcases h with rfl | rfl | rfl | rfl | rfl | rfl | rfl | rfl | rfl | rfl <;> rfl
theorem num_dec : ∀ (k u : Nat), u < 10 ^ k → u < 1000000000000000 → 0 < k → whetstoneref05_Num.f k (u : Int) = some (bytesB (Lib.decDigits u))
  | 0, u, h, hu, h0 => by omega
  | k + 1, u, h, hu, h0 => by
    unfold whetstoneref05_Num.f
    rw [if_neg (by omega)]
    simp only [Option.bind_some]
    have et : Int.tmod (u : Int) 10 = ((u % 10 : Nat) : Int) := by rw [Int.tmod_eq_emod_of_nonneg (by omega)]; omega
    have ed : Int.tdiv (u : Int) 10 = ((u / 10 : Nat) : Int) := by rw [Int.tdiv_eq_ediv_of_nonneg (by omega)]; omega
    rw [et, ed, wrap64_small (x := 48 + ((u % 10 : Nat) : Int)) (by omega) (by omega), wrap64_small (x := ((u / 10 : Nat) : Int)) (by omega) (by omega), digit_str (u % 10) (by omega)]
    rw [Lib.decDigits]
    by_cases h10 : u < 10
    · rw [if_neg (by omega), dif_pos h10, Nat.mod_eq_of_lt h10]
    · have hk0 : 0 < k := by
        rcases Nat.eq_zero_or_pos k with h | h
        · subst h; simp at *; omega
        · exact h
      rw [if_pos (by omega), dif_neg h10, num_dec k (u / 10) (by rw [Nat.pow_succ] at h; omega) (by omega) hk0]
      simp only [Option.bind_some]
      have hl : (Lib.decDigits (u / 10)).length ≤ 21 := by
        have := Lib.itoa_length_le ((u / 10 : Nat) : Int) (by omega) (by omega)
        rw [Lib.itoa_nonneg] at this
        exact this
      rw [if_pos (by rw [bytesB_size, bytesB_size]; simp; omega), bytesB_app]
theorem Num_f (x : Int) (h0 : -100000000 ≤ x) (h1 : x ≤ 100000000) (k : Nat) (hk : 10 ≤ k) : whetstoneref05_Num.f k x = some (bytesB (Lib.itoa x)) := by
  by_cases h : x < 0
  · obtain ⟨k', rfl⟩ : ∃ k', k = k' + 1 := ⟨k - 1, by omega⟩
    unfold whetstoneref05_Num.f
    rw [if_pos h, wrap64_small (by omega) (by omega)]
    have hp : 10 ^ 9 ≤ 10 ^ k' := Nat.pow_le_pow_right (by decide) (by omega)
    have e9 : (10 : Nat) ^ 9 = 1000000000 := by decide
    have e : -x = ((x.natAbs : Nat) : Int) := by omega
    rw [e, num_dec k' x.natAbs (by omega) (by omega) (by omega)]
    simp only [Option.bind_some]
    have hl : (Lib.decDigits x.natAbs).length ≤ 21 := by
      have := Lib.itoa_length_le ((x.natAbs : Nat) : Int) (by omega) (by omega)
      rw [Lib.itoa_nonneg] at this
      exact this
    rw [if_pos (by rw [bytesB_size]; omega)]
    unfold Lib.itoa
    rw [if_pos h]
    exact congrArg some (bytesB_app [45] _)
  · have e : x = ((x.toNat : Nat) : Int) := by omega
    rw [e, Lib.itoa_nonneg]
    have hp : 10 ^ 9 ≤ 10 ^ k := Nat.pow_le_pow_right (by decide) (by omega)
    have e9 : (10 : Nat) ^ 9 = 1000000000 := by decide
    exact num_dec k x.toNat (by omega) (by omega) (by omega)

theorem names_eq : whetstoneref05_names.f = some (nameTab.map bytesB) := rfl
theorem name_rd (i : Int) (h0 : 0 ≤ i) (h1 : i < 47) : rdOf ByteArray.empty (nameTab.map bytesB) i = bytesB (nameTab.getD i.toNat []) := by
  unfold rdOf
  have hl : i.toNat < nameTab.length := by rw [nameTab_len]; omega
  simp [List.getD_eq_getElem?_getD, List.getElem?_map, List.getElem?_eq_getElem hl]
theorem name_f (op : Int) : whetstoneref05_Name.f op = some (bytesB (nameL op)) := by
  unfold whetstoneref05_Name.f nameL
  rw [names_eq]
  simp only [Option.bind_some]
  have hlen : ((nameTab.map bytesB).length : Int) = 47 := by rw [List.length_map, nameTab_len]; rfl
  rw [hlen]
  by_cases h0 : op < 0
  · rw [if_pos h0, if_pos h0]; rfl
  · rw [if_neg h0, if_neg h0]
    by_cases h1 : op ≥ 47
    · rw [if_pos h1, List.getD_eq_getElem?_getD, List.getElem?_eq_none (by rw [nameTab_len]; omega)]; rfl
    · rw [if_neg h1, if_pos (by omega), if_pos (by omega), name_rd op (by omega) (by omega)]
theorem by_from (s : List UInt8) : ∀ (k i : Nat), 47 < k + i → i ≤ 47 → whetstoneref05_By.l0 k (bytesB s) (i : Int) = some (byFrom (i : Int) (nameTab.drop i) s)
  | 0, i, h, hi => by omega
  | k + 1, i, h, hi => by
    unfold whetstoneref05_By.l0
    rw [names_eq]
    simp only [Option.bind_some]
    have hlen : ((nameTab.map bytesB).length : Int) = 47 := by rw [List.length_map, nameTab_len]; rfl
    rw [hlen]
    by_cases h1 : i < 47
    · have hd : nameTab.drop i = nameTab.getD i [] :: nameTab.drop (i + 1) := by
        rw [List.drop_eq_getElem_cons (by rw [nameTab_len]; exact h1)]
        simp [List.getD_eq_getElem?_getD, List.getElem?_eq_getElem (show i < nameTab.length by rw [nameTab_len]; exact h1)]
      rw [if_pos (by omega), if_pos (by omega), if_pos (by omega), name_rd (i : Int) (by omega) (by omega), toList_bytes, toList_bytes, hd]
      show _ = some (if nameTab.getD i [] = s then (i : Int) else byFrom ((i : Int) + 1) (nameTab.drop (i + 1)) s)
      rw [Int.toNat_natCast, wrap64_small (by omega) (by omega)]
      split
      · rfl
      · have := by_from s k (i + 1) (by omega) (by omega)
        rw [show (((i + 1 : Nat)) : Int) = (i : Int) + 1 by omega] at this
        exact this
    · obtain rfl : i = 47 := by omega
      rw [if_neg (by omega), List.drop_eq_nil_of_le (by rw [nameTab_len]; omega)]
      rfl
theorem by_f (s : List UInt8) : whetstoneref05_By.f 48 (bytesB s) = some (byL s) := by_from s 48 0 (by omega) (by omega)
theorem form_f_nat : ∀ i, i < 47 → whetstoneref02_Form.f (i : Nat) = some (formTab.getD i 0) := by decide +kernel
theorem form_f (op : Int) : whetstoneref02_Form.f op = some (formI op) := by
  by_cases h : 0 ≤ op ∧ op < 47
  · have := form_f_nat op.toNat (by omega)
    rw [show ((op.toNat : Nat) : Int) = op by omega] at this
    rw [this]
    unfold formI
    rw [if_neg (by omega)]
  · rw [form_off h]
    unfold whetstoneref02_Form.f whetstoneref02_forms.f
    by_cases h0 : op < 0
    · rw [if_pos h0]
    · rw [if_neg h0]
      simp only [Option.bind_some]
      exact if_pos (show op ≥ 47 by omega)
theorem form_allN : ∀ i, i < 47 → formTab.getD i 0 = 85 ∨ formTab.getD i 0 = 74 ∨ formTab.getD i 0 = 73 ∨ formTab.getD i 0 = 66 ∨ formTab.getD i 0 = 83 ∨ formTab.getD i 0 = 72 ∨ formTab.getD i 0 = 82 ∨ formTab.getD i 0 = 69 := by decide +kernel
theorem form_all (op : Int) : formI op = 0 ∨ formI op = 85 ∨ formI op = 74 ∨ formI op = 73 ∨ formI op = 66 ∨ formI op = 83 ∨ formI op = 72 ∨ formI op = 82 ∨ formI op = 69 := by
  by_cases h : 0 ≤ op ∧ op < 47
  · right
    unfold formI
    rw [if_neg (by omega)]
    exact form_allN op.toNat (by omega)
  · exact .inl (form_off h)
theorem reg_f (n : Int) (b : Bool) : whetstoneref02_reg.f n b = some (regOk b n) := by
  unfold whetstoneref02_reg.f regOk
  by_cases h : n = 0
  · simp [h]
  · rw [if_neg h]
    cases b
    · simp [h]
    · simp only [if_true, Bool.true_and, h, decide_false, Bool.or_false]
      by_cases h1 : n > 0
      · rw [if_pos h1]
        have e : decide (0 ≤ n) = true := by simp; omega
        rw [e, Bool.true_and]
        congr 1
        rw [decide_eq_decide]
        omega
      · rw [if_neg h1]
        have e : decide (0 ≤ n) = false := by simp; omega
        rw [e, Bool.false_and]
def spanF (f : Int) : Int × Int × Int :=
  if f = 85 then (0, 1048575, 1) else if f = 74 then (-1048576, 1048574, 2) else if f = 73 ∨ f = 83 then (-2048, 2047, 1) else if f = 66 then (-4096, 4094, 2) else if f = 72 then (0, 31, 1) else (0, 0, 1)
theorem closed_f (f : Int) (h : f = 0 ∨ f = 85 ∨ f = 74 ∨ f = 73 ∨ f = 66 ∨ f = 83 ∨ f = 72 ∨ f = 82 ∨ f = 69) :
    whetstoneref02_span.f 9 f = some (spanF f) ∧ whetstoneref02_in.f 9 f ⟨#[85, 74, 73, 72, 82]⟩ = some (has1 f) ∧ whetstoneref02_in.f 9 f ⟨#[73, 72, 66, 83, 82]⟩ = some (has2 f) ∧ whetstoneref02_in.f 9 f ⟨#[66, 83, 82]⟩ = some (has3 f) := by
  rcases h with rfl | rfl | rfl | rfl | rfl | rfl | rfl | rfl | rfl <;> exact ⟨by kernel_rfl, by kernel_rfl, by kernel_rfl, by kernel_rfl⟩
theorem beq_dec0 (n : Int) : (n == 0) = decide (n = 0) := by by_cases h : n = 0 <;> simp [h]
theorem num_last (f n : Int) : (if n ≥ (spanF f).1 then (if n ≤ (spanF f).2.1 then (if (spanF f).2.2 = 0 then (none : Option Bool) else some ((Int.tmod n (spanF f).2.2) == 0)) else some false) else some false) = some (numOk f n) := by
  unfold spanF numOk
  have key : ∀ lo hi : Int, (if n ≥ lo then (if n ≤ hi then (if (1 : Int) = 0 then (none : Option Bool) else some ((Int.tmod n 1) == 0)) else some false) else some false) = some (decide (lo ≤ n) && decide (n ≤ hi)) := fun lo hi => by
    by_cases h1 : n ≥ lo <;> by_cases h2 : n ≤ hi <;> simp [h1, h2] <;> omega
  have key2 : ∀ lo hi : Int, (if n ≥ lo then (if n ≤ hi then (if (2 : Int) = 0 then (none : Option Bool) else some ((Int.tmod n 2) == 0)) else some false) else some false) = some ((decide (lo ≤ n) && decide (n ≤ hi)) && decide (n.tmod 2 = 0)) := fun lo hi => by
    by_cases h1 : n ≥ lo <;> by_cases h2 : n ≤ hi <;> simp [h1, h2, beq_dec0]
  have key0 : (if n ≥ 0 then (if n ≤ 0 then (if (1 : Int) = 0 then (none : Option Bool) else some ((Int.tmod n 1) == 0)) else some false) else some false) = some (decide (n = 0)) := by
    rw [key 0 0]
    congr 1
    by_cases h : n = 0
    · simp [h]
    · simp [h]; omega
  by_cases h1 : f = 85
  · simp only [h1, if_true]; exact key _ _
  by_cases h2 : f = 74
  · simp only [h1, h2, if_true, if_false]; exact key2 _ _
  by_cases h3 : f = 73 ∨ f = 83
  · simp only [h1, h2, h3, if_true, if_false]; exact key _ _
  by_cases h4 : f = 66
  · simp only [h1, h2, h3, h4, if_true, if_false]; exact key2 _ _
  by_cases h5 : f = 72
  · simp only [h1, h2, h3, h4, h5, if_true, if_false]; exact key _ _
  · simp only [h1, h2, h3, h4, h5, if_false]; exact key0
theorem span_step (f : Int) : (spanF f).2.2 = 1 ∨ (spanF f).2.2 = 2 := by
  unfold spanF
  repeat' split
  all_goals simp
theorem num_if (f n : Int) : numOk f n = if n ≥ (spanF f).1 then (if n ≤ (spanF f).2.1 then ((Int.tmod n (spanF f).2.2) == 0) else false) else false := by
  have h := num_last f n
  have hs := span_step f
  rw [if_neg (c := (spanF f).2.2 = 0) (by omega)] at h
  by_cases h1 : n ≥ (spanF f).1
  · rw [if_pos h1] at h ⊢
    by_cases h2 : n ≤ (spanF f).2.1
    · rw [if_pos h2] at h ⊢
      exact (Option.some.inj h).symm
    · rw [if_neg h2] at h ⊢
      exact (Option.some.inj h).symm
  · rw [if_neg h1] at h ⊢
    exact (Option.some.inj h).symm
theorem RName_any (op : Int) (w : World) : Calls Tryz.prog 43 #[.int .i64 op] w fun e w' => e = .returned (.string (bytesB (nameL op))) ∧ Below w.heap.size w w' :=
  whetstoneref05_Name.calls op _ w (name_f op)
theorem RBy_any (s : List UInt8) (w : World) : Calls Tryz.prog 19 #[.string (bytesB s)] w fun e w' => e = .returned (.int .i64 (byL s)) ∧ Below w.heap.size w w' :=
  whetstoneref05_By.calls 48 _ _ w (by_f s)
theorem calls_below {P : Program} {f : Nat} {args : Array Value} {W : World} {r : Ending} (h : Calls P f args W fun e w' => e = r ∧ Drawn0 W w') : Calls P f args W fun e w' => e = r ∧ Below W.heap.size W w' :=
  h.mono fun e w' ⟨h1, h2⟩ => ⟨h1, by obtain ⟨k, rfl⟩ := h2; exact bel_drewN _ _⟩
theorem drawn_out {P : Program} {f : Nat} {args : Array Value} {W : World} {r : Ending} (h : Calls P f args W fun e w' => e = r ∧ Drawn0 W w') : Calls P f args W fun e w' => e = r ∧ ∃ k, w' = W.drewN k :=
  h.mono fun e w' ⟨h1, h2⟩ => ⟨h1, h2.out⟩
theorem RForm_any (op : Int) (w : World) : Calls Tryz.prog 38 #[.int .i64 op] w fun e w' => e = .returned (.int .u8 (formI op)) ∧ Below w.heap.size w w' :=
  (whetstoneref02_Form.calls op _ w (form_f op)).mono fun e w' ⟨h1, h2⟩ => ⟨h1, by obtain ⟨k, rfl⟩ := h2; exact bel_drewN _ _⟩
set_option maxHeartbeats 8000000 in
set_option maxRecDepth 100000 in
theorem RRight_any (x : I5) (w : World) : Calls Tryz.prog 41 #[.agg #[.int .i64 x.op, .int .i64 x.rd, .int .i64 x.a, .int .i64 x.b, .int .i64 x.n]] w fun e w' => e = .returned (.bool (rightI x)) ∧ Below w.heap.size w w' := by
  have HX := Aside0.mk (Box5.new w x 23)
  have HF := Aside0.mk (fun (W : World) => RForm_any x.op W)
  have hc := form_all x.op
  obtain ⟨s1, s2, s3, s4⟩ := closed_f (formI x.op) hc
  have Hst := Aside0.mk (span_step (formI x.op))
  have HS := Aside0.mk (fun (W : World) => calls_below (whetstoneref02_span.calls 9 (formI x.op) (spanF (formI x.op)).1 (spanF (formI x.op)).2.1 (spanF (formI x.op)).2.2 W s1))
  have HI1 := Aside0.mk (fun (W : World) => drawn_out (whetstoneref02_in.calls 9 (formI x.op) ⟨#[85, 74, 73, 72, 82]⟩ (has1 (formI x.op)) W s2))
  have HI2 := Aside0.mk (fun (W : World) => drawn_out (whetstoneref02_in.calls 9 (formI x.op) ⟨#[73, 72, 66, 83, 82]⟩ (has2 (formI x.op)) W s3))
  have HI3 := Aside0.mk (fun (W : World) => drawn_out (whetstoneref02_in.calls 9 (formI x.op) ⟨#[66, 83, 82]⟩ (has3 (formI x.op)) W s4))
  have HG1 := Aside0.mk (fun (W : World) => drawn_out (whetstoneref02_reg.calls x.rd (has1 (formI x.op)) (regOk (has1 (formI x.op)) x.rd) W (reg_f _ _)))
  have HG2 := Aside0.mk (fun (W : World) => drawn_out (whetstoneref02_reg.calls x.a (has2 (formI x.op)) (regOk (has2 (formI x.op)) x.a) W (reg_f _ _)))
  have HG3 := Aside0.mk (fun (W : World) => drawn_out (whetstoneref02_reg.calls x.b (has3 (formI x.op)) (regOk (has3 (formI x.op)) x.b) W (reg_f _ _)))
  unfold rightI
  rw [num_if]
  clear s1 s2 s3 s4 hc
  generalize has1 (formI x.op) = b1 at *
  generalize has2 (formI x.op) = b2 at *
  generalize has3 (formI x.op) = b3 at *
  generalize regOk b1 x.rd = r1 at *
  generalize regOk b2 x.a = r2 at *
  generalize regOk b3 x.b = r3 at *
  generalize (spanF (formI x.op)).1 = lo at *
  generalize (spanF (formI x.op)).2.1 = hi at *
  generalize (spanF (formI x.op)).2.2 = st at *
  generalize formI x.op = f at *
  go_enter Tryz.func41, Tryz.ntmps41
  obtain ⟨k0, k1, k2, k3, k4⟩ := HX.out
  go_wp2_with fail
  refine (HF.out _).mono ?_
  rintro e W1 ⟨rfl, hb⟩
  have HX1 := Aside0.mk (HX.out.below hb)
  have HB1 := Aside0.mk (below_after (bel1 w (.cells #[.int .i64 x.op, .int .i64 x.rd, .int .i64 x.a, .int .i64 x.b, .int .i64 x.n] 23)) hb (Nat.le_refl _))
  clear hb HX k0 k1 k2 k3 k4
  go_wp2_with fail
  refine (HS.out _).mono ?_
  rintro e W2 ⟨rfl, hb⟩
  have HX2 := Aside0.mk (HX1.out.below hb)
  have HB2 := Aside0.mk (below_after HB1.out hb (Nat.le_refl _))
  clear hb HX1 HB1
  obtain ⟨k0, k1, k2, k3, k4⟩ := HX2.out
  clear k0
  by_cases hf : f = 0
  · have hf2 : (f == 0) = true := by simpa using hf
    have hf4 : (f != 0) = false := by simpa using hf
    have hf3 : decide (f = 0) = true := by simpa using hf
    clear hf
    go_wp2_with fail
    go_quiet (first | (go_at_call 61; with_reducible exact Calls.quiet_of (HI1.out _)) | (go_at_call 61; with_reducible exact Calls.quiet_of (HI2.out _)) | (go_at_call 61; with_reducible exact Calls.quiet_of (HI3.out _)) | (go_at_call 60; with_reducible exact Calls.quiet_of (HG1.out _)) | (go_at_call 60; with_reducible exact Calls.quiet_of (HG2.out _)) | (go_at_call 60; with_reducible exact Calls.quiet_of (HG3.out _)))
    go_wp2
    all_goals go_ret
    all_goals exact ⟨by simp, by first | exact pw_below_drewN HB2.out _ | exact HB2.out | exact pw_below_drewN (pw_below_drewN HB2.out _) _⟩
  · have hf2 : (f == 0) = false := by simpa using hf
    have hf3 : decide (f = 0) = false := by simpa using hf
    have hf4 : (f != 0) = true := by simpa using hf
    clear hf
    cases r1
    · go_wp2_with fail
      go_quiet (first | (go_at_call 61; with_reducible exact Calls.quiet_of (HI1.out _)) | (go_at_call 61; with_reducible exact Calls.quiet_of (HI2.out _)) | (go_at_call 61; with_reducible exact Calls.quiet_of (HI3.out _)) | (go_at_call 60; with_reducible exact Calls.quiet_of (HG1.out _)) | (go_at_call 60; with_reducible exact Calls.quiet_of (HG2.out _)) | (go_at_call 60; with_reducible exact Calls.quiet_of (HG3.out _)))
      go_wp2
      all_goals go_ret
      all_goals exact ⟨by simp, by first | exact pw_below_drewN HB2.out _ | exact HB2.out | exact pw_below_drewN (pw_below_drewN HB2.out _) _⟩
    cases r2
    · go_wp2_with fail
      go_quiet (first | (go_at_call 61; with_reducible exact Calls.quiet_of (HI1.out _)) | (go_at_call 61; with_reducible exact Calls.quiet_of (HI2.out _)) | (go_at_call 61; with_reducible exact Calls.quiet_of (HI3.out _)) | (go_at_call 60; with_reducible exact Calls.quiet_of (HG1.out _)) | (go_at_call 60; with_reducible exact Calls.quiet_of (HG2.out _)) | (go_at_call 60; with_reducible exact Calls.quiet_of (HG3.out _)))
      go_wp2
      all_goals go_ret
      all_goals exact ⟨by simp, by first | exact pw_below_drewN HB2.out _ | exact HB2.out | exact pw_below_drewN (pw_below_drewN HB2.out _) _⟩
    cases r3
    · go_wp2_with fail
      go_quiet (first | (go_at_call 61; with_reducible exact Calls.quiet_of (HI1.out _)) | (go_at_call 61; with_reducible exact Calls.quiet_of (HI2.out _)) | (go_at_call 61; with_reducible exact Calls.quiet_of (HI3.out _)) | (go_at_call 60; with_reducible exact Calls.quiet_of (HG1.out _)) | (go_at_call 60; with_reducible exact Calls.quiet_of (HG2.out _)) | (go_at_call 60; with_reducible exact Calls.quiet_of (HG3.out _)))
      go_wp2
      all_goals go_ret
      all_goals exact ⟨by simp, by first | exact pw_below_drewN HB2.out _ | exact HB2.out | exact pw_below_drewN (pw_below_drewN HB2.out _) _⟩
    by_cases h1 : lo ≤ x.n
    · have d1 : decide (lo ≤ x.n) = true := by simpa using h1
      by_cases h2 : x.n ≤ hi
      · have d2 : decide (x.n ≤ hi) = true := by simpa using h2
        rcases Hst.out with rfl | rfl
        · go_wp2_with fail
          go_quiet (first | (go_at_call 61; with_reducible exact Calls.quiet_of (HI1.out _)) | (go_at_call 61; with_reducible exact Calls.quiet_of (HI2.out _)) | (go_at_call 61; with_reducible exact Calls.quiet_of (HI3.out _)) | (go_at_call 60; with_reducible exact Calls.quiet_of (HG1.out _)) | (go_at_call 60; with_reducible exact Calls.quiet_of (HG2.out _)) | (go_at_call 60; with_reducible exact Calls.quiet_of (HG3.out _)))
          go_wp2
          all_goals go_ret
          all_goals exact ⟨by simp, by first | exact pw_below_drewN HB2.out _ | exact HB2.out | exact pw_below_drewN (pw_below_drewN HB2.out _) _⟩
        · go_wp2_with fail
          go_quiet (first | (go_at_call 61; with_reducible exact Calls.quiet_of (HI1.out _)) | (go_at_call 61; with_reducible exact Calls.quiet_of (HI2.out _)) | (go_at_call 61; with_reducible exact Calls.quiet_of (HI3.out _)) | (go_at_call 60; with_reducible exact Calls.quiet_of (HG1.out _)) | (go_at_call 60; with_reducible exact Calls.quiet_of (HG2.out _)) | (go_at_call 60; with_reducible exact Calls.quiet_of (HG3.out _)))
          go_wp2
          all_goals go_ret
          all_goals exact ⟨by simp, by first | exact pw_below_drewN HB2.out _ | exact HB2.out | exact pw_below_drewN (pw_below_drewN HB2.out _) _⟩
      · have d2 : decide (x.n ≤ hi) = false := by simpa using h2
        go_wp2_with fail
        go_quiet (first | (go_at_call 61; with_reducible exact Calls.quiet_of (HI1.out _)) | (go_at_call 61; with_reducible exact Calls.quiet_of (HI2.out _)) | (go_at_call 61; with_reducible exact Calls.quiet_of (HI3.out _)) | (go_at_call 60; with_reducible exact Calls.quiet_of (HG1.out _)) | (go_at_call 60; with_reducible exact Calls.quiet_of (HG2.out _)) | (go_at_call 60; with_reducible exact Calls.quiet_of (HG3.out _)))
        go_wp2
        all_goals go_ret
        all_goals exact ⟨by simp, by first | exact pw_below_drewN HB2.out _ | exact HB2.out | exact pw_below_drewN (pw_below_drewN HB2.out _) _⟩
    · have d1 : decide (lo ≤ x.n) = false := by simpa using h1
      go_wp2_with fail
      go_quiet (first | (go_at_call 61; with_reducible exact Calls.quiet_of (HI1.out _)) | (go_at_call 61; with_reducible exact Calls.quiet_of (HI2.out _)) | (go_at_call 61; with_reducible exact Calls.quiet_of (HI3.out _)) | (go_at_call 60; with_reducible exact Calls.quiet_of (HG1.out _)) | (go_at_call 60; with_reducible exact Calls.quiet_of (HG2.out _)) | (go_at_call 60; with_reducible exact Calls.quiet_of (HG3.out _)))
      go_wp2
      all_goals go_ret
      all_goals exact ⟨by simp, by first | exact pw_below_drewN HB2.out _ | exact HB2.out | exact pw_below_drewN (pw_below_drewN HB2.out _) _⟩
theorem RNum_any (x : Int) (h0 : -100000000 ≤ x) (h1 : x ≤ 100000000) (w : World) : Calls Tryz.prog 42 #[.int .i64 x] w fun e w' => e = .returned (.string (itoaB x)) ∧ Below w.heap.size w w' :=
  whetstoneref05_Num.calls 10 x (itoaB x) w (Num_f x h0 h1 10 (Nat.le_refl _))
end Go.Proofs.YtdgkbigmdadlaaaGreatDoor
