import Derived.Test.YtjifancgekoenaaGreatDoorCnfM
import Derived.Stop.FmtTextWidths
namespace Go.Proofs.YtjifancgekoenaaGreatDoor
open Go.RowKit Go.Proofs.YtjifancgekoenaaGreatDoorW.PrintWords Go.Proofs.YtjifancgekoenaaGreatDoorW.PrintLast
set_option linter.unusedVariables false
set_option linter.unusedSimpArgs false

theorem dec_mem (u : Nat) : ∀ c ∈ Lib.decDigits u, 48 ≤ c.toNat ∧ c.toNat ≤ 57 := by
  induction u using Nat.strongRecOn with
  | _ u ih =>
    intro c hc
    rw [Lib.decDigits] at hc
    split at hc
    · simp only [List.mem_cons, List.not_mem_nil, or_false] at hc
      subst hc
      simp; omega
    · rcases List.mem_append.1 hc with hc | hc
      · exact ih (u / 10) (by omega) c hc
      · simp only [List.mem_cons, List.not_mem_nil, or_false] at hc
        subst hc
        have : u % 10 < 10 := Nat.mod_lt _ (by decide)
        simp; omega
theorem dec_ne (u : Nat) : Lib.decDigits u ≠ [] := by
  rw [Lib.decDigits]; split <;> simp
theorem parse_snoc (c : UInt8) (d : Nat) (hc : c.toNat = 48 + d) (hd : d < 10) : ∀ (l : List UInt8) (acc v : Nat), Lib.parseUint10 acc l = .ok v → v * 10 + d < 18446744073709551616 → Lib.parseUint10 acc (l ++ [c]) = .ok (v * 10 + d)
  | [], acc, v, h, hv => by
    simp only [Lib.parseUint10, Lib.NumEnd.ok.injEq] at h
    subst h
    simp only [List.nil_append, Lib.parseUint10]
    rw [if_pos (by omega), if_neg (by omega), if_neg (by omega), show acc * 10 + (c.toNat - 48) = acc * 10 + d from by omega]
  | x :: l, acc, v, h, hv => by
    simp only [List.cons_append, Lib.parseUint10] at h ⊢
    split at h
    · split at h
      · cases h
      · split at h
        · cases h
        · rename_i h1 h2 h3
          rw [if_pos h1, if_neg h2, if_neg h3]
          exact parse_snoc c d hc hd l _ v h hv
    · cases h
theorem parse_dec (u : Nat) : u < 18446744073709551616 → Lib.parseUint10 0 (Lib.decDigits u) = .ok u := by
  induction u using Nat.strongRecOn with
  | _ u ih =>
    intro hu
    rw [Lib.decDigits]
    split
    · rename_i h
      have := parse_snoc (UInt8.ofNat (48 + u)) u (by simp; omega) h [] 0 0 rfl (by omega)
      simpa using this
    · rename_i h
      have h1 := ih (u / 10) (by omega) (by omega)
      have := parse_snoc (UInt8.ofNat (48 + u % 10)) (u % 10) (by simp; omega) (by omega) _ 0 _ h1 (by omega)
      rw [this]
      congr 1
      omega
theorem itoa_mem (x : Int) : ∀ c ∈ Lib.itoa x, c = 45 ∨ (48 ≤ c.toNat ∧ c.toNat ≤ 57) := by
  intro c hc
  unfold Lib.itoa at hc
  split at hc
  · rcases List.mem_cons.1 hc with rfl | hc
    · exact .inl rfl
    · exact .inr (dec_mem _ c hc)
  · exact .inr (dec_mem _ c hc)
theorem itoa_ne (x : Int) : Lib.itoa x ≠ [] := by
  unfold Lib.itoa; split
  · simp
  · exact dec_ne _
theorem itoa_not (x : Int) (b : UInt8) (h1 : b ≠ 45) (h2 : b.toNat < 48) : b ∉ Lib.itoa x := by
  intro hm
  rcases itoa_mem x b hm with h | h
  · exact h1 h
  · omega
theorem itoa_sp (x : Int) : ∀ c ∈ Lib.itoa x, Lib.isSp c = false := by
  intro c hc
  have h := itoa_mem x c hc
  have k : ∀ b : UInt8, b.toNat < 33 → c ≠ b := by
    rintro b hb rfl
    rcases h with h | h
    · subst h; revert hb; decide
    · omega
  unfold Lib.isSp
  simp only [Bool.or_eq_false_iff, beq_eq_false_iff_ne]
  exact ⟨⟨⟨⟨⟨k 9 (by decide), k 10 (by decide)⟩, k 11 (by decide)⟩, k 12 (by decide)⟩, k 13 (by decide)⟩, k 32 (by decide)⟩
theorem atoiAll_itoa (x : Int) (h0 : -9223372036854775808 ≤ x) (h1 : x ≤ 9223372036854775807) : Lib.atoiAll (Lib.itoa x) = .ok x := by
  unfold Lib.itoa
  by_cases h : x < 0
  · rw [if_pos h, Lib.atoiAll_minus]
    unfold Lib.parseMag
    rw [if_neg (dec_ne _), parse_dec _ (by omega)]
    simp only [Lib.signed]
    rw [if_neg (by omega)]
    congr 1
    omega
  · rw [if_neg h]
    have hm := dec_mem x.toNat
    cases hd : Lib.decDigits x.toNat with
    | nil => exact absurd hd (dec_ne _)
    | cons c r =>
      rw [hd] at hm
      have hc := hm c (by simp)
      rw [Lib.atoiAll_plain c r (by omega) (by omega), ← hd]
      unfold Lib.parseMag
      rw [if_neg (dec_ne _), parse_dec _ (by omega)]
      simp only [Lib.signless]
      rw [if_neg (by omega)]
      congr 1
      omega
theorem atoiV_itoa (x : Int) (h0 : -9223372036854775808 ≤ x) (h1 : x ≤ 9223372036854775807) : atoiV (Lib.itoa x) = x := by
  unfold atoiV
  rw [atoiAll_itoa x h0 h1]
theorem itoa_inj {x y : Int} (hx : -9223372036854775808 ≤ x ∧ x ≤ 9223372036854775807) (hy : -9223372036854775808 ≤ y ∧ y ≤ 9223372036854775807) (h : Lib.itoa x = Lib.itoa y) : x = y := by
  rw [← atoiV_itoa x hx.1 hx.2, h, atoiV_itoa y hy.1 hy.2]

/-! fields -/
theorem fieldsGo_word : ∀ (t cur l : List UInt8), (∀ c ∈ t, Lib.isSp c = false) → Lib.fieldsGo cur (t ++ l) = Lib.fieldsGo (cur ++ t) l
  | [], cur, l, _ => by simp
  | b :: t, cur, l, h => by
    have hb := h b (by simp)
    rw [List.cons_append]
    show (if Lib.isSp b then _ else Lib.fieldsGo (cur ++ [b]) (t ++ l)) = _
    rw [hb, if_neg (by simp), fieldsGo_word t _ l (fun c hc => h c (by simp [hc]))]
    simp
theorem fieldsGo_lits : ∀ (r : List Int) (e : List UInt8), (∀ c ∈ e, Lib.isSp c = false) → e ≠ [] → Lib.fieldsGo [] (r.flatMap (fun x => Lib.itoa x ++ [32]) ++ e) = r.map Lib.itoa ++ [e]
  | [], e, he, hn => by
    have := fieldsGo_word e [] [] he
    simp only [List.append_nil, List.nil_append] at this
    simp only [List.flatMap_nil, List.nil_append, List.map_nil]
    rw [this]
    show (if e.isEmpty then [] else [e]) = [e]
    cases e with
    | nil => exact absurd rfl hn
    | cons => rfl
  | x :: r, e, he, hn => by
    have hne := itoa_ne x
    rw [List.flatMap_cons, List.append_assoc, List.append_assoc, fieldsGo_word _ [] _ (itoa_sp x)]
    simp only [List.nil_append, List.cons_append]
    show (if Lib.isSp 32 then (if (Lib.itoa x).isEmpty then _ else Lib.itoa x :: Lib.fieldsGo [] _) else _) = _
    rw [if_pos (by decide)]
    cases hx : Lib.itoa x with
    | nil => exact absurd hx hne
    | cons c t =>
      simp only [List.isEmpty_cons, Bool.false_eq_true, if_false, List.map_cons, hx, List.cons_append]
      rw [fieldsGo_lits r e he hn]
theorem lits_ascii (r : List Int) (e : List UInt8) (he : ∀ c ∈ e, c.toNat < 128) : ∀ b ∈ r.flatMap (fun x => Lib.itoa x ++ [32]) ++ e, b.toNat < 128 := by
  intro b hb
  rcases List.mem_append.1 hb with hb | hb
  · obtain ⟨x, _, hx⟩ := List.mem_flatMap.1 hb
    rcases List.mem_append.1 hx with hx | hx
    · rcases itoa_mem x b hx with h | h
      · subst h; decide
      · omega
    · simp only [List.mem_cons, List.not_mem_nil, or_false] at hx
      subst hx; decide
  · exact he b hb
theorem numsV_lits (r : List Int) (z : Int) (hr : Wf r) (hz : -9223372036854775808 ≤ z ∧ z ≤ 9223372036854775807) : numsV (r.flatMap (fun x => Lib.itoa x ++ [32]) ++ Lib.itoa z) = r ++ [z] := by
  unfold numsV
  rw [Lib.fieldsD_ascii _ (lits_ascii r _ (fun c hc => by rcases itoa_mem z c hc with h | h; (subst h; decide); omega))]
  unfold Lib.fields
  rw [fieldsGo_lits r _ (itoa_sp z) (itoa_ne z), List.map_append, List.map_map]
  simp only [List.map_cons, List.map_nil]
  rw [atoiV_itoa z hz.1 hz.2]
  congr 1
  conv => rhs; rw [← List.map_id r]
  apply List.map_congr_left
  intro x hx
  exact atoiV_itoa x (hr x hx).1 (hr x hx).2

theorem cutNL_app : ∀ (t l : List UInt8), (10 : UInt8) ∉ t → cutNL (t ++ 10 :: l) = (t, l, true)
  | [], l, _ => by simp [cutNL]
  | b :: t, l, h => by
    have hb : ¬ b = 10 := fun e => h (by simp [e])
    have := cutNL_app t l (fun e => h (by simp [e]))
    rw [List.cons_append]
    unfold cutNL
    rw [if_neg hb, this]
theorem lits_no10 (r : List Int) : (10 : UInt8) ∉ r.flatMap (fun x => Lib.itoa x ++ [32]) := by
  intro h
  obtain ⟨x, _, hx⟩ := List.mem_flatMap.1 h
  rcases List.mem_append.1 hx with hx | hx
  · exact itoa_not x 10 (by decide) (by decide) hx
  · simp at hx
theorem itoa_zero : Lib.itoa 0 = [48] := by
  unfold Lib.itoa
  rw [if_neg (by decide), Lib.decDigits, dif_pos (by decide)]
  rfl
theorem rowL_cut (r : List Int) (rest : List UInt8) : cutNL (rowL r ++ rest) = (r.flatMap (fun x => Lib.itoa x ++ [32]) ++ Lib.itoa 0, rest, true) := by
  rw [itoa_zero, ← cutNL_app]
  · simp [rowL]
  · intro h
    rcases List.mem_append.1 h with h | h
    · exact lits_no10 r h
    · simp at h
theorem rowsP_print : ∀ (L : List (List Int)) (f : Nat), L.length ≤ f → WfL L → rowsP f (L.flatMap rowL) = some L
  | [], 0, _, _ => rfl
  | [], f + 1, _, _ => rfl
  | r :: L, 0, h, _ => by simp at h
  | r :: L, f + 1, h, hW => by
    have hn := numsV_lits r 0 (hW r (by simp)) (by omega)
    have hne : ¬ (r :: L).flatMap rowL = [] := by simp [rowL]
    unfold rowsP
    rw [if_neg hne, List.flatMap_cons, rowL_cut]
    simp only [hn]
    rw [if_neg (by simp), rowsP_print L f (by simpa using h) (fun x hx => hW x (by simp [hx]))]
    simp
theorem head_cut (n m : Int) (rest : List UInt8) : cutNL (headL n m ++ rest) = (headB ++ (Lib.itoa n ++ [32] ++ Lib.itoa m), rest, true) := by
  rw [← cutNL_app]
  · simp [headL, headB]
  · intro h
    simp only [List.mem_append, List.mem_cons, List.not_mem_nil, or_false, headB] at h
    rcases h with h | (h | h) | h
    · revert h; decide
    · exact itoa_not n 10 (by decide) (by decide) h
    · revert h; decide
    · exact itoa_not m 10 (by decide) (by decide) h
theorem trim_head (l : List UInt8) : Lib.trimPrefix (headB ++ l) headB = l := by
  unfold Lib.trimPrefix
  rw [if_pos (by simp [Lib.hasPrefix])]
  simp
theorem head_nums (n m : Int) (hn : -9223372036854775808 ≤ n ∧ n ≤ 9223372036854775807) (hm : -9223372036854775808 ≤ m ∧ m ≤ 9223372036854775807) : numsV (Lib.itoa n ++ [32] ++ Lib.itoa m) = [n, m] := by
  have := numsV_lits [n] m (by intro x hx; simp at hx; subst hx; exact hn) hm
  simpa using this
/-- What is printed is parsed as it was. -/
theorem parse_print (n : Int) (L : List (List Int)) (hW : WfL L) (hk : checkI n L = 0) (hl : L.length ≤ 1048576) : parseR (printL n L) = (n, L, 0) := by
  have hn := check_range hk
  have hc := head_cut n L.length (L.flatMap rowL)
  have hlen : L.length ≤ (printL n L).length := by
    unfold printL
    rw [List.length_append]
    have : L.length ≤ (L.flatMap rowL).length := by
      clear hc hn hl hk hW
      induction L with
      | nil => simp
      | cons r L ih => rw [List.flatMap_cons, List.length_append, List.length_cons]; have : 1 ≤ (rowL r).length := by { unfold rowL; rw [List.length_append]; exact Nat.le_add_left_of_le (by decide) }; omega
    omega
  rw [parse_end (first := headB ++ (Lib.itoa n ++ [32] ++ Lib.itoa L.length)) (rest := L.flatMap rowL) (a := n) (a2 := L.length) (L := L) (by unfold printL; rw [hc]) (by unfold printL; rw [hc]) (by rw [trim_head]; exact head_nums n L.length (by omega) (by omega)) (rowsP_print L _ hlen hW)]
  rw [if_pos ⟨hk, rfl⟩]
/-- What is parsed is printed as it was. -/
theorem parse_code (s : List UInt8) : ((parseR s).2.2 = 0 ∧ checkI (parseR s).1 (parseR s).2.1 = 0 ∧ printL (parseR s).1 (parseR s).2.1 = s) ∨ parseR s = (0, [], 130) := by
  unfold parseR
  split
  · split
    · split
      · rename_i h; exact .inl ⟨rfl, h.1, h.2⟩
      · exact .inr rfl
    · exact .inr rfl
  · exact .inr rfl

/-! of CnfJoins -/
def cnt10 (l : List UInt8) : Nat := l.countP (· == 10)
theorem cnt10_none {l : List UInt8} (h : (10 : UInt8) ∉ l) : cnt10 l = 0 := by
  unfold cnt10
  rw [List.countP_eq_zero]
  intro a ha
  simp
  rintro rfl
  exact h ha
theorem cnt10_app (a b : List UInt8) : cnt10 (a ++ b) = cnt10 a + cnt10 b := by unfold cnt10; rw [List.countP_append]
theorem cnt10_row (r : List Int) : cnt10 (rowL r) = 1 := by
  unfold rowL
  rw [cnt10_app, cnt10_none (lits_no10 r)]; rfl
theorem cnt10_rows (L : List (List Int)) : cnt10 (L.flatMap rowL) = L.length := by
  induction L with
  | nil => rfl
  | cons r L ih => rw [List.flatMap_cons, cnt10_app, cnt10_row, ih, List.length_cons]; omega
theorem cnt10_head (n m : Int) : cnt10 (headL n m) = 1 := by
  unfold headL
  rw [cnt10_app, cnt10_app, cnt10_app, cnt10_app, cnt10_none (itoa_not n 10 (by decide) (by decide)), cnt10_none (itoa_not m 10 (by decide) (by decide))]; rfl
theorem cnt10_print (n : Int) (L : List (List Int)) : cnt10 (printL n L) = L.length + 1 := by
  unfold printL
  rw [cnt10_app, cnt10_head, cnt10_rows]; omega
theorem print_ne (n : Int) (L : List (List Int)) : printL n L ≠ [] := by
  intro h
  have := cnt10_print n L
  rw [h] at this
  simp [cnt10] at this
theorem print_end (n : Int) (L : List (List Int)) : ∃ t x, printL n L = t ++ [x, 10] ∧ x ≠ 10 := by
  unfold printL
  rcases List.eq_nil_or_concat L with rfl | ⟨L', r, rfl⟩
  · rcases List.eq_nil_or_concat (Lib.itoa ((([] : List (List Int)).length : Nat) : Int)) with h | ⟨t, x, h⟩
    · exact absurd h (itoa_ne _)
    · refine ⟨[112, 32, 99, 110, 102, 32] ++ Lib.itoa n ++ [32] ++ t, x, ?_, ?_⟩
      · unfold headL
        rw [h]
        simp
      · rintro rfl
        exact itoa_not (([] : List (List Int)).length : Nat) 10 (by decide) (by decide) (by rw [h]; simp)
  · refine ⟨headL n (L' ++ [r]).length ++ (L'.flatMap rowL ++ r.flatMap (fun x => Lib.itoa x ++ [32])), 48, ?_, by decide⟩
    simp [rowL]
theorem parse_drop (n : Int) (L : List (List Int)) : (parseR (printL n L).dropLast).2.2 = 130 := by
  rcases parse_code (printL n L).dropLast with ⟨_, _, h⟩ | h
  · obtain ⟨t, x, h1, h2⟩ := print_end n L
    obtain ⟨t', x', h3, h4⟩ := print_end (parseR (printL n L).dropLast).1 (parseR (printL n L).dropLast).2.1
    rw [h] at h3
    rw [h1] at h3
    have e1 : (t ++ [x, 10]).dropLast = t ++ [x] := by
      rw [show t ++ [x, 10] = (t ++ [x]) ++ [10] from by simp, List.dropLast_concat]
    rw [e1, show t' ++ [x', 10] = (t' ++ [x']) ++ [10] from by simp] at h3
    have := congrArg List.getLast? h3
    simp at this
    exact absurd this h2
  · rw [h]
theorem parse_more (n : Int) (L : List (List Int)) (hn : -9223372036854775808 ≤ n ∧ n ≤ 9223372036854775807) (hl : L.length ≤ 1000000) : (parseR (printL n L ++ [48, 10])).2.2 = 130 := by
  rcases parse_code (printL n L ++ [48, 10]) with ⟨_, hk, h⟩ | h
  · exfalso
    generalize parseR (printL n L ++ [48, 10]) = p at *
    have hr := check_range hk
    have hc := congrArg cnt10 h
    rw [cnt10_print, cnt10_app, cnt10_print] at hc
    rw [show cnt10 [48, 10] = 1 from rfl] at hc
    have hd := congrArg (fun s => (cutNL s).1) h
    unfold printL at hd
    rw [List.append_assoc, head_cut, head_cut] at hd
    have hd2 := List.append_cancel_left hd
    have hm : p.2.1.length = L.length + 1 := by omega
    have hp2 := congrArg numsV hd2
    rw [head_nums _ _ (by omega) (by omega), head_nums _ _ hn (by omega)] at hp2
    simp at hp2
    omega
  · rw [h]

theorem lits_len (r : List Int) (hr : Wf r) : (r.flatMap (fun x => Lib.itoa x ++ [32])).length ≤ 22 * r.length := by
  induction r with
  | nil => simp
  | cons x r ih =>
    have h1 := ih (fun y hy => hr y (by simp [hy]))
    have h2 := Lib.itoa_length_le x (hr x (by simp)).1 (hr x (by simp)).2
    simp only [List.flatMap_cons, List.length_append, List.length_cons, List.length_nil]
    omega
theorem rows_len (L : List (List Int)) (hL : WfL L) : (L.flatMap rowL).length ≤ 22 * bulk L := by
  induction L with
  | nil => simp
  | cons r L ih =>
    have h1 := ih (fun y hy => hL y (by simp [hy]))
    have h2 := lits_len r (hL r (by simp))
    have h3 : bulk (r :: L) = bulk L + 1 + r.length := by unfold bulk; simp; omega
    rw [List.flatMap_cons, List.length_append, h3]
    unfold rowL
    rw [List.length_append]
    unfold rowL at h1
    simp only [List.length_cons, List.length_nil]
    omega
theorem print_len (n : Int) (L : List (List Int)) (hL : WfL L) (hn : -9223372036854775808 ≤ n ∧ n ≤ 9223372036854775807) (hl : L.length ≤ 1000000) : (printL n L).length ≤ 50 + 22 * bulk L := by
  have h1 := rows_len L hL
  have h2 := Lib.itoa_length_le n hn.1 hn.2
  have h3 := Lib.itoa_length_le (L.length : Int) (by omega) (by omega)
  unfold printL headL
  simp only [List.length_append, List.length_cons, List.length_nil]
  omega
end Go.Proofs.YtjifancgekoenaaGreatDoor
