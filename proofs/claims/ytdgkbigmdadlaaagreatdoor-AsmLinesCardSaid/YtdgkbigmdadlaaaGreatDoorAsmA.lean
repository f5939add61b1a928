import Derived.Lib.ItoaLen
import Derived.Lib.AtoiAllCases
import Derived.Lib.Split
import Derived.Lib.Join
import Derived.Lib.Strings
import Derived.Stop.FmtTextWidths
namespace Go.Proofs.YtdgkbigmdadlaaaGreatDoor
set_option linter.unusedVariables false
set_option linter.unusedSimpArgs false

/-! decimal texts -/
theorem dec_mem (u : Nat) : ∀ c ∈ Lib.decDigits u, 48 ≤ c.toNat ∧ c.toNat ≤ 57 := by
  induction u using Nat.strongRecOn with
  | _ u ih =>
    intro c hc
    rw [Lib.decDigits] at hc
    split at hc
    · simp only [List.mem_cons, List.not_mem_nil, or_false] at hc
      subst hc
      simp; omega
    · rcases List.mem_append.1 hc with hc | hc
      · exact ih (u / 10) (by omega) c hc
      · simp only [List.mem_cons, List.not_mem_nil, or_false] at hc
        subst hc
        have : u % 10 < 10 := Nat.mod_lt _ (by decide)
        simp; omega
theorem dec_ne (u : Nat) : Lib.decDigits u ≠ [] := by
  rw [Lib.decDigits]; split <;> simp
theorem parse_snoc (c : UInt8) (d : Nat) (hc : c.toNat = 48 + d) (hd : d < 10) : ∀ (l : List UInt8) (acc v : Nat), Lib.parseUint10 acc l = .ok v → v * 10 + d < 18446744073709551616 → Lib.parseUint10 acc (l ++ [c]) = .ok (v * 10 + d)
  | [], acc, v, h, hv => by
    simp only [Lib.parseUint10, Lib.NumEnd.ok.injEq] at h
    subst h
    simp only [List.nil_append, Lib.parseUint10]
    rw [if_pos (by omega), if_neg (by omega), if_neg (by omega), show acc * 10 + (c.toNat - 48) = acc * 10 + d from by omega]
  | x :: l, acc, v, h, hv => by
    simp only [List.cons_append, Lib.parseUint10] at h ⊢
    split at h
    · split at h
      · cases h
      · split at h
        · cases h
        · rename_i h1 h2 h3
          rw [if_pos h1, if_neg h2, if_neg h3]
          exact parse_snoc c d hc hd l _ v h hv
    · cases h
theorem parse_dec (u : Nat) : u < 18446744073709551616 → Lib.parseUint10 0 (Lib.decDigits u) = .ok u := by
  induction u using Nat.strongRecOn with
  | _ u ih =>
    intro hu
    rw [Lib.decDigits]
    split
    · rename_i h
      have := parse_snoc (UInt8.ofNat (48 + u)) u (by simp; omega) h [] 0 0 rfl (by omega)
      simpa using this
    · rename_i h
      have h1 := ih (u / 10) (by omega) (by omega)
      have := parse_snoc (UInt8.ofNat (48 + u % 10)) (u % 10) (by simp; omega) (by omega) _ 0 _ h1 (by omega)
      rw [this]
      congr 1
      omega
theorem itoa_mem (x : Int) : ∀ c ∈ Lib.itoa x, c = 45 ∨ (48 ≤ c.toNat ∧ c.toNat ≤ 57) := by
  intro c hc
  unfold Lib.itoa at hc
  split at hc
  · rcases List.mem_cons.1 hc with rfl | hc
    · exact .inl rfl
    · exact .inr (dec_mem _ c hc)
  · exact .inr (dec_mem _ c hc)
theorem itoa_ne (x : Int) : Lib.itoa x ≠ [] := by
  unfold Lib.itoa; split
  · simp
  · exact dec_ne _
theorem itoa_not (x : Int) (b : UInt8) (h1 : b ≠ 45) (h2 : b.toNat < 48 ∨ 57 < b.toNat) : b ∉ Lib.itoa x := by
  intro hm
  rcases itoa_mem x b hm with h | h
  · exact h1 h
  · omega
theorem atoiAll_itoa (x : Int) (h0 : -9223372036854775808 ≤ x) (h1 : x ≤ 9223372036854775807) : Lib.atoiAll (Lib.itoa x) = .ok x := by
  unfold Lib.itoa
  by_cases h : x < 0
  · rw [if_pos h, Lib.atoiAll_minus]
    unfold Lib.parseMag
    rw [if_neg (dec_ne _), parse_dec _ (by omega)]
    simp only [Lib.signed]
    rw [if_neg (by omega)]
    congr 1
    omega
  · rw [if_neg h]
    have hm := dec_mem x.toNat
    cases hd : Lib.decDigits x.toNat with
    | nil => exact absurd hd (dec_ne _)
    | cons c r =>
      rw [hd] at hm
      have hc := hm c (by simp)
      rw [Lib.atoiAll_plain c r (by omega) (by omega), ← hd]
      unfold Lib.parseMag
      rw [if_neg (dec_ne _), parse_dec _ (by omega)]
      simp only [Lib.signless]
      rw [if_neg (by omega)]
      congr 1
      omega
/-- What strconv.Atoi tells of a text, its error aside. -/
def atoiV (l : List UInt8) : Int := match Lib.atoiAll l with
  | .ok v => v
  | .range => Lib.atoiSat l
  | _ => 0
theorem atoiV_wf (l : List UInt8) : -9223372036854775808 ≤ atoiV l ∧ atoiV l ≤ 9223372036854775807 := by
  unfold atoiV
  split
  · rename_i v h; exact Lib.atoiAll_bounds h
  · exact Lib.atoiSat_bounds l
  · omega
theorem atoiV_itoa (x : Int) (h0 : -9223372036854775808 ≤ x) (h1 : x ≤ 9223372036854775807) : atoiV (Lib.itoa x) = x := by
  unfold atoiV
  rw [atoiAll_itoa x h0 h1]
theorem itoa_inj {x y : Int} (hx : -9223372036854775808 ≤ x ∧ x ≤ 9223372036854775807) (hy : -9223372036854775808 ≤ y ∧ y ≤ 9223372036854775807) (h : Lib.itoa x = Lib.itoa y) : x = y := by
  rw [← atoiV_itoa x hx.1 hx.2, h, atoiV_itoa y hy.1 hy.2]

/-! the first place of one byte; cut -/
/-- What stands ahead of the first byte c, what behind it, whether there is one. -/
def cutB (c : UInt8) : List UInt8 → List UInt8 × List UInt8 × Bool
  | [] => ([], [], false)
  | b :: l => if b = c then ([], l, true) else (b :: (cutB c l).1, (cutB c l).2.1, (cutB c l).2.2)
theorem index_byte (c : UInt8) (l : List UInt8) : Lib.index l [c] = if (cutB c l).2.2 then ((cutB c l).1.length : Int) else -1 := by
  induction l with
  | nil => rfl
  | cons b l ih =>
    unfold Lib.index cutB
    by_cases h : b = c
    · subst h; simp
    · have h2 : List.isPrefixOf [c] (b :: l) = false := by
        simp [List.isPrefixOf]; exact fun e => h e.symm
      rw [h2, ih, if_neg (by simp), if_neg h]
      cases (cutB c l).2.2
      · simp
      · simp only [if_true, List.length_cons]
        rw [if_neg (by simp)]
        omega
theorem cutB_parts (c : UInt8) (l : List UInt8) : ((cutB c l).2.2 = true → l = (cutB c l).1 ++ c :: (cutB c l).2.1) ∧ ((cutB c l).2.2 = false → (cutB c l).1 = l ∧ (cutB c l).2.1 = []) ∧ c ∉ (cutB c l).1 := by
  induction l with
  | nil => exact ⟨fun h => (by cases h), fun _ => ⟨rfl, rfl⟩, by simp [cutB]⟩
  | cons b l ih =>
    unfold cutB
    by_cases h : b = c
    · rw [if_pos h]; subst h
      exact ⟨fun _ => rfl, fun h => (by cases h), by simp⟩
    · rw [if_neg h]
      refine ⟨fun h2 => ?_, fun h2 => ?_, ?_⟩
      · have := ih.1 h2
        simp only [List.cons_append]
        rw [← this]
      · obtain ⟨h3, h4⟩ := ih.2.1 h2
        simp only
        rw [h3, h4]
        exact ⟨rfl, rfl⟩
      · simp only [List.mem_cons, not_or]
        exact ⟨fun e => h e.symm, ih.2.2⟩
theorem cutB_eq (c : UInt8) (l : List UInt8) : Lib.cut l [c] = cutB c l := by
  unfold Lib.cut
  rw [index_byte]
  obtain ⟨h1, h2, _⟩ := cutB_parts c l
  cases h : (cutB c l).2.2 with
  | true =>
    have h3 := h1 h
    rw [if_pos rfl, if_pos (by omega)]
    generalize cutB c l = p at *
    obtain ⟨c1, c2, c3⟩ := p
    simp only at h h3 ⊢
    subst h h3
    simp
  | false =>
    obtain ⟨h3, h4⟩ := h2 h
    simp only [Bool.false_eq_true, if_false]
    rw [if_neg (by decide)]
    conv => lhs; rw [← h3, ← h4, ← h]
theorem cutB_app (c : UInt8) : ∀ (t l : List UInt8), c ∉ t → cutB c (t ++ c :: l) = (t, l, true)
  | [], l, _ => by simp [cutB]
  | b :: t, l, h => by
    have hb : ¬ b = c := fun e => h (by simp [e])
    have := cutB_app c t l (fun e => h (by simp [e]))
    rw [List.cons_append]
    unfold cutB
    rw [if_neg hb, this]
theorem cutB_none (c : UInt8) : ∀ (t : List UInt8), c ∉ t → cutB c t = (t, [], false)
  | [], _ => by simp [cutB]
  | b :: t, h => by
    have hb : ¬ b = c := fun e => h (by simp [e])
    have := cutB_none c t (fun e => h (by simp [e]))
    unfold cutB
    rw [if_neg hb, this]
theorem cutB_len (c : UInt8) (l : List UInt8) : (cutB c l).1.length ≤ l.length ∧ (cutB c l).2.1.length ≤ l.length := by
  obtain ⟨h1, h2, _⟩ := cutB_parts c l
  cases h : (cutB c l).2.2 with
  | true =>
    have := congrArg List.length (h1 h)
    simp only [List.length_append, List.length_cons] at this
    omega
  | false =>
    obtain ⟨h3, h4⟩ := h2 h
    rw [h3, h4]
    simp
theorem cutB_lt (c : UInt8) (l : List UInt8) (hl : l ≠ []) : (cutB c l).2.1.length < l.length := by
  obtain ⟨h1, h2, _⟩ := cutB_parts c l
  have hp : 0 < l.length := List.length_pos_iff.2 hl
  cases h : (cutB c l).2.2 with
  | true =>
    have := congrArg List.length (h1 h)
    simp only [List.length_append, List.length_cons] at this
    omega
  | false =>
    obtain ⟨h3, h4⟩ := h2 h
    rw [h4]
    simpa using hp

/-! split at ', ' -/
theorem index_sep (t l : List UInt8) (h : (44 : UInt8) ∉ t) : Lib.index (t ++ 44 :: 32 :: l) [44, 32] = (t.length : Int) := by
  induction t with
  | nil => unfold Lib.index; simp [List.isPrefixOf]
  | cons b t ih =>
    have hb : ¬ (44 : UInt8) = b := fun e => h (by simp [e])
    have := ih (fun e => h (by simp [e]))
    rw [List.cons_append]
    unfold Lib.index
    have h2 : List.isPrefixOf [44, 32] (b :: (t ++ 44 :: 32 :: l)) = false := by
      simp [List.isPrefixOf]; intro e; exact absurd e hb
    rw [h2, this, if_neg (by simp), if_neg (by simp)]
    simp
theorem index_sep_none (t : List UInt8) (h : (44 : UInt8) ∉ t) : Lib.index t [44, 32] = -1 := by
  induction t with
  | nil => rfl
  | cons b t ih =>
    have hb : ¬ (44 : UInt8) = b := fun e => h (by simp [e])
    have := ih (fun e => h (by simp [e]))
    unfold Lib.index
    have h2 : List.isPrefixOf [44, 32] (b :: t) = false := by
      simp [List.isPrefixOf]; intro e; exact absurd e hb
    rw [h2, this, if_neg (by simp), if_pos (by decide)]
theorem splitK_one (k : Nat) (t : List UInt8) (h : (44 : UInt8) ∉ t) : Lib.splitK [44, 32] 0 k t = [t] := by
  cases k with
  | zero => rfl
  | succ k => unfold Lib.splitK; rw [index_sep_none t h, if_pos (by decide)]
theorem splitK_sep (k : Nat) (t l : List UInt8) (h : (44 : UInt8) ∉ t) : Lib.splitK [44, 32] 0 (k + 1) (t ++ 44 :: 32 :: l) = t :: Lib.splitK [44, 32] 0 k l := by
  conv => lhs; unfold Lib.splitK
  rw [index_sep t l h, if_neg (by simp)]
  have e1 : (t ++ 44 :: 32 :: l).take (((t.length : Nat) : Int).toNat + 0) = t := by simp
  have e2 : (t ++ 44 :: 32 :: l).drop (((t.length : Nat) : Int).toNat + [(44 : UInt8), 32].length) = l := by
    simp only [Int.toNat_natCast, List.length_cons, List.length_nil]
    rw [List.drop_append]
    simp
  rw [e1, e2]
theorem countF_none (f : Nat) (t : List UInt8) (h : (44 : UInt8) ∉ t) : Lib.countFrom [44, 32] f t = 0 := by
  cases f with
  | zero => rfl
  | succ f => unfold Lib.countFrom; rw [index_sep_none t h, if_pos (by decide)]
theorem countF_sep (f : Nat) (t l : List UInt8) (h : (44 : UInt8) ∉ t) : Lib.countFrom [44, 32] (f + 1) (t ++ 44 :: 32 :: l) = 1 + Lib.countFrom [44, 32] f l := by
  conv => lhs; unfold Lib.countFrom
  rw [index_sep t l h, if_neg (by simp)]
  have e2 : (t ++ 44 :: 32 :: l).drop (((t.length : Nat) : Int).toNat + [(44 : UInt8), 32].length) = l := by
    simp only [Int.toNat_natCast, List.length_cons, List.length_nil]
    rw [List.drop_append]
    simp
  rw [e2]
theorem split_one (t : List UInt8) (h : (44 : UInt8) ∉ t) : Lib.split t [44, 32] = [t] := splitK_one _ t h
theorem split_two (a b : List UInt8) (ha : (44 : UInt8) ∉ a) (hb : (44 : UInt8) ∉ b) : Lib.split (a ++ 44 :: 32 :: b) [44, 32] = [a, b] := by
  unfold Lib.split Lib.count
  rw [countF_sep _ a b ha, countF_none _ b hb, splitK_sep 0 a b ha]
  rfl
theorem split_three (a b c : List UInt8) (ha : (44 : UInt8) ∉ a) (hb : (44 : UInt8) ∉ b) (hc : (44 : UInt8) ∉ c) : Lib.split (a ++ 44 :: 32 :: (b ++ 44 :: 32 :: c)) [44, 32] = [a, b, c] := by
  unfold Lib.split Lib.count
  rw [countF_sep _ a _ ha]
  have hl : (a ++ 44 :: 32 :: (b ++ 44 :: 32 :: c)).length = (a.length + b.length + c.length + 3) + 1 := by
    simp only [List.length_append, List.length_cons]; omega
  rw [hl, countF_sep _ b c hb, countF_none _ c hc, show 1 + (1 + 0) = 1 + 1 from rfl, splitK_sep 1 a _ ha, splitK_sep 0 b c hb]
  rfl

/-! kinds -/
def nameTab : List (List UInt8) := [[108, 117, 105], [97, 117, 105, 112, 99], [106, 97, 108], [106, 97, 108, 114], [98, 101, 113], [98, 110, 101], [98, 108, 116], [98, 103, 101], [98, 108, 116, 117], [98, 103, 101, 117], [108, 98], [108, 104], [108, 119], [108, 98, 117], [108, 104, 117], [115, 98], [115, 104], [115, 119], [97, 100, 100, 105], [115, 108, 116, 105], [115, 108, 116, 105, 117], [120, 111, 114, 105], [111, 114, 105], [97, 110, 100, 105], [115, 108, 108, 105], [115, 114, 108, 105], [115, 114, 97, 105], [97, 100, 100], [115, 117, 98], [115, 108, 108], [115, 108, 116], [115, 108, 116, 117], [120, 111, 114], [115, 114, 108], [115, 114, 97], [111, 114], [97, 110, 100], [109, 117, 108], [109, 117, 108, 104], [109, 117, 108, 104, 115, 117], [109, 117, 108, 104, 117], [100, 105, 118], [100, 105, 118, 117], [114, 101, 109], [114, 101, 109, 117], [101, 99, 97, 108, 108], [101, 98, 114, 101, 97, 107]]
def formTab : List Int := [85, 85, 74, 73, 66, 66, 66, 66, 66, 66, 73, 73, 73, 73, 73, 83, 83, 83, 73, 73, 73, 73, 73, 73, 72, 72, 72, 82, 82, 82, 82, 82, 82, 82, 82, 82, 82, 82, 82, 82, 82, 82, 82, 82, 82, 69, 69]
/-- asm.Name -/
def nameL (op : Int) : List UInt8 := if op < 0 then [] else nameTab.getD op.toNat []
def byFrom : Int → List (List UInt8) → List UInt8 → Int
  | _, [], _ => -1
  | k, n :: r, s => if n = s then k else byFrom (k + 1) r s
/-- asm.By -/
def byL (s : List UInt8) : Int := byFrom 0 nameTab s
/-- inst.Form -/
def formI (op : Int) : Int := if op < 0 then 0 else formTab.getD op.toNat 0
theorem nameTab_len : nameTab.length = 47 := rfl
theorem formTab_len : formTab.length = 47 := rfl
theorem by_name_nat : ∀ i, i < 47 → byL (nameTab.getD i []) = (i : Int) ∧ nameTab.getD i [] ≠ [] ∧ (∀ c ∈ nameTab.getD i [], 97 ≤ c.toNat ∧ c.toNat ≤ 122) ∧ (nameTab.getD i []).length ≤ 6 := by decide +kernel
theorem name_off {op : Int} (h : ¬ (0 ≤ op ∧ op < 47)) : nameL op = [] := by
  unfold nameL
  split
  · rfl
  · rw [List.getD_eq_getElem?_getD, List.getElem?_eq_none (by rw [nameTab_len]; omega)]; rfl
theorem form_off {op : Int} (h : ¬ (0 ≤ op ∧ op < 47)) : formI op = 0 := by
  unfold formI
  split
  · rfl
  · rw [List.getD_eq_getElem?_getD, List.getElem?_eq_none (by rw [formTab_len]; omega)]; rfl
theorem name_in {op : Int} (h : 0 ≤ op ∧ op < 47) : byL (nameL op) = op ∧ nameL op ≠ [] ∧ (∀ c ∈ nameL op, 97 ≤ c.toNat ∧ c.toNat ≤ 122) ∧ (nameL op).length ≤ 6 := by
  obtain ⟨h1, h2, h3, h4⟩ := by_name_nat op.toNat (by omega)
  unfold nameL
  rw [if_neg (by omega)]
  exact ⟨by rw [h1]; omega, h2, h3, h4⟩
theorem form_in {op : Int} (h : formI op ≠ 0) : 0 ≤ op ∧ op < 47 := by
  rcases Classical.em (0 ≤ op ∧ op < 47) with h' | h'
  · exact h'
  · exact absurd (form_off h') h

/-! which instructions may be -/
def regOk (is : Bool) (n : Int) : Bool := (is && (decide (0 ≤ n) && decide (n ≤ 31))) || decide (n = 0)
def numOk (f n : Int) : Bool :=
  if f = 85 then decide (0 ≤ n) && decide (n ≤ 1048575)
  else if f = 74 then (decide (-1048576 ≤ n) && decide (n ≤ 1048574)) && decide (n.tmod 2 = 0)
  else if f = 73 ∨ f = 83 then decide (-2048 ≤ n) && decide (n ≤ 2047)
  else if f = 66 then (decide (-4096 ≤ n) && decide (n ≤ 4094)) && decide (n.tmod 2 = 0)
  else if f = 72 then decide (0 ≤ n) && decide (n ≤ 31)
  else decide (n = 0)
def has1 (f : Int) : Bool := decide (f = 85 ∨ f = 74 ∨ f = 73 ∨ f = 72 ∨ f = 82)
def has2 (f : Int) : Bool := decide (f = 73 ∨ f = 72 ∨ f = 66 ∨ f = 83 ∨ f = 82)
def has3 (f : Int) : Bool := decide (f = 66 ∨ f = 83 ∨ f = 82)
/-- An instruction: kind, registers, number. -/
structure I5 where
  op : Int
  rd : Int
  a : Int
  b : Int
  n : Int
deriving DecidableEq
/-- inst.Right -/
def rightI (x : I5) : Bool := !decide (formI x.op = 0) && (regOk (has1 (formI x.op)) x.rd && (regOk (has2 (formI x.op)) x.a && (regOk (has3 (formI x.op)) x.b && numOk (formI x.op) x.n)))
theorem regOk_range {is : Bool} {n : Int} (h : regOk is n = true) : 0 ≤ n ∧ n ≤ 31 := by
  unfold regOk at h
  simp at h
  omega
theorem regOk_no {n : Int} (h : regOk false n = true) : n = 0 := by
  unfold regOk at h
  simpa using h
theorem numOk_range {f n : Int} (h : numOk f n = true) : -1048576 ≤ n ∧ n ≤ 1048575 := by
  unfold numOk at h
  split at h
  · simp at h; omega
  · split at h
    · simp at h; omega
    · split at h
      · simp at h; omega
      · split at h
        · simp at h; omega
        · split at h <;> (simp at h; omega)
theorem right_parts {x : I5} (h : rightI x = true) : formI x.op ≠ 0 ∧ regOk (has1 (formI x.op)) x.rd = true ∧ regOk (has2 (formI x.op)) x.a = true ∧ regOk (has3 (formI x.op)) x.b = true ∧ numOk (formI x.op) x.n = true := by
  unfold rightI at h
  simp only [Bool.and_eq_true, Bool.not_eq_true', decide_eq_false_iff_not] at h
  exact ⟨h.1, h.2.1, h.2.2.1, h.2.2.2.1, h.2.2.2.2⟩

/-! texts -/
def regL (n : Int) : List UInt8 := 120 :: Lib.itoa n
def atL (n r : Int) : List UInt8 := Lib.itoa n ++ 40 :: (regL r ++ [41])
def around (op : Int) : Bool := decide (op = 3) || (decide (10 ≤ op) && decide (op ≤ 14))
def two (a b : List UInt8) : List UInt8 := a ++ 44 :: 32 :: b
def three (a b c : List UInt8) : List UInt8 := a ++ 44 :: 32 :: (b ++ 44 :: 32 :: c)
def restL (x : I5) : List UInt8 :=
  if formI x.op = 85 ∨ formI x.op = 74 then two (regL x.rd) (Lib.itoa x.n)
  else if formI x.op = 82 then three (regL x.rd) (regL x.a) (regL x.b)
  else if formI x.op = 66 then three (regL x.a) (regL x.b) (Lib.itoa x.n)
  else if formI x.op = 83 then two (regL x.b) (atL x.n x.a)
  else if around x.op = true then two (regL x.rd) (atL x.n x.a)
  else three (regL x.rd) (regL x.a) (Lib.itoa x.n)
/-- An instruction's text. -/
def textI (x : I5) : List UInt8 := if formI x.op = 69 then nameL x.op else nameL x.op ++ 32 :: restL x
def printT (x : I5) : List UInt8 := if rightI x then textI x else []
def printE (x : I5) : Int := if rightI x then 0 else 20

/-! the instruction of a text, as asm finds it -/
def registerV (p : List UInt8) : Int := atoiV (Lib.trimPrefix p [120])
def bracket1 (p : List UInt8) : Int := atoiV (cutB 40 (Lib.trimSuffix p [41])).1
def bracket2 (p : List UInt8) : Int := registerV (cutB 40 (Lib.trimSuffix p [41])).2.1
def fillA (op : Int) (p : List (List UInt8)) : I5 :=
  if formI op = 69 then ⟨op, 0, 0, 0, 0⟩
  else match p with
  | [p0, p1] =>
    if formI op = 85 ∨ formI op = 74 then ⟨op, registerV p0, 0, 0, atoiV p1⟩
    else if formI op = 83 then ⟨op, 0, bracket2 p1, registerV p0, bracket1 p1⟩
    else if around op = true then ⟨op, registerV p0, bracket2 p1, 0, bracket1 p1⟩
    else ⟨op, 0, 0, 0, 0⟩
  | [p0, p1, p2] =>
    if formI op = 82 then ⟨op, registerV p0, registerV p1, registerV p2, 0⟩
    else if formI op = 66 then ⟨op, 0, registerV p0, registerV p1, atoiV p2⟩
    else ⟨op, registerV p0, registerV p1, 0, atoiV p2⟩
  | _ => ⟨op, 0, 0, 0, 0⟩
/-- The instruction that asm.Parse tries. -/
def tryA (s : List UInt8) : I5 := fillA (byL (cutB 32 s).1) (Lib.split (cutB 32 s).2.1 [44, 32])
def zeroI : I5 := ⟨0, 0, 0, 0, 0⟩
def parseI (s : List UInt8) (x : I5) : I5 × Int := if printE x = 0 ∧ printT x = s then (x, 0) else (zeroI, 50)
/-- asm.Parse -/
def parseA (s : List UInt8) : I5 × Int := parseI s (tryA s)
theorem around_form : ∀ i : Nat, i < 47 → (around (i : Int) = true → formTab.getD i 0 = 73) := by decide +kernel
theorem around_in {op : Int} (h : around op = true) : formI op = 73 := by
  have h1 : 0 ≤ op ∧ op < 47 := by unfold around at h; simp at h; omega
  have := around_form op.toNat (by omega) (by rw [show ((op.toNat : Nat) : Int) = op from by omega]; exact h)
  unfold formI
  rw [if_neg (by omega), this]
theorem regL_no (r : Int) (c : UInt8) (h1 : c ≠ 45) (h2 : c.toNat < 48 ∨ 57 < c.toNat) (h3 : c ≠ 120) : c ∉ regL r := by
  unfold regL
  simp only [List.mem_cons, not_or]
  exact ⟨h3, itoa_not r c h1 h2⟩
theorem register_reg {r : Int} (h : -9223372036854775808 ≤ r ∧ r ≤ 9223372036854775807) : registerV (regL r) = r := by
  unfold registerV regL Lib.trimPrefix
  rw [if_pos (by simp [Lib.hasPrefix])]
  simp only [List.length_cons, List.length_nil, List.drop_succ_cons, List.drop_zero]
  exact atoiV_itoa r h.1 h.2
theorem trim_at (n r : Int) : Lib.trimSuffix (atL n r) [41] = Lib.itoa n ++ 40 :: regL r := by
  have e : atL n r = (Lib.itoa n ++ 40 :: regL r) ++ [41] := by unfold atL; simp
  rw [e]
  unfold Lib.trimSuffix
  rw [if_pos (by unfold Lib.hasSuffix; rw [List.isSuffixOf_iff_suffix]; exact ⟨_, rfl⟩)]
  rw [List.length_append, Nat.add_sub_cancel, List.take_left']
  rfl
theorem bracket_at {n r : Int} (hn : -9223372036854775808 ≤ n ∧ n ≤ 9223372036854775807) (h : -9223372036854775808 ≤ r ∧ r ≤ 9223372036854775807) : bracket1 (atL n r) = n ∧ bracket2 (atL n r) = r := by
  unfold bracket1 bracket2
  rw [trim_at, cutB_app 40 _ _ (itoa_not n 40 (by decide) (by decide))]
  exact ⟨atoiV_itoa n hn.1 hn.2, register_reg h⟩
theorem atL_no (n r : Int) : (44 : UInt8) ∉ atL n r := by
  unfold atL
  simp only [List.mem_append, List.mem_cons, List.not_mem_nil, or_false, not_or]
  exact ⟨itoa_not n 44 (by decide) (by decide), by decide, regL_no r 44 (by decide) (by decide) (by decide), by decide⟩
/-- What is printed is found again. -/
theorem tryA_text {x : I5} (h : rightI x = true) : tryA (textI x) = x := by
  obtain ⟨hf, h1, h2, h3, h4⟩ := right_parts h
  have hop := form_in hf
  obtain ⟨hb, hne, hlow, _⟩ := name_in hop
  have hsp : (32 : UInt8) ∉ nameL x.op := fun hm => by have := hlow 32 hm; simp at this
  have r1 := regOk_range h1
  have r2 := regOk_range h2
  have r3 := regOk_range h3
  have r4 := numOk_range h4
  have c0 : ∀ r : Int, (44 : UInt8) ∉ regL r := fun r => regL_no r 44 (by decide) (by decide) (by decide)
  have c1 : ∀ r : Int, (44 : UInt8) ∉ Lib.itoa r := fun r => itoa_not r 44 (by decide) (by decide)
  obtain ⟨op, rd, a, b, n⟩ := x
  simp only at *
  unfold textI tryA
  simp only
  generalize hF : formI op = f at *
  by_cases e : f = 69
  · subst e
    have q1 := regOk_no (n := rd) h1
    have q2 := regOk_no (n := a) h2
    have q3 := regOk_no (n := b) h3
    have q4 : n = 0 := by unfold numOk at h4; simpa using h4
    subst q1 q2 q3 q4
    rw [if_pos rfl, cutB_none 32 _ hsp]
    simp only
    rw [hb]
    unfold fillA
    rw [hF, if_pos rfl]
  · rw [if_neg e, cutB_app 32 _ _ hsp]
    simp only
    rw [hb]
    unfold restL
    simp only
    rw [hF]
    by_cases e1 : f = 85 ∨ f = 74
    · have q2 : a = 0 := regOk_no (n := a) (by rcases e1 with rfl | rfl <;> exact h2)
      have q3 : b = 0 := regOk_no (n := b) (by rcases e1 with rfl | rfl <;> exact h3)
      subst q2 q3
      rw [if_pos e1]
      unfold two
      rw [split_two _ _ (c0 rd) (c1 n)]
      unfold fillA
      rw [hF, if_neg e]
      simp only
      rw [if_pos e1, register_reg (by omega), atoiV_itoa n (by omega) (by omega)]
    · rw [if_neg e1]
      by_cases e2 : f = 82
      · have q4 : n = 0 := by subst e2; unfold numOk at h4; simpa using h4
        subst q4
        rw [if_pos e2]
        unfold three
        rw [split_three _ _ _ (c0 rd) (c0 a) (c0 b)]
        unfold fillA
        rw [hF, if_neg e]
        simp only
        rw [if_pos e2, register_reg (by omega), register_reg (by omega), register_reg (by omega)]
      · rw [if_neg e2]
        by_cases e3 : f = 66
        · have q1 : rd = 0 := regOk_no (n := rd) (by subst e3; exact h1)
          subst q1
          rw [if_pos e3]
          unfold three
          rw [split_three _ _ _ (c0 a) (c0 b) (c1 n)]
          unfold fillA
          rw [hF, if_neg e]
          simp only
          rw [if_neg e2, if_pos e3, register_reg (by omega), register_reg (by omega), atoiV_itoa n (by omega) (by omega)]
        · rw [if_neg e3]
          by_cases e4 : f = 83
          · have q1 : rd = 0 := regOk_no (n := rd) (by subst e4; exact h1)
            subst q1
            rw [if_pos e4]
            unfold two
            rw [split_two _ _ (c0 b) (atL_no n a)]
            obtain ⟨b1, b2⟩ := bracket_at (n := n) (r := a) (by omega) (by omega)
            unfold fillA
            rw [hF, if_neg e]
            simp only
            rw [if_neg e1, if_pos e4, register_reg (by omega), b1, b2]
          · rw [if_neg e4]
            by_cases e5 : around op = true
            · have e6 := around_in e5
              have q3 : b = 0 := regOk_no (n := b) (by rw [hF] at e6; subst e6; exact h3)
              subst q3
              rw [if_pos e5]
              unfold two
              rw [split_two _ _ (c0 rd) (atL_no n a)]
              obtain ⟨b1, b2⟩ := bracket_at (n := n) (r := a) (by omega) (by omega)
              unfold fillA
              rw [hF, if_neg e]
              simp only
              rw [if_neg e1, if_neg e4, if_pos e5, register_reg (by omega), b1, b2]
            · have q3 : b = 0 := by
                have : has3 f = false := by unfold has3; simp; omega
                rw [this] at h3; exact regOk_no h3
              subst q3
              rw [if_neg e5]
              unfold three
              rw [split_three _ _ _ (c0 rd) (c0 a) (c1 n)]
              unfold fillA
              rw [hF, if_neg e]
              simp only
              rw [if_neg e2, if_neg e3, register_reg (by omega), register_reg (by omega), atoiV_itoa n (by omega) (by omega)]
/-- What is printed is parsed as it was. -/
theorem printE_right {x : I5} : printE x = 0 ↔ rightI x = true := by
  unfold printE
  cases rightI x <;> simp
theorem parseA_text {x : I5} (h : rightI x = true) : parseA (textI x) = (x, 0) := by
  unfold parseA parseI
  rw [tryA_text h, if_pos ⟨printE_right.2 h, by unfold printT; rw [if_pos h]⟩]
theorem text_inj {x y : I5} (hx : rightI x = true) (hy : rightI y = true) (h : textI x = textI y) : x = y := by
  rw [← tryA_text hx, h, tryA_text hy]
/-- Whoever finds again what is printed, parses alike. -/
theorem parseI_same (s : List UInt8) (x y : I5) (hx : ∀ z, rightI z = true → textI z = s → x = z) (hy : ∀ z, rightI z = true → textI z = s → y = z) : parseI s x = parseI s y := by
  rcases Classical.em (∃ z, rightI z = true ∧ textI z = s) with ⟨z, h1, h2⟩ | h
  · rw [hx z h1 h2, hy z h1 h2]
  · have no : ∀ z, ¬ (printE z = 0 ∧ printT z = s) := fun z ⟨h1, h2⟩ => by
      have h3 := printE_right.1 h1
      unfold printT at h2
      rw [if_pos h3] at h2
      exact h ⟨z, h3, h2⟩
    unfold parseI
    rw [if_neg (no x), if_neg (no y)]
theorem parseI_cases (s : List UInt8) (x : I5) : (parseI s x = (x, 0) ∧ rightI x = true ∧ textI x = s) ∨ parseI s x = (zeroI, 50) := by
  unfold parseI
  split
  · rename_i h
    have h3 := printE_right.1 h.1
    have h2 := h.2
    unfold printT at h2
    rw [if_pos h3] at h2
    exact .inl ⟨rfl, h3, h2⟩
  · exact .inr rfl
end Go.Proofs.YtdgkbigmdadlaaaGreatDoor
