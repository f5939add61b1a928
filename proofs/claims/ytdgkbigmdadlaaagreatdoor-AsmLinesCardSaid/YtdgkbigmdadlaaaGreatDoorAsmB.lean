import Derived.Test.YtdgkbigmdadlaaaGreatDoorAsmA
namespace Go.Proofs.YtdgkbigmdadlaaaGreatDoor
set_option linter.unusedVariables false
set_option linter.unusedSimpArgs false

/-! the numbers of a text, as the document's answer finds them -/
def isDig (c : UInt8) : Bool := decide (48 ≤ c.toNat) && decide (c.toNat ≤ 57)
/-- At most so many digits from here on: their number, how many. -/
def digs : Nat → List UInt8 → Int → Int × Nat
  | 0, _, n => (n, 0)
  | f + 1, [], n => (n, 0)
  | f + 1, c :: r, n => if isDig c then ((digs f r (10 * n + c.toNat - 48)).1, (digs f r (10 * n + c.toNat - 48)).2 + 1) else (n, 0)
/-- All numbers from here on ('neg': a - stands ahead). -/
def numsG : Nat → Bool → List UInt8 → List Int → List Int
  | 0, _, _, l => l
  | f + 1, neg, [], l => l
  | f + 1, neg, c :: r, l =>
    if 4 ≤ l.length then l
    else if 0 < (digs 7 (c :: r) 0).2 then numsG f false ((c :: r).drop (digs 7 (c :: r) 0).2) (l ++ [if neg then -(digs 7 (c :: r) 0).1 else (digs 7 (c :: r) 0).1])
    else numsG f (c == 45) r l
theorem digs_len : ∀ (f : Nat) (s : List UInt8) (n : Int), (digs f s n).2 ≤ f ∧ (digs f s n).2 ≤ s.length
  | 0, s, n => by simp [digs]
  | f + 1, [], n => by simp [digs]
  | f + 1, c :: r, n => by
    unfold digs
    split
    · have := digs_len f r (10 * n + c.toNat - 48)
      simp; omega
    · simp
theorem isDig_dec (u : Nat) (hu : u < 10) : isDig (UInt8.ofNat (48 + u)) = true := by
  unfold isDig
  have : (UInt8.ofNat (48 + u)).toNat = 48 + u := by simp; omega
  rw [this]
  simp; omega
/-- A number's digits, and no digit behind them. -/
theorem digs_app (r : List UInt8) (hr : ∀ c, r.head? = some c → isDig c = false) : ∀ (t : List UInt8) (f : Nat) (n : Int), (∀ c ∈ t, isDig c = true) → t.length ≤ f → digs f (t ++ r) n = (t.foldl (fun n c => 10 * n + (c.toNat : Int) - 48) n, t.length)
  | [], f, n, _, _ => by
    cases f with
    | zero => rfl
    | succ f =>
      cases r with
      | nil => rfl
      | cons c r =>
        have := hr c rfl
        simp only [List.nil_append]
        unfold digs
        rw [this, if_neg (by simp)]
        rfl
  | c :: t, 0, n, _, h => by simp at h
  | c :: t, f + 1, n, h, hl => by
    rw [List.cons_append]
    unfold digs
    rw [if_pos (h c (by simp)), digs_app r hr t f _ (fun c hc => h c (by simp [hc])) (by simpa using hl)]
    simp
theorem dec_fold (u : Nat) : (Lib.decDigits u).foldl (fun n c => 10 * n + (c.toNat : Int) - 48) 0 = (u : Int) := by
  induction u using Nat.strongRecOn with
  | _ u ih =>
    rw [Lib.decDigits]
    split
    · rename_i h
      have : (UInt8.ofNat (48 + u)).toNat = 48 + u := by simp; omega
      simp only [List.foldl_cons, List.foldl_nil]
      rw [this]; omega
    · rename_i h
      have : (UInt8.ofNat (48 + u % 10)).toNat = 48 + u % 10 := by simp; omega
      rw [List.foldl_append, ih (u / 10) (by omega)]
      simp only [List.foldl_cons, List.foldl_nil]
      rw [this]; omega
theorem dec_len (k : Nat) : ∀ u, u < 10 ^ (k + 1) → (Lib.decDigits u).length ≤ k + 1 := by
  induction k with
  | zero => intro u hu; rw [Lib.decDigits, dif_pos (by simpa using hu)]; simp
  | succ k ih =>
    intro u hu
    rw [Lib.decDigits]
    split
    · simp
    · have := ih (u / 10) (by rw [Nat.pow_succ] at hu; omega)
      simp; omega
theorem dec_dig (u : Nat) : ∀ c ∈ Lib.decDigits u, isDig c = true := fun c hc => by
  have := dec_mem u c hc
  unfold isDig
  simp; omega
theorem nums_skip (f : Nat) (neg : Bool) (c : UInt8) (r : List UInt8) (l : List Int) (hc : isDig c = false) (hl : l.length < 4) : numsG (f + 1) neg (c :: r) l = numsG f (c == 45) r l := by
  have e : digs 7 (c :: r) 0 = (0, 0) := by unfold digs; rw [hc, if_neg (by simp)]
  conv => lhs; unfold numsG
  rw [if_neg (by omega), e, if_neg (by simp)]
theorem nums_dec (f : Nat) (neg : Bool) (u : Nat) (hu : u < 10000000) (r : List UInt8) (l : List Int) (hr : ∀ c, r.head? = some c → isDig c = false) (hl : l.length < 4) :
    numsG (f + 1) neg (Lib.decDigits u ++ r) l = numsG f false r (l ++ [if neg then -(u : Int) else u]) := by
  have e : digs 7 (Lib.decDigits u ++ r) 0 = ((u : Int), (Lib.decDigits u).length) := by
    rw [digs_app r hr _ 7 0 (dec_dig u) (dec_len 6 u (by simpa using hu)), dec_fold]
  have hne := dec_ne u
  have hp : 0 < (Lib.decDigits u).length := List.length_pos_iff.2 hne
  cases hd : Lib.decDigits u ++ r with
  | nil => simp at hd; exact absurd hd.1 hne
  | cons c t =>
    conv => lhs; unfold numsG
    rw [if_neg (by omega), ← hd, e, if_pos hp]
    simp only [List.drop_left]
theorem nums_itoa (x : Int) (hx : -1048576 ≤ x ∧ x ≤ 1048575) (f : Nat) (r : List UInt8) (l : List Int) (hr : ∀ c, r.head? = some c → isDig c = false) (hl : l.length < 4) :
    numsG (f + 2) false (Lib.itoa x ++ r) l = numsG (if x < 0 then f else f + 1) false r (l ++ [x]) := by
  unfold Lib.itoa
  by_cases h : x < 0
  · rw [if_pos h, if_pos h, List.cons_append, nums_skip (f + 1) false 45 _ l (by decide) hl, nums_dec f _ x.natAbs (by omega) r l hr hl]
    rw [show ((45 : UInt8) == 45) = true from rfl, if_pos rfl, show -(x.natAbs : Int) = x from by omega]
  · rw [if_neg h, if_neg h, nums_dec (f + 1) false x.toNat (by omega) r l hr hl]
    rw [if_neg (by simp), show (x.toNat : Int) = x from by omega]
theorem nums_reg (x : Int) (hx : 0 ≤ x ∧ x ≤ 31) (f : Nat) (neg : Bool) (r : List UInt8) (l : List Int) (hr : ∀ c, r.head? = some c → isDig c = false) (hl : l.length < 4) :
    numsG (f + 2) neg (regL x ++ r) l = numsG f false r (l ++ [x]) := by
  unfold regL Lib.itoa
  rw [if_neg (by omega), List.cons_append, nums_skip (f + 1) neg 120 _ l (by decide) hl, nums_dec f _ x.toNat (by omega) r l hr hl]
  rw [show ((120 : UInt8) == 45) = false from rfl, if_neg (by simp), show (x.toNat : Int) = x from by omega]
theorem nums_nil (f : Nat) (neg : Bool) (l : List Int) : numsG f neg [] l = l := by cases f <;> rfl

def fillR (op : Int) (p : List Int) : I5 :=
  if formI op = 69 then ⟨op, 0, 0, 0, 0⟩
  else match p with
  | [p0, p1] => if formI op = 85 ∨ formI op = 74 then ⟨op, p0, 0, 0, p1⟩ else ⟨-1, 0, 0, 0, 0⟩
  | [p0, p1, p2] =>
    if formI op = 82 then ⟨op, p0, p1, p2, 0⟩
    else if formI op = 66 then ⟨op, 0, p0, p1, p2⟩
    else if formI op = 83 then ⟨op, 0, p2, p0, p1⟩
    else if around op = true then ⟨op, p0, p2, 0, p1⟩
    else ⟨op, p0, p1, 0, p2⟩
  | _ => ⟨-1, 0, 0, 0, 0⟩
/-- The instruction that the document's answer tries. -/
def tryR (s : List UInt8) : I5 := fillR (byL (cutB 32 s).1) (numsG (s.length + 1) false (s.drop (cutB 32 s).1.length) [])
theorem rest_long (a : Nat) (h : 20 ≤ a) (g : Nat) (hg : g ≤ 20) : ∃ f, a = f + g := ⟨a - g, by omega⟩
theorem two_nums (d n : Int) (hd : 0 ≤ d ∧ d ≤ 31) (hn : -1048576 ≤ n ∧ n ≤ 1048575) (f : Nat) : numsG (f + 7) false (32 :: two (regL d) (Lib.itoa n)) [] = [d, n] := by
  unfold two
  rw [nums_skip (f + 6) false 32 _ [] (by decide) (by decide), nums_reg d hd (f + 4) _ _ [] (by intro c hc; simp at hc; subst hc; decide) (by decide),
    nums_skip (f + 3) false 44 _ _ (by decide) (by simp), nums_skip (f + 2) _ 32 _ _ (by decide) (by simp)]
  have := nums_itoa n hn f [] ([] ++ [d]) (by simp) (by simp)
  rw [List.append_nil] at this
  rw [show ((32 : UInt8) == 45) = false from rfl, this, nums_nil]
  rfl
theorem three_nums (d a n : Int) (hd : 0 ≤ d ∧ d ≤ 31) (ha : 0 ≤ a ∧ a ≤ 31) (hn : -1048576 ≤ n ∧ n ≤ 1048575) (f : Nat) : numsG (f + 11) false (32 :: three (regL d) (regL a) (Lib.itoa n)) [] = [d, a, n] := by
  unfold three
  rw [nums_skip (f + 10) false 32 _ [] (by decide) (by decide), nums_reg d hd (f + 8) _ _ [] (by intro c hc; simp at hc; subst hc; decide) (by decide),
    nums_skip (f + 7) false 44 _ _ (by decide) (by simp), nums_skip (f + 6) _ 32 _ _ (by decide) (by simp),
    nums_reg a ha (f + 4) _ _ _ (by intro c hc; simp at hc; subst hc; decide) (by simp), nums_skip (f + 3) false 44 _ _ (by decide) (by simp), nums_skip (f + 2) _ 32 _ _ (by decide) (by simp)]
  have := nums_itoa n hn f [] ([] ++ [d] ++ [a]) (by simp) (by simp)
  rw [List.append_nil] at this
  rw [show ((32 : UInt8) == 45) = false from rfl, this, nums_nil]
  rfl
theorem three_regs (d a b : Int) (hd : 0 ≤ d ∧ d ≤ 31) (ha : 0 ≤ a ∧ a ≤ 31) (hb : 0 ≤ b ∧ b ≤ 31) (f : Nat) : numsG (f + 11) false (32 :: three (regL d) (regL a) (regL b)) [] = [d, a, b] := by
  unfold three
  rw [nums_skip (f + 10) false 32 _ [] (by decide) (by decide), nums_reg d hd (f + 8) _ _ [] (by intro c hc; simp at hc; subst hc; decide) (by decide),
    nums_skip (f + 7) false 44 _ _ (by decide) (by simp), nums_skip (f + 6) _ 32 _ _ (by decide) (by simp),
    nums_reg a ha (f + 4) _ _ _ (by intro c hc; simp at hc; subst hc; decide) (by simp), nums_skip (f + 3) false 44 _ _ (by decide) (by simp), nums_skip (f + 2) _ 32 _ _ (by decide) (by simp)]
  have := nums_reg b hb f ((32 : UInt8) == 45) [] ([] ++ [d] ++ [a]) (by simp) (by simp)
  rw [List.append_nil] at this
  rw [this, nums_nil]
  rfl
theorem at_nums (d n a : Int) (hd : 0 ≤ d ∧ d ≤ 31) (ha : 0 ≤ a ∧ a ≤ 31) (hn : -1048576 ≤ n ∧ n ≤ 1048575) (f : Nat) : numsG (f + 12) false (32 :: two (regL d) (atL n a)) [] = [d, n, a] := by
  unfold two atL
  rw [nums_skip (f + 11) false 32 _ [] (by decide) (by decide), nums_reg d hd (f + 9) _ _ [] (by intro c hc; simp at hc; subst hc; decide) (by decide),
    nums_skip (f + 8) false 44 _ _ (by decide) (by simp), nums_skip (f + 7) _ 32 _ _ (by decide) (by simp),
    show ((32 : UInt8) == 45) = false from rfl, nums_itoa n hn (f + 5) _ _ (by intro c hc; simp at hc; subst hc; decide) (by simp)]
  obtain ⟨g, hg⟩ : ∃ g, (if n < 0 then f + 5 else f + 5 + 1) = g + 5 := ⟨if n < 0 then f else f + 1, by split <;> omega⟩
  rw [hg, nums_skip (g + 4) false 40 _ _ (by decide) (by simp), nums_reg a ha (g + 2) _ _ _ (by intro c hc; simp at hc; subst hc; decide) (by simp), nums_skip (g + 1) false 41 _ _ (by decide) (by simp), nums_nil]
  rfl
theorem drop_name (t l : List UInt8) : (t ++ l).drop t.length = l := by simp
theorem len_two (a b : List UInt8) (ha : a ≠ []) : 3 ≤ (two a b).length := by
  unfold two
  have := List.length_pos_iff.2 ha
  simp; omega
/-- What is printed is found again by it, too. -/
theorem tryR_text {x : I5} (h : rightI x = true) (k : Nat) (hk : 12 ≤ k) : fillR (byL (cutB 32 (textI x)).1) (numsG k false ((textI x).drop (cutB 32 (textI x)).1.length) []) = x := by
  obtain ⟨hf, h1, h2, h3, h4⟩ := right_parts h
  have hop := form_in hf
  obtain ⟨hb, hne, hlow, _⟩ := name_in hop
  have hsp : (32 : UInt8) ∉ nameL x.op := fun hm => by have := hlow 32 hm; simp at this
  have r1 := regOk_range h1
  have r2 := regOk_range h2
  have r3 := regOk_range h3
  have r4 := numOk_range h4
  obtain ⟨k, rfl⟩ : ∃ j, k = j + 12 := ⟨k - 12, by omega⟩
  obtain ⟨op, rd, a, b, n⟩ := x
  simp only at *
  unfold textI
  simp only
  generalize hF : formI op = f at *
  by_cases e : f = 69
  · subst e
    have q1 := regOk_no (n := rd) h1
    have q2 := regOk_no (n := a) h2
    have q3 := regOk_no (n := b) h3
    have q4 : n = 0 := by unfold numOk at h4; simpa using h4
    subst q1 q2 q3 q4
    rw [if_pos rfl, cutB_none 32 _ hsp]
    simp only
    rw [hb]
    unfold fillR
    rw [hF, if_pos rfl]
  · rw [if_neg e, cutB_app 32 _ _ hsp]
    simp only
    rw [hb, drop_name]
    unfold restL
    simp only
    rw [hF]
    by_cases e1 : f = 85 ∨ f = 74
    · have q2 : a = 0 := regOk_no (n := a) (by rcases e1 with rfl | rfl <;> exact h2)
      have q3 : b = 0 := regOk_no (n := b) (by rcases e1 with rfl | rfl <;> exact h3)
      subst q2 q3
      rw [if_pos e1, two_nums rd n r1 r4 (k + 5)]
      unfold fillR
      rw [hF, if_neg e]
      simp only
      rw [if_pos e1]
    · rw [if_neg e1]
      by_cases e2 : f = 82
      · have q4 : n = 0 := by subst e2; unfold numOk at h4; simpa using h4
        subst q4
        rw [if_pos e2, three_regs rd a b r1 r2 r3 (k + 1)]
        unfold fillR
        rw [hF, if_neg e]
        simp only
        rw [if_pos e2]
      · rw [if_neg e2]
        by_cases e3 : f = 66
        · have q1 : rd = 0 := regOk_no (n := rd) (by subst e3; exact h1)
          subst q1
          rw [if_pos e3, three_nums a b n r2 r3 r4 (k + 1)]
          unfold fillR
          rw [hF, if_neg e]
          simp only
          rw [if_neg e2, if_pos e3]
        · rw [if_neg e3]
          by_cases e4 : f = 83
          · have q1 : rd = 0 := regOk_no (n := rd) (by subst e4; exact h1)
            subst q1
            rw [if_pos e4, at_nums b n a r3 r2 r4 k]
            unfold fillR
            rw [hF, if_neg e]
            simp only
            rw [if_neg e2, if_neg e3, if_pos e4]
          · rw [if_neg e4]
            by_cases e5 : around op = true
            · have e6 := around_in e5
              have q3 : b = 0 := regOk_no (n := b) (by rw [hF] at e6; subst e6; exact h3)
              subst q3
              rw [if_pos e5, at_nums rd n a r1 r2 r4 k]
              unfold fillR
              rw [hF, if_neg e]
              simp only
              rw [if_neg e2, if_neg e3, if_neg e4, if_pos e5]
            · have q3 : b = 0 := by
                have : has3 f = false := by unfold has3; simp; omega
                rw [this] at h3; exact regOk_no h3
              subst q3
              rw [if_neg e5, three_nums rd a n r1 r2 r4 (k + 1)]
              unfold fillR
              rw [hF, if_neg e]
              simp only
              rw [if_neg e2, if_neg e3, if_neg e4, if_neg e5]
end Go.Proofs.YtdgkbigmdadlaaaGreatDoor
