import Derived.Test.YtjifancgekoenaaGreatDoorCnfPp
namespace Go.Proofs.YtjifancgekoenaaGreatDoor
open Go.RowKit Go.Proofs.YtjifancgekoenaaGreatDoorW.PrintWords Go.Proofs.YtjifancgekoenaaGreatDoorW.PrintLast Go.Proofs.YtjifancgekoenaaGreatDoorW.PrintMore
set_option linter.unusedVariables false
set_option linter.unusedSimpArgs false

/-- What nums tells, moved on by some bytes. -/
def shiftN (k : Nat) (p : List Int × Nat) : List Int × Nat := (p.1, p.2 + k)
theorem numsA_digit (c : UInt8) (d : Nat) (hc : c.toNat = 48 + d) (hd : d < 10) (r : List UInt8) (l : List Int) (n sg : Int) (op : Bool) (hn : 0 ≤ n) (hn2 : n * 10 + d ≤ 1000000000000) :
    numsA (c :: r) l n sg op = shiftN 1 (numsA r l (n * 10 + d) sg true) := by
  have h10 : ¬ c = 10 := by rintro rfl; simp at hc; omega
  have e : mn (wrap64 (wrap64 (wrap64 (n * 10) + wrap64 (c.toNat : Int)) - 48)) 1099511627776 = n * 10 + d := by
    rw [wrap64_small (x := n * 10) (by omega) (by omega), wrap64_small (x := (c.toNat : Int)) (by omega) (by omega), wrap64_small (x := n * 10 + (c.toNat : Int)) (by omega) (by omega), wrap64_small (by omega) (by omega)]
    unfold mn
    rw [if_neg (by omega)]
    omega
  conv => lhs; unfold numsA
  rw [if_neg h10, if_pos (by omega), e]
  rfl
theorem numsA_dec (sg : Int) (l : List Int) : ∀ (u : Nat), u ≤ 100000000 → ∀ (r : List UInt8) (op : Bool), numsA (Lib.decDigits u ++ r) l 0 sg op = shiftN (Lib.decDigits u).length (numsA r l u sg true) := by
  intro u
  induction u using Nat.strongRecOn with
  | _ u ih =>
    intro hu r op
    rw [Lib.decDigits]
    split
    · rename_i h
      have := numsA_digit (UInt8.ofNat (48 + u)) u (by simp; omega) h r l 0 sg op (by omega) (by omega)
      simpa using this
    · rename_i h
      rw [List.append_assoc, ih (u / 10) (by omega) (by omega)]
      have := numsA_digit (UInt8.ofNat (48 + u % 10)) (u % 10) (by simp; omega) (by omega) r l ((u / 10 : Nat) : Int) sg true (by omega) (by omega)
      rw [List.singleton_append, this]
      have e : ((u / 10 : Nat) : Int) * 10 + ((u % 10 : Nat) : Int) = (u : Int) := by omega
      rw [e]
      unfold shiftN
      simp
      omega
theorem shiftN_add (a b : Nat) (p : List Int × Nat) : shiftN a (shiftN b p) = shiftN (b + a) p := by unfold shiftN; simp; omega
theorem numsA_sep (c : UInt8) (h10 : c ≠ 10) (h45 : c ≠ 45) (hd : ¬ (48 ≤ c.toNat ∧ c.toNat ≤ 57)) (r : List UInt8) (l : List Int) (n sg : Int) (op : Bool) :
    numsA (c :: r) l n sg op = shiftN 1 (numsA r (if op then l ++ [wrap64 (sg * n)] else l) 0 1 false) := by
  conv => lhs; unfold numsA
  rw [if_neg h10, if_neg hd, if_neg h45]
  rfl
theorem numsA_int (x : Int) (h0 : -100000000 ≤ x) (h1 : x ≤ 100000000) (r : List UInt8) (l : List Int) : ∃ sg n, wrap64 (sg * n) = x ∧ numsA (Lib.itoa x ++ r) l 0 1 false = shiftN (Lib.itoa x).length (numsA r l n sg true) := by
  unfold Lib.itoa
  by_cases h : x < 0
  · rw [if_pos h]
    refine ⟨-1, x.natAbs, by rw [wrap64_small (by omega) (by omega)]; omega, ?_⟩
    have e : numsA (45 :: (Lib.decDigits x.natAbs ++ r)) l 0 1 false = shiftN 1 (numsA (Lib.decDigits x.natAbs ++ r) l 0 (-1) false) := by
      conv => lhs; unfold numsA
      rw [if_neg (by decide), if_neg (by decide), if_pos rfl]
      rfl
    rw [List.cons_append, e, numsA_dec (-1) l x.natAbs (by omega), shiftN_add]
    rfl
  · rw [if_neg h]
    refine ⟨1, x.toNat, by rw [wrap64_small (by omega) (by omega)]; omega, ?_⟩
    rw [numsA_dec 1 l x.toNat (by omega)]
theorem numsA_lit (x : Int) (h0 : -100000000 ≤ x) (h1 : x ≤ 100000000) (r : List UInt8) (l : List Int) : numsA (Lib.itoa x ++ 32 :: r) l 0 1 false = shiftN ((Lib.itoa x).length + 1) (numsA r (l ++ [x]) 0 1 false) := by
  obtain ⟨sg, n, h2, h3⟩ := numsA_int x h0 h1 (32 :: r) l
  rw [h3, numsA_sep 32 (by decide) (by decide) (by decide)]
  simp only [if_true]
  rw [h2, shiftN_add, Nat.add_comm]
theorem numsA_lits : ∀ (row : List Int) (l : List Int) (r : List UInt8), (∀ x ∈ row, -100000000 ≤ x ∧ x ≤ 100000000) → numsA (row.flatMap (fun x => Lib.itoa x ++ [32]) ++ r) l 0 1 false = shiftN (row.flatMap (fun x => Lib.itoa x ++ [32])).length (numsA r (l ++ row) 0 1 false)
  | [], l, r, _ => by simp [shiftN]
  | x :: row, l, r, h => by
    rw [List.flatMap_cons, List.append_assoc, List.append_assoc, List.singleton_append, numsA_lit x (h x (by simp)).1 (h x (by simp)).2, numsA_lits row (l ++ [x]) r (fun y hy => h y (by simp [hy])), shiftN_add]
    simp only [List.append_assoc, List.singleton_append, List.length_append, List.length_cons, List.length_nil]
    congr 1
    omega
/-- The numbers of a line, the last one behind a blank or nothing. -/
theorem numsA_line (row : List Int) (z : Int) (h : ∀ x ∈ row, -100000000 ≤ x ∧ x ≤ 100000000) (hz : -100000000 ≤ z ∧ z ≤ 100000000) (l : List Int) (r : List UInt8) :
    numsA (row.flatMap (fun x => Lib.itoa x ++ [32]) ++ (Lib.itoa z ++ 10 :: r)) l 0 1 false = (l ++ row ++ [z], (row.flatMap (fun x => Lib.itoa x ++ [32])).length + (Lib.itoa z).length + 1) := by
  rw [numsA_lits row l _ h]
  obtain ⟨sg, n, h2, h3⟩ := numsA_int z hz.1 hz.2 (10 :: r) (l ++ row)
  rw [h3]
  have e : numsA (10 :: r) (l ++ row) n sg true = (l ++ row ++ [z], 1) := by
    conv => lhs; unfold numsA
    rw [if_pos rfl, h2]
    rfl
  rw [e]
  unfold shiftN
  simp
  omega
end Go.Proofs.YtjifancgekoenaaGreatDoor
