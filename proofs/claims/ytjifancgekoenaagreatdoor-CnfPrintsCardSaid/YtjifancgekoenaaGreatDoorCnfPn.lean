import Derived.Test.YtjifancgekoenaaGreatDoorCnfP
import Derived.Test.YtjifancgekoenaaGreatDoorCnfRefC
namespace Go.Proofs.YtjifancgekoenaaGreatDoor
open Go.RowKit Go.Proofs.YtjifancgekoenaaGreatDoorW.PrintWords Go.Proofs.YtjifancgekoenaaGreatDoorW.PrintLast Go.Proofs.YtjifancgekoenaaGreatDoorW.PrintMore
set_option linter.unusedVariables false
set_option linter.unusedSimpArgs false

/-- R13.nums from a place on: the numbers, and how many bytes to the place behind the line's end. -/
def numsA : List UInt8 → List Int → Int → Int → Bool → List Int × Nat
  | [], l, n, sg, op => (if op then l ++ [wrap64 (sg * n)] else l, 1)
  | c :: r, l, n, sg, op =>
    if c = 10 then (if op then l ++ [wrap64 (sg * n)] else l, 1)
    else if 48 ≤ c.toNat ∧ c.toNat ≤ 57 then
      ((numsA r l (mn (wrap64 (wrap64 (wrap64 (n * 10) + wrap64 (c.toNat : Int)) - 48)) 1099511627776) sg true).1, (numsA r l (mn (wrap64 (wrap64 (wrap64 (n * 10) + wrap64 (c.toNat : Int)) - 48)) 1099511627776) sg true).2 + 1)
    else ((numsA r (if op then l ++ [wrap64 (sg * n)] else l) 0 (if c = 45 then -1 else 1) false).1, (numsA r (if op then l ++ [wrap64 (sg * n)] else l) 0 (if c = 45 then -1 else 1) false).2 + 1)
theorem numsA_pos : ∀ (s : List UInt8) (l : List Int) (n sg : Int) (op : Bool), 1 ≤ (numsA s l n sg op).2 ∧ (numsA s l n sg op).2 ≤ s.length + 1 ∧ (numsA s l n sg op).1.length ≤ l.length + s.length + 1
  | [], l, n, sg, op => by
    unfold numsA
    cases op <;> simp
  | c :: r, l, n, sg, op => by
    unfold numsA
    split
    · cases op <;> simp <;> omega
    · split
      · have := numsA_pos r l (mn (wrap64 (wrap64 (wrap64 (n * 10) + wrap64 (c.toNat : Int)) - 48)) 1099511627776) sg true
        simp only [List.length_cons]
        omega
      · have := numsA_pos r (if op then l ++ [wrap64 (sg * n)] else l) 0 (if c = 45 then -1 else 1) false
        have h2 : (if op then l ++ [wrap64 (sg * n)] else l).length ≤ l.length + 1 := by cases op <;> simp
        simp only [List.length_cons]
        omega
theorem wrap64_range (x : Int) : -9223372036854775808 ≤ wrap64 x ∧ wrap64 x ≤ 9223372036854775807 := by
  simp only [wrap64]
  omega
theorem numsA_wf : ∀ (s : List UInt8) (l : List Int) (n sg : Int) (op : Bool), Wf l → Wf (numsA s l n sg op).1
  | [], l, n, sg, op, h => by
    unfold numsA
    cases op
    · exact h
    · intro x hx
      rcases List.mem_append.1 hx with hx | hx
      · exact h x hx
      · simp at hx; subst hx; exact wrap64_range _
  | c :: r, l, n, sg, op, h => by
    have h2 : Wf (if op then l ++ [wrap64 (sg * n)] else l) := by
      cases op
      · exact h
      · intro x hx
        rcases List.mem_append.1 hx with hx | hx
        · exact h x hx
        · simp at hx; subst hx; exact wrap64_range _
    unfold numsA
    split
    · exact h2
    · split
      · exact numsA_wf r _ _ _ _ h
      · exact numsA_wf r _ _ _ _ h2
theorem bt_bytes (s : List UInt8) (i : Nat) (h : i < s.length) : bt (bytesB s) (i : Int) = (s[i].toNat : Int) := by
  unfold bt
  have h2 : ((i : Nat) : Int).toNat < (bytesB s).size := by rw [bytesB_size]; simpa using h
  rw [dif_pos h2]
  have := bytesB_get s i (by simpa using h2)
  simp only [Int.toNat_natCast]
  rw [this, getElem!_pos s i h]
theorem nums_pure (s : List UInt8) (hs : s.length ≤ 1000000) : ∀ (k i : Nat) (l : List Int) (n sg : Int) (op : Bool), i ≤ s.length → l.length ≤ i → 3 * (s.length - i) + 3 ≤ k →
    whetstoneref13_nums.l0 k (bytesB s) (i : Int) l n sg op = some ((numsA (s.drop i) l n sg op).1, ((i + (numsA (s.drop i) l n sg op).2 : Nat) : Int))
  | 0, i, l, n, sg, op, hi, hl, hk => by omega
  | 1, i, l, n, sg, op, hi, hl, hk => by omega
  | 2, i, l, n, sg, op, hi, hl, hk => by omega
  | k + 3, i, l, n, sg, op, hi, hl, hk => by
    have hz : (bytesB s).size = s.length := bytesB_size s
    have fin : (if op = true then (if l.length < 17592186044416 then (some ((l ++ [wrap64 (sg * n)]), wrap64 ((i : Int) + 1))) else none) else (some (l, wrap64 ((i : Int) + 1)))) = some ((if op then l ++ [wrap64 (sg * n)] else l), ((i + 1 : Nat) : Int)) := by
      rw [wrap64_small (x := (i : Int) + 1) (by omega) (by omega)]
      cases op
      · simp
      · rw [if_pos rfl, if_pos (by omega)]; simp
    unfold whetstoneref13_nums.l0
    by_cases hlt : (i : Int) < ((bytesB s).size : Int)
    · have hlt2 : i < s.length := by rw [hz] at hlt; omega
      have hb := bt_bytes s i hlt2
      rw [if_pos hlt, if_pos (by omega), hb, List.drop_eq_getElem_cons hlt2]
      generalize hc : s[i] = c
      have hcr : c.toNat ≤ 255 := by have := c.toNat_lt; omega
      unfold whetstoneref13_nums.j1
      by_cases h10 : c = 10
      · subst h10
        rw [show (((10 : UInt8).toNat : Int) != 10) = false from rfl, if_neg (by simp)]
        rw [fin]
        unfold numsA
        rw [if_pos rfl]
      · have hne : ((c.toNat : Int) != 10) = true := by
          simp
          intro e
          exact h10 (UInt8.toNat_inj.1 (show c.toNat = 10 by omega))
        rw [hne, if_pos rfl, if_pos (by omega), if_pos hlt, hb, hc]
        unfold numsA
        rw [if_neg h10]
        by_cases h48 : 48 ≤ c.toNat
        · rw [if_pos (by omega)]
          unfold whetstoneref13_nums.j2
          by_cases h57 : c.toNat ≤ 57
          · rw [decide_eq_true (by omega : (c.toNat : Int) ≤ 57), if_pos rfl, if_pos ⟨h48, h57⟩, wrap64_small (x := (i : Int) + 1) (by omega) (by omega)]
            have := nums_pure s hs k (i + 1) l (mn (wrap64 (wrap64 (wrap64 (n * 10) + wrap64 (c.toNat : Int)) - 48)) 1099511627776) sg true (by omega) (by omega) (by omega)
            rw [show ((i + 1 : Nat) : Int) = (i : Int) + 1 from by omega] at this
            rw [this]
            congr 2
            omega
          · rw [decide_eq_false (by omega : ¬ (c.toNat : Int) ≤ 57), if_neg (show ¬ (false = true) by simp), if_neg (show ¬ (48 ≤ c.toNat ∧ c.toNat ≤ 57) by omega)]
            have h45 : ¬ (c.toNat : Int) = 45 := by omega
            have h45b : ¬ c = 45 := by rintro rfl; exact h45 rfl
            rw [if_neg h45b, wrap64_small (x := (i : Int) + 1) (by omega) (by omega)]
            have := fun l' hl' => nums_pure s hs k (i + 1) l' 0 1 false (by omega) hl' (by omega)
            rw [show ((i + 1 : Nat) : Int) = (i : Int) + 1 from by omega] at this
            cases op
            · rw [if_neg (show ¬ (false = true) by simp), if_neg h45, this l (by omega)]
              simp only [Bool.false_eq_true, if_false]
              congr 2
              omega
            · rw [if_pos (show (true = true) from rfl), if_pos (show l.length < 17592186044416 by omega)]
              simp only [Option.bind_some]
              rw [if_neg h45, this _ (by simp; omega)]
              simp only [if_true]
              congr 2
              omega
        · rw [if_neg (by omega)]
          unfold whetstoneref13_nums.j2
          rw [if_neg (show ¬ (false = true) by simp), if_neg (show ¬ (48 ≤ c.toNat ∧ c.toNat ≤ 57) by omega)]
          rw [wrap64_small (x := (i : Int) + 1) (by omega) (by omega)]
          by_cases h45b : c = 45
          · have h45 : (c.toNat : Int) = 45 := by subst h45b; rfl
            rw [if_pos h45b]
            have := fun l' hl' => nums_pure s hs k (i + 1) l' 0 (-1) false (by omega) hl' (by omega)
            rw [show ((i + 1 : Nat) : Int) = (i : Int) + 1 from by omega] at this
            cases op
            · rw [if_neg (show ¬ (false = true) by simp), if_pos h45, this l (by omega)]
              simp only [Bool.false_eq_true, if_false]
              congr 2
              omega
            · rw [if_pos (show (true = true) from rfl), if_pos (show l.length < 17592186044416 by omega)]
              simp only [Option.bind_some]
              rw [if_pos h45, this _ (by simp; omega)]
              simp only [if_true]
              congr 2
              omega
          · have h45 : ¬ (c.toNat : Int) = 45 := by
              intro e
              exact h45b (UInt8.toNat_inj.1 (show c.toNat = 45 by omega))
            rw [if_neg h45b]
            have := fun l' hl' => nums_pure s hs k (i + 1) l' 0 1 false (by omega) hl' (by omega)
            rw [show ((i + 1 : Nat) : Int) = (i : Int) + 1 from by omega] at this
            cases op
            · rw [if_neg (show ¬ (false = true) by simp), if_neg h45, this l (by omega)]
              simp only [Bool.false_eq_true, if_false]
              congr 2
              omega
            · rw [if_pos (show (true = true) from rfl), if_pos (show l.length < 17592186044416 by omega)]
              simp only [Option.bind_some]
              rw [if_neg h45, this _ (by simp; omega)]
              simp only [if_true]
              congr 2
              omega
    · rw [if_neg hlt, List.drop_of_length_le (by rw [hz] at hlt; omega)]
      unfold whetstoneref13_nums.j1
      rw [if_neg (by simp), fin]
      unfold numsA
      rfl
end Go.Proofs.YtjifancgekoenaaGreatDoor
