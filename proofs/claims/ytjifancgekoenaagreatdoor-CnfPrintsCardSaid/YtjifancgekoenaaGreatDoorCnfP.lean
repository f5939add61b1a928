import Derived.Test.YtjifancgekoenaaGreatDoorCnfT
import Derived.Test.YtjifancgekoenaaGreatDoorCnfO
import Derived.Test.YtjifancgekoenaaGreatDoorCnfRefB
namespace Go.Proofs.YtjifancgekoenaaGreatDoor
open Go.RowKit Go.Proofs.YtjifancgekoenaaGreatDoorW.PrintWords Go.Proofs.YtjifancgekoenaaGreatDoorW.PrintLast Go.Proofs.YtjifancgekoenaaGreatDoorW.PrintMore
set_option linter.unusedVariables false
set_option linter.unusedSimpArgs false

theorem digit_str (u : Nat) (hu : u < 10) : strOfNums [(48 + (u : Int)) % 256] = bytesB [UInt8.ofNat (48 + u)] := by
  have h : u = 0 ∨ u = 1 ∨ u = 2 ∨ u = 3 ∨ u = 4 ∨ u = 5 ∨ u = 6 ∨ u = 7 ∨ u = 8 ∨ u = 9 := by omega
  rcases h with rfl | rfl | rfl | rfl | rfl | rfl | rfl | rfl | rfl | rfl <;> rfl
theorem num_dec : ∀ (k u : Nat), u < 10 ^ k → u < 1000000000000000 → 0 < k → whetstoneref05_Num.f k (u : Int) = some (bytesB (Lib.decDigits u))
  | 0, u, h, hu, h0 => by omega
  | k + 1, u, h, hu, h0 => by
    unfold whetstoneref05_Num.f
    rw [if_neg (by omega)]
    simp only [Option.bind_some]
    have et : Int.tmod (u : Int) 10 = ((u % 10 : Nat) : Int) := by rw [Int.tmod_eq_emod_of_nonneg (by omega)]; omega
    have ed : Int.tdiv (u : Int) 10 = ((u / 10 : Nat) : Int) := by rw [Int.tdiv_eq_ediv_of_nonneg (by omega)]; omega
    rw [et, ed, wrap64_small (x := 48 + ((u % 10 : Nat) : Int)) (by omega) (by omega), wrap64_small (x := ((u / 10 : Nat) : Int)) (by omega) (by omega), digit_str (u % 10) (by omega)]
    rw [Lib.decDigits]
    by_cases h10 : u < 10
    · rw [if_neg (by omega), dif_pos h10, Nat.mod_eq_of_lt h10]
    · have hk0 : 0 < k := by
        rcases Nat.eq_zero_or_pos k with h | h
        · subst h; simp at *; omega
        · exact h
      rw [if_pos (by omega), dif_neg h10, num_dec k (u / 10) (by rw [Nat.pow_succ] at h; omega) (by omega) hk0]
      simp only [Option.bind_some]
      have hl : (Lib.decDigits (u / 10)).length ≤ 21 := by
        have := Lib.itoa_length_le ((u / 10 : Nat) : Int) (by omega) (by omega)
        rw [Lib.itoa_nonneg] at this
        exact this
      rw [if_pos (by rw [bytesB_size, bytesB_size]; simp; omega), bytesB_app]
theorem Num_f (x : Int) (h0 : -100000000 ≤ x) (h1 : x ≤ 100000000) (k : Nat) (hk : 10 ≤ k) : whetstoneref05_Num.f k x = some (bytesB (Lib.itoa x)) := by
  by_cases h : x < 0
  · obtain ⟨k', rfl⟩ : ∃ k', k = k' + 1 := ⟨k - 1, by omega⟩
    unfold whetstoneref05_Num.f
    rw [if_pos h, wrap64_small (by omega) (by omega)]
    have hp : 10 ^ 9 ≤ 10 ^ k' := Nat.pow_le_pow_right (by decide) (by omega)
    have e9 : (10 : Nat) ^ 9 = 1000000000 := by decide
    have e : -x = ((x.natAbs : Nat) : Int) := by omega
    rw [e, num_dec k' x.natAbs (by omega) (by omega) (by omega)]
    simp only [Option.bind_some]
    have hl : (Lib.decDigits x.natAbs).length ≤ 21 := by
      have := Lib.itoa_length_le ((x.natAbs : Nat) : Int) (by omega) (by omega)
      rw [Lib.itoa_nonneg] at this
      exact this
    rw [if_pos (by rw [bytesB_size]; omega)]
    unfold Lib.itoa
    rw [if_pos h]
    exact congrArg some (bytesB_app [45] _)
  · have e : x = ((x.toNat : Nat) : Int) := by omega
    rw [e, Lib.itoa_nonneg]
    have hp : 10 ^ 9 ≤ 10 ^ k := Nat.pow_le_pow_right (by decide) (by omega)
    have e9 : (10 : Nat) ^ 9 = 1000000000 := by decide
    exact num_dec k x.toNat (by omega) (by omega) (by omega)

def Mid (L : List (List Int)) : Prop := ∀ r ∈ L, ∀ x ∈ r, -100000000 ≤ x ∧ x ≤ 100000000
theorem lit_len (x : Int) (h0 : -100000000 ≤ x) (h1 : x ≤ 100000000) : (Lib.itoa x).length ≤ 21 := Lib.itoa_length_le x (by omega) (by omega)
theorem check_mid {n : Int} {L : List (List Int)} (hW : WfL L) (hk : checkI n L = 0) : Mid L := by
  have hn := check_range hk
  intro r hr x hx
  have hw := hW r hr x hx
  unfold checkI at hk
  rw [if_neg (by omega), if_neg (by omega)] at hk
  split at hk
  · omega
  · split at hk
    · omega
    · rename_i h
      have h2 : ¬ oddB n x = true := fun ho => h (List.any_eq_true.2 ⟨r, hr, List.any_eq_true.2 ⟨x, hx, ho⟩⟩)
      rw [odd_iff n x hw.1 hw.2 hn.1 hn.2] at h2
      omega
theorem RNum_any (x : Int) (h0 : -100000000 ≤ x) (h1 : x ≤ 100000000) (w : World) : Calls Tryz.prog 40 #[.int .i64 x] w fun e w' => e = .returned (.string (itoaB x)) ∧ Below w.heap.size w w' :=
  whetstoneref05_Num.calls 10 x (itoaB x) w (Num_f x h0 h1 10 (Nat.le_refl _))
end Go.Proofs.YtjifancgekoenaaGreatDoor
