import Derived.Test.YtjifancgekoenaaGreatDoorCnfD
import Derived.Deep.AppendLies
import Derived.Deep.RegionLaw
namespace Go.Proofs.YtjifancgekoenaaGreatDoor
open Go.RowKit Go.Proofs.YtjifancgekoenaaGreatDoorW.PrintWords Go.Proofs.YtjifancgekoenaaGreatDoorW.PrintLast
set_option linter.unusedVariables false
set_option linter.unusedSimpArgs false

/-- strings.Cut at a line's end: the line, what is behind it, and whether there is an end. -/
def cutNL : List UInt8 → List UInt8 × List UInt8 × Bool
  | [] => ([], [], false)
  | b :: l => if b = 10 then ([], l, true) else (b :: (cutNL l).1, (cutNL l).2.1, (cutNL l).2.2)
theorem index_ten (l : List UInt8) : Lib.index l [10] = if (cutNL l).2.2 then ((cutNL l).1.length : Int) else -1 := by
  induction l with
  | nil => rfl
  | cons b l ih =>
    unfold Lib.index cutNL
    by_cases h : b = 10
    · subst h; simp
    · have h2 : List.isPrefixOf [10] (b :: l) = false := by
        simp [List.isPrefixOf]; exact fun e => h e.symm
      rw [h2, ih, if_neg (by simp), if_neg h]
      cases (cutNL l).2.2
      · simp
      · simp only [if_true, List.length_cons]
        rw [if_neg (by simp)]
        omega
theorem cut_parts (l : List UInt8) : ((cutNL l).2.2 = true → l = (cutNL l).1 ++ 10 :: (cutNL l).2.1) ∧ ((cutNL l).2.2 = false → (cutNL l).1 = l ∧ (cutNL l).2.1 = []) := by
  induction l with
  | nil => exact ⟨fun h => (by cases h), fun _ => ⟨rfl, rfl⟩⟩
  | cons b l ih =>
    unfold cutNL
    by_cases h : b = 10
    · rw [if_pos h]; subst h
      exact ⟨fun _ => rfl, fun h => (by cases h)⟩
    · rw [if_neg h]
      refine ⟨fun h2 => ?_, fun h2 => ?_⟩
      · have := ih.1 h2
        simp only [List.cons_append]
        rw [← this]
      · obtain ⟨h3, h4⟩ := ih.2 h2
        simp only
        rw [h3, h4]
        exact ⟨rfl, rfl⟩
theorem cut_eq (l : List UInt8) : Lib.cut l [10] = cutNL l := by
  unfold Lib.cut
  rw [index_ten]
  obtain ⟨h1, h2⟩ := cut_parts l
  cases h : (cutNL l).2.2 with
  | true =>
    have h3 := h1 h
    rw [if_pos rfl, if_pos (by omega)]
    generalize cutNL l = c at *
    obtain ⟨c1, c2, c3⟩ := c
    simp only at h h3 ⊢
    subst h h3
    simp
  | false =>
    obtain ⟨h3, h4⟩ := h2 h
    simp only [Bool.false_eq_true, if_false]
    rw [if_neg (by decide)]
    conv => lhs; rw [← h3, ← h4, ← h]
theorem cut_len (l : List UInt8) (hl : l ≠ []) : (cutNL l).1.length + (cutNL l).2.1.length + 1 ≤ l.length + 1 ∧ (cutNL l).2.1.length < l.length := by
  obtain ⟨h1, h2⟩ := cut_parts l
  have hp : 0 < l.length := List.length_pos_iff.2 hl
  cases h : (cutNL l).2.2 with
  | true =>
    have := congrArg List.length (h1 h)
    simp only [List.length_append, List.length_cons] at this
    omega
  | false =>
    obtain ⟨h3, h4⟩ := h2 h
    rw [h3, h4]
    simp
    omega

theorem Cut_any (l : List UInt8) (hl : l.length ≤ 1000000000) (w : World) (hL : Laid w) :
    Calls Tryz.prog 32 #[.string (bytesB l), .string ⟨#[10]⟩] w fun e w' => e = .returned (.tuple #[.string (bytesB (cutNL l).1), .string (bytesB (cutNL l).2.1), .bool (cutNL l).2.2]) ∧ ∃ n, w' = w.drewN n := by
  obtain ⟨m, hm⟩ := hL.maxl
  have h := Tryz.strings_Cut (bytesB l) ⟨#[10]⟩ m w (by rw [bytesB_size]; omega) hm
  have hd : (bytesB l).data.toList = l := rfl
  have he : (ByteArray.mk #[10]).data.toList = [10] := rfl
  rw [hd, he, cut_eq] at h
  exact h
theorem TrimPrefix_any (l : List UInt8) (p : ByteArray) (w : World) :
    Calls Tryz.prog 34 #[.string (bytesB l), .string p] w fun e w' => e = .returned (.string (bytesB (Lib.trimPrefix l p.data.toList))) ∧ w = w' := by
  refine (Tryz.strings_TrimPrefix (bytesB l) p w).mono ?_
  rintro e w' ⟨h1, h2⟩
  exact ⟨h1, h2.symm⟩

/-- The rows of a text. -/
def rowsP : Nat → List UInt8 → Option (List (List Int))
  | 0, r => if r = [] then some [] else none
  | f + 1, r => if r = [] then some [] else if numsV (cutNL r).1 = [] then none else (rowsP f (cutNL r).2.1).map ((numsV (cutNL r).1).dropLast :: ·)
def headB : List UInt8 := [112, 32, 99, 110, 102, 32]
/-- cnf.Parse -/
def parseR (s : List UInt8) : Int × List (List Int) × Int :=
  match numsV (Lib.trimPrefix (cutNL s).1 headB) with
  | [a, _] => match rowsP s.length (cutNL s).2.1 with
    | some L => if checkI a L = 0 ∧ printL a L = s then (a, L, 0) else (0, [], 130)
    | none => (0, [], 130)
  | _ => (0, [], 130)
theorem numsV_len (l : List UInt8) : (numsV l).length ≤ l.length + 2 := by unfold numsV; rw [List.length_map]; exact fieldsD_len.2
theorem atoiV_wf (l : List UInt8) : -9223372036854775808 ≤ atoiV l ∧ atoiV l ≤ 9223372036854775807 := by
  unfold atoiV
  split
  · rename_i v h; exact Lib.atoiAll_bounds h
  · exact Lib.atoiSat_bounds l
  · omega
theorem numsV_wf (l : List UInt8) : Wf (numsV l) := by
  intro x hx
  unfold numsV at hx
  obtain ⟨y, _, rfl⟩ := List.mem_map.1 hx
  exact atoiV_wf y
theorem rowsP_facts (f : Nat) : ∀ r L, rowsP f r = some L → bulk L ≤ 3 * r.length ∧ WfL L := by
  induction f with
  | zero =>
    intro r L h
    unfold rowsP at h
    split at h
    · cases h; exact ⟨by simp [bulk], fun x hx => by cases hx⟩
    · cases h
  | succ f ih =>
    intro r L h
    unfold rowsP at h
    split at h
    · cases h; exact ⟨by simp [bulk], fun x hx => by cases hx⟩
    · rename_i hr
      split at h
      · cases h
      · rename_i hn
        obtain ⟨L', hL', rfl⟩ := Option.map_eq_some_iff.1 h
        obtain ⟨h1, h2⟩ := ih _ _ hL'
        obtain ⟨h3, h4⟩ := cut_len r hr
        have h5 := numsV_len (cutNL r).1
        obtain ⟨h6, h7⟩ := cut_parts r
        refine ⟨?_, fun x hx => ?_⟩
        · unfold bulk at h1 ⊢
          simp only [List.length_cons, List.map_cons, List.sum_cons, List.length_dropLast]
          cases hc : (cutNL r).2.2 with
          | true =>
            have := congrArg List.length (h6 hc)
            simp only [List.length_append, List.length_cons] at this
            omega
          | false =>
            obtain ⟨h8, h9⟩ := h7 hc
            rw [h8] at h5 ⊢
            rw [h9] at h1
            have : 0 < r.length := List.length_pos_iff.2 hr
            have h10 : ([] : List UInt8).length = 0 := rfl
            rw [h10] at h1
            omega
        · rcases List.mem_cons.1 hx with rfl | hx
          · exact fun y hy => numsV_wf _ y (List.dropLast_subset _ hy)
          · exact h2 x hx
end Go.Proofs.YtjifancgekoenaaGreatDoor
