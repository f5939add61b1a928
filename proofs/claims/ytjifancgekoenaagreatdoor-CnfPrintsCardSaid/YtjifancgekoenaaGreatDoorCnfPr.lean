import Derived.Test.YtjifancgekoenaaGreatDoorCnfPq
namespace Go.Proofs.YtjifancgekoenaaGreatDoor
open Go.RowKit Go.Proofs.YtjifancgekoenaaGreatDoorW.PrintWords Go.Proofs.YtjifancgekoenaaGreatDoorW.PrintLast Go.Proofs.YtjifancgekoenaaGreatDoorW.PrintMore
set_option linter.unusedVariables false
set_option linter.unusedSimpArgs false

theorem RNums_at (s : List UInt8) (hs : s.length ≤ 1000000) (i : Nat) (hi : i ≤ s.length) (w : World) :
    Calls Tryz.prog 41 #[.string (bytesB s), .int .i64 i] w fun e w' => ∃ A c, e = .returned (.tuple #[.slice A (numsA (s.drop i) [] 0 1 false).1.length c, .int .i64 ((i + (numsA (s.drop i) [] 0 1 false).2 : Nat) : Int)]) ∧
      (numsA (s.drop i) [] 0 1 false).1.length ≤ c ∧ Kd.C kI w' A (numsA (s.drop i) [] 0 1 false).1.length (numsA (s.drop i) [] 0 1 false).1 ∧ Below w.heap.size w w' := by
  refine (whetstoneref13_nums.calls (3 * (s.length - i) + 3) (bytesB s) i _ _ w (nums_pure s hs _ i [] 0 1 false hi (Nat.zero_le _) (Nat.le_refl _))).mono ?_
  rintro e w' ⟨v, rfl, hR, hb⟩
  obtain ⟨A, c, rfl, h1, h2⟩ := Kd.R_reads hR
  exact ⟨A, c, rfl, h1, h2, hb⟩

/-- The rows that R13.Parse reads. -/
def rowsA : Nat → List UInt8 → Option (List (List Int))
  | 0, r => if r = [] then some [] else none
  | f + 1, r => if r = [] then some [] else if (numsA r [] 0 1 false).1 = [] then none else (rowsA f (r.drop (numsA r [] 0 1 false).2)).map ((numsA r [] 0 1 false).1.dropLast :: ·)
/-- R13.Parse. -/
def parseA (s : List UInt8) : Int × List (List Int) × Int :=
  match (numsA s [] 0 1 false).1 with
  | [a, _] => match rowsA s.length (s.drop (numsA s [] 0 1 false).2) with
    | some L => if checkI a L = 0 ∧ printL a L = s then (a, L, 0) else (0, [], 130)
    | none => (0, [], 130)
  | _ => (0, [], 130)
theorem rowsA_print : ∀ (L : List (List Int)) (f : Nat), L.length ≤ f → Mid L → rowsA f (L.flatMap rowL) = some L
  | [], 0, _, _ => rfl
  | [], f + 1, _, _ => rfl
  | r :: L, 0, h, _ => by simp at h
  | r :: L, f + 1, h, hW => by
    have hl := numsA_line r 0 (hW r (by simp)) (by omega) [] (L.flatMap rowL)
    have e : (r :: L).flatMap rowL = r.flatMap (fun x => Lib.itoa x ++ [32]) ++ (Lib.itoa 0 ++ 10 :: L.flatMap rowL) := by
      rw [List.flatMap_cons, itoa_zero]; simp [rowL]
    have hne : ¬ (r :: L).flatMap rowL = [] := by simp [rowL]
    rw [List.nil_append] at hl
    unfold rowsA
    rw [if_neg hne, e, hl]
    simp only
    rw [if_neg (by simp)]
    have e2 : (r.flatMap (fun x => Lib.itoa x ++ [32]) ++ (Lib.itoa 0 ++ 10 :: L.flatMap rowL)).drop ((r.flatMap (fun x => Lib.itoa x ++ [32])).length + (Lib.itoa 0).length + 1) = L.flatMap rowL := by
      rw [show r.flatMap (fun x => Lib.itoa x ++ [32]) ++ (Lib.itoa 0 ++ 10 :: L.flatMap rowL) = (r.flatMap (fun x => Lib.itoa x ++ [32]) ++ Lib.itoa 0 ++ [10]) ++ L.flatMap rowL from by simp]
      exact List.drop_left' (by simp only [List.length_append, List.length_cons, List.length_nil])
    rw [e2, rowsA_print L f (by simpa using h) (fun x hx => hW x (by simp [hx]))]
    simp
theorem numsA_six (r : List UInt8) : numsA ([112, 32, 99, 110, 102, 32] ++ r) [] 0 1 false = shiftN 6 (numsA r [] 0 1 false) := by
  simp only [List.cons_append, List.nil_append]
  rw [numsA_sep 112 (by decide) (by decide) (by decide), numsA_sep 32 (by decide) (by decide) (by decide), numsA_sep 99 (by decide) (by decide) (by decide), numsA_sep 110 (by decide) (by decide) (by decide), numsA_sep 102 (by decide) (by decide) (by decide), numsA_sep 32 (by decide) (by decide) (by decide)]
  simp only [Bool.false_eq_true, if_false, shiftN_add]
theorem headA (n m : Int) (hn : -100000000 ≤ n ∧ n ≤ 100000000) (hm : -100000000 ≤ m ∧ m ≤ 100000000) (r : List UInt8) :
    (numsA (headL n m ++ r) [] 0 1 false).1 = [n, m] ∧ (headL n m ++ r).drop (numsA (headL n m ++ r) [] 0 1 false).2 = r := by
  have e : headL n m ++ r = [112, 32, 99, 110, 102, 32] ++ ([n].flatMap (fun x => Lib.itoa x ++ [32]) ++ (Lib.itoa m ++ 10 :: r)) := by
    unfold headL; simp
  have h := numsA_line [n] m (by intro x hx; simp at hx; subst hx; exact hn) hm [] r
  rw [e, numsA_six, h]
  refine ⟨rfl, ?_⟩
  unfold shiftN
  simp only
  rw [show [112, 32, 99, 110, 102, 32] ++ ([n].flatMap (fun x => Lib.itoa x ++ [32]) ++ (Lib.itoa m ++ 10 :: r)) = ([112, 32, 99, 110, 102, 32] ++ [n].flatMap (fun x => Lib.itoa x ++ [32]) ++ Lib.itoa m ++ [10]) ++ r from by simp]
  exact List.drop_left' (by simp only [List.length_append, List.length_cons, List.length_nil]; omega)
theorem rows_count (L : List (List Int)) : L.length ≤ (L.flatMap rowL).length := by
  induction L with
  | nil => simp
  | cons r L ih =>
    rw [List.flatMap_cons, List.length_append, List.length_cons]
    have : 2 ≤ (rowL r).length := by unfold rowL; simp
    omega
/-- What is printed is found by it. -/
theorem parseA_print (n : Int) (L : List (List Int)) (hW : WfL L) (hk : checkI n L = 0) (hl : L.length ≤ 1000000) : parseA (printL n L) = (n, L, 0) := by
  have hn := check_range hk
  have hM := check_mid hW hk
  obtain ⟨h1, h2⟩ := headA n L.length (by omega) (by omega) (L.flatMap rowL)
  have hc := rows_count L
  have h3 := rowsA_print L (printL n L).length (by unfold printL; rw [List.length_append]; omega) hM
  unfold parseA
  have hp : printL n L = headL n L.length ++ L.flatMap rowL := rfl
  rw [hp] at h3 ⊢
  rw [h1]
  simp only
  rw [h2, h3]
  simp only
  rw [if_pos ⟨hk, rfl⟩]
theorem parseA_code (s : List UInt8) : ((parseA s).2.2 = 0 ∧ checkI (parseA s).1 (parseA s).2.1 = 0 ∧ printL (parseA s).1 (parseA s).2.1 = s) ∨ parseA s = (0, [], 130) := by
  unfold parseA
  split
  · split
    · split
      · rename_i h; exact .inl ⟨rfl, h.1, h.2⟩
      · exact .inr rfl
    · exact .inr rfl
  · exact .inr rfl
theorem numsA_count : ∀ (s : List UInt8) (l : List Int) (n sg : Int) (op : Bool), (numsA s l n sg op).1.length ≤ l.length + (numsA s l n sg op).2
  | [], l, n, sg, op => by
    unfold numsA
    cases op <;> simp
  | c :: r, l, n, sg, op => by
    have h2 : (if op then l ++ [wrap64 (sg * n)] else l).length ≤ l.length + 1 := by cases op <;> simp
    unfold numsA
    split
    · exact h2
    · split
      · have := numsA_count r l (mn (wrap64 (wrap64 (wrap64 (n * 10) + wrap64 (c.toNat : Int)) - 48)) 1099511627776) sg true
        simp only
        omega
      · have := numsA_count r (if op then l ++ [wrap64 (sg * n)] else l) 0 (if c = 45 then -1 else 1) false
        simp only
        omega
theorem rowsA_facts (f : Nat) : ∀ r L, rowsA f r = some L → bulk L ≤ 2 * r.length ∧ WfL L := by
  induction f with
  | zero =>
    intro r L h
    unfold rowsA at h
    split at h
    · cases h; exact ⟨by simp [bulk], fun x hx => by cases hx⟩
    · cases h
  | succ f ih =>
    intro r L h
    unfold rowsA at h
    split at h
    · cases h; exact ⟨by simp [bulk], fun x hx => by cases hx⟩
    · rename_i hr
      split at h
      · cases h
      · rename_i hn
        obtain ⟨L', hL', rfl⟩ := Option.map_eq_some_iff.1 h
        obtain ⟨h1, h2⟩ := ih _ _ hL'
        obtain ⟨h3, h4, _⟩ := numsA_pos r [] 0 1 false
        have h5 := numsA_count r [] 0 1 false
        have hp : 0 < r.length := List.length_pos_iff.2 hr
        have hq : 0 < (numsA r [] 0 1 false).1.length := List.length_pos_iff.2 hn
        refine ⟨?_, fun x hx => ?_⟩
        · unfold bulk at h1 ⊢
          rw [List.length_drop] at h1
          simp only [List.length_cons, List.map_cons, List.sum_cons, List.length_dropLast]
          simp only [List.length_nil] at h5
          omega
        · rcases List.mem_cons.1 hx with rfl | hx
          · exact fun y hy => numsA_wf r [] 0 1 false (by intro x hx; cases hx) y (List.dropLast_subset _ hy)
          · exact h2 x hx
theorem parseA_wf (s : List UInt8) : WfL (parseA s).2.1 := by
  have h0 : WfL ([] : List (List Int)) := fun x hx => by cases hx
  unfold parseA
  split
  · split
    · rename_i L h
      split
      · exact (rowsA_facts _ _ _ h).2
      · exact h0
    · exact h0
  · exact h0
theorem cutNL_tail (s : List UInt8) : (cutNL s).2.1.length ≤ s.length := by
  cases s with
  | nil => simp [cutNL]
  | cons b l => have := (cut_len (b :: l) (by simp)).2; omega
theorem parseR_wf (s : List UInt8) : WfL (parseR s).2.1 ∧ bulk (parseR s).2.1 ≤ 3 * s.length := by
  have h0 : WfL ([] : List (List Int)) ∧ bulk ([] : List (List Int)) ≤ 3 * s.length := ⟨fun x hx => (by cases hx), by simp [bulk]⟩
  unfold parseR
  split
  · split
    · rename_i L h
      split
      · have := rowsP_facts _ _ _ h
        have := cutNL_tail s
        exact ⟨(rowsP_facts _ _ _ h).2, by show bulk L ≤ _; omega⟩
      · exact h0
    · exact h0
  · exact h0
/-- Both ways to read agree. -/
theorem parseA_eq (s : List UInt8) (hs : s.length ≤ 100000) : parseA s = parseR s := by
  have key : ∀ p : Int × List (List Int) × Int, p.2.2 = 0 → checkI p.1 p.2.1 = 0 → printL p.1 p.2.1 = s → WfL p.2.1 → p = (p.1, p.2.1, 0) := fun p h _ _ _ => by rw [← h]
  rcases parseA_code s with ⟨a1, a2, a3⟩ | ha
  · have hl : (parseA s).2.1.length ≤ 1000000 := by
      have := rows_count (parseA s).2.1
      have h2 := congrArg List.length a3
      unfold printL at h2
      rw [List.length_append] at h2
      omega
    have hW : WfL (parseA s).2.1 := by
      have := parseA_wf s
      exact this
    have := parse_print (parseA s).1 (parseA s).2.1 hW a2 (by omega)
    rw [a3] at this
    rw [this, ← a1]
  · rcases parse_code s with ⟨b1, b2, b3⟩ | hb
    · have hW := (parseR_wf s).1
      have hl : (parseR s).2.1.length ≤ 1000000 := by
        have := (parseR_wf s).2
        unfold bulk at this
        omega
      have := parseA_print (parseR s).1 (parseR s).2.1 hW b2 hl
      rw [b3] at this
      rw [this, ← b1]
    · rw [ha, hb]
end Go.Proofs.YtjifancgekoenaaGreatDoor
