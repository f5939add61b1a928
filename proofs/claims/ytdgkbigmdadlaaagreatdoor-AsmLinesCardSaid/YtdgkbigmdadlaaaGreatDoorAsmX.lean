import Derived.Test.YtdgkbigmdadlaaaGreatDoorAsmV
namespace Go.Proofs.YtdgkbigmdadlaaaGreatDoor
open Go.RowKit Go.Lib Go.Proofs.YtdgkbigmdadlaaaGreatDoorW.PrintWords Go.Proofs.YtdgkbigmdadlaaaGreatDoorW.PrintLast Go.Proofs.YtdgkbigmdadlaaaGreatDoorW.PrintMore
set_option linter.unusedVariables false
set_option linter.unusedSimpArgs false

theorem line_app (A : ByteArray) (x : I5) (h : rightI x = true) : A ++ (bytesB (printT x) ++ (⟨#[10]⟩ : ByteArray)) = A ++ bytesB (lineI x) := by
  rw [show (⟨#[10]⟩ : ByteArray) = bytesB [10] from rfl, bytesB_app]
  unfold printT lineI
  rw [if_pos h]
theorem lines_l0 (L : List I5) (hl : L.length ≤ 1000) : ∀ (d i k : Nat), i + d = L.length → d < k →
    (∀ x ∈ L.take i, rightI x = true) →
    whetstoneref05_Lines.l0 k (L.map toS) (bytesB ((L.take i).flatMap lineI)) (i : Int) = some (bytesB (linesT L), linesE L)
  | d, i, 0, h, hk, hr => by omega
  | 0, i, k + 1, h, hk, hr => by
    simp only [whetstoneref05_Lines.l0]
    rw [if_neg (by rw [List.length_map]; omega)]
    have hall : L.all rightI = true := by
      rw [List.all_eq_true]
      intro x hx
      exact hr x (by rw [List.take_of_length_le (by omega)]; exact hx)
    unfold linesT linesE
    rw [if_pos hall, if_pos hall, List.take_of_length_le (by omega)]
  | d + 1, i, k + 1, h, hk, hr => by
    have hlt : i < L.length := by omega
    simp only [whetstoneref05_Lines.l0]
    rw [if_pos (by rw [List.length_map]; omega), if_pos (by omega)]
    have r1 : rd_T23 (L.map toS) (i : Int) = toS L[i] := by unfold rd_T23; simp [List.getD_eq_getElem?_getD, hlt]
    rw [r1]
    unfold whetstoneref05_Print.f
    simp only [Option.bind_some, toS]
    have ex : (⟨(L[i]).op, (L[i]).rd, (L[i]).a, (L[i]).b, (L[i]).n⟩ : I5) = L[i] := rfl
    rw [ex]
    by_cases hx : rightI L[i] = true
    · have e0 : printE L[i] = 0 := printE_right.2 hx
      have hall : (L.take i).all rightI = true := by rw [List.all_eq_true]; exact hr
      have s1 := lines_len (L.take i) hall
      have s2 := textI_len hx
      have s3 : (bytesB (lineI L[i])).size ≤ 166 := by rw [bytesB_size]; unfold lineI; simp; omega
      have s4 : (bytesB (printT L[i])).size ≤ 166 := by rw [bytesB_size]; unfold printT; rw [if_pos hx]; omega
      have s5 : (bytesB ((L.take i).flatMap lineI)).size ≤ 166 * 1000 := by
        rw [bytesB_size]
        refine Nat.le_trans s1 ?_
        rw [List.length_take]
        have : min i L.length ≤ 1000 := by omega
        omega
      have e1 : bytesB (printT L[i]) ++ (⟨#[10]⟩ : ByteArray) = bytesB (lineI L[i]) := by
        have := line_app ⟨#[]⟩ L[i] hx
        rw [show (⟨#[10]⟩ : ByteArray) = bytesB [10] from rfl, bytesB_app]
        unfold printT lineI
        rw [if_pos hx]
      rw [if_pos e0, if_pos (by omega), e1, if_pos (by omega), bytesB_app, wrap64_small (by omega) (by omega)]
      have e2 : (L.take i).flatMap lineI ++ lineI L[i] = (L.take (i + 1)).flatMap lineI := by
        rw [List.take_succ_eq_append_getElem hlt, List.flatMap_append, List.flatMap_cons, List.flatMap_nil, List.append_nil]
      rw [e2, show (i : Int) + 1 = ((i + 1 : Nat) : Int) by omega]
      exact lines_l0 L hl d (i + 1) k (by omega) (by omega) (by
        intro x hm
        rw [List.take_succ_eq_append_getElem hlt, List.mem_append] at hm
        rcases hm with hm | hm
        · exact hr x hm
        · simp at hm; rw [hm]; exact hx)
    · have e0 : printE L[i] = 20 := by unfold printE; rw [if_neg hx]
      have hall : ¬ L.all rightI = true := by
        rw [List.all_eq_true]
        exact fun hh => hx (hh _ (List.getElem_mem _))
      rw [if_neg (by omega), e0]
      unfold linesT linesE
      rw [if_neg hall, if_neg hall]
      rfl
theorem RLines_any (A : Option Addr) (c : Nat) (L : List I5) (hl : L.length ≤ 1000) (w : World) (hC : RowI w A L) (hc : L.length ≤ c) :
    Calls Tryz.prog 9 #[.slice A L.length c] w fun e w' => e = .returned (.tuple #[.string (bytesB (linesT L)), .int .i64 (linesE L)]) ∧ Below w.heap.size w w' := by
  have k1 := kC_of_row hC
  have h0 : whetstoneref05_Lines.f (L.length + 1) (L.map toS) = some (bytesB (linesT L), linesE L) := by
    have := lines_l0 L hl L.length 0 (L.length + 1) (by omega) (by omega) (by simp)
    exact this
  have := whetstoneref05_Lines.calls (L.length + 1) A c (L.map toS) _ _ w (by rw [List.length_map]; exact k1) (by rw [List.length_map]; exact hc) h0
  rw [List.length_map] at this
  exact this

theorem cut_at (s : List UInt8) (fr i : Nat) (hfi : fr ≤ i) (hi : i < s.length) (hno : ∀ j, fr ≤ j → j < i → s[j]? ≠ some 10) (h10 : s[i]? = some 10) :
    cutB 10 (s.drop fr) = ((s.drop fr).take (i - fr), s.drop (i + 1), true) := by
  have hd : s.drop fr = (s.drop fr).take (i - fr) ++ 10 :: s.drop (i + 1) := by
    conv => lhs; rw [← List.take_append_drop (i - fr) (s.drop fr)]
    congr 1
    rw [List.drop_drop, show fr + (i - fr) = i by omega, List.drop_eq_getElem_cons hi]
    congr 1
    rw [List.getElem?_eq_getElem hi] at h10
    exact Option.some.inj h10
  have hmem : (10 : UInt8) ∉ (s.drop fr).take (i - fr) := fun hm => by
    obtain ⟨j, hj, he⟩ := List.getElem_of_mem hm
    rw [List.length_take, List.length_drop] at hj
    refine hno (fr + j) (by omega) (by omega) ?_
    rw [List.getElem_take, List.getElem_drop] at he
    rw [List.getElem?_eq_getElem (by omega), he]
  conv => lhs; rw [hd]
  exact cutB_app 10 _ _ hmem
theorem cut_no (s : List UInt8) (fr : Nat) (hno : ∀ j, fr ≤ j → j < s.length → s[j]? ≠ some 10) : cutB 10 (s.drop fr) = (s.drop fr, [], false) := by
  refine cutB_none 10 _ (fun hm => ?_)
  obtain ⟨j, hj, he⟩ := List.getElem_of_mem hm
  rw [List.length_drop] at hj
  refine hno (fr + j) (by omega) (by omega) ?_
  rw [List.getElem_drop] at he
  rw [List.getElem?_eq_getElem (by omega), he]
def outS (acc : List S23) : Option (List I5) → List S23 × Int
  | some L => (acc ++ L.map toS, 0)
  | none => ([], 50)
theorem read_l0 (s : List UInt8) (hs : s.length ≤ 100000) : ∀ (d i fr k f : Nat) (acc : List S23), i + d = s.length → fr ≤ i → d + 13 * s.length + 210 < k → s.length - fr ≤ f → acc.length ≤ fr →
    (∀ j, fr ≤ j → j < i → s[j]? ≠ some 10) →
    whetstoneref05_Read.l0 k (bytesB s) acc (fr : Int) (i : Int) = some (outS acc (readF f (s.drop fr)))
  | d, i, fr, 0, f, acc, h, hfi, hk, hf, ha, hno => by omega
  | 0, i, fr, k + 1, f, acc, h, hfi, hk, hf, ha, hno => by
    simp only [whetstoneref05_Read.l0]
    rw [if_neg (by rw [bytesB_size]; omega)]
    by_cases hlt : fr < s.length
    · rw [if_pos (by rw [bytesB_size]; omega)]
      obtain ⟨f, rfl⟩ : ∃ g, f = g + 1 := ⟨f - 1, by omega⟩
      have hne : s.drop fr ≠ [] := fun e => by have := congrArg List.length e; rw [List.length_drop] at this; simp at this; omega
      unfold readF
      rw [if_neg hne, cut_no s fr (fun j h1 h2 => hno j h1 (by omega)), if_neg (by simp)]
      rfl
    · rw [if_neg (by rw [bytesB_size]; omega), List.drop_eq_nil_of_le (by omega)]
      cases f <;> simp [readF, outS]
  | d + 1, i, fr, k + 1, f, acc, h, hfi, hk, hf, ha, hno => by
    have hi : i < s.length := by omega
    simp only [whetstoneref05_Read.l0]
    rw [if_pos (by rw [bytesB_size]; omega), if_pos (by omega), bt_bytes s i hi]
    by_cases h10 : s[i] = 10
    · have h10' : s[i]? = some 10 := by rw [List.getElem?_eq_getElem hi, h10]
      rw [if_pos (by rw [h10]; rfl), if_pos (by omega), if_pos (by omega), if_pos (by rw [bytesB_size]; omega)]
      rw [Int.toNat_natCast, Int.toNat_natCast, extract_bytes]
      have hpl : ((s.drop fr).take (i - fr)).length ≤ s.length := by rw [List.length_take, List.length_drop]; omega
      rw [parse_f _ (by omega) k (by omega)]
      simp only [Option.bind_some]
      obtain ⟨f, rfl⟩ : ∃ g, f = g + 1 := ⟨f - 1, by omega⟩
      have hne : s.drop fr ≠ [] := fun e => by have := congrArg List.length e; rw [List.length_drop] at this; simp at this; omega
      unfold readF
      rw [if_neg hne, cut_at s fr i hfi hi hno h10']
      simp only [true_and]
      generalize parseA ((s.drop fr).take (i - fr)) = p
      obtain ⟨x, er⟩ := p
      simp only
      by_cases he : er = 0
      · rw [if_pos he, if_pos (by omega), if_pos he, wrap64_small (by omega) (by omega), show (i : Int) + 1 = ((i + 1 : Nat) : Int) by omega]
        rw [read_l0 s hs d (i + 1) (i + 1) k f _ (by omega) (by omega) (by omega) (by omega) (by simp; omega) (by intro j h1 h2; omega)]
        cases readF f (s.drop (i + 1)) with
        | none => rfl
        | some L => simp [outS, toS]
      · rw [if_neg he, if_neg he]
        rfl
    · rw [if_neg (fun hh => h10 (UInt8.toNat_inj.1 (by exact_mod_cast hh))), wrap64_small (by omega) (by omega), show (i : Int) + 1 = ((i + 1 : Nat) : Int) by omega]
      exact read_l0 s hs d (i + 1) fr k f acc (by omega) (by omega) (by omega) hf ha (by
        intro j h1 h2
        by_cases hj : j = i
        · subst hj
          rw [List.getElem?_eq_getElem hi]
          simpa using h10
        · exact hno j h1 (by omega))
theorem read_f (s : List UInt8) (hs : s.length ≤ 100000) : whetstoneref05_Read.f (14 * s.length + 211) (bytesB s) = some ((readA s).1.map toS, (readA s).2) := by
  have := read_l0 s hs s.length 0 0 (14 * s.length + 211) s.length [] (by omega) (by omega) (by omega) (by omega) (by simp) (by intro j h1 h2; omega)
  refine this.trans ?_
  rw [List.drop_zero]
  unfold readA
  cases readF s.length s <;> simp [outS]
end Go.Proofs.YtdgkbigmdadlaaaGreatDoor
