import Derived.Test.YtjifancgekoenaaGreatDoorCnfG
import Derived.Test.YtjifancgekoenaaGreatDoorShelf
import Derived.Lib.SlicesCompact
namespace Go.Proofs.YtjifancgekoenaaGreatDoor
open Go.RowKit Go.Proofs.YtjifancgekoenaaGreatDoorW.PrintWords Go.Proofs.YtjifancgekoenaaGreatDoorW.PrintLast
open Go.Sort (grow cell?_grow heap_grow_old)
set_option linter.unusedVariables false
set_option linter.unusedSimpArgs false

/-- Of two literals the one that stands ahead. -/
def LtL (x y : Int) : Prop := sizeU x < sizeU y ∨ sizeU x = sizeU y ∧ y < x
instance (x y : Int) : Decidable (LtL x y) := by unfold LtL; exact inferInstance
theorem litC_lt (x y : Int) : Go.Proofs.ltOf litC x y = decide (LtL x y) := by
  unfold Go.Proofs.ltOf
  rw [decide_eq_decide]
  unfold litC LtL orI cmpI
  generalize sizeU x = a
  generalize sizeU y = b
  by_cases h1 : a < b
  · simp [h1]
  · by_cases h2 : b < a
    · have : ¬ a = b := by omega
      simp [h1, h2, this]
    · have : a = b := by omega
      subst this
      by_cases h3 : y < x
      · simp [h3]
      · by_cases h4 : x < y <;> simp [h3, h4]
theorem LtL.irrefl (x : Int) : ¬ LtL x x := by unfold LtL; omega
theorem LtL.trans {x y z : Int} (h1 : LtL x y) (h2 : LtL y z) : LtL x z := by unfold LtL at *; omega
theorem LtL.tri {x y : Int} (h1 : ¬ LtL x y) (h2 : ¬ LtL y x) : x = y := by unfold LtL at *; omega
theorem swo_lit : Go.Sort.SWO (Go.Proofs.ltOf litC) where
  irrefl x := by rw [litC_lt]; simp [LtL.irrefl]
  trans x y z := by rw [litC_lt, litC_lt, litC_lt]; simp only [decide_eq_true_eq]; exact LtL.trans
  ntrans x y z := by rw [litC_lt, litC_lt, litC_lt]; simp only [decide_eq_false_iff_not]; unfold LtL; omega

/-- A clause in order, each number once. -/
structure IsPlain (l p : List Int) : Prop where
  mem : ∀ x, x ∈ p ↔ x ∈ l
  ord : p.Pairwise LtL
theorem strict_unique : ∀ (p q : List Int), p.Pairwise LtL → q.Pairwise LtL → (∀ x, x ∈ p ↔ x ∈ q) → p = q
  | [], [], _, _, _ => rfl
  | [], y :: q, _, _, h => absurd ((h y).2 (by simp)) (by simp)
  | x :: p, [], _, _, h => absurd ((h x).1 (by simp)) (by simp)
  | x :: p, y :: q, hp, hq, h => by
    rw [List.pairwise_cons] at hp hq
    have e : x = y := by
      rcases List.mem_cons.1 ((h x).1 (by simp)) with e | e
      · exact e
      rcases List.mem_cons.1 ((h y).2 (by simp)) with e2 | e2
      · exact e2.symm
      · exact absurd ((hq.1 _ e).trans (hp.1 _ e2)) (LtL.irrefl _)
    subst e
    rw [strict_unique p q hp.2 hq.2 (fun z => ?_)]
    constructor
    · intro hz
      rcases List.mem_cons.1 ((h z).1 (by simp [hz])) with e | e
      · subst e; exact absurd (hp.1 _ hz) (LtL.irrefl _)
      · exact e
    · intro hz
      rcases List.mem_cons.1 ((h z).2 (by simp [hz])) with e | e
      · subst e; exact absurd (hq.1 _ hz) (LtL.irrefl _)
      · exact e
theorem IsPlain.unique {l p q : List Int} (h : IsPlain l p) (k : IsPlain l q) : p = q := strict_unique p q h.ord k.ord (fun x => (h.mem x).trans (k.mem x).symm)
theorem IsPlain.again {l p : List Int} (h : IsPlain l p) : IsPlain p p := ⟨fun _ => Iff.rfl, h.ord⟩

theorem compact_plain (d : Array Int) (h : ∀ i j, i < j → j < d.size → ¬ LtL d[j]! d[i]!) : ∀ m, m ≤ d.size →
    (∀ x, x ∈ Lib.compactUpTo d m ↔ ∃ j, j < m ∧ d[j]! = x) ∧ (Lib.compactUpTo d m).Pairwise LtL := by
  intro m
  induction m with
  | zero => intro _; exact ⟨fun x => by simp [Lib.compactUpTo], by simp [Lib.compactUpTo]⟩
  | succ m ih =>
    intro hm
    obtain ⟨i1, i2⟩ := ih (by omega)
    rw [Lib.compactUpTo_succ]
    by_cases hk : m = 0 ∨ d[m]! ≠ d[m - 1]!
    · have hk' : Lib.keeps d m = true := by simp [Lib.keeps]; simpa using hk
      rw [hk', if_pos rfl]
      refine ⟨fun x => ?_, ?_⟩
      · rw [List.mem_append, i1]
        constructor
        · rintro (⟨j, hj, e⟩ | e)
          · exact ⟨j, by omega, e⟩
          · simp at e; exact ⟨m, by omega, e.symm⟩
        · rintro ⟨j, hj, e⟩
          rcases Nat.lt_or_ge j m with h1 | h1
          · exact .inl ⟨j, h1, e⟩
          · obtain rfl : j = m := by omega
            exact .inr (by simp [e])
      · rw [List.pairwise_append]
        refine ⟨i2, by simp, fun x hx y hy => ?_⟩
        simp only [List.mem_cons, List.not_mem_nil, or_false] at hy
        subst hy
        obtain ⟨j, hj, rfl⟩ := (i1 x).1 hx
        have a1 := h j m hj (by omega)
        rcases Decidable.em (LtL d[j]! d[m]!) with h2 | h2
        · exact h2
        · have e := LtL.tri h2 a1
          rcases hk with h3 | h3
          · omega
          · have a2 := h (m - 1) m (by omega) (by omega)
            rcases Nat.lt_or_ge j (m - 1) with h4 | h4
            · have a3 := h j (m - 1) h4 (by omega)
              rw [e] at a3
              exact absurd (LtL.tri a2 a3) h3
            · obtain rfl : j = m - 1 := by omega
              exact absurd e.symm h3
    · have hk' : Lib.keeps d m = false := by simp [Lib.keeps]; simpa using hk
      rw [hk']
      simp only [Bool.false_eq_true, if_false, List.append_nil]
      refine ⟨fun x => ?_, i2⟩
      rw [i1]
      constructor
      · rintro ⟨j, hj, e⟩
        exact ⟨j, by omega, e⟩
      · rintro ⟨j, hj, e⟩
        rcases Nat.lt_or_ge j m with h1 | h1
        · exact ⟨j, h1, e⟩
        · obtain rfl : j = m := by omega
          have h0 : ¬ j = 0 := fun z => hk (.inl z)
          have h1 : d[j]! = d[j - 1]! := Decidable.byContradiction fun z => hk (.inr z)
          exact ⟨j - 1, by omega, by rw [← h1, e]⟩
theorem sorted_plain (l : List Int) (d : Array Int) (hp : Go.Sort.PermIn 0 l.toArray.size l.toArray d) (hs : Go.Sort.SortedIn (Go.Proofs.ltOf litC) 0 l.toArray.size d) : d.size = l.length ∧ IsPlain l (Lib.compact d.toList) := by
  obtain ⟨p1, _, p3⟩ := hp
  have hsz : d.size = l.length := by simpa using p1
  have h : ∀ i j, i < j → j < d.size → ¬ LtL d[j]! d[i]! := by
    intro i j hij hj
    have := hs i j (by omega) hij (by simp; omega)
    rw [litC_lt] at this
    simpa using this
  have hc := compact_plain d h d.size (Nat.le_refl _)
  refine ⟨hsz, ?_, ?_⟩
  · intro x
    unfold Lib.compact
    rw [show d.toList.toArray = d from by simp, show d.toList.length = d.size from by simp, hc.1]
    have e : x ∈ d.toList ↔ x ∈ l := by
      have : (d.extract 0 l.toArray.size).toList = d.toList := by rw [show l.toArray.size = d.size from by simp [hsz]]; simp
      rw [this] at p3
      have e2 : (l.toArray.extract 0 l.toArray.size).toList = l := by simp
      rw [e2] at p3
      exact p3.mem_iff
    rw [← e, List.mem_iff_getElem]
    constructor
    · rintro ⟨j, hj, e⟩
      exact ⟨j, by simpa using hj, by rw [← e]; simp [getElem!_pos d j hj]⟩
    · rintro ⟨j, hj, e⟩
      have hj' : j < d.size := by simpa using hj
      exact ⟨j, hj', by rw [← e]; simp [getElem!_pos d j hj']⟩
  · unfold Lib.compact
    rw [show d.toList.toArray = d from by simp, show d.toList.length = d.size from by simp]
    exact hc.2

/-- No two neighbours are opposites. -/
def oppI : List Int → Bool
  | x :: y :: r => if y = wrap64 (-x) then false else oppI (y :: r)
  | _ => true
theorem oppI_step {p : List Int} {k : Nat} (h : k + 1 < p.length) : oppI (p.drop k) = if p[k+1]! = wrap64 (-p[k]!) then false else oppI (p.drop (k + 1)) := by
  have e1 : p.drop k = p[k]! :: p[k+1]! :: p.drop (k + 2) := by
    rw [List.drop_eq_getElem_cons (by omega), List.drop_eq_getElem_cons h, getElem!_pos p k (by omega), getElem!_pos p (k+1) h]
  have e2 : p.drop (k + 1) = p[k+1]! :: p.drop (k + 2) := by
    rw [List.drop_eq_getElem_cons h, getElem!_pos p (k+1) h]
  rw [e1, e2]
  rfl
theorem oppI_end {p : List Int} {k : Nat} (h : p.length ≤ k + 1) : oppI (p.drop k) = true := by
  have : (p.drop k).length ≤ 1 := by simp; omega
  match hd : p.drop k, this with
  | [], _ => rfl
  | [x], _ => rfl
end Go.Proofs.YtjifancgekoenaaGreatDoor
