/- The kit of the rows. -/
import Derived.Test.YtbagcbiekpopbaaG7
import Derived.Test.YtbagcbiekpopbaaRows
import Derived.WalkKit
import Derived.ProofKit
import Derived.OpenShut
import Derived.Carry
import Derived.LaidMore
import Derived.Deep.Matrix
import Derived.Deep.Grids
import Derived.Lib.SmallJoins
import Derived.Deep.DeepHandedRow
import Derived.Deep.DeepWitnessRowRef
namespace Go.Proofs.Ytbagcbiekpopbaa
open Go.RowKit Go.Shelf Go.Proofs.YtbagcbiekpopbaaW.PrintWords Go.Proofs.YtbagcbiekpopbaaW.PrintLast Go.Proofs.YtbagcbiekpopbaaW.PrintMore
set_option linter.unusedVariables false
set_option linter.unusedSimpArgs false

theorem boundL_wf {L : List (List Int)} (h : WfL L) : WfL (boundL L) := by
  intro r hr
  unfold boundL at hr
  obtain ⟨x, hx, rfl⟩ := List.mem_map.1 hr
  exact fun y hy => h x (List.mem_of_mem_take hx) y (List.mem_of_mem_take hy)
theorem RowsB.rowsN {w : World} {base : Nat} {A : Option Addr} {c : Nat} {L : List (List Int)} (h : RowsB w base (.slice A L.length c) L) (hs : ∀ l ∈ L, l.length ≤ 1000) : RowsN w A c L := by
  obtain ⟨A', c', he, h1, h2⟩ := h.reads
  injection he with e1 e2 e3
  subst e1 e3
  obtain ⟨vs, k1, k2, k3⟩ := h
  refine ⟨h2, h1, ?_, hs, fun hp => ?_⟩
  · rcases k2.2 with ⟨e, _⟩ | ⟨g, cap, cur, e, _, _, h4, h5, _⟩
    · injection e with _ _ e; omega
    · injection e with _ _ e; unfold maxLen at h5; omega
  · rcases k2.2 with ⟨e, h0⟩ | ⟨g, cap, cur, e, _, _, h4, h5, _⟩
    · omega
    · injection e with e1 e2 e3
      subst e1
      refine ⟨g, 0, rfl, fun j l hj => ?_⟩
      have hjl := lt_of_getElem? hj
      obtain ⟨y, hy⟩ : ∃ y, vs[j]? = some y := ⟨_, List.getElem?_eq_getElem (by omega)⟩
      have ho := k3 j y l hy hj
      obtain ⟨A, cc, rfl, hc, hC⟩ := ho.reads
      have hb := ho.2
      cases A with
      | none => exact absurd rfl hb
      | some a =>
        have := k2.cells (g := g) rfl j _ hy
        rw [add_plain] at this
        exact ⟨a, cc, by simpa using this, hC⟩

/-- A variable that holds clauses: its block; the clauses' rows, none of them nil; nothing older has turned. -/
structure AtS (w W : World) (g : Nat) (n : Int) (A : Option Addr) (c : Nat) (L : List (List Int)) : Prop where
  blk : W.heap[g]? = some (.cells #[.int .i64 n, .slice A L.length c] 24 (0, 0))
  rows : ∃ base, RowsB W base (.slice A L.length c) L
  bel : Below w.heap.size w W
  gl : w.heap.size ≤ g
theorem AtS.c0 {w W : World} {g : Nat} {n : Int} {A : Option Addr} {c : Nat} {L : List (List Int)} (h : AtS w W g n A c L) : W.cell? ⟨g, 0, none⟩ = some (.int .i64 n) := blk_cellA h.blk 0
theorem AtS.c1 {w W : World} {g : Nat} {n : Int} {A : Option Addr} {c : Nat} {L : List (List Int)} (h : AtS w W g n A c L) : W.cell? ⟨g, 1, none⟩ = some (.slice A L.length c) := blk_cellA h.blk 1
theorem AtS.f0 {w W : World} {g : Nat} {n : Int} {A : Option Addr} {c : Nat} {L : List (List Int)} (h : AtS w W g n A c L) (k : Nat) : W.frozen? ⟨g, k, none⟩ = false := blk_frozen h.blk k
theorem AtS.lt {w W : World} {g : Nat} {n : Int} {A : Option Addr} {c : Nat} {L : List (List Int)} (h : AtS w W g n A c L) : g < W.heap.size := blk_lt h.blk
theorem AtS.below {w W W' : World} {g : Nat} {n : Int} {A : Option Addr} {c : Nat} {L : List (List Int)} (h : AtS w W g n A c L) (hb : Below W.heap.size W W') : AtS w W' g n A c L where
  blk := (hb.block g h.lt).trans h.blk
  rows := by obtain ⟨base, hr⟩ := h.rows; exact ⟨base, hr.below hb⟩
  bel := below_then h.bel h.bel.size hb
  gl := h.gl
theorem AtS.rowsN {w W : World} {g : Nat} {n : Int} {A : Option Addr} {c : Nat} {L : List (List Int)} (h : AtS w W g n A c L) (hs : ∀ l ∈ L, l.length ≤ 12) : RowsN W A c L := by
  obtain ⟨base, hr⟩ := h.rows
  exact hr.rowsN fun l hl => by have := hs l hl; omega
theorem cnf_other {w : World} {b k : Nat} {x y u : Value} (hb : w.heap[b]? = some (.cells #[x, y] 24 (0, 0))) : ∀ j : Nat, (∃ cells t, w.heap[j]? = some (.cells cells t (0, 0)) ∧ t ≠ 24) → (w.setCell ⟨b, k, none⟩ u).heap[j]? = w.heap[j]? := by
  rintro j ⟨cells, t, hk, ht⟩
  have hne : j ≠ b := by
    rintro rfl
    rw [hb] at hk
    injection hk with hk
    injection hk with _ h2
    exact ht h2.symm
  exact Below.heap_setCell _ ⟨b, k, none⟩ u j hne
/-- Another number of variables. -/
theorem AtS.setN {w W : World} {g : Nat} {n : Int} {A : Option Addr} {c : Nat} {L : List (List Int)} (h : AtS w W g n A c L) (n' : Int) : AtS w (W.setCell ⟨g, 0, none⟩ (.int .i64 n')) g n' A c L where
  blk := by have := setSol (k := 0) (u := .int .i64 n') h.blk; simpa using this
  rows := by obtain ⟨base, hr⟩ := h.rows; exact ⟨base, hr.moved (cnf_other h.blk)⟩
  bel := h.bel.setCell (p := ⟨g, 0, none⟩) h.gl _
  gl := h.gl
/-- Fewer clauses. -/
theorem RowsB.take {w : World} {base : Nat} {A : Option Addr} {c k : Nat} {L : List (List Int)} (h : RowsB w base (.slice A L.length c) L) (hk : k ≤ L.length) : RowsB w base (.slice A (L.take k).length c) (L.take k) := by
  obtain ⟨vs, h1, h2, h3⟩ := h
  have e : (L.take k).length = k := by rw [List.length_take]; omega
  refine ⟨vs.take k, by simp [h1], ?_, fun j y r hy hr => ?_⟩
  · rw [e]
    exact ownsRow_cut h2 hk
  · rw [List.getElem?_take] at hy hr
    split at hy
    · rw [if_pos ‹_›] at hr
      exact h3 j y r hy hr
    · cases hy
theorem AtS.setL {w W : World} {g : Nat} {n : Int} {A : Option Addr} {c k : Nat} {L : List (List Int)} (h : AtS w W g n A c L) (hk : k ≤ L.length) : AtS w (W.setCell ⟨g, 1, none⟩ (.slice A (L.take k).length c)) g n A c (L.take k) where
  blk := by have := setSol (k := 1) (u := .slice A (L.take k).length c) h.blk; simpa using this
  rows := by obtain ⟨base, hr⟩ := h.rows; exact ⟨base, (hr.moved (cnf_other h.blk)).take hk⟩
  bel := h.bel.setCell (p := ⟨g, 1, none⟩) h.gl _
  gl := h.gl
/-- Behind 'c = Bound(c)'. -/
theorem atS_store {w W : World} {g : Nat} {x y : Value} {n : Int} {A : Option Addr} {c base : Nat} {L : List (List Int)} (hbox : W.heap[g]? = some (.cells #[x, y] 24 (0, 0)))
    (hS : RowsB W base (.slice A L.length c) L) (hb : Below w.heap.size w W) (hg : w.heap.size ≤ g) :
    AtS w ((W.setCell ⟨g, 0, none⟩ (.int .i64 n)).setCell ⟨g, 1, none⟩ (.slice A L.length c)) g n A c L where
  blk := set2 hbox _ _
  rows := ⟨base, hS.moved (set2_other hbox _ _)⟩
  bel := set2_below hb hg _ _
  gl := hg
theorem box_later {w W : World} {o : Obj} (hb : Below (w.heap.size + 1) (w.alloc o) W) : W.heap[w.heap.size]? = some o :=
  (hb.block w.heap.size (by omega)).trans (heap_alloc_new w _)
end Go.Proofs.Ytbagcbiekpopbaa

namespace Go.Proofs.Ytbagcbiekpopbaa
open Go.RowKit Go.Shelf Go.Proofs.YtbagcbiekpopbaaW.PrintWords Go.Proofs.YtbagcbiekpopbaaW.PrintLast Go.Proofs.YtbagcbiekpopbaaW.PrintMore
set_option linter.unusedVariables false
set_option linter.unusedSimpArgs false

theorem RowsN.row {w : World} {A : Option Addr} {c : Nat} {L : List (List Int)} (h : RowsN w A c L) {j : Nat} {l : List Int} (hj : L[j]? = some l) :
    ∃ b off a cc, A = some ⟨b, off, none⟩ ∧ w.cell? ⟨b, off + j, none⟩ = some (.slice (some a) l.length cc) ∧ l.length ≤ cc ∧ Kd.C kI w (some a) l.length l := by
  have hl := lt_of_getElem? hj
  obtain ⟨b, off, rfl, hr⟩ := h.rows (by omega)
  obtain ⟨a, cc, h1, h2⟩ := hr j l hj
  obtain ⟨b', off', e, _, hr'⟩ := C_rows h.C (by omega)
  injection e with e
  injection e with e1 e2
  subst e1 e2
  obtain ⟨Ar, cr, h3, h4, _⟩ := hr' j hl
  have e3 : L[j]! = l := by rw [List.getElem!_eq_getElem?_getD, hj]; rfl
  rw [h1] at h3
  injection h3 with h3
  injection h3 with _ _ h5
  rw [e3, ← h5] at h4
  exact ⟨b, off, a, cc, rfl, h1, h4, h2⟩

/-- Headers of rows that lie in a world, none of them nil. -/
structure RowsVN (w : World) (vs : List Value) (L : List (List Int)) : Prop where
  len : vs.length = L.length
  read : ∀ (j : Nat) y r, vs[j]? = some y → L[j]? = some r → ∃ a c, y = .slice (some a) r.length c ∧ r.length ≤ c ∧ Kd.C kI w (some a) r.length r
theorem RowsVN.nil (w : World) : RowsVN w [] [] := ⟨rfl, fun j y r hy => by simp at hy⟩
theorem RowsVN.snoc {w : World} {vs : List Value} {L : List (List Int)} (h : RowsVN w vs L) {a : Addr} {c : Nat} {r : List Int} (hc : r.length ≤ c) (hC : Kd.C kI w (some a) r.length r) : RowsVN w (vs ++ [.slice (some a) r.length c]) (L ++ [r]) := by
  refine ⟨by simp [h.len], fun j y r' hy hr => ?_⟩
  rcases getElem?_snoc hr with h1 | ⟨h1, rfl⟩
  · have := lt_of_getElem? h1
    rw [List.getElem?_append_left (by rw [h.len]; exact this)] at hy
    exact h.read j y r' hy h1
  · subst h1
    rw [← h.len] at hy
    simp at hy
    subst hy
    exact ⟨a, c, rfl, hc, hC⟩
theorem RowsVN.one {w : World} {vs : List Value} {L : List (List Int)} (h : RowsVN w vs L) : ∀ u ∈ vs, u.oneCell' = true := fun u hu => by
  obtain ⟨j, hj⟩ := List.mem_iff_getElem?.1 hu
  have hl := lt_of_getElem? hj
  obtain ⟨a, c, rfl, -⟩ := h.read j u _ hj (List.getElem?_eq_getElem (by rw [← h.len]; exact hl))
  rfl
theorem RowsVN.rowsN {w W : World} {B : Nat} {v : Value} {vs : List Value} {L : List (List Int)} (h : RowsVN w vs L) (hb : Below w.heap.size w W) (ho : W.ownsRow B 37 1 v vs.length vs) (hs : ∀ l ∈ L, l.length ≤ 1000) : ∃ A c, v = .slice A L.length c ∧ RowsN W A c L := by
  rcases ho.2 with ⟨rfl, h0⟩ | ⟨g, cap, cur, rfl, _, _, h4, h5, _⟩
  · have : L = [] := List.eq_nil_of_length_eq_zero (by rw [← h.len]; exact h0)
    subst this
    exact ⟨none, 0, rfl, Kd.C_nil _ _, Nat.le_refl _, by omega, hs, fun h => absurd h (by simp)⟩
  · have hc : ∀ (j : Nat) r, L[j]? = some r → ∃ a c, W.cell? ⟨g, 0 + j, none⟩ = some (.slice (some a) r.length c) ∧ r.length ≤ c ∧ Kd.C kI W (some a) r.length r := fun j r hj => by
      have hjl := lt_of_getElem? hj
      obtain ⟨y, hy⟩ : ∃ y, vs[j]? = some y := ⟨_, List.getElem?_eq_getElem (by rw [h.len]; exact hjl)⟩
      obtain ⟨a, c, rfl, hc, hC⟩ := h.read j y r hy hj
      have := ho.cells (g := g) rfl j _ hy
      rw [add_plain] at this
      exact ⟨a, c, by simpa using this, hc, Kd.C_below hC hb⟩
    rw [h.len] at h4
    refine ⟨some ⟨g, 0, none⟩, cap, by rw [h.len], CII_of_cells (by unfold maxLen at h5; omega) (fun j r hj => ?_), h4, by unfold maxLen at h5; omega, hs, fun _ => ⟨g, 0, rfl, fun j r hj => ?_⟩⟩
    · obtain ⟨a, c, k1, k2, k3⟩ := hc j r hj
      exact ⟨some a, c, k1, k2, k3⟩
    · obtain ⟨a, c, k1, k2, k3⟩ := hc j r hj
      exact ⟨a, c, k1, k3⟩

/-- A literal that is not great, under any values. -/
theorem lit_small (x : Int) (a : List Bool) (h0 : x ≠ 0) (h1 : x.natAbs ≤ 1000000) : ∀ (k i : Nat), 1 ≤ i → i ≤ x.natAbs → i ≤ a.length + 1 → x.natAbs + 2 ≤ i + k → whetstoneref13_Lit.l0 k x a (i : Int) = some (isLit x a)
  | 0, i, hi, hi2, hi3, hk => by omega
  | k + 1, i, hi, hi2, hi3, hk => by
    have hv : vari x = (x.natAbs : Int) := by have := vari_cases x (by omega) (by omega); omega
    unfold whetstoneref13_Lit.l0
    by_cases hle : (i : Int) ≤ (a.length : Int)
    · rw [if_pos hle, wrap64_small (x := (i : Int) - 1) (by omega) (by omega), wrap64_small (x := -(i : Int)) (by omega) (by omega), wrap64_small (x := (i : Int) + 1) (by omega) (by omega)]
      by_cases e1 : x = (i : Int)
      · rw [if_pos e1, if_pos (by omega), if_pos (by omega)]
        have hvi : vari x = (i : Int) := by omega
        unfold isLit
        rw [hvi, decide_eq_true (by omega : (0 : Int) < i), decide_eq_true hle, decide_eq_true (by omega : (0 : Int) < x)]
        simp
      · rw [if_neg e1]
        by_cases e2 : x = -(i : Int)
        · rw [if_pos e2, if_pos (by omega), if_pos (by omega)]
          have hvi : vari x = (i : Int) := by omega
          unfold isLit
          rw [hvi, decide_eq_true (by omega : (0 : Int) < i), decide_eq_true hle, decide_eq_false (by omega : ¬ (0 : Int) < x)]
          simp
        · rw [if_neg e2]
          exact lit_small x a h0 h1 k (i + 1) (by omega) (by omega) (by omega) (by omega)
    · rw [if_neg hle]
      unfold isLit
      rw [hv, decide_eq_true (by omega : (0 : Int) < (x.natAbs : Int)), decide_eq_false (by omega : ¬ (x.natAbs : Int) ≤ (a.length : Int))]
      by_cases hn : x < 0
      · rw [if_pos hn, wrap64_small (by omega) (by omega), decide_eq_true (by omega : -x > 0), decide_eq_false (by omega : ¬ (0 : Int) < x)]
        rfl
      · rw [if_neg hn, decide_eq_true (by omega : (0 : Int) < x)]
        rfl
theorem clause_small (l : List Int) (a : List Bool) (hl : ∀ x ∈ l, x ≠ 0 ∧ x.natAbs ≤ 1000) (hl2 : l.length ≤ 1000000) : ∀ (k i : Nat), i ≤ l.length → (l.length - i) + 1005 ≤ k → whetstoneref13_Clause.l0 k l a (i : Int) = some ((l.drop i).any fun x => isLit x a)
  | 0, i, hi, hk => by omega
  | k + 1, i, hi, hk => by
    unfold whetstoneref13_Clause.l0
    by_cases hlt : (i : Int) < (l.length : Int)
    · have hlt2 : i < l.length := by omega
      have hr : rd l (i : Int) = l[i] := by simp [rd, List.getD_eq_getElem?_getD, hlt2]
      have hw := hl l[i] (List.getElem_mem hlt2)
      have hlit : whetstoneref13_Lit.f k l[i] a = some (isLit l[i] a) := lit_small l[i] a hw.1 (by omega) k 1 (by omega) (by omega) (by omega) (by omega)
      rw [if_pos hlt, if_pos (by omega), hr, hlit, wrap64_small (by omega) (by omega)]
      simp only [Option.bind_some]
      rw [List.drop_eq_getElem_cons hlt2, List.any_cons]
      by_cases hb : isLit l[i] a = true
      · rw [if_pos hb, hb]; rfl
      · rw [if_neg hb]
        have hb2 : isLit l[i] a = false := by simpa using hb
        rw [hb2, Bool.false_or]
        exact clause_small l a hl hl2 k (i + 1) (by omega) (by omega)
    · rw [if_neg hlt, List.drop_of_length_le (by omega)]; rfl
theorem RClause_small (A0 : Option Addr) (c0 : Nat) (l0 : List Int) (A1 : Option Addr) (c1 : Nat) (l1 : List Bool) (w : World) (h0 : Kd.C kI w A0 l0.length l0) (hc0 : l0.length ≤ c0) (h1 : Kd.C Kd.bool w A1 l1.length l1) (hc1 : l1.length ≤ c1)
    (hW : ∀ x ∈ l0, x ≠ 0 ∧ x.natAbs ≤ 1000) (hl0 : l0.length ≤ 1000000) :
    Calls Try.prog 18 #[.slice A0 l0.length c0, .slice A1 l1.length c1] w fun e w' => e = .returned (.bool (clauseB l0 l1)) ∧ Below w.heap.size w w' :=
  (whetstoneref13_Clause.calls (l0.length + 1005) A0 c0 l0 A1 c1 l1 (clauseB l0 l1) w h0 hc0 h1 hc1 (by
    have := clause_small l0 l1 hW hl0 (l0.length + 1005) 0 (by omega) (by omega)
    rw [List.drop_zero] at this
    exact this)).mono fun _ _ ⟨h1, h2⟩ => ⟨h1, drawn_below h2⟩

theorem checkI_sub {n : Int} {L L' : List (List Int)} (h : checkI n L = 0) (hs : ∀ r ∈ L', r ∈ L) (hl : L'.length ≤ 1000) : checkI n L' = 0 := by
  unfold checkI at h ⊢
  split at h
  · omega
  · rename_i h1
    rw [if_neg h1]
    split at h
    · omega
    · rename_i h2
      rw [if_neg h2, if_neg (by omega)]
      split at h
      · omega
      · split at h
        · omega
        · rename_i h3
          rw [if_neg]
          intro h4
          obtain ⟨r, hr, h5⟩ := List.any_eq_true.1 h4
          exact h3 (List.any_eq_true.2 ⟨r, hs r hr, h5⟩)
theorem pow3 {n m : Nat} {b : Int} (h : n ≤ m) (hb : ((3 ^ m : Nat) : Int) = b) : (3 : Int) ^ n ≤ b := by
  have h1 : (3 : Nat) ^ n ≤ 3 ^ m := Nat.pow_le_pow_right (by omega) h
  have e3 : ((3 ^ n : Nat) : Int) = (3 : Int) ^ n := by simp
  omega
/-- With as many steps as are enough the answer is yes or no, as it is. -/
theorem solve_full {n : Nat} {budget : Int} {L : List (List Int)} (hn : n ≤ 1000) (hc : checkI (n : Int) L = 0) (hb : (3 : Int) ^ n ≤ budget) (hb2 : budget ≤ 100000) (hL : L.length ≤ 1000) (hW : WfL L) :
    (∃ vals, solveR budget (n : Int) L = ⟨1, vals, []⟩ ∧ vals.length = n ∧ trueB L vals = true) ∨ (∃ pf, solveR budget (n : Int) L = ⟨2, [], pf⟩ ∧ ∀ a, trueB L a = false) := by
  have h3 : (0 : Int) ≤ (3 : Int) ^ n := Int.le_of_lt (Int.pow_pos (by decide))
  obtain ⟨-, h1⟩ := solveR_run (budget := budget) hc (by omega) (by omega) hb2 hL hW
  obtain ⟨-, -, hV⟩ := check_V hc hW
  have h2 := h1.law (by omega) hV
  rw [Int.toNat_natCast] at h2
  generalize solveR budget (n : Int) L = r at *
  obtain ⟨what, vals, pf⟩ := r
  rcases h2 with ⟨_, _, _, h⟩ | ⟨h1, h2, h3, h4⟩ | ⟨h1, h2, _, _, _, _, h7⟩
  · omega
  · simp only at h1 h2 h3 h4
    subst h1 h3
    exact .inl ⟨vals, rfl, h2, h4⟩
  · simp only at h1 h2
    subst h1 h2
    exact .inr ⟨pf, rfl, h7⟩
end Go.Proofs.Ytbagcbiekpopbaa

namespace Go.Proofs.Ytbagcbiekpopbaa
open Go.ChangeShapes Go.WideShapes Go.ChangeAt Go.RowKit Go.Shelf Go.Proofs.YtbagcbiekpopbaaW.PrintWords Go.Proofs.YtbagcbiekpopbaaW.PrintLast
set_option linter.unusedVariables false
set_option linter.unusedSimpArgs false
set_option linter.constructorNameAsVariable false
set_option maxRecDepth 100000

theorem own : ownKnob Try.prog.godebug = none := by kernel_rfl
theorem laidOut : laidOutB Try.prog = true := by kernel_rfl

/-! The arguments, opened. -/
section
variable {H : Type} {enc : TypeId × Value → H} {W : World} {base : Nat}
theorem lit_range {n : Int} (h : (Lit.int .i64 n).wf = true) : -9223372036854775808 ≤ n ∧ n ≤ 9223372036854775807 := by
  simp [Lit.wf, IntKind.wrap, IntKind.bits, IntKind.signed, IntKind.min, IntKind.max] at h
  omega
theorem C_of_adds {k : IntKind} {a : Addr} {n : Nat} {xs : List Int} (hx : xs.length = n) (hm : n ≤ 9223372036854775807) (h : ∀ j, j < n → W.cell? (a.add j) = some (.int k (xs.getD j 0))) : Kd.C (Kd.int k) W (some a) n xs := by
  refine ⟨hx, hm, fun _ => ⟨a, rfl, fun j p hj => ⟨[.int k p], rfl, rfl, fun i u hi => ?_⟩⟩⟩
  match i, hi with
  | 0, hi =>
    simp only [List.getElem?_cons_zero, Option.some.injEq] at hi
    subst hi
    have e : j * (Kd.int k).sz + 0 = j := by show j * 1 + 0 = j; omega
    rw [e, h j (by have := (List.getElem?_eq_some_iff.1 hj).1; omega)]
    simp [List.getD_eq_getElem?_getD, hj]
theorem openInts {v : Value} {d : DataW H} {p : List MemPlace} (hv : Value.okWide Try.prog W .any base 37 v) (h : DataW.Trod enc Try.prog W 0 (fun _ => true) true 37 v d p) :
    ∃ A c xs, v = .slice A xs.length c ∧ Kd.C kI W A xs.length xs ∧ xs.length ≤ c ∧ Wf xs := by
  obtain ⟨a0, len, cap, rfl⟩ := okWide_slice Try.underlying37 hv
  obtain ⟨fuel, hf⟩ := h
  rcases open_ints Try.underlying37 Try.underlying3 (by kernel_rfl) hf with ⟨hcs, hx⟩ | ⟨a, len', cap', zs, hcs, _, hl, hm, hz, hx, hcell, hwz⟩
  · simp [Value.cells] at hcs
    obtain ⟨rfl, rfl, rfl⟩ := hcs
    exact ⟨none, 0, [], rfl, Kd.C_nil _ _, Nat.le_refl _, fun x hx => by cases hx⟩
  · simp [Value.cells] at hcs
    obtain ⟨rfl, rfl, rfl⟩ := hcs
    simp only [if_true] at hz
    have e : (zs.take len).length = len := by rw [List.length_take]; omega
    refine ⟨some a, cap, zs.take len, by rw [e], ?_, by rw [e]; exact hl, fun x hx => lit_range (hwz x (List.mem_of_mem_take hx))⟩
    rw [e]
    refine C_of_adds e (by unfold maxLen at hm; omega) (fun j hj => ?_)
    rw [hcell j (by omega)]
    simp [List.getD_eq_getElem?_getD, List.getElem?_take_of_lt hj]
theorem openBools {v : Value} {d : DataW H} {p : List MemPlace} (hv : Value.okWide Try.prog W .any base 26 v) (h : DataW.Trod enc Try.prog W 0 (fun _ => true) true 26 v d p) :
    ∃ A c bs, v = .slice A bs.length c ∧ Kd.C Kd.bool W A bs.length bs ∧ bs.length ≤ c := by
  obtain ⟨a0, len, cap, rfl⟩ := okWide_slice Try.underlying26 hv
  obtain ⟨fuel, hf⟩ := h
  rcases Deep.open_bools Try.underlying26 Try.underlying4 (by kernel_rfl) hf with ⟨hcs, hx⟩ | ⟨a, len', cap', B, hcs, _, hl, hm, hx, hcell⟩
  · simp [Value.cells] at hcs
    obtain ⟨rfl, rfl, rfl⟩ := hcs
    exact ⟨none, 0, [], rfl, Kd.C_nil _ _, Nat.le_refl _⟩
  · simp [Value.cells] at hcs
    obtain ⟨rfl, rfl, rfl⟩ := hcs
    have e : ((List.range len).map B).length = len := by simp
    refine ⟨some a, cap, (List.range len).map B, by rw [e], ?_, by rw [e]; exact hl⟩
    rw [e]
    refine ⟨e, by unfold maxLen at hm; omega, fun _ => ⟨a, rfl, fun j q hj => ⟨[.bool q], rfl, rfl, fun i u hi => ?_⟩⟩⟩
    match i, hi with
    | 0, hi =>
      simp only [List.getElem?_cons_zero, Option.some.injEq] at hi
      subst hi
      have e : j * Kd.bool.sz + 0 = j := by show j * 1 + 0 = j; omega
      have hjl := (List.getElem?_eq_some_iff.1 hj).1
      rw [List.length_map, List.length_range] at hjl
      rw [e, hcell j (by omega)]
      simp [hjl] at hj
      rw [hj]
theorem openRows {fuel : Nat} {v : Value} {x : DataW H × List MemPlace} (h : DataW.trod enc Try.prog W 0 (fun _ => true) true fuel 22 [v] = some x) :
    ∃ A c L, v = .slice A L.length c ∧ Kd.C kII W A L.length L ∧ L.length ≤ c ∧ WfL L := by
  rcases Deep.open_int_rows Try.underlying22 Try.underlying37 Try.underlying3 (by kernel_rfl) (by kernel_rfl) h with ⟨hcs, hx⟩ | ⟨a, len, cap, A, Ln, C, Z, hcs, _, hl, hm, _, hr⟩
  · simp at hcs
    subst hcs
    exact ⟨none, 0, [], rfl, Kd.C_nil _ _, Nat.le_refl _, fun x hx => by cases hx⟩
  · simp at hcs
    subst hcs
    have e : ((List.range len).map fun r => (Z r).take (Ln r)).length = len := by simp
    refine ⟨some a, cap, (List.range len).map fun r => (Z r).take (Ln r), by rw [e], ?_, by rw [e]; exact hl, ?_⟩
    · rw [e]
      refine ⟨e, by unfold maxLen at hm; omega, fun _ => ⟨a, rfl, fun j r hj => ?_⟩⟩
      have hjl := (List.getElem?_eq_some_iff.1 hj).1
      rw [List.length_map, List.length_range] at hjl
      simp [hjl] at hj
      obtain ⟨h1, h2, h3, h4, h5, h6, h7⟩ := hr j (by omega)
      have er : r.length = Ln j := by rw [← hj, List.length_take]; omega
      refine ⟨[.slice (A j) r.length (C j)], rfl, ⟨A j, C j, rfl, by omega, ?_⟩, fun i u hi => ?_⟩
      · cases hA : A j with
        | none =>
          have : r.length = 0 := by have := h6 hA; omega
          have : r = [] := List.eq_nil_of_length_eq_zero this
          subst this
          exact Kd.C_nil _ _
        | some a' =>
          refine C_of_adds rfl (by unfold maxLen at h3; omega) (fun i hi => ?_)
          rw [(h7 a' hA).2 i (by omega), ← hj]
          simp [List.getD_eq_getElem?_getD, List.getElem?_take_of_lt (show i < Ln j by omega)]
      · match i, hi with
        | 0, hi =>
          simp only [List.getElem?_cons_zero, Option.some.injEq] at hi
          subst hi
          have e : j * kII.sz + 0 = j := by show j * 1 + 0 = j; omega
          rw [e, h1, er]
    · intro r hr' x hx
      obtain ⟨j, hj, rfl⟩ := List.mem_map.1 hr'
      rw [List.mem_range] at hj
      exact lit_range ((hr j (by omega)).2.2.2.2.1 x (List.mem_of_mem_take hx))
theorem openCnf {v : Value} {d : DataW H} {p : List MemPlace} (hv : Value.okWide Try.prog W .any base 24 v) (h : DataW.Trod enc Try.prog W 0 (fun _ => true) true 24 v d p) :
    ∃ n A c L, v = .agg #[.int .i64 n, .slice A L.length c] ∧ (-9223372036854775808 ≤ n ∧ n ≤ 9223372036854775807) ∧ Kd.C kII W A L.length L ∧ L.length ≤ c ∧ WfL L := by
  obtain ⟨v0, v1, y0, y1, m, rfl, _, _, h0, h1⟩ := Joins.open_agg2 Try.underlying24 (by kernel_rfl) (by kernel_rfl) hv h
  obtain ⟨n, e, _, hw⟩ := DataW.trod_int Try.underlying3 h0
  simp at e
  subst e
  obtain ⟨A, c, L, rfl, h2, h3, h4⟩ := openRows h1
  exact ⟨n, A, c, L, rfl, lit_range hw, h2, h3, h4⟩
theorem openInt {v : Value} {d : DataW H} {p : List MemPlace} (hv : Value.okWide Try.prog W .any base 3 v) (h : DataW.Trod enc Try.prog W 0 (fun _ => true) true 3 v d p) :
    ∃ z, v = .int .i64 z ∧ -9223372036854775808 ≤ z ∧ z ≤ 9223372036854775807 := by
  obtain ⟨k, h⟩ := h
  obtain ⟨z, e, _, hw⟩ := DataW.trod_int Try.underlying3 h
  obtain ⟨z0, rfl⟩ : ∃ z0, v = .int .i64 z0 := okWide_int Try.underlying3 hv
  simp [Value.cells] at e
  subst e
  exact ⟨_, rfl, lit_range hw⟩
end

theorem door_met (os : Os) (args : Array Value) : laidMet Try.prog Rows.satFindsRow.laid ((World.doorLaid Try.prog 400 os).forCall (fun _ _ => 0) ⟨#[], args, []⟩).memory :=
  laidMet_of_run' 8 (by kernel_rfl) (by kernel_rfl)
end Go.Proofs.Ytbagcbiekpopbaa
