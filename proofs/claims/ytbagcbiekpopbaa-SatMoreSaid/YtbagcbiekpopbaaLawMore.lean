/- SatMore: for every input the law returns true, and the input reads behind the call as it read before (of at most 7 variables, 40 clauses of 12 literals each). -/
import Derived.Test.YtbagcbiekpopbaaG8
namespace Go.Proofs.Ytbagcbiekpopbaa
open Go.RowKit Go.Shelf Go.Proofs.YtbagcbiekpopbaaW.PrintWords Go.Proofs.YtbagcbiekpopbaaW.PrintLast Go.Proofs.YtbagcbiekpopbaaW.PrintMore
set_option linter.unusedVariables false
set_option linter.unusedSimpArgs false

theorem own_slice {w : World} {B n : Nat} {e : TypeId} {v : Value} {xs : List Value} (h : w.ownsRow B e 1 v n xs) : ∃ A c, v = .slice A n c := by
  rcases h.2 with ⟨rfl, h0⟩ | ⟨g, cap, cur, rfl, _⟩
  · subst h0; exact ⟨_, _, rfl⟩
  · exact ⟨_, _, rfl⟩
/-- A variable of clauses that is the call's own and grows. -/
structure GrowS (w0 W : World) (base g2 : Nat) (n : Int) (v : Value) (vs : List Value) (D : List (List Int)) : Prop where
  bel : Below base w0 W
  blk : W.heap[g2]? = some (.cells #[.int .i64 n, v] 24 (0, 0))
  own : W.ownsRow base 37 1 v vs.length vs
  vals : RowsVN w0 vs D
  bg : base ≤ g2
  b0 : base ≤ w0.heap.size
theorem GrowS.c0 {w0 W : World} {base g2 : Nat} {n : Int} {v : Value} {vs : List Value} {D : List (List Int)} (h : GrowS w0 W base g2 n v vs D) : W.cell? ⟨g2, 0, none⟩ = some (.int .i64 n) := blk_cellA h.blk 0
theorem GrowS.c1 {w0 W : World} {base g2 : Nat} {n : Int} {v : Value} {vs : List Value} {D : List (List Int)} (h : GrowS w0 W base g2 n v vs D) : W.cell? ⟨g2, 1, none⟩ = some v := blk_cellA h.blk 1
theorem GrowS.f1 {w0 W : World} {base g2 : Nat} {n : Int} {v : Value} {vs : List Value} {D : List (List Int)} (h : GrowS w0 W base g2 n v vs D) : W.frozen? ⟨g2, 1, none⟩ = false := blk_frozen h.blk 1
theorem GrowS.below {w0 W W' : World} {base g2 : Nat} {n : Int} {v : Value} {vs : List Value} {D : List (List Int)} (h : GrowS w0 W base g2 n v vs D) (hb : Below W.heap.size W W') : GrowS w0 W' base g2 n v vs D where
  bel := below_then h.bel (Nat.le_trans h.b0 h.bel.size) hb
  blk := (hb.block g2 (blk_lt h.blk)).trans h.blk
  own := pw_own_below h.own hb
  vals := h.vals
  bg := h.bg
  b0 := h.b0
theorem GrowS.kept {w0 W X w3 : World} {base g2 : Nat} {n : Int} {v : Value} {vs : List Value} {D : List (List Int)} (h : GrowS w0 W base g2 n v vs D) (hX : Below W.heap.size W X) (hg : X.grownBy w3 v.ownBlock) : w3.heap[g2]? = W.heap[g2]? := by
  have hlt := blk_lt h.blk
  exact (hg.block g2 (Nat.lt_of_lt_of_le hlt hX.size) (type_ne (cs := []) h.own h.blk (by decide))).trans (hX.block g2 hlt)
theorem GrowS.step {w0 W X w3 : World} {base g2 : Nat} {n : Int} {v v3 : Value} {vs : List Value} {D : List (List Int)} (h : GrowS w0 W base g2 n v vs D) (hX : Below W.heap.size W X) (hg : X.grownBy w3 v.ownBlock)
    {a : Addr} {c : Nat} {r : List Int} (hc : r.length ≤ c) (hC : Kd.C kI w0 (some a) r.length r)
    (hown : w3.ownsRow base 37 1 v3 (vs ++ [Value.slice (some a) r.length c]).length (vs ++ [Value.slice (some a) r.length c])) (hb3 : Below base w0 w3) :
    GrowS w0 (w3.setCell ⟨g2, 1, none⟩ v3) base g2 n v3 (vs ++ [Value.slice (some a) r.length c]) (D ++ [r]) where
  bel := hb3.setCell (p := ⟨g2, 1, none⟩) h.bg _
  blk := by
    have h1 : w3.heap[g2]? = some (.cells #[.int .i64 n, v] 24 (0, 0)) := (h.kept hX hg).trans h.blk
    have := setSol (k := 1) (u := v3) h1
    simpa using this
  own := by
    have h1 : w3.heap[g2]? = some (.cells #[.int .i64 n, v] 24 (0, 0)) := (h.kept hX hg).trans h.blk
    exact ownsRow_turn hown (Turn.set w3 g2 1 v3) (fun k e e2 => type_ne (cs := []) hown h1 (by decide) (by rw [e, e2]))
  vals := h.vals.snoc hc hC
  bg := h.bg
  b0 := h.b0

theorem checkI_same {n : Int} {L L' : List (List Int)} (hs : ∀ r, r ∈ L' ↔ r ∈ L) (hl : L.length ≤ 1000) (hl' : L'.length ≤ 1000) : checkI n L' = checkI n L := by
  have e : (L'.any fun l => l.any (oddB n)) = (L.any fun l => l.any (oddB n)) := by
    rw [Bool.eq_iff_iff, List.any_eq_true, List.any_eq_true]
    exact ⟨fun ⟨r, h1, h2⟩ => ⟨r, (hs r).1 h1, h2⟩, fun ⟨r, h1, h2⟩ => ⟨r, (hs r).2 h1, h2⟩⟩
  unfold checkI
  rw [e]
  simp only [show ¬ (1048576 : Int) < (L.length : Int) from by omega, show ¬ (1048576 : Int) < (L'.length : Int) from by omega, if_false]
theorem trueB_same {L L' : List (List Int)} (hs : ∀ r, r ∈ L' ↔ r ∈ L) (a : List Bool) : trueB L' a = trueB L a := by
  rw [Bool.eq_iff_iff, trueB_iff, trueB_iff]
  exact ⟨fun h r hr => h r ((hs r).2 hr), fun h r hr => h r ((hs r).1 hr)⟩
/-- The same clauses answer the same. -/
theorem same_ans {n : Nat} {b : Int} {L L' : List (List Int)} (hs : ∀ r, r ∈ L' ↔ r ∈ L) (hn : n ≤ 1000) (hb : (3 : Int) ^ n ≤ b) (hb2 : b ≤ 100000) (hl : L.length ≤ 1000) (hl' : L'.length ≤ 1000) (hW : WfL L) :
    checkI (n : Int) L' = checkI (n : Int) L ∧ (solveR b (n : Int) L').what = (solveR b (n : Int) L).what ∧ (checkI (n : Int) L ≠ 0 ∨ (checkI (n : Int) L = 0 ∧ (solveR b (n : Int) L).what ≠ 0)) := by
  have hc := checkI_same (n := (n : Int)) hs hl hl'
  have hW' : WfL L' := fun r hr => hW r ((hs r).1 hr)
  refine ⟨hc, ?_, ?_⟩
  · by_cases h : checkI (n : Int) L = 0
    · rcases solve_full hn h hb hb2 hl hW with ⟨v, e, _, ht⟩ | ⟨p, e, hno⟩ <;> rcases solve_full hn (hc.trans h) hb hb2 hl' hW' with ⟨v', e', _, ht'⟩ | ⟨p', e', hno'⟩ <;> rw [e, e']
      · have := hno' v
        rw [trueB_same hs, ht] at this
        cases this
      · have := hno v'
        rw [← trueB_same hs, ht'] at this
        cases this
    · rw [solveR_bad (.inl h), solveR_bad (.inl (by rw [hc]; exact h))]
  · by_cases h : checkI (n : Int) L = 0
    · right
      refine ⟨h, ?_⟩
      rcases solve_full hn h hb hb2 hl hW with ⟨v, e, _, ht⟩ | ⟨p, e, hno⟩ <;> rw [e] <;> simp
    · exact .inl h
end Go.Proofs.Ytbagcbiekpopbaa

namespace Go.Proofs.Ytbagcbiekpopbaa
open Go.RowKit Go.Shelf Go.Proofs.YtbagcbiekpopbaaW.PrintWords Go.Proofs.YtbagcbiekpopbaaW.PrintLast Go.Proofs.YtbagcbiekpopbaaW.PrintMore
attribute [local go_sem] max2_int min2_int max_two min_two max_three min_three max_four min_four
set_option linter.unusedVariables false
set_option linter.unusedSimpArgs false

theorem AtS.other {w W : World} {g gb k : Nat} {n : Int} {x y u : Value} {A : Option Addr} {c : Nat} {L : List (List Int)} (h : AtS w W g n A c L) (hne : g ≠ gb) (hb : W.heap[gb]? = some (.cells #[x, y] 24 (0, 0))) (hg : w.heap.size ≤ gb) : AtS w (W.setCell ⟨gb, k, none⟩ u) g n A c L where
  blk := (Below.heap_setCell W ⟨gb, k, none⟩ u g hne).trans h.blk
  rows := by obtain ⟨base, hr⟩ := h.rows; exact ⟨base, hr.moved (cnf_other hb)⟩
  bel := h.bel.setCell (p := ⟨gb, k, none⟩) hg _
  gl := h.gl
theorem AtS.other2 {w W : World} {g gb : Nat} {n : Int} {x y u v : Value} {A : Option Addr} {c : Nat} {L : List (List Int)} (h : AtS w W g n A c L) (hne : g ≠ gb) (hb : W.heap[gb]? = some (.cells #[x, y] 24 (0, 0))) (hg : w.heap.size ≤ gb) : AtS w ((W.setCell ⟨gb, 0, none⟩ u).setCell ⟨gb, 1, none⟩ v) g n A c L :=
  (h.other hne hb hg).other (x := u) (y := y) hne (by have := setSol (k := 0) (u := u) hb; simpa using this) hg
theorem GrowS.both {X w3 : World} {base g5 : Nat} {n : Int} {x y v : Value} {vs : List Value} {D : List (List Int)} (hb : w3.heap[g5]? = some (.cells #[x, y] 24 (0, 0))) (hown : w3.ownsRow base 37 1 v vs.length vs) (hb3 : Below base X w3) (hv : RowsVN X vs D) (hg : base ≤ g5) (h0 : base ≤ X.heap.size) :
    GrowS X ((w3.setCell ⟨g5, 0, none⟩ (.int .i64 n)).setCell ⟨g5, 1, none⟩ v) base g5 n v vs D where
  bel := set2_below hb3 hg _ _
  blk := set2 hb _ _
  own := by
    have h1 : (w3.setCell ⟨g5, 0, none⟩ (.int .i64 n)).heap[g5]? = some (.cells #[.int .i64 n, y] 24 (0, 0)) := by have := setSol (k := 0) (u := .int .i64 n) hb; simpa using this
    have h2 := ownsRow_turn hown (Turn.set w3 g5 0 (.int .i64 n)) (fun k e e2 => type_ne (cs := []) hown hb (by decide) (by rw [e, e2]))
    exact ownsRow_turn h2 (Turn.set _ g5 1 v) (fun k e e2 => type_ne (cs := []) h2 h1 (by decide) (by rw [e, e2]))
  vals := hv
  bg := hg
  b0 := h0
theorem GrowS.fresh {X w3 : World} {base : Nat} {n : Int} {v : Value} {vs : List Value} {D : List (List Int)} (hown : w3.ownsRow base 37 1 v vs.length vs) (hb3 : Below base X w3) (hv : RowsVN X vs D) (hg : base ≤ w3.heap.size) (h0 : base ≤ X.heap.size) :
    GrowS X (w3.alloc (.cells #[.int .i64 n, v] 24)) base w3.heap.size n v vs D where
  bel := hb3.alloc hg _
  blk := heap_alloc_new _ _
  own := hown.alloc _
  vals := hv
  bg := hg
  b0 := h0
theorem drew_own {w : World} {B n : Nat} {e : TypeId} {v : Value} {xs : List Value} (h : w.ownsRow B e 1 v n xs) : w.drew.ownsRow B e 1 v n xs := h
theorem ownA (X : World) (T : TypeId) : (X.alloc (.cells #[] T)).drew.ownsRow X.heap.size T 1 (.slice (some ⟨X.heap.size, 0, none⟩) 0 0) ([] : List Value).length [] := drew_own (own_empty X T)
theorem ownB (X : World) (o : Obj) (T : TypeId) : ((X.alloc (.cells #[] T)).alloc o).drew.ownsRow X.heap.size T 1 (.slice (some ⟨X.heap.size, 0, none⟩) 0 0) ([] : List Value).length [] := drew_own ((own_empty X T).alloc _)
theorem ownC (X : World) (o : Obj) (T : TypeId) : ((X.alloc o).alloc (.cells #[] T)).drew.ownsRow X.heap.size T 1 (.slice (some ⟨X.heap.size + 1, 0, none⟩) 0 0) ([] : List Value).length [] := by
  have h1 := own_empty (X.alloc o) T
  rw [show (X.alloc o).heap.size = X.heap.size + 1 from by simp] at h1
  exact drew_own (own_weaken' h1 (by omega))
theorem boxB (X : World) (o o' : Obj) : ((X.alloc o).alloc o').drew.heap[X.heap.size + 1]? = some o' := heap_at (X := X.alloc o) (by simp)
theorem boxC (X : World) (o o' : Obj) : ((X.alloc o).alloc o').drew.heap[X.heap.size]? = some o := heap_old (X := X.alloc o) (heap_at rfl)
/-- The rows' headers. -/
theorem RowsB.vals {w : World} {base : Nat} {A : Option Addr} {c : Nat} {L : List (List Int)} (h : RowsB w base (.slice A L.length c) L) :
    ∃ vs, RowsVN w vs L ∧ (0 < L.length → ∃ ad, A = some ad ∧ ∀ (j : Nat) u, vs[j]? = some u → w.cell? (ad.add j) = some u) := by
  obtain ⟨vs, h1, h2, h3⟩ := h
  refine ⟨vs, ⟨h1, fun j y r hy hr => ?_⟩, fun hp => ?_⟩
  · have ho := h3 j y r hy hr
    obtain ⟨A2, c2, rfl, hc, hC⟩ := ho.reads
    have hb := ho.2
    cases A2 with
    | none => exact absurd rfl hb
    | some a => exact ⟨a, c2, rfl, hc, hC⟩
  · rcases h2.2 with ⟨e, h0⟩ | ⟨g, cap, cur, e, _⟩
    · omega
    · injection e with e1
      subst e1
      exact ⟨_, rfl, fun j u hu => h2.cells (g := g) rfl j u hu⟩
/-- Fewer clauses are not answered no where more are answered yes. -/
theorem more_ans {n : Nat} {b : Int} {L L' : List (List Int)} (hs : ∀ r, r ∈ L → r ∈ L') (hn : n ≤ 1000) (hb : (3 : Int) ^ n ≤ b) (hb2 : b ≤ 100000) (hl : L.length ≤ 1000) (hl' : L'.length ≤ 1000) (hW : WfL L) (hW' : WfL L') :
    (checkI (n : Int) L ≠ 0 ∧ checkI (n : Int) L' ≠ 0) ∨ (checkI (n : Int) L = 0 ∧ checkI (n : Int) L' ≠ 0) ∨
    (checkI (n : Int) L = 0 ∧ checkI (n : Int) L' = 0 ∧ (((solveR b (n : Int) L).what = 1 ∧ (solveR b (n : Int) L').what = 1) ∨ ((solveR b (n : Int) L).what = 1 ∧ (solveR b (n : Int) L').what = 2) ∨ ((solveR b (n : Int) L).what = 2 ∧ (solveR b (n : Int) L').what = 2))) := by
  by_cases h' : checkI (n : Int) L' = 0
  · have h : checkI (n : Int) L = 0 := checkI_sub h' hs hl
    refine .inr (.inr ⟨h, h', ?_⟩)
    rcases solve_full hn h hb hb2 hl hW with ⟨v, e, _, ht⟩ | ⟨p, e, hno⟩ <;> rcases solve_full hn h' hb hb2 hl' hW' with ⟨v', e', _, ht'⟩ | ⟨p', e', hno'⟩ <;> rw [e, e']
    · exact .inl ⟨rfl, rfl⟩
    · exact .inr (.inl ⟨rfl, rfl⟩)
    · have h1 := hno v'
      have h2 := (trueB_iff _ _).1 ht'
      rw [(trueB_iff _ _).2 (fun r hr => h2 r (hs r hr))] at h1
      cases h1
    · exact .inr (.inr ⟨rfl, rfl⟩)
  · by_cases h : checkI (n : Int) L = 0
    · exact .inr (.inl ⟨h, h'⟩)
    · exact .inl ⟨h, h'⟩

set_option maxHeartbeats 8000000 in
set_option maxRecDepth 100000 in
theorem SatMore_any (n : Int) (A : Option Addr) (c : Nat) (L : List (List Int)) (nb : Int) (A1 : Option Addr) (c1 : Nat) (L1 : List (List Int)) (w : World) (hC : Kd.C kII w A L.length L) (hc : L.length ≤ c) (hW : WfL L) (hn : -9223372036854775808 ≤ n ∧ n ≤ 9223372036854775807)
    (hC1 : Kd.C kII w A1 L1.length L1) (hc1 : L1.length ≤ c1) (hW1 : WfL L1) (hn1 : -9223372036854775808 ≤ nb ∧ nb ≤ 9223372036854775807) :
    Calls Try.prog 6 #[.agg #[.int .i64 n, .slice A L.length c], .agg #[.int .i64 nb, .slice A1 L1.length c1]] w fun e w' => e = .returned (.bool true) ∧ Below w.heap.size w w' := by
  have HBd := Bound_any n A c L ((w.alloc (.cells #[.int .i64 n, .slice A L.length c] 24)).alloc (.cells #[.int .i64 nb, .slice A1 L1.length c1] 24)) (Kd.C_below hC (bel2 w _ _)) hc
  have HBd1 : Aside0 (∀ X, Below w.heap.size w X → Calls Try.prog 8 #[.agg #[.int .i64 nb, .slice A1 L1.length c1]] X fun e w' => ∃ A' c', e = .returned (.agg #[.int .i64 nb, .slice A' (boundL L1).length c']) ∧ RowsB w' X.heap.size (.slice A' (boundL L1).length c') (boundL L1) ∧ Below X.heap.size X w') := ⟨fun X hX => Bound_any nb A1 c1 L1 X (Kd.C_below hC1 hX) hc1⟩
  have HW : Aside0 (WfL (boundL L) ∧ (∀ r ∈ boundL L, r.length ≤ 12) ∧ (boundL L).length ≤ 60) := ⟨boundL_wf hW, fun r hr => boundL_row hr, boundL_len L⟩
  have HW1 : Aside0 (WfL (boundL L1) ∧ (∀ r ∈ boundL L1, r.length ≤ 12) ∧ (boundL L1).length ≤ 60) := ⟨boundL_wf hW1, fun r hr => boundL_row hr, boundL_len L1⟩
  obtain ⟨q, hq⟩ : ∃ q, min n 7 = q := ⟨_, rfl⟩
  obtain ⟨cnt, hcnt⟩ : ∃ cnt : Nat, max 0 q = (cnt : Int) := ⟨(max 0 q).toNat, by omega⟩
  have hcnt7 : cnt ≤ 7 := by omega
  have hq' : (if (7 : Int) < n then (7 : Int) else n) = q := by split <;> omega
  have hcnt' : (if (0 : Int) < q then q else 0) = (cnt : Int) := by split <;> omega
  clear hC hW hn hC1 hW1 hn1
  go_enter Try.func6, Try.ntmps6
  go_wp2_with fail
  refine HBd.mono ?_
  clear HBd
  generalize boundL L = B at *
  generalize boundL L1 = E at *
  rintro e W ⟨A', c', rfl, hS, hb⟩
  have hb0 := bel2 w (.cells #[.int .i64 n, .slice A L.length c] 24) (.cells #[.int .i64 nb, .slice A1 L1.length c1] 24)
  have hz : ((w.alloc (.cells #[.int .i64 n, .slice A L.length c] 24)).alloc (.cells #[.int .i64 nb, .slice A1 L1.length c1] 24)).heap.size = w.heap.size + 2 := by simp
  have hbox1 := (hb.block w.heap.size (by omega)).trans (box_two w _ _).1
  have hbox2 := (hb.block (w.heap.size + 1) (by omega)).trans (box_two w _ _).2
  have hbw := below_then hb0 hb0.size hb
  have HA1 := Aside0.mk (atS_store (n := n) hbox1 hS hbw (Nat.le_refl _))
  have hB1 : ((W.setCell ⟨w.heap.size, 0, none⟩ (.int .i64 n)).setCell ⟨w.heap.size, 1, none⟩ (.slice A' B.length c')).heap[w.heap.size + 1]? = some (.cells #[.int .i64 nb, .slice A1 L1.length c1] 24 (0, 0)) :=
    ((Below.heap_setCell _ ⟨w.heap.size, 1, none⟩ _ _ (show w.heap.size + 1 ≠ w.heap.size from by omega)).trans (Below.heap_setCell _ ⟨w.heap.size, 0, none⟩ _ _ (show w.heap.size + 1 ≠ w.heap.size from by omega))).trans hbox2
  obtain ⟨X1, hX1⟩ : ∃ X1, (W.setCell ⟨w.heap.size, 0, none⟩ (.int .i64 n)).setCell ⟨w.heap.size, 1, none⟩ (.slice A' B.length c') = X1 := ⟨_, rfl⟩
  rw [hX1] at HA1 hB1
  have k0 := blk_cellA hbox1 0
  have k1 := blk_cellA hbox1 1
  have l0 := blk_frozen hbox1 0
  have l1 := blk_frozen hbox1 1
  have b0 := blk_cellA hB1 0
  have b1 := blk_cellA hB1 1
  obtain ⟨k, hk⟩ : ∃ k : Nat, min B.length 40 = k := ⟨_, rfl⟩
  have hmc : B.length ≤ c' := by obtain ⟨_, _, e, h1, _⟩ := hS.reads; injection e with _ _ e; omega
  clear hS hb hb0 hz hbox1 hbox2 hbw
  go_wp2_with fail
  refine (HBd1.out X1 HA1.out.bel).mono ?_
  rintro e W2 ⟨Ab, cb, rfl, hSb, hbb⟩
  clear k0 k1 l0 l1 b0 b1 hX1 HBd1
  have HA2 := Aside0.mk (HA1.out.below hbb)
  have hboxb := (hbb.block (w.heap.size + 1) (blk_lt hB1)).trans hB1
  have HE := Aside0.mk (atS_store (n := nb) hboxb hSb HA2.out.bel (by omega))
  have HA3 := Aside0.mk (HA2.out.other2 (u := .int .i64 nb) (v := .slice Ab E.length cb) (by omega) hboxb (by omega))
  obtain ⟨X2, hX2⟩ : ∃ X2, (W2.setCell ⟨w.heap.size + 1, 0, none⟩ (.int .i64 nb)).setCell ⟨w.heap.size + 1, 1, none⟩ (.slice Ab E.length cb) = X2 := ⟨_, rfl⟩
  rw [hX2] at HE HA3
  have b0 := blk_cellA hboxb 0
  have b1 := blk_cellA hboxb 1
  have m0 := blk_frozen hboxb 0
  have m1 := blk_frozen hboxb 1
  have k0 := HA3.out.c0
  have k1 := HA3.out.c1
  have l0 := HA3.out.f0 0
  have l1 := HA3.out.f0 1
  have hbk : (B.take k).length = k := by rw [List.length_take]; omega
  have HA4 := Aside0.mk ((HA3.out.setN (cnt : Int)).setL (k := k) (by omega))
  have HE4 := Aside0.mk (HE.out.other2 (u := .int .i64 (cnt : Int)) (v := .slice A' k c') (by omega) HA3.out.blk (Nat.le_refl _))
  rw [hbk] at HA4
  clear hSb hbb hB1 hboxb HA1 HA2
  obtain ⟨m, hm⟩ : ∃ m, B.length = m := ⟨_, rfl⟩
  have HM := Aside0.mk hm
  rw [hm] at k1 hmc hk ⊢
  have hk40 : k ≤ 40 := by omega
  have hkm : k ≤ m := by omega
  have hkc : k ≤ c' := by omega
  have hm1 : min (m : Int) 40 = (k : Int) := by omega
  have hm2 : (if (40 : Int) < (m : Int) then (40 : Int) else (m : Int)) = (k : Int) := by split <;> omega
  have hkci : (k : Int) ≤ (c' : Int) := by omega
  obtain ⟨me, hme⟩ : ∃ me, E.length = me := ⟨_, rfl⟩
  have HME := Aside0.mk hme
  rw [hme] at hX2
  rw [hme]
  have HBK := Aside0.mk hbk
  obtain ⟨X3, hX3⟩ : ∃ X3, (X2.setCell ⟨w.heap.size, 0, none⟩ (.int .i64 (cnt : Int))).setCell ⟨w.heap.size, 1, none⟩ (.slice A' k c') = X3 := ⟨_, rfl⟩
  rw [hX3] at HA4 HE4
  generalize hB2 : B.take k = B2 at *
  have HW2 : Aside0 (WfL B2 ∧ (∀ r ∈ B2, r.length ≤ 12) ∧ B2.length = k) := ⟨fun r hr => HW.out.1 r (List.mem_of_mem_take (by rw [hB2]; exact hr)), fun r hr => HW.out.2.1 r (List.mem_of_mem_take (by rw [hB2]; exact hr)), HBK.out⟩
  clear hm hk hbk hme hB2
  have n0 := HA4.out.c0
  have n1 := HA4.out.c1
  rw [HW2.out.2.2] at n1
  go_wp2
  clear hX2 hX3 b0 b1 m0 m1 k0 k1 l0 l1 hq hq' hcnt hcnt' hm1 hm2 hkci hmc
  obtain ⟨vs0, HV0, hread⟩ : ∃ vs, RowsVN X3 vs B2 ∧ (0 < k → ∃ ad, A' = some ad ∧ ∀ (j : Nat) u, vs[j]? = some u → X3.cell? (ad.add j) = some u) := by
    obtain ⟨base, hr⟩ := HA4.out.rows
    obtain ⟨vs, h1, h2⟩ := hr.vals
    rw [HW2.out.2.2] at h2
    exact ⟨vs, h1, h2⟩
  have HV := Aside0.mk (And.intro HV0 hread)
  have hvk : vs0.length = k := by have := HV0.len; rw [this]; exact HW2.out.2.2
  have hglt := HA4.out.lt
  have n0a : ∀ o, (X3.alloc o).cell? ⟨w.heap.size, 0, none⟩ = some (.int .i64 (cnt : Int)) := fun o => (World.cell?_of_block (a := ⟨w.heap.size, 0, none⟩) (Below.heap_alloc X3 o _ hglt)).trans n0
  have n1a : ∀ o, (X3.alloc o).cell? ⟨w.heap.size, 1, none⟩ = some (.slice A' k c') := fun o => (World.cell?_of_block (a := ⟨w.heap.size, 1, none⟩) (Below.heap_alloc X3 o _ hglt)).trans n1
  have n0b : ∀ o o', ((X3.alloc o).alloc o').cell? ⟨w.heap.size, 0, none⟩ = some (.int .i64 (cnt : Int)) := fun o o' => (World.cell?_of_block (a := ⟨w.heap.size, 0, none⟩) (Below.heap_alloc (X3.alloc o) o' _ (by simp; omega))).trans (n0a o)
  have n1b : ∀ o o', ((X3.alloc o).alloc o').cell? ⟨w.heap.size, 1, none⟩ = some (.slice A' k c') := fun o o' => (World.cell?_of_block (a := ⟨w.heap.size, 1, none⟩) (Below.heap_alloc (X3.alloc o) o' _ (by simp; omega))).trans (n1a o)
  clear HV0 hread
  go_cut [5] (fun v5 wc => ∃ (g5 : Nat) (v : Value) (vs : List Value), v5 = .pointer (some ⟨g5, 0, none⟩) ∧ Aside0 (GrowS X3 wc X3.heap.size g5 (cnt : Int) v vs B2))
  case first =>
    go_region_law (first
      | (refine step_append_all (w0 := X3) X3.heap.size (by rfl) (.tmp 34) (.tmp 36) 22 37 (.slice none 0 0) 24 rfl Try.underlying22 infoII rfl (by decide) (.slice (some ⟨X3.heap.size, 0, none⟩) 0 0) [] A' k c' vs0 rfl rfl (by simp) HV.out.1.one
          (by first | exact ownA X3 _ | exact ownB X3 _ _) hvk (by omega) (fun hp => by
            obtain ⟨ad, e, h9⟩ := HV.out.2 hp
            exact ⟨ad, e, fun j u hu => (((by (repeat' (first | exact Below.refl _ _ | refine pw_below_drewN ?_ _ | refine below_drew ?_ | refine below_alloc ?_ _))) : Below X3.heap.size X3 _).cell (World.block_lt_of_cell? X3 _ (h9 j u hu))).trans (h9 j u hu)⟩)
          (by (repeat' (first | exact Below.refl _ _ | refine pw_below_drewN ?_ _ | refine below_drew ?_ | refine below_alloc ?_ _))) (by simp <;> omega) (by simp only [List.length_nil]; omega) ?_; intro v3 w3 hown hb3 hg3 hat3; rw [List.nil_append, hvk] at hown; obtain ⟨A3, c3, rfl⟩ := own_slice hown
         have x0 := (hb3.cell (p := ⟨w.heap.size, 0, none⟩) hglt).trans n0
         have x0a : ∀ o, (w3.alloc o).cell? ⟨w.heap.size, 0, none⟩ = some (.int .i64 (cnt : Int)) := (fun o => (World.cell?_of_block (a := ⟨w.heap.size, 0, none⟩) (Below.heap_alloc w3 o _ (Nat.lt_of_lt_of_le hglt hb3.size))).trans x0)
         first
           | (have hbx := hg3.block (X3.heap.size + 1)
              rw [boxB X3 _ (.cells #[.int .i64 0, .slice none 0 0] 24)] at hbx
              have hbx := hbx (by simp <;> omega) (by simp [Value.ownBlock])
              have y0 := blk_cellA hbx 0
              have y1 := blk_cellA hbx 1
              have z0 := blk_frozen hbx 0
              have z1 := blk_frozen hbx 1)
           | skip)
      | (refine step_append_all (w0 := X3) X3.heap.size (by rfl) (.tmp 34) (.tmp 36) 22 37 (.slice none 0 0) 24 rfl Try.underlying22 infoII rfl (by decide) (.slice (some ⟨X3.heap.size + 1, 0, none⟩) 0 0) [] A' k c' vs0 rfl rfl (by simp) HV.out.1.one
          (ownC X3 _ _) hvk (by omega) (fun hp => by
            obtain ⟨ad, e, h9⟩ := HV.out.2 hp
            exact ⟨ad, e, fun j u hu => (((by (repeat' (first | exact Below.refl _ _ | refine pw_below_drewN ?_ _ | refine below_drew ?_ | refine below_alloc ?_ _))) : Below X3.heap.size X3 _).cell (World.block_lt_of_cell? X3 _ (h9 j u hu))).trans (h9 j u hu)⟩)
          (by (repeat' (first | exact Below.refl _ _ | refine pw_below_drewN ?_ _ | refine below_drew ?_ | refine below_alloc ?_ _))) (by simp <;> omega) (by simp only [List.length_nil]; omega) ?_; intro v3 w3 hown hb3 hg3 hat3; rw [List.nil_append, hvk] at hown; obtain ⟨A3, c3, rfl⟩ := own_slice hown
         have x0 := (hb3.cell (p := ⟨w.heap.size, 0, none⟩) hglt).trans n0
         have x0a : ∀ o, (w3.alloc o).cell? ⟨w.heap.size, 0, none⟩ = some (.int .i64 (cnt : Int)) := (fun o => (World.cell?_of_block (a := ⟨w.heap.size, 0, none⟩) (Below.heap_alloc w3 o _ (Nat.lt_of_lt_of_le hglt hb3.size))).trans x0)
         first
           | (have hbx := hg3.block (X3.heap.size)
              rw [boxC X3 (.cells #[.int .i64 0, .slice none 0 0] 24) _] at hbx
              have hbx := hbx (by simp <;> omega) (by simp [Value.ownBlock])
              have y0 := blk_cellA hbx 0
              have y1 := blk_cellA hbx 1
              have z0 := blk_frozen hbx 0
              have z1 := blk_frozen hbx 1)))
    all_goals (
      (try go_wp2)
      go_meet
      first
        | exact ⟨_, _, vs0, rfl, ⟨GrowS.fresh (by rw [hvk]; exact hown) hb3 HV.out.1 hb3.size (Nat.le_refl _)⟩⟩
        | exact ⟨_, _, vs0, rfl, ⟨GrowS.both hbx (by rw [hvk]; exact hown) hb3 HV.out.1 (by omega) (Nat.le_refl _)⟩⟩)
  case rest =>
    obtain ⟨g5, v5, vs5, rfl, HG5⟩ := hcut
    clear n0 n1 n0a n1a n0b n1b HV hvk
    have HRE := Aside0.mk (HE4.out.rowsN HW1.out.2.1)
    have HRB := Aside0.mk (HA4.out.rowsN HW2.out.2.1)
    have HKX := Aside0.mk (And.intro HE4.out.c1 (And.intro HA4.out.c0 HA4.out.c1))
    obtain ⟨kb, hkb⟩ : ∃ kb : Nat, min me 40 = kb := ⟨_, rfl⟩
    have hme60 : me ≤ 60 := by have := HW1.out.2.2; rw [HME.out] at this; exact this
    go_wp2
    go_loopg [6] kb (fun gg s6 wr => ∃ (i : Nat) (v : Value) (vs : List Value), i + gg = kb ∧ s6 = .int .i64 (i : Int) ∧ vs.length ≤ k + i ∧ Aside0 (GrowS X3 wr X3.heap.size g5 (cnt : Int) v vs (B2 ++ E.take i)))
    case atStart => exact ⟨0, v5, vs5, by omega, rfl, (by have := HG5.out.vals.len; rw [HW2.out.2.2] at this; omega), ⟨by simpa using HG5.out⟩⟩
    case round =>
      obtain ⟨i, v, vs, hig, rfl, hvl, HI⟩ := hrel
      clear HG5
      have hbX := HI.out.bel
      have e1 := (hbX.cell (World.block_lt_of_cell? X3 _ HKX.out.1)).trans HKX.out.1
      rw [HME.out] at e1
      have HBX := Aside0.mk hbX
      clear hbX
      match gk, hig with
      | 0, hig =>
        have hi40 : i ≤ 40 := by omega
        have hcase : (me ≤ 40 ∧ i = me) ∨ (40 < me ∧ i = 40) := by omega
        have hsub : ∀ r, r ∈ B2 → r ∈ B2 ++ E.take i := fun r hr => List.mem_append.2 (.inl hr)
        have hof : ∀ r ∈ B2 ++ E.take i, r.length ≤ 12 ∧ Wf r := fun r hr => by
          rcases List.mem_append.1 hr with h | h
          · exact ⟨HW2.out.2.1 r h, HW2.out.1 r h⟩
          · exact ⟨HW1.out.2.1 r (List.mem_of_mem_take h), HW1.out.1 r (List.mem_of_mem_take h)⟩
        have hDl : (B2 ++ E.take i).length ≤ 80 := by
          rw [List.length_append, HW2.out.2.2]
          have := List.length_take_le i E
          omega
        have HG := HI.out
        obtain ⟨D, hD⟩ : ∃ D, B2 ++ E.take i = D := ⟨_, rfl⟩
        rw [hD] at HG hsub hof hDl
        obtain ⟨Av, cv, rfl, hRD⟩ := HG.vals.rowsN HBX.out HG.own (fun l hl => by have := (hof l hl).1; omega)
        have hWD : WfL D := fun r hr => (hof r hr).2
        have hmore := more_ans (n := cnt) (b := 2187) hsub (by omega) (pow3 hcnt7 (by decide)) (by omega) (by rw [HW2.out.2.2]; omega) (by omega) HW2.out.1 hWD
        have HSa := Solve_any (cnt : Int) 2187 A' c' B2 wr (HRB.out.below HBX.out) (by omega) (by omega) (by rw [HW2.out.2.2]; omega) HW2.out.1
        have HSd := Aside0.mk (fun (W' : World) (hb : Below wr.heap.size wr W') => Solve_any (cnt : Int) 2187 Av cv D W' (hRD.below hb) (by omega) (by omega) (by omega) hWD)
        have d0 := HG.c0
        have d1 := HG.c1
        have hg5l := blk_lt HG.blk
        have q0 := (HBX.out.cell (World.block_lt_of_cell? X3 _ HKX.out.2.1)).trans HKX.out.2.1
        have q1 := (HBX.out.cell (World.block_lt_of_cell? X3 _ HKX.out.2.2)).trans HKX.out.2.2
        rw [HW2.out.2.2] at HSa q1
        obtain ⟨dl, hdl⟩ : ∃ dl, D.length = dl := ⟨_, rfl⟩
        rw [hdl] at HSd d1
        have HBw := Aside0.mk (below_then HA4.out.bel HA4.out.bel.size HBX.out)
        generalize solveR 2187 (cnt : Int) D = r2 at *
        generalize solveR 2187 (cnt : Int) B2 = r1 at *
        generalize checkI (cnt : Int) B2 = ck at *
        generalize checkI (cnt : Int) D = ck2 at *
        obtain ⟨what, vals, pf⟩ := r1
        obtain ⟨what2, vals2, pf2⟩ := r2
        have HMo := Aside0.mk hmore
        clear hmore hsub hof hDl HG hD hRD hWD hdl HI
        rcases hcase with ⟨h1, h2⟩ | ⟨h1, h2⟩
        · have f1 : decide ((i : Int) < (me : Int)) = false := by simp; omega
          have f2 : decide (i < me) = false := by simp; omega
          go_wp2_with fail
          refine HSa.mono ?_
          rintro e w5 ⟨A5, c5, A6, c6, rfl, -, -, -, -, hb5⟩
          have d0' := (hb5.cell (p := ⟨g5, 0, none⟩) hg5l).trans d0
          have d1' := (hb5.cell (p := ⟨g5, 1, none⟩) hg5l).trans d1
          have HB5 := Aside0.mk hb5
          clear HSa hb5
          go_wp2_with fail
          refine (HSd.out w5 HB5.out).mono ?_
          rintro e w6 ⟨A7, c7, A8, c8, rfl, -, -, -, -, hb6⟩
          have HB6 := Aside0.mk (below_then HBw.out HBw.out.size (below_then HB5.out HB5.out.size hb6))
          clear HSd hb6 d0' d1'
          rcases HMo.out with ⟨c0a, c0b⟩ | ⟨c0a, c0b⟩ | ⟨c0a, c0b, hw⟩
          · have x1 : (ck != 0) = true := by simpa using c0a
            have x2 : (ck2 != 0) = true := by simpa using c0b
            have x3 : (ck == 0) = false := by simpa using c0a
            go_wp2_with (go_at_call 12; refine (fixed_any _).mono ?_; rintro e w7 ⟨rfl, hb7⟩; have HB7 := Aside0.mk (below_then HB6.out HB6.out.size hb7); clear hb7)
            go_ret
            exact ⟨rfl, HB7.out⟩
          · subst c0a
            have x2 : (ck2 != 0) = true := by simpa using c0b
            go_wp2_with (go_at_call 12; refine (fixed_any _).mono ?_; rintro e w7 ⟨rfl, hb7⟩; have HB7 := Aside0.mk (below_then HB6.out HB6.out.size hb7); clear hb7)
            go_ret
            exact ⟨rfl, HB7.out⟩
          · subst c0a c0b
            rcases hw with ⟨hw1, hw2⟩ | ⟨hw1, hw2⟩ | ⟨hw1, hw2⟩ <;> subst hw1 hw2
            all_goals (
              go_wp2_with (go_at_call 12; refine (fixed_any _).mono ?_; rintro e w7 ⟨rfl, hb7⟩; have HB7 := Aside0.mk (below_then HB6.out HB6.out.size hb7); clear hb7)
              go_ret
              exact ⟨rfl, HB7.out⟩)
        · have f1 : decide ((i : Int) < (me : Int)) = true := by simp; omega
          have f2 : decide (i < me) = true := by simp; omega
          have f3 : decide ((i : Int) < (40 : Int)) = false := by simp; omega
          have f4 : decide (i < 40) = false := by simp; omega
          go_wp2_with fail
          refine HSa.mono ?_
          rintro e w5 ⟨A5, c5, A6, c6, rfl, -, -, -, -, hb5⟩
          have d0' := (hb5.cell (p := ⟨g5, 0, none⟩) hg5l).trans d0
          have d1' := (hb5.cell (p := ⟨g5, 1, none⟩) hg5l).trans d1
          have HB5 := Aside0.mk hb5
          clear HSa hb5
          go_wp2_with fail
          refine (HSd.out w5 HB5.out).mono ?_
          rintro e w6 ⟨A7, c7, A8, c8, rfl, -, -, -, -, hb6⟩
          have HB6 := Aside0.mk (below_then HBw.out HBw.out.size (below_then HB5.out HB5.out.size hb6))
          clear HSd hb6 d0' d1'
          rcases HMo.out with ⟨c0a, c0b⟩ | ⟨c0a, c0b⟩ | ⟨c0a, c0b, hw⟩
          · have x1 : (ck != 0) = true := by simpa using c0a
            have x2 : (ck2 != 0) = true := by simpa using c0b
            have x3 : (ck == 0) = false := by simpa using c0a
            go_wp2_with (go_at_call 12; refine (fixed_any _).mono ?_; rintro e w7 ⟨rfl, hb7⟩; have HB7 := Aside0.mk (below_then HB6.out HB6.out.size hb7); clear hb7)
            go_ret
            exact ⟨rfl, HB7.out⟩
          · subst c0a
            have x2 : (ck2 != 0) = true := by simpa using c0b
            go_wp2_with (go_at_call 12; refine (fixed_any _).mono ?_; rintro e w7 ⟨rfl, hb7⟩; have HB7 := Aside0.mk (below_then HB6.out HB6.out.size hb7); clear hb7)
            go_ret
            exact ⟨rfl, HB7.out⟩
          · subst c0a c0b
            rcases hw with ⟨hw1, hw2⟩ | ⟨hw1, hw2⟩ | ⟨hw1, hw2⟩ <;> subst hw1 hw2
            all_goals (
              go_wp2_with (go_at_call 12; refine (fixed_any _).mono ?_; rintro e w7 ⟨rfl, hb7⟩; have HB7 := Aside0.mk (below_then HB6.out HB6.out.size hb7); clear hb7)
              go_ret
              exact ⟨rfl, HB7.out⟩)
      | g' + 1, hig =>
        have hlt : decide ((i : Int) < (me : Int)) = true := by simp; omega
        have hlt2 : decide (i < me) = true := by simp; omega
        have hlt3 : (i : Int) < (me : Int) := by omega
        have hlt5 : decide ((i : Int) < (40 : Int)) = true := by simp; omega
        have hlt6 : decide (i < 40) = true := by simp; omega
        obtain ⟨l, hl⟩ : ∃ l, E[i]? = some l := ⟨E[i]'(by rw [HME.out]; omega), List.getElem?_eq_getElem _⟩
        obtain ⟨b, off, ad, cc, rfl, hcell, hcc, hCl⟩ := HRE.out.row hl
        have hcw : wr.cell? ⟨b, off + i, none⟩ = some (.slice (some ad) l.length cc) := (HBX.out.cell (World.block_lt_of_cell? X3 _ hcell)).trans hcell
        have htake : E.take (i + 1) = E.take i ++ [l] := by
          obtain ⟨q1, q2⟩ := List.getElem?_eq_some_iff.1 hl
          rw [List.take_succ_eq_append_getElem q1, q2]
        have HT := Aside0.mk (And.intro htake (And.intro hcc hCl))
        have hDl : vs.length ≤ 90 := by omega
        clear hl hcell hcc hCl htake
        go_wp2
        obtain ⟨Ava, cva, eva⟩ := own_slice HI.out.own
        have EVa := Aside0.mk eva
        have hv1a := HI.out.c1
        have hf1a := HI.out.f1
        have hlta := blk_lt HI.out.blk
        obtain ⟨nva, hnva⟩ : ∃ nv, vs.length = nv := ⟨_, rfl⟩
        have NVa := Aside0.mk hnva
        have hnba : nva ≤ 1000 := by rw [← hnva]; omega
        rw [eva, hnva] at hv1a
        have hvca : ∀ o, (wr.alloc o).cell? ⟨g5, 1, none⟩ = some (.slice Ava nva cva) := fun o => (World.cell?_of_block (a := ⟨g5, 1, none⟩) (Below.heap_alloc wr o g5 hlta)).trans hv1a
        have hcae1 : ∀ o, (wr.alloc o).cell? ⟨w.heap.size + 1, 1, none⟩ = some (.slice (some ⟨b, off, none⟩) me cb) := fun o => (World.cell?_of_block (a := ⟨w.heap.size + 1, 1, none⟩) (Below.heap_alloc wr o _ (World.block_lt_of_cell? wr _ e1))).trans e1
        have hcahcw : ∀ o, (wr.alloc o).cell? ⟨b, off + i, none⟩ = some (.slice (some ad) l.length cc) := fun o => (World.cell?_of_block (a := ⟨b, off + i, none⟩) (Below.heap_alloc wr o _ (World.block_lt_of_cell? wr _ hcw))).trans hcw
        clear eva hnva
        go_wp2
        go_region_law (first
          | (refine step_append_all (w0 := X3) X3.heap.size (by rfl) (.tmp 51) (.tmp 57) 22 37 (.slice none 0 0) 24 rfl Try.underlying22 infoII rfl (by decide) (.slice Ava nva cva) vs (some ⟨wr.heap.size, 0, none⟩) 1 1 [Value.slice (some ad) l.length cc] rfl rfl HI.out.vals.one (by simp [Value.oneCell'])
              (by have h1 := HI.out.own; rw [EVa.out, NVa.out] at h1; rw [NVa.out]; exact pw_own_below h1 (by (repeat' (first | exact Below.refl _ _ | refine pw_below_drewN ?_ _ | refine below_drew ?_ | refine below_alloc ?_ _)))) rfl (by omega) (fun _ => ⟨_, rfl, World.news_of_block (cs := #[Value.slice (some ad) l.length cc]) (t := 37) (fr := (0, 0)) (heap_alloc_new wr _)⟩)
              (below_then HI.out.bel (Nat.le_trans HI.out.b0 HI.out.bel.size) (by (repeat' (first | exact Below.refl _ _ | refine pw_below_drewN ?_ _ | refine below_drew ?_ | refine below_alloc ?_ _)))) (by have h1 := Nat.le_trans HI.out.b0 HI.out.bel.size; simp; omega) (by rw [NVa.out]; omega) ?_; intro v3a w3a howna hb3a hg3a hat3a; have hgxa := hg3a; rw [← NVa.out, ← EVa.out] at hgxa; have hcha := HI.out.kept (w3 := w3a) (by (repeat' (first | exact Below.refl _ _ | refine pw_below_drewN ?_ _ | refine below_drew ?_ | refine below_alloc ?_ _))) hgxa; have x1a := (World.cell?_of_block (a := ⟨g5, 1, none⟩) hcha).trans hv1a; have x2a := (World.frozen?_of_block (a := ⟨g5, 1, none⟩) hcha).trans hf1a; have HXa := Aside0.mk (HI.out.step (w3 := w3a) (by (repeat' (first | exact Below.refl _ _ | refine pw_below_drewN ?_ _ | refine below_drew ?_ | refine below_alloc ?_ _))) hgxa HT.out.2.1 HT.out.2.2 (by first | exact howna | (rw [List.length_append]; exact howna)) hb3a); obtain ⟨g3a, cap3a, rfl⟩ := own_succ (k := nva) (by rw [List.length_append, NVa.out] at howna; exact howna); clear howna hb3a hg3a hat3a hcha hgxa))
        all_goals (
          have HN := Aside0.mk (show GrowS X3 _ X3.heap.size g5 (cnt : Int) _ _ (B2 ++ E.take (i + 1)) from by
            have h1 := HXa.out
            rw [List.append_assoc, ← HT.out.1] at h1
            exact h1)
          clear x1a x2a hv1a hf1a hlta hvca hcae1 hcahcw HXa
          go_wp2
          go_roundg g'
          case measure => omega
          case rel => exact ⟨i + 1, _, _, by omega, by go_num, by simp; omega, HN⟩)
end Go.Proofs.Ytbagcbiekpopbaa

namespace Go.Proofs.Ytbagcbiekpopbaa
open Go.ChangeShapes Go.WideShapes Go.ChangeAt Go.RowKit Go.Proofs.YtbagcbiekpopbaaW.PrintWords Go.Proofs.YtbagcbiekpopbaaW.PrintLast
set_option linter.unusedVariables false
set_option linter.unusedSimpArgs false
set_option linter.constructorNameAsVariable false
set_option maxRecDepth 100000

theorem satMore_reads (os : Os) {H : Type} (enc : TypeId × Value → H) :
    ∃ ds, ∃ places, DataW.whole enc Try.prog ((World.doorLaid Try.prog 400 os).forCall (fun _ _ => 0) ⟨#[], #[.agg #[.int .i64 0, .slice none 0 0], .agg #[.int .i64 0, .slice none 0 0]], []⟩).memory Try.f6.params.toList Rows.satMoreSpec.vars false (#[.agg #[.int .i64 0, .slice none 0 0], .agg #[.int .i64 0, .slice none 0 0]] : Array Value).toList 8 = some ([.agg [.lit (.int .i64 0), .nil], .agg [.lit (.int .i64 0), .nil]], ds, places) :=
  ⟨[], [], by kernel_rfl⟩
theorem satMore_lifted (os : Os) (started : os.Started) (H : Type) (enc : TypeId × Value → H) (F : Stop.Interp) :
    ReturnsInHanded {} Try.checked os 6 .any ((OpenSpec.ofChange Rows.satMoreSpec).preRow enc Try.prog Try.f6 Rows.satMoreRow.domain false Rows.satMoreRow.laid) (((OpenSpec.ofChange Rows.satMoreSpec).at F).post enc Try.prog Try.f6 false true false false) := by
  obtain ⟨gs0, places, hx⟩ := satMore_reads os enc
  refine returnsInHanded_of_row (C := Try.checked) (s := OpenSpec.ofChange Rows.satMoreSpec) own started (by kernel_rfl) Try.func6
    (witness_row_atRef (enc := enc) (C := Try.checked) false (World.doorLaid Try.prog 400 os) #[.agg #[.int .i64 0, .slice none 0 0], .agg #[.int .i64 0, .slice none 0 0]] rfl (by kernel_rfl) (by kernel_rfl) (by kernel_rfl)
      (OpenSpec.preRow_of_cond 8 hx (by kernel_rfl) (fun k hk => by cases hk) (by kernel_rfl) (door_met os _))) ?_
  intro W base args ds gs before hval0 hW _ _ _ hL hsh _
  have hval : ∀ (j : Nat) t v, Try.f6.params[j]? = some t → args[j]? = some v → Value.okWide Try.prog W .any base t v := hval0
  have hW' := hW
  obtain ⟨p, q, hA0, hV, rfl, hfz, hnd⟩ := hW
  have hA : DataW.TrodAll enc Try.prog W 0 (fun _ => true) true Try.f6.params.toList args.toList ds p := hA0
  rw [Try.params6] at hA hval
  obtain ⟨v0, v1, d0, d1, p0, p1, rfl, rfl, rfl, h0, h1⟩ := trodAll_two hA
  obtain ⟨rfl, rfl⟩ := trodVars_none hV
  clear hA0 hval0
  simp only [List.append_nil] at hW'
  have hlt : ∀ x ∈ p0 ++ p1, x.block < W.heap.size := fun x hx => by simpa using hW'.lt x (by simpa using hx)
  obtain ⟨n0, A0, c0, L0, rfl, hn0, hC0, hc0, hWf0⟩ := openCnf (hval 0 24 v0 rfl rfl) h0
  obtain ⟨n1, A1, c1, L1, rfl, hn1, hC1, hc1, hWf1⟩ := openCnf (hval 1 24 v1 rfl rfl) h1
  refine (SatMore_any n0 A0 c0 L0 n1 A1 c1 L1 W hC0 hc0 hWf0 hn0 hC1 hc1 hWf1 hn1).mono ?_
  rintro e W' ⟨rfl, hb⟩
  exact ⟨_, rfl, _, _, _, [], _, [], hW', trodAll_mk1 (shut_bool Try.underlying4 _), trodAll_mk2 (Below.trod laidOut (by kernel_rfl) (of_decide_eq_true (by kernel_rfl)) h0 hb (fun x hx => hlt x (List.mem_append.2 (.inl hx)))) (Below.trod laidOut (by kernel_rfl) (of_decide_eq_true (by kernel_rfl)) h1 hb (fun x hx => hlt x (List.mem_append.2 (.inr hx)))), rfl, hb.frame _, fun h => by cases h⟩
theorem satMore_said : Rows.SatMoreSaid :=
  OpenClaim.holds_of_cond 6 Try.f6 rfl rfl rfl rfl rfl rfl rfl ⟨rfl, rfl, rfl, rfl, rfl⟩ rfl rfl rfl rfl rfl (by kernel_rfl) Try.func6 (by kernel_rfl)
    (of_decide_eq_true (by kernel_rfl)) (by unfold Func.isWrapper; first | (rw [if_pos (by decide +kernel)]; kernel_rfl) | (rw [if_neg (by decide +kernel)]; exact ⟨rfl, rfl⟩))
    (fun os started H enc _ F => by rw [OpenClaim.pre_eq_preRow]; exact satMore_lifted os started H enc F)
#print axioms satMore_said
end Go.Proofs.Ytbagcbiekpopbaa
