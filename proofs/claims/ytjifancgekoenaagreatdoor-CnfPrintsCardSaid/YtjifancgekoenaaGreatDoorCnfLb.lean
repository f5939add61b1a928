import Derived.Test.YtjifancgekoenaaGreatDoorCnfK
namespace Go.Proofs.YtjifancgekoenaaGreatDoor
open Go.RowKit Go.Proofs.YtjifancgekoenaaGreatDoorW.PrintWords Go.Proofs.YtjifancgekoenaaGreatDoorW.PrintLast
set_option linter.unusedVariables false
set_option linter.unusedSimpArgs false

theorem below_after {a w1 w2 : World} {B : Nat} (h : Below B a w1) (hb : Below w1.heap.size w1 w2) (hB : B ≤ a.heap.size) : Below B a w2 := h.trans (hb.mono (Nat.le_trans hB h.size))
theorem C_take {α : Type} {d : Kd α} {w : World} {A : Option Addr} {n k : Nat} {xs : List α} (h : d.C w A n xs) (hk : k ≤ n) : d.C w A k (xs.take k) := by
  obtain ⟨h1, h2, h3⟩ := h
  refine ⟨by rw [List.length_take]; omega, by omega, fun hp => ?_⟩
  obtain ⟨ad, e, h4⟩ := h3 (by omega)
  refine ⟨ad, e, fun j p hj => h4 j p ?_⟩
  have hjl := (List.getElem?_eq_some_iff.1 hj).1
  rw [List.length_take] at hjl
  rw [List.getElem?_take_of_lt (by omega)] at hj
  exact hj
theorem own_empty (w : World) (t : TypeId) : (w.alloc (.cells #[] t)).ownsRow w.heap.size t 1 (.slice (some ⟨w.heap.size, 0, none⟩) 0 0) 0 [] :=
  ⟨rfl, .inr ⟨w.heap.size, 0, #[], rfl, Nat.le_refl _, heap_alloc_new w _, Nat.le_refl _, Nat.zero_le _, rfl, rfl⟩⟩
/-- A row of whole numbers that the call made; a row of such rows. -/
def OwnR (w : World) (base : Nat) (v : Value) (r : List Int) : Prop := w.ownsRow base 3 1 v r.length (nums .i64 r)
def RowsB (w : World) (base : Nat) (v : Value) (L : List (List Int)) : Prop :=
  ∃ vs : List Value, vs.length = L.length ∧ w.ownsRow base 22 1 v L.length vs ∧ ∀ (j : Nat) y r, vs[j]? = some y → L[j]? = some r → OwnR w base y r
theorem OwnR.reads {w : World} {base : Nat} {v : Value} {r : List Int} (h : OwnR w base v r) : ∃ A c, v = .slice A r.length c ∧ r.length ≤ c ∧ Kd.C kI w A r.length r := by
  rcases h.2 with ⟨rfl, h0⟩ | ⟨g, cap, cur, rfl, _, _, h3, h4, _⟩
  · have : r = [] := List.eq_nil_of_length_eq_zero h0
    subst this
    exact ⟨none, 0, rfl, Nat.le_refl _, Kd.C_nil _ _⟩
  · refine ⟨_, cap, rfl, h3, C_of_cells (by unfold maxLen at h4; omega) (fun j y hj => ?_)⟩
    have := h.cells (g := g) rfl j (.int .i64 y) (by
      unfold nums
      rw [List.getElem?_map, hj]; rfl)
    rw [add_plain] at this
    simpa using this
theorem RowsB.below {w w' : World} {base : Nat} {v : Value} {L : List (List Int)} (h : RowsB w base v L) (hb : Below w.heap.size w w') : RowsB w' base v L := by
  obtain ⟨vs, h1, h2, h3⟩ := h
  exact ⟨vs, h1, pw_own_below h2 hb, fun j y r hy hr => pw_own_below (h3 j y r hy hr) hb⟩
theorem RowsB.snoc {w w1 : World} {base : Nat} {v v1 y : Value} {L : List (List Int)} {vs : List Value} {r : List Int} (h1 : vs.length = L.length) (h2 : w.ownsRow base 22 1 v L.length vs)
    (h3 : ∀ (j : Nat) y r, vs[j]? = some y → L[j]? = some r → OwnR w base y r) (hy : OwnR w base y r) (ho : w1.ownsRow base 22 1 v1 (vs ++ [y]).length (vs ++ [y])) (hg : w.grownBy w1 v.ownBlock) : RowsB w1 base v1 (L ++ [r]) := by
  have other : ∀ y r, OwnR w base y r → OwnR w1 base y r := fun y r h => own_other h hg (own_type_ne h h2 (by decide))
  refine ⟨vs ++ [y], by simp [h1], by rw [show (L ++ [r]).length = (vs ++ [y]).length from by simp [h1]]; exact ho, fun j y' r' hy' hr' => ?_⟩
  rcases Nat.lt_or_ge j L.length with hj | hj
  · rw [List.getElem?_append_left (by omega)] at hy'
    rw [List.getElem?_append_left hj] at hr'
    exact other _ _ (h3 j y' r' hy' hr')
  · have hj2 := (List.getElem?_eq_some_iff.1 hr').1
    simp only [List.length_append, List.length_cons, List.length_nil] at hj2
    obtain rfl : j = L.length := by omega
    simp at hr'
    rw [← h1] at hy'
    simp at hy'
    subst hr' hy'
    exact other _ _ hy
theorem RowsB.reads {w : World} {base : Nat} {v : Value} {L : List (List Int)} (h : RowsB w base v L) : ∃ A c, v = .slice A L.length c ∧ L.length ≤ c ∧ Kd.C kII w A L.length L := by
  obtain ⟨vs, h1, h2, h3⟩ := h
  rcases h2.2 with ⟨rfl, h0⟩ | ⟨g, cap, cur, rfl, _, _, h4, h5, _⟩
  · have : L = [] := List.eq_nil_of_length_eq_zero h0
    subst this
    exact ⟨none, 0, rfl, Nat.le_refl _, Kd.C_nil _ _⟩
  · refine ⟨_, cap, rfl, by omega, CII_of_cells (by unfold maxLen at h5; omega) (fun j r hj => ?_)⟩
    have hjl := (List.getElem?_eq_some_iff.1 hj).1
    obtain ⟨y, hy⟩ : ∃ y, vs[j]? = some y := ⟨_, List.getElem?_eq_getElem (by omega)⟩
    obtain ⟨A, c, rfl, hc, hC⟩ := (h3 j y r hy hj).reads
    have := h2.cells (g := g) rfl j _ hy
    rw [add_plain] at this
    exact ⟨A, c, by simpa using this, hc, hC⟩
/-- Nothing of it turns by what is done to a block of another type. -/
theorem RowsB.moved {w w1 : World} {base : Nat} {v : Value} {L : List (List Int)} (h : RowsB w base v L) (hm : ∀ k : Nat, (∃ cells t, w.heap[k]? = some (.cells cells t (0, 0)) ∧ t ≠ 28) → w1.heap[k]? = w.heap[k]?) : RowsB w1 base v L := by
  have mv : ∀ {e n : Nat} {u : Value} {xs : List Value}, e ≠ 28 → w.ownsRow base e 1 u n xs → w1.ownsRow base e 1 u n xs := by
    rintro e n u xs he ⟨h1, h2⟩
    refine ⟨h1, ?_⟩
    rcases h2 with h2 | ⟨g, cap, cur, rfl, hg, hh, r⟩
    · exact .inl h2
    · exact .inr ⟨g, cap, cur, rfl, hg, (hm g ⟨_, _, hh, he⟩).trans hh, r⟩
  obtain ⟨vs, h1, h2, h3⟩ := h
  exact ⟨vs, h1, mv (by decide) h2, fun j y r hy hr => mv (by decide) (h3 j y r hy hr)⟩

/-! append of a whole row at a step of a region that draws -/
theorem raw_reps : ∀ (vs : List Value) (P : Value → Prop), (∀ u ∈ vs, u.oneCell' = true) → ∀ (w : World) (base : Nat) (ok : Nat → Prop), Reps ((Kd.raw 1).M w base ok) 1 (vs.map fun u => [u]) vs := by
  intro vs P h w base ok
  refine ⟨by simp, fun j p hj => ?_⟩
  rw [List.getElem?_map] at hj
  obtain ⟨u, hu, rfl⟩ := Option.map_eq_some_iff.1 hj
  have hjl := (List.getElem?_eq_some_iff.1 hu).1
  have e : (vs.drop (j * 1)).take 1 = [u] := by
    rw [Nat.mul_one, List.drop_eq_getElem_cons hjl]
    have := (List.getElem?_eq_some_iff.1 hu).2
    simp [this]
  rw [e]
  refine ⟨rfl, rfl, fun x hx => ?_⟩
  simp at hx; subst hx; exact h _ (List.mem_of_getElem? hu)
theorem reps_raw {vs inner : List Value} {w : World} {base : Nat} {ok : Nat → Prop} (h : Reps ((Kd.raw 1).M w base ok) 1 (vs.map fun u => [u]) inner) : inner = vs := by
  obtain ⟨h1, h2⟩ := h
  simp at h1
  apply List.ext_getElem h1
  intro j hj hj2
  have := (h2 j [vs[j]] (by simp [hj2])).1
  rw [Nat.mul_one, List.drop_eq_getElem_cons hj] at this
  simp only [List.take_succ_cons, List.take_zero] at this
  exact (List.cons.inj this).1
theorem step_append_all {P : Program} {ops : Array Oper} {o : Oper} {a : Act} {Q : Exit → Act → World → Prop} {Kc : Act → World → Prop} {w0 W : World} (base : Nat) (hw : Region.wanted o (yielded ops a.tmps) = true) (s x : Operand) (t e : TypeId) (z : Value) (bytes : Nat)
    (ho : o.op = .call { callee := .builtin .append, args := #[s, x], argTypes := #[t, t] })
    (ht : P.underlying t = some (.slice e)) (hinfo : (P.info? e).map (fun i => (i.zero, i.size, i.bytes)) = some (some z, 1, bytes)) (hz : z.cells.size = 1) (hb0 : 0 < bytes)
    (v : Value) (xs : List Value) (A : Option Addr) (m c : Nat) (ys : List Value) (hs : a.eval s = v) (hx : a.eval x = .slice A m c) (hxs : ∀ u ∈ xs, u.oneCell' = true) (hone : ∀ u ∈ ys, u.oneCell' = true)
    (HO : W.ownsRow base e 1 v xs.length xs) (hlen : ys.length = m) (hm9 : m ≤ 9223372036854775807) (hys : 0 < m → ∃ ad, A = some ad ∧ ∀ j u, ys[j]? = some u → W.cell? (ad.add j) = some u)
    (HB : Below base w0 W) (hbase : base ≤ W.heap.size) (hl : (xs.length + m) * bytes ≤ 140737488355328)
    (h : ∀ v1 w1, w1.ownsRow base e 1 v1 (xs ++ ys).length (xs ++ ys) → Below base w0 w1 → W.grownBy w1 v.ownBlock → (v1.ownBlock = v.ownBlock ∨ ∃ b, v1.ownBlock = some b ∧ W.heap.size ≤ b) → Kc (a.put o.dst v1) w1) :
    if Region.wanted o (yielded ops a.tmps) = true then Oper.wp P o a W Kc Q else Kc (a.put o.dst undef) W := by
  refine Kd.R_append_rows_step (Kd.raw 1) (w0 := w0) base hw s x t e z bytes ho ht hinfo hz (by decide) hb0 v (xs.map fun u => [u]) (ys.map fun u => [u]) A m c (fun _ => True) (fun _ => False) hs hx
    ⟨fun _ _ => trivial, xs, by rw [List.length_map]; exact HO, raw_reps xs (fun _ => True) hxs _ _ _⟩ (Rr := (Kd.raw 1).M W base (fun _ => False)) ?_ (fun _ _ h => h) (fun _ h => h.elim) (fun _ _ => trivial) HB hbase (by rw [List.length_map]; exact hl) ?_
  · refine ⟨by rw [List.length_map]; exact hlen, hm9, fun hp => ?_⟩
    obtain ⟨ad, hA, hc⟩ := hys hp
    refine ⟨ad, hA, fun j p hj => ?_⟩
    rw [List.getElem?_map] at hj
    obtain ⟨u, hu, rfl⟩ := Option.map_eq_some_iff.1 hj
    refine ⟨[u], rfl, ⟨rfl, rfl, fun y hy => ?_⟩, fun i y hi => ?_⟩
    · simp at hy; subst hy; exact hone _ (List.mem_of_getElem? hu)
    · match i, hi with
      | 0, hi =>
        simp only [List.getElem?_cons_zero, Option.some.injEq] at hi
        subst hi
        have e1 : j * (Kd.raw 1).sz + 0 = j := by show j * 1 + 0 = j; omega
        rw [e1]
        exact hc j u hu
  · rintro v1 w1 ⟨_, inner, hown, hr⟩ hb hg hat
    rw [← List.map_append] at hr hown
    obtain rfl := reps_raw hr
    rw [List.length_map] at hown
    exact h v1 w1 hown hb hg hat
end Go.Proofs.YtjifancgekoenaaGreatDoor
