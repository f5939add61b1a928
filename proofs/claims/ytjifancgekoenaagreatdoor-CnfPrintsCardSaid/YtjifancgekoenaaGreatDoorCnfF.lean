import Derived.Test.YtjifancgekoenaaGreatDoorCnfE
namespace Go.Proofs.YtjifancgekoenaaGreatDoor
open Go.RowKit Go.Proofs.YtjifancgekoenaaGreatDoorW.PrintWords Go.Proofs.YtjifancgekoenaaGreatDoorW.PrintLast
set_option linter.unusedVariables false
set_option linter.unusedSimpArgs false

theorem C_of_cells {w : World} {b off : Nat} {k : IntKind} {xs : List Int} (hm : xs.length ≤ 9223372036854775807) (h : ∀ j x, xs[j]? = some x → w.cell? ⟨b, off + j, none⟩ = some (.int k x)) : Kd.C (Kd.int k) w (some ⟨b, off, none⟩) xs.length xs := by
  refine ⟨rfl, hm, fun _ => ⟨_, rfl, fun j p hj => ⟨[.int k p], rfl, rfl, fun i u hi => ?_⟩⟩⟩
  match i, hi with
  | 0, hi =>
    simp only [List.getElem?_cons_zero, Option.some.injEq] at hi
    subst hi
    have e : j * (Kd.int k).sz + 0 = j := by show j * 1 + 0 = j; omega
    rw [e, add_spot rfl]
    exact h j p hj

/-- A row that cnf.numbers has told, without its last number. -/
def InRow (w : World) (base : Nat) (v : Value) (r : List Int) : Prop :=
  ∃ g c x, w.ownsRow base 3 1 (.slice (some ⟨g, 0, none⟩) (r.length + 1) c) (r.length + 1) (nums .i64 (r ++ [x])) ∧ v = .slice (some ⟨g, 0, none⟩) r.length r.length
/-- A row of such rows. -/
def RowsOf (w : World) (base : Nat) (v : Value) (L : List (List Int)) : Prop :=
  ∃ vs : List Value, vs.length = L.length ∧ w.ownsRow base 22 1 v L.length vs ∧ ∀ (j : Nat) y r, vs[j]? = some y → L[j]? = some r → InRow w base y r
theorem InRow.below {w w' : World} {base : Nat} {v : Value} {r : List Int} (h : InRow w base v r) (hb : Below w.heap.size w w') : InRow w' base v r := by
  obtain ⟨g, c, x, h1, h2⟩ := h
  exact ⟨g, c, x, pw_own_below h1 hb, h2⟩
theorem RowsOf.below {w w' : World} {base : Nat} {v : Value} {L : List (List Int)} (h : RowsOf w base v L) (hb : Below w.heap.size w w') : RowsOf w' base v L := by
  obtain ⟨vs, h1, h2, h3⟩ := h
  exact ⟨vs, h1, pw_own_below h2 hb, fun j y r hy hr => (h3 j y r hy hr).below hb⟩
theorem RowsOf.nil (w : World) (base : Nat) : RowsOf w base (.slice none 0 0) [] := ⟨[], rfl, own_nil _ _ _ _, fun j y r hy => by simp at hy⟩
theorem InRow.other {w w1 : World} {base : Nat} {y v : Value} {r : List Int} {n : Nat} {vs : List Value} (h : InRow w base y r) (hv : w.ownsRow base 22 1 v n vs) (hg : w.grownBy w1 v.ownBlock) : InRow w1 base y r := by
  obtain ⟨g, c, x, h1, h2⟩ := h
  exact ⟨g, c, x, own_other h1 hg (own_type_ne h1 hv (by decide)), h2⟩
theorem RowsOf.snoc {w w1 : World} {base : Nat} {v v1 y : Value} {L : List (List Int)} {vs : List Value} {r : List Int} (h1 : vs.length = L.length) (h2 : w.ownsRow base 22 1 v L.length vs)
    (h3 : ∀ (j : Nat) y r, vs[j]? = some y → L[j]? = some r → InRow w base y r) (hy : InRow w base y r) (ho : w1.ownsRow base 22 1 v1 (vs ++ [y]).length (vs ++ [y])) (hg : w.grownBy w1 v.ownBlock) : RowsOf w1 base v1 (L ++ [r]) := by
  refine ⟨vs ++ [y], by simp [h1], by rw [show (L ++ [r]).length = (vs ++ [y]).length from by simp [h1]]; exact ho, fun j y' r' hy' hr' => ?_⟩
  rcases Nat.lt_or_ge j L.length with hj | hj
  · rw [List.getElem?_append_left (by omega)] at hy'
    rw [List.getElem?_append_left hj] at hr'
    exact (h3 j y' r' hy' hr').other h2 hg
  · have hj2 := (List.getElem?_eq_some_iff.1 hr').1
    simp only [List.length_append, List.length_cons, List.length_nil] at hj2
    obtain rfl : j = L.length := by omega
    simp at hr'
    rw [← h1] at hy'
    simp at hy'
    subst hr' hy'
    exact hy.other h2 hg
theorem InRow.reads {w : World} {base : Nat} {v : Value} {r : List Int} (h : InRow w base v r) : ∃ A c, v = .slice A r.length c ∧ r.length ≤ c ∧ Kd.C kI w A r.length r := by
  obtain ⟨g, c, x, h1, rfl⟩ := h
  refine ⟨_, _, rfl, Nat.le_refl _, C_of_cells ?_ (fun j y hj => ?_)⟩
  · have := h1.2
    rcases this with ⟨h, _⟩ | ⟨g', cap, cur, he, _, _, h3, h4, _⟩
    · cases h
    · unfold maxLen at h4; omega
  · have hjl := (List.getElem?_eq_some_iff.1 hj).1
    have := h1.cells (g := g) rfl j (.int .i64 y) (by
      unfold nums
      rw [List.getElem?_map, List.getElem?_append_left hjl, hj]; rfl)
    rw [add_plain] at this
    simpa using this
theorem RowsOf.reads {w : World} {base : Nat} {v : Value} {L : List (List Int)} (h : RowsOf w base v L) : ∃ A c, v = .slice A L.length c ∧ L.length ≤ c ∧ Kd.C kII w A L.length L := by
  obtain ⟨vs, h1, h2, h3⟩ := h
  rcases h2.2 with ⟨rfl, h0⟩ | ⟨g, cap, cur, rfl, _, _, h4, h5, _⟩
  · have : L = [] := List.eq_nil_of_length_eq_zero h0
    subst this
    exact ⟨none, 0, rfl, Nat.le_refl _, Kd.C_nil _ _⟩
  · refine ⟨_, cap, rfl, by omega, rfl, by unfold maxLen at h5; omega, fun _ => ⟨_, rfl, fun j r hj => ?_⟩⟩
    have hjl := (List.getElem?_eq_some_iff.1 hj).1
    obtain ⟨y, hy⟩ : ∃ y, vs[j]? = some y := ⟨_, List.getElem?_eq_getElem (by omega)⟩
    obtain ⟨A, c, rfl, hc, hC⟩ := (h3 j y r hy hj).reads
    refine ⟨[.slice A r.length c], rfl, ⟨A, c, rfl, hc, hC⟩, fun i u hi => ?_⟩
    match i, hi with
    | 0, hi =>
      simp only [List.getElem?_cons_zero, Option.some.injEq] at hi
      subst hi
      have := h2.cells (g := g) rfl j _ hy
      have e : j * kII.sz + 0 = j := by show j * 1 + 0 = j; omega
      rw [e]
      exact this

theorem blk_frozen {w : World} {b : Nat} {cs : Array Value} {T : TypeId} (hb : w.heap[b]? = some (.cells cs T (0, 0))) (j : Nat) : w.frozen? ⟨b, j, none⟩ = false := by simp [World.frozen?, hb]
theorem blk_cellA {w : World} {b : Nat} {cs : Array Value} {T : TypeId} (hb : w.heap[b]? = some (.cells cs T (0, 0))) (j : Nat) : w.cell? ⟨b, j, none⟩ = cs[j]? := by simp [World.cell?, hb]
theorem below_blk {w w' : World} {b : Nat} {o : Obj} (hb : w.heap[b]? = some o) (h : Below w.heap.size w w') : w'.heap[b]? = some o := by
  have hlt : b < w.heap.size := by
    rcases Nat.lt_or_ge b w.heap.size with h' | h'
    · exact h'
    · rw [Array.getElem?_eq_none h'] at hb; cases hb
  exact (h.block b hlt).trans hb

theorem set2 {w : World} {b : Nat} {x y : Value} {T : TypeId} (hb : w.heap[b]? = some (.cells #[x, y] T (0, 0))) (u v : Value) : ((w.setCell ⟨b, 0, none⟩ u).setCell ⟨b, 1, none⟩ v).heap[b]? = some (.cells #[u, v] T (0, 0)) := by
  simp [World.setCell, Array.getElem?_modify, hb]
theorem set2_below {w W : World} {B b : Nat} (h : Below B w W) (hB : B ≤ b) (u v : Value) : Below B w ((W.setCell ⟨b, 0, none⟩ u).setCell ⟨b, 1, none⟩ v) :=
  (h.setCell (p := ⟨b, 0, none⟩) hB _).setCell (p := ⟨b, 1, none⟩) hB _
theorem toList_bytes (l : List UInt8) : (bytesB l).toList = l := by simp [bytesB]
/-- Other blocks than these rows' own may turn. -/
theorem RowsOf.moved {w w1 : World} {base : Nat} {v : Value} {L : List (List Int)} (h : RowsOf w base v L) (hm : ∀ k, base ≤ k → (∃ cells t, w.heap[k]? = some (.cells cells t (0, 0)) ∧ t ≠ 28) → w1.heap[k]? = w.heap[k]?) : RowsOf w1 base v L := by
  have key : ∀ {e n : Nat} {u : Value} {xs : List Value}, e ≠ 28 → w.ownsRow base e 1 u n xs → w1.ownsRow base e 1 u n xs := fun he ho =>
    own_move ho (fun k hk => by
      obtain ⟨cells, hc⟩ := own_typed ho k hk
      exact hm k (own_base ho k hk) ⟨cells, _, hc, he⟩)
  obtain ⟨vs, h1, h2, h3⟩ := h
  refine ⟨vs, h1, key (by decide) h2, fun j y r hy hr => ?_⟩
  obtain ⟨g, c, x, h4, h5⟩ := h3 j y r hy hr
  exact ⟨g, c, x, key (by decide) h4, h5⟩
theorem set2_other {w : World} {b : Nat} {x y : Value} (hb : w.heap[b]? = some (.cells #[x, y] 28 (0, 0))) (u v : Value) : ∀ k : Nat, (∃ cells t, w.heap[k]? = some (.cells cells t (0, 0)) ∧ t ≠ 28) → ((w.setCell ⟨b, 0, none⟩ u).setCell ⟨b, 1, none⟩ v).heap[k]? = w.heap[k]? := by
  rintro k ⟨cells, t, hk, ht⟩
  have hne : k ≠ b := by
    rintro rfl
    rw [hb] at hk
    injection hk with hk
    injection hk with _ h2
    exact ht h2.symm
  rw [Below.heap_setCell _ ⟨b, 1, none⟩ v k hne, Below.heap_setCell _ ⟨b, 0, none⟩ u k hne]
/-- What cnf.Parse hands back. -/
def ParseOut (w w' : World) (e : Ending) (a : Int) (L : List (List Int)) (er : Int) : Prop :=
  ∃ v, e = .returned (.tuple #[.agg #[.int .i64 a, v], .int .i64 er]) ∧ RowsOf w' w.heap.size v L ∧ Below w.heap.size w w'

/-- The state at the head of the loop over the rows. -/
structure PSt (w wr : World) (s rest : List UInt8) (a : Int) (Cc : Nat) (R : List UInt8) (L : List (List Int)) (vL : Value) : Prop where
  rows : ∃ f, R.length ≤ f ∧ rowsP s.length rest = (rowsP f R).map (L ++ ·)
  own : RowsOf wr w.heap.size vL L
  box : wr.heap[Cc]? = some (.cells #[.int .i64 a, vL] 28 (0, 0))
  res : wr.heap[w.heap.size]? = some (.cells #[.int .i64 0, .slice none 0 0] 28 (0, 0))
  bel : Below w.heap.size w wr
  len : L.length + R.length ≤ 300000
  cc : w.heap.size < Cc

theorem PSt.below {w wr w' : World} {s rest : List UInt8} {a : Int} {Cc : Nat} {R : List UInt8} {L : List (List Int)} {vL : Value} (h : PSt w wr s rest a Cc R L vL) (hb : Below wr.heap.size wr w') : PSt w w' s rest a Cc R L vL :=
  { rows := h.rows, own := h.own.below hb, box := below_blk h.box hb, res := below_blk h.res hb, bel := below_then h.bel h.bel.size hb, len := h.len, cc := h.cc }
theorem parse_bad {s first rest : List UInt8} {a a2 : Int} (h1 : (cutNL s).1 = first) (h2 : (cutNL s).2.1 = rest) (h3 : numsV (Lib.trimPrefix first headB) = [a, a2]) (h4 : rowsP s.length rest = none) : parseR s = (0, [], 130) := by
  unfold parseR
  rw [h1, h2, h3]
  simp only [h4]
theorem PSt.bad {w wr : World} {s rest : List UInt8} {a : Int} {Cc : Nat} {R : List UInt8} {L : List (List Int)} {vL : Value} (h : PSt w wr s rest a Cc R L vL) (hR : R ≠ []) (hn : numsV (cutNL R).1 = []) : rowsP s.length rest = none := by
  obtain ⟨f, hf, he⟩ := h.rows
  rw [he]
  cases f with
  | zero => exact absurd (List.eq_nil_of_length_eq_zero (by omega)) hR
  | succ f => unfold rowsP; rw [if_neg hR, if_pos hn]; rfl

theorem PSt.done {w wr : World} {s rest : List UInt8} {a : Int} {Cc : Nat} {L : List (List Int)} {vL : Value} (h : PSt w wr s rest a Cc [] L vL) : rowsP s.length rest = some L := by
  obtain ⟨f, hf, he⟩ := h.rows
  rw [he]
  cases f <;> simp [rowsP]
theorem check_range {n : Int} {l : List (List Int)} (h : checkI n l = 0) : 0 ≤ n ∧ n ≤ 1048576 := by
  unfold checkI at h
  split at h
  · cases h
  · split at h
    · cases h
    · omega
theorem parse_end {s first rest : List UInt8} {a a2 : Int} {L : List (List Int)} (h1 : (cutNL s).1 = first) (h2 : (cutNL s).2.1 = rest) (h3 : numsV (Lib.trimPrefix first headB) = [a, a2]) (h4 : rowsP s.length rest = some L) :
    parseR s = if checkI a L = 0 ∧ printL a L = s then (a, L, 0) else (0, [], 130) := by
  unfold parseR
  rw [h1, h2, h3]
  simp only [h4]

theorem type_ne {w : World} {base e n b : Nat} {v : Value} {xs cs : List Value} {T : Nat} {cells : Array Value} (hv : w.ownsRow base e 1 v n xs) (hb : w.heap[b]? = some (.cells cells T (0, 0))) (hne : T ≠ e) : some b ≠ v.ownBlock := by
  intro he
  obtain ⟨cells', hc⟩ := own_typed hv b he.symm
  rw [hb] at hc
  injection hc with hc
  injection hc with _ h2
  exact hne h2
theorem set1 {w : World} {b : Nat} {x y : Value} {T : TypeId} (hb : w.heap[b]? = some (.cells #[x, y] T (0, 0))) (v : Value) : (w.setCell ⟨b, 1, none⟩ v).heap[b]? = some (.cells #[x, v] T (0, 0)) := by
  simp [World.setCell, Array.getElem?_modify, hb]
theorem PSt.step {w w5 w5a w6 : World} {s rest : List UInt8} {a : Int} {Cc : Nat} {R : List UInt8} {L : List (List Int)} {vL v1 y : Value} {vs : List Value} (h : PSt w w5 s rest a Cc R L vL) (hb : Below w5.heap.size w5 w5a)
    (hR : R ≠ []) (hn : ¬ numsV (cutNL R).1 = []) (hv1 : vs.length = L.length) (hv2 : w5.ownsRow w.heap.size 22 1 vL L.length vs) (hv3 : ∀ (j : Nat) y r, vs[j]? = some y → L[j]? = some r → InRow w5 w.heap.size y r)
    (hy : InRow w5 w.heap.size y (numsV (cutNL R).1).dropLast) (hown : w6.ownsRow w.heap.size 22 1 v1 (L.length + 1) (vs ++ [y])) (hg : w5a.grownBy w6 vL.ownBlock) :
    PSt w (w6.setCell ⟨Cc, 1, none⟩ v1) s rest a Cc (cutNL R).2.1 (L ++ [(numsV (cutNL R).1).dropLast]) v1 := by
  have hv2a := pw_own_below hv2 hb
  have hbox := below_blk h.box hb
  have hres := below_blk h.res hb
  have hlt : ∀ {b : Nat} {o : Obj}, w5a.heap[b]? = some o → b < w5a.heap.size := fun {b o} ho => by
    rcases Nat.lt_or_ge b w5a.heap.size with h' | h'
    · exact h'
    · rw [Array.getElem?_eq_none h'] at ho; cases ho
  have hbox6 := (hg.block Cc (hlt hbox) (type_ne (cs := []) hv2a hbox (by decide))).trans hbox
  have hres6 := (hg.block w.heap.size (hlt hres) (type_ne (cs := []) hv2a hres (by decide))).trans hres
  have hrows : RowsOf w6 w.heap.size v1 (L ++ [(numsV (cutNL R).1).dropLast]) :=
    RowsOf.snoc hv1 hv2a (fun j y r h1 h2 => (hv3 j y r h1 h2).below hb) (hy.below hb) (by rw [show (vs ++ [y]).length = L.length + 1 from by simp [hv1]]; exact hown) hg
  have hbel5 : Below w.heap.size w w5a := below_then h.bel h.bel.size hb
  have hbel6 : Below w.heap.size w w6 := pw_below_grown hbel5 _ hbel5.size hg (fun k hk => own_base hv2a k hk)
  have hcut := (cut_len R hR).2
  exact
    { rows := by
        obtain ⟨f, hf, he⟩ := h.rows
        cases f with
        | zero => exact absurd (List.eq_nil_of_length_eq_zero (by omega)) hR
        | succ f =>
          refine ⟨f, by omega, ?_⟩
          rw [he]
          conv => lhs; unfold rowsP
          rw [if_neg hR, if_neg hn, Option.map_map]
          congr 1
          funext l
          simp
      own := hrows.moved (fun k _ ⟨cells, t, hk, ht⟩ => Below.heap_setCell _ ⟨Cc, 1, none⟩ _ _ (by
        rintro rfl
        rw [hbox6] at hk
        injection hk with hk
        injection hk with _ h2
        exact ht h2.symm))
      box := set1 hbox6 v1
      res := (Below.heap_setCell _ ⟨Cc, 1, none⟩ _ _ (by have := h.cc; show w.heap.size ≠ Cc; omega)).trans hres6
      bel := hbel6.setCell (p := ⟨Cc, 1, none⟩) (Nat.le_of_lt h.cc) _
      len := by have := h.len; simp; omega
      cc := h.cc }
theorem inRow_of {w W4 w5 : World} {g cap p : Nat} {xs : List Int} (h : w5.ownsRow W4.heap.size 3 1 (.slice (some ⟨g, 0, none⟩) (p + 1) cap) (p + 1) (encs (Value.int .i64) xs)) (hle : w.heap.size ≤ W4.heap.size) (hx : xs.length = p + 1) :
    InRow w5 w.heap.size (.slice (some ⟨g, 0, none⟩) p p) xs.dropLast := by
  have hl : xs.dropLast.length = p := by rw [List.length_dropLast, hx]; rfl
  have hne : xs ≠ [] := by intro e; rw [e] at hx; simp at hx
  refine ⟨g, cap, xs.getLast hne, ?_, by rw [hl]⟩
  rw [hl, List.dropLast_concat_getLast]
  exact own_weaken h hle

set_option maxHeartbeats 4000000 in
set_option maxRecDepth 100000 in
theorem Parse_any (s : List UInt8) (hl : s.length ≤ 300000) (w : World) (hL : Laid w) :
    Calls Tryz.prog 15 #[.string (bytesB s)] w fun e w' => ParseOut w w' e (parseR s).1 (parseR s).2.1 (parseR s).2.2 := by
  have HL0 : Aside0 (Laid w) := ⟨hL⟩
  have HCut : Aside0 (∀ (l : List UInt8) (W : World), l.length ≤ 1000000000 → Below w.heap.size w W → Calls Tryz.prog 32 #[.string (bytesB l), .string ⟨#[10]⟩] W fun e w' => e = .returned (.tuple #[.string (bytesB (cutNL l).1), .string (bytesB (cutNL l).2.1), .bool (cutNL l).2.2]) ∧ ∃ n, w' = W.drewN n) :=
    ⟨fun l W h1 h2 => Cut_any l h1 W (hL.below h2)⟩
  clear hL
  obtain ⟨first, hf⟩ : ∃ x, (cutNL s).1 = x := ⟨_, rfl⟩
  obtain ⟨rest, hr⟩ : ∃ x, (cutNL s).2.1 = x := ⟨_, rfl⟩
  obtain ⟨n, hn⟩ : ∃ x, numsV (Lib.trimPrefix first headB) = x := ⟨_, rfl⟩
  have HF : Aside0 ((cutNL s).1 = first) := ⟨hf⟩
  have HR : Aside0 ((cutNL s).2.1 = rest) := ⟨hr⟩
  have HN : Aside0 (numsV (Lib.trimPrefix first headB) = n) := ⟨hn⟩
  have HX : Aside0 (Lib.trimPrefix first headB = Lib.trimPrefix first (ByteArray.mk #[112, 32, 99, 110, 102, 32]).data.toList) := ⟨rfl⟩
  have hfl : first.length ≤ 300000 ∧ rest.length ≤ 300000 := by
    by_cases h0 : s = []
    · subst h0; rw [← hf, ← hr]; exact ⟨by simp [cutNL], by simp [cutNL]⟩
    · have := cut_len s h0; rw [← hf, ← hr]; omega
  have htl : (Lib.trimPrefix first headB).length ≤ 300000 := by
    unfold Lib.trimPrefix; split <;> (try rw [List.length_drop]) <;> omega
  obtain ⟨hfl1, hfl2⟩ := hfl
  clear hf hr hn
  go_enter Tryz.func15, Tryz.ntmps15
  go_wp2_with fail
  refine (HCut.out s _ (by omega) (bel1 _ _)).mono ?_
  rw [HF.out, HR.out]
  rintro e w1 ⟨rfl, q, rfl⟩
  go_wp2_with fail
  refine (TrimPrefix_any first (ByteArray.mk #[112, 32, 99, 110, 102, 32]) _).mono ?_
  rw [← HX.out]
  rintro e w2 ⟨rfl, rfl⟩
  have hb0 : Below w.heap.size w ((w.alloc (.cells #[.int .i64 0, .slice none 0 0] 28)).drewN q) := pw_below_drewN (bel1 _ _) _
  have hR0 : ((w.alloc (.cells #[.int .i64 0, .slice none 0 0] 28)).drewN q).heap[w.heap.size]? = some (.cells #[.int .i64 0, .slice none 0 0] 28 (0, 0)) := heap_alloc_new w _
  generalize (w.alloc (.cells #[.int .i64 0, .slice none 0 0] 28)).drewN q = W1 at hb0 hR0 ⊢
  go_wp2_with fail
  refine (numbers_any _ (by omega) W1 (HL0.out.below hb0)).mono ?_
  rw [HN.out]
  rintro e w2 ⟨v, rfl, hv, hb2⟩
  obtain ⟨A, c, rfl, hnc, hC⟩ := Kd.R_reads hv
  have hb3 := below_then hb0 hb0.size hb2
  have hR3 := below_blk hR0 hb2
  clear hb0 hR0 hv hb2 W1
  by_cases hlen : n.length = 2
  · obtain ⟨a, a2, rfl⟩ : ∃ a a2, n = [a, a2] := by
      match n, hlen with
      | [a, a2], _ => exact ⟨a, a2, rfl⟩
    obtain ⟨ad, rfl, hca⟩ := Kd.at_int hC 0 (by simp) (by simp)
    have hca' : w2.cell? ad = some (.int .i64 a) := by simpa [Addr.add, rd] using hca
    clear hca hC hnc hlen
    have hcc : w.heap.size < w2.heap.size := by
      rcases Nat.lt_or_ge w.heap.size w2.heap.size with h' | h'
      · exact h'
      · rw [Array.getElem?_eq_none h'] at hR3; cases hR3
    have hst : PSt w (w2.alloc (.cells #[.int .i64 a, .slice none 0 0] 28)) s rest a w2.heap.size rest [] (.slice none 0 0) :=
      { rows := ⟨s.length, by
          by_cases h0 : s = []
          · subst h0; have := HR.out; simp [cutNL] at this; subst this; simp
          · have := (cut_len s h0).2; rw [HR.out] at this; omega, by simp⟩
        own := RowsOf.nil _ _
        box := heap_alloc_new _ _
        res := below_blk hR3 (bel1 _ _)
        bel := below_then hb3 hb3.size (bel1 _ _)
        len := by simp; omega
        cc := hcc }
    have HST : Aside0 (PSt w (w2.alloc (.cells #[.int .i64 a, .slice none 0 0] 28)) s rest a w2.heap.size rest [] (.slice none 0 0)) := ⟨hst⟩
    clear hst hcc hb3 hR3
    go_wp2
    obtain ⟨Cc, hCc⟩ : ∃ Cc, w2.heap.size = Cc := ⟨_, rfl⟩
    rw [hCc] at HST ⊢
    clear hCc
    generalize w2.alloc (.cells #[.int .i64 a, .slice none 0 0] 28) = W3 at HST ⊢
    clear hca' w2
    go_loopg [5] rest.length (fun gg s5 wr => ∃ (R : List UInt8) (L : List (List Int)) (vL : Value), R.length ≤ gg ∧ R.length ≤ 300000 ∧ s5 = .string (bytesB R) ∧ Aside0 (PSt w wr s rest a Cc R L vL))
    case atStart => exact ⟨rest, [], _, Nat.le_refl _, by omega, rfl, HST⟩
    case round =>
      clear HST W3
      obtain ⟨R, L, vL, hg, hRl, rfl, HST⟩ := hrel
      by_cases hR : R = []
      · subst hR
        have hE : (bytesB []).toList.isEmpty = true := by simp [bytesB]
        have hdone := HST.out.done
        have HPE := parse_end HF.out HR.out HN.out hdone
        obtain ⟨hbk, hwf⟩ := rowsP_facts _ _ _ hdone
        have hRs := HST.out.own
        obtain ⟨A, cc, rfl, hcl, hC⟩ := hRs.reads
        have hbox := HST.out.box
        have b0 := blk_cellA hbox 0
        have b1 := blk_cellA hbox 1
        have HRES : Aside0 (wr.heap[w.heap.size]? = some (.cells #[.int .i64 0, .slice none 0 0] 28 (0, 0))) := ⟨HST.out.res⟩
        have HBEL : Aside0 (Below w.heap.size w wr) := ⟨HST.out.bel⟩
        have HBOX : Aside0 (wr.heap[Cc]? = some (.cells #[.int .i64 a, .slice A L.length cc] 28 (0, 0))) := ⟨hbox⟩
        have HROW : Aside0 (RowsOf wr w.heap.size (.slice A L.length cc) L) := ⟨hRs⟩
        have hcc := HST.out.cc
        clear HST hRs hbox hdone
        by_cases hk : checkI a L = 0
        · have HPR := Print_ok a A cc L wr (HL0.out.below HBEL.out) hC hwf (check_range hk) (by omega) hk
          by_cases hs : printL a L = s
          · have HP : Aside0 (parseR s = (a, L, 0)) := ⟨by rw [HPE, if_pos ⟨hk, hs⟩]⟩
            rw [hs] at HPR
            clear HPE hk hs hC hwf hbk
            go_wp2_with fail
            refine HPR.mono ?_
            rintro e w6 ⟨rfl, hb6⟩
            have HRES6 : Aside0 (w6.heap[w.heap.size]? = some (.cells #[.int .i64 0, .slice none 0 0] 28 (0, 0))) := ⟨below_blk HRES.out hb6⟩
            have hbox6 := below_blk HBOX.out hb6
            have d0 := blk_cellA hbox6 0
            have d1 := blk_cellA hbox6 1
            have c0 := blk_cellA HRES6.out 0
            have c1 := blk_cellA HRES6.out 1
            have f0 := blk_frozen HRES6.out 0
            have f1 := blk_frozen HRES6.out 1
            have HROW6 := Aside0.mk (HROW.out.below hb6)
            have HBEL6 := Aside0.mk (below_then HBEL.out HBEL.out.size hb6)
            clear b0 b1 hb6 hbox6
            go_wp2_with fail
            have hs := set2 HRES6.out (.int .i64 a) (.slice A L.length cc)
            have e0 := blk_cellA hs 0
            have e1 := blk_cellA hs 1
            refine bodyPost_ret (v := .tuple #[.agg #[.int .i64 a, .slice A L.length cc], .int .i64 0]) (by simp [results, Tryz.results15, go_sem, e0, e1]) rfl ?_
            rw [HP.out]
            exact ⟨_, rfl, HROW6.out.moved (fun k _ h => set2_other HRES6.out _ _ k h), set2_below HBEL6.out (Nat.le_refl _) _ _⟩
          · have HP : Aside0 (parseR s = (0, [], 130)) := ⟨by rw [HPE, if_neg (fun h => hs h.2)]⟩
            have hne : ((bytesB (printL a L)).toList == (bytesB s).toList) = false := by
              rw [toList_bytes, toList_bytes]; simpa using hs
            generalize bytesB (printL a L) = t at *
            clear HPE hk hs hC hwf hbk
            go_wp2_with fail
            refine HPR.mono ?_
            rintro e w6 ⟨rfl, hb6⟩
            have HRES6 : Aside0 (w6.heap[w.heap.size]? = some (.cells #[.int .i64 0, .slice none 0 0] 28 (0, 0))) := ⟨below_blk HRES.out hb6⟩
            have c0 := blk_cellA HRES6.out 0
            have c1 := blk_cellA HRES6.out 1
            have f0 := blk_frozen HRES6.out 0
            have f1 := blk_frozen HRES6.out 1
            have HBEL6 := Aside0.mk (below_then HBEL.out HBEL.out.size hb6)
            clear b0 b1 hb6
            go_wp2_with fail
            have hs := set2 HRES6.out (.int .i64 0) (.slice none 0 0)
            have e0 := blk_cellA hs 0
            have e1 := blk_cellA hs 1
            refine bodyPost_ret (v := .tuple #[.agg #[.int .i64 0, .slice none 0 0], .int .i64 130]) (by simp [results, Tryz.results15, go_sem, e0, e1]) rfl ?_
            rw [HP.out]
            exact ⟨_, rfl, RowsOf.nil _ _, set2_below HBEL6.out (Nat.le_refl _) _ _⟩
        · have HP : Aside0 (parseR s = (0, [], 130)) := ⟨by rw [HPE, if_neg (fun h => hk h.1)]⟩
          obtain ⟨er, her⟩ : ∃ er, checkI a L = er := ⟨_, rfl⟩
          rw [her] at hk
          have hk0 : (er == 0) = false := by simpa using hk
          have hk1 : (er != 0) = true := by simpa using hk
          have HPR := Print_err a A cc L wr hC er her hk0
          clear HPE hk her hC hwf hbk
          go_wp2_with fail
          refine HPR.mono ?_
          rintro e w6 ⟨rfl, hb6⟩
          have HRES6 : Aside0 (w6.heap[w.heap.size]? = some (.cells #[.int .i64 0, .slice none 0 0] 28 (0, 0))) := ⟨below_blk HRES.out hb6⟩
          have c0 := blk_cellA HRES6.out 0
          have c1 := blk_cellA HRES6.out 1
          have f0 := blk_frozen HRES6.out 0
          have f1 := blk_frozen HRES6.out 1
          have HBEL6 := Aside0.mk (below_then HBEL.out HBEL.out.size hb6)
          clear b0 b1 hb6
          go_wp2_with fail
          have hs := set2 HRES6.out (.int .i64 0) (.slice none 0 0)
          have e0 := blk_cellA hs 0
          have e1 := blk_cellA hs 1
          refine bodyPost_ret (v := .tuple #[.agg #[.int .i64 0, .slice none 0 0], .int .i64 130]) (by simp [results, Tryz.results15, go_sem, e0, e1]) rfl ?_
          rw [HP.out]
          exact ⟨_, rfl, RowsOf.nil _ _, set2_below HBEL6.out (Nat.le_refl _) _ _⟩
      · have hE : (bytesB R).toList.isEmpty = false := by simp [bytesB, hR]
        have hcl := cut_len R hR
        go_wp2_with fail
        refine (HCut.out R _ (by omega) HST.out.bel).mono ?_
        rintro e w4 ⟨rfl, q4, rfl⟩
        have HST4 : Aside0 (PSt w (wr.drewN q4) s rest a Cc R L vL) := ⟨HST.out.below (pw_below_drewN (Below.refl _ _) _)⟩
        clear HST
        generalize wr.drewN q4 = W4 at HST4 ⊢
        go_wp2_with fail
        refine (numbers_any _ (by omega) W4 (HL0.out.below HST4.out.bel)).mono ?_
        rintro e w5 ⟨v, rfl, hv, hb5⟩
        have HST : Aside0 (PSt w w5 s rest a Cc R L vL) := ⟨HST4.out.below hb5⟩
        have hlow := HST4.out.bel.size
        clear HST4
        by_cases hn : numsV (cutNL R).1 = []
        · have HP : Aside0 (parseR s = (0, [], 130)) := ⟨parse_bad HF.out HR.out HN.out (HST.out.bad hR hn)⟩
          rw [hn] at hv
          obtain ⟨A5, c5, rfl, _, _⟩ := Kd.R_reads hv
          have hR3 := HST.out.res
          have c0 := blk_cellA hR3 0
          have c1 := blk_cellA hR3 1
          have f0 := blk_frozen hR3 0
          have f1 := blk_frozen hR3 1
          have hs := set2 hR3 (.int .i64 0) (.slice none 0 0)
          have HR3 : Aside0 (w5.heap[w.heap.size]? = some (.cells #[.int .i64 0, .slice none 0 0] 28 (0, 0))) := ⟨hR3⟩
          clear hv hb5 hn hs hR3
          go_wp2
          have hs := set2 HR3.out (.int .i64 0) (.slice none 0 0)
          have e0 := blk_cellA hs 0
          have e1 := blk_cellA hs 1
          refine bodyPost_ret (v := .tuple #[.agg #[.int .i64 0, .slice none 0 0], .int .i64 130]) (by simp [results, Tryz.results15, go_sem, e0, e1]) rfl ?_
          rw [HP.out]
          exact ⟨_, rfl, RowsOf.nil _ _, set2_below HST.out.bel (Nat.le_refl _) _ _⟩
        · obtain ⟨p, hp⟩ : ∃ p, (numsV (cutNL R).1).length = p + 1 := ⟨(numsV (cutNL R).1).length - 1, by have := List.length_pos_iff.2 hn; omega⟩
          have hnl := numsV_len (cutNL R).1
          have hO := Kd.own_of_R (h1 := fun _ => rfl) hv
          rw [hp] at hO hnl
          obtain ⟨g, cap, rfl, hgb, hgl⟩ := hO.form (by omega)
          have hcap : p + 1 ≤ cap := by
            rcases hO.2 with ⟨h, _⟩ | ⟨g', cap', cur, he, _, _, h3, h4, _⟩
            · cases h
            · cases he; exact h3
          obtain ⟨vs, hv1, hv2, hv3⟩ := HST.out.own
          have hbox := HST.out.box
          have b1 := blk_cellA hbox 1
          have g1 := blk_frozen hbox 1
          have hCl : Cc < w5.heap.size := by
            rcases Nat.lt_or_ge Cc w5.heap.size with h' | h'
            · exact h'
            · rw [Array.getElem?_eq_none h'] at hbox; cases hbox
          have hCne : some Cc ≠ vL.ownBlock := by
            intro he
            obtain ⟨cells, hc⟩ := own_typed hv2 Cc he.symm
            rw [hbox] at hc
            injection hc with hc
            injection hc with _ h2
            exact absurd h2 (by decide)
          obtain ⟨i0, hi0, hz0, hz1, hz2⟩ := info_parts infoII
          have hLl : L.length ≤ 300000 := by have := HST.out.len; omega
          have hw5 : w.heap.size ≤ w5.heap.size := HST.out.bel.size
          have HV : Aside0 (vs.length = L.length ∧ w5.ownsRow w.heap.size 22 1 vL L.length vs ∧ ∀ (j : Nat) y r, vs[j]? = some y → L[j]? = some r → InRow w5 w.heap.size y r) := ⟨⟨hv1, hv2, hv3⟩⟩
          have HO : Aside0 (w5.ownsRow W4.heap.size 3 1 (.slice (some ⟨g, 0, none⟩) (p + 1) cap) (p + 1) (encs (Value.int .i64) (numsV (cutNL R).1))) := ⟨hO⟩
          have HN1 : Aside0 (¬ numsV (cutNL R).1 = []) := ⟨hn⟩
          have HP1 : Aside0 ((numsV (cutNL R).1).length = p + 1) := ⟨hp⟩
          have HI0 : Aside0 (Tryz.prog.info? 22 = some i0) := ⟨hi0⟩
          have HZ : Aside0 (i0.zero = some (.slice none 0 0) ∧ i0.size = 1 ∧ i0.bytes = 24) := ⟨⟨hz0, hz1, hz2⟩⟩
          have q1 : (0 : Int) ≤ (p : Int) := by omega
          have q2 : (p : Int) ≤ (cap : Int) := by omega
          have HBOX5 : Aside0 (w5.heap[Cc]? = some (.cells #[.int .i64 a, vL] 28 (0, 0))) := ⟨hbox⟩
          clear hv1 hv2 hv3 hO hv hn hp hi0 hz0 hz1 hz2 hb5 hbox hE
          have wp : IntKind.i64.wrap (p : Int) = (p : Int) := IntWalk.i64_in _ (by omega)
          have wm : max (p : Int) 0 = (p : Int) := by omega
          have wle : (p : Int) ≤ (p : Int) := by omega
          go_wp2_with fail
          go_region_law ((refine step_append_lies _ (by rfl) _ _ _ (by rfl) w.heap.size 22 i0 _ 1 24 Tryz.underlying26 HI0.out HZ.out.1 HZ.out.2.1 HZ.out.2.2 rfl (by omega) vL L.length vs (by rfl) ?_ ⟨w5.heap.size, 0, none⟩ 1 1 [.slice (some ⟨g, 0, none⟩) p p] (by rfl) (by rfl) ?_ ?_ (by omega) ?_ ?_ ?_ _ rfl ?_); (refine pw_own_below HV.out.2.1 ?_; repeat' (first | exact Below.refl _ _ | refine below_drew ?_ | refine below_alloc ?_ _)); (exact World.news_of_block (cs := #[.slice (some ⟨g, 0, none⟩) p p]) (t := 22) (fr := (0, 0)) (heap_alloc_new w5 _)); (simp [Value.oneCell']); (unfold maxLen; omega); omega; (simp; omega); intro gg cap2 w6 hown6 hg6 hat6 hlt6; have hb6 : w6.heap[Cc]? = some (.cells #[.int .i64 a, vL] 28 (0, 0)) := (hg6.block Cc (by simp; omega) hCne).trans (below_blk HBOX5.out (by repeat' (first | exact Below.refl _ _ | refine below_drew ?_ | refine below_alloc ?_ _))); have k6 := blk_cellA hb6 1; have l6 := blk_frozen hb6 1)
          all_goals
            have hin := inRow_of (w := w) HO.out hlow HP1.out
            have HS6 := Aside0.mk (HST.out.step (w6 := w6) (by repeat' (first | exact Below.refl _ _ | refine below_drew ?_ | refine below_alloc ?_ _)) hR HN1.out HV.out.1 HV.out.2.1 HV.out.2.2 hin hown6 hg6)
            clear hown6 hg6 hat6 hlt6 hb6 k6 l6 hin wp wm wle b1 g1
            generalize w6.setCell ⟨Cc, 1, none⟩ (.slice (some ⟨gg, 0, none⟩) (L.length + 1) cap2) = w7 at HS6 ⊢
            go_wp2
            go_roundg (cutNL R).2.1.length
            case measure => omega
            case rel => exact ⟨_, _, _, Nat.le_refl _, by omega, rfl, HS6⟩
  · have hbe : ((n.length : Int) == 2) = false := by simpa using (by omega : ¬ (n.length : Int) = 2)
    have hbe2 : ((n.length : Int) != 2) = true := by simpa using (by omega : ¬ (n.length : Int) = 2)
    have HP : Aside0 (parseR s = (0, [], 130)) := ⟨by
      unfold parseR
      rw [HF.out, HN.out]
      match n, hlen with
      | [], _ => rfl
      | [_], _ => rfl
      | _ :: _ :: _ :: _, _ => rfl⟩
    have HB : Aside0 (Below w.heap.size w w2) := ⟨hb3⟩
    have c0 := blk_cellA hR3 0
    have c1 := blk_cellA hR3 1
    have f0 := blk_frozen hR3 0
    have f1 := blk_frozen hR3 1
    clear hlen hC hnc hb3
    go_wp2
    have hs := set2 hR3 (.int .i64 0) (.slice none 0 0)
    have e0 := blk_cellA hs 0
    have e1 := blk_cellA hs 1
    refine bodyPost_ret (v := .tuple #[.agg #[.int .i64 0, .slice none 0 0], .int .i64 130]) (by simp [results, Tryz.results15, go_sem, e0, e1]) rfl ?_
    rw [HP.out]
    exact ⟨_, rfl, RowsOf.nil _ _, set2_below HB.out (Nat.le_refl _) _ _⟩
end Go.Proofs.YtjifancgekoenaaGreatDoor
