import Derived.Test.YtjifancgekoenaaGreatDoorCnfPr
namespace Go.Proofs.YtjifancgekoenaaGreatDoor
open Go.RowKit Go.Proofs.YtjifancgekoenaaGreatDoorW.PrintWords Go.Proofs.YtjifancgekoenaaGreatDoorW.PrintLast Go.Proofs.YtjifancgekoenaaGreatDoorW.PrintMore
set_option linter.unusedVariables false
set_option linter.unusedSimpArgs false

/-- A row that R13.nums has told, without its last number. -/
def InRowG (w : World) (base : Nat) (v : Value) (r : List Int) : Prop :=
  ∃ g c c2 x, w.ownsRow base 3 1 (.slice (some ⟨g, 0, none⟩) (r.length + 1) c) (r.length + 1) (nums .i64 (r ++ [x])) ∧ v = .slice (some ⟨g, 0, none⟩) r.length c2 ∧ r.length ≤ c2
def RowsG (w : World) (base : Nat) (v : Value) (L : List (List Int)) : Prop :=
  ∃ vs : List Value, vs.length = L.length ∧ w.ownsRow base 22 1 v L.length vs ∧ ∀ (j : Nat) y r, vs[j]? = some y → L[j]? = some r → InRowG w base y r
theorem InRowG.below {w w' : World} {base : Nat} {v : Value} {r : List Int} (h : InRowG w base v r) (hb : Below w.heap.size w w') : InRowG w' base v r := by
  obtain ⟨g, c, c2, x, h1, h2⟩ := h
  exact ⟨g, c, c2, x, pw_own_below h1 hb, h2⟩
theorem RowsG.below {w w' : World} {base : Nat} {v : Value} {L : List (List Int)} (h : RowsG w base v L) (hb : Below w.heap.size w w') : RowsG w' base v L := by
  obtain ⟨vs, h1, h2, h3⟩ := h
  exact ⟨vs, h1, pw_own_below h2 hb, fun j y r hy hr => (h3 j y r hy hr).below hb⟩
theorem RowsG.nil (w : World) (base : Nat) : RowsG w base (.slice none 0 0) [] := ⟨[], rfl, own_nil _ _ _ _, fun j y r hy => by simp at hy⟩
theorem InRowG.other {w w1 : World} {base : Nat} {y v : Value} {r : List Int} {n : Nat} {vs : List Value} (h : InRowG w base y r) (hv : w.ownsRow base 22 1 v n vs) (hg : w.grownBy w1 v.ownBlock) : InRowG w1 base y r := by
  obtain ⟨g, c, c2, x, h1, h2⟩ := h
  exact ⟨g, c, c2, x, own_other h1 hg (own_type_ne h1 hv (by decide)), h2⟩
theorem RowsG.snoc {w w1 : World} {base : Nat} {v v1 y : Value} {L : List (List Int)} {vs : List Value} {r : List Int} (h1 : vs.length = L.length) (h2 : w.ownsRow base 22 1 v L.length vs)
    (h3 : ∀ (j : Nat) y r, vs[j]? = some y → L[j]? = some r → InRowG w base y r) (hy : InRowG w base y r) (ho : w1.ownsRow base 22 1 v1 (vs ++ [y]).length (vs ++ [y])) (hg : w.grownBy w1 v.ownBlock) : RowsG w1 base v1 (L ++ [r]) := by
  refine ⟨vs ++ [y], by simp [h1], by rw [show (L ++ [r]).length = (vs ++ [y]).length from by simp [h1]]; exact ho, fun j y' r' hy' hr' => ?_⟩
  rcases Nat.lt_or_ge j L.length with hj | hj
  · rw [List.getElem?_append_left (by omega)] at hy'
    rw [List.getElem?_append_left hj] at hr'
    exact (h3 j y' r' hy' hr').other h2 hg
  · have hj2 := (List.getElem?_eq_some_iff.1 hr').1
    simp only [List.length_append, List.length_cons, List.length_nil] at hj2
    obtain rfl : j = L.length := by omega
    simp at hr'
    rw [← h1] at hy'
    simp at hy'
    subst hr' hy'
    exact hy.other h2 hg
theorem InRowG.reads {w : World} {base : Nat} {v : Value} {r : List Int} (h : InRowG w base v r) : ∃ A c, v = .slice A r.length c ∧ r.length ≤ c ∧ Kd.C kI w A r.length r := by
  obtain ⟨g, c, c2, x, h1, rfl, hc2⟩ := h
  refine ⟨_, _, rfl, hc2, C_of_cells ?_ (fun j y hj => ?_)⟩
  · have := h1.2
    rcases this with ⟨h, _⟩ | ⟨g', cap, cur, he, _, _, h3, h4, _⟩
    · cases h
    · unfold maxLen at h4; omega
  · have hjl := (List.getElem?_eq_some_iff.1 hj).1
    have := h1.cells (g := g) rfl j (.int .i64 y) (by
      unfold nums
      rw [List.getElem?_map, List.getElem?_append_left hjl, hj]; rfl)
    rw [add_plain] at this
    simpa using this
theorem RowsG.reads {w : World} {base : Nat} {v : Value} {L : List (List Int)} (h : RowsG w base v L) : ∃ A c, v = .slice A L.length c ∧ L.length ≤ c ∧ Kd.C kII w A L.length L := by
  obtain ⟨vs, h1, h2, h3⟩ := h
  rcases h2.2 with ⟨rfl, h0⟩ | ⟨g, cap, cur, rfl, _, _, h4, h5, _⟩
  · have : L = [] := List.eq_nil_of_length_eq_zero h0
    subst this
    exact ⟨none, 0, rfl, Nat.le_refl _, Kd.C_nil _ _⟩
  · refine ⟨_, cap, rfl, by omega, CII_of_cells (by unfold maxLen at h5; omega) (fun j r hj => ?_)⟩
    have hjl := (List.getElem?_eq_some_iff.1 hj).1
    obtain ⟨y, hy⟩ : ∃ y, vs[j]? = some y := ⟨_, List.getElem?_eq_getElem (by omega)⟩
    obtain ⟨A, c, rfl, hc, hC⟩ := (h3 j y r hy hj).reads
    have := h2.cells (g := g) rfl j _ hy
    rw [add_plain] at this
    exact ⟨A, c, by simpa using this, hc, hC⟩
theorem RowsG.moved {w w1 : World} {base : Nat} {v : Value} {L : List (List Int)} (h : RowsG w base v L) (hm : ∀ k : Nat, (∃ cells t, w.heap[k]? = some (.cells cells t (0, 0)) ∧ t ≠ 28) → w1.heap[k]? = w.heap[k]?) : RowsG w1 base v L := by
  have key : ∀ {e n : Nat} {u : Value} {xs : List Value}, e ≠ 28 → w.ownsRow base e 1 u n xs → w1.ownsRow base e 1 u n xs := fun he ho =>
    own_move ho (fun k hk => by
      obtain ⟨cells, hc⟩ := own_typed ho k hk
      exact hm k ⟨cells, _, hc, he⟩)
  obtain ⟨vs, h1, h2, h3⟩ := h
  refine ⟨vs, h1, key (by decide) h2, fun j y r hy hr => ?_⟩
  obtain ⟨g, c, c2, x, h4, h5⟩ := h3 j y r hy hr
  exact ⟨g, c, c2, x, key (by decide) h4, h5⟩
/-- What R13.Parse hands back. -/
def RParseOut (w w' : World) (e : Ending) (a : Int) (L : List (List Int)) (er : Int) : Prop :=
  ∃ v, e = .returned (.tuple #[.agg #[.int .i64 a, v], .int .i64 er]) ∧ RowsG w' w.heap.size v L ∧ Below w.heap.size w w'
/-- The state at the head of the loop over the rows. -/
structure GSt (w wr : World) (s rest : List UInt8) (a : Int) (Cc : Nat) (R : List UInt8) (L : List (List Int)) (vL : Value) : Prop where
  rows : ∃ f, R.length ≤ f ∧ rowsA s.length rest = (rowsA f R).map (L ++ ·)
  own : RowsG wr w.heap.size vL L
  box : wr.heap[Cc]? = some (.cells #[.int .i64 a, vL] 28 (0, 0))
  res : wr.heap[w.heap.size]? = some (.cells #[.int .i64 0, .slice none 0 0] 28 (0, 0))
  bel : Below w.heap.size w wr
  len : L.length + R.length ≤ 100000
  cc : w.heap.size < Cc
theorem GSt.below {w wr w' : World} {s rest : List UInt8} {a : Int} {Cc : Nat} {R : List UInt8} {L : List (List Int)} {vL : Value} (h : GSt w wr s rest a Cc R L vL) (hb : Below wr.heap.size wr w') : GSt w w' s rest a Cc R L vL :=
  { rows := h.rows, own := h.own.below hb, box := below_blk h.box hb, res := below_blk h.res hb, bel := below_then h.bel h.bel.size hb, len := h.len, cc := h.cc }
theorem GSt.bad {w wr : World} {s rest : List UInt8} {a : Int} {Cc : Nat} {R : List UInt8} {L : List (List Int)} {vL : Value} (h : GSt w wr s rest a Cc R L vL) (hR : R ≠ []) (hn : (numsA R [] 0 1 false).1 = []) : rowsA s.length rest = none := by
  obtain ⟨f, hf, he⟩ := h.rows
  rw [he]
  cases f with
  | zero => exact absurd (List.eq_nil_of_length_eq_zero (by omega)) hR
  | succ f => unfold rowsA; rw [if_neg hR, if_pos hn]; rfl
theorem GSt.done {w wr : World} {s rest : List UInt8} {a : Int} {Cc : Nat} {L : List (List Int)} {vL : Value} (h : GSt w wr s rest a Cc [] L vL) : rowsA s.length rest = some L := by
  obtain ⟨f, hf, he⟩ := h.rows
  rw [he]
  cases f <;> simp [rowsA]
theorem parseA_none {s rest : List UInt8} {a a2 : Int} (h1 : (numsA s [] 0 1 false).1 = [a, a2]) (h2 : s.drop (numsA s [] 0 1 false).2 = rest) (h4 : rowsA s.length rest = none) : parseA s = (0, [], 130) := by
  unfold parseA
  rw [h1, h2]
  simp only [h4]
theorem parseA_end {s rest : List UInt8} {a a2 : Int} {L : List (List Int)} (h1 : (numsA s [] 0 1 false).1 = [a, a2]) (h2 : s.drop (numsA s [] 0 1 false).2 = rest) (h4 : rowsA s.length rest = some L) :
    parseA s = if checkI a L = 0 ∧ printL a L = s then (a, L, 0) else (0, [], 130) := by
  unfold parseA
  rw [h1, h2]
  simp only [h4]
theorem GSt.step {w w5 w5a w6 : World} {s rest : List UInt8} {a : Int} {Cc : Nat} {R : List UInt8} {L : List (List Int)} {vL v1 y : Value} {vs : List Value} (h : GSt w w5 s rest a Cc R L vL) (hb : Below w5.heap.size w5 w5a)
    (hR : R ≠ []) (hn : ¬ (numsA R [] 0 1 false).1 = []) (hv1 : vs.length = L.length) (hv2 : w5.ownsRow w.heap.size 22 1 vL L.length vs) (hv3 : ∀ (j : Nat) y r, vs[j]? = some y → L[j]? = some r → InRowG w5 w.heap.size y r)
    (hy : InRowG w5 w.heap.size y (numsA R [] 0 1 false).1.dropLast) (hown : w6.ownsRow w.heap.size 22 1 v1 (L.length + 1) (vs ++ [y])) (hg : w5a.grownBy w6 vL.ownBlock) :
    GSt w (w6.setCell ⟨Cc, 1, none⟩ v1) s rest a Cc (R.drop (numsA R [] 0 1 false).2) (L ++ [(numsA R [] 0 1 false).1.dropLast]) v1 := by
  have hv2a := pw_own_below hv2 hb
  have hbox := below_blk h.box hb
  have hres := below_blk h.res hb
  have hlt : ∀ {b : Nat} {o : Obj}, w5a.heap[b]? = some o → b < w5a.heap.size := fun {b o} ho => by
    rcases Nat.lt_or_ge b w5a.heap.size with h' | h'
    · exact h'
    · rw [Array.getElem?_eq_none h'] at ho; cases ho
  have hbox6 := (hg.block Cc (hlt hbox) (type_ne (cs := []) hv2a hbox (by decide))).trans hbox
  have hres6 := (hg.block w.heap.size (hlt hres) (type_ne (cs := []) hv2a hres (by decide))).trans hres
  have hrows : RowsG w6 w.heap.size v1 (L ++ [(numsA R [] 0 1 false).1.dropLast]) :=
    RowsG.snoc hv1 hv2a (fun j y r h1 h2 => (hv3 j y r h1 h2).below hb) (hy.below hb) (by rw [show (vs ++ [y]).length = L.length + 1 from by simp [hv1]]; exact hown) hg
  have hbel5 : Below w.heap.size w w5a := below_then h.bel h.bel.size hb
  have hbel6 : Below w.heap.size w w6 := pw_below_grown hbel5 _ hbel5.size hg (fun k hk => own_base hv2a k hk)
  have hp := (numsA_pos R [] 0 1 false).1
  have hRp : 0 < R.length := List.length_pos_iff.2 hR
  exact
    { rows := by
        obtain ⟨f, hf, he⟩ := h.rows
        cases f with
        | zero => exact absurd (List.eq_nil_of_length_eq_zero (by omega)) hR
        | succ f =>
          refine ⟨f, by rw [List.length_drop]; omega, ?_⟩
          rw [he]
          conv => lhs; unfold rowsA
          rw [if_neg hR, if_neg hn, Option.map_map]
          congr 1
          funext l
          simp
      own := hrows.moved (fun k ⟨cells, t, hk, ht⟩ => Below.heap_setCell _ ⟨Cc, 1, none⟩ _ _ (by
        rintro rfl
        rw [hbox6] at hk
        injection hk with hk
        injection hk with _ h2
        exact ht h2.symm))
      box := set1 hbox6 v1
      res := (Below.heap_setCell _ ⟨Cc, 1, none⟩ _ _ (by have := h.cc; show w.heap.size ≠ Cc; omega)).trans hres6
      bel := hbel6.setCell (p := ⟨Cc, 1, none⟩) (Nat.le_of_lt h.cc) _
      len := by have := h.len; simp; omega
      cc := h.cc }
theorem inRowG_of {w W4 w5 : World} {g cap p : Nat} {xs : List Int} (h : w5.ownsRow W4.heap.size 3 1 (.slice (some ⟨g, 0, none⟩) (p + 1) cap) (p + 1) (encs (Value.int .i64) xs)) (hle : w.heap.size ≤ W4.heap.size) (hx : xs.length = p + 1) (hc : p + 1 ≤ cap) :
    InRowG w5 w.heap.size (.slice (some ⟨g, 0, none⟩) p cap) xs.dropLast := by
  have hl : xs.dropLast.length = p := by rw [List.length_dropLast, hx]; rfl
  have hne : xs ≠ [] := by intro e; rw [e] at hx; simp at hx
  refine ⟨g, cap, cap, xs.getLast hne, ?_, by rw [hl], by omega⟩
  rw [hl, List.dropLast_concat_getLast]
  exact own_weaken h hle
theorem RNums_own (s : List UInt8) (hs : s.length ≤ 1000000) (i : Nat) (hi : i ≤ s.length) (w : World) :
    Calls Tryz.prog 41 #[.string (bytesB s), .int .i64 i] w fun e w' => ∃ v, e = .returned (.tuple #[v, .int .i64 ((i + (numsA (s.drop i) [] 0 1 false).2 : Nat) : Int)]) ∧
      Kd.R kI 3 w' w.heap.size (fun _ => True) v (numsA (s.drop i) [] 0 1 false).1 ∧ Below w.heap.size w w' :=
  whetstoneref13_nums.calls (3 * (s.length - i) + 3) (bytesB s) i _ _ w (nums_pure s hs _ i [] 0 1 false hi (Nat.zero_le _) (Nat.le_refl _))

set_option maxHeartbeats 4000000 in
set_option maxRecDepth 100000 in
theorem RParse_any (s : List UInt8) (hl : s.length ≤ 100000) (w : World) :
    Calls Tryz.prog 21 #[.string (bytesB s)] w fun e w' => RParseOut w w' e (parseA s).1 (parseA s).2.1 (parseA s).2.2 := by
  obtain ⟨p, hn⟩ : ∃ p, numsA s [] 0 1 false = p := ⟨_, rfl⟩
  obtain ⟨n, i1⟩ := p
  obtain ⟨rest, hr⟩ : ∃ x, s.drop i1 = x := ⟨_, rfl⟩
  have HN : Aside0 ((numsA s [] 0 1 false).1 = n) := ⟨by rw [hn]⟩
  have HR : Aside0 (s.drop (numsA s [] 0 1 false).2 = rest) := ⟨by rw [hn]; exact hr⟩
  have HDR : Aside0 (s.drop i1 = rest) := ⟨hr⟩
  have hi1 : 1 ≤ i1 ∧ i1 ≤ s.length + 1 := by have := numsA_pos s [] 0 1 false; rw [hn] at this; exact ⟨this.1, this.2.1⟩
  have HQ := RNums_own s (by omega) 0 (Nat.zero_le _) (w.alloc (.cells #[.int .i64 0, .slice none 0 0] 28))
  rw [List.drop_zero, hn] at HQ
  simp only [Nat.zero_add] at HQ
  have hsz : (bytesB s).size = s.length := bytesB_size s
  clear hn hr
  go_enter Tryz.func21, Tryz.ntmps21
  go_wp2_with fail
  refine HQ.mono ?_
  clear HQ
  rintro e w2 ⟨v, rfl, hv, hb2⟩
  have hb0 : Below w.heap.size w (w.alloc (.cells #[.int .i64 0, .slice none 0 0] 28)) := bel1 _ _
  have hR0 : (w.alloc (.cells #[.int .i64 0, .slice none 0 0] 28)).heap[w.heap.size]? = some (.cells #[.int .i64 0, .slice none 0 0] 28 (0, 0)) := heap_alloc_new w _
  obtain ⟨A, c, rfl, hnc, hC⟩ := Kd.R_reads hv
  have hb3 := below_then hb0 hb0.size hb2
  have hR3 := below_blk hR0 hb2
  clear hb0 hR0 hv hb2
  by_cases hlen : n.length = 2
  · obtain ⟨a, a2, rfl⟩ : ∃ a a2, n = [a, a2] := by
      match n, hlen with
      | [a, a2], _ => exact ⟨a, a2, rfl⟩
    obtain ⟨ad, rfl, hca⟩ := Kd.at_int hC 0 (by simp) (by simp)
    have hca' : w2.cell? ad = some (.int .i64 a) := by simpa [Addr.add, rd] using hca
    clear hca hC hnc hlen
    have hcc : w.heap.size < w2.heap.size := by
      rcases Nat.lt_or_ge w.heap.size w2.heap.size with h' | h'
      · exact h'
      · rw [Array.getElem?_eq_none h'] at hR3; cases hR3
    have hst : GSt w (w2.alloc (.cells #[.int .i64 a, .slice none 0 0] 28)) s rest a w2.heap.size rest [] (.slice none 0 0) :=
      { rows := ⟨s.length, by rw [← HDR.out, List.length_drop]; omega, by simp⟩
        own := RowsG.nil _ _
        box := heap_alloc_new _ _
        res := below_blk hR3 (bel1 _ _)
        bel := below_then hb3 hb3.size (bel1 _ _)
        len := by simp; rw [← HDR.out, List.length_drop]; omega
        cc := hcc }
    have HST : Aside0 (GSt w (w2.alloc (.cells #[.int .i64 a, .slice none 0 0] 28)) s rest a w2.heap.size rest [] (.slice none 0 0)) := ⟨hst⟩
    clear hst hcc hb3 hR3
    go_wp2
    obtain ⟨Cc, hCc⟩ : ∃ Cc, w2.heap.size = Cc := ⟨_, rfl⟩
    rw [hCc] at HST ⊢
    clear hCc
    generalize w2.alloc (.cells #[.int .i64 a, .slice none 0 0] 28) = W3 at HST ⊢
    clear hca' w2
    go_loopg [5] (s.length + 1 - i1) (fun gg s5 wr => ∃ (i : Nat) (R : List UInt8) (L : List (List Int)) (vL : Value), s.length + 1 - i ≤ gg ∧ i ≤ s.length + 1 ∧ R.length ≤ 100000 ∧ s5 = .int .i64 i ∧ Aside0 (s.drop i = R) ∧ Aside0 (GSt w wr s rest a Cc R L vL))
    case atStart => exact ⟨i1, rest, [], _, Nat.le_refl _, hi1.2, by rw [← HDR.out, List.length_drop]; omega, rfl, HDR, HST⟩
    case round =>
      clear HST W3
      obtain ⟨i, R, L, vL, hg, hi9, hRl, rfl, HDI, HST⟩ := hrel
      by_cases hR : s.length ≤ i
      · obtain rfl : R = [] := by rw [← HDI.out]; exact List.drop_of_length_le hR
        have hE : decide ((i : Int) < (s.length : Int)) = false := by simpa using (by omega : ¬ (i : Int) < (s.length : Int))
        have hdone := HST.out.done
        have HPE := parseA_end HN.out HR.out hdone
        obtain ⟨hbk, hwf⟩ := rowsA_facts _ _ _ hdone
        have hbk2 : rest.length ≤ s.length := by rw [← HDR.out, List.length_drop]; omega
        have hll : L.length ≤ 1000000 := by unfold bulk at hbk; omega
        have hRs := HST.out.own
        obtain ⟨A, cc, rfl, hcl, hC⟩ := hRs.reads
        have hbox := HST.out.box
        have b0 := blk_cellA hbox 0
        have b1 := blk_cellA hbox 1
        have HRES : Aside0 (wr.heap[w.heap.size]? = some (.cells #[.int .i64 0, .slice none 0 0] 28 (0, 0))) := ⟨HST.out.res⟩
        have HBEL : Aside0 (Below w.heap.size w wr) := ⟨HST.out.bel⟩
        have HBOX : Aside0 (wr.heap[Cc]? = some (.cells #[.int .i64 a, .slice A L.length cc] 28 (0, 0))) := ⟨hbox⟩
        have HROW : Aside0 (RowsG wr w.heap.size (.slice A L.length cc) L) := ⟨hRs⟩
        have hcc := HST.out.cc
        clear HST hRs hbox hdone
        by_cases hk : checkI a L = 0
        · have HPR := RPrint_ok a A cc L (bulk L) wr hC hcl hwf (fun r hr => row_bulk2 hr) (by omega) (by omega) hk
          by_cases hs : printL a L = s
          · have HP : Aside0 (parseA s = (a, L, 0)) := ⟨by rw [HPE, if_pos ⟨hk, hs⟩]⟩
            rw [hs] at HPR
            clear HPE hk hs hC hwf hbk
            go_wp2_with fail
            refine HPR.mono ?_
            rintro e w6 ⟨rfl, hb6⟩
            have HRES6 : Aside0 (w6.heap[w.heap.size]? = some (.cells #[.int .i64 0, .slice none 0 0] 28 (0, 0))) := ⟨below_blk HRES.out hb6⟩
            have hbox6 := below_blk HBOX.out hb6
            have d0 := blk_cellA hbox6 0
            have d1 := blk_cellA hbox6 1
            have c0 := blk_cellA HRES6.out 0
            have c1 := blk_cellA HRES6.out 1
            have f0 := blk_frozen HRES6.out 0
            have f1 := blk_frozen HRES6.out 1
            have HROW6 := Aside0.mk (HROW.out.below hb6)
            have HBEL6 := Aside0.mk (below_then HBEL.out HBEL.out.size hb6)
            clear b0 b1 hb6 hbox6
            go_wp2_with fail
            have hs := set2 HRES6.out (.int .i64 a) (.slice A L.length cc)
            have e0 := blk_cellA hs 0
            have e1 := blk_cellA hs 1
            refine bodyPost_ret (v := .tuple #[.agg #[.int .i64 a, .slice A L.length cc], .int .i64 0]) (by simp [results, Tryz.results21, go_sem, e0, e1]) rfl ?_
            rw [HP.out]
            exact ⟨_, rfl, HROW6.out.moved (fun k h => set2_other HRES6.out _ _ k h), set2_below HBEL6.out (Nat.le_refl _) _ _⟩
          · have HP : Aside0 (parseA s = (0, [], 130)) := ⟨by rw [HPE, if_neg (fun h => hs h.2)]⟩
            have hne : ((bytesB (printL a L)).toList == (bytesB s).toList) = false := by
              rw [toList_bytes, toList_bytes]; simpa using hs
            generalize bytesB (printL a L) = t at *
            clear HPE hk hs hC hwf hbk
            go_wp2_with fail
            refine HPR.mono ?_
            rintro e w6 ⟨rfl, hb6⟩
            have HRES6 : Aside0 (w6.heap[w.heap.size]? = some (.cells #[.int .i64 0, .slice none 0 0] 28 (0, 0))) := ⟨below_blk HRES.out hb6⟩
            have c0 := blk_cellA HRES6.out 0
            have c1 := blk_cellA HRES6.out 1
            have f0 := blk_frozen HRES6.out 0
            have f1 := blk_frozen HRES6.out 1
            have HBEL6 := Aside0.mk (below_then HBEL.out HBEL.out.size hb6)
            clear b0 b1 hb6
            go_wp2_with fail
            have hs := set2 HRES6.out (.int .i64 0) (.slice none 0 0)
            have e0 := blk_cellA hs 0
            have e1 := blk_cellA hs 1
            refine bodyPost_ret (v := .tuple #[.agg #[.int .i64 0, .slice none 0 0], .int .i64 130]) (by simp [results, Tryz.results21, go_sem, e0, e1]) rfl ?_
            rw [HP.out]
            exact ⟨_, rfl, RowsG.nil _ _, set2_below HBEL6.out (Nat.le_refl _) _ _⟩
        · have HP : Aside0 (parseA s = (0, [], 130)) := ⟨by rw [HPE, if_neg (fun h => hk h.1)]⟩
          obtain ⟨er, her⟩ : ∃ er, checkI a L = er := ⟨_, rfl⟩
          rw [her] at hk
          have hk0 : (er == 0) = false := by simpa using hk
          have hk1 : (er != 0) = true := by simpa using hk
          have HPR := RPrint_err a A cc L (bulk L) wr hC hcl hwf (fun r hr => row_bulk2 hr) (by omega) hll er her hk0
          clear HPE hk her hC hwf hbk
          go_wp2_with fail
          refine HPR.mono ?_
          rintro e w6 ⟨rfl, hb6⟩
          have HRES6 : Aside0 (w6.heap[w.heap.size]? = some (.cells #[.int .i64 0, .slice none 0 0] 28 (0, 0))) := ⟨below_blk HRES.out hb6⟩
          have c0 := blk_cellA HRES6.out 0
          have c1 := blk_cellA HRES6.out 1
          have f0 := blk_frozen HRES6.out 0
          have f1 := blk_frozen HRES6.out 1
          have HBEL6 := Aside0.mk (below_then HBEL.out HBEL.out.size hb6)
          clear b0 b1 hb6
          go_wp2_with fail
          have hs := set2 HRES6.out (.int .i64 0) (.slice none 0 0)
          have e0 := blk_cellA hs 0
          have e1 := blk_cellA hs 1
          refine bodyPost_ret (v := .tuple #[.agg #[.int .i64 0, .slice none 0 0], .int .i64 130]) (by simp [results, Tryz.results21, go_sem, e0, e1]) rfl ?_
          rw [HP.out]
          exact ⟨_, rfl, RowsG.nil _ _, set2_below HBEL6.out (Nat.le_refl _) _ _⟩
      · have hE : decide ((i : Int) < (s.length : Int)) = true := by simpa using (by omega : (i : Int) < (s.length : Int))
        have hRne : R ≠ [] := by rw [← HDI.out]; intro e; have := congrArg List.length e; rw [List.length_drop] at this; simp at this; omega
        have HQ := RNums_own s (by omega) i (by omega) wr
        rw [HDI.out] at HQ
        have hpz := numsA_pos R [] 0 1 false
        have hRi : R.length = s.length - i := by rw [← HDI.out, List.length_drop]
        obtain ⟨nx, hnx⟩ : ∃ nx, (numsA R [] 0 1 false).2 = nx := ⟨_, rfl⟩
        rw [hnx] at HQ hpz
        have HNX : Aside0 ((numsA R [] 0 1 false).2 = nx) := ⟨hnx⟩
        clear hnx
        go_wp2_with fail
        refine HQ.mono ?_
        clear HQ
        rintro e w5 ⟨v, rfl, hv, hb5⟩
        have hlow := HST.out.bel.size
        replace HST : Aside0 (GSt w w5 s rest a Cc R L vL) := ⟨HST.out.below hb5⟩
        by_cases hn : (numsA R [] 0 1 false).1 = []
        · have HP : Aside0 (parseA s = (0, [], 130)) := ⟨parseA_none HN.out HR.out (HST.out.bad hRne hn)⟩
          rw [hn] at hv
          obtain ⟨A5, c5, rfl, _, _⟩ := Kd.R_reads hv
          have hR3 := HST.out.res
          have c0 := blk_cellA hR3 0
          have c1 := blk_cellA hR3 1
          have f0 := blk_frozen hR3 0
          have f1 := blk_frozen hR3 1
          have hs := set2 hR3 (.int .i64 0) (.slice none 0 0)
          have HR3 : Aside0 (w5.heap[w.heap.size]? = some (.cells #[.int .i64 0, .slice none 0 0] 28 (0, 0))) := ⟨hR3⟩
          clear hv hb5 hn hs hR3
          go_wp2
          have hs := set2 HR3.out (.int .i64 0) (.slice none 0 0)
          have e0 := blk_cellA hs 0
          have e1 := blk_cellA hs 1
          refine bodyPost_ret (v := .tuple #[.agg #[.int .i64 0, .slice none 0 0], .int .i64 130]) (by simp [results, Tryz.results21, go_sem, e0, e1]) rfl ?_
          rw [HP.out]
          exact ⟨_, rfl, RowsG.nil _ _, set2_below HST.out.bel (Nat.le_refl _) _ _⟩
        · obtain ⟨p, hp⟩ : ∃ p, ((numsA R [] 0 1 false).1).length = p + 1 := ⟨((numsA R [] 0 1 false).1).length - 1, by have := List.length_pos_iff.2 hn; omega⟩
          have hnl := numsA_count R [] 0 1 false
          rw [HNX.out] at hnl
          simp only [List.length_nil] at hnl
          have hO := Kd.own_of_R (h1 := fun _ => rfl) hv
          rw [hp] at hO hnl
          obtain ⟨g, cap, rfl, hgb, hgl⟩ := hO.form (by omega)
          have hcap : p + 1 ≤ cap := by
            rcases hO.2 with ⟨h, _⟩ | ⟨g', cap', cur, he, _, _, h3, h4, _⟩
            · cases h
            · cases he; exact h3
          obtain ⟨vs, hv1, hv2, hv3⟩ := HST.out.own
          have hbox := HST.out.box
          have b1 := blk_cellA hbox 1
          have g1 := blk_frozen hbox 1
          have hCl : Cc < w5.heap.size := by
            rcases Nat.lt_or_ge Cc w5.heap.size with h' | h'
            · exact h'
            · rw [Array.getElem?_eq_none h'] at hbox; cases hbox
          have hCne : some Cc ≠ vL.ownBlock := by
            intro he
            obtain ⟨cells, hc⟩ := own_typed hv2 Cc he.symm
            rw [hbox] at hc
            injection hc with hc
            injection hc with _ h2
            exact absurd h2 (by decide)
          obtain ⟨i0, hi0, hz0, hz1, hz2⟩ := info_parts infoII
          have hLl : L.length ≤ 300000 := by have := HST.out.len; omega
          have hw5 : w.heap.size ≤ w5.heap.size := HST.out.bel.size
          have HV : Aside0 (vs.length = L.length ∧ w5.ownsRow w.heap.size 22 1 vL L.length vs ∧ ∀ (j : Nat) y r, vs[j]? = some y → L[j]? = some r → InRowG w5 w.heap.size y r) := ⟨⟨hv1, hv2, hv3⟩⟩
          have HO : Aside0 (w5.ownsRow wr.heap.size 3 1 (.slice (some ⟨g, 0, none⟩) (p + 1) cap) (p + 1) (encs (Value.int .i64) ((numsA R [] 0 1 false).1))) := ⟨hO⟩
          have HN1 : Aside0 (¬ (numsA R [] 0 1 false).1 = []) := ⟨hn⟩
          have HP1 : Aside0 (((numsA R [] 0 1 false).1).length = p + 1) := ⟨hp⟩
          have HI0 : Aside0 (Tryz.prog.info? 22 = some i0) := ⟨hi0⟩
          have HZ : Aside0 (i0.zero = some (.slice none 0 0) ∧ i0.size = 1 ∧ i0.bytes = 24) := ⟨⟨hz0, hz1, hz2⟩⟩
          have q1 : (0 : Int) ≤ (p : Int) := by omega
          have q2 : (p : Int) ≤ (cap : Int) := by omega
          have HBOX5 : Aside0 (w5.heap[Cc]? = some (.cells #[.int .i64 a, vL] 28 (0, 0))) := ⟨hbox⟩
          clear hv1 hv2 hv3 hO hv hn hp hi0 hz0 hz1 hz2 hb5 hbox hE
          have wp : IntKind.i64.wrap (p : Int) = (p : Int) := IntWalk.i64_in _ (by omega)
          have wm : max (p : Int) 0 = (p : Int) := by omega
          have wle : (p : Int) ≤ (p : Int) := by omega
          go_wp2_with fail
          go_region_law ((refine step_append_lies _ (by rfl) _ _ _ (by rfl) w.heap.size 22 i0 _ 1 24 Tryz.underlying26 HI0.out HZ.out.1 HZ.out.2.1 HZ.out.2.2 rfl (by omega) vL L.length vs (by rfl) ?_ ⟨w5.heap.size, 0, none⟩ 1 1 [.slice (some ⟨g, 0, none⟩) p cap] (by rfl) (by rfl) ?_ ?_ (by omega) ?_ ?_ ?_ _ rfl ?_); (refine pw_own_below HV.out.2.1 ?_; repeat' (first | exact Below.refl _ _ | refine below_drew ?_ | refine below_alloc ?_ _)); (exact World.news_of_block (cs := #[.slice (some ⟨g, 0, none⟩) p cap]) (t := 22) (fr := (0, 0)) (heap_alloc_new w5 _)); (simp [Value.oneCell']); (unfold maxLen; omega); omega; (simp; omega); intro gg cap2 w6 hown6 hg6 hat6 hlt6; have hb6 : w6.heap[Cc]? = some (.cells #[.int .i64 a, vL] 28 (0, 0)) := (hg6.block Cc (by simp; omega) hCne).trans (below_blk HBOX5.out (by repeat' (first | exact Below.refl _ _ | refine below_drew ?_ | refine below_alloc ?_ _))); have k6 := blk_cellA hb6 1; have l6 := blk_frozen hb6 1)
          all_goals
            have hin := inRowG_of (w := w) HO.out hlow HP1.out hcap
            have HS6 := Aside0.mk (HST.out.step (w6 := w6) (by repeat' (first | exact Below.refl _ _ | refine below_drew ?_ | refine below_alloc ?_ _)) hRne HN1.out HV.out.1 HV.out.2.1 HV.out.2.2 hin hown6 hg6)
            clear hown6 hg6 hat6 hlt6 hb6 k6 l6 hin wp wm wle b1 g1
            generalize w6.setCell ⟨Cc, 1, none⟩ (.slice (some ⟨gg, 0, none⟩) (L.length + 1) cap2) = w7 at HS6 ⊢
            go_wp2
            have HD2 : Aside0 (s.drop (i + nx) = R.drop (numsA R [] 0 1 false).2) := ⟨by rw [HNX.out, ← HDI.out, List.drop_drop]⟩
            go_roundg (s.length + 1 - (i + nx))
            case measure => omega
            case rel => exact ⟨i + nx, _, _, _, Nat.le_refl _, by omega, by rw [List.length_drop]; omega, by go_num, HD2, HS6⟩
  · have hbe : ((n.length : Int) == 2) = false := by simpa using (by omega : ¬ (n.length : Int) = 2)
    have hbe2 : ((n.length : Int) != 2) = true := by simpa using (by omega : ¬ (n.length : Int) = 2)
    have HP : Aside0 (parseA s = (0, [], 130)) := ⟨by
      unfold parseA
      rw [HN.out]
      match n, hlen with
      | [], _ => rfl
      | [_], _ => rfl
      | _ :: _ :: _ :: _, _ => rfl⟩
    have HB : Aside0 (Below w.heap.size w w2) := ⟨hb3⟩
    have c0 := blk_cellA hR3 0
    have c1 := blk_cellA hR3 1
    have f0 := blk_frozen hR3 0
    have f1 := blk_frozen hR3 1
    clear hlen hC hnc hb3
    go_wp2
    have hs := set2 hR3 (.int .i64 0) (.slice none 0 0)
    have e0 := blk_cellA hs 0
    have e1 := blk_cellA hs 1
    refine bodyPost_ret (v := .tuple #[.agg #[.int .i64 0, .slice none 0 0], .int .i64 130]) (by simp [results, Tryz.results21, go_sem, e0, e1]) rfl ?_
    rw [HP.out]
    exact ⟨_, rfl, RowsG.nil _ _, set2_below HB.out (Nat.le_refl _) _ _⟩
end Go.Proofs.YtjifancgekoenaaGreatDoor
