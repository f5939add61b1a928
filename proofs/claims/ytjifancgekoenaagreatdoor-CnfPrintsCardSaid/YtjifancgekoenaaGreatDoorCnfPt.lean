import Derived.Test.YtjifancgekoenaaGreatDoorCnfPs
namespace Go.Proofs.YtjifancgekoenaaGreatDoor
open Go.RowKit Go.Proofs.YtjifancgekoenaaGreatDoorW.PrintWords Go.Proofs.YtjifancgekoenaaGreatDoorW.PrintLast Go.Proofs.YtjifancgekoenaaGreatDoorW.PrintMore
set_option linter.unusedVariables false
set_option linter.unusedSimpArgs false

/-- What Print tells. -/
def prT (n : Int) (L : List (List Int)) : List UInt8 := if checkI n L = 0 then printL n L else []
theorem Print_gen (n : Int) (A : Option Addr) (c : Nat) (L : List (List Int)) (w : World) (hL : Laid w) (hC : Kd.C kII w A L.length L) (hW : WfL L) (hb : bulk L ≤ 1000000) :
    Calls Tryz.prog 14 #[.agg #[.int .i64 n, .slice A L.length c]] w fun e w' => e = .returned (.tuple #[.string (bytesB (prT n L)), .int .i64 (checkI n L)]) ∧ Below w.heap.size w w' := by
  unfold prT
  by_cases hk : checkI n L = 0
  · rw [if_pos hk, hk]
    exact Print_ok n A c L w hL hC hW (check_range hk) hb hk
  · rw [if_neg hk]
    exact Print_err n A c L w hC _ rfl (by simpa using hk)
theorem RPrint_gen (n : Int) (A : Option Addr) (c : Nat) (L : List (List Int)) (w : World) (hC : Kd.C kII w A L.length L) (hc : L.length ≤ c) (hW : WfL L) (hb : bulk L ≤ 1000000) :
    Calls Tryz.prog 20 #[.agg #[.int .i64 n, .slice A L.length c]] w fun e w' => e = .returned (.tuple #[.string (bytesB (prT n L)), .int .i64 (checkI n L)]) ∧ Below w.heap.size w w' := by
  have hl : L.length ≤ 1000000 := by unfold bulk at hb; omega
  unfold prT
  by_cases hk : checkI n L = 0
  · rw [if_pos hk, hk]
    exact RPrint_ok n A c L (bulk L) w hC hc hW (fun r hr => row_bulk2 hr) hb hb hk
  · rw [if_neg hk]
    exact RPrint_err n A c L (bulk L) w hC hc hW (fun r hr => row_bulk2 hr) hb hl _ rfl (by simpa using hk)
theorem bytesB_take2 (s : List UInt8) (k : Nat) : (bytesB s).extract 0 k = bytesB (s.take k) := by
  apply ByteArray.ext
  apply Array.ext'
  simp [bytesB, ByteArray.data_extract]

/-- The clauses that are written into: how they lie. -/
structure ShapeX (w : World) (B X : Nat) (p1 : Int) (v : Value) (Ns : List Nat) (vs : List Value) : Prop where
  box : w.heap[X]? = some (.cells #[.int .i64 p1, v] 28 (0, 0))
  hX : B ≤ X
  len : vs.length = Ns.length
  own : w.ownsRow B 22 1 v Ns.length vs
  row : ∀ (j : Nat) y n, vs[j]? = some y → Ns[j]? = some n → 0 < n → ∃ g, ∃ cells : Array Value, y = .slice (some ⟨g, 0, none⟩) n n ∧ B ≤ g ∧ w.heap[g]? = some (.cells cells 3 (0, 0)) ∧ n ≤ cells.size
  form : ∀ (j : Nat) y n, vs[j]? = some y → Ns[j]? = some n → ∃ A, y = .slice A n n ∧ n ≤ 9223372036854775807
theorem shape_of {w : World} {B X : Nat} {p1 : Int} {v : Value} {L : List (List Int)} (hb : w.heap[X]? = some (.cells #[.int .i64 p1, v] 28 (0, 0))) (hX : B ≤ X) (h : RowsOf w B v L) : ∃ vs, ShapeX w B X p1 v (L.map List.length) vs := by
  obtain ⟨vs, h1, h2, h3⟩ := h
  refine ⟨vs, hb, hX, by rw [List.length_map]; exact h1, by rw [List.length_map]; exact h2, fun j y n hy hn hp => ?_, fun j y n hy hn => ?_⟩
  · rw [List.getElem?_map] at hn
    obtain ⟨r, hr, rfl⟩ := Option.map_eq_some_iff.1 hn
    obtain ⟨g, c, x, h4, rfl⟩ := h3 j y r hy hr
    rcases h4.2 with ⟨h, _⟩ | ⟨g', cap, cur, he, hg, hh, h5, _, h7, _⟩
    · cases h
    · cases he
      refine ⟨g, cur, rfl, hg, hh, ?_⟩
      omega
  · rw [List.getElem?_map] at hn
    obtain ⟨r, hr, rfl⟩ := Option.map_eq_some_iff.1 hn
    obtain ⟨g, c, x, h4, rfl⟩ := h3 j y r hy hr
    refine ⟨_, rfl, ?_⟩
    rcases h4.2 with ⟨h, _⟩ | ⟨g', cap, cur, he, _, _, h5, h6, _⟩
    · cases h
    · unfold maxLen at h6; omega
theorem ShapeX.store {w : World} {B X : Nat} {p1 : Int} {v : Value} {Ns : List Nat} {vs : List Value} (h : ShapeX w B X p1 v Ns vs) {g k : Nat} {cells : Array Value} (hg : w.heap[g]? = some (.cells cells 3 (0, 0))) (u : Value) : ShapeX (w.setCell ⟨g, k, none⟩ u) B X p1 v Ns vs where
  box := (Below.heap_setCell _ ⟨g, k, none⟩ _ _ (by
    rintro rfl
    have := hg.symm.trans h.box
    injection this with this
    injection this with _ h2
    exact absurd h2 (by decide))).trans h.box
  hX := h.hX
  len := h.len
  own := own_move h.own (fun b hb => by
    obtain ⟨cs, hc⟩ := own_typed h.own b hb
    refine Below.heap_setCell _ ⟨g, k, none⟩ _ _ ?_
    rintro rfl
    rw [hg] at hc
    injection hc with hc
    injection hc with _ h2
    exact absurd h2 (by decide))
  row := fun j y n hy hn hp => by
    obtain ⟨g2, cs, h1, h2, h3, h4⟩ := h.row j y n hy hn hp
    by_cases e : g2 = g
    · subst e
      rw [hg] at h3
      injection h3 with h3
      injection h3 with h3 _
      subst h3
      exact ⟨g2, cells.setIfInBounds k u, h1, h2, by simp [World.setCell, Array.getElem?_modify, hg], by simpa using h4⟩
    · exact ⟨g2, cs, h1, h2, (Below.heap_setCell _ ⟨g, k, none⟩ _ _ e).trans h3, h4⟩
  form := h.form
theorem ShapeX.below {w w' : World} {B X : Nat} {p1 : Int} {v : Value} {Ns : List Nat} {vs : List Value} (h : ShapeX w B X p1 v Ns vs) (hb : Below w.heap.size w w') : ShapeX w' B X p1 v Ns vs where
  box := below_blk h.box hb
  hX := h.hX
  len := h.len
  own := pw_own_below h.own hb
  row := fun j y n hy hn hp => by
    obtain ⟨g2, cs, h1, h2, h3, h4⟩ := h.row j y n hy hn hp
    exact ⟨g2, cs, h1, h2, below_blk h3 hb, h4⟩
  form := h.form
theorem cell_in {w : World} {g k : Nat} {cells : Array Value} {T : TypeId} (hg : w.heap[g]? = some (.cells cells T (0, 0))) (hk : k < cells.size) : ∃ u, w.cell? ⟨g, k, none⟩ = some u := ⟨cells[k], by rw [blk_cellA hg]; simp [hk]⟩

/-- What stays from turn to turn. -/
structure TSt (w wr : World) (Y : Nat) (p1 : Int) (Ay : Option Addr) (cy : Nat) (L : List (List Int)) : Prop where
  y0 : wr.cell? ⟨Y, 0, none⟩ = some (.int .i64 p1)
  y1 : wr.cell? ⟨Y, 1, none⟩ = some (.slice Ay L.length cy)
  rows : Kd.C kII wr Ay L.length L
  laid : Laid wr
  bel : Below w.heap.size w wr
theorem TSt.below {w wr W' : World} {Y : Nat} {p1 : Int} {Ay : Option Addr} {cy : Nat} {L : List (List Int)} (h : TSt w wr Y p1 Ay cy L) (hb : Below wr.heap.size wr W') : TSt w W' Y p1 Ay cy L where
  y0 := (hb.cell (World.block_lt_of_cell? wr _ h.y0)).trans h.y0
  y1 := (hb.cell (World.block_lt_of_cell? wr _ h.y1)).trans h.y1
  rows := Kd.C_below h.rows hb
  laid := h.laid.below hb
  bel := h.bel.trans (hb.mono h.bel.size)
set_option maxHeartbeats 8000000 in
set_option maxRecDepth 100000 in
theorem CnfPrints_any (n : Int) (A : Option Addr) (c : Nat) (L : List (List Int)) (s : List UInt8) (w : World) (hC : Kd.C kII w A L.length L) (hc : L.length ≤ c) (hW : WfL L) (hn : -9223372036854775808 ≤ n ∧ n ≤ 9223372036854775807) (hs : s.length ≤ 9223372036854775807) (hL : Laid w) :
    Calls Tryz.prog 6 #[.agg #[.int .i64 n, .slice A L.length c], .string (bytesB s)] w fun e w' => e = .returned (.bool true) ∧ Below w.heap.size w w' := by
  have HBd := Bound_any n A c L (w.alloc (.cells #[.int .i64 n, .slice A L.length c] 28)) (Kd.C_below hC (bel_alloc _ _)) hc
  have HW : Aside0 (WfL (boundL L) ∧ bulk (boundL L) ≤ 1000 ∧ (boundL L).length ≤ 60 ∧ Laid w) := ⟨boundL_wf hW, boundL_bulk L, boundL_len L, hL⟩
  have HN : Aside0 (-9223372036854775808 ≤ n ∧ n ≤ 9223372036854775807) := ⟨hn⟩
  obtain ⟨k, hk1⟩ : ∃ k : Nat, min s.length 600 = k := ⟨_, rfl⟩
  have hk2 : (k : Int) ≤ (s.length : Int) := by omega
  have hsz0 : (bytesB s).size = s.length := bytesB_size s
  have hmin : (if (600 : Int) < (s.length : Int) then (600 : Int) else (s.length : Int)) = (k : Int) := by split <;> omega
  have hmin2 : min (s.length : Int) 600 = (k : Int) := by omega
  have HT : Aside0 ((bytesB s).extract 0 k = bytesB (s.take 600) ∧ (s.take 600).length ≤ 600) := ⟨by
    rw [bytesB_take2]
    congr 1
    rcases Nat.lt_or_ge s.length 600 with h | h
    · rw [List.take_of_length_le (by omega), List.take_of_length_le (by omega)]
    · congr 1; omega, by rw [List.length_take]; omega⟩
  have HPE := Aside0.mk (parseA_eq (s.take 600) (by have := HT.out.2; omega))
  clear hC hW hL hn
  go_enter Tryz.func6, Tryz.ntmps6
  go_wp2_with fail
  refine HBd.mono ?_
  clear HBd
  generalize boundL L = B at *
  rintro e W ⟨A', c', rfl, hS, hb⟩
  rw [show (w.alloc (.cells #[.int .i64 n, .slice A L.length c] 28)).heap.size = w.heap.size + 1 from by simp] at hS hb
  have HC := Aside0.mk (atC_store HW.out.2.2.2 hS hb)
  have hbox := atC_box hb
  have k0 := blk_cellA hbox 0
  have k1 := blk_cellA hbox 1
  have l0 := blk_frozen hbox 0
  have l1 := blk_frozen hbox 1
  clear hS hb hbox
  go_wp2_with fail
  rw [HT.out.1]
  clear k0 k1 l0 l1 hmin hmin2 hk2 hk1 hsz0
  generalize (W.setCell ⟨w.heap.size, 0, none⟩ (.int .i64 n)).setCell ⟨w.heap.size, 1, none⟩ (.slice A' B.length c') = W1 at *
  have HSL := Aside0.mk HT.out.2
  clear HT
  generalize s.take 600 = u at *
  refine (Print_gen n A' c' B W1 HC.out.laid HC.out.rows HW.out.1 (by have := HW.out.2.1; omega)).mono ?_
  rintro e W2 ⟨rfl, hb⟩
  have HC2 := Aside0.mk (HC.out.below hb)
  have HRP := Aside0.mk (fun (W : World) hC => RPrint_gen n A' c' B W hC HC2.out.cap HW.out.1 (by have := HW.out.2.1; omega))
  clear hb HC
  generalize prT n B = t at *
  generalize checkI n B = er at *
  have hc0 := HC2.out.c0
  have hc1 := HC2.out.c1
  go_wp2_with fail
  refine (HRP.out W2 HC2.out.rows).mono ?_
  rintro e W3 ⟨rfl, hb⟩
  have HC3 := Aside0.mk (HC2.out.below hb)
  clear hb HC2 HRP hc0 hc1
  go_wp2_with fail
  have HP := RParse_any u (by have := HSL.out; omega) W3
  rw [HPE.out] at HP
  refine HP.mono ?_
  clear HP
  rintro e W4 ⟨v, rfl, hrow, hb⟩
  obtain ⟨Ay, cy, rfl, _, hCy⟩ := hrow.reads
  have HPX := Aside0.mk (fun (W : World) (hL : Laid W) => Parse_any u (by have := HSL.out; omega) W hL)
  obtain ⟨p, hp⟩ : ∃ p, parseR u = p := ⟨_, rfl⟩
  rw [hp] at hrow hCy HPX ⊢
  clear hp
  obtain ⟨p1, p2, p3⟩ := p
  simp only at hrow hCy HPX ⊢
  have HC4 := Aside0.mk (HC3.out.below hb)
  clear hb HC3 hrow
  have hy0 := cell_new W4 #[.int .i64 p1, .slice Ay p2.length cy] 28 0
  have hy1 := cell_new W4 #[.int .i64 p1, .slice Ay p2.length cy] 28 1
  have HT4 : Aside0 (TSt w (W4.alloc (.cells #[.int .i64 p1, .slice Ay p2.length cy] 28)) W4.heap.size p1 Ay cy p2) := ⟨⟨hy0, hy1, Kd.C_below hCy (bel_alloc _ _), HC4.out.laid.below (bel_alloc _ _), below_after HC4.out.bel (bel_alloc _ _) (Nat.le_refl _)⟩⟩
  clear hy0 hy1 hCy HC4
  go_wp2
  generalize W4.alloc (.cells #[.int .i64 p1, .slice Ay p2.length cy] 28) = W5 at *
  generalize W4.heap.size = Y at *
  go_loopg [11] 2 (fun gg s11 wr => ∃ kk : Nat, kk ≤ 2 ∧ 2 - kk ≤ gg ∧ s11 = .int .i64 kk ∧ Aside0 (TSt w wr Y p1 Ay cy p2))
  case atStart => exact ⟨0, by omega, by omega, rfl, HT4⟩
  case round =>
    clear HT4
    obtain ⟨kk, h1, h2, rfl, HT⟩ := hrel
    by_cases hlt : kk < 2
    · have hlt2 : decide ((kk : Int) < 2) = true := by simpa using (by omega : (kk : Int) < 2)
      go_wp2_with fail
      refine (HPX.out wr HT.out.laid).mono ?_
      rintro e W6 ⟨v, rfl, hrow, hb⟩
      obtain ⟨Ax, cx, rfl, _, hCx⟩ := hrow.reads
      have HT6 := Aside0.mk (HT.out.below (hb.trans ((bel_alloc W6 (.cells #[.int .i64 p1, .slice Ax p2.length cx] 28)).mono hb.size)))
      have hx0 := cell_new W6 #[.int .i64 p1, .slice Ax p2.length cx] 28 0
      have hx1 := cell_new W6 #[.int .i64 p1, .slice Ax p2.length cx] 28 1
      have hbox := heap_alloc_new W6 (.cells #[.int .i64 p1, .slice Ax p2.length cx] 28 (0, 0))
      have hsh := shape_of hbox hb.size (hrow.below (bel_alloc W6 (.cells #[.int .i64 p1, .slice Ax p2.length cx] 28)))
      have hCx2 := Kd.C_below hCx (bel_alloc W6 (.cells #[.int .i64 p1, .slice Ax p2.length cx] 28))
      have HB6 : Aside0 (Below wr.heap.size wr (W6.alloc (.cells #[.int .i64 p1, .slice Ax p2.length cx] 28))) := ⟨hb.trans ((bel_alloc W6 (.cells #[.int .i64 p1, .slice Ax p2.length cx] 28)).mono hb.size)⟩
      have hy0 := HT6.out.y0
      have hy1 := HT6.out.y1
      obtain ⟨vs, hsh⟩ := hsh
      have HSH := Aside0.mk hsh
      clear hsh hbox hCx hrow hb
      go_wp2_with fail
      generalize W6.alloc (.cells #[.int .i64 p1, .slice Ax p2.length cx] 28) = W7 at *
      generalize W6.heap.size = X at *
      refine (Lists_any Ax Ay cx cy p2 p2 W7 hCx2 HT6.out.rows).mono ?_
      rintro e W8 ⟨rfl, q, rfl⟩
      rw [show decide (p2 = p2) = true from by simp]
      have HSH8 := Aside0.mk (HSH.out.below (bel_drewN W7 q))
      have HB8 : Aside0 (Below wr.heap.size wr (W7.drewN q)) := ⟨pw_below_drewN HB6.out q⟩
      clear hx0 hx1 hy0 hy1 hCx2 HSH HB6 HT6
      generalize W7.drewN q = W9 at *
      go_wp2
      obtain ⟨wo, rfl⟩ : ∃ wo : World, wo = wr := ⟨_, rfl⟩
      have HNl : Aside0 (p2.length ≤ 9223372036854775807) := ⟨C_max HT.out.rows⟩
      go_loopg [14] p2.length (fun gg s14 wr => ∃ ii : Nat, ii ≤ p2.length ∧ p2.length - ii ≤ gg ∧ s14 = .int .i64 ii ∧ Aside0 (ShapeX wr wo.heap.size X p1 (.slice Ax p2.length cx) (p2.map List.length) vs) ∧ Aside0 (Below wo.heap.size wo wr))
      case atStart => exact ⟨0, by omega, by omega, rfl, HSH8, HB8⟩
      case round =>
        clear HSH8 HB8
        obtain ⟨ii, h3, h4, rfl, HSI, HBI⟩ := hrel
        have hx1 := blk_cellA HSI.out.box 1
        simp only [List.getElem?_toArray, List.getElem_toArray, List.getElem_cons_succ, List.getElem_cons_zero] at hx1
        have hnl := HNl.out
        by_cases hi : ii < p2.length
        · have hi2 : decide ((ii : Int) < (p2.length : Int)) = true := by simpa using hi
          obtain ⟨y, hy⟩ : ∃ y, vs[ii]? = some y := ⟨_, List.getElem?_eq_getElem (by rw [HSI.out.len, List.length_map]; exact hi)⟩
          obtain ⟨m, hm⟩ : ∃ m, (p2.map List.length)[ii]? = some m := ⟨_, List.getElem?_eq_getElem (by rw [List.length_map]; exact hi)⟩
          obtain ⟨A2, rfl, hym⟩ := HSI.out.form ii y m hy hm
          have hO := HSI.out.own
          rw [List.length_map] at hO
          obtain ⟨gv, cap, hAx, _, _⟩ := hO.form (by omega)
          injection hAx with hAx _ hcap
          subst hAx hcap
          have HY : Aside0 (vs[ii]? = some (.slice A2 m m) ∧ (p2.map List.length)[ii]? = some m) := ⟨⟨hy, hm⟩⟩
          clear hy hm hO
          go_wp2
          obtain ⟨w1, rfl⟩ : ∃ w1 : World, w1 = wr := ⟨_, rfl⟩
          go_loopg [15] m (fun gg s15 wr => ∃ jj : Nat, jj ≤ m ∧ m - jj ≤ gg ∧ s15 = .int .i64 jj ∧ Aside0 (ShapeX wr wo.heap.size X p1 (.slice (some ⟨gv, 0, none⟩) p2.length cx) (p2.map List.length) vs) ∧ Aside0 (Below wo.heap.size wo wr))
          case atStart => exact ⟨0, by omega, by omega, rfl, HSI, HBI⟩
          case round =>
            clear HSI HBI hx1
            obtain ⟨jj, h5, h6, rfl, HSJ, HBJ⟩ := hrel
            have hx1 := blk_cellA HSJ.out.box 1
            simp only [List.getElem?_toArray, List.getElem_toArray, List.getElem_cons_succ, List.getElem_cons_zero] at hx1
            have hO := HSJ.out.own
            rw [List.length_map] at hO
            have hv := hO.cells (g := gv) rfl ii _ HY.out.1
            rw [add_plain] at hv
            try simp only [Nat.zero_add] at hv
            clear hO
            by_cases hj : jj < m
            · have hj2 : decide ((jj : Int) < (m : Int)) = true := by simpa using hj
              obtain ⟨g, cells, he, hg1, hg2, hg3⟩ := HSJ.out.row ii _ m HY.out.1 HY.out.2 (by omega)
              injection he with he
              subst he
              obtain ⟨u0, hu⟩ := cell_in (k := jj) hg2 (by omega)
              have hf := blk_frozen hg2 jj
              have HSK := Aside0.mk (HSJ.out.store (k := jj) hg2 (.int .i64 99))
              have HBK := Aside0.mk (HBJ.out.setCell (p := ⟨g, jj, none⟩) hg1 (.int .i64 99))
              clear hg2 hg3 HSJ HBJ
              go_wp2
              go_roundg (m - jj - 1)
              case measure => omega
              case rel => exact ⟨jj + 1, by omega, by omega, by go_num, HSK, HBK⟩
            · have hj2 : decide ((jj : Int) < (m : Int)) = false := by simpa using hj
              go_wp2
              go_roundg (p2.length - ii - 1)
              case measure => omega
              case rel => exact ⟨ii + 1, by omega, by omega, by go_num, HSJ, HBJ⟩
        · have hi2 : decide ((ii : Int) < (p2.length : Int)) = false := by simpa using hi
          have HT9 := Aside0.mk (HT.out.below HBI.out)
          go_wp2
          go_roundg (2 - kk - 1)
          case measure => omega
          case rel => exact ⟨kk + 1, by omega, by omega, by go_num, HT9⟩
    · have hlt2 : decide ((kk : Int) < 2) = false := by simpa using (by omega : ¬ (kk : Int) < 2)
      go_wp2_with fail
      refine (fixed_any wr HT.out.laid).mono ?_
      rintro e W10 ⟨rfl, hb⟩
      have hfin := below_after HT.out.bel hb (Nat.le_refl _)
      go_wp2
      go_ret
      exact ⟨rfl, hfin⟩
end Go.Proofs.YtjifancgekoenaaGreatDoor
