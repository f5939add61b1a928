import Derived.Test.YtdgkbigmdadlaaaGreatDoorAsmF
namespace Go.Proofs.YtdgkbigmdadlaaaGreatDoor
open Go.RowKit Go.Lib Go.Proofs.YtdgkbigmdadlaaaGreatDoorW.PrintWords Go.Proofs.YtdgkbigmdadlaaaGreatDoorW.PrintLast
set_option linter.unusedVariables false
set_option linter.unusedSimpArgs false

set_option maxHeartbeats 1000000 in
set_option maxRecDepth 100000 in
theorem number_any (l : List UInt8) (hl : l.length ≤ 1000000) (w : World) (hL : Laid w) : Calls Tryz.prog 28 #[.string (bytesB l)] w fun e w' => e = .returned (.int .i64 (atoiV l)) ∧ Below w.heap.size w w' := by
  have HA := Atoi_any l (by omega) w hL
  clear hL hl
  generalize bytesB l = t at *
  generalize atoiV l = v at *
  go_enter Tryz.func28, Tryz.ntmps28
  go_wp2_with (go_at_call 48; refine HA.mono ?_; rintro e w' ⟨⟨ev, rfl⟩, hb⟩)
  go_ret
  exact ⟨rfl, hb⟩
theorem trim_len (l p : List UInt8) : (Lib.trimPrefix l p).length ≤ l.length := by unfold Lib.trimPrefix; split <;> (try rw [List.length_drop]) <;> omega
theorem trims_len (l p : List UInt8) : (Lib.trimSuffix l p).length ≤ l.length := by unfold Lib.trimSuffix; split <;> (try rw [List.length_take]) <;> omega
set_option maxHeartbeats 1000000 in
set_option maxRecDepth 100000 in
theorem register_any (l : List UInt8) (hl : l.length ≤ 1000000) (w : World) (hL : Laid w) : Calls Tryz.prog 27 #[.string (bytesB l)] w fun e w' => e = .returned (.int .i64 (registerV l)) ∧ Below w.heap.size w w' := by
  have HT : Calls Tryz.prog 47 #[.string (bytesB l), .string ⟨#[120]⟩] w _ := TrimPrefix_any l [120] w
  have HA := number_any (Lib.trimPrefix l [120]) (by have := trim_len l [120]; omega) w hL
  unfold registerV
  clear hL hl
  generalize bytesB (Lib.trimPrefix l [120]) = u at *
  generalize bytesB l = t at *
  generalize atoiV (Lib.trimPrefix l [120]) = v at *
  go_enter Tryz.func27, Tryz.ntmps27
  go_wp2_with fail
  refine HT.mono ?_
  rintro e w' ⟨rfl, rfl⟩
  go_wp2_with fail
  refine HA.mono ?_
  rintro e w' ⟨rfl, hb⟩
  go_wp2_with fail
  go_ret
  exact ⟨rfl, hb⟩
set_option maxHeartbeats 1000000 in
set_option maxRecDepth 100000 in
theorem bracket_any (l : List UInt8) (hl : l.length ≤ 1000000) (w : World) (hL : Laid w) : Calls Tryz.prog 29 #[.string (bytesB l)] w fun e w' => e = .returned (.tuple #[.int .i64 (bracket1 l), .int .i64 (bracket2 l)]) ∧ Below w.heap.size w w' := by
  have HT : Calls Tryz.prog 49 #[.string (bytesB l), .string ⟨#[41]⟩] w _ := TrimSuffix_any l [41] (by omega) w
  have hl2 := trims_len l [41]
  have hl3 := cutB_len 40 (Lib.trimSuffix l [41])
  have HC := Cut_any 40 (Lib.trimSuffix l [41]) (by omega) w hL
  have HL := Aside0.mk hL
  unfold bracket1 bracket2
  generalize Lib.trimSuffix l [41] = u at *
  generalize cutB 40 u = p at *
  obtain ⟨p1, p2, p3⟩ := p
  simp only at *
  have H1 := Aside0.mk (fun (W : World) hL => number_any p1 (by omega) W hL)
  have H2 := Aside0.mk (fun (W : World) hL => register_any p2 (by omega) W hL)
  clear hL hl hl2 hl3
  go_enter Tryz.func29, Tryz.ntmps29
  go_wp2_with fail
  refine HT.mono ?_
  rintro e w' ⟨rfl, rfl⟩
  go_wp2_with fail
  refine HC.mono ?_
  rintro e w1 ⟨rfl, hb⟩
  have HL1 := Aside0.mk (HL.out.below hb)
  go_wp2_with fail
  refine (H1.out _ HL1.out).mono ?_
  rintro e w2 ⟨rfl, hb2⟩
  have HL2 := Aside0.mk (HL1.out.below hb2)
  go_wp2_with fail
  refine (H2.out _ HL2.out).mono ?_
  rintro e w3 ⟨rfl, hb3⟩
  have hfin := below_after (below_after hb hb2 (Nat.le_refl _)) hb3 (Nat.le_refl _)
  go_wp2_with fail
  go_ret2
  exact ⟨rfl, hfin⟩

/-! blocks -/
theorem blk_frozen {w : World} {b : Nat} {cs : Array Value} {T : TypeId} (hb : w.heap[b]? = some (.cells cs T (0, 0))) (j : Nat) : w.frozen? ⟨b, j, none⟩ = false := by simp [World.frozen?, hb]
theorem blk_cellA {w : World} {b : Nat} {cs : Array Value} {T : TypeId} (hb : w.heap[b]? = some (.cells cs T (0, 0))) (j : Nat) : w.cell? ⟨b, j, none⟩ = cs[j]? := by simp [World.cell?, hb]
theorem blk_lt {w : World} {b : Nat} {o : Obj} (hb : w.heap[b]? = some o) : b < w.heap.size := by
  rcases Nat.lt_or_ge b w.heap.size with h' | h'
  · exact h'
  · rw [Array.getElem?_eq_none h'] at hb; cases hb
theorem below_blk {w w' : World} {b : Nat} {o : Obj} (hb : w.heap[b]? = some o) (h : Below w.heap.size w w') : w'.heap[b]? = some o := (h.block b (blk_lt hb)).trans hb
theorem setc {w : World} {b : Nat} {cs : Array Value} {T : TypeId} (hb : w.heap[b]? = some (.cells cs T (0, 0))) (j : Nat) (u : Value) : (w.setCell ⟨b, j, none⟩ u).heap[b]? = some (.cells (cs.setIfInBounds j u) T (0, 0)) := by
  simp [World.setCell, Array.getElem?_modify, hb]
theorem setc_other {w : World} {b b2 : Nat} {o : Obj} (hb : w.heap[b2]? = some o) (h : b2 ≠ b) (j : Nat) (u : Value) : (w.setCell ⟨b, j, none⟩ u).heap[b2]? = some o :=
  (Below.heap_setCell _ ⟨b, j, none⟩ _ _ h).trans hb
theorem set5 {w : World} {b : Nat} {a0 a1 a2 a3 a4 : Value} {T : TypeId} (hb : w.heap[b]? = some (.cells #[a0, a1, a2, a3, a4] T (0, 0))) (u0 u1 u2 u3 u4 : Value) :
    (((((w.setCell ⟨b, 0, none⟩ u0).setCell ⟨b, 1, none⟩ u1).setCell ⟨b, 2, none⟩ u2).setCell ⟨b, 3, none⟩ u3).setCell ⟨b, 4, none⟩ u4).heap[b]? = some (.cells #[u0, u1, u2, u3, u4] T (0, 0)) :=
  setc (setc (setc (setc (setc hb 0 u0) 1 u1) 2 u2) 3 u3) 4 u4
theorem set5_below {w W : World} {B b : Nat} (h : Below B w W) (hB : B ≤ b) (u0 u1 u2 u3 u4 : Value) : Below B w (((((W.setCell ⟨b, 0, none⟩ u0).setCell ⟨b, 1, none⟩ u1).setCell ⟨b, 2, none⟩ u2).setCell ⟨b, 3, none⟩ u3).setCell ⟨b, 4, none⟩ u4) :=
  ((((h.setCell (p := ⟨b, 0, none⟩) hB _).setCell (p := ⟨b, 1, none⟩) hB _).setCell (p := ⟨b, 2, none⟩) hB _).setCell (p := ⟨b, 3, none⟩) hB _).setCell (p := ⟨b, 4, none⟩) hB _
/-- The state of asm.fill: the result, the instruction, the parts. -/
structure FSt (w W : World) (bk : Nat) (op : Int) (ps : List (List UInt8)) (x : Array Value) : Prop where
  res : W.heap[w.heap.size]? = some (.cells #[.int .i64 0, .int .i64 0, .int .i64 0, .int .i64 0, .int .i64 0] 23 (0, 0))
  box : W.heap[w.heap.size + 1]? = some (.cells x 23 (0, 0))
  row : W.heap[bk]? = some (.cells (ps.map fun l => Value.string (bytesB l)).toArray 9 (0, 0))
  bel : Below w.heap.size w W
  laid0 : Laid w
theorem FSt.below {w W W' : World} {bk : Nat} {op : Int} {ps : List (List UInt8)} {x : Array Value} (h : FSt w W bk op ps x) (hb : Below W.heap.size W W') : FSt w W' bk op ps x :=
  ⟨below_blk h.res hb, below_blk h.box hb, below_blk h.row hb, below_after h.bel hb (Nat.le_refl _), h.laid0⟩
theorem FSt.set {w W : World} {bk : Nat} {op : Int} {ps : List (List UInt8)} {x : Array Value} (h : FSt w W bk op ps x) (j : Nat) (u : Value) : FSt w (W.setCell ⟨w.heap.size + 1, j, none⟩ u) bk op ps (x.setIfInBounds j u) where
  res := setc_other h.res (by omega) j u
  box := setc h.box j u
  row := setc_other h.row (fun e => by
    have h1 := h.box
    rw [← e, h.row] at h1
    injection h1 with h1
    injection h1 with _ h2
    exact absurd h2 (by decide)) j u
  bel := h.bel.setCell (p := ⟨w.heap.size + 1, j, none⟩) (by show w.heap.size ≤ w.heap.size + 1; omega) u
  laid0 := h.laid0
theorem FSt.laid {w W : World} {bk : Nat} {op : Int} {ps : List (List UInt8)} {x : Array Value} (h : FSt w W bk op ps x) : Laid W := h.laid0.below h.bel
theorem fst_new (w : World) (bk : Nat) (op : Int) (ps : List (List UInt8)) (hb : w.heap[bk]? = some (.cells (ps.map fun l => Value.string (bytesB l)).toArray 9 (0, 0))) (hL : Laid w) :
    FSt w ((w.alloc (.cells #[.int .i64 0, .int .i64 0, .int .i64 0, .int .i64 0, .int .i64 0] 23)).alloc (.cells #[.int .i64 op, .int .i64 0, .int .i64 0, .int .i64 0, .int .i64 0] 23)) bk op ps #[.int .i64 op, .int .i64 0, .int .i64 0, .int .i64 0, .int .i64 0] where
  res := by rw [Below.heap_alloc _ _ _ (by simp)]; exact heap_alloc_new w _
  box := by
    have := heap_alloc_new (w.alloc (.cells #[.int .i64 0, .int .i64 0, .int .i64 0, .int .i64 0, .int .i64 0] 23)) (.cells #[.int .i64 op, .int .i64 0, .int .i64 0, .int .i64 0, .int .i64 0] 23)
    rwa [show (w.alloc (.cells #[.int .i64 0, .int .i64 0, .int .i64 0, .int .i64 0, .int .i64 0] 23)).heap.size = w.heap.size + 1 from by simp] at this
  row := by
    have hlt := blk_lt hb
    rw [Below.heap_alloc _ _ _ (by simp; omega), Below.heap_alloc _ _ _ hlt]
    exact hb
  bel := ((Below.refl _ w).alloc (Nat.le_refl _) _).alloc (by simp) _
  laid0 := hL
abbrev I5.vals (x : I5) : Array Value := #[.int .i64 x.op, .int .i64 x.rd, .int .i64 x.a, .int .i64 x.b, .int .i64 x.n]
set_option maxHeartbeats 8000000 in
set_option maxRecDepth 100000 in
theorem fill_E (op : Int) (hf : formI op = 69) (ps : List (List UInt8)) (bk : Nat) (w : World) (hb : w.heap[bk]? = some (.cells (ps.map fun l => Value.string (bytesB l)).toArray 9 (0, 0))) (hlen : ∀ l ∈ ps, l.length ≤ 1000000) (hL : Laid w) :
    Calls Tryz.prog 14 #[.int .i64 op, .slice (some ⟨bk, 0, none⟩) ps.length ps.length] w fun e w' => e = .returned (.agg #[.int .i64 op, .int .i64 0, .int .i64 0, .int .i64 0, .int .i64 0]) ∧ Below w.heap.size w w' := by
  have HS0 := Aside0.mk (fst_new w bk op ps hb hL)
  have HF := Aside0.mk (fun (W : World) => Form_any op W)
  rw [hf] at HF
  clear hf
  have HLEN := Aside0.mk hlen
  clear hb hL hlen
  go_enter Tryz.func14, Tryz.ntmps14
  go_wp2_with fail
  refine (HF.out _).mono ?_
  rintro e W3 ⟨rfl, hb⟩
  have HS3 := Aside0.mk (HS0.out.below hb)
  clear hb HS0
  obtain ⟨hb3⟩ := HS3
  generalize ps.length = m at *
  have hr := hb3.res
  have hx := hb3.box
  have HRES := Aside0.mk hr
  have HBEL := Aside0.mk hb3.bel
  have x0 := blk_cellA hx 0
  have x1 := blk_cellA hx 1
  have x2 := blk_cellA hx 2
  have x3 := blk_cellA hx 3
  have x4 := blk_cellA hx 4
  have y0 := blk_cellA hr 0
  have z0 := blk_frozen hr 0
  have y1 := blk_cellA hr 1
  have z1 := blk_frozen hr 1
  have y2 := blk_cellA hr 2
  have z2 := blk_frozen hr 2
  have y3 := blk_cellA hr 3
  have z3 := blk_frozen hr 3
  have y4 := blk_cellA hr 4
  have z4 := blk_frozen hr 4
  simp only [List.getElem?_toArray, List.getElem_toArray, List.getElem_cons_succ, List.getElem_cons_zero] at x0 x1 x2 x3 x4
  clear hr hx
  go_wp2
  have hs := set5 HRES.out (.int .i64 op) (.int .i64 0) (.int .i64 0) (.int .i64 0) (.int .i64 0)
  have e0 := blk_cellA hs 0
  have e1 := blk_cellA hs 1
  have e2 := blk_cellA hs 2
  have e3 := blk_cellA hs 3
  have e4 := blk_cellA hs 4
  refine bodyPost_ret (v := .agg #[.int .i64 op, .int .i64 0, .int .i64 0, .int .i64 0, .int .i64 0]) (by simp [results, Tryz.results14, go_sem, e0, e1, e2, e3, e4]) rfl ⟨rfl, set5_below HBEL.out (Nat.le_refl _) _ _ _ _ _⟩
set_option maxHeartbeats 8000000 in
set_option maxRecDepth 100000 in
theorem fill_S (op : Int) (hf : formI op = 83) (p0 p1 : List UInt8) (bk : Nat) (w : World) (hb : w.heap[bk]? = some (.cells ([p0, p1].map fun l => Value.string (bytesB l)).toArray 9 (0, 0))) (hlen : ∀ l ∈ [p0, p1], l.length ≤ 1000000) (hL : Laid w) :
    Calls Tryz.prog 14 #[.int .i64 op, .slice (some ⟨bk, 0, none⟩) 2 2] w fun e w' => e = .returned (.agg #[.int .i64 op, .int .i64 0, .int .i64 (bracket2 p1), .int .i64 (registerV p0), .int .i64 (bracket1 p1)]) ∧ Below w.heap.size w w' := by
  have HS0 := Aside0.mk (fst_new w bk op [p0, p1] hb hL)
  have HF := Aside0.mk (fun (W : World) => Form_any op W)
  rw [hf] at HF
  clear hf
  have HLEN := Aside0.mk hlen
  clear hb hL hlen
  have HR0 := Aside0.mk (fun (W : World) hL => register_any p0 (HLEN.out p0 (by simp)) W hL)
  have HB1 := Aside0.mk (fun (W : World) hL => bracket_any p1 (HLEN.out p1 (by simp)) W hL)
  generalize registerV p0 = v0 at *
  generalize bracket1 p1 = v1 at *
  generalize bracket2 p1 = v2 at *
  go_enter Tryz.func14, Tryz.ntmps14
  go_wp2_with fail
  refine (HF.out _).mono ?_
  rintro e W3 ⟨rfl, hb⟩
  have HS3 := Aside0.mk (HS0.out.below hb)
  clear hb HS0
  have j0 := blk_cellA HS3.out.row 0
  simp only [List.map_cons, List.map_nil, List.getElem?_toArray, List.getElem?_cons_zero] at j0
  go_wp2_with fail
  refine (HR0.out W3 HS3.out.laid).mono ?_
  rintro e W4 ⟨rfl, hb⟩
  have HS4 := Aside0.mk (HS3.out.below hb)
  clear hb j0
  have j1 := blk_cellA HS4.out.row 1
  simp only [List.map_cons, List.map_nil, List.getElem?_toArray, List.getElem?_cons_zero, List.getElem?_cons_succ] at j1
  have b1 := blk_cellA HS4.out.box 3
  have f1 := blk_frozen HS4.out.box 3
  have HS5 := Aside0.mk (HS4.out.set 3 (.int .i64 v0))
  have hne : ¬ w.heap.size + 1 = bk := fun e => by
    have h1 := HS4.out.box
    rw [e, HS4.out.row] at h1
    injection h1 with h1
    injection h1 with _ h2
    exact absurd h2 (by decide)
  go_wp2_with fail
  generalize W4.setCell ⟨w.heap.size + 1, 3, none⟩ (.int .i64 v0) = W5 at *
  refine (HB1.out W5 HS5.out.laid).mono ?_
  rintro e W6 ⟨rfl, hb⟩
  have HS6 := Aside0.mk (HS5.out.below hb)
  clear hb j1 b1 f1
  have b2 := blk_cellA HS6.out.box 4
  have f2 := blk_frozen HS6.out.box 4
  have b3 := blk_cellA HS6.out.box 2
  have f3 := blk_frozen HS6.out.box 2
  have HS7 := Aside0.mk ((HS6.out.set 4 (.int .i64 v1)).set 2 (.int .i64 v2))
  have HS7b : Aside0 (FSt w ((W6.setCell ⟨w.heap.size + 1, 4, none⟩ (.int .i64 v1)).setCell ⟨w.heap.size + 1, 2, none⟩ (.int .i64 v2)) bk op [p0, p1] #[.int .i64 op, .int .i64 0, .int .i64 v2, .int .i64 v0, .int .i64 v1]) := ⟨HS7.out⟩
  clear HS7 HS6 HS5 HS4 HS3
  have hr := HS7b.out.res
  have hx := HS7b.out.box
  have HRES := Aside0.mk hr
  have HBEL := Aside0.mk HS7b.out.bel
  have x0 := blk_cellA hx 0
  have x1 := blk_cellA hx 1
  have x2 := blk_cellA hx 2
  have x3 := blk_cellA hx 3
  have x4 := blk_cellA hx 4
  have y0 := blk_cellA hr 0
  have z0 := blk_frozen hr 0
  have y1 := blk_cellA hr 1
  have z1 := blk_frozen hr 1
  have y2 := blk_cellA hr 2
  have z2 := blk_frozen hr 2
  have y3 := blk_cellA hr 3
  have z3 := blk_frozen hr 3
  have y4 := blk_cellA hr 4
  have z4 := blk_frozen hr 4
  simp only [List.getElem?_toArray, List.getElem_toArray, List.getElem_cons_succ, List.getElem_cons_zero] at x0 x1 x2 x3 x4
  clear hr hx
  go_wp2
  have hs := set5 HRES.out (.int .i64 op) (.int .i64 0) (.int .i64 v2) (.int .i64 v0) (.int .i64 v1)
  have e0 := blk_cellA hs 0
  have e1 := blk_cellA hs 1
  have e2 := blk_cellA hs 2
  have e3 := blk_cellA hs 3
  have e4 := blk_cellA hs 4
  refine bodyPost_ret (v := .agg #[.int .i64 op, .int .i64 0, .int .i64 v2, .int .i64 v0, .int .i64 v1]) (by simp [results, Tryz.results14, go_sem, e0, e1, e2, e3, e4]) rfl ⟨rfl, set5_below HBEL.out (Nat.le_refl _) _ _ _ _ _⟩
set_option maxHeartbeats 8000000 in
set_option maxRecDepth 100000 in
theorem fill_A (op : Int) (hf : formI op = 73) (ha : around op = true) (p0 p1 : List UInt8) (bk : Nat) (w : World) (hb : w.heap[bk]? = some (.cells ([p0, p1].map fun l => Value.string (bytesB l)).toArray 9 (0, 0))) (hlen : ∀ l ∈ [p0, p1], l.length ≤ 1000000) (hL : Laid w) :
    Calls Tryz.prog 14 #[.int .i64 op, .slice (some ⟨bk, 0, none⟩) 2 2] w fun e w' => e = .returned (.agg #[.int .i64 op, .int .i64 (registerV p0), .int .i64 (bracket2 p1), .int .i64 0, .int .i64 (bracket1 p1)]) ∧ Below w.heap.size w w' := by
  have HS0 := Aside0.mk (fst_new w bk op [p0, p1] hb hL)
  have HF := Aside0.mk (fun (W : World) => Form_any op W)
  rw [hf] at HF
  clear hf
  have HLEN := Aside0.mk hlen
  clear hb hL hlen
  have HR0 := Aside0.mk (fun (W : World) hL => register_any p0 (HLEN.out p0 (by simp)) W hL)
  have HB1 := Aside0.mk (fun (W : World) hL => bracket_any p1 (HLEN.out p1 (by simp)) W hL)
  generalize registerV p0 = v0 at *
  generalize bracket1 p1 = v1 at *
  generalize bracket2 p1 = v2 at *
  have HAr := Aside0.mk (fun (W : World) => around_any op W)
  rw [ha] at HAr
  clear ha
  go_enter Tryz.func14, Tryz.ntmps14
  go_wp2_with fail
  refine (HF.out _).mono ?_
  rintro e W3 ⟨rfl, hb⟩
  have HS3 := Aside0.mk (HS0.out.below hb)
  clear hb HS0
  go_wp2_with fail
  refine (HAr.out W3).mono ?_
  rintro e W3b ⟨rfl, ⟨q, rfl⟩⟩
  replace HS3 := Aside0.mk (HS3.out.below (bel_drewN W3 q))
  generalize W3.drewN q = W3 at *
  have j0 := blk_cellA HS3.out.row 0
  simp only [List.map_cons, List.map_nil, List.getElem?_toArray, List.getElem?_cons_zero] at j0
  go_wp2_with fail
  refine (HR0.out W3 HS3.out.laid).mono ?_
  rintro e W4 ⟨rfl, hb⟩
  have HS4 := Aside0.mk (HS3.out.below hb)
  clear hb j0
  have j1 := blk_cellA HS4.out.row 1
  simp only [List.map_cons, List.map_nil, List.getElem?_toArray, List.getElem?_cons_zero, List.getElem?_cons_succ] at j1
  have b1 := blk_cellA HS4.out.box 1
  have f1 := blk_frozen HS4.out.box 1
  have HS5 := Aside0.mk (HS4.out.set 1 (.int .i64 v0))
  have hne : ¬ w.heap.size + 1 = bk := fun e => by
    have h1 := HS4.out.box
    rw [e, HS4.out.row] at h1
    injection h1 with h1
    injection h1 with _ h2
    exact absurd h2 (by decide)
  go_wp2_with fail
  generalize W4.setCell ⟨w.heap.size + 1, 1, none⟩ (.int .i64 v0) = W5 at *
  refine (HB1.out W5 HS5.out.laid).mono ?_
  rintro e W6 ⟨rfl, hb⟩
  have HS6 := Aside0.mk (HS5.out.below hb)
  clear hb j1 b1 f1
  have b2 := blk_cellA HS6.out.box 4
  have f2 := blk_frozen HS6.out.box 4
  have b3 := blk_cellA HS6.out.box 2
  have f3 := blk_frozen HS6.out.box 2
  have HS7 := Aside0.mk ((HS6.out.set 4 (.int .i64 v1)).set 2 (.int .i64 v2))
  have HS7b : Aside0 (FSt w ((W6.setCell ⟨w.heap.size + 1, 4, none⟩ (.int .i64 v1)).setCell ⟨w.heap.size + 1, 2, none⟩ (.int .i64 v2)) bk op [p0, p1] #[.int .i64 op, .int .i64 v0, .int .i64 v2, .int .i64 0, .int .i64 v1]) := ⟨HS7.out⟩
  clear HS7 HS6 HS5 HS4 HS3
  have hr := HS7b.out.res
  have hx := HS7b.out.box
  have HRES := Aside0.mk hr
  have HBEL := Aside0.mk HS7b.out.bel
  have x0 := blk_cellA hx 0
  have x1 := blk_cellA hx 1
  have x2 := blk_cellA hx 2
  have x3 := blk_cellA hx 3
  have x4 := blk_cellA hx 4
  have y0 := blk_cellA hr 0
  have z0 := blk_frozen hr 0
  have y1 := blk_cellA hr 1
  have z1 := blk_frozen hr 1
  have y2 := blk_cellA hr 2
  have z2 := blk_frozen hr 2
  have y3 := blk_cellA hr 3
  have z3 := blk_frozen hr 3
  have y4 := blk_cellA hr 4
  have z4 := blk_frozen hr 4
  simp only [List.getElem?_toArray, List.getElem_toArray, List.getElem_cons_succ, List.getElem_cons_zero] at x0 x1 x2 x3 x4
  clear hr hx
  go_wp2
  have hs := set5 HRES.out (.int .i64 op) (.int .i64 v0) (.int .i64 v2) (.int .i64 0) (.int .i64 v1)
  have e0 := blk_cellA hs 0
  have e1 := blk_cellA hs 1
  have e2 := blk_cellA hs 2
  have e3 := blk_cellA hs 3
  have e4 := blk_cellA hs 4
  refine bodyPost_ret (v := .agg #[.int .i64 op, .int .i64 v0, .int .i64 v2, .int .i64 0, .int .i64 v1]) (by simp [results, Tryz.results14, go_sem, e0, e1, e2, e3, e4]) rfl ⟨rfl, set5_below HBEL.out (Nat.le_refl _) _ _ _ _ _⟩
set_option maxHeartbeats 8000000 in
set_option maxRecDepth 100000 in
theorem fill_U (op : Int) (hf : formI op = 85) (p0 p1 : List UInt8) (bk : Nat) (w : World) (hb : w.heap[bk]? = some (.cells ([p0, p1].map fun l => Value.string (bytesB l)).toArray 9 (0, 0))) (hlen : ∀ l ∈ [p0, p1], l.length ≤ 1000000) (hL : Laid w) :
    Calls Tryz.prog 14 #[.int .i64 op, .slice (some ⟨bk, 0, none⟩) 2 2] w fun e w' => e = .returned (.agg #[.int .i64 op, .int .i64 (registerV p0), .int .i64 0, .int .i64 0, .int .i64 (atoiV p1)]) ∧ Below w.heap.size w w' := by
  have HS0 := Aside0.mk (fst_new w bk op [p0, p1] hb hL)
  have HF := Aside0.mk (fun (W : World) => Form_any op W)
  rw [hf] at HF
  clear hf
  have HLEN := Aside0.mk hlen
  clear hb hL hlen
  have HR0 := Aside0.mk (fun (W : World) hL => register_any p0 (HLEN.out p0 (by simp)) W hL)
  have HR1 := Aside0.mk (fun (W : World) hL => number_any p1 (HLEN.out p1 (by simp)) W hL)
  generalize registerV p0 = v0 at *
  generalize atoiV p1 = v1 at *
  go_enter Tryz.func14, Tryz.ntmps14
  go_wp2_with fail
  refine (HF.out _).mono ?_
  rintro e W3 ⟨rfl, hb⟩
  have HS3 := Aside0.mk (HS0.out.below hb)
  clear hb HS0
  have HFA : Aside0 (∀ W, Below W3.heap.size W3 W → W.cell? ⟨bk, 0, none⟩ = some (.string (bytesB p0)) ∧ W.cell? ⟨bk, 1, none⟩ = some (.string (bytesB p1)) ∧ W.cell? ⟨w.heap.size + 1, 1, none⟩ = some (.int .i64 0) ∧ W.frozen? ⟨w.heap.size + 1, 1, none⟩ = false ∧ W.cell? ⟨w.heap.size + 1, 4, none⟩ = some (.int .i64 0) ∧ W.frozen? ⟨w.heap.size + 1, 4, none⟩ = false) := ⟨fun W h => ⟨by have h := blk_cellA (HS3.out.below h).row 0; simpa using h, by have h := blk_cellA (HS3.out.below h).row 1; simpa using h, blk_cellA (HS3.out.below h).box 1, blk_frozen (HS3.out.below h).box 1, blk_cellA (HS3.out.below h).box 4, blk_frozen (HS3.out.below h).box 4⟩⟩
  have hne : ¬ w.heap.size + 1 = bk := fun e => by
    have h1 := HS3.out.box
    rw [e, HS3.out.row] at h1
    injection h1 with h1
    injection h1 with _ h2
    exact absurd h2 (by decide)
  obtain ⟨j0, j1, b1, f1, b4, f4⟩ := HFA.out W3 (Below.refl _ _)
  go_wp2_with fail
  go_region_law (first | (go_simp; go_at_call_of 27 (Value.string (bytesB p0)); refine (HR0.out _ (HS3.out.below (by (repeat' (first | exact Below.refl _ _ | assumption | refine pw_below_drewN ?_ _ | refine below_drew ?_ | refine below_alloc ?_ _)))).laid).mono ?_; rintro e w2 ⟨rfl, hb⟩; have hB : Below W3.heap.size W3 w2 := (by refine below_after ?_ hb (Nat.le_refl _); (repeat' (first | exact Below.refl _ _ | assumption | refine pw_below_drewN ?_ _ | refine below_drew ?_ | refine below_alloc ?_ _))); clear hb; obtain ⟨j0, j1, b1, f1, b4, f4⟩ := HFA.out w2 hB) | (go_simp; go_at_call_of 28 (Value.string (bytesB p1)); refine (HR1.out _ (HS3.out.below (by (repeat' (first | exact Below.refl _ _ | assumption | refine pw_below_drewN ?_ _ | refine below_drew ?_ | refine below_alloc ?_ _)))).laid).mono ?_; rintro e w2 ⟨rfl, hb⟩; have hB : Below W3.heap.size W3 w2 := (by refine below_after ?_ hb (Nat.le_refl _); (repeat' (first | exact Below.refl _ _ | assumption | refine pw_below_drewN ?_ _ | refine below_drew ?_ | refine below_alloc ?_ _))); clear hb; obtain ⟨j0, j1, b1, f1, b4, f4⟩ := HFA.out w2 hB))
  all_goals
    have HS7b : Aside0 (FSt w ((w2.setCell ⟨w.heap.size + 1, 1, none⟩ (.int .i64 v0)).setCell ⟨w.heap.size + 1, 4, none⟩ (.int .i64 v1)) bk op [p0, p1] #[.int .i64 op, .int .i64 v0, .int .i64 0, .int .i64 0, .int .i64 v1]) := ⟨(((HS3.out.below hB).set 1 (.int .i64 v0)).set 4 (.int .i64 v1))⟩
    clear hB
    have hr := HS7b.out.res
    have hx := HS7b.out.box
    have HRES := Aside0.mk hr
    have HBEL := Aside0.mk HS7b.out.bel
    have x0 := blk_cellA hx 0
    have x1 := blk_cellA hx 1
    have x2 := blk_cellA hx 2
    have x3 := blk_cellA hx 3
    have x4 := blk_cellA hx 4
    have y0 := blk_cellA hr 0
    have z0 := blk_frozen hr 0
    have y1 := blk_cellA hr 1
    have z1 := blk_frozen hr 1
    have y2 := blk_cellA hr 2
    have z2 := blk_frozen hr 2
    have y3 := blk_cellA hr 3
    have z3 := blk_frozen hr 3
    have y4 := blk_cellA hr 4
    have z4 := blk_frozen hr 4
    simp only [List.getElem?_toArray, List.getElem_toArray, List.getElem_cons_succ, List.getElem_cons_zero] at x0 x1 x2 x3 x4
    clear hr hx
    go_wp2
    have hs := set5 HRES.out (.int .i64 op) (.int .i64 v0) (.int .i64 0) (.int .i64 0) (.int .i64 v1)
    have e0 := blk_cellA hs 0
    have e1 := blk_cellA hs 1
    have e2 := blk_cellA hs 2
    have e3 := blk_cellA hs 3
    have e4 := blk_cellA hs 4
    refine bodyPost_ret (v := .agg #[.int .i64 op, .int .i64 v0, .int .i64 0, .int .i64 0, .int .i64 v1]) (by simp [results, Tryz.results14, go_sem, e0, e1, e2, e3, e4]) rfl ⟨rfl, set5_below HBEL.out (Nat.le_refl _) _ _ _ _ _⟩
set_option maxHeartbeats 8000000 in
set_option maxRecDepth 100000 in
theorem fill_J (op : Int) (hf : formI op = 74) (p0 p1 : List UInt8) (bk : Nat) (w : World) (hb : w.heap[bk]? = some (.cells ([p0, p1].map fun l => Value.string (bytesB l)).toArray 9 (0, 0))) (hlen : ∀ l ∈ [p0, p1], l.length ≤ 1000000) (hL : Laid w) :
    Calls Tryz.prog 14 #[.int .i64 op, .slice (some ⟨bk, 0, none⟩) 2 2] w fun e w' => e = .returned (.agg #[.int .i64 op, .int .i64 (registerV p0), .int .i64 0, .int .i64 0, .int .i64 (atoiV p1)]) ∧ Below w.heap.size w w' := by
  have HS0 := Aside0.mk (fst_new w bk op [p0, p1] hb hL)
  have HF := Aside0.mk (fun (W : World) => Form_any op W)
  rw [hf] at HF
  clear hf
  have HLEN := Aside0.mk hlen
  clear hb hL hlen
  have HR0 := Aside0.mk (fun (W : World) hL => register_any p0 (HLEN.out p0 (by simp)) W hL)
  have HR1 := Aside0.mk (fun (W : World) hL => number_any p1 (HLEN.out p1 (by simp)) W hL)
  generalize registerV p0 = v0 at *
  generalize atoiV p1 = v1 at *
  go_enter Tryz.func14, Tryz.ntmps14
  go_wp2_with fail
  refine (HF.out _).mono ?_
  rintro e W3 ⟨rfl, hb⟩
  have HS3 := Aside0.mk (HS0.out.below hb)
  clear hb HS0
  have HFA : Aside0 (∀ W, Below W3.heap.size W3 W → W.cell? ⟨bk, 0, none⟩ = some (.string (bytesB p0)) ∧ W.cell? ⟨bk, 1, none⟩ = some (.string (bytesB p1)) ∧ W.cell? ⟨w.heap.size + 1, 1, none⟩ = some (.int .i64 0) ∧ W.frozen? ⟨w.heap.size + 1, 1, none⟩ = false ∧ W.cell? ⟨w.heap.size + 1, 4, none⟩ = some (.int .i64 0) ∧ W.frozen? ⟨w.heap.size + 1, 4, none⟩ = false) := ⟨fun W h => ⟨by have h := blk_cellA (HS3.out.below h).row 0; simpa using h, by have h := blk_cellA (HS3.out.below h).row 1; simpa using h, blk_cellA (HS3.out.below h).box 1, blk_frozen (HS3.out.below h).box 1, blk_cellA (HS3.out.below h).box 4, blk_frozen (HS3.out.below h).box 4⟩⟩
  have hne : ¬ w.heap.size + 1 = bk := fun e => by
    have h1 := HS3.out.box
    rw [e, HS3.out.row] at h1
    injection h1 with h1
    injection h1 with _ h2
    exact absurd h2 (by decide)
  obtain ⟨j0, j1, b1, f1, b4, f4⟩ := HFA.out W3 (Below.refl _ _)
  go_wp2_with fail
  go_region_law (first | (go_simp; go_at_call_of 27 (Value.string (bytesB p0)); refine (HR0.out _ (HS3.out.below (by (repeat' (first | exact Below.refl _ _ | assumption | refine pw_below_drewN ?_ _ | refine below_drew ?_ | refine below_alloc ?_ _)))).laid).mono ?_; rintro e w2 ⟨rfl, hb⟩; have hB : Below W3.heap.size W3 w2 := (by refine below_after ?_ hb (Nat.le_refl _); (repeat' (first | exact Below.refl _ _ | assumption | refine pw_below_drewN ?_ _ | refine below_drew ?_ | refine below_alloc ?_ _))); clear hb; obtain ⟨j0, j1, b1, f1, b4, f4⟩ := HFA.out w2 hB) | (go_simp; go_at_call_of 28 (Value.string (bytesB p1)); refine (HR1.out _ (HS3.out.below (by (repeat' (first | exact Below.refl _ _ | assumption | refine pw_below_drewN ?_ _ | refine below_drew ?_ | refine below_alloc ?_ _)))).laid).mono ?_; rintro e w2 ⟨rfl, hb⟩; have hB : Below W3.heap.size W3 w2 := (by refine below_after ?_ hb (Nat.le_refl _); (repeat' (first | exact Below.refl _ _ | assumption | refine pw_below_drewN ?_ _ | refine below_drew ?_ | refine below_alloc ?_ _))); clear hb; obtain ⟨j0, j1, b1, f1, b4, f4⟩ := HFA.out w2 hB))
  all_goals
    have HS7b : Aside0 (FSt w ((w2.setCell ⟨w.heap.size + 1, 1, none⟩ (.int .i64 v0)).setCell ⟨w.heap.size + 1, 4, none⟩ (.int .i64 v1)) bk op [p0, p1] #[.int .i64 op, .int .i64 v0, .int .i64 0, .int .i64 0, .int .i64 v1]) := ⟨(((HS3.out.below hB).set 1 (.int .i64 v0)).set 4 (.int .i64 v1))⟩
    clear hB
    have hr := HS7b.out.res
    have hx := HS7b.out.box
    have HRES := Aside0.mk hr
    have HBEL := Aside0.mk HS7b.out.bel
    have x0 := blk_cellA hx 0
    have x1 := blk_cellA hx 1
    have x2 := blk_cellA hx 2
    have x3 := blk_cellA hx 3
    have x4 := blk_cellA hx 4
    have y0 := blk_cellA hr 0
    have z0 := blk_frozen hr 0
    have y1 := blk_cellA hr 1
    have z1 := blk_frozen hr 1
    have y2 := blk_cellA hr 2
    have z2 := blk_frozen hr 2
    have y3 := blk_cellA hr 3
    have z3 := blk_frozen hr 3
    have y4 := blk_cellA hr 4
    have z4 := blk_frozen hr 4
    simp only [List.getElem?_toArray, List.getElem_toArray, List.getElem_cons_succ, List.getElem_cons_zero] at x0 x1 x2 x3 x4
    clear hr hx
    go_wp2
    have hs := set5 HRES.out (.int .i64 op) (.int .i64 v0) (.int .i64 0) (.int .i64 0) (.int .i64 v1)
    have e0 := blk_cellA hs 0
    have e1 := blk_cellA hs 1
    have e2 := blk_cellA hs 2
    have e3 := blk_cellA hs 3
    have e4 := blk_cellA hs 4
    refine bodyPost_ret (v := .agg #[.int .i64 op, .int .i64 v0, .int .i64 0, .int .i64 0, .int .i64 v1]) (by simp [results, Tryz.results14, go_sem, e0, e1, e2, e3, e4]) rfl ⟨rfl, set5_below HBEL.out (Nat.le_refl _) _ _ _ _ _⟩
end Go.Proofs.YtdgkbigmdadlaaaGreatDoor
