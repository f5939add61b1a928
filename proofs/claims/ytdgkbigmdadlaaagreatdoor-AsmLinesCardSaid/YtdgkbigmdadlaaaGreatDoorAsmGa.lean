import Derived.Test.YtdgkbigmdadlaaaGreatDoorAsmG
namespace Go.Proofs.YtdgkbigmdadlaaaGreatDoor
open Go.RowKit Go.Lib Go.Proofs.YtdgkbigmdadlaaaGreatDoorW.PrintWords Go.Proofs.YtdgkbigmdadlaaaGreatDoorW.PrintLast
set_option linter.unusedVariables false
set_option linter.unusedSimpArgs false

set_option maxHeartbeats 8000000 in
set_option maxRecDepth 100000 in
theorem fill_R (op : Int) (hf : formI op = 82) (p0 p1 p2 : List UInt8) (bk : Nat) (w : World) (hb : w.heap[bk]? = some (.cells ([p0, p1, p2].map fun l => Value.string (bytesB l)).toArray 9 (0, 0))) (hlen : ∀ l ∈ [p0, p1, p2], l.length ≤ 1000000) (hL : Laid w) :
    Calls Tryz.prog 14 #[.int .i64 op, .slice (some ⟨bk, 0, none⟩) 3 3] w fun e w' => e = .returned (.agg #[.int .i64 op, .int .i64 (registerV p0), .int .i64 (registerV p1), .int .i64 (registerV p2), .int .i64 0]) ∧ Below w.heap.size w w' := by
  have HS0 := Aside0.mk (fst_new w bk op [p0, p1, p2] hb hL)
  have HF := Aside0.mk (fun (W : World) => Form_any op W)
  rw [hf] at HF
  clear hf
  have HLEN := Aside0.mk hlen
  clear hb hL hlen
  have HR0 := Aside0.mk (fun (W : World) hL => register_any p0 (HLEN.out p0 (by simp)) W hL)
  have HR1 := Aside0.mk (fun (W : World) hL => register_any p1 (HLEN.out p1 (by simp)) W hL)
  have HR2 := Aside0.mk (fun (W : World) hL => register_any p2 (HLEN.out p2 (by simp)) W hL)
  generalize registerV p0 = v0 at *
  generalize registerV p1 = v1 at *
  generalize registerV p2 = v2 at *
  go_enter Tryz.func14, Tryz.ntmps14
  go_wp2_with fail
  refine (HF.out _).mono ?_
  rintro e W3 ⟨rfl, hb⟩
  have HS3 := Aside0.mk (HS0.out.below hb)
  clear hb HS0
  have HFA : Aside0 (∀ W, Below W3.heap.size W3 W → W.cell? ⟨bk, 0, none⟩ = some (.string (bytesB p0)) ∧ W.cell? ⟨bk, 1, none⟩ = some (.string (bytesB p1)) ∧ W.cell? ⟨bk, 2, none⟩ = some (.string (bytesB p2)) ∧ W.cell? ⟨w.heap.size + 1, 1, none⟩ = some (.int .i64 0) ∧ W.frozen? ⟨w.heap.size + 1, 1, none⟩ = false ∧ W.cell? ⟨w.heap.size + 1, 2, none⟩ = some (.int .i64 0) ∧ W.frozen? ⟨w.heap.size + 1, 2, none⟩ = false ∧ W.cell? ⟨w.heap.size + 1, 3, none⟩ = some (.int .i64 0) ∧ W.frozen? ⟨w.heap.size + 1, 3, none⟩ = false) := ⟨fun W h => ⟨by have h := blk_cellA (HS3.out.below h).row 0; simpa using h, by have h := blk_cellA (HS3.out.below h).row 1; simpa using h, by have h := blk_cellA (HS3.out.below h).row 2; simpa using h, blk_cellA (HS3.out.below h).box 1, blk_frozen (HS3.out.below h).box 1, blk_cellA (HS3.out.below h).box 2, blk_frozen (HS3.out.below h).box 2, blk_cellA (HS3.out.below h).box 3, blk_frozen (HS3.out.below h).box 3⟩⟩
  have hne : ¬ w.heap.size + 1 = bk := fun e => by
    have h1 := HS3.out.box
    rw [e, HS3.out.row] at h1
    injection h1 with h1
    injection h1 with _ h2
    exact absurd h2 (by decide)
  obtain ⟨j0, j1, j2, b1, f1, b2, f2, b3, f3⟩ := HFA.out W3 (Below.refl _ _)
  go_wp2_with fail
  go_region_law (first | (go_simp; go_at_call_of 27 (Value.string (bytesB p0)); refine (HR0.out _ (HS3.out.below (by (repeat' (first | exact Below.refl _ _ | assumption | refine pw_below_drewN ?_ _ | refine below_drew ?_ | refine below_alloc ?_ _)))).laid).mono ?_; rintro e w2 ⟨rfl, hb⟩; have hB : Below W3.heap.size W3 w2 := (by refine below_after ?_ hb (Nat.le_refl _); (repeat' (first | exact Below.refl _ _ | assumption | refine pw_below_drewN ?_ _ | refine below_drew ?_ | refine below_alloc ?_ _))); clear hb; obtain ⟨j0, j1, j2, b1, f1, b2, f2, b3, f3⟩ := HFA.out w2 hB) | (go_simp; go_at_call_of 27 (Value.string (bytesB p1)); refine (HR1.out _ (HS3.out.below (by (repeat' (first | exact Below.refl _ _ | assumption | refine pw_below_drewN ?_ _ | refine below_drew ?_ | refine below_alloc ?_ _)))).laid).mono ?_; rintro e w2 ⟨rfl, hb⟩; have hB : Below W3.heap.size W3 w2 := (by refine below_after ?_ hb (Nat.le_refl _); (repeat' (first | exact Below.refl _ _ | assumption | refine pw_below_drewN ?_ _ | refine below_drew ?_ | refine below_alloc ?_ _))); clear hb; obtain ⟨j0, j1, j2, b1, f1, b2, f2, b3, f3⟩ := HFA.out w2 hB) | (go_simp; go_at_call_of 27 (Value.string (bytesB p2)); refine (HR2.out _ (HS3.out.below (by (repeat' (first | exact Below.refl _ _ | assumption | refine pw_below_drewN ?_ _ | refine below_drew ?_ | refine below_alloc ?_ _)))).laid).mono ?_; rintro e w2 ⟨rfl, hb⟩; have hB : Below W3.heap.size W3 w2 := (by refine below_after ?_ hb (Nat.le_refl _); (repeat' (first | exact Below.refl _ _ | assumption | refine pw_below_drewN ?_ _ | refine below_drew ?_ | refine below_alloc ?_ _))); clear hb; obtain ⟨j0, j1, j2, b1, f1, b2, f2, b3, f3⟩ := HFA.out w2 hB))
  all_goals
    have HS7b : Aside0 (FSt w (((w2.setCell ⟨w.heap.size + 1, 1, none⟩ (.int .i64 v0)).setCell ⟨w.heap.size + 1, 2, none⟩ (.int .i64 v1)).setCell ⟨w.heap.size + 1, 3, none⟩ (.int .i64 v2)) bk op [p0, p1, p2] #[.int .i64 op, .int .i64 v0, .int .i64 v1, .int .i64 v2, .int .i64 0]) := ⟨((((HS3.out.below hB).set 1 (.int .i64 v0)).set 2 (.int .i64 v1)).set 3 (.int .i64 v2))⟩
    clear hB
    have hr := HS7b.out.res
    have hx := HS7b.out.box
    have HRES := Aside0.mk hr
    have HBEL := Aside0.mk HS7b.out.bel
    have x0 := blk_cellA hx 0
    have x1 := blk_cellA hx 1
    have x2 := blk_cellA hx 2
    have x3 := blk_cellA hx 3
    have x4 := blk_cellA hx 4
    have y0 := blk_cellA hr 0
    have z0 := blk_frozen hr 0
    have y1 := blk_cellA hr 1
    have z1 := blk_frozen hr 1
    have y2 := blk_cellA hr 2
    have z2 := blk_frozen hr 2
    have y3 := blk_cellA hr 3
    have z3 := blk_frozen hr 3
    have y4 := blk_cellA hr 4
    have z4 := blk_frozen hr 4
    simp only [List.getElem?_toArray, List.getElem_toArray, List.getElem_cons_succ, List.getElem_cons_zero] at x0 x1 x2 x3 x4
    clear hr hx
    go_wp2
    have hs := set5 HRES.out (.int .i64 op) (.int .i64 v0) (.int .i64 v1) (.int .i64 v2) (.int .i64 0)
    have e0 := blk_cellA hs 0
    have e1 := blk_cellA hs 1
    have e2 := blk_cellA hs 2
    have e3 := blk_cellA hs 3
    have e4 := blk_cellA hs 4
    refine bodyPost_ret (v := .agg #[.int .i64 op, .int .i64 v0, .int .i64 v1, .int .i64 v2, .int .i64 0]) (by simp [results, Tryz.results14, go_sem, e0, e1, e2, e3, e4]) rfl ⟨rfl, set5_below HBEL.out (Nat.le_refl _) _ _ _ _ _⟩
set_option maxHeartbeats 8000000 in
set_option maxRecDepth 100000 in
theorem fill_B (op : Int) (hf : formI op = 66) (p0 p1 p2 : List UInt8) (bk : Nat) (w : World) (hb : w.heap[bk]? = some (.cells ([p0, p1, p2].map fun l => Value.string (bytesB l)).toArray 9 (0, 0))) (hlen : ∀ l ∈ [p0, p1, p2], l.length ≤ 1000000) (hL : Laid w) :
    Calls Tryz.prog 14 #[.int .i64 op, .slice (some ⟨bk, 0, none⟩) 3 3] w fun e w' => e = .returned (.agg #[.int .i64 op, .int .i64 0, .int .i64 (registerV p0), .int .i64 (registerV p1), .int .i64 (atoiV p2)]) ∧ Below w.heap.size w w' := by
  have HS0 := Aside0.mk (fst_new w bk op [p0, p1, p2] hb hL)
  have HF := Aside0.mk (fun (W : World) => Form_any op W)
  rw [hf] at HF
  clear hf
  have HLEN := Aside0.mk hlen
  clear hb hL hlen
  have HR0 := Aside0.mk (fun (W : World) hL => register_any p0 (HLEN.out p0 (by simp)) W hL)
  have HR1 := Aside0.mk (fun (W : World) hL => register_any p1 (HLEN.out p1 (by simp)) W hL)
  have HR2 := Aside0.mk (fun (W : World) hL => number_any p2 (HLEN.out p2 (by simp)) W hL)
  generalize registerV p0 = v0 at *
  generalize registerV p1 = v1 at *
  generalize atoiV p2 = v2 at *
  go_enter Tryz.func14, Tryz.ntmps14
  go_wp2_with fail
  refine (HF.out _).mono ?_
  rintro e W3 ⟨rfl, hb⟩
  have HS3 := Aside0.mk (HS0.out.below hb)
  clear hb HS0
  have HFA : Aside0 (∀ W, Below W3.heap.size W3 W → W.cell? ⟨bk, 0, none⟩ = some (.string (bytesB p0)) ∧ W.cell? ⟨bk, 1, none⟩ = some (.string (bytesB p1)) ∧ W.cell? ⟨bk, 2, none⟩ = some (.string (bytesB p2)) ∧ W.cell? ⟨w.heap.size + 1, 2, none⟩ = some (.int .i64 0) ∧ W.frozen? ⟨w.heap.size + 1, 2, none⟩ = false ∧ W.cell? ⟨w.heap.size + 1, 3, none⟩ = some (.int .i64 0) ∧ W.frozen? ⟨w.heap.size + 1, 3, none⟩ = false ∧ W.cell? ⟨w.heap.size + 1, 4, none⟩ = some (.int .i64 0) ∧ W.frozen? ⟨w.heap.size + 1, 4, none⟩ = false) := ⟨fun W h => ⟨by have h := blk_cellA (HS3.out.below h).row 0; simpa using h, by have h := blk_cellA (HS3.out.below h).row 1; simpa using h, by have h := blk_cellA (HS3.out.below h).row 2; simpa using h, blk_cellA (HS3.out.below h).box 2, blk_frozen (HS3.out.below h).box 2, blk_cellA (HS3.out.below h).box 3, blk_frozen (HS3.out.below h).box 3, blk_cellA (HS3.out.below h).box 4, blk_frozen (HS3.out.below h).box 4⟩⟩
  have hne : ¬ w.heap.size + 1 = bk := fun e => by
    have h1 := HS3.out.box
    rw [e, HS3.out.row] at h1
    injection h1 with h1
    injection h1 with _ h2
    exact absurd h2 (by decide)
  obtain ⟨j0, j1, j2, b2, f2, b3, f3, b4, f4⟩ := HFA.out W3 (Below.refl _ _)
  go_wp2_with fail
  go_region_law (first | (go_simp; go_at_call_of 27 (Value.string (bytesB p0)); refine (HR0.out _ (HS3.out.below (by (repeat' (first | exact Below.refl _ _ | assumption | refine pw_below_drewN ?_ _ | refine below_drew ?_ | refine below_alloc ?_ _)))).laid).mono ?_; rintro e w2 ⟨rfl, hb⟩; have hB : Below W3.heap.size W3 w2 := (by refine below_after ?_ hb (Nat.le_refl _); (repeat' (first | exact Below.refl _ _ | assumption | refine pw_below_drewN ?_ _ | refine below_drew ?_ | refine below_alloc ?_ _))); clear hb; obtain ⟨j0, j1, j2, b2, f2, b3, f3, b4, f4⟩ := HFA.out w2 hB) | (go_simp; go_at_call_of 27 (Value.string (bytesB p1)); refine (HR1.out _ (HS3.out.below (by (repeat' (first | exact Below.refl _ _ | assumption | refine pw_below_drewN ?_ _ | refine below_drew ?_ | refine below_alloc ?_ _)))).laid).mono ?_; rintro e w2 ⟨rfl, hb⟩; have hB : Below W3.heap.size W3 w2 := (by refine below_after ?_ hb (Nat.le_refl _); (repeat' (first | exact Below.refl _ _ | assumption | refine pw_below_drewN ?_ _ | refine below_drew ?_ | refine below_alloc ?_ _))); clear hb; obtain ⟨j0, j1, j2, b2, f2, b3, f3, b4, f4⟩ := HFA.out w2 hB) | (go_simp; go_at_call_of 28 (Value.string (bytesB p2)); refine (HR2.out _ (HS3.out.below (by (repeat' (first | exact Below.refl _ _ | assumption | refine pw_below_drewN ?_ _ | refine below_drew ?_ | refine below_alloc ?_ _)))).laid).mono ?_; rintro e w2 ⟨rfl, hb⟩; have hB : Below W3.heap.size W3 w2 := (by refine below_after ?_ hb (Nat.le_refl _); (repeat' (first | exact Below.refl _ _ | assumption | refine pw_below_drewN ?_ _ | refine below_drew ?_ | refine below_alloc ?_ _))); clear hb; obtain ⟨j0, j1, j2, b2, f2, b3, f3, b4, f4⟩ := HFA.out w2 hB))
  all_goals
    have HS7b : Aside0 (FSt w (((w2.setCell ⟨w.heap.size + 1, 2, none⟩ (.int .i64 v0)).setCell ⟨w.heap.size + 1, 3, none⟩ (.int .i64 v1)).setCell ⟨w.heap.size + 1, 4, none⟩ (.int .i64 v2)) bk op [p0, p1, p2] #[.int .i64 op, .int .i64 0, .int .i64 v0, .int .i64 v1, .int .i64 v2]) := ⟨((((HS3.out.below hB).set 2 (.int .i64 v0)).set 3 (.int .i64 v1)).set 4 (.int .i64 v2))⟩
    clear hB
    have hr := HS7b.out.res
    have hx := HS7b.out.box
    have HRES := Aside0.mk hr
    have HBEL := Aside0.mk HS7b.out.bel
    have x0 := blk_cellA hx 0
    have x1 := blk_cellA hx 1
    have x2 := blk_cellA hx 2
    have x3 := blk_cellA hx 3
    have x4 := blk_cellA hx 4
    have y0 := blk_cellA hr 0
    have z0 := blk_frozen hr 0
    have y1 := blk_cellA hr 1
    have z1 := blk_frozen hr 1
    have y2 := blk_cellA hr 2
    have z2 := blk_frozen hr 2
    have y3 := blk_cellA hr 3
    have z3 := blk_frozen hr 3
    have y4 := blk_cellA hr 4
    have z4 := blk_frozen hr 4
    simp only [List.getElem?_toArray, List.getElem_toArray, List.getElem_cons_succ, List.getElem_cons_zero] at x0 x1 x2 x3 x4
    clear hr hx
    go_wp2
    have hs := set5 HRES.out (.int .i64 op) (.int .i64 0) (.int .i64 v0) (.int .i64 v1) (.int .i64 v2)
    have e0 := blk_cellA hs 0
    have e1 := blk_cellA hs 1
    have e2 := blk_cellA hs 2
    have e3 := blk_cellA hs 3
    have e4 := blk_cellA hs 4
    refine bodyPost_ret (v := .agg #[.int .i64 op, .int .i64 0, .int .i64 v0, .int .i64 v1, .int .i64 v2]) (by simp [results, Tryz.results14, go_sem, e0, e1, e2, e3, e4]) rfl ⟨rfl, set5_below HBEL.out (Nat.le_refl _) _ _ _ _ _⟩
end Go.Proofs.YtdgkbigmdadlaaaGreatDoor
