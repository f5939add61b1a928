import Derived.Test.YtjifancgekoenaaGreatDoorCnfJ
namespace Go.Proofs.YtjifancgekoenaaGreatDoor
open Go.RowKit Go.Proofs.YtjifancgekoenaaGreatDoorW.PrintWords Go.Proofs.YtjifancgekoenaaGreatDoorW.PrintLast
open Go.Sort (grow cell?_grow heap_grow_old)
set_option linter.unusedVariables false
set_option linter.unusedSimpArgs false

/-- What stays in every later world. -/
structure Keeps (F : World → Prop) (W : World) : Prop where
  out : ∀ W', Below W.heap.size W W' → F W'
theorem Keeps.here {F : World → Prop} {W : World} (h : Keeps F W) : F W := h.out W (Below.refl _ _)
theorem Keeps.step {F : World → Prop} {W W2 : World} (h : Keeps F W) (hb : Below W.heap.size W W2) : Keeps F W2 := ⟨fun W' h' => h.out W' (hb.trans (h'.mono hb.size))⟩
theorem Keeps.cell {W : World} {p : Addr} {v : Value} (h : W.cell? p = some v) : Keeps (fun W => W.cell? p = some v) W := ⟨fun W' hb => (hb.cell (World.block_lt_of_cell? W _ h)).trans h⟩
theorem Keeps.C {α : Type} {d : Kd α} {W : World} {A : Option Addr} {n : Nat} {xs : List α} (h : d.C W A n xs) : Keeps (fun W => d.C W A n xs) W := ⟨fun W' hb => Kd.C_below h hb⟩
theorem Keeps.laid {W : World} (h : Laid W) : Keeps Laid W := ⟨fun W' hb => h.below hb⟩
theorem Keeps.base {B : Nat} {w W : World} (h : Below B w W) (hB : B ≤ w.heap.size) : Keeps (fun W => Below B w W) W := ⟨fun W' hb => h.trans (hb.mono (Nat.le_trans hB h.size))⟩
theorem Keeps.rows {W : World} {base : Nat} {v : Value} {L : List (List Int)} (h : RowsOf W base v L) : Keeps (fun W => RowsOf W base v L) W := ⟨fun W' hb => h.below hb⟩
theorem bel_alloc (w : World) (o : Obj) : Below w.heap.size w (w.alloc o) := (Below.refl _ _).alloc (Nat.le_refl _) o
theorem bel_drewN (w : World) (n : Nat) : Below w.heap.size w (w.drewN n) := below_drewN (Below.refl _ _) n

theorem CII_of_cells {w : World} {b off : Nat} {xs : List (List Int)} (hm : xs.length ≤ 9223372036854775807) (h : ∀ j r, xs[j]? = some r → ∃ A c, w.cell? ⟨b, off + j, none⟩ = some (.slice A r.length c) ∧ r.length ≤ c ∧ Kd.C kI w A r.length r) : Kd.C kII w (some ⟨b, off, none⟩) xs.length xs := by
  refine ⟨rfl, hm, fun _ => ⟨_, rfl, fun j r hj => ?_⟩⟩
  obtain ⟨A, c, h1, h2, h3⟩ := h j r hj
  refine ⟨[.slice A r.length c], rfl, ⟨A, c, rfl, h2, h3⟩, fun i u hi => ?_⟩
  match i, hi with
  | 0, hi =>
    simp only [List.getElem?_cons_zero, Option.some.injEq] at hi
    subst hi
    have e : j * kII.sz + 0 = j := by show j * 1 + 0 = j; omega
    rw [e, add_spot rfl]
    exact h1
theorem C_of_bools {w : World} {b off : Nat} {xs : List Bool} (hm : xs.length ≤ 9223372036854775807) (h : ∀ j x, xs[j]? = some x → w.cell? ⟨b, off + j, none⟩ = some (.bool x)) : Kd.C Kd.bool w (some ⟨b, off, none⟩) xs.length xs := by
  refine ⟨rfl, hm, fun _ => ⟨_, rfl, fun j p hj => ⟨[.bool p], rfl, rfl, fun i u hi => ?_⟩⟩⟩
  match i, hi with
  | 0, hi =>
    simp only [List.getElem?_cons_zero, Option.some.injEq] at hi
    subst hi
    have e : j * Kd.bool.sz + 0 = j := by show j * 1 + 0 = j; omega
    rw [e, add_spot rfl]
    exact h j p hj
theorem C_new_ints (w : World) (xs : List Int) (hm : xs.length ≤ 1000000) (t : TypeId) : Kd.C kI (w.alloc (.cells (xs.map (Value.int .i64)).toArray t)) (some ⟨w.heap.size, 0, none⟩) xs.length xs :=
  C_of_cells (by omega) fun j x hj => by rw [Nat.zero_add, cell_new]; simp [hj]
theorem C_new_bools (w : World) (xs : List Bool) (hm : xs.length ≤ 1000000) (t : TypeId) : Kd.C Kd.bool (w.alloc (.cells (xs.map Value.bool).toArray t)) (some ⟨w.heap.size, 0, none⟩) xs.length xs :=
  C_of_bools (by omega) fun j x hj => by rw [Nat.zero_add, cell_new]; simp [hj]

def madeW (w : World) : World := (((w.alloc (.cells #[.int .i64 1, .int .i64 (-2)] 3)).alloc (.cells #[.int .i64 2] 3)).alloc (.cells #[.slice (some ⟨w.heap.size, 0, none⟩) 2 2, .slice (some ⟨w.heap.size + 1, 0, none⟩) 1 1] 22)).alloc
  (.cells #[.int .i64 2, .slice (some ⟨w.heap.size + 1 + 1, 0, none⟩) 2 2] 28)
theorem made_facts (w : World) : Kd.C kII (madeW w) (some ⟨w.heap.size + 1 + 1, 0, none⟩) 2 [[1, -2], [2]] ∧ (madeW w).cell? ⟨w.heap.size + 1 + 1 + 1, 0, none⟩ = some (.int .i64 2) ∧ (madeW w).cell? ⟨w.heap.size + 1 + 1 + 1, 1, none⟩ = some (.slice (some ⟨w.heap.size + 1 + 1, 0, none⟩) 2 2) ∧ Below w.heap.size w (madeW w) := by
  have s1 : (w.alloc (.cells #[.int .i64 1, .int .i64 (-2)] 3)).heap.size = w.heap.size + 1 := by simp
  have s2 : ((w.alloc (.cells #[.int .i64 1, .int .i64 (-2)] 3)).alloc (.cells #[.int .i64 2] 3)).heap.size = w.heap.size + 1 + 1 := by simp
  have s3 : (((w.alloc (.cells #[.int .i64 1, .int .i64 (-2)] 3)).alloc (.cells #[.int .i64 2] 3)).alloc (.cells #[.slice (some ⟨w.heap.size, 0, none⟩) 2 2, .slice (some ⟨w.heap.size + 1, 0, none⟩) 1 1] 22)).heap.size = w.heap.size + 1 + 1 + 1 := by simp
  have k1 : Keeps _ _ := (Keeps.C (C_new_ints w [1, -2] (by simp) 3))
  have k2 : Keeps _ _ := (Keeps.C (C_new_ints (w.alloc (.cells #[.int .i64 1, .int .i64 (-2)] 3)) [2] (by simp) 3))
  have k1 := ((k1.step (bel_alloc _ (.cells #[.int .i64 2] 3))).step (bel_alloc _ (.cells #[.slice (some ⟨w.heap.size, 0, none⟩) 2 2, .slice (some ⟨w.heap.size + 1, 0, none⟩) 1 1] 22))).step (bel_alloc _ (.cells #[.int .i64 2, .slice (some ⟨w.heap.size + 1 + 1, 0, none⟩) 2 2] 28))
  have k2 := (k2.step (bel_alloc _ (.cells #[.slice (some ⟨w.heap.size, 0, none⟩) 2 2, .slice (some ⟨w.heap.size + 1, 0, none⟩) 1 1] 22))).step (bel_alloc _ (.cells #[.int .i64 2, .slice (some ⟨w.heap.size + 1 + 1, 0, none⟩) 2 2] 28))
  rw [s1] at k2
  have k3 : Keeps _ (((w.alloc (.cells #[.int .i64 1, .int .i64 (-2)] 3)).alloc (.cells #[.int .i64 2] 3)).alloc (.cells #[.slice (some ⟨w.heap.size, 0, none⟩) 2 2, .slice (some ⟨w.heap.size + 1, 0, none⟩) 1 1] 22)) := Keeps.cell (cell_new _ _ _ 0)
  have k4 : Keeps _ (((w.alloc (.cells #[.int .i64 1, .int .i64 (-2)] 3)).alloc (.cells #[.int .i64 2] 3)).alloc (.cells #[.slice (some ⟨w.heap.size, 0, none⟩) 2 2, .slice (some ⟨w.heap.size + 1, 0, none⟩) 1 1] 22)) := Keeps.cell (cell_new _ _ _ 1)
  have k3 := k3.step (bel_alloc _ (.cells #[.int .i64 2, .slice (some ⟨w.heap.size + 1 + 1, 0, none⟩) 2 2] 28))
  have k4 := k4.step (bel_alloc _ (.cells #[.int .i64 2, .slice (some ⟨w.heap.size + 1 + 1, 0, none⟩) 2 2] 28))
  rw [s2] at k3 k4
  refine ⟨CII_of_cells (by simp) (fun j r hj => ?_), ?_, ?_, ?_⟩
  · match j, hj with
    | 0, hj =>
      obtain rfl : [1, -2] = r := by simpa using hj
      exact ⟨_, 2, k3.here, by simp, k1.here⟩
    | 1, hj =>
      obtain rfl : [2] = r := by simpa using hj
      exact ⟨_, 1, k4.here, by simp, k2.here⟩
  · rw [← s3]; exact cell_new _ _ _ 0
  · rw [← s3]; exact cell_new _ _ _ 1
  · exact (((Below.refl _ w).alloc (Nat.le_refl _) _).alloc (by simp) _).alloc (by simp; omega) _ |>.alloc (by simp; omega) _
theorem fixed_text : bytesB (printL 2 [[1,-2],[2]]) = ⟨#[112, 32, 99, 110, 102, 32, 50, 32, 50, 10, 49, 32, 45, 50, 32, 48, 10, 50, 32, 48, 10]⟩ := by kernel_rfl
theorem fixed_parse : parseR [112, 32, 99, 110, 102, 32, 50, 32, 50, 10, 49, 32, 45, 50, 32, 48, 10, 50, 32, 48, 10] = (2, [[1,-2],[2]], 0) := by kernel_rfl
theorem fixed_plain1 : IsPlain [3, -1, 3] [-1, 3] := ⟨fun x => by simp; omega, by decide⟩
theorem fixed_plain2 : IsPlain [3, -1, -3] [-1, 3, -3] := ⟨fun x => by simp; omega, by decide⟩

set_option maxHeartbeats 4000000 in
set_option maxRecDepth 100000 in
theorem fixed_any (w : World) (hL : Laid w) :
    Calls Tryz.prog 12 #[] w fun e w' => e = .returned (.bool true) ∧ Below w.heap.size w w' := by
  have HL : Aside0 (Laid w) := ⟨hL⟩
  clear hL
  go_enter Tryz.func12, Tryz.ntmps12
  go_wp2_with fail
  obtain ⟨kC, k0, k1, kB⟩ := made_facts w
  replace kC := Keeps.C kC
  replace k0 := Keeps.cell k0
  replace k1 := Keeps.cell k1
  replace kB := Keeps.base kB (Nat.le_refl _)
  have kL := Keeps.laid (HL.out.below kB.here)
  clear HL
  change Calls _ _ _ (madeW w) _
  generalize madeW w = W at *
  generalize w.heap.size + 1 + 1 + 1 = c0 at *
  generalize w.heap.size + 1 + 1 = b0 at *
  have h0 := k0.here
  have h1 := k1.here
  refine (Print_ok 2 _ 2 [[1,-2],[2]] W kL.here kC.here (by unfold WfL Wf; simp) (by omega) (by decide) (by kernel_rfl)).mono ?_
  rw [fixed_text]
  rintro e W2 ⟨rfl, hb⟩
  replace kC := kC.step hb
  replace k0 := k0.step hb
  replace k1 := k1.step hb
  replace kB := kB.step hb
  replace kL := kL.step hb
  clear h0 h1 hb
  go_wp2_with fail
  have HP := Parse_any [112, 32, 99, 110, 102, 32, 50, 32, 50, 10, 49, 32, 45, 50, 32, 48, 10, 50, 32, 48, 10] (by decide) W2 kL.here
  rw [fixed_parse] at HP
  refine HP.mono ?_
  rintro e W3 ⟨vd, rfl, hrow, hb⟩
  clear HP
  obtain ⟨Ad, cd, rfl, _, hCd⟩ := hrow.reads
  replace kC := kC.step hb
  replace k0 := k0.step hb
  replace k1 := k1.step hb
  replace kB := kB.step hb
  replace kL := kL.step hb
  have kD := Keeps.C hCd
  change Keeps (fun W => kII.C W Ad 2 _) _ at kD
  clear hCd hrow hb
  go_wp2_with fail
  have kd0 := Keeps.cell (cell_new W3 #[.int .i64 2, .slice Ad 2 cd] 28 0)
  have kd1 := Keeps.cell (cell_new W3 #[.int .i64 2, .slice Ad 2 cd] 28 1)
  have hb := bel_alloc W3 (.cells #[.int .i64 2, .slice Ad 2 cd] 28)
  replace kC := kC.step hb
  replace k0 := k0.step hb
  replace k1 := k1.step hb
  replace kB := kB.step hb
  replace kL := kL.step hb
  replace kD := kD.step hb
  clear hb
  have hsz : W3.heap.size + 1 = (W3.alloc (.cells #[.int .i64 2, .slice Ad 2 cd] 28)).heap.size := by simp
  rw [hsz]
  clear hsz
  generalize W3.alloc (.cells #[.int .i64 2, .slice Ad 2 cd] 28) = W4 at *
  generalize W3.heap.size = d0 at *
  have hb := bel_alloc W4 (.cells #[.int .i64 3, .int .i64 (-1), .int .i64 3] 3)
  replace kC := kC.step hb
  replace k0 := k0.step hb
  replace k1 := k1.step hb
  replace kB := kB.step hb
  replace kL := kL.step hb
  replace kD := kD.step hb
  replace kd0 := kd0.step hb
  replace kd1 := kd1.step hb
  clear hb
  have HPl := Plain_any ⟨W4.heap.size, 0, none⟩ 3 [3, -1, 3] _ (C_new_ints W4 [3, -1, 3] (by simp) 3) (by simp)
  change Calls _ _ #[.slice (some ⟨W4.heap.size, 0, none⟩) 3 3] (W4.alloc (.cells #[.int .i64 3, .int .i64 (-1), .int .i64 3] 3)) fun e w' => PlainOut (W4.alloc (.cells #[.int .i64 3, .int .i64 (-1), .int .i64 3] 3)) w' [3, -1, 3] e at HPl
  generalize W4.alloc (.cells #[.int .i64 3, .int .i64 (-1), .int .i64 3] 3) = W5 at *
  refine HPl.mono ?_
  clear HPl
  rintro e W6 ⟨Ap, cp, p, rfl, hp, _, hcp, _, hCp, hb⟩
  obtain rfl := hp.unique fixed_plain1
  rw [show oppI [-1, 3] = true from by kernel_rfl]
  change kI.C W6 Ap 2 _ at hCp
  replace hcp : 2 ≤ cp := hcp
  have kP := Keeps.C hCp
  replace kC := kC.step hb
  replace k0 := k0.step hb
  replace k1 := k1.step hb
  replace kB := kB.step hb
  replace kL := kL.step hb
  replace kD := kD.step hb
  replace kd0 := kd0.step hb
  replace kd1 := kd1.step hb
  clear hb hCp hp
  go_wp2_with fail
  have hb := bel_alloc W6 (.cells #[.int .i64 3, .int .i64 (-1), .int .i64 (-3)] 3)
  replace kC := kC.step hb
  replace k0 := k0.step hb
  replace k1 := k1.step hb
  replace kB := kB.step hb
  replace kL := kL.step hb
  replace kD := kD.step hb
  replace kd0 := kd0.step hb
  replace kd1 := kd1.step hb
  replace kP := kP.step hb
  clear hb
  have HPl := Plain_any ⟨W6.heap.size, 0, none⟩ 3 [3, -1, -3] _ (C_new_ints W6 [3, -1, -3] (by simp) 3) (by simp)
  change Calls _ _ #[.slice (some ⟨W6.heap.size, 0, none⟩) 3 3] (W6.alloc (.cells #[.int .i64 3, .int .i64 (-1), .int .i64 (-3)] 3)) fun e w' => PlainOut (W6.alloc (.cells #[.int .i64 3, .int .i64 (-1), .int .i64 (-3)] 3)) w' [3, -1, -3] e at HPl
  generalize W6.alloc (.cells #[.int .i64 3, .int .i64 (-1), .int .i64 (-3)] 3) = W7 at *
  refine HPl.mono ?_
  clear HPl
  rintro e W8 ⟨Aq, cq, p, rfl, hp, _, _, _, hCp, hb⟩
  obtain rfl := hp.unique fixed_plain2
  rw [show oppI [-1, 3, -3] = false from by kernel_rfl]
  replace kC := kC.step hb
  replace k0 := k0.step hb
  replace k1 := k1.step hb
  replace kB := kB.step hb
  replace kL := kL.step hb
  replace kD := kD.step hb
  replace kd0 := kd0.step hb
  replace kd1 := kd1.step hb
  replace kP := kP.step hb
  clear hb hCp hp
  have hc0 := k0.here
  have hc1 := k1.here
  have hd0 := kd0.here
  have hd1 := kd1.here
  go_wp2_with fail
  refine (Lists_any Ad (some ⟨b0, 0, none⟩) cd 2 [[1, -2], [2]] [[1, -2], [2]] W8 kD.here kC.here).mono ?_
  rintro e W9 ⟨rfl, q, rfl⟩
  rw [show decide (([[1, -2], [2]] : List (List Int)) = [[1, -2], [2]]) = true from by decide]
  have hb := bel_drewN W8 q
  replace kC := kC.step hb
  replace k0 := k0.step hb
  replace k1 := k1.step hb
  replace kB := kB.step hb
  replace kL := kL.step hb
  replace kP := kP.step hb
  clear hb hc0 hc1 hd0 hd1 kD kd0 kd1
  generalize W8.drewN q = W9 at *
  go_wp2_with fail
  have hb := bel_alloc W9 (.cells #[.int .i64 (-1), .int .i64 3] 3)
  replace kC := kC.step hb
  replace k0 := k0.step hb
  replace k1 := k1.step hb
  replace kB := kB.step hb
  replace kL := kL.step hb
  replace kP := kP.step hb
  have kN := Keeps.C (C_new_ints W9 [-1, 3] (by simp) 3)
  change Keeps (fun W => kI.C W (some ⟨W9.heap.size, 0, none⟩) 2 [-1, 3]) (W9.alloc (.cells #[.int .i64 (-1), .int .i64 3] 3)) at kN
  clear hb
  generalize W9.alloc (.cells #[.int .i64 (-1), .int .i64 3] 3) = W10 at *
  refine (Nums_any Ap (some ⟨W9.heap.size, 0, none⟩) cp 2 [-1, 3] [-1, 3] W10 kP.here kN.here).mono ?_
  rintro e W11 ⟨rfl, q, rfl⟩
  rw [show decide (([-1, 3] : List Int) = [-1, 3]) = true from by decide]
  have hb := bel_drewN W10 q
  replace kC := kC.step hb
  replace k0 := k0.step hb
  replace k1 := k1.step hb
  replace kB := kB.step hb
  replace kL := kL.step hb
  clear hb kP kN
  generalize W10.drewN q = W11 at *
  have hc0 := k0.here
  have hc1 := k1.here
  go_wp2_with fail
  clear hc0 hc1
  have hb := bel_alloc W11 (.cells #[.bool true, .bool true] 4)
  replace kC := kC.step hb
  replace k0 := k0.step hb
  replace k1 := k1.step hb
  replace kB := kB.step hb
  replace kL := kL.step hb
  have kN := Keeps.C (C_new_bools W11 [true, true] (by simp) 4)
  change Keeps (fun W => Kd.bool.C W (some ⟨W11.heap.size, 0, none⟩) 2 [true, true]) (W11.alloc (.cells #[.bool true, .bool true] 4)) at kN
  clear hb
  generalize W11.alloc (.cells #[.bool true, .bool true] 4) = W12 at *
  refine (True_any 2 (some ⟨b0, 0, none⟩) 2 [[1, -2], [2]] (some ⟨W11.heap.size, 0, none⟩) 2 [true, true] W12 kC.here kN.here).mono ?_
  rintro e W13 ⟨rfl, hb⟩
  rw [show trueB [[1, -2], [2]] [true, true] = true from by kernel_rfl]
  replace kC := kC.step hb
  replace k0 := k0.step hb
  replace k1 := k1.step hb
  replace kB := kB.step hb
  replace kL := kL.step hb
  clear hb kN
  have hc0 := k0.here
  have hc1 := k1.here
  go_wp2_with fail
  clear hc0 hc1
  have hb := bel_alloc W13 (.cells #[.bool true] 4)
  replace kC := kC.step hb
  replace k0 := k0.step hb
  replace k1 := k1.step hb
  replace kB := kB.step hb
  replace kL := kL.step hb
  have kN := Keeps.C (C_new_bools W13 [true] (by simp) 4)
  change Keeps (fun W => Kd.bool.C W (some ⟨W13.heap.size, 0, none⟩) 1 [true]) (W13.alloc (.cells #[.bool true] 4)) at kN
  clear hb
  generalize W13.alloc (.cells #[.bool true] 4) = W14 at *
  refine (True_any 2 (some ⟨b0, 0, none⟩) 2 [[1, -2], [2]] (some ⟨W13.heap.size, 0, none⟩) 1 [true] W14 kC.here kN.here).mono ?_
  rintro e W15 ⟨rfl, hb⟩
  rw [show trueB [[1, -2], [2]] [true] = false from by kernel_rfl]
  replace kC := kC.step hb
  replace k0 := k0.step hb
  replace k1 := k1.step hb
  replace kB := kB.step hb
  replace kL := kL.step hb
  clear hb kN
  clear kC k0 k1
  go_wp2_with fail
  have hb := bel_alloc W15 (.cells #[.int .i64 (-5)] 3)
  replace kB := kB.step hb
  replace kL := kL.step hb
  have kN := Keeps.C (C_new_ints W15 [-5] (by simp) 3)
  change Keeps (fun W => kI.C W (some ⟨W15.heap.size, 0, none⟩) 1 [-5]) (W15.alloc (.cells #[.int .i64 (-5)] 3)) at kN
  clear hb
  generalize W15.alloc (.cells #[.int .i64 (-5)] 3) = W16 at *
  refine (Clause_any (some ⟨W15.heap.size, 0, none⟩) 1 [-5] none 0 [] W16 kN.here (Kd.C_nil _ _)).mono ?_
  rintro e W17 ⟨rfl, hb⟩
  rw [show clauseB [-5] [] = true from by kernel_rfl]
  replace kB := kB.step hb
  replace kL := kL.step hb
  clear hb kN
  go_wp2_with fail
  have hb := bel_alloc W17 (.cells #[.int .i64 0] 3)
  replace kB := kB.step hb
  replace kL := kL.step hb
  have kN := Keeps.C (C_new_ints W17 [0] (by simp) 3)
  change Keeps (fun W => kI.C W (some ⟨W17.heap.size, 0, none⟩) 1 [0]) (W17.alloc (.cells #[.int .i64 0] 3)) at kN
  clear hb
  generalize W17.alloc (.cells #[.int .i64 0] 3) = W18 at *
  refine (Clause_any (some ⟨W17.heap.size, 0, none⟩) 1 [0] none 0 [] W18 kN.here (Kd.C_nil _ _)).mono ?_
  rintro e W19 ⟨rfl, hb⟩
  rw [show clauseB [0] [] = false from by kernel_rfl]
  replace kB := kB.step hb
  replace kL := kL.step hb
  clear hb kN
  go_wp2_with fail
  have hbA := bel_alloc W19 (.cells #[.int .i64 1] 3)
  have kN := Keeps.C (C_new_ints W19 [1] (by simp) 3)
  change Keeps (fun W => kI.C W (some ⟨W19.heap.size, 0, none⟩) 1 [1]) (W19.alloc (.cells #[.int .i64 1] 3)) at kN
  replace kB := kB.step hbA
  rw [show W19.heap.size + 1 = (W19.alloc (.cells #[.int .i64 1] 3)).heap.size from by simp]
  clear hbA
  generalize W19.heap.size = z at *
  generalize W19.alloc (.cells #[.int .i64 1] 3) = W20 at *
  have hbB := bel_alloc W20 (.cells #[.slice (some ⟨z, 0, none⟩) 1 1] 22)
  have hCB : kII.C (W20.alloc (.cells #[.slice (some ⟨z, 0, none⟩) 1 1] 22)) (some ⟨W20.heap.size, 0, none⟩) 1 [[1]] := CII_of_cells (xs := [[1]]) (by simp) fun j r hj => by
    match j, hj with
    | 0, hj =>
      obtain rfl : [1] = r := by simpa using hj
      exact ⟨_, 1, cell_new _ _ _ 0, by simp, (kN.step hbB).here⟩
  replace kB := kB.step hbB
  refine (Check_any 0 (some ⟨W20.heap.size, 0, none⟩) 1 [[1]] _ hCB).mono ?_
  rintro e W21 ⟨rfl, hb⟩
  rw [show checkI 0 [[1]] = 130 from by kernel_rfl]
  replace kB := kB.step hb
  have hfin := kB.here
  go_wp2
  go_ret
  exact ⟨rfl, hfin⟩
end Go.Proofs.YtjifancgekoenaaGreatDoor
