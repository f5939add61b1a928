import Derived.Test.YtdgkbigmdadlaaaGreatDoorAsmK
namespace Go.Proofs.YtdgkbigmdadlaaaGreatDoor
open Go.RowKit Go.Lib Go.Proofs.YtdgkbigmdadlaaaGreatDoorW.PrintWords Go.Proofs.YtdgkbigmdadlaaaGreatDoorW.PrintLast
attribute [local go_sem high] eqA23
set_option linter.unusedVariables false
set_option linter.unusedSimpArgs false

theorem row_new (w : World) (x y : I5) (t : TypeId) : RowI (w.alloc (.cells (cells5 x ++ cells5 y).toArray t)) (some ⟨w.heap.size, 0, none⟩) [x, y] where
  max := by simp
  at_ := fun _ => ⟨w.heap.size, 0, rfl, fun j z hj => by
    match j, hj with
    | 0, hj =>
      obtain rfl : x = z := by simpa using hj
      exact ⟨cell_new _ _ _ 0, cell_new _ _ _ 1, cell_new _ _ _ 2, cell_new _ _ _ 3, cell_new _ _ _ 4⟩
    | 1, hj =>
      obtain rfl : y = z := by simpa using hj
      exact ⟨cell_new _ _ _ 5, cell_new _ _ _ 6, cell_new _ _ _ 7, cell_new _ _ _ 8, cell_new _ _ _ 9⟩
    | j + 2, hj => simp at hj⟩
set_option maxHeartbeats 8000000 in
set_option maxRecDepth 100000 in
theorem fixed_any (w : World) (hL : Laid w) : Calls Tryz.prog 7 #[] w fun e w' => e = .returned (.bool true) ∧ Below w.heap.size w w' := by
  have HL := Aside0.mk hL
  have HP1 : Aside0 (∀ W, Laid W → Calls Tryz.prog 17 #[.agg #[.int .i64 18, .int .i64 1, .int .i64 2, .int .i64 0, .int .i64 (-5)]] W fun e w' => e = .returned (.tuple #[.string ⟨#[97, 100, 100, 105, 32, 120, 49, 44, 32, 120, 50, 44, 32, 45, 53]⟩, .int .i64 0]) ∧ Below W.heap.size W w') := ⟨fun W h => by have := Print_any ⟨18, 1, 2, 0, -5⟩ W h; rw [fx1.1, fx1.2] at this; exact this⟩
  have HP2 : Aside0 (∀ W, Laid W → Calls Tryz.prog 17 #[.agg #[.int .i64 17, .int .i64 0, .int .i64 2, .int .i64 1, .int .i64 (-4)]] W fun e w' => e = .returned (.tuple #[.string ⟨#[115, 119, 32, 120, 49, 44, 32, 45, 52, 40, 120, 50, 41]⟩, .int .i64 0]) ∧ Below W.heap.size W w') := ⟨fun W h => by have := Print_any ⟨17, 0, 2, 1, -4⟩ W h; rw [fx2.1, fx2.2] at this; exact this⟩
  have HP3 : Aside0 (∀ W, Laid W → Calls Tryz.prog 5 #[.string ⟨#[108, 119, 32, 120, 49, 44, 32, 52, 40, 120, 50, 41]⟩] W fun e w' => e = .returned (.tuple #[.agg #[.int .i64 12, .int .i64 1, .int .i64 2, .int .i64 0, .int .i64 4], .int .i64 0]) ∧ Below W.heap.size W w') := ⟨fun W h => by have := Parse_any [108, 119, 32, 120, 49, 44, 32, 52, 40, 120, 50, 41] (by decide) W h; rw [fx3] at this; exact this⟩
  have HP4 : Aside0 (∀ W, Laid W → Calls Tryz.prog 5 #[.string ⟨#[97, 100, 100, 32, 120, 49, 44, 32, 120, 50, 44, 32, 120, 48, 51]⟩] W fun e w' => e = .returned (.tuple #[.agg #[.int .i64 0, .int .i64 0, .int .i64 0, .int .i64 0, .int .i64 0], .int .i64 50]) ∧ Below W.heap.size W w') := ⟨fun W h => by have := Parse_any [97, 100, 100, 32, 120, 49, 44, 32, 120, 50, 44, 32, 120, 48, 51] (by decide) W h; rw [fx4] at this; exact this⟩
  have HP5 : Aside0 (∀ W, Laid W → Calls Tryz.prog 17 #[.agg #[.int .i64 47, .int .i64 0, .int .i64 0, .int .i64 0, .int .i64 0]] W fun e w' => e = .returned (.tuple #[.string ⟨#[]⟩, .int .i64 20]) ∧ Below W.heap.size W w') := ⟨fun W h => by have := Print_any ⟨47, 0, 0, 0, 0⟩ W h; rw [fx5.1, fx5.2] at this; exact this⟩
  have HP6 : Aside0 (∀ W, Laid W → Calls Tryz.prog 10 #[.string ⟨#[101, 99, 97, 108, 108, 10, 108, 117, 105, 32, 120, 49, 44, 32, 53, 10]⟩] W fun e w' => ∃ v, e = .returned (.tuple #[v, .int .i64 0]) ∧ OwnI w' W.heap.size v [⟨45, 0, 0, 0, 0⟩, ⟨0, 1, 0, 0, 5⟩] ∧ Below W.heap.size W w') := ⟨fun W h => by have := Read_any [101, 99, 97, 108, 108, 10, 108, 117, 105, 32, 120, 49, 44, 32, 53, 10] (by decide) W h; rw [fx6] at this; exact this⟩
  have HB1 : Aside0 (∀ W, Calls Tryz.prog 15 #[.string ⟨#[114, 101, 109, 117]⟩] W fun e w' => e = .returned (.int .i64 44) ∧ Below W.heap.size W w') := ⟨fun W => by have := By_any [114, 101, 109, 117] W; rw [fx7.1] at this; exact this⟩
  have HB2 : Aside0 (∀ W, Calls Tryz.prog 15 #[.string ⟨#[120]⟩] W fun e w' => e = .returned (.int .i64 (-1)) ∧ Below W.heap.size W w') := ⟨fun W => by have := By_any [120] W; rw [fx7.2.1] at this; exact this⟩
  have HN : Aside0 (∀ W, Calls Tryz.prog 22 #[.int .i64 (-1)] W fun e w' => e = .returned (.string ⟨#[]⟩) ∧ Below W.heap.size W w') := ⟨fun W => by have := Name_any (-1) W; rw [fx7.2.2] at this; exact this⟩
  clear hL
  go_enter Tryz.func7, Tryz.ntmps7
  go_wp2_with fail
  refine (HP1.out _ HL.out).mono ?_
  rintro e w1 ⟨rfl, hb⟩
  have HX1 := Aside0.mk hb
  clear hb HP1
  go_wp2_with fail
  refine (HP2.out _ (HL.out.below HX1.out)).mono ?_
  rintro e w2 ⟨rfl, hb⟩
  have HX2 := Aside0.mk (below_after HX1.out hb (Nat.le_refl _))
  clear hb HP2 HX1
  go_wp2_with fail
  refine (HP3.out _ (HL.out.below HX2.out)).mono ?_
  rintro e w3 ⟨rfl, hb⟩
  have HX3 := Aside0.mk (below_after (below_after HX2.out hb (Nat.le_refl _)) (bel1 w3 (.cells #[.int .i64 12, .int .i64 1, .int .i64 2, .int .i64 0, .int .i64 4] 23)) (Nat.le_refl _))
  have HY3 := Aside0.mk (Box5.new w3 ⟨12, 1, 2, 0, 4⟩ 23)
  clear hb HP3 HX2
  go_wp2_with fail
  refine (HP4.out _ (HL.out.below HX3.out)).mono ?_
  rintro e w4 ⟨rfl, hb⟩
  have HX4 := Aside0.mk (below_after (below_after HX3.out hb (Nat.le_refl _)) (bel1 w4 (.cells #[.int .i64 0, .int .i64 0, .int .i64 0, .int .i64 0, .int .i64 0] 23)) (Nat.le_refl _))
  have HY4 := Aside0.mk ((HY3.out.below hb).below (bel1 w4 (.cells #[.int .i64 0, .int .i64 0, .int .i64 0, .int .i64 0, .int .i64 0] 23)))
  clear hb HP4 HX3 HY3
  go_wp2_with fail
  refine (HP5.out _ (HL.out.below HX4.out)).mono ?_
  rintro e w5 ⟨rfl, hb⟩
  have HX5 := Aside0.mk (below_after HX4.out hb (Nat.le_refl _))
  have HY5 := Aside0.mk (HY4.out.below hb)
  clear hb HP5 HX4 HY4
  go_wp2_with fail
  refine (HP6.out _ (HL.out.below HX5.out)).mono ?_
  rintro e w6 ⟨v, rfl, ho, hb⟩
  obtain ⟨A6, c6, rfl, hc6, hR⟩ := ho.reads
  have HX6 := Aside0.mk (below_after HX5.out hb (Nat.le_refl _))
  have HR6 := Aside0.mk hR
  obtain ⟨k0, k1, k2, k3, k4⟩ := HY5.out.below hb
  clear hb HP6 HX5 HY5 ho hR
  have hn := row_new w6 ⟨45, 0, 0, 0, 0⟩ ⟨0, 1, 0, 0, 5⟩ 23
  have HS := Aside0.mk (Same_any A6 (some ⟨w6.heap.size, 0, none⟩) c6 2 [⟨45, 0, 0, 0, 0⟩, ⟨0, 1, 0, 0, 5⟩] [⟨45, 0, 0, 0, 0⟩, ⟨0, 1, 0, 0, 5⟩] _ (HR6.out.below (bel1 w6 _)) hn hc6 (by decide) (by decide))
  rw [show decide (([⟨45, 0, 0, 0, 0⟩, ⟨0, 1, 0, 0, 5⟩] : List I5) = [⟨45, 0, 0, 0, 0⟩, ⟨0, 1, 0, 0, 5⟩]) = true from by decide] at HS
  have HX7 := Aside0.mk (below_after HX6.out (bel1 w6 (.cells (cells5 ⟨45, 0, 0, 0, 0⟩ ++ cells5 ⟨0, 1, 0, 0, 5⟩).toArray 23)) (Nat.le_refl _))
  clear hn HR6 HX6 hc6
  go_wp2_with fail
  refine HS.out.mono ?_
  rintro e w7 ⟨rfl, ⟨q, rfl⟩⟩
  have HX8 := Aside0.mk (pw_below_drewN HX7.out q)
  clear HX7 HS k0 k1 k2 k3 k4
  go_wp2_with fail
  refine (HB1.out _).mono ?_
  rintro e w8 ⟨rfl, hb⟩
  have HX9 := Aside0.mk (below_after HX8.out hb (Nat.le_refl _))
  clear hb HX8
  go_wp2_with fail
  refine (HB2.out _).mono ?_
  rintro e w9 ⟨rfl, hb⟩
  have HX10 := Aside0.mk (below_after HX9.out hb (Nat.le_refl _))
  clear hb HX9
  go_wp2_with fail
  refine (HN.out _).mono ?_
  rintro e w10 ⟨rfl, hb⟩
  have hfin := below_after HX10.out hb (Nat.le_refl _)
  clear hb HX10
  go_wp2_with fail
  go_ret
  exact ⟨rfl, hfin⟩
end Go.Proofs.YtdgkbigmdadlaaaGreatDoor
