import Derived.Test.YtdgkbigmdadlaaaDoorAsmL
import Derived.Test.YtdgkbigmdadlaaaDoorAsmT
namespace Go.Proofs.YtdgkbigmdadlaaaDoor
open Go.RowKit Go.Lib Go.Proofs.YtdgkbigmdadlaaaDoorW.PrintWords Go.Proofs.YtdgkbigmdadlaaaDoorW.PrintLast
set_option linter.unusedVariables false
set_option linter.unusedSimpArgs false

set_option maxHeartbeats 8000000 in
set_option maxRecDepth 100000 in
theorem AsmPrints_any (x : I5) (s : List UInt8) (w : World) (hL : Laid w) : Calls Tryd.prog 3 #[.agg #[.int .i64 x.op, .int .i64 x.rd, .int .i64 x.a, .int .i64 x.b, .int .i64 x.n], .string (bytesB s)] w fun e w' => e = .returned (.bool true) ∧ Below w.heap.size w w' := by
  have HX := Aside0.mk (Box5.new w x 23)
  have HL0 := Aside0.mk (hL.below (bel1 w (.cells #[.int .i64 x.op, .int .i64 x.rd, .int .i64 x.a, .int .i64 x.b, .int .i64 x.n] 23)))
  have HB0 := Aside0.mk (bel1 w (.cells #[.int .i64 x.op, .int .i64 x.rd, .int .i64 x.a, .int .i64 x.b, .int .i64 x.n] 23))
  clear hL
  have HP := Aside0.mk (fun (W : World) hL => Print_any x W hL)
  have HRP := Aside0.mk (fun (W : World) => RPrint_any x W)
  have HN := Aside0.mk (fun (W : World) => Name_any x.op W)
  have HRN := Aside0.mk (fun (W : World) => RName_any x.op W)
  have HBy := Aside0.mk (fun (W : World) => By_any s W)
  have HRB := Aside0.mk (fun (W : World) => RBy_any s W)
  have HF := Aside0.mk (fun (W : World) hL => fixed_any W hL)
  generalize bytesB (printT x) = tx at *
  generalize printE x = te at *
  generalize bytesB (nameL x.op) = nm at *
  generalize byL s = bv at *
  generalize bytesB s = sb at *
  go_enter Tryd.func3, Tryd.ntmps3
  go_wp2_with fail
  refine (HP.out _ HL0.out).mono ?_
  rintro e W1 ⟨rfl, hb⟩
  have HX1 := Aside0.mk (HX.out.below hb)
  have HL1 := Aside0.mk (HL0.out.below hb)
  have HB1 := Aside0.mk (below_after HB0.out hb (Nat.le_refl _))
  clear hb HX HL0 HB0 HP
  obtain ⟨k0, k1, k2, k3, k4⟩ := HX1.out
  go_wp2_with fail
  refine (HRP.out _).mono ?_
  rintro e W2 ⟨rfl, hb⟩
  clear k0 k1 k2 k3 k4
  have HX2 := Aside0.mk (HX1.out.below hb)
  have HL2 := Aside0.mk (HL1.out.below hb)
  have HB2 := Aside0.mk (below_after HB1.out hb (Nat.le_refl _))
  clear hb HX1 HL1 HB1 HRP
  have k0 := HX2.out.c0
  have hg := World.block_lt_of_cell? W2 _ k0
  simp only at hg
  go_wp2
  go_region_held3 (fun w' => w'.cell? ⟨w.heap.size, 0, none⟩ = some (.int .i64 x.op)) (first | go_keep | (rw [hB.cell (p := ⟨w.heap.size, 0, none⟩) hg]; assumption)) (first | (go_at_call 11; refine (HF.out _ (HL2.out.below (by repeat' (first | exact Below.refl _ _ | assumption | refine pw_below_drewN ?_ _ | refine below_drew ?_)))).mono ?_; rintro e w2 ⟨rfl, hb⟩; have hB : Below W2.heap.size W2 w2 := (by refine below_after ?_ hb (Nat.le_refl _); repeat' (first | exact Below.refl _ _ | assumption | refine pw_below_drewN ?_ _ | refine below_drew ?_)); clear hb) | (go_at_call 12; refine (HN.out _).mono ?_; rintro e w2 ⟨rfl, hb⟩; have hB : Below W2.heap.size W2 w2 := (by refine below_after ?_ hb (Nat.le_refl _); repeat' (first | exact Below.refl _ _ | assumption | refine pw_below_drewN ?_ _ | refine below_drew ?_)); clear hb) | (go_at_call 13; refine (HRN.out _).mono ?_; rintro e w2 ⟨rfl, hb⟩; have hB : Below W2.heap.size W2 w2 := (by refine below_after ?_ hb (Nat.le_refl _); repeat' (first | exact Below.refl _ _ | assumption | refine pw_below_drewN ?_ _ | refine below_drew ?_)); clear hb) | (go_at_call 14; refine (HBy.out _).mono ?_; rintro e w2 ⟨rfl, hb⟩; have hB : Below W2.heap.size W2 w2 := (by refine below_after ?_ hb (Nat.le_refl _); repeat' (first | exact Below.refl _ _ | assumption | refine pw_below_drewN ?_ _ | refine below_drew ?_)); clear hb) | (go_at_call 15; refine (HRB.out _).mono ?_; rintro e w2 ⟨rfl, hb⟩; have hB : Below W2.heap.size W2 w2 := (by refine below_after ?_ hb (Nat.le_refl _); repeat' (first | exact Below.refl _ _ | assumption | refine pw_below_drewN ?_ _ | refine below_drew ?_)); clear hb))
  have hfin := below_after HB2.out hB (Nat.le_refl _)
  go_wp2
  go_ret
  exact ⟨by simp, hfin⟩
end Go.Proofs.YtdgkbigmdadlaaaDoor
