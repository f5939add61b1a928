import Derived.Test.YtdgkbigmdadlaaaGreatDoorAsmF
import Derived.Test.YtdgkbigmdadlaaaGreatDoorAsmS
namespace Go.Proofs.YtdgkbigmdadlaaaGreatDoor
open Go.RowKit Go.Lib Go.Proofs.YtdgkbigmdadlaaaGreatDoorW.PrintWords Go.Proofs.YtdgkbigmdadlaaaGreatDoorW.PrintLast
set_option linter.unusedVariables false
set_option linter.unusedSimpArgs false

abbrev b32 : ByteArray := ⟨#[32]⟩
abbrev bX : ByteArray := ⟨#[120]⟩
abbrev bC : ByteArray := ⟨#[44, 32]⟩
abbrev bO : ByteArray := ⟨#[40]⟩
abbrev bK : ByteArray := ⟨#[41]⟩
theorem b32_eq : b32 = bytesB [32] := rfl
theorem bX_eq : bX = bytesB [120] := rfl
theorem bC_eq : bC = bytesB [44, 32] := rfl
theorem bO_eq : bO = bytesB [40] := rfl
theorem bK_eq : bK = bytesB [41] := rfl
theorem txt_U (x : I5) (h : formI x.op = 85 ∨ formI x.op = 74) : bytesB (nameL x.op) ++ b32 ++ (bX ++ itoaB x.rd) ++ bC ++ itoaB x.n = bytesB (textI x) := by
  rw [b32_eq, bX_eq, bC_eq]
  unfold itoaB
  simp only [bytesB_app]
  unfold textI restL two regL
  rcases h with h | h <;> simp [h]
theorem txt_R (x : I5) (h : formI x.op = 82) : bytesB (nameL x.op) ++ b32 ++ (bX ++ itoaB x.rd) ++ bC ++ (bX ++ itoaB x.a) ++ bC ++ (bX ++ itoaB x.b) = bytesB (textI x) := by
  rw [b32_eq, bX_eq, bC_eq]
  unfold itoaB
  simp only [bytesB_app]
  unfold textI restL three regL
  simp [h]
theorem txt_B (x : I5) (h : formI x.op = 66) : bytesB (nameL x.op) ++ b32 ++ (bX ++ itoaB x.a) ++ bC ++ (bX ++ itoaB x.b) ++ bC ++ itoaB x.n = bytesB (textI x) := by
  rw [b32_eq, bX_eq, bC_eq]
  unfold itoaB
  simp only [bytesB_app]
  unfold textI restL three regL
  simp [h]
theorem txt_S (x : I5) (h : formI x.op = 83) : bytesB (nameL x.op) ++ b32 ++ (bX ++ itoaB x.b) ++ bC ++ itoaB x.n ++ bO ++ (bX ++ itoaB x.a) ++ bK = bytesB (textI x) := by
  rw [b32_eq, bX_eq, bC_eq, bO_eq, bK_eq]
  unfold itoaB
  simp only [bytesB_app]
  unfold textI restL two atL regL
  simp [h]
theorem txt_A (x : I5) (h : formI x.op = 73 ∨ formI x.op = 72) (h2 : around x.op = true) : bytesB (nameL x.op) ++ b32 ++ (bX ++ itoaB x.rd) ++ bC ++ itoaB x.n ++ bO ++ (bX ++ itoaB x.a) ++ bK = bytesB (textI x) := by
  rw [b32_eq, bX_eq, bC_eq, bO_eq, bK_eq]
  unfold itoaB
  simp only [bytesB_app]
  unfold textI restL two atL regL
  rcases h with h | h <;> simp [h, h2]
theorem txt_I (x : I5) (h : formI x.op = 73 ∨ formI x.op = 72) (h2 : around x.op = false) : bytesB (nameL x.op) ++ b32 ++ (bX ++ itoaB x.rd) ++ bC ++ (bX ++ itoaB x.a) ++ bC ++ itoaB x.n = bytesB (textI x) := by
  rw [b32_eq, bX_eq, bC_eq]
  unfold itoaB
  simp only [bytesB_app]
  unfold textI restL three regL
  rcases h with h | h <;> simp [h, h2]
set_option maxHeartbeats 4000000 in
set_option maxRecDepth 100000 in
theorem RPrint_no (x : I5) (h : rightI x = false) (w : World) : Calls Tryz.prog 21 #[.agg #[.int .i64 x.op, .int .i64 x.rd, .int .i64 x.a, .int .i64 x.b, .int .i64 x.n]] w fun e w' => e = .returned (.tuple #[.string ⟨#[]⟩, .int .i64 20]) ∧ Below w.heap.size w w' := by
  have HR := RRight_any x (w.alloc (.cells #[.int .i64 x.op, .int .i64 x.rd, .int .i64 x.a, .int .i64 x.b, .int .i64 x.n] 23))
  rw [h] at HR
  clear h
  go_enter Tryz.func21, Tryz.ntmps21
  go_wp2_with fail
  refine HR.mono ?_
  rintro e W1 ⟨rfl, hb⟩
  have hfin := below_after (bel1 w (.cells #[.int .i64 x.op, .int .i64 x.rd, .int .i64 x.a, .int .i64 x.b, .int .i64 x.n] 23)) hb (Nat.le_refl _)
  clear hb
  go_wp2_with fail
  go_ret2
  exact ⟨rfl, hfin⟩
set_option maxHeartbeats 8000000 in
set_option maxRecDepth 100000 in
theorem RPrint_ok (x : I5) (h : rightI x = true) (w : World) : Calls Tryz.prog 21 #[.agg #[.int .i64 x.op, .int .i64 x.rd, .int .i64 x.a, .int .i64 x.b, .int .i64 x.n]] w fun e w' => e = .returned (.tuple #[.string (bytesB (textI x)), .int .i64 0]) ∧ Below w.heap.size w w' := by
  have HR := RRight_any x (w.alloc (.cells #[.int .i64 x.op, .int .i64 x.rd, .int .i64 x.a, .int .i64 x.b, .int .i64 x.n] 23))
  have HX := Aside0.mk (Box5.new w x 23)
  obtain ⟨hf0, h1, h2, h3, h4⟩ := right_parts h
  have hop := form_in hf0
  have r1 := regOk_range h1
  have r2 := regOk_range h2
  have r3 := regOk_range h3
  have r4 := numOk_range h4
  rw [h] at HR
  have HF := Aside0.mk (fun (W : World) => RForm_any x.op W)
  have HN := Aside0.mk (fun (W : World) => RName_any x.op W)
  have HRd := Aside0.mk (fun (W : World) => RNum_any x.rd (by omega) (by omega) W)
  have HRa := Aside0.mk (fun (W : World) => RNum_any x.a (by omega) (by omega) W)
  have HRb := Aside0.mk (fun (W : World) => RNum_any x.b (by omega) (by omega) W)
  have HRn := Aside0.mk (fun (W : World) => RNum_any x.n (by omega) (by omega) W)
  have T69 : Aside0 (formI x.op = 69 → bytesB (nameL x.op) = bytesB (textI x)) := ⟨fun h => by unfold textI; simp [h]⟩
  have TU := Aside0.mk (txt_U x)
  have TR := Aside0.mk (txt_R x)
  have TB := Aside0.mk (txt_B x)
  have TS := Aside0.mk (txt_S x)
  have TA := Aside0.mk (txt_A x)
  have TI := Aside0.mk (txt_I x)
  have hfc : Aside0 (formI x.op = 85 ∨ formI x.op = 74 ∨ formI x.op = 73 ∨ formI x.op = 66 ∨ formI x.op = 83 ∨ formI x.op = 72 ∨ formI x.op = 82 ∨ formI x.op = 69) := ⟨(form_all x.op).resolve_left hf0⟩
  have l0 : (bytesB (nameL x.op)).size ≤ 6 := by rw [bytesB_size]; exact (name_in hop).2.2.2
  have l1 := itoaB_size x.rd (by omega) (by omega)
  have l2 := itoaB_size x.a (by omega) (by omega)
  have l3 := itoaB_size x.b (by omega) (by omega)
  have l4 := itoaB_size x.n (by omega) (by omega)
  have hop9 := Aside0.mk hop
  clear h h1 h2 h3 h4 hf0 hop r1 r2 r3 r4
  generalize formI x.op = f at *
  generalize bytesB (nameL x.op) = nm at *
  generalize bytesB (textI x) = tx at *
  generalize itoaB x.rd = td at *
  generalize itoaB x.a = ta at *
  generalize itoaB x.b = tb at *
  generalize itoaB x.n = tn at *
  go_enter Tryz.func21, Tryz.ntmps21
  go_wp2_with fail
  refine HR.mono ?_
  rintro e W1 ⟨rfl, hb⟩
  have HX1 := Aside0.mk (HX.out.below hb)
  have HB1 := Aside0.mk (below_after (bel1 w (.cells #[.int .i64 x.op, .int .i64 x.rd, .int .i64 x.a, .int .i64 x.b, .int .i64 x.n] 23)) hb (Nat.le_refl _))
  clear hb HR HX
  obtain ⟨k0, k1, k2, k3, k4⟩ := HX1.out
  have hg := World.block_lt_of_cell? W1 _ k0
  simp only at hg
  clear k0
  have f1 : (9223372036854775807 < 1 + td.size) = False := eq_false (by omega)
  have f2 : (9223372036854775807 < 1 + ta.size) = False := eq_false (by omega)
  have f3 : (9223372036854775807 < 1 + tb.size) = False := eq_false (by omega)
  go_wp2
  go_region_held3 (fun w' => w'.cell? ⟨w.heap.size, 1, none⟩ = some (.int .i64 x.rd) ∧ w'.cell? ⟨w.heap.size, 2, none⟩ = some (.int .i64 x.a) ∧ w'.cell? ⟨w.heap.size, 3, none⟩ = some (.int .i64 x.b) ∧ w'.cell? ⟨w.heap.size, 4, none⟩ = some (.int .i64 x.n)) (first | go_keep | (go_split_ands; refine ⟨?_, ?_, ?_, ?_⟩ <;> first | (rw [hB.cell (p := ⟨w.heap.size, 1, none⟩) hg]; assumption) | (rw [hB.cell (p := ⟨w.heap.size, 2, none⟩) hg]; assumption) | (rw [hB.cell (p := ⟨w.heap.size, 3, none⟩) hg]; assumption) | (rw [hB.cell (p := ⟨w.heap.size, 4, none⟩) hg]; assumption))) (first | (go_at_call_of 42 (Value.int .i64 x.rd); refine (HRd.out _).mono ?_; rintro e w2 ⟨rfl, hb⟩; have hB : Below W1.heap.size W1 w2 := (by refine below_after ?_ hb (Nat.le_refl _); repeat' (first | exact Below.refl _ _ | assumption | refine pw_below_drewN ?_ _ | refine below_drew ?_)); clear hb) | (go_at_call_of 42 (Value.int .i64 x.a); refine (HRa.out _).mono ?_; rintro e w2 ⟨rfl, hb⟩; have hB : Below W1.heap.size W1 w2 := (by refine below_after ?_ hb (Nat.le_refl _); repeat' (first | exact Below.refl _ _ | assumption | refine pw_below_drewN ?_ _ | refine below_drew ?_)); clear hb) | (go_at_call_of 42 (Value.int .i64 x.b); refine (HRb.out _).mono ?_; rintro e w2 ⟨rfl, hb⟩; have hB : Below W1.heap.size W1 w2 := (by refine below_after ?_ hb (Nat.le_refl _); repeat' (first | exact Below.refl _ _ | assumption | refine pw_below_drewN ?_ _ | refine below_drew ?_)); clear hb) | (go_at_call 42; refine (HRn.out _).mono ?_; rintro e w2 ⟨rfl, hb⟩; have hB : Below W1.heap.size W1 w2 := (by refine below_after ?_ hb (Nat.le_refl _); repeat' (first | exact Below.refl _ _ | assumption | refine pw_below_drewN ?_ _ | refine below_drew ?_)); clear hb))
  have HX2 := Aside0.mk (HX1.out.below hB)
  have HB2 := Aside0.mk (below_after HB1.out hB (Nat.le_refl _))
  rename_i Wr _ _ _ _
  clear hB hg k1 k2 k3 k4 f1 f2 f3
  have k0 := HX2.out.c0
  have g1 : (9223372036854775807 < nm.size + 1) = False := eq_false (by omega)
  go_wp2_with fail
  refine (HN.out _).mono ?_
  rintro e W3 ⟨rfl, hb⟩
  have HX3 := Aside0.mk (HX2.out.below hb)
  have HB3 := Aside0.mk (below_after HB2.out hb (Nat.le_refl _))
  clear hb HX2 HB2 k0
  have k0 := HX3.out.c0
  go_wp2_with fail
  refine (HF.out _).mono ?_
  rintro e W4 ⟨rfl, hb⟩
  have HX4 := Aside0.mk (HX3.out.below hb)
  have HB4 := Aside0.mk (below_after HB3.out hb (Nat.le_refl _))
  clear hb HX3 HB3 k0 HRd HRa HRb HRn HF
  have k0 := HX4.out.c0
  have hfin := HB4.out
  rcases hfc.out with rfl | rfl | rfl | rfl | rfl | rfl | rfl | rfl
  · have q1 : (9223372036854775807 < nm.size + 1 + (1 + td.size)) = False := eq_false (by omega)
    have q2 : (9223372036854775807 < nm.size + 1 + (1 + td.size) + 2) = False := eq_false (by omega)
    have q3 : (9223372036854775807 < nm.size + 1 + (1 + td.size) + 2 + tn.size) = False := eq_false (by omega)
    go_wp2_with fail
    go_ret2
    refine ⟨?_, hfin⟩
    exact congrArg (fun t => Ending.returned (.tuple #[.string t, .int .i64 0])) (TU.out (by first | trivial | simp))
  · have q1 : (9223372036854775807 < nm.size + 1 + (1 + td.size)) = False := eq_false (by omega)
    have q2 : (9223372036854775807 < nm.size + 1 + (1 + td.size) + 2) = False := eq_false (by omega)
    have q3 : (9223372036854775807 < nm.size + 1 + (1 + td.size) + 2 + tn.size) = False := eq_false (by omega)
    go_wp2_with fail
    go_ret2
    refine ⟨?_, hfin⟩
    exact congrArg (fun t => Ending.returned (.tuple #[.string t, .int .i64 0])) (TU.out (by first | trivial | simp))
  · have ho : Aside0 (0 ≤ x.op ∧ x.op < 47) := hop9
    by_cases e3 : x.op = 3
    · have hA := Aside0.mk (show around x.op = true by unfold around; simp [e3])
      have e4 : decide (x.op = 3) = true := by simpa using e3
      have e4b : (x.op == 3) = true := by simpa using e3
      have q1 : (9223372036854775807 < nm.size + 1 + (1 + td.size)) = False := eq_false (by omega)
      have q2 : (9223372036854775807 < nm.size + 1 + (1 + td.size) + 2) = False := eq_false (by omega)
      have q3 : (9223372036854775807 < nm.size + 1 + (1 + td.size) + 2 + tn.size) = False := eq_false (by omega)
      have q4 : (9223372036854775807 < nm.size + 1 + (1 + td.size) + 2 + tn.size + 1) = False := eq_false (by omega)
      have q5 : (9223372036854775807 < nm.size + 1 + (1 + td.size) + 2 + tn.size + 1 + (1 + ta.size)) = False := eq_false (by omega)
      have q6 : (9223372036854775807 < nm.size + 1 + (1 + td.size) + 2 + tn.size + 1 + (1 + ta.size) + 1) = False := eq_false (by omega)
      go_wp2_with fail
      go_ret2
      refine ⟨?_, hfin⟩
      exact congrArg (fun t => Ending.returned (.tuple #[.string t, .int .i64 0])) (TA.out (by first | trivial | simp) hA.out)
    · by_cases e5 : 10 ≤ x.op
      · by_cases e6 : x.op ≤ 14
        · have hA := Aside0.mk (show around x.op = true by unfold around; simp [e3, e5, e6])
          have e4 : decide (x.op = 3) = false := by simpa using e3
          have e4b : (x.op == 3) = false := by simpa using e3
          have e7 : decide (10 ≤ x.op) = true := by simpa using e5
          have e8 : decide (x.op ≤ 14) = true := by simpa using e6
          have q1 : (9223372036854775807 < nm.size + 1 + (1 + td.size)) = False := eq_false (by omega)
          have q2 : (9223372036854775807 < nm.size + 1 + (1 + td.size) + 2) = False := eq_false (by omega)
          have q3 : (9223372036854775807 < nm.size + 1 + (1 + td.size) + 2 + tn.size) = False := eq_false (by omega)
          have q4 : (9223372036854775807 < nm.size + 1 + (1 + td.size) + 2 + tn.size + 1) = False := eq_false (by omega)
          have q5 : (9223372036854775807 < nm.size + 1 + (1 + td.size) + 2 + tn.size + 1 + (1 + ta.size)) = False := eq_false (by omega)
          have q6 : (9223372036854775807 < nm.size + 1 + (1 + td.size) + 2 + tn.size + 1 + (1 + ta.size) + 1) = False := eq_false (by omega)
          go_wp2_with fail
          go_ret2
          refine ⟨?_, hfin⟩
          exact congrArg (fun t => Ending.returned (.tuple #[.string t, .int .i64 0])) (TA.out (by first | trivial | simp) hA.out)
        · have hA := Aside0.mk (show around x.op = false by unfold around; simp [e3, e6])
          have e4 : decide (x.op = 3) = false := by simpa using e3
          have e4b : (x.op == 3) = false := by simpa using e3
          have e7 : decide (10 ≤ x.op) = true := by simpa using e5
          have e8 : decide (x.op ≤ 14) = false := by simpa using e6
          have q1 : (9223372036854775807 < nm.size + 1 + (1 + td.size)) = False := eq_false (by omega)
          have q2 : (9223372036854775807 < nm.size + 1 + (1 + td.size) + 2) = False := eq_false (by omega)
          have q3 : (9223372036854775807 < nm.size + 1 + (1 + td.size) + 2 + (1 + ta.size)) = False := eq_false (by omega)
          have q4 : (9223372036854775807 < nm.size + 1 + (1 + td.size) + 2 + (1 + ta.size) + 2) = False := eq_false (by omega)
          have q5 : (9223372036854775807 < nm.size + 1 + (1 + td.size) + 2 + (1 + ta.size) + 2 + tn.size) = False := eq_false (by omega)
          go_wp2_with fail
          go_ret2
          refine ⟨?_, hfin⟩
          exact congrArg (fun t => Ending.returned (.tuple #[.string t, .int .i64 0])) (TI.out (by first | trivial | simp) hA.out)
      · have hA := Aside0.mk (show around x.op = false by unfold around; simp [e3, e5])
        have e4 : decide (x.op = 3) = false := by simpa using e3
        have e4b : (x.op == 3) = false := by simpa using e3
        have e7 : decide (10 ≤ x.op) = false := by simpa using e5
        have q1 : (9223372036854775807 < nm.size + 1 + (1 + td.size)) = False := eq_false (by omega)
        have q2 : (9223372036854775807 < nm.size + 1 + (1 + td.size) + 2) = False := eq_false (by omega)
        have q3 : (9223372036854775807 < nm.size + 1 + (1 + td.size) + 2 + (1 + ta.size)) = False := eq_false (by omega)
        have q4 : (9223372036854775807 < nm.size + 1 + (1 + td.size) + 2 + (1 + ta.size) + 2) = False := eq_false (by omega)
        have q5 : (9223372036854775807 < nm.size + 1 + (1 + td.size) + 2 + (1 + ta.size) + 2 + tn.size) = False := eq_false (by omega)
        go_wp2_with fail
        go_ret2
        refine ⟨?_, hfin⟩
        exact congrArg (fun t => Ending.returned (.tuple #[.string t, .int .i64 0])) (TI.out (by first | trivial | simp) hA.out)
  · have q1 : (9223372036854775807 < nm.size + 1 + (1 + ta.size)) = False := eq_false (by omega)
    have q2 : (9223372036854775807 < nm.size + 1 + (1 + ta.size) + 2) = False := eq_false (by omega)
    have q3 : (9223372036854775807 < nm.size + 1 + (1 + ta.size) + 2 + (1 + tb.size)) = False := eq_false (by omega)
    have q4 : (9223372036854775807 < nm.size + 1 + (1 + ta.size) + 2 + (1 + tb.size) + 2) = False := eq_false (by omega)
    have q5 : (9223372036854775807 < nm.size + 1 + (1 + ta.size) + 2 + (1 + tb.size) + 2 + tn.size) = False := eq_false (by omega)
    go_wp2_with fail
    go_ret2
    refine ⟨?_, hfin⟩
    exact congrArg (fun t => Ending.returned (.tuple #[.string t, .int .i64 0])) (TB.out (by first | trivial | simp))
  · have q1 : (9223372036854775807 < nm.size + 1 + (1 + tb.size)) = False := eq_false (by omega)
    have q2 : (9223372036854775807 < nm.size + 1 + (1 + tb.size) + 2) = False := eq_false (by omega)
    have q3 : (9223372036854775807 < nm.size + 1 + (1 + tb.size) + 2 + tn.size) = False := eq_false (by omega)
    have q4 : (9223372036854775807 < nm.size + 1 + (1 + tb.size) + 2 + tn.size + 1) = False := eq_false (by omega)
    have q5 : (9223372036854775807 < nm.size + 1 + (1 + tb.size) + 2 + tn.size + 1 + (1 + ta.size)) = False := eq_false (by omega)
    have q6 : (9223372036854775807 < nm.size + 1 + (1 + tb.size) + 2 + tn.size + 1 + (1 + ta.size) + 1) = False := eq_false (by omega)
    go_wp2_with fail
    go_ret2
    refine ⟨?_, hfin⟩
    exact congrArg (fun t => Ending.returned (.tuple #[.string t, .int .i64 0])) (TS.out (by first | trivial | simp))
  · have ho : Aside0 (0 ≤ x.op ∧ x.op < 47) := hop9
    by_cases e3 : x.op = 3
    · have hA := Aside0.mk (show around x.op = true by unfold around; simp [e3])
      have e4 : decide (x.op = 3) = true := by simpa using e3
      have e4b : (x.op == 3) = true := by simpa using e3
      have q1 : (9223372036854775807 < nm.size + 1 + (1 + td.size)) = False := eq_false (by omega)
      have q2 : (9223372036854775807 < nm.size + 1 + (1 + td.size) + 2) = False := eq_false (by omega)
      have q3 : (9223372036854775807 < nm.size + 1 + (1 + td.size) + 2 + tn.size) = False := eq_false (by omega)
      have q4 : (9223372036854775807 < nm.size + 1 + (1 + td.size) + 2 + tn.size + 1) = False := eq_false (by omega)
      have q5 : (9223372036854775807 < nm.size + 1 + (1 + td.size) + 2 + tn.size + 1 + (1 + ta.size)) = False := eq_false (by omega)
      have q6 : (9223372036854775807 < nm.size + 1 + (1 + td.size) + 2 + tn.size + 1 + (1 + ta.size) + 1) = False := eq_false (by omega)
      go_wp2_with fail
      go_ret2
      refine ⟨?_, hfin⟩
      exact congrArg (fun t => Ending.returned (.tuple #[.string t, .int .i64 0])) (TA.out (by first | trivial | simp) hA.out)
    · by_cases e5 : 10 ≤ x.op
      · by_cases e6 : x.op ≤ 14
        · have hA := Aside0.mk (show around x.op = true by unfold around; simp [e3, e5, e6])
          have e4 : decide (x.op = 3) = false := by simpa using e3
          have e4b : (x.op == 3) = false := by simpa using e3
          have e7 : decide (10 ≤ x.op) = true := by simpa using e5
          have e8 : decide (x.op ≤ 14) = true := by simpa using e6
          have q1 : (9223372036854775807 < nm.size + 1 + (1 + td.size)) = False := eq_false (by omega)
          have q2 : (9223372036854775807 < nm.size + 1 + (1 + td.size) + 2) = False := eq_false (by omega)
          have q3 : (9223372036854775807 < nm.size + 1 + (1 + td.size) + 2 + tn.size) = False := eq_false (by omega)
          have q4 : (9223372036854775807 < nm.size + 1 + (1 + td.size) + 2 + tn.size + 1) = False := eq_false (by omega)
          have q5 : (9223372036854775807 < nm.size + 1 + (1 + td.size) + 2 + tn.size + 1 + (1 + ta.size)) = False := eq_false (by omega)
          have q6 : (9223372036854775807 < nm.size + 1 + (1 + td.size) + 2 + tn.size + 1 + (1 + ta.size) + 1) = False := eq_false (by omega)
          go_wp2_with fail
          go_ret2
          refine ⟨?_, hfin⟩
          exact congrArg (fun t => Ending.returned (.tuple #[.string t, .int .i64 0])) (TA.out (by first | trivial | simp) hA.out)
        · have hA := Aside0.mk (show around x.op = false by unfold around; simp [e3, e6])
          have e4 : decide (x.op = 3) = false := by simpa using e3
          have e4b : (x.op == 3) = false := by simpa using e3
          have e7 : decide (10 ≤ x.op) = true := by simpa using e5
          have e8 : decide (x.op ≤ 14) = false := by simpa using e6
          have q1 : (9223372036854775807 < nm.size + 1 + (1 + td.size)) = False := eq_false (by omega)
          have q2 : (9223372036854775807 < nm.size + 1 + (1 + td.size) + 2) = False := eq_false (by omega)
          have q3 : (9223372036854775807 < nm.size + 1 + (1 + td.size) + 2 + (1 + ta.size)) = False := eq_false (by omega)
          have q4 : (9223372036854775807 < nm.size + 1 + (1 + td.size) + 2 + (1 + ta.size) + 2) = False := eq_false (by omega)
          have q5 : (9223372036854775807 < nm.size + 1 + (1 + td.size) + 2 + (1 + ta.size) + 2 + tn.size) = False := eq_false (by omega)
          go_wp2_with fail
          go_ret2
          refine ⟨?_, hfin⟩
          exact congrArg (fun t => Ending.returned (.tuple #[.string t, .int .i64 0])) (TI.out (by first | trivial | simp) hA.out)
      · have hA := Aside0.mk (show around x.op = false by unfold around; simp [e3, e5])
        have e4 : decide (x.op = 3) = false := by simpa using e3
        have e4b : (x.op == 3) = false := by simpa using e3
        have e7 : decide (10 ≤ x.op) = false := by simpa using e5
        have q1 : (9223372036854775807 < nm.size + 1 + (1 + td.size)) = False := eq_false (by omega)
        have q2 : (9223372036854775807 < nm.size + 1 + (1 + td.size) + 2) = False := eq_false (by omega)
        have q3 : (9223372036854775807 < nm.size + 1 + (1 + td.size) + 2 + (1 + ta.size)) = False := eq_false (by omega)
        have q4 : (9223372036854775807 < nm.size + 1 + (1 + td.size) + 2 + (1 + ta.size) + 2) = False := eq_false (by omega)
        have q5 : (9223372036854775807 < nm.size + 1 + (1 + td.size) + 2 + (1 + ta.size) + 2 + tn.size) = False := eq_false (by omega)
        go_wp2_with fail
        go_ret2
        refine ⟨?_, hfin⟩
        exact congrArg (fun t => Ending.returned (.tuple #[.string t, .int .i64 0])) (TI.out (by first | trivial | simp) hA.out)
  · have q1 : (9223372036854775807 < nm.size + 1 + (1 + td.size)) = False := eq_false (by omega)
    have q2 : (9223372036854775807 < nm.size + 1 + (1 + td.size) + 2) = False := eq_false (by omega)
    have q3 : (9223372036854775807 < nm.size + 1 + (1 + td.size) + 2 + (1 + ta.size)) = False := eq_false (by omega)
    have q4 : (9223372036854775807 < nm.size + 1 + (1 + td.size) + 2 + (1 + ta.size) + 2) = False := eq_false (by omega)
    have q5 : (9223372036854775807 < nm.size + 1 + (1 + td.size) + 2 + (1 + ta.size) + 2 + (1 + tb.size)) = False := eq_false (by omega)
    go_wp2_with fail
    go_ret2
    refine ⟨?_, hfin⟩
    exact congrArg (fun t => Ending.returned (.tuple #[.string t, .int .i64 0])) (TR.out (by first | trivial | simp))
  · go_wp2_with fail
    refine (HN.out _).mono ?_
    rintro e W5 ⟨rfl, hb⟩
    have hfin5 := below_after hfin hb (Nat.le_refl _)
    go_wp2_with fail
    go_ret2
    refine ⟨?_, hfin5⟩
    exact congrArg (fun t => Ending.returned (.tuple #[.string t, .int .i64 0])) (T69.out (by first | trivial | simp))
theorem RPrint_any (x : I5) (w : World) : Calls Tryz.prog 21 #[.agg #[.int .i64 x.op, .int .i64 x.rd, .int .i64 x.a, .int .i64 x.b, .int .i64 x.n]] w fun e w' => e = .returned (.tuple #[.string (bytesB (printT x)), .int .i64 (printE x)]) ∧ Below w.heap.size w w' := by
  unfold printT printE
  by_cases h : rightI x = true
  · simp only [h, if_true]
    exact RPrint_ok x h w
  · simp only [h, if_false]
    exact RPrint_no x (by simpa using h) w
/-! The same as a printed function's words. -/
def whetstoneref05_Print.f (k : Nat) (a0 a1 a2 a3 a4 : Int) : Option (ByteArray × Int) := some (bytesB (printT ⟨a0, a1, a2, a3, a4⟩), printE ⟨a0, a1, a2, a3, a4⟩)
theorem whetstoneref05_Print.mono : ∀ a0 a1 a2 a3 a4 k, LeO (whetstoneref05_Print.f k a0 a1 a2 a3 a4) (whetstoneref05_Print.f (k + 1) a0 a1 a2 a3 a4) := fun _ _ _ _ _ _ => LeO.refl _
theorem whetstoneref05_Print.calls (k : Nat) (a0_0 : Int) (a0_1 : Int) (a0_2 : Int) (a0_3 : Int) (a0_4 : Int) (r1 : ByteArray) (r2 : Int) (w : World) (h : whetstoneref05_Print.f k a0_0 a0_1 a0_2 a0_3 a0_4 = some (r1, r2)) :
    Calls Tryz.prog 21 #[.agg #[.int .i64 a0_0, .int .i64 a0_1, .int .i64 a0_2, .int .i64 a0_3, .int .i64 a0_4]] w fun e w' => e = .returned (.tuple #[.string r1, .int .i64 r2]) ∧ Below w.heap.size w w' := by
  unfold whetstoneref05_Print.f at h
  simp only [Option.some.injEq, Prod.mk.injEq] at h
  obtain ⟨rfl, rfl⟩ := h
  exact RPrint_any ⟨a0_0, a0_1, a0_2, a0_3, a0_4⟩ w
end Go.Proofs.YtdgkbigmdadlaaaGreatDoor
