import Derived.Test.YtdgkbigmdadlaaaGreatDoorAsmE
namespace Go.Proofs.YtdgkbigmdadlaaaGreatDoor
open Go.RowKit Go.Lib Go.Proofs.YtdgkbigmdadlaaaGreatDoorW.PrintWords Go.Proofs.YtdgkbigmdadlaaaGreatDoorW.PrintLast
set_option linter.unusedVariables false
set_option linter.unusedSimpArgs false

theorem cat_text (a b : List UInt8) : (bytesB a ++ (⟨#[32]⟩ : ByteArray)) ++ bytesB b = bytesB (a ++ 32 :: b) := by
  rw [show bytesB a ++ (⟨#[32]⟩ : ByteArray) = bytesB (a ++ [32]) from bytesB_app a [32], bytesB_app]
  congr 1
  simp
theorem two_len {a b : List UInt8} (ha : a.length ≤ 50) (hb : b.length ≤ 50) : (two a b).length ≤ 102 := by unfold two; simp; omega
theorem three_len {a b c : List UInt8} (ha : a.length ≤ 50) (hb : b.length ≤ 50) (hc : c.length ≤ 50) : (three a b c).length ≤ 154 := by unfold three; simp; omega
set_option maxHeartbeats 4000000 in
set_option maxRecDepth 100000 in
theorem Print_no (x : I5) (h : rightI x = false) (w : World) : Calls Tryz.prog 17 #[.agg #[.int .i64 x.op, .int .i64 x.rd, .int .i64 x.a, .int .i64 x.b, .int .i64 x.n]] w fun e w' => e = .returned (.tuple #[.string ⟨#[]⟩, .int .i64 20]) ∧ Below w.heap.size w w' := by
  have HR := Right_any x (w.alloc (.cells #[.int .i64 x.op, .int .i64 x.rd, .int .i64 x.a, .int .i64 x.b, .int .i64 x.n] 23))
  rw [h] at HR
  clear h
  go_enter Tryz.func17, Tryz.ntmps17
  go_wp2_with fail
  refine HR.mono ?_
  rintro e W1 ⟨rfl, hb⟩
  have hfin := below_after (bel1 w (.cells #[.int .i64 x.op, .int .i64 x.rd, .int .i64 x.a, .int .i64 x.b, .int .i64 x.n] 23)) hb (Nat.le_refl _)
  clear hb
  go_wp2_with fail
  go_ret2
  exact ⟨rfl, hfin⟩
set_option maxHeartbeats 4000000 in
set_option maxRecDepth 100000 in
theorem Print_E (x : I5) (h : rightI x = true) (hf : formI x.op = 69) (w : World) (hL : Laid w) : Calls Tryz.prog 17 #[.agg #[.int .i64 x.op, .int .i64 x.rd, .int .i64 x.a, .int .i64 x.b, .int .i64 x.n]] w fun e w' => e = .returned (.tuple #[.string (bytesB (textI x)), .int .i64 0]) ∧ Below w.heap.size w w' := by
  have HR := Right_any x (w.alloc (.cells #[.int .i64 x.op, .int .i64 x.rd, .int .i64 x.a, .int .i64 x.b, .int .i64 x.n] 23))
  have HX := Aside0.mk (Box5.new w x 23)
  obtain ⟨hf0, h1, h2, h3, h4⟩ := right_parts h
  have hop := form_in hf0
  have r1 := regOk_range h1
  have r2 := regOk_range h2
  have r3 := regOk_range h3
  have r4 := numOk_range h4
  rw [h] at HR
  have HL0 := Aside0.mk hL
  have HI := Aside0.mk (fun (W : World) hL => Itoa_below x.n (by omega) (by omega) W hL)
  have HF := Aside0.mk (fun (W : World) => Form_any x.op W)
  rw [hf] at HF
  have HN := Aside0.mk (fun (W : World) => Name_any x.op W)
  have HRd := Aside0.mk (fun (W : World) hL => reg_any x.rd (by omega) W hL)
  have HRa := Aside0.mk (fun (W : World) hL => reg_any x.a (by omega) W hL)
  have HRb := Aside0.mk (fun (W : World) hL => reg_any x.b (by omega) W hL)
  have HAt := Aside0.mk (fun (W : World) hL => at_any x.n x.a (by omega) (by omega) W hL)
  have HAr := Aside0.mk (fun (W : World) => around_any x.op W)
  have HT : Aside0 (textI x = nameL x.op) := ⟨by unfold textI; simp [hf]⟩
  rw [HT.out]
  clear HT
  have l0 := (name_in hop).2.2.2
  have l1 := regL_len x.rd (by omega)
  have l2 := regL_len x.a (by omega)
  have l3 := regL_len x.b (by omega)
  have l4 := itoa_len x.n (by omega)
  have l5 := atL_len x.n x.a (by omega) (by omega)
  unfold itoaB at HI
  clear hL h h1 h2 h3 h4 hf0 hop r1 r2 r3 r4 hf
  generalize nameL x.op = nm at *
  generalize regL x.rd = td at *
  generalize regL x.a = ta at *
  generalize regL x.b = tb at *
  generalize atL x.n x.a = tat at *
  generalize Lib.itoa x.n = tn at *
  go_enter Tryz.func17, Tryz.ntmps17
  go_wp2_with fail
  refine HR.mono ?_
  rintro e W1 ⟨rfl, hb⟩
  have HX1 := Aside0.mk (HX.out.below hb)
  have HB1 := Aside0.mk (below_after (bel1 w (.cells #[.int .i64 x.op, .int .i64 x.rd, .int .i64 x.a, .int .i64 x.b, .int .i64 x.n] 23)) hb (Nat.le_refl _))
  clear hb HR HX
  have k4 := HX1.out.c4
  go_wp2_with fail
  refine (HI.out W1 (HL0.out.below HB1.out)).mono ?_
  rintro e W2 ⟨rfl, hb⟩
  have HX2 := Aside0.mk (HX1.out.below hb)
  have HB2 := Aside0.mk (below_after HB1.out hb (Nat.le_refl _))
  clear hb HX1 HB1 k4
  have k0 := HX2.out.c0
  go_wp2_with fail
  refine (HF.out W2).mono ?_
  rintro e W3 ⟨rfl, hb⟩
  have HX3 := Aside0.mk (HX2.out.below hb)
  have HB3 := Aside0.mk (below_after HB2.out hb (Nat.le_refl _))
  clear hb HX2 HB2 k0
  have HL3 := Aside0.mk (HL0.out.below HB3.out)
  obtain ⟨k0, k1, k2, k3, k4⟩ := HX3.out
  have hg := World.block_lt_of_cell? W3 _ k0
  simp only at hg
  go_wp2_with fail
  refine (HN.out _).mono ?_
  rintro e W6 ⟨rfl, hb6⟩
  have hfin := below_after HB3.out hb6 (Nat.le_refl _)
  go_wp2_with fail
  go_ret2
  exact ⟨rfl, hfin⟩
set_option maxHeartbeats 4000000 in
set_option maxRecDepth 100000 in
theorem Print_U (x : I5) (h : rightI x = true) (hf : formI x.op = 85) (w : World) (hL : Laid w) : Calls Tryz.prog 17 #[.agg #[.int .i64 x.op, .int .i64 x.rd, .int .i64 x.a, .int .i64 x.b, .int .i64 x.n]] w fun e w' => e = .returned (.tuple #[.string (bytesB (textI x)), .int .i64 0]) ∧ Below w.heap.size w w' := by
  have HR := Right_any x (w.alloc (.cells #[.int .i64 x.op, .int .i64 x.rd, .int .i64 x.a, .int .i64 x.b, .int .i64 x.n] 23))
  have HX := Aside0.mk (Box5.new w x 23)
  obtain ⟨hf0, h1, h2, h3, h4⟩ := right_parts h
  have hop := form_in hf0
  have r1 := regOk_range h1
  have r2 := regOk_range h2
  have r3 := regOk_range h3
  have r4 := numOk_range h4
  rw [h] at HR
  have HL0 := Aside0.mk hL
  have HI := Aside0.mk (fun (W : World) hL => Itoa_below x.n (by omega) (by omega) W hL)
  have HF := Aside0.mk (fun (W : World) => Form_any x.op W)
  rw [hf] at HF
  have HN := Aside0.mk (fun (W : World) => Name_any x.op W)
  have HRd := Aside0.mk (fun (W : World) hL => reg_any x.rd (by omega) W hL)
  have HRa := Aside0.mk (fun (W : World) hL => reg_any x.a (by omega) W hL)
  have HRb := Aside0.mk (fun (W : World) hL => reg_any x.b (by omega) W hL)
  have HAt := Aside0.mk (fun (W : World) hL => at_any x.n x.a (by omega) (by omega) W hL)
  have HAr := Aside0.mk (fun (W : World) => around_any x.op W)
  have HT : Aside0 (textI x = nameL x.op ++ 32 :: two (regL x.rd) (Lib.itoa x.n)) := ⟨by unfold textI restL; simp [hf]⟩
  rw [HT.out]
  clear HT
  have l0 := (name_in hop).2.2.2
  have l1 := regL_len x.rd (by omega)
  have l2 := regL_len x.a (by omega)
  have l3 := regL_len x.b (by omega)
  have l4 := itoa_len x.n (by omega)
  have l5 := atL_len x.n x.a (by omega) (by omega)
  unfold itoaB at HI
  clear hL h h1 h2 h3 h4 hf0 hop r1 r2 r3 r4 hf
  generalize nameL x.op = nm at *
  generalize regL x.rd = td at *
  generalize regL x.a = ta at *
  generalize regL x.b = tb at *
  generalize atL x.n x.a = tat at *
  generalize Lib.itoa x.n = tn at *
  go_enter Tryz.func17, Tryz.ntmps17
  go_wp2_with fail
  refine HR.mono ?_
  rintro e W1 ⟨rfl, hb⟩
  have HX1 := Aside0.mk (HX.out.below hb)
  have HB1 := Aside0.mk (below_after (bel1 w (.cells #[.int .i64 x.op, .int .i64 x.rd, .int .i64 x.a, .int .i64 x.b, .int .i64 x.n] 23)) hb (Nat.le_refl _))
  clear hb HR HX
  have k4 := HX1.out.c4
  go_wp2_with fail
  refine (HI.out W1 (HL0.out.below HB1.out)).mono ?_
  rintro e W2 ⟨rfl, hb⟩
  have HX2 := Aside0.mk (HX1.out.below hb)
  have HB2 := Aside0.mk (below_after HB1.out hb (Nat.le_refl _))
  clear hb HX1 HB1 k4
  have k0 := HX2.out.c0
  go_wp2_with fail
  refine (HF.out W2).mono ?_
  rintro e W3 ⟨rfl, hb⟩
  have HX3 := Aside0.mk (HX2.out.below hb)
  have HB3 := Aside0.mk (below_after HB2.out hb (Nat.le_refl _))
  clear hb HX2 HB2 k0
  have HL3 := Aside0.mk (HL0.out.below HB3.out)
  obtain ⟨k0, k1, k2, k3, k4⟩ := HX3.out
  have hg := World.block_lt_of_cell? W3 _ k0
  simp only at hg
  go_wp2_with fail
  refine (HRd.out W3 HL3.out).mono ?_
  rintro e W4 ⟨rfl, hb⟩
  go_wp2_with fail
  refine (list2_any td tn _ _ (heap_alloc_new _ _) (by omega) (by omega)).mono ?_
  rintro e W5 ⟨rfl, hb5⟩
  have hB : Below W3.heap.size W3 W5 := below_after (below_after hb (bel1 W4 _) (Nat.le_refl _)) hb5 (Nat.le_refl _)
  clear hb hb5
  have HBz := Aside0.mk hB
  have j0 := (hB.cell (p := ⟨w.heap.size, 0, none⟩) hg).trans k0
  clear k0 k1 k2 k3 k4 hB hg
  have hrl : (two td tn).length ≤ 200 := by have := two_len (a := td) (b := tn) (by omega) (by omega); omega
  obtain ⟨rt, hrt⟩ : ∃ rt, two td tn = rt := ⟨_, rfl⟩
  rw [hrt] at hrl ⊢
  have HRT := Aside0.mk hrt
  clear hrt
  go_wp2_with fail
  refine (HN.out _).mono ?_
  rintro e W6 ⟨rfl, hb6⟩
  have hfin := below_after (below_after HB3.out HBz.out (Nat.le_refl _)) hb6 (Nat.le_refl _)
  have z1 : (bytesB nm).size ≤ 6 := by rw [bytesB_size]; exact l0
  have z2 : (bytesB rt).size ≤ 200 := by rw [bytesB_size]; exact hrl
  have hc := Aside0.mk (cat_text nm rt)
  have f1 : (9223372036854775807 < (bytesB nm).size + 1) = False := eq_false (by omega)
  have f2 : (9223372036854775807 < (bytesB nm).size + 1 + (bytesB rt).size) = False := eq_false (by omega)
  go_wp2_with fail
  go_ret2
  rw [hc.out, ← HRT.out]
  exact ⟨rfl, hfin⟩
set_option maxHeartbeats 4000000 in
set_option maxRecDepth 100000 in
theorem Print_J (x : I5) (h : rightI x = true) (hf : formI x.op = 74) (w : World) (hL : Laid w) : Calls Tryz.prog 17 #[.agg #[.int .i64 x.op, .int .i64 x.rd, .int .i64 x.a, .int .i64 x.b, .int .i64 x.n]] w fun e w' => e = .returned (.tuple #[.string (bytesB (textI x)), .int .i64 0]) ∧ Below w.heap.size w w' := by
  have HR := Right_any x (w.alloc (.cells #[.int .i64 x.op, .int .i64 x.rd, .int .i64 x.a, .int .i64 x.b, .int .i64 x.n] 23))
  have HX := Aside0.mk (Box5.new w x 23)
  obtain ⟨hf0, h1, h2, h3, h4⟩ := right_parts h
  have hop := form_in hf0
  have r1 := regOk_range h1
  have r2 := regOk_range h2
  have r3 := regOk_range h3
  have r4 := numOk_range h4
  rw [h] at HR
  have HL0 := Aside0.mk hL
  have HI := Aside0.mk (fun (W : World) hL => Itoa_below x.n (by omega) (by omega) W hL)
  have HF := Aside0.mk (fun (W : World) => Form_any x.op W)
  rw [hf] at HF
  have HN := Aside0.mk (fun (W : World) => Name_any x.op W)
  have HRd := Aside0.mk (fun (W : World) hL => reg_any x.rd (by omega) W hL)
  have HRa := Aside0.mk (fun (W : World) hL => reg_any x.a (by omega) W hL)
  have HRb := Aside0.mk (fun (W : World) hL => reg_any x.b (by omega) W hL)
  have HAt := Aside0.mk (fun (W : World) hL => at_any x.n x.a (by omega) (by omega) W hL)
  have HAr := Aside0.mk (fun (W : World) => around_any x.op W)
  have HT : Aside0 (textI x = nameL x.op ++ 32 :: two (regL x.rd) (Lib.itoa x.n)) := ⟨by unfold textI restL; simp [hf]⟩
  rw [HT.out]
  clear HT
  have l0 := (name_in hop).2.2.2
  have l1 := regL_len x.rd (by omega)
  have l2 := regL_len x.a (by omega)
  have l3 := regL_len x.b (by omega)
  have l4 := itoa_len x.n (by omega)
  have l5 := atL_len x.n x.a (by omega) (by omega)
  unfold itoaB at HI
  clear hL h h1 h2 h3 h4 hf0 hop r1 r2 r3 r4 hf
  generalize nameL x.op = nm at *
  generalize regL x.rd = td at *
  generalize regL x.a = ta at *
  generalize regL x.b = tb at *
  generalize atL x.n x.a = tat at *
  generalize Lib.itoa x.n = tn at *
  go_enter Tryz.func17, Tryz.ntmps17
  go_wp2_with fail
  refine HR.mono ?_
  rintro e W1 ⟨rfl, hb⟩
  have HX1 := Aside0.mk (HX.out.below hb)
  have HB1 := Aside0.mk (below_after (bel1 w (.cells #[.int .i64 x.op, .int .i64 x.rd, .int .i64 x.a, .int .i64 x.b, .int .i64 x.n] 23)) hb (Nat.le_refl _))
  clear hb HR HX
  have k4 := HX1.out.c4
  go_wp2_with fail
  refine (HI.out W1 (HL0.out.below HB1.out)).mono ?_
  rintro e W2 ⟨rfl, hb⟩
  have HX2 := Aside0.mk (HX1.out.below hb)
  have HB2 := Aside0.mk (below_after HB1.out hb (Nat.le_refl _))
  clear hb HX1 HB1 k4
  have k0 := HX2.out.c0
  go_wp2_with fail
  refine (HF.out W2).mono ?_
  rintro e W3 ⟨rfl, hb⟩
  have HX3 := Aside0.mk (HX2.out.below hb)
  have HB3 := Aside0.mk (below_after HB2.out hb (Nat.le_refl _))
  clear hb HX2 HB2 k0
  have HL3 := Aside0.mk (HL0.out.below HB3.out)
  obtain ⟨k0, k1, k2, k3, k4⟩ := HX3.out
  have hg := World.block_lt_of_cell? W3 _ k0
  simp only at hg
  go_wp2_with fail
  refine (HRd.out W3 HL3.out).mono ?_
  rintro e W4 ⟨rfl, hb⟩
  go_wp2_with fail
  refine (list2_any td tn _ _ (heap_alloc_new _ _) (by omega) (by omega)).mono ?_
  rintro e W5 ⟨rfl, hb5⟩
  have hB : Below W3.heap.size W3 W5 := below_after (below_after hb (bel1 W4 _) (Nat.le_refl _)) hb5 (Nat.le_refl _)
  clear hb hb5
  have HBz := Aside0.mk hB
  have j0 := (hB.cell (p := ⟨w.heap.size, 0, none⟩) hg).trans k0
  clear k0 k1 k2 k3 k4 hB hg
  have hrl : (two td tn).length ≤ 200 := by have := two_len (a := td) (b := tn) (by omega) (by omega); omega
  obtain ⟨rt, hrt⟩ : ∃ rt, two td tn = rt := ⟨_, rfl⟩
  rw [hrt] at hrl ⊢
  have HRT := Aside0.mk hrt
  clear hrt
  go_wp2_with fail
  refine (HN.out _).mono ?_
  rintro e W6 ⟨rfl, hb6⟩
  have hfin := below_after (below_after HB3.out HBz.out (Nat.le_refl _)) hb6 (Nat.le_refl _)
  have z1 : (bytesB nm).size ≤ 6 := by rw [bytesB_size]; exact l0
  have z2 : (bytesB rt).size ≤ 200 := by rw [bytesB_size]; exact hrl
  have hc := Aside0.mk (cat_text nm rt)
  have f1 : (9223372036854775807 < (bytesB nm).size + 1) = False := eq_false (by omega)
  have f2 : (9223372036854775807 < (bytesB nm).size + 1 + (bytesB rt).size) = False := eq_false (by omega)
  go_wp2_with fail
  go_ret2
  rw [hc.out, ← HRT.out]
  exact ⟨rfl, hfin⟩
set_option maxHeartbeats 4000000 in
set_option maxRecDepth 100000 in
theorem Print_R (x : I5) (h : rightI x = true) (hf : formI x.op = 82) (w : World) (hL : Laid w) : Calls Tryz.prog 17 #[.agg #[.int .i64 x.op, .int .i64 x.rd, .int .i64 x.a, .int .i64 x.b, .int .i64 x.n]] w fun e w' => e = .returned (.tuple #[.string (bytesB (textI x)), .int .i64 0]) ∧ Below w.heap.size w w' := by
  have HR := Right_any x (w.alloc (.cells #[.int .i64 x.op, .int .i64 x.rd, .int .i64 x.a, .int .i64 x.b, .int .i64 x.n] 23))
  have HX := Aside0.mk (Box5.new w x 23)
  obtain ⟨hf0, h1, h2, h3, h4⟩ := right_parts h
  have hop := form_in hf0
  have r1 := regOk_range h1
  have r2 := regOk_range h2
  have r3 := regOk_range h3
  have r4 := numOk_range h4
  rw [h] at HR
  have HL0 := Aside0.mk hL
  have HI := Aside0.mk (fun (W : World) hL => Itoa_below x.n (by omega) (by omega) W hL)
  have HF := Aside0.mk (fun (W : World) => Form_any x.op W)
  rw [hf] at HF
  have HN := Aside0.mk (fun (W : World) => Name_any x.op W)
  have HRd := Aside0.mk (fun (W : World) hL => reg_any x.rd (by omega) W hL)
  have HRa := Aside0.mk (fun (W : World) hL => reg_any x.a (by omega) W hL)
  have HRb := Aside0.mk (fun (W : World) hL => reg_any x.b (by omega) W hL)
  have HAt := Aside0.mk (fun (W : World) hL => at_any x.n x.a (by omega) (by omega) W hL)
  have HAr := Aside0.mk (fun (W : World) => around_any x.op W)
  have HT : Aside0 (textI x = nameL x.op ++ 32 :: three (regL x.rd) (regL x.a) (regL x.b)) := ⟨by unfold textI restL; simp [hf]⟩
  rw [HT.out]
  clear HT
  have l0 := (name_in hop).2.2.2
  have l1 := regL_len x.rd (by omega)
  have l2 := regL_len x.a (by omega)
  have l3 := regL_len x.b (by omega)
  have l4 := itoa_len x.n (by omega)
  have l5 := atL_len x.n x.a (by omega) (by omega)
  unfold itoaB at HI
  clear hL h h1 h2 h3 h4 hf0 hop r1 r2 r3 r4 hf
  generalize nameL x.op = nm at *
  generalize regL x.rd = td at *
  generalize regL x.a = ta at *
  generalize regL x.b = tb at *
  generalize atL x.n x.a = tat at *
  generalize Lib.itoa x.n = tn at *
  go_enter Tryz.func17, Tryz.ntmps17
  go_wp2_with fail
  refine HR.mono ?_
  rintro e W1 ⟨rfl, hb⟩
  have HX1 := Aside0.mk (HX.out.below hb)
  have HB1 := Aside0.mk (below_after (bel1 w (.cells #[.int .i64 x.op, .int .i64 x.rd, .int .i64 x.a, .int .i64 x.b, .int .i64 x.n] 23)) hb (Nat.le_refl _))
  clear hb HR HX
  have k4 := HX1.out.c4
  go_wp2_with fail
  refine (HI.out W1 (HL0.out.below HB1.out)).mono ?_
  rintro e W2 ⟨rfl, hb⟩
  have HX2 := Aside0.mk (HX1.out.below hb)
  have HB2 := Aside0.mk (below_after HB1.out hb (Nat.le_refl _))
  clear hb HX1 HB1 k4
  have k0 := HX2.out.c0
  go_wp2_with fail
  refine (HF.out W2).mono ?_
  rintro e W3 ⟨rfl, hb⟩
  have HX3 := Aside0.mk (HX2.out.below hb)
  have HB3 := Aside0.mk (below_after HB2.out hb (Nat.le_refl _))
  clear hb HX2 HB2 k0
  have HL3 := Aside0.mk (HL0.out.below HB3.out)
  obtain ⟨k0, k1, k2, k3, k4⟩ := HX3.out
  have hg := World.block_lt_of_cell? W3 _ k0
  simp only at hg
  go_wp2
  go_region_held3 (fun w' => w'.cell? ⟨w.heap.size, 1, none⟩ = some (.int .i64 x.rd) ∧ w'.cell? ⟨w.heap.size, 2, none⟩ = some (.int .i64 x.a) ∧ w'.cell? ⟨w.heap.size, 3, none⟩ = some (.int .i64 x.b)) (first | go_keep | (go_split_ands; refine ⟨?_, ?_, ?_⟩ <;> first | (rw [hB.cell (p := ⟨w.heap.size, 1, none⟩) hg]; assumption) | (rw [hB.cell (p := ⟨w.heap.size, 2, none⟩) hg]; assumption) | (rw [hB.cell (p := ⟨w.heap.size, 3, none⟩) hg]; assumption))) (first | (go_at_call_of 36 (Value.int .i64 x.rd); refine (HRd.out _ (HL3.out.below (by (repeat' (first | exact Below.refl _ _ | assumption | refine pw_below_drewN ?_ _ | refine below_drew ?_ | refine below_alloc ?_ _))))).mono ?_; rintro e w2 ⟨rfl, hb⟩; have hB : Below W3.heap.size W3 w2 := (by refine below_after ?_ hb (Nat.le_refl _); (repeat' (first | exact Below.refl _ _ | assumption | refine pw_below_drewN ?_ _ | refine below_drew ?_ | refine below_alloc ?_ _))); clear hb) | (go_at_call_of 36 (Value.int .i64 x.a); refine (HRa.out _ (HL3.out.below (by (repeat' (first | exact Below.refl _ _ | assumption | refine pw_below_drewN ?_ _ | refine below_drew ?_ | refine below_alloc ?_ _))))).mono ?_; rintro e w2 ⟨rfl, hb⟩; have hB : Below W3.heap.size W3 w2 := (by refine below_after ?_ hb (Nat.le_refl _); (repeat' (first | exact Below.refl _ _ | assumption | refine pw_below_drewN ?_ _ | refine below_drew ?_ | refine below_alloc ?_ _))); clear hb) | (go_at_call_of 36 (Value.int .i64 x.b); refine (HRb.out _ (HL3.out.below (by (repeat' (first | exact Below.refl _ _ | assumption | refine pw_below_drewN ?_ _ | refine below_drew ?_ | refine below_alloc ?_ _))))).mono ?_; rintro e w2 ⟨rfl, hb⟩; have hB : Below W3.heap.size W3 w2 := (by refine below_after ?_ hb (Nat.le_refl _); (repeat' (first | exact Below.refl _ _ | assumption | refine pw_below_drewN ?_ _ | refine below_drew ?_ | refine below_alloc ?_ _))); clear hb) | (go_at_call 35; refine (list3_any td ta tb _ _ (heap_alloc_new _ _) (by omega) (by omega) (by omega)).mono ?_; rintro e w2 ⟨rfl, hb⟩; have hB : Below W3.heap.size W3 w2 := (by refine below_after ?_ hb (Nat.le_refl _); (repeat' (first | exact Below.refl _ _ | assumption | refine pw_below_drewN ?_ _ | refine below_drew ?_ | refine below_alloc ?_ _))); clear hb))
  have HBz := Aside0.mk hB
  have j0 := (hB.cell (p := ⟨w.heap.size, 0, none⟩) hg).trans k0
  clear k0 k1 k2 k3 k4 hB hg
  have hrl : (three td ta tb).length ≤ 200 := by have := three_len (a := td) (b := ta) (c := tb) (by omega) (by omega) (by omega); omega
  obtain ⟨rt, hrt⟩ : ∃ rt, three td ta tb = rt := ⟨_, rfl⟩
  rw [hrt] at hrl ⊢
  have HRT := Aside0.mk hrt
  clear hrt
  go_wp2_with fail
  refine (HN.out _).mono ?_
  rintro e W6 ⟨rfl, hb6⟩
  have hfin := below_after (below_after HB3.out HBz.out (Nat.le_refl _)) hb6 (Nat.le_refl _)
  have z1 : (bytesB nm).size ≤ 6 := by rw [bytesB_size]; exact l0
  have z2 : (bytesB rt).size ≤ 200 := by rw [bytesB_size]; exact hrl
  have hc := Aside0.mk (cat_text nm rt)
  have f1 : (9223372036854775807 < (bytesB nm).size + 1) = False := eq_false (by omega)
  have f2 : (9223372036854775807 < (bytesB nm).size + 1 + (bytesB rt).size) = False := eq_false (by omega)
  go_wp2_with fail
  go_ret2
  rw [hc.out, ← HRT.out]
  exact ⟨rfl, hfin⟩
set_option maxHeartbeats 4000000 in
set_option maxRecDepth 100000 in
theorem Print_B (x : I5) (h : rightI x = true) (hf : formI x.op = 66) (w : World) (hL : Laid w) : Calls Tryz.prog 17 #[.agg #[.int .i64 x.op, .int .i64 x.rd, .int .i64 x.a, .int .i64 x.b, .int .i64 x.n]] w fun e w' => e = .returned (.tuple #[.string (bytesB (textI x)), .int .i64 0]) ∧ Below w.heap.size w w' := by
  have HR := Right_any x (w.alloc (.cells #[.int .i64 x.op, .int .i64 x.rd, .int .i64 x.a, .int .i64 x.b, .int .i64 x.n] 23))
  have HX := Aside0.mk (Box5.new w x 23)
  obtain ⟨hf0, h1, h2, h3, h4⟩ := right_parts h
  have hop := form_in hf0
  have r1 := regOk_range h1
  have r2 := regOk_range h2
  have r3 := regOk_range h3
  have r4 := numOk_range h4
  rw [h] at HR
  have HL0 := Aside0.mk hL
  have HI := Aside0.mk (fun (W : World) hL => Itoa_below x.n (by omega) (by omega) W hL)
  have HF := Aside0.mk (fun (W : World) => Form_any x.op W)
  rw [hf] at HF
  have HN := Aside0.mk (fun (W : World) => Name_any x.op W)
  have HRd := Aside0.mk (fun (W : World) hL => reg_any x.rd (by omega) W hL)
  have HRa := Aside0.mk (fun (W : World) hL => reg_any x.a (by omega) W hL)
  have HRb := Aside0.mk (fun (W : World) hL => reg_any x.b (by omega) W hL)
  have HAt := Aside0.mk (fun (W : World) hL => at_any x.n x.a (by omega) (by omega) W hL)
  have HAr := Aside0.mk (fun (W : World) => around_any x.op W)
  have HT : Aside0 (textI x = nameL x.op ++ 32 :: three (regL x.a) (regL x.b) (Lib.itoa x.n)) := ⟨by unfold textI restL; simp [hf]⟩
  rw [HT.out]
  clear HT
  have l0 := (name_in hop).2.2.2
  have l1 := regL_len x.rd (by omega)
  have l2 := regL_len x.a (by omega)
  have l3 := regL_len x.b (by omega)
  have l4 := itoa_len x.n (by omega)
  have l5 := atL_len x.n x.a (by omega) (by omega)
  unfold itoaB at HI
  clear hL h h1 h2 h3 h4 hf0 hop r1 r2 r3 r4 hf
  generalize nameL x.op = nm at *
  generalize regL x.rd = td at *
  generalize regL x.a = ta at *
  generalize regL x.b = tb at *
  generalize atL x.n x.a = tat at *
  generalize Lib.itoa x.n = tn at *
  go_enter Tryz.func17, Tryz.ntmps17
  go_wp2_with fail
  refine HR.mono ?_
  rintro e W1 ⟨rfl, hb⟩
  have HX1 := Aside0.mk (HX.out.below hb)
  have HB1 := Aside0.mk (below_after (bel1 w (.cells #[.int .i64 x.op, .int .i64 x.rd, .int .i64 x.a, .int .i64 x.b, .int .i64 x.n] 23)) hb (Nat.le_refl _))
  clear hb HR HX
  have k4 := HX1.out.c4
  go_wp2_with fail
  refine (HI.out W1 (HL0.out.below HB1.out)).mono ?_
  rintro e W2 ⟨rfl, hb⟩
  have HX2 := Aside0.mk (HX1.out.below hb)
  have HB2 := Aside0.mk (below_after HB1.out hb (Nat.le_refl _))
  clear hb HX1 HB1 k4
  have k0 := HX2.out.c0
  go_wp2_with fail
  refine (HF.out W2).mono ?_
  rintro e W3 ⟨rfl, hb⟩
  have HX3 := Aside0.mk (HX2.out.below hb)
  have HB3 := Aside0.mk (below_after HB2.out hb (Nat.le_refl _))
  clear hb HX2 HB2 k0
  have HL3 := Aside0.mk (HL0.out.below HB3.out)
  obtain ⟨k0, k1, k2, k3, k4⟩ := HX3.out
  have hg := World.block_lt_of_cell? W3 _ k0
  simp only at hg
  go_wp2
  go_region_held3 (fun w' => w'.cell? ⟨w.heap.size, 2, none⟩ = some (.int .i64 x.a) ∧ w'.cell? ⟨w.heap.size, 3, none⟩ = some (.int .i64 x.b)) (first | go_keep | (go_split_ands; refine ⟨?_, ?_⟩ <;> first | (rw [hB.cell (p := ⟨w.heap.size, 2, none⟩) hg]; assumption) | (rw [hB.cell (p := ⟨w.heap.size, 3, none⟩) hg]; assumption))) (first | (go_at_call_of 36 (Value.int .i64 x.a); refine (HRa.out _ (HL3.out.below (by (repeat' (first | exact Below.refl _ _ | assumption | refine pw_below_drewN ?_ _ | refine below_drew ?_ | refine below_alloc ?_ _))))).mono ?_; rintro e w2 ⟨rfl, hb⟩; have hB : Below W3.heap.size W3 w2 := (by refine below_after ?_ hb (Nat.le_refl _); (repeat' (first | exact Below.refl _ _ | assumption | refine pw_below_drewN ?_ _ | refine below_drew ?_ | refine below_alloc ?_ _))); clear hb) | (go_at_call_of 36 (Value.int .i64 x.b); refine (HRb.out _ (HL3.out.below (by (repeat' (first | exact Below.refl _ _ | assumption | refine pw_below_drewN ?_ _ | refine below_drew ?_ | refine below_alloc ?_ _))))).mono ?_; rintro e w2 ⟨rfl, hb⟩; have hB : Below W3.heap.size W3 w2 := (by refine below_after ?_ hb (Nat.le_refl _); (repeat' (first | exact Below.refl _ _ | assumption | refine pw_below_drewN ?_ _ | refine below_drew ?_ | refine below_alloc ?_ _))); clear hb) | (go_at_call 35; refine (list3_any ta tb tn _ _ (heap_alloc_new _ _) (by omega) (by omega) (by omega)).mono ?_; rintro e w2 ⟨rfl, hb⟩; have hB : Below W3.heap.size W3 w2 := (by refine below_after ?_ hb (Nat.le_refl _); (repeat' (first | exact Below.refl _ _ | assumption | refine pw_below_drewN ?_ _ | refine below_drew ?_ | refine below_alloc ?_ _))); clear hb))
  have HBz := Aside0.mk hB
  have j0 := (hB.cell (p := ⟨w.heap.size, 0, none⟩) hg).trans k0
  clear k0 k1 k2 k3 k4 hB hg
  have hrl : (three ta tb tn).length ≤ 200 := by have := three_len (a := ta) (b := tb) (c := tn) (by omega) (by omega) (by omega); omega
  obtain ⟨rt, hrt⟩ : ∃ rt, three ta tb tn = rt := ⟨_, rfl⟩
  rw [hrt] at hrl ⊢
  have HRT := Aside0.mk hrt
  clear hrt
  go_wp2_with fail
  refine (HN.out _).mono ?_
  rintro e W6 ⟨rfl, hb6⟩
  have hfin := below_after (below_after HB3.out HBz.out (Nat.le_refl _)) hb6 (Nat.le_refl _)
  have z1 : (bytesB nm).size ≤ 6 := by rw [bytesB_size]; exact l0
  have z2 : (bytesB rt).size ≤ 200 := by rw [bytesB_size]; exact hrl
  have hc := Aside0.mk (cat_text nm rt)
  have f1 : (9223372036854775807 < (bytesB nm).size + 1) = False := eq_false (by omega)
  have f2 : (9223372036854775807 < (bytesB nm).size + 1 + (bytesB rt).size) = False := eq_false (by omega)
  go_wp2_with fail
  go_ret2
  rw [hc.out, ← HRT.out]
  exact ⟨rfl, hfin⟩
set_option maxHeartbeats 4000000 in
set_option maxRecDepth 100000 in
theorem Print_S (x : I5) (h : rightI x = true) (hf : formI x.op = 83) (w : World) (hL : Laid w) : Calls Tryz.prog 17 #[.agg #[.int .i64 x.op, .int .i64 x.rd, .int .i64 x.a, .int .i64 x.b, .int .i64 x.n]] w fun e w' => e = .returned (.tuple #[.string (bytesB (textI x)), .int .i64 0]) ∧ Below w.heap.size w w' := by
  have HR := Right_any x (w.alloc (.cells #[.int .i64 x.op, .int .i64 x.rd, .int .i64 x.a, .int .i64 x.b, .int .i64 x.n] 23))
  have HX := Aside0.mk (Box5.new w x 23)
  obtain ⟨hf0, h1, h2, h3, h4⟩ := right_parts h
  have hop := form_in hf0
  have r1 := regOk_range h1
  have r2 := regOk_range h2
  have r3 := regOk_range h3
  have r4 := numOk_range h4
  rw [h] at HR
  have HL0 := Aside0.mk hL
  have HI := Aside0.mk (fun (W : World) hL => Itoa_below x.n (by omega) (by omega) W hL)
  have HF := Aside0.mk (fun (W : World) => Form_any x.op W)
  rw [hf] at HF
  have HN := Aside0.mk (fun (W : World) => Name_any x.op W)
  have HRd := Aside0.mk (fun (W : World) hL => reg_any x.rd (by omega) W hL)
  have HRa := Aside0.mk (fun (W : World) hL => reg_any x.a (by omega) W hL)
  have HRb := Aside0.mk (fun (W : World) hL => reg_any x.b (by omega) W hL)
  have HAt := Aside0.mk (fun (W : World) hL => at_any x.n x.a (by omega) (by omega) W hL)
  have HAr := Aside0.mk (fun (W : World) => around_any x.op W)
  have HT : Aside0 (textI x = nameL x.op ++ 32 :: two (regL x.b) (atL x.n x.a)) := ⟨by unfold textI restL; simp [hf]⟩
  rw [HT.out]
  clear HT
  have l0 := (name_in hop).2.2.2
  have l1 := regL_len x.rd (by omega)
  have l2 := regL_len x.a (by omega)
  have l3 := regL_len x.b (by omega)
  have l4 := itoa_len x.n (by omega)
  have l5 := atL_len x.n x.a (by omega) (by omega)
  unfold itoaB at HI
  clear hL h h1 h2 h3 h4 hf0 hop r1 r2 r3 r4 hf
  generalize nameL x.op = nm at *
  generalize regL x.rd = td at *
  generalize regL x.a = ta at *
  generalize regL x.b = tb at *
  generalize atL x.n x.a = tat at *
  generalize Lib.itoa x.n = tn at *
  go_enter Tryz.func17, Tryz.ntmps17
  go_wp2_with fail
  refine HR.mono ?_
  rintro e W1 ⟨rfl, hb⟩
  have HX1 := Aside0.mk (HX.out.below hb)
  have HB1 := Aside0.mk (below_after (bel1 w (.cells #[.int .i64 x.op, .int .i64 x.rd, .int .i64 x.a, .int .i64 x.b, .int .i64 x.n] 23)) hb (Nat.le_refl _))
  clear hb HR HX
  have k4 := HX1.out.c4
  go_wp2_with fail
  refine (HI.out W1 (HL0.out.below HB1.out)).mono ?_
  rintro e W2 ⟨rfl, hb⟩
  have HX2 := Aside0.mk (HX1.out.below hb)
  have HB2 := Aside0.mk (below_after HB1.out hb (Nat.le_refl _))
  clear hb HX1 HB1 k4
  have k0 := HX2.out.c0
  go_wp2_with fail
  refine (HF.out W2).mono ?_
  rintro e W3 ⟨rfl, hb⟩
  have HX3 := Aside0.mk (HX2.out.below hb)
  have HB3 := Aside0.mk (below_after HB2.out hb (Nat.le_refl _))
  clear hb HX2 HB2 k0
  have HL3 := Aside0.mk (HL0.out.below HB3.out)
  obtain ⟨k0, k1, k2, k3, k4⟩ := HX3.out
  have hg := World.block_lt_of_cell? W3 _ k0
  simp only at hg
  go_wp2
  go_region_held3 (fun w' => w'.cell? ⟨w.heap.size, 2, none⟩ = some (.int .i64 x.a) ∧ w'.cell? ⟨w.heap.size, 3, none⟩ = some (.int .i64 x.b) ∧ w'.cell? ⟨w.heap.size, 4, none⟩ = some (.int .i64 x.n)) (first | go_keep | (go_split_ands; refine ⟨?_, ?_, ?_⟩ <;> first | (rw [hB.cell (p := ⟨w.heap.size, 2, none⟩) hg]; assumption) | (rw [hB.cell (p := ⟨w.heap.size, 3, none⟩) hg]; assumption) | (rw [hB.cell (p := ⟨w.heap.size, 4, none⟩) hg]; assumption))) (first | (go_at_call_of 36 (Value.int .i64 x.b); refine (HRb.out _ (HL3.out.below (by (repeat' (first | exact Below.refl _ _ | assumption | refine pw_below_drewN ?_ _ | refine below_drew ?_ | refine below_alloc ?_ _))))).mono ?_; rintro e w2 ⟨rfl, hb⟩; have hB : Below W3.heap.size W3 w2 := (by refine below_after ?_ hb (Nat.le_refl _); (repeat' (first | exact Below.refl _ _ | assumption | refine pw_below_drewN ?_ _ | refine below_drew ?_ | refine below_alloc ?_ _))); clear hb) | (go_at_call 37; refine (HAt.out _ (HL3.out.below (by (repeat' (first | exact Below.refl _ _ | assumption | refine pw_below_drewN ?_ _ | refine below_drew ?_ | refine below_alloc ?_ _))))).mono ?_; rintro e w2 ⟨rfl, hb⟩; have hB : Below W3.heap.size W3 w2 := (by refine below_after ?_ hb (Nat.le_refl _); (repeat' (first | exact Below.refl _ _ | assumption | refine pw_below_drewN ?_ _ | refine below_drew ?_ | refine below_alloc ?_ _))); clear hb) | (go_at_call 35; refine (list2_any tb tat _ _ (heap_alloc_new _ _) (by omega) (by omega)).mono ?_; rintro e w2 ⟨rfl, hb⟩; have hB : Below W3.heap.size W3 w2 := (by refine below_after ?_ hb (Nat.le_refl _); (repeat' (first | exact Below.refl _ _ | assumption | refine pw_below_drewN ?_ _ | refine below_drew ?_ | refine below_alloc ?_ _))); clear hb))
  have HBz := Aside0.mk hB
  have j0 := (hB.cell (p := ⟨w.heap.size, 0, none⟩) hg).trans k0
  clear k0 k1 k2 k3 k4 hB hg
  have hrl : (two tb tat).length ≤ 200 := by have := two_len (a := tb) (b := tat) (by omega) (by omega); omega
  obtain ⟨rt, hrt⟩ : ∃ rt, two tb tat = rt := ⟨_, rfl⟩
  rw [hrt] at hrl ⊢
  have HRT := Aside0.mk hrt
  clear hrt
  go_wp2_with fail
  refine (HN.out _).mono ?_
  rintro e W6 ⟨rfl, hb6⟩
  have hfin := below_after (below_after HB3.out HBz.out (Nat.le_refl _)) hb6 (Nat.le_refl _)
  have z1 : (bytesB nm).size ≤ 6 := by rw [bytesB_size]; exact l0
  have z2 : (bytesB rt).size ≤ 200 := by rw [bytesB_size]; exact hrl
  have hc := Aside0.mk (cat_text nm rt)
  have f1 : (9223372036854775807 < (bytesB nm).size + 1) = False := eq_false (by omega)
  have f2 : (9223372036854775807 < (bytesB nm).size + 1 + (bytesB rt).size) = False := eq_false (by omega)
  go_wp2_with fail
  go_ret2
  rw [hc.out, ← HRT.out]
  exact ⟨rfl, hfin⟩
set_option maxHeartbeats 4000000 in
set_option maxRecDepth 100000 in
theorem Print_A (x : I5) (h : rightI x = true) (hf : formI x.op = 73) (ha : around x.op = true) (w : World) (hL : Laid w) : Calls Tryz.prog 17 #[.agg #[.int .i64 x.op, .int .i64 x.rd, .int .i64 x.a, .int .i64 x.b, .int .i64 x.n]] w fun e w' => e = .returned (.tuple #[.string (bytesB (textI x)), .int .i64 0]) ∧ Below w.heap.size w w' := by
  have HR := Right_any x (w.alloc (.cells #[.int .i64 x.op, .int .i64 x.rd, .int .i64 x.a, .int .i64 x.b, .int .i64 x.n] 23))
  have HX := Aside0.mk (Box5.new w x 23)
  obtain ⟨hf0, h1, h2, h3, h4⟩ := right_parts h
  have hop := form_in hf0
  have r1 := regOk_range h1
  have r2 := regOk_range h2
  have r3 := regOk_range h3
  have r4 := numOk_range h4
  rw [h] at HR
  have HL0 := Aside0.mk hL
  have HI := Aside0.mk (fun (W : World) hL => Itoa_below x.n (by omega) (by omega) W hL)
  have HF := Aside0.mk (fun (W : World) => Form_any x.op W)
  rw [hf] at HF
  have HN := Aside0.mk (fun (W : World) => Name_any x.op W)
  have HRd := Aside0.mk (fun (W : World) hL => reg_any x.rd (by omega) W hL)
  have HRa := Aside0.mk (fun (W : World) hL => reg_any x.a (by omega) W hL)
  have HRb := Aside0.mk (fun (W : World) hL => reg_any x.b (by omega) W hL)
  have HAt := Aside0.mk (fun (W : World) hL => at_any x.n x.a (by omega) (by omega) W hL)
  have HAr := Aside0.mk (fun (W : World) => around_any x.op W)
  rw [ha] at HAr
  have HT : Aside0 (textI x = nameL x.op ++ 32 :: two (regL x.rd) (atL x.n x.a)) := ⟨by unfold textI restL; simp [hf, ha]⟩
  rw [HT.out]
  clear HT
  have l0 := (name_in hop).2.2.2
  have l1 := regL_len x.rd (by omega)
  have l2 := regL_len x.a (by omega)
  have l3 := regL_len x.b (by omega)
  have l4 := itoa_len x.n (by omega)
  have l5 := atL_len x.n x.a (by omega) (by omega)
  unfold itoaB at HI
  clear hL h h1 h2 h3 h4 hf0 hop r1 r2 r3 r4 hf ha
  generalize nameL x.op = nm at *
  generalize regL x.rd = td at *
  generalize regL x.a = ta at *
  generalize regL x.b = tb at *
  generalize atL x.n x.a = tat at *
  generalize Lib.itoa x.n = tn at *
  go_enter Tryz.func17, Tryz.ntmps17
  go_wp2_with fail
  refine HR.mono ?_
  rintro e W1 ⟨rfl, hb⟩
  have HX1 := Aside0.mk (HX.out.below hb)
  have HB1 := Aside0.mk (below_after (bel1 w (.cells #[.int .i64 x.op, .int .i64 x.rd, .int .i64 x.a, .int .i64 x.b, .int .i64 x.n] 23)) hb (Nat.le_refl _))
  clear hb HR HX
  have k4 := HX1.out.c4
  go_wp2_with fail
  refine (HI.out W1 (HL0.out.below HB1.out)).mono ?_
  rintro e W2 ⟨rfl, hb⟩
  have HX2 := Aside0.mk (HX1.out.below hb)
  have HB2 := Aside0.mk (below_after HB1.out hb (Nat.le_refl _))
  clear hb HX1 HB1 k4
  have k0 := HX2.out.c0
  go_wp2_with fail
  refine (HF.out W2).mono ?_
  rintro e W3 ⟨rfl, hb⟩
  have HX3 := Aside0.mk (HX2.out.below hb)
  have HB3 := Aside0.mk (below_after HB2.out hb (Nat.le_refl _))
  clear hb HX2 HB2 k0
  have HL3 := Aside0.mk (HL0.out.below HB3.out)
  obtain ⟨k0, k1, k2, k3, k4⟩ := HX3.out
  have hg := World.block_lt_of_cell? W3 _ k0
  simp only at hg
  go_wp2_with fail
  refine (HAr.out W3).mono ?_
  rintro e W3b ⟨rfl, ⟨q, rfl⟩⟩
  have HB3b := Aside0.mk (pw_below_drewN HB3.out q)
  replace HL3 := Aside0.mk (HL3.out.below (bel_drewN W3 q))
  have j := (HX3.out.below (bel_drewN W3 q))
  have hz : W3.heap.size = (W3.drewN q).heap.size := rfl
  rw [hz] at hg
  clear hz k0 k1 k2 k3 k4 HX3 HB3
  generalize W3.drewN q = W3 at *
  obtain ⟨k0, k1, k2, k3, k4⟩ := j
  have HB3 := HB3b
  go_wp2
  go_region_held3 (fun w' => w'.cell? ⟨w.heap.size, 1, none⟩ = some (.int .i64 x.rd) ∧ w'.cell? ⟨w.heap.size, 2, none⟩ = some (.int .i64 x.a) ∧ w'.cell? ⟨w.heap.size, 4, none⟩ = some (.int .i64 x.n)) (first | go_keep | (go_split_ands; refine ⟨?_, ?_, ?_⟩ <;> first | (rw [hB.cell (p := ⟨w.heap.size, 1, none⟩) hg]; assumption) | (rw [hB.cell (p := ⟨w.heap.size, 2, none⟩) hg]; assumption) | (rw [hB.cell (p := ⟨w.heap.size, 4, none⟩) hg]; assumption))) (first | (go_at_call_of 36 (Value.int .i64 x.rd); refine (HRd.out _ (HL3.out.below (by (repeat' (first | exact Below.refl _ _ | assumption | refine pw_below_drewN ?_ _ | refine below_drew ?_ | refine below_alloc ?_ _))))).mono ?_; rintro e w2 ⟨rfl, hb⟩; have hB : Below W3.heap.size W3 w2 := (by refine below_after ?_ hb (Nat.le_refl _); (repeat' (first | exact Below.refl _ _ | assumption | refine pw_below_drewN ?_ _ | refine below_drew ?_ | refine below_alloc ?_ _))); clear hb) | (go_at_call 37; refine (HAt.out _ (HL3.out.below (by (repeat' (first | exact Below.refl _ _ | assumption | refine pw_below_drewN ?_ _ | refine below_drew ?_ | refine below_alloc ?_ _))))).mono ?_; rintro e w2 ⟨rfl, hb⟩; have hB : Below W3.heap.size W3 w2 := (by refine below_after ?_ hb (Nat.le_refl _); (repeat' (first | exact Below.refl _ _ | assumption | refine pw_below_drewN ?_ _ | refine below_drew ?_ | refine below_alloc ?_ _))); clear hb) | (go_at_call 35; refine (list2_any td tat _ _ (heap_alloc_new _ _) (by omega) (by omega)).mono ?_; rintro e w2 ⟨rfl, hb⟩; have hB : Below W3.heap.size W3 w2 := (by refine below_after ?_ hb (Nat.le_refl _); (repeat' (first | exact Below.refl _ _ | assumption | refine pw_below_drewN ?_ _ | refine below_drew ?_ | refine below_alloc ?_ _))); clear hb))
  have HBz := Aside0.mk hB
  have j0 := (hB.cell (p := ⟨w.heap.size, 0, none⟩) hg).trans k0
  clear k0 k1 k2 k3 k4 hB hg
  have hrl : (two td tat).length ≤ 200 := by have := two_len (a := td) (b := tat) (by omega) (by omega); omega
  obtain ⟨rt, hrt⟩ : ∃ rt, two td tat = rt := ⟨_, rfl⟩
  rw [hrt] at hrl ⊢
  have HRT := Aside0.mk hrt
  clear hrt
  go_wp2_with fail
  refine (HN.out _).mono ?_
  rintro e W6 ⟨rfl, hb6⟩
  have hfin := below_after (below_after HB3.out HBz.out (Nat.le_refl _)) hb6 (Nat.le_refl _)
  have z1 : (bytesB nm).size ≤ 6 := by rw [bytesB_size]; exact l0
  have z2 : (bytesB rt).size ≤ 200 := by rw [bytesB_size]; exact hrl
  have hc := Aside0.mk (cat_text nm rt)
  have f1 : (9223372036854775807 < (bytesB nm).size + 1) = False := eq_false (by omega)
  have f2 : (9223372036854775807 < (bytesB nm).size + 1 + (bytesB rt).size) = False := eq_false (by omega)
  go_wp2_with fail
  go_ret2
  rw [hc.out, ← HRT.out]
  exact ⟨rfl, hfin⟩
set_option maxHeartbeats 4000000 in
set_option maxRecDepth 100000 in
theorem Print_I (x : I5) (h : rightI x = true) (hf : formI x.op = 73) (ha : around x.op = false) (w : World) (hL : Laid w) : Calls Tryz.prog 17 #[.agg #[.int .i64 x.op, .int .i64 x.rd, .int .i64 x.a, .int .i64 x.b, .int .i64 x.n]] w fun e w' => e = .returned (.tuple #[.string (bytesB (textI x)), .int .i64 0]) ∧ Below w.heap.size w w' := by
  have HR := Right_any x (w.alloc (.cells #[.int .i64 x.op, .int .i64 x.rd, .int .i64 x.a, .int .i64 x.b, .int .i64 x.n] 23))
  have HX := Aside0.mk (Box5.new w x 23)
  obtain ⟨hf0, h1, h2, h3, h4⟩ := right_parts h
  have hop := form_in hf0
  have r1 := regOk_range h1
  have r2 := regOk_range h2
  have r3 := regOk_range h3
  have r4 := numOk_range h4
  rw [h] at HR
  have HL0 := Aside0.mk hL
  have HI := Aside0.mk (fun (W : World) hL => Itoa_below x.n (by omega) (by omega) W hL)
  have HF := Aside0.mk (fun (W : World) => Form_any x.op W)
  rw [hf] at HF
  have HN := Aside0.mk (fun (W : World) => Name_any x.op W)
  have HRd := Aside0.mk (fun (W : World) hL => reg_any x.rd (by omega) W hL)
  have HRa := Aside0.mk (fun (W : World) hL => reg_any x.a (by omega) W hL)
  have HRb := Aside0.mk (fun (W : World) hL => reg_any x.b (by omega) W hL)
  have HAt := Aside0.mk (fun (W : World) hL => at_any x.n x.a (by omega) (by omega) W hL)
  have HAr := Aside0.mk (fun (W : World) => around_any x.op W)
  rw [ha] at HAr
  have HT : Aside0 (textI x = nameL x.op ++ 32 :: three (regL x.rd) (regL x.a) (Lib.itoa x.n)) := ⟨by unfold textI restL; simp [hf, ha]⟩
  rw [HT.out]
  clear HT
  have l0 := (name_in hop).2.2.2
  have l1 := regL_len x.rd (by omega)
  have l2 := regL_len x.a (by omega)
  have l3 := regL_len x.b (by omega)
  have l4 := itoa_len x.n (by omega)
  have l5 := atL_len x.n x.a (by omega) (by omega)
  unfold itoaB at HI
  clear hL h h1 h2 h3 h4 hf0 hop r1 r2 r3 r4 hf ha
  generalize nameL x.op = nm at *
  generalize regL x.rd = td at *
  generalize regL x.a = ta at *
  generalize regL x.b = tb at *
  generalize atL x.n x.a = tat at *
  generalize Lib.itoa x.n = tn at *
  go_enter Tryz.func17, Tryz.ntmps17
  go_wp2_with fail
  refine HR.mono ?_
  rintro e W1 ⟨rfl, hb⟩
  have HX1 := Aside0.mk (HX.out.below hb)
  have HB1 := Aside0.mk (below_after (bel1 w (.cells #[.int .i64 x.op, .int .i64 x.rd, .int .i64 x.a, .int .i64 x.b, .int .i64 x.n] 23)) hb (Nat.le_refl _))
  clear hb HR HX
  have k4 := HX1.out.c4
  go_wp2_with fail
  refine (HI.out W1 (HL0.out.below HB1.out)).mono ?_
  rintro e W2 ⟨rfl, hb⟩
  have HX2 := Aside0.mk (HX1.out.below hb)
  have HB2 := Aside0.mk (below_after HB1.out hb (Nat.le_refl _))
  clear hb HX1 HB1 k4
  have k0 := HX2.out.c0
  go_wp2_with fail
  refine (HF.out W2).mono ?_
  rintro e W3 ⟨rfl, hb⟩
  have HX3 := Aside0.mk (HX2.out.below hb)
  have HB3 := Aside0.mk (below_after HB2.out hb (Nat.le_refl _))
  clear hb HX2 HB2 k0
  have HL3 := Aside0.mk (HL0.out.below HB3.out)
  obtain ⟨k0, k1, k2, k3, k4⟩ := HX3.out
  have hg := World.block_lt_of_cell? W3 _ k0
  simp only at hg
  go_wp2_with fail
  refine (HAr.out W3).mono ?_
  rintro e W3b ⟨rfl, ⟨q, rfl⟩⟩
  have HB3b := Aside0.mk (pw_below_drewN HB3.out q)
  replace HL3 := Aside0.mk (HL3.out.below (bel_drewN W3 q))
  have j := (HX3.out.below (bel_drewN W3 q))
  have hz : W3.heap.size = (W3.drewN q).heap.size := rfl
  rw [hz] at hg
  clear hz k0 k1 k2 k3 k4 HX3 HB3
  generalize W3.drewN q = W3 at *
  obtain ⟨k0, k1, k2, k3, k4⟩ := j
  have HB3 := HB3b
  go_wp2
  go_region_held3 (fun w' => w'.cell? ⟨w.heap.size, 1, none⟩ = some (.int .i64 x.rd) ∧ w'.cell? ⟨w.heap.size, 2, none⟩ = some (.int .i64 x.a)) (first | go_keep | (go_split_ands; refine ⟨?_, ?_⟩ <;> first | (rw [hB.cell (p := ⟨w.heap.size, 1, none⟩) hg]; assumption) | (rw [hB.cell (p := ⟨w.heap.size, 2, none⟩) hg]; assumption))) (first | (go_at_call_of 36 (Value.int .i64 x.rd); refine (HRd.out _ (HL3.out.below (by (repeat' (first | exact Below.refl _ _ | assumption | refine pw_below_drewN ?_ _ | refine below_drew ?_ | refine below_alloc ?_ _))))).mono ?_; rintro e w2 ⟨rfl, hb⟩; have hB : Below W3.heap.size W3 w2 := (by refine below_after ?_ hb (Nat.le_refl _); (repeat' (first | exact Below.refl _ _ | assumption | refine pw_below_drewN ?_ _ | refine below_drew ?_ | refine below_alloc ?_ _))); clear hb) | (go_at_call_of 36 (Value.int .i64 x.a); refine (HRa.out _ (HL3.out.below (by (repeat' (first | exact Below.refl _ _ | assumption | refine pw_below_drewN ?_ _ | refine below_drew ?_ | refine below_alloc ?_ _))))).mono ?_; rintro e w2 ⟨rfl, hb⟩; have hB : Below W3.heap.size W3 w2 := (by refine below_after ?_ hb (Nat.le_refl _); (repeat' (first | exact Below.refl _ _ | assumption | refine pw_below_drewN ?_ _ | refine below_drew ?_ | refine below_alloc ?_ _))); clear hb) | (go_at_call 35; refine (list3_any td ta tn _ _ (heap_alloc_new _ _) (by omega) (by omega) (by omega)).mono ?_; rintro e w2 ⟨rfl, hb⟩; have hB : Below W3.heap.size W3 w2 := (by refine below_after ?_ hb (Nat.le_refl _); (repeat' (first | exact Below.refl _ _ | assumption | refine pw_below_drewN ?_ _ | refine below_drew ?_ | refine below_alloc ?_ _))); clear hb))
  have HBz := Aside0.mk hB
  have j0 := (hB.cell (p := ⟨w.heap.size, 0, none⟩) hg).trans k0
  clear k0 k1 k2 k3 k4 hB hg
  have hrl : (three td ta tn).length ≤ 200 := by have := three_len (a := td) (b := ta) (c := tn) (by omega) (by omega) (by omega); omega
  obtain ⟨rt, hrt⟩ : ∃ rt, three td ta tn = rt := ⟨_, rfl⟩
  rw [hrt] at hrl ⊢
  have HRT := Aside0.mk hrt
  clear hrt
  go_wp2_with fail
  refine (HN.out _).mono ?_
  rintro e W6 ⟨rfl, hb6⟩
  have hfin := below_after (below_after HB3.out HBz.out (Nat.le_refl _)) hb6 (Nat.le_refl _)
  have z1 : (bytesB nm).size ≤ 6 := by rw [bytesB_size]; exact l0
  have z2 : (bytesB rt).size ≤ 200 := by rw [bytesB_size]; exact hrl
  have hc := Aside0.mk (cat_text nm rt)
  have f1 : (9223372036854775807 < (bytesB nm).size + 1) = False := eq_false (by omega)
  have f2 : (9223372036854775807 < (bytesB nm).size + 1 + (bytesB rt).size) = False := eq_false (by omega)
  go_wp2_with fail
  go_ret2
  rw [hc.out, ← HRT.out]
  exact ⟨rfl, hfin⟩
set_option maxHeartbeats 4000000 in
set_option maxRecDepth 100000 in
theorem Print_H (x : I5) (h : rightI x = true) (hf : formI x.op = 72) (ha : around x.op = false) (w : World) (hL : Laid w) : Calls Tryz.prog 17 #[.agg #[.int .i64 x.op, .int .i64 x.rd, .int .i64 x.a, .int .i64 x.b, .int .i64 x.n]] w fun e w' => e = .returned (.tuple #[.string (bytesB (textI x)), .int .i64 0]) ∧ Below w.heap.size w w' := by
  have HR := Right_any x (w.alloc (.cells #[.int .i64 x.op, .int .i64 x.rd, .int .i64 x.a, .int .i64 x.b, .int .i64 x.n] 23))
  have HX := Aside0.mk (Box5.new w x 23)
  obtain ⟨hf0, h1, h2, h3, h4⟩ := right_parts h
  have hop := form_in hf0
  have r1 := regOk_range h1
  have r2 := regOk_range h2
  have r3 := regOk_range h3
  have r4 := numOk_range h4
  rw [h] at HR
  have HL0 := Aside0.mk hL
  have HI := Aside0.mk (fun (W : World) hL => Itoa_below x.n (by omega) (by omega) W hL)
  have HF := Aside0.mk (fun (W : World) => Form_any x.op W)
  rw [hf] at HF
  have HN := Aside0.mk (fun (W : World) => Name_any x.op W)
  have HRd := Aside0.mk (fun (W : World) hL => reg_any x.rd (by omega) W hL)
  have HRa := Aside0.mk (fun (W : World) hL => reg_any x.a (by omega) W hL)
  have HRb := Aside0.mk (fun (W : World) hL => reg_any x.b (by omega) W hL)
  have HAt := Aside0.mk (fun (W : World) hL => at_any x.n x.a (by omega) (by omega) W hL)
  have HAr := Aside0.mk (fun (W : World) => around_any x.op W)
  rw [ha] at HAr
  have HT : Aside0 (textI x = nameL x.op ++ 32 :: three (regL x.rd) (regL x.a) (Lib.itoa x.n)) := ⟨by unfold textI restL; simp [hf, ha]⟩
  rw [HT.out]
  clear HT
  have l0 := (name_in hop).2.2.2
  have l1 := regL_len x.rd (by omega)
  have l2 := regL_len x.a (by omega)
  have l3 := regL_len x.b (by omega)
  have l4 := itoa_len x.n (by omega)
  have l5 := atL_len x.n x.a (by omega) (by omega)
  unfold itoaB at HI
  clear hL h h1 h2 h3 h4 hf0 hop r1 r2 r3 r4 hf ha
  generalize nameL x.op = nm at *
  generalize regL x.rd = td at *
  generalize regL x.a = ta at *
  generalize regL x.b = tb at *
  generalize atL x.n x.a = tat at *
  generalize Lib.itoa x.n = tn at *
  go_enter Tryz.func17, Tryz.ntmps17
  go_wp2_with fail
  refine HR.mono ?_
  rintro e W1 ⟨rfl, hb⟩
  have HX1 := Aside0.mk (HX.out.below hb)
  have HB1 := Aside0.mk (below_after (bel1 w (.cells #[.int .i64 x.op, .int .i64 x.rd, .int .i64 x.a, .int .i64 x.b, .int .i64 x.n] 23)) hb (Nat.le_refl _))
  clear hb HR HX
  have k4 := HX1.out.c4
  go_wp2_with fail
  refine (HI.out W1 (HL0.out.below HB1.out)).mono ?_
  rintro e W2 ⟨rfl, hb⟩
  have HX2 := Aside0.mk (HX1.out.below hb)
  have HB2 := Aside0.mk (below_after HB1.out hb (Nat.le_refl _))
  clear hb HX1 HB1 k4
  have k0 := HX2.out.c0
  go_wp2_with fail
  refine (HF.out W2).mono ?_
  rintro e W3 ⟨rfl, hb⟩
  have HX3 := Aside0.mk (HX2.out.below hb)
  have HB3 := Aside0.mk (below_after HB2.out hb (Nat.le_refl _))
  clear hb HX2 HB2 k0
  have HL3 := Aside0.mk (HL0.out.below HB3.out)
  obtain ⟨k0, k1, k2, k3, k4⟩ := HX3.out
  have hg := World.block_lt_of_cell? W3 _ k0
  simp only at hg
  go_wp2_with fail
  refine (HAr.out W3).mono ?_
  rintro e W3b ⟨rfl, ⟨q, rfl⟩⟩
  have HB3b := Aside0.mk (pw_below_drewN HB3.out q)
  replace HL3 := Aside0.mk (HL3.out.below (bel_drewN W3 q))
  have j := (HX3.out.below (bel_drewN W3 q))
  have hz : W3.heap.size = (W3.drewN q).heap.size := rfl
  rw [hz] at hg
  clear hz k0 k1 k2 k3 k4 HX3 HB3
  generalize W3.drewN q = W3 at *
  obtain ⟨k0, k1, k2, k3, k4⟩ := j
  have HB3 := HB3b
  go_wp2
  go_region_held3 (fun w' => w'.cell? ⟨w.heap.size, 1, none⟩ = some (.int .i64 x.rd) ∧ w'.cell? ⟨w.heap.size, 2, none⟩ = some (.int .i64 x.a)) (first | go_keep | (go_split_ands; refine ⟨?_, ?_⟩ <;> first | (rw [hB.cell (p := ⟨w.heap.size, 1, none⟩) hg]; assumption) | (rw [hB.cell (p := ⟨w.heap.size, 2, none⟩) hg]; assumption))) (first | (go_at_call_of 36 (Value.int .i64 x.rd); refine (HRd.out _ (HL3.out.below (by (repeat' (first | exact Below.refl _ _ | assumption | refine pw_below_drewN ?_ _ | refine below_drew ?_ | refine below_alloc ?_ _))))).mono ?_; rintro e w2 ⟨rfl, hb⟩; have hB : Below W3.heap.size W3 w2 := (by refine below_after ?_ hb (Nat.le_refl _); (repeat' (first | exact Below.refl _ _ | assumption | refine pw_below_drewN ?_ _ | refine below_drew ?_ | refine below_alloc ?_ _))); clear hb) | (go_at_call_of 36 (Value.int .i64 x.a); refine (HRa.out _ (HL3.out.below (by (repeat' (first | exact Below.refl _ _ | assumption | refine pw_below_drewN ?_ _ | refine below_drew ?_ | refine below_alloc ?_ _))))).mono ?_; rintro e w2 ⟨rfl, hb⟩; have hB : Below W3.heap.size W3 w2 := (by refine below_after ?_ hb (Nat.le_refl _); (repeat' (first | exact Below.refl _ _ | assumption | refine pw_below_drewN ?_ _ | refine below_drew ?_ | refine below_alloc ?_ _))); clear hb) | (go_at_call 35; refine (list3_any td ta tn _ _ (heap_alloc_new _ _) (by omega) (by omega) (by omega)).mono ?_; rintro e w2 ⟨rfl, hb⟩; have hB : Below W3.heap.size W3 w2 := (by refine below_after ?_ hb (Nat.le_refl _); (repeat' (first | exact Below.refl _ _ | assumption | refine pw_below_drewN ?_ _ | refine below_drew ?_ | refine below_alloc ?_ _))); clear hb))
  have HBz := Aside0.mk hB
  have j0 := (hB.cell (p := ⟨w.heap.size, 0, none⟩) hg).trans k0
  clear k0 k1 k2 k3 k4 hB hg
  have hrl : (three td ta tn).length ≤ 200 := by have := three_len (a := td) (b := ta) (c := tn) (by omega) (by omega) (by omega); omega
  obtain ⟨rt, hrt⟩ : ∃ rt, three td ta tn = rt := ⟨_, rfl⟩
  rw [hrt] at hrl ⊢
  have HRT := Aside0.mk hrt
  clear hrt
  go_wp2_with fail
  refine (HN.out _).mono ?_
  rintro e W6 ⟨rfl, hb6⟩
  have hfin := below_after (below_after HB3.out HBz.out (Nat.le_refl _)) hb6 (Nat.le_refl _)
  have z1 : (bytesB nm).size ≤ 6 := by rw [bytesB_size]; exact l0
  have z2 : (bytesB rt).size ≤ 200 := by rw [bytesB_size]; exact hrl
  have hc := Aside0.mk (cat_text nm rt)
  have f1 : (9223372036854775807 < (bytesB nm).size + 1) = False := eq_false (by omega)
  have f2 : (9223372036854775807 < (bytesB nm).size + 1 + (bytesB rt).size) = False := eq_false (by omega)
  go_wp2_with fail
  go_ret2
  rw [hc.out, ← HRT.out]
  exact ⟨rfl, hfin⟩
theorem form_cases {op : Int} (h : formI op ≠ 0) : formI op = 69 ∨ formI op = 85 ∨ formI op = 74 ∨ formI op = 82 ∨ formI op = 66 ∨ formI op = 83 ∨ formI op = 73 ∨ formI op = 72 := by
  have hop := form_in h
  have key : ∀ i, i < 47 → (formTab.getD i 0 = 69 ∨ formTab.getD i 0 = 85 ∨ formTab.getD i 0 = 74 ∨ formTab.getD i 0 = 82 ∨ formTab.getD i 0 = 66 ∨ formTab.getD i 0 = 83 ∨ formTab.getD i 0 = 73 ∨ formTab.getD i 0 = 72) := by decide +kernel
  have := key op.toNat (by omega)
  unfold formI
  rw [if_neg (by omega)]
  exact this
theorem Print_any (x : I5) (w : World) (hL : Laid w) : Calls Tryz.prog 17 #[.agg #[.int .i64 x.op, .int .i64 x.rd, .int .i64 x.a, .int .i64 x.b, .int .i64 x.n]] w fun e w' => e = .returned (.tuple #[.string (bytesB (printT x)), .int .i64 (printE x)]) ∧ Below w.heap.size w w' := by
  unfold printT printE
  cases h : rightI x with
  | false => exact Print_no x h w
  | true =>
    show Calls _ _ _ _ fun e w' => e = .returned (.tuple #[.string (bytesB (textI x)), .int .i64 0]) ∧ Below w.heap.size w w'
    have hf0 := (right_parts h).1
    rcases form_cases hf0 with hf | hf | hf | hf | hf | hf | hf | hf
    · exact Print_E x h hf w hL
    · exact Print_U x h hf w hL
    · exact Print_J x h hf w hL
    · exact Print_R x h hf w hL
    · exact Print_B x h hf w hL
    · exact Print_S x h hf w hL
    · cases ha : around x.op with
      | true => exact Print_A x h hf ha w hL
      | false => exact Print_I x h hf ha w hL
    · exact Print_H x h hf (by cases ha : around x.op with | false => rfl | true => rw [around_in ha] at hf; cases hf) w hL
end Go.Proofs.YtdgkbigmdadlaaaGreatDoor
