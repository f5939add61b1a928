import Derived.Test.YtdgkbigmdadlaaaDoorAsmP
namespace Go.Proofs.YtdgkbigmdadlaaaDoor
open Go.RowKit Go.Lib Go.Proofs.YtdgkbigmdadlaaaDoorW.PrintWords Go.Proofs.YtdgkbigmdadlaaaDoorW.PrintLast
attribute [local go_sem high] eqA23
set_option linter.unusedVariables false
set_option linter.unusedSimpArgs false

theorem min_fact (n b : Nat) : (if (b : Int) < (n : Int) then (b : Int) else (n : Int)) = ((min n b : Nat) : Int) ∧ min (n : Int) (b : Int) = ((min n b : Nat) : Int) := ⟨by split <;> omega, by omega⟩
set_option maxHeartbeats 2000000 in
set_option maxRecDepth 100000 in
theorem AsmWhole_any (A : Option Addr) (c : Nat) (L : List I5) (B : Option Addr) (d : Nat) (M : List I5) (w : World) (hA : RowI w A L) (hc : L.length ≤ c) (hB : RowI w B M) (hd : M.length ≤ d) (hL : Laid w) :
    Calls Tryd.prog 7 #[.slice A L.length c, .slice B M.length d] w fun e w' => e = .returned (.bool true) ∧ Below w.heap.size w w' := by
  have HL := Aside0.mk hL
  have HX := Aside0.mk (fun (W : World) hL => fixed_any W hL)
  obtain ⟨k1, hk1⟩ : ∃ k : Nat, min L.length 30 = k := ⟨_, rfl⟩
  obtain ⟨k2, hk2⟩ : ∃ k : Nat, min M.length 30 = k := ⟨_, rfl⟩
  have hA2 := Aside0.mk (hA.take k1)
  have hB2 := Aside0.mk (hB.take k2)
  have e1 : (L.take k1).length = k1 := by rw [List.length_take]; omega
  have e2 : (M.take k2).length = k2 := by rw [List.length_take]; omega
  have hm1 : (if (30 : Int) < (L.length : Int) then (30 : Int) else (L.length : Int)) = (k1 : Int) := by split <;> omega
  have hm2 : min (L.length : Int) 30 = (k1 : Int) := by omega
  have hm3 : (if (30 : Int) < (M.length : Int) then (30 : Int) else (M.length : Int)) = (k2 : Int) := by split <;> omega
  have hm4 : min (M.length : Int) 30 = (k2 : Int) := by omega
  have g1 : (k1 : Int) ≤ (c : Int) := by omega
  have g2 : (k2 : Int) ≤ (d : Int) := by omega
  have g3 : k1 ≤ 30 := by omega
  have g4 : k2 ≤ 30 := by omega
  have gm1 := hA.max
  have gm2 := hB.max
  have HE := Aside0.mk (And.intro e1 e2)
  have HLa : Aside0 (∀ W, Below w.heap.size w W → Calls Tryd.prog 17 #[.slice A k1 c] W fun e w' => e = .returned (.tuple #[.string (bytesB (linesT (L.take k1))), .int .i64 (linesE (L.take k1))]) ∧ Below W.heap.size W w') := ⟨fun W h => by
    have := Lines_any A c (L.take k1) (by omega) W (hA2.out.below h) (hL.below h)
    rw [e1] at this
    exact this⟩
  have HLb : Aside0 (∀ W, Below w.heap.size w W → Calls Tryd.prog 17 #[.slice B k2 d] W fun e w' => e = .returned (.tuple #[.string (bytesB (linesT (M.take k2))), .int .i64 (linesE (M.take k2))]) ∧ Below W.heap.size W w') := ⟨fun W h => by
    have := Lines_any B d (M.take k2) (by omega) W (hB2.out.below h) (hL.below h)
    rw [e2] at this
    exact this⟩
  have hcase : ((L.take k1).all rightI = true ∧ (M.take k2).all rightI = true) ∨ ((L.take k1).all rightI = true ∧ (M.take k2).all rightI = false) ∨ ((L.take k1).all rightI = false) := by
    cases (L.take k1).all rightI <;> cases (M.take k2).all rightI <;> simp
  unfold linesT linesE at HLa HLb
  clear hA hB hc hd hL hk1 hk2 e1 e2
  generalize L.take k1 = P at *
  generalize M.take k2 = Q at *
  generalize L.length = n1 at *
  generalize M.length = n2 at *
  rcases hcase with ⟨q1, q2⟩ | ⟨q1, q2⟩ | q1
  · rw [q1] at HLa
    rw [q2] at HLb
    simp only [if_true] at HLa HLb
    have hl1 := lines_len P q1
    have hl2 := lines_len Q q2
    have hpq : (P ++ Q).all rightI = true := by rw [List.all_append, q1, q2]; rfl
    have hrd := readA_lines hpq
    have hcat : bytesB (P.flatMap lineI) ++ bytesB (Q.flatMap lineI) = bytesB ((P ++ Q).flatMap lineI) := by rw [bytesB_app, List.flatMap_append]
    have HRd : Aside0 (∀ W, Laid W → Calls Tryd.prog 18 #[.string (bytesB ((P ++ Q).flatMap lineI))] W fun e w' => ∃ v, e = .returned (.tuple #[v, .int .i64 0]) ∧ OwnI w' W.heap.size v (P ++ Q) ∧ Below W.heap.size W w') := ⟨fun W h => by
      have := Read_any ((P ++ Q).flatMap lineI) (by rw [List.flatMap_append, List.length_append]; have := HE.out; omega) W h
      rw [hrd] at this
      exact this⟩
    have hs1 : (bytesB (P.flatMap lineI)).size ≤ 5000 := by rw [bytesB_size]; have := HE.out; omega
    have hs2 : (bytesB (Q.flatMap lineI)).size ≤ 5000 := by rw [bytesB_size]; have := HE.out; omega
    have HCat := Aside0.mk hcat
    clear hrd hpq hcat hl1 hl2 q1 q2
    generalize bytesB (P.flatMap lineI) = sa at *
    generalize bytesB (Q.flatMap lineI) = sb at *
    have hf : (9223372036854775807 < sa.size + sb.size) = False := eq_false (by omega)
    go_enter Tryd.func7, Tryd.ntmps7
    go_wp2_with fail
    refine (HLa.out _ (Below.refl _ _)).mono ?_
    rintro e w1 ⟨rfl, hb⟩
    have HX1 := Aside0.mk hb
    clear hb HLa
    go_wp2_with fail
    refine (HLb.out _ HX1.out).mono ?_
    rintro e w2 ⟨rfl, hb⟩
    have HX2 := Aside0.mk (below_after HX1.out hb (Nat.le_refl _))
    clear hb HLb HX1
    go_wp2_with fail
    rw [HCat.out]
    refine (HRd.out _ (HL.out.below HX2.out)).mono ?_
    rintro e w3 ⟨v, rfl, ho, hb⟩
    obtain ⟨A3, c3, rfl, hc3, hR3⟩ := ho.reads
    have HX3 := Aside0.mk (below_after HX2.out hb (Nat.le_refl _))
    have HR3 := Aside0.mk hR3
    have HLen : Aside0 ((P ++ Q).length ≤ c3 ∧ (P ++ Q).length = k1 + k2) := ⟨hc3, by rw [List.length_append]; have := HE.out; omega⟩
    clear hb ho hR3 hc3 HRd
    have HO0 := Aside0.mk (own_new w3)
    have HB0 := Aside0.mk (bel1 w3 (.cells #[] 23))
    rw [HLen.out.2]
    go_wp2_with (at_builtin; refine append_insts (w0 := w3) w3.heap.size rfl (.tmp 54) (.tmp 55) rfl rfl (.slice (some ⟨w3.heap.size, 0, none⟩) 0 0) [] P A k1 c rfl rfl HO0.out HE.out.1 (hA2.out.below (below_after HX3.out HB0.out (Nat.le_refl _))) HB0.out HB0.out.size (by simp; omega) ?_)
    intro v1 w4 ho4 hb4 hg4
    have HO4 := Aside0.mk ho4
    have HB4 := Aside0.mk hb4
    have HX4 := Aside0.mk (below_after HX3.out hb4 (Nat.le_refl _))
    clear ho4 hb4 hg4 HO0 HB0
    go_wp2_with (at_builtin; refine append_insts (w0 := w3) w3.heap.size rfl (.tmp 57) (.tmp 58) rfl rfl v1 P Q B k2 d rfl rfl HO4.out HE.out.2 (hB2.out.below HX4.out) HB4.out HB4.out.size (by have := HE.out; omega) ?_)
    intro v2 w5 ho5 hb5 hg5
    obtain ⟨A5, c5, rfl, hc5, hR5⟩ := ho5.reads
    have HX5 := Aside0.mk (below_after HX3.out hb5 (Nat.le_refl _))
    have HSm := Aside0.mk (Same_any A3 A5 c3 c5 (P ++ Q) (P ++ Q) w5 (HR3.out.below hb5) hR5 HLen.out.1 hc5 (by have := HLen.out.2; omega))
    rw [show decide (P ++ Q = P ++ Q) = true from by simp, HLen.out.2] at HSm
    clear ho5 hb5 hg5 hR5 hc5 HO4 HB4 HX4 HX3
    rw [HLen.out.2]
    go_wp2_with fail
    refine HSm.out.mono ?_
    rintro e w6 ⟨rfl, ⟨q, rfl⟩⟩
    have HX6 := Aside0.mk (pw_below_drewN HX5.out q)
    clear HX5 HSm
    go_wp2_with fail
    refine (HX.out _ (HL.out.below HX6.out)).mono ?_
    rintro e w7 ⟨rfl, hb⟩
    have hfin := below_after HX6.out hb (Nat.le_refl _)
    go_wp2_with fail
    go_ret
    exact ⟨rfl, hfin⟩
  · rw [q1] at HLa
    rw [q2] at HLb
    simp only [if_true, Bool.false_eq_true, if_false] at HLa HLb
    clear q1 q2
    go_enter Tryd.func7, Tryd.ntmps7
    go_wp2_with fail
    refine (HLa.out _ (Below.refl _ _)).mono ?_
    rintro e w1 ⟨rfl, hb⟩
    have HX1 := Aside0.mk hb
    clear hb HLa
    go_wp2_with fail
    refine (HLb.out _ HX1.out).mono ?_
    rintro e w2 ⟨rfl, hb⟩
    have HX2 := Aside0.mk (below_after HX1.out hb (Nat.le_refl _))
    clear hb HLb HX1
    go_wp2_with fail
    refine (HX.out _ (HL.out.below HX2.out)).mono ?_
    rintro e w7 ⟨rfl, hb⟩
    have hfin := below_after HX2.out hb (Nat.le_refl _)
    go_wp2_with fail
    go_ret
    exact ⟨rfl, hfin⟩
  · rw [q1] at HLa
    simp only [Bool.false_eq_true, if_false] at HLa
    clear q1
    have hE : (bytesB []).toList.isEmpty = true := by simp [bytesB]
    generalize (if Q.all rightI = true then Q.flatMap lineI else []) = tq at *
    generalize (if Q.all rightI = true then (0 : Int) else 20) = eq at *
    go_enter Tryd.func7, Tryd.ntmps7
    go_wp2_with fail
    refine (HLa.out _ (Below.refl _ _)).mono ?_
    rintro e w1 ⟨rfl, hb⟩
    have HX1 := Aside0.mk hb
    clear hb HLa
    go_wp2_with fail
    refine (HLb.out _ HX1.out).mono ?_
    rintro e w2 ⟨rfl, hb⟩
    have HX2 := Aside0.mk (below_after HX1.out hb (Nat.le_refl _))
    clear hb HLb HX1
    go_wp2_with fail
    refine (HX.out _ (HL.out.below HX2.out)).mono ?_
    rintro e w7 ⟨rfl, hb⟩
    have hfin := below_after HX2.out hb (Nat.le_refl _)
    go_wp2_with fail
    go_ret
    exact ⟨rfl, hfin⟩
end Go.Proofs.YtdgkbigmdadlaaaDoor
