import Derived.Test.YtjifancgekoenaaGreatDoorCnfV
namespace Go.Proofs.YtjifancgekoenaaGreatDoor
open Go.RowKit Go.Proofs.YtjifancgekoenaaGreatDoorW.PrintWords Go.Proofs.YtjifancgekoenaaGreatDoorW.PrintLast
set_option linter.unusedVariables false
set_option linter.unusedSimpArgs false

set_option maxHeartbeats 4000000 in
set_option maxRecDepth 100000 in
theorem CnfTurned_any (A : Option Addr) (c : Nat) (l : List Int) (A1 : Option Addr) (c1 : Nat) (a0 : List Bool) (w : World) (hC : Kd.C kI w A l.length l) (hc : l.length ≤ c) (hW : Wf l)
    (ha0 : Kd.C Kd.bool w A1 a0.length a0) (hca : a0.length ≤ c1) (hL : Laid w) :
    Calls Tryz.prog 3 #[.slice A l.length c, .slice A1 a0.length c1] w fun e w' => e = .returned (.bool true) ∧ Below w.heap.size w w' := by
  obtain ⟨k, hk1⟩ : ∃ k : Nat, min a0.length 100 = k := ⟨_, rfl⟩
  have ha9 : a0.length ≤ 9223372036854775807 := C_max ha0
  have hk2 : (k : Int) ≤ (c1 : Int) := by omega
  have hmin : (if (100 : Int) < (a0.length : Int) then (100 : Int) else (a0.length : Int)) = (k : Int) := by split <;> omega
  have hmin2 : min (a0.length : Int) 100 = (k : Int) := by omega
  obtain ⟨a, hae⟩ : ∃ a, a0.take k = a := ⟨_, rfl⟩
  have hal : a.length = k := by rw [← hae, List.length_take]; omega
  have HA : Aside0 (Kd.C Kd.bool w A1 a.length a ∧ a.length = k ∧ k ≤ 100 ∧ k ≤ c1) := ⟨by rw [hal, ← hae]; exact C_take ha0 (by omega), hal, by omega, by omega⟩
  obtain ⟨n, hn⟩ : ∃ n, l.length = n := ⟨_, rfl⟩
  have hn9 : n ≤ 9223372036854775807 := by rw [← hn]; exact C_max hC
  have HL : Aside0 (Laid w ∧ Kd.C kI w A l.length l ∧ l.length = n) := ⟨hL, hC, hn⟩
  rw [hn]
  clear hC hW hL ha0 hae hal hk1 hc hn
  go_enter Tryz.func3, Tryz.ntmps3
  go_wp2_with fail
  clear hmin hmin2 hk2 ha9 hca
  go_loopg [5, 6, 7] 30 (fun gg s5 s6 s7 wr => ∃ (kk : Nat) (ms : List Int), kk ≤ n ∧ kk ≤ 30 ∧ 30 - kk ≤ gg ∧ s5 = .bool (!clauseB ms a) ∧ s7 = .int .i64 kk ∧ Aside0 (ms = modL 200 (l.take kk) ∧ ms.length ≤ 30) ∧ Aside0 (wr.ownsRow w.heap.size 3 1 s6 ms.length (nums .i64 ms) ∧ s6.ownBlock ≠ none) ∧ Aside0 (Below w.heap.size w wr))
  case atStart => exact ⟨0, [], by omega, by omega, by omega, rfl, rfl, ⟨by simp [modL], by simp⟩, ⟨own_empty w 3, by simp [Value.ownBlock]⟩, ⟨bel_alloc _ _⟩⟩
  case round =>
    obtain ⟨kk, ms, h1, h2, h3, rfl, rfl, HM, HO, HB⟩ := hrel
    by_cases hlt : kk < n ∧ kk < 30
    · have hlt2 : decide ((kk : Int) < (n : Int)) = true := by simpa using hlt.1
      have hlt3 : decide ((kk : Int) < 30) = true := by have := hlt.2; simp; omega
      obtain ⟨b, off, rfl, hcl⟩ := C_ints HL.out.2.1 (by rw [HL.out.2.2]; omega)
      have hcell := (HB.out.cell (World.block_lt_of_cell? w _ (hcl kk (by rw [HL.out.2.2]; exact hlt.1)))).trans (hcl kk (by rw [HL.out.2.2]; exact hlt.1))
      clear hcl
      have HX : Aside0 (modL 200 (l.take (kk + 1)) = modL 200 (l.take kk) ++ (if l[kk]!.tmod 200 = 0 then [] else [l[kk]!.tmod 200]) ∧ (-200 < l[kk]!.tmod 200 ∧ l[kk]!.tmod 200 < 200)) := by
        have hkl : kk < l.length := by rw [HL.out.2.2]; exact hlt.1
        refine ⟨?_, ?_⟩
        · rw [List.take_succ_eq_append_getElem hkl, modL_snoc, getElem!_pos l kk hkl]
        · have h3 := Int.tmod_lt_of_pos l[kk]! (show (0 : Int) < 200 by omega)
          have h4 := Int.tmod_lt_of_pos (-l[kk]!) (show (0 : Int) < 200 by omega)
          rw [Int.neg_tmod] at h4
          omega
      generalize l[kk]! = y at *
      by_cases hz : y.tmod 200 = 0
      · have hz1 : (y.tmod 200 == 0) = true := by simpa using hz
        have HM2 : Aside0 (ms = modL 200 (l.take (kk + 1)) ∧ ms.length ≤ 30) := ⟨by rw [HX.out.1, if_pos hz, List.append_nil]; exact HM.out.1, HM.out.2⟩
        go_wp2
        go_roundg (30 - kk - 1)
        case measure => omega
        case rel => exact ⟨kk + 1, ms, by omega, by omega, by omega, rfl, by go_num, HM2, HO, HB⟩
      · have hz1 : (y.tmod 200 == 0) = false := by simpa using hz
        have HM2 : Aside0 (ms ++ [y.tmod 200] = modL 200 (l.take (kk + 1)) ∧ (ms ++ [y.tmod 200]).length ≤ 30) := ⟨by rw [HX.out.1, if_neg hz, HM.out.1], by
          have e : ms ++ [y.tmod 200] = modL 200 (l.take (kk + 1)) := by rw [HX.out.1, if_neg hz, HM.out.1]
          rw [e]
          have := modL_len 200 (l.take (kk + 1))
          rw [List.length_take] at this
          omega⟩
        have HX2 : Aside0 (y.tmod 200 ≠ 0 ∧ -200 < y.tmod 200 ∧ y.tmod 200 < 200) := ⟨hz, HX.out.2⟩
        clear HX hz HM
        obtain ⟨x, hx⟩ : ∃ x, y.tmod 200 = x := ⟨_, rfl⟩
        rw [hx] at hz1 HM2 HX2
        have hneg : wrap64 (-x) = -x := wrap64_small (by have := HX2.out; omega) (by have := HX2.out; omega)
        have hopp := isLit_opp a (x := x) (by have := HX2.out; omega) (by have := HX2.out; omega) HX2.out.1
        go_wp2_with (at_builtin; refine print_append_num (w0 := w) w.heap.size rfl (.tmp 34) (.tmp 36) 22 3 .i64 8 rfl Tryz.underlying22 infoI (by decide) u6 ms x rfl rfl ?aO ?aB ?aS ?aL ?_)
        case aO => exact HO.out.1
        case aB => exact HB.out
        case aS => exact HB.out.size
        case aL => have := HM2.out.2; simp at this; omega
        intro v1 w1 hown hb1 hg1 hat1
        have HO1 := Aside0.mk (show w1.ownsRow w.heap.size 3 1 v1 (ms ++ [x]).length (nums .i64 (ms ++ [x])) ∧ v1.ownBlock ≠ none from ⟨by rw [List.length_append]; exact hown, by
          rcases hat1 with h | ⟨b, h, _⟩
          · rw [h]; exact HO.out.2
          · rw [h]; simp⟩)
        have HB1 := Aside0.mk hb1
        clear hown hb1 hg1 hat1 HO HB hcell
        have HS : Aside0 (clauseB [x] a = isLit x a ∧ clauseB [-x] a = (!isLit x a) ∧ clauseB (ms ++ [x]) a = (clauseB ms a || isLit x a)) := ⟨by simp [clauseB], by simp [clauseB, hopp], by simp [clauseB, List.any_append]⟩
        clear hopp
        go_wp2_with fail
        have HQ := Clause_any (some ⟨w1.heap.size, 0, none⟩) 1 [x] A1 c1 a (w1.alloc (.cells #[.int .i64 x] 3)) (C_new_ints w1 [x] (by simp) 3) (Kd.C_below HA.out.1 ((HB1.out).trans ((bel_alloc w1 _).mono HB1.out.size)))
        rw [HS.out.1, HA.out.2.1] at HQ
        change Calls _ _ #[.slice (some ⟨w1.heap.size, 0, none⟩) 1 1, .slice A1 k c1] _ _ at HQ
        refine HQ.mono ?_
        rintro e w2 ⟨rfl, hb⟩
        have hb2 : Below w1.heap.size w1 w2 := below_after (bel_alloc w1 _) hb (Nat.le_refl _)
        have HB2 := Aside0.mk (below_after HB1.out hb2 (Nat.le_refl _))
        have HO2 := Aside0.mk (show w2.ownsRow w.heap.size 3 1 v1 (ms ++ [x]).length (nums .i64 (ms ++ [x])) from pw_own_below HO1.out.1 hb2)
        clear hb hb2 HQ
        go_wp2_with fail
        have HQ := Clause_any (some ⟨w2.heap.size, 0, none⟩) 1 [-x] A1 c1 a (w2.alloc (.cells #[.int .i64 (-x)] 3)) (C_new_ints w2 [-x] (by simp) 3) (Kd.C_below HA.out.1 ((HB2.out).trans ((bel_alloc w2 _).mono HB2.out.size)))
        rw [HS.out.2.1, HA.out.2.1] at HQ
        change Calls _ _ #[.slice (some ⟨w2.heap.size, 0, none⟩) 1 1, .slice A1 k c1] _ _ at HQ
        refine HQ.mono ?_
        rintro e w3 ⟨rfl, hb⟩
        have hb2 : Below w2.heap.size w2 w3 := below_after (bel_alloc w2 _) hb (Nat.le_refl _)
        have HB3 := Aside0.mk (below_after HB2.out hb2 (Nat.le_refl _))
        have HO3 := Aside0.mk (show w3.ownsRow w.heap.size 3 1 v1 (ms ++ [x]).length (nums .i64 (ms ++ [x])) ∧ v1.ownBlock ≠ none from ⟨pw_own_below HO2.out hb2, HO1.out.2⟩)
        have HNN : Aside0 ((!clauseB (ms ++ [x]) a) = (!clauseB ms a && !isLit x a)) := ⟨by rw [HS.out.2.2]; cases clauseB ms a <;> cases isLit x a <;> rfl⟩
        clear hb hb2 HQ HO1 HO2 HB1 HB2 HS
        generalize isLit x a = ix at *
        generalize clauseB ms a = cm at *
        obtain ⟨cn, hcn⟩ : ∃ cn, clauseB (ms ++ [x]) a = cn := ⟨_, rfl⟩
        have HCN := Aside0.mk hcn
        rw [hcn] at HNN
        clear hcn
        cases ix <;> cases cm
        all_goals
          go_wp2
          go_roundg (30 - kk - 1)
          case measure => omega
          case rel => exact ⟨kk + 1, ms ++ [x], by omega, by omega, by omega, by rw [HCN.out, HNN.out]; rfl, by go_num, HM2, HO3, HB3⟩
    · have hms := HM.out.2
      have HRD := Aside0.mk (own_reads HO.out.1 HO.out.2)
      obtain ⟨am, cmm, rfl, hmc, hmC⟩ := HRD.out
      have HSM : Aside0 (Small ms ∧ ms.length ≤ 30) := ⟨by rw [HM.out.1]; exact modL_small (by omega) (by omega) _, hms⟩
      have kM := Keeps.C hmC
      have kA : Keeps (fun W => Kd.bool.C W A1 a.length a) wr := ⟨fun W h => Kd.C_below HA.out.1 (HB.out.trans (h.mono HB.out.size))⟩
      have kL : Keeps Laid wr := ⟨fun W h => HL.out.1.below (HB.out.trans (h.mono HB.out.size))⟩
      have kB := Keeps.base HB.out (Nat.le_refl _)
      have HCL := fun W hW hA => Clause_any (some am) cmm ms A1 c1 a W hW hA
      have HRC := fun W hW hA => RClause_any (some am) cmm ms A1 c1 a W hW hmc hA (by rw [HA.out.2.1]; exact HA.out.2.2.2) (small_wf HSM.out.1) (by omega) (by rw [HA.out.2.1]; have := HA.out.2.2.1; omega)
      rw [HA.out.2.1] at HCL HRC kA
      clear hmC HRD HO hms HM
      generalize clauseB ms a = cb at *
      rcases Nat.lt_or_ge kk n with hkn | hkn
      · have e1 : decide ((kk : Int) < (n : Int)) = true := by simpa using hkn
        have e2 : decide ((kk : Int) < 30) = false := by simp; omega
        cases cb
        all_goals
          go_wp2_with fail
          refine (HCL wr kM.here kA.here).mono ?_
          rintro e w2 ⟨rfl, hb⟩
          replace kM := kM.step hb
          replace kA := kA.step hb
          replace kL := kL.step hb
          replace kB := kB.step hb
          clear hb
          go_wp2_with fail
          refine (HRC w2 kM.here kA.here).mono ?_
          rintro e w3 ⟨rfl, hb⟩
          replace kL := kL.step hb
          replace kB := kB.step hb
          clear hb
          go_wp2_with fail
          refine (fixed_any w3 kL.here).mono ?_
          rintro e w4 ⟨rfl, hb⟩
          have hfin := (kB.step hb).here
          go_wp2
          go_ret
          exact ⟨rfl, hfin⟩
      · have e1 : decide ((kk : Int) < (n : Int)) = false := by simp; omega
        cases cb
        all_goals
          go_wp2_with fail
          refine (HCL wr kM.here kA.here).mono ?_
          rintro e w2 ⟨rfl, hb⟩
          replace kM := kM.step hb
          replace kA := kA.step hb
          replace kL := kL.step hb
          replace kB := kB.step hb
          clear hb
          go_wp2_with fail
          refine (HRC w2 kM.here kA.here).mono ?_
          rintro e w3 ⟨rfl, hb⟩
          replace kL := kL.step hb
          replace kB := kB.step hb
          clear hb
          go_wp2_with fail
          refine (fixed_any w3 kL.here).mono ?_
          rintro e w4 ⟨rfl, hb⟩
          have hfin := (kB.step hb).here
          go_wp2
          go_ret
          exact ⟨rfl, hfin⟩
end Go.Proofs.YtjifancgekoenaaGreatDoor
