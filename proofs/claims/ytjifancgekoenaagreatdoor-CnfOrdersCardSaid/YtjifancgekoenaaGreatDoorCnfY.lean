import Derived.Test.YtjifancgekoenaaGreatDoorCnfX
namespace Go.Proofs.YtjifancgekoenaaGreatDoor
open Go.RowKit Go.Proofs.YtjifancgekoenaaGreatDoorW.PrintWords Go.Proofs.YtjifancgekoenaaGreatDoorW.PrintLast
set_option linter.unusedVariables false
set_option linter.unusedSimpArgs false

theorem infoB : (Tryz.prog.info? 4).map (fun i => (i.zero, i.size, i.bytes)) = some (some (.bool false), 1, 1) := by kernel_rfl
set_option maxHeartbeats 4000000 in
set_option maxRecDepth 100000 in
theorem CnfOrders_any (A : Option Addr) (c : Nat) (l : List Int) (A1 : Option Addr) (c1 : Nat) (a0 : List Bool) (w : World) (hC : Kd.C kI w A l.length l) (hc : l.length ≤ c) (hW : Wf l)
    (ha0 : Kd.C Kd.bool w A1 a0.length a0) (hca : a0.length ≤ c1) (hL : Laid w) :
    Calls Tryz.prog 8 #[.slice A l.length c, .slice A1 a0.length c1] w fun e w' => e = .returned (.bool true) ∧ Below w.heap.size w w' := by
  obtain ⟨k, hk1⟩ : ∃ k : Nat, min a0.length 100 = k := ⟨_, rfl⟩
  have ha9 : a0.length ≤ 9223372036854775807 := C_max ha0
  have hk2 : (k : Int) ≤ (c1 : Int) := by omega
  have hmin : (if (100 : Int) < (a0.length : Int) then (100 : Int) else (a0.length : Int)) = (k : Int) := by split <;> omega
  have hmin2 : min (a0.length : Int) 100 = (k : Int) := by omega
  obtain ⟨a, hae⟩ : ∃ a, a0.take k = a := ⟨_, rfl⟩
  have hal : a.length = k := by rw [← hae, List.length_take]; omega
  have HA : Aside0 (Kd.C Kd.bool w A1 a.length a ∧ a.length = k ∧ k ≤ 100 ∧ k ≤ c1) := ⟨by rw [hal, ← hae]; exact C_take ha0 (by omega), hal, by omega, by omega⟩
  obtain ⟨n, hn⟩ : ∃ n, l.length = n := ⟨_, rfl⟩
  have hn9 : n ≤ 9223372036854775807 := by rw [← hn]; exact C_max hC
  have HL : Aside0 (Laid w ∧ Kd.C kI w A l.length l ∧ l.length = n) := ⟨hL, hC, hn⟩
  rw [hn]
  clear hC hW hL ha0 hae hal hk1 hc hn
  go_enter Tryz.func8, Tryz.ntmps8
  go_wp2_with fail
  clear hmin hmin2 hk2 ha9 hca
  go_loopg [5, 6] 30 (fun gg s5 s6 wr => ∃ (kk : Nat) (ms : List Int), kk ≤ n ∧ kk ≤ 30 ∧ 30 - kk ≤ gg ∧ s6 = .int .i64 kk ∧ Aside0 (ms = modL 100 (l.take kk) ∧ ms.length ≤ 30) ∧ Aside0 (wr.ownsRow w.heap.size 3 1 s5 ms.length (nums .i64 ms) ∧ s5.ownBlock ≠ none) ∧ Aside0 (Below w.heap.size w wr))
  case atStart => exact ⟨0, [], by omega, by omega, by omega, rfl, ⟨by simp [modL], by simp⟩, ⟨own_empty w 3, by simp [Value.ownBlock]⟩, ⟨bel_alloc _ _⟩⟩
  case round =>
    obtain ⟨kk, ms, h1, h2, h3, rfl, HM, HO, HB⟩ := hrel
    by_cases hlt : kk < n ∧ kk < 30
    · have hlt2 : decide ((kk : Int) < (n : Int)) = true := by simpa using hlt.1
      have hlt3 : decide ((kk : Int) < 30) = true := by have := hlt.2; simp; omega
      obtain ⟨b, off, rfl, hcl⟩ := C_ints HL.out.2.1 (by rw [HL.out.2.2]; omega)
      have hcell := (HB.out.cell (World.block_lt_of_cell? w _ (hcl kk (by rw [HL.out.2.2]; exact hlt.1)))).trans (hcl kk (by rw [HL.out.2.2]; exact hlt.1))
      clear hcl
      have HX : Aside0 (modL 100 (l.take (kk + 1)) = modL 100 (l.take kk) ++ (if l[kk]!.tmod 100 = 0 then [] else [l[kk]!.tmod 100])) := by
        have hkl : kk < l.length := by rw [HL.out.2.2]; exact hlt.1
        exact ⟨by rw [List.take_succ_eq_append_getElem hkl, modL_snoc, getElem!_pos l kk hkl]⟩
      generalize l[kk]! = y at *
      by_cases hz : y.tmod 100 = 0
      · have hz1 : (y.tmod 100 == 0) = true := by simpa using hz
        have hz2 : (y.tmod 100 != 0) = false := by simpa using hz
        have HM2 : Aside0 (ms = modL 100 (l.take (kk + 1)) ∧ ms.length ≤ 30) := ⟨by rw [HX.out, if_pos hz, List.append_nil]; exact HM.out.1, HM.out.2⟩
        go_wp2
        go_roundg (30 - kk - 1)
        case measure => omega
        case rel => exact ⟨kk + 1, ms, by omega, by omega, by omega, by go_num, HM2, HO, HB⟩
      · have hz1 : (y.tmod 100 == 0) = false := by simpa using hz
        have hz2 : (y.tmod 100 != 0) = true := by simpa using hz
        have HM2 : Aside0 (ms ++ [y.tmod 100] = modL 100 (l.take (kk + 1)) ∧ (ms ++ [y.tmod 100]).length ≤ 30) := ⟨by rw [HX.out, if_neg hz, HM.out.1], by
          have e : ms ++ [y.tmod 100] = modL 100 (l.take (kk + 1)) := by rw [HX.out, if_neg hz, HM.out.1]
          rw [e]
          have := modL_len 100 (l.take (kk + 1))
          rw [List.length_take] at this
          omega⟩
        clear HX hz HM
        obtain ⟨x, hx⟩ : ∃ x, y.tmod 100 = x := ⟨_, rfl⟩
        rw [hx] at hz1 hz2 HM2
        go_wp2_with (at_builtin; refine print_append_num (w0 := w) w.heap.size rfl (.tmp 36) (.tmp 38) 22 3 .i64 8 rfl Tryz.underlying22 infoI (by decide) u5 ms x rfl rfl ?aO ?aB ?aS ?aL ?_)
        case aO => exact HO.out.1
        case aB => exact HB.out
        case aS => exact HB.out.size
        case aL => have := HM2.out.2; simp at this; omega
        intro v1 w1 hown hb1 hg1 hat1
        have HO1 := Aside0.mk (show w1.ownsRow w.heap.size 3 1 v1 (ms ++ [x]).length (nums .i64 (ms ++ [x])) ∧ v1.ownBlock ≠ none from ⟨by rw [List.length_append]; exact hown, by
          rcases hat1 with h | ⟨b, h, _⟩
          · rw [h]; exact HO.out.2
          · rw [h]; simp⟩)
        have HB1 := Aside0.mk hb1
        clear hown hb1 hg1 hat1 HO HB hcell
        go_wp2
        go_roundg (30 - kk - 1)
        case measure => omega
        case rel => exact ⟨kk + 1, ms ++ [x], by omega, by omega, by omega, by go_num, HM2, HO1, HB1⟩
    · obtain ⟨am, cmm, rfl, hmc, hmC⟩ := own_reads HO.out.1 HO.out.2
      have HSM : Aside0 (Small ms ∧ ms.length ≤ 30) := ⟨by rw [HM.out.1]; exact modL_small (by omega) (by omega) _, HM.out.2⟩
      have kM := Keeps.C hmC
      have kA : Keeps (fun W => Kd.bool.C W A1 a.length a) wr := ⟨fun W h => Kd.C_below HA.out.1 (HB.out.trans (h.mono HB.out.size))⟩
      have kL : Keeps Laid wr := ⟨fun W h => HL.out.1.below (HB.out.trans (h.mono HB.out.size))⟩
      have kB := Keeps.base HB.out (Nat.le_refl _)
      rw [HA.out.2.1] at kA
      clear hmC HO HM
      have e0 : (kk < n ∧ decide ((kk : Int) < (n : Int)) = true ∧ decide ((kk : Int) < 30) = false) ∨ (¬ kk < n ∧ decide ((kk : Int) < (n : Int)) = false) := by
        rcases Nat.lt_or_ge kk n with hkn | hkn
        · left; simp; omega
        · right; simp; omega
      rcases e0 with ⟨e3, e1, e2⟩ | ⟨e3, e1⟩
      all_goals
        go_wp2_with fail
        refine (Plain_any am cmm ms wr kM.here (by have := HSM.out.2; omega)).mono ?_
        rintro e w2 ⟨Ap, cp, p, rfl, hp, hpl, hpc, ⟨ap, rfl⟩, hpC, hb⟩
        have kP := Keeps.C hpC
        replace kM := kM.step hb
        replace kA := kA.step hb
        replace kL := kL.step hb
        replace kB := kB.step hb
        clear hb hpC
        go_wp2_with fail
        refine (Plain_any ap cp p w2 kP.here (by have := HSM.out.2; omega)).mono ?_
        rintro e w3 ⟨Aq, cq, q, rfl, hq, hql, hqc, ⟨aq, rfl⟩, hqC, hb⟩
        obtain rfl := hq.unique hp.again
        have kQ := Keeps.C hqC
        replace kM := kM.step hb
        replace kA := kA.step hb
        replace kL := kL.step hb
        replace kB := kB.step hb
        replace kP := kP.step hb
        clear hb hqC
        go_wp2_with (at_builtin; refine print_append_row_of Value.bool false (w0 := w3) w3.heap.size rfl (.tmp 50) (.tmp 51) 23 4 (.bool false) 1 rfl Tryz.underlying23 infoB rfl (by decide) (fun _ => rfl) (.slice (some ⟨w3.heap.size, 0, none⟩) 0 0) [] a A1 k c1 rfl rfl ?aO ?aR ?aB ?aS ?aL ?_)
        case aO => exact own_empty w3 4
        case aR => exact Kd.reads_of_C (kA.step (bel_alloc w3 _)).here
        case aB => exact bel_alloc w3 _
        case aS => simp
        case aL => have := HA.out.2.2.1; simp; omega
        intro v1 w4 hown hb hg1 hat1
        have HO1 := Aside0.mk (show w4.ownsRow w3.heap.size 4 1 v1 a.length (encs Value.bool a) from hown)
        have HB4 := Aside0.mk hb
        have HV1 := Aside0.mk (show v1.ownBlock ≠ none from by
          rcases hat1 with h | ⟨b, h, _⟩
          · rw [h]; simp [Value.ownBlock]
          · rw [h]; simp)
        clear hown hb hg1 hat1
        go_wp2_with (at_builtin; refine print_append_of Value.bool (w0 := w3) w3.heap.size rfl (.tmp 53) (.tmp 54) 23 4 (.bool false) 1 rfl Tryz.underlying23 infoB rfl (by decide) v1 a false rfl rfl rfl ?aO ?aB ?aS ?aL ?_)
        case aO => exact HO1.out
        case aB => exact HB4.out
        case aS => exact HB4.out.size
        case aL => have := HA.out.2.1; have := HA.out.2.2.1; omega
        intro v2 w5 hown hb hg1 hat1
        have hv2 : v2.ownBlock ≠ none := by
          rcases hat1 with h | ⟨b, h, _⟩
          · rw [h]; exact HV1.out
          · rw [h]; simp
        have hR2 : ∃ a2 c2, v2 = .slice (some a2) (a ++ [false]).length c2 ∧ Kd.C Kd.bool w5 (some a2) (a ++ [false]).length (a ++ [false]) := by
          rcases hown.2 with ⟨rfl, _⟩ | ⟨g, cap, cur, rfl, _, _, h3, h4, _⟩
          · exact absurd rfl hv2
          · refine ⟨⟨g, 0, none⟩, cap, by simp, C_of_bools (by rw [List.length_append]; simp; have := HA.out.2.1; have := HA.out.2.2.1; omega) (fun j y hj => ?_)⟩
            have := hown.cells (g := g) rfl j (.bool y) (by
              unfold encs
              rw [List.getElem?_map, hj]; rfl)
            rw [add_plain] at this
            simpa using this
        obtain ⟨a2, c2, rfl, hC2⟩ := hR2
        have kZ := Keeps.C hC2
        replace kM := kM.step hb
        replace kA := kA.step hb
        replace kL := kL.step hb
        replace kB := kB.step hb
        replace kP := kP.step hb
        replace kQ := kQ.step hb
        have HCM := Aside0.mk (show clauseB q a = clauseB ms a ∧ clauseB ms (a ++ [false]) = clauseB ms a ∧ (oppI q = false → clauseB ms a = true) from ⟨clause_same a hp.mem, clause_more a HSM.out.1, fun h => opp_holds a hp HSM.out.1 h⟩)
        have HCL := fun W hW hA => Clause_any (some am) cmm ms A1 c1 a W hW hA
        have HCP := fun W hW hA => Clause_any (some ap) cp q A1 c1 a W hW hA
        have HCZ := fun W hW hA => Clause_any (some am) cmm ms (some a2) c2 (a ++ [false]) W hW hA
        rw [HCM.out.1] at HCP
        rw [HCM.out.2.1] at HCZ
        rw [HA.out.2.1] at HCL HCP
        clear hown hb hg1 hat1 hv2 hC2 HO1 HB4 HV1
        have HOC := Aside0.mk HCM.out.2.2
        clear HCM
        generalize clauseB ms a = cb at *
        generalize (a ++ [false]).length = zl at *
        go_wp2_with fail
        refine (HCP w5 kP.here kA.here).mono ?_
        rintro e w6 ⟨rfl, hb⟩
        replace kM := kM.step hb
        replace kA := kA.step hb
        replace kL := kL.step hb
        replace kB := kB.step hb
        replace kP := kP.step hb
        replace kQ := kQ.step hb
        replace kZ := kZ.step hb
        clear hb
        go_wp2_with fail
        refine (HCL w6 kM.here kA.here).mono ?_
        rintro e w7 ⟨rfl, hb⟩
        replace kM := kM.step hb
        replace kA := kA.step hb
        replace kL := kL.step hb
        replace kB := kB.step hb
        replace kP := kP.step hb
        replace kQ := kQ.step hb
        replace kZ := kZ.step hb
        clear hb
        have hcb : (cb == cb) = true := by simp
        go_wp2_with fail
        refine (Nums_any (some ap) (some aq) cp cq q q w7 kP.here kQ.here).mono ?_
        rintro e w8 ⟨rfl, qn, rfl⟩
        rw [show decide (q = q) = true from by simp]
        have hb := bel_drewN w7 qn
        replace kM := kM.step hb
        replace kA := kA.step hb
        replace kL := kL.step hb
        replace kB := kB.step hb
        replace kZ := kZ.step hb
        clear hb
        generalize w7.drewN qn = w8 at *
        cases hoq : oppI q
        · have hcb1 := HOC.out hoq
          subst hcb1
          go_wp2_with fail
          refine (HCL w8 kM.here kA.here).mono ?_
          rintro e w9 ⟨rfl, hb⟩
          replace kM := kM.step hb
          replace kA := kA.step hb
          replace kL := kL.step hb
          replace kB := kB.step hb
          replace kZ := kZ.step hb
          clear hb
          go_wp2_with fail
          refine (HCZ w9 kM.here kZ.here).mono ?_
          rintro e w10 ⟨rfl, hb⟩
          replace kM := kM.step hb
          replace kA := kA.step hb
          replace kL := kL.step hb
          replace kB := kB.step hb
          clear hb
          go_wp2_with fail
          refine (HCL w10 kM.here kA.here).mono ?_
          rintro e w11 ⟨rfl, hb⟩
          replace kL := kL.step hb
          replace kB := kB.step hb
          clear hb
          go_wp2_with fail
          refine (fixed_any w11 kL.here).mono ?_
          rintro e w12 ⟨rfl, hb⟩
          have hfin := (kB.step hb).here
          go_wp2
          go_ret
          exact ⟨rfl, hfin⟩
        · clear HOC
          go_wp2_with fail
          refine (HCZ w8 kM.here kZ.here).mono ?_
          rintro e w10 ⟨rfl, hb⟩
          replace kM := kM.step hb
          replace kA := kA.step hb
          replace kL := kL.step hb
          replace kB := kB.step hb
          clear hb
          go_wp2_with fail
          refine (HCL w10 kM.here kA.here).mono ?_
          rintro e w11 ⟨rfl, hb⟩
          replace kL := kL.step hb
          replace kB := kB.step hb
          clear hb
          go_wp2_with fail
          refine (fixed_any w11 kL.here).mono ?_
          rintro e w12 ⟨rfl, hb⟩
          have hfin := (kB.step hb).here
          go_wp2
          go_ret
          exact ⟨rfl, hfin⟩
end Go.Proofs.YtjifancgekoenaaGreatDoor
