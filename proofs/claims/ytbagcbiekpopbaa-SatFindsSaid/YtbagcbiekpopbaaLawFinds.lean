/- SatFinds: for every input the law returns true, and the input reads behind the call as it read before (of at most 8 variables, 60 clauses of 12 literals). -/
import Derived.Test.YtbagcbiekpopbaaG8
namespace Go.Proofs.Ytbagcbiekpopbaa
open Go.RowKit Go.Shelf Go.Proofs.YtbagcbiekpopbaaW.PrintWords Go.Proofs.YtbagcbiekpopbaaW.PrintLast Go.Proofs.YtbagcbiekpopbaaW.PrintMore
attribute [local go_sem] max2_int min2_int max_two min_two max_three min_three max_four min_four
set_option linter.unusedVariables false
set_option linter.unusedSimpArgs false

set_option maxHeartbeats 8000000 in
set_option maxRecDepth 100000 in
theorem SatFinds_any (n : Int) (A : Option Addr) (c : Nat) (L : List (List Int)) (w : World) (hC : Kd.C kII w A L.length L) (hc : L.length ≤ c) (hW : WfL L) (hn : -9223372036854775808 ≤ n ∧ n ≤ 9223372036854775807) :
    Calls Try.prog 3 #[.agg #[.int .i64 n, .slice A L.length c]] w fun e w' => e = .returned (.bool true) ∧ Below w.heap.size w w' := by
  have HBd := Bound_any n A c L (w.alloc (.cells #[.int .i64 n, .slice A L.length c] 24)) (Kd.C_below hC (bel_alloc _ _)) hc
  have HW : Aside0 (WfL (boundL L) ∧ (∀ r ∈ boundL L, r.length ≤ 12) ∧ (boundL L).length ≤ 60) := ⟨boundL_wf hW, fun r hr => boundL_row hr, boundL_len L⟩
  obtain ⟨q, hq⟩ : ∃ q, min n 8 = q := ⟨_, rfl⟩
  obtain ⟨cnt, hcnt⟩ : ∃ cnt : Nat, max 0 q = (cnt : Int) := ⟨(max 0 q).toNat, by omega⟩
  have hcnt8 : cnt ≤ 8 := by omega
  have hq' : (if (8 : Int) < n then (8 : Int) else n) = q := by split <;> omega
  have hcnt' : (if (0 : Int) < q then q else 0) = (cnt : Int) := by split <;> omega
  clear hC hW hn
  go_enter Try.func3, Try.ntmps3
  go_wp2_with fail
  refine HBd.mono ?_
  clear HBd
  generalize boundL L = B at *
  rintro e W ⟨A', c', rfl, hS, hb⟩
  rw [show (w.alloc (.cells #[.int .i64 n, .slice A L.length c] 24)).heap.size = w.heap.size + 1 from by simp] at hS hb
  have hbox := box_later hb
  have HC := Aside0.mk (atS_store (n := n) hbox hS ((bel_alloc w _).trans (hb.mono (by omega))) (Nat.le_refl _))
  have k0 := blk_cellA hbox 0
  have k1 := blk_cellA hbox 1
  have l0 := blk_frozen hbox 0
  have l1 := blk_frozen hbox 1
  clear hS hb hbox
  go_wp2_with fail
  have HC2 := Aside0.mk (HC.out.setN (cnt : Int))
  clear k0 k1 l0 l1 HC hq hq' hcnt hcnt'
  generalize ((W.setCell ⟨w.heap.size, 0, none⟩ (.int .i64 n)).setCell ⟨w.heap.size, 1, none⟩ (.slice A' B.length c')).setCell ⟨w.heap.size, 0, none⟩ (.int .i64 (cnt : Int)) = W1 at *
  obtain ⟨g, hg⟩ : ∃ g, w.heap.size = g := ⟨_, rfl⟩
  have HG := Aside0.mk hg
  rw [hg] at HC2 ⊢
  clear hg
  obtain ⟨m, hm⟩ : ∃ m, B.length = m := ⟨_, rfl⟩
  have HM := Aside0.mk hm
  have k0 := HC2.out.c0
  have k1 := HC2.out.c1
  have hgW := HC2.out.lt
  rw [hm] at k1
  have HRN := HC2.out.rowsN HW.out.2.1
  obtain ⟨b, hb⟩ : ∃ b, ((3 ^ cnt : Nat) : Int) = b := ⟨_, rfl⟩
  have hb6561 : b ≤ 6561 := by
    have h1 : (3 : Nat) ^ cnt ≤ 3 ^ 8 := Nat.pow_le_pow_right (by omega) hcnt8
    have h2 : (3 : Nat) ^ 8 = 6561 := by decide
    omega
  have hb0 : 0 ≤ b := by rw [← hb]; exact Int.natCast_nonneg _
  have HEn : Aside0 (∀ X, Below W1.heap.size W1 X → Calls Try.prog 10 #[.agg #[.int .i64 (cnt : Int), .slice A' m c']] X fun e w' => e = .returned (.int .i64 b) ∧ Below X.heap.size X w') := ⟨fun X hX => by
    rw [← hb, ← HM.out]; exact Enough_any cnt (by omega) A' c' B X (HRN.below hX).C HRN.cap⟩
  have HSv : Aside0 (∀ X, Below W1.heap.size W1 X → Calls Try.prog 9 #[.agg #[.int .i64 (cnt : Int), .slice A' m c'], .int .i64 b] X (AnsOut X (solveR b (cnt : Int) B) (checkI (cnt : Int) B))) := ⟨fun X hX => by
    rw [← HM.out]; exact Solve_any (cnt : Int) b A' c' B X (HRN.below hX) (by omega) (by omega) (by have := HW.out.2.2; omega) HW.out.1⟩
  have HLaw : Aside0 ((checkI (cnt : Int) B ≠ 0 ∧ solveR b (cnt : Int) B = ⟨0, [], []⟩) ∨ (checkI (cnt : Int) B = 0 ∧ (∀ r ∈ B, ∀ x ∈ r, V cnt x) ∧ AnsLaw cnt B b (solveR b (cnt : Int) B))) := ⟨by
    by_cases h : checkI (cnt : Int) B = 0
    · obtain ⟨-, h2⟩ := solveR_run (budget := b) h hb0 (by omega) (by omega) (by have := HW.out.2.2; omega) HW.out.1
      obtain ⟨-, -, h3⟩ := check_V h HW.out.1
      exact .inr ⟨h, h3, h2.law (by omega) h3⟩
    · exact .inl ⟨h, solveR_bad (.inl h)⟩⟩
  have HB := Aside0.mk hb
  clear hb HRN
  generalize solveR b (cnt : Int) B = r at *
  generalize hck : checkI (cnt : Int) B = ck at *
  have HCK := Aside0.mk hck
  clear hck
  go_wp2
  go_region_held3 (fun w' => w'.cell? ⟨g, 0, none⟩ = some (.int .i64 (cnt : Int)) ∧ w'.cell? ⟨g, 1, none⟩ = some (.slice A' m c')) (first | go_keep | (go_split_ands; refine ⟨?_, ?_⟩ <;> first | (rw [hB.cell (p := ⟨g, 0, none⟩) hgW]; assumption) | (rw [hB.cell (p := ⟨g, 1, none⟩) hgW]; assumption))) (first
    | (go_at_call 10; refine (HEn.out _ ?_).mono ?_; (repeat' (first | exact Below.refl _ _ | assumption | refine pw_below_drewN ?_ _ | refine below_drew ?_)); rintro e w2 ⟨rfl, hb⟩; have hB : Below W1.heap.size W1 w2 := (by refine below_after ?_ hb (Nat.le_refl _); repeat' (first | exact Below.refl _ _ | assumption | refine pw_below_drewN ?_ _ | refine below_drew ?_)); clear hb)
    | (go_at_call 9; refine (HSv.out _ ?_).mono ?_; (repeat' (first | exact Below.refl _ _ | assumption | refine pw_below_drewN ?_ _ | refine below_drew ?_)); rintro e w2 ⟨A1, c1, A2, c2, rfl, hv, hc1, hp, hc2, hb⟩; have hB : Below W1.heap.size W1 w2 := (by refine below_after ?_ hb (Nat.le_refl _); repeat' (first | exact Below.refl _ _ | assumption | refine pw_below_drewN ?_ _ | refine below_drew ?_)); have HV := Aside0.mk (And.intro hv (And.intro hc1 (And.intro hp hc2))); clear hb hv hc1 hp hc2))
  all_goals
    have HR := Aside0.mk (HC2.out.below hB)
    have hgw2 : g < w2.heap.size := HR.out.lt
    have k0 := HR.out.c0
    have k1 := HR.out.c1
    rw [HM.out] at k1
    clear hB
    have HRk : Aside0 (∀ X, Below w2.heap.size w2 X → Calls Try.prog 11 #[.agg #[.int .i64 (cnt : Int), .slice A' m c']] X fun e w' => e = .returned (.int .i64 ck) ∧ Below X.heap.size X w') := ⟨fun X hX => by
      have hR := (HR.out.below hX).rowsN HW.out.2.1
      rw [← HCK.out, ← HM.out]; exact RCheck_any (cnt : Int) A' c' B X hR.C hR.cap HW.out.1 HW.out.2.1 (by have := HW.out.2.2; omega)⟩
    have hne : (ck != ck) = false := by simp
    rcases HLaw.out with ⟨hck, rfl⟩ | ⟨hck, hVV, hlaw⟩
    · have he : (ck != 0) = true := by simpa using hck
      go_wp2_with (first
        | (go_at_call 11; refine (HRk.out _ (Below.refl _ _)).mono ?_; rintro e w3 ⟨rfl, hb3⟩; have HB3 := Aside0.mk hb3; clear hb3)
        | (go_at_call 12; refine (fixed_any _).mono ?_; rintro e w4 ⟨rfl, hb4⟩; have HB4 := Aside0.mk (below_then HB3.out HB3.out.size hb4); clear hb4))
      go_ret
      exact ⟨rfl, below_then HR.out.bel HR.out.bel.size HB4.out⟩
    · obtain ⟨what, vals, pf⟩ := r
      subst hck
      have HVV := Aside0.mk hVV
      clear hVV
      rcases hlaw with ⟨_, _, _, h⟩ | ⟨h1, h2, h3, h4⟩ | ⟨h1, h2, h3, h4, h5, h6, h7⟩
      · have e3 : ((3 ^ cnt : Nat) : Int) = (3 : Int) ^ cnt := by simp
        have := HB.out
        omega
      · simp only at h1 h2 h3 h4
        subst h1 h3
        have HTr : Aside0 (∀ X, Below w2.heap.size w2 X → Calls Try.prog 13 #[.agg #[.int .i64 (cnt : Int), .slice A' m c'], .slice A1 cnt c1] X fun e w' => e = .returned (.bool true) ∧ Below X.heap.size X w') := ⟨fun X hX => by
          have hR := (HR.out.below hX).rowsN HW.out.2.1
          have := RTrue_any (cnt : Int) A' c' B A1 c1 vals X hR.C hR.cap (Kd.C_below HV.out.1 hX) HV.out.2.1 HW.out.1 HW.out.2.1 (by have := HW.out.2.2; omega) (by omega)
          rw [h4, HM.out, h2] at this
          exact this⟩
        rw [h2]
        go_wp2_with (first
          | (go_at_call 11; refine (HRk.out _ (Below.refl _ _)).mono ?_; rintro e w3 ⟨rfl, hb3⟩; have q0 := (hb3.cell (p := ⟨g, 0, none⟩) hgw2).trans k0; have q1 := (hb3.cell (p := ⟨g, 1, none⟩) hgw2).trans k1; have HT3 := HTr.out w3 hb3; have HB3 := Aside0.mk hb3; clear hb3)
          | (go_at_call 13; refine HT3.mono ?_; rintro e w4 ⟨rfl, hb4⟩; have HB4 := Aside0.mk (below_then HB3.out HB3.out.size hb4); clear hb4)
          | (go_at_call 12; refine (fixed_any _).mono ?_; rintro e w5 ⟨rfl, hb5⟩; have HB5 := Aside0.mk (below_then HB4.out HB4.out.size hb5); clear hb5))
        go_ret
        exact ⟨rfl, below_then HR.out.bel HR.out.bel.size HB5.out⟩
      · simp only at h1 h2 h3 h4 h5 h6
        subst h1 h2
        obtain ⟨q', hq'⟩ := h3
        obtain ⟨p', hp'⟩ : ∃ p', q'.length = p' := ⟨_, rfl⟩
        have hpl : pf.length = p' + 1 := by rw [hq', List.length_append, hp']; rfl
        have hany : pf.any List.isEmpty = true := by rw [hq']; simp
        have hlast : pf[p']! = [] := by rw [hq', ← hp']; simp
        have hp9 : p' + 1 ≤ 6561 := by omega
        have HPc : Aside0 (∀ X, Below w2.heap.size w2 X → Calls Try.prog 14 #[.agg #[.int .i64 (cnt : Int), .slice A' m c'], .slice A2 (p' + 1) c2] X fun e w' => e = .returned (.tuple #[.int .i64 ((p' + 1 : Nat) : Int), .bool true]) ∧ Below X.heap.size X w') := ⟨fun X hX => by
          have hR := (HR.out.below hX).rowsN HW.out.2.1
          have hmul : (2 * cnt + 1) * (B.length + pf.length) ≤ 17 * 7000 := Nat.mul_le_mul (by omega) (by have := HW.out.2.2; omega)
          have := PCheck_any (n := cnt) (by omega) (2 * cnt + 1) (cnt : Int) B pf A' c' A2 c2 X hR.C hR.cap (Kd.C_below HV.out.2.2.1 hX) HV.out.2.2.2 (fun l hl => ⟨by have := HW.out.2.1 l hl; omega, HVV.out l hl⟩) (fun l hl => ⟨by have := (h6 l hl).1; omega, (h6 l hl).2⟩) (by omega) (by have := HW.out.2.2; omega)
            (fun i C hi => follows_rup (n := cnt) (fun l hl => by
              rcases List.mem_append.1 hl with h | h
              · exact HVV.out l h
              · exact (h6 l (List.mem_of_mem_take h)).2) (h4 i C hi))
          rw [hany, hpl, HM.out] at this
          exact this⟩
        have HAn : Aside0 (∀ X, Below w2.heap.size w2 X → Calls Try.prog 15 #[.agg #[.int .i64 (cnt : Int), .slice A' m c']] X fun e w' => e = .returned (.bool false) ∧ Below X.heap.size X w') := ⟨fun X hX => by
          have hR := (HR.out.below hX).rowsN HW.out.2.1
          have := Any_any cnt (by omega) A' c' B X hR.C hR.cap HW.out.2.1 HW.out.1 (by have := HW.out.2.2; omega) h7
          rw [HM.out] at this
          exact this⟩
        obtain ⟨b0, o0, rfl, hbl, hrow⟩ := C_rows HV.out.2.2.1 (by simp only; omega)
        obtain ⟨Ar, cr, hcell, -, -⟩ := hrow p' (by simp only; omega)
        simp only at hcell
        rw [hlast, List.length_nil] at hcell
        have HCell : Aside0 (∀ X, Below w2.heap.size w2 X → X.cell? ⟨b0, o0 + p', none⟩ = some (.slice Ar 0 cr)) := ⟨fun X hX => (hX.cell (World.block_lt_of_cell? w2 _ hcell)).trans hcell⟩
        have hc2p : p' + 1 ≤ c2 := by have := HV.out.2.2.2; simp only at this; omega
        rw [hpl]
        clear h4 h5 h6 h7 hrow hcell hany hlast hpl hp' hq'
        have hd0 : decide ((0 : Int) < ((p' + 1 : Nat) : Int)) = true := by simp
        have hi1 : (p' : Int) < ((p' + 1 : Nat) : Int) := by omega
        have hi2 : ((p' + 1 : Nat) : Int) - 1 = (p' : Int) := by omega
        go_wp2_with (first
          | (go_at_call 11; refine (HRk.out _ (Below.refl _ _)).mono ?_; rintro e w3 ⟨rfl, hb3⟩; have q0 := (hb3.cell (p := ⟨g, 0, none⟩) hgw2).trans k0; have q1 := (hb3.cell (p := ⟨g, 1, none⟩) hgw2).trans k1; have HP3 := HPc.out w3 hb3; have HB3 := Aside0.mk hb3; clear hb3)
          | (go_at_call 14; refine HP3.mono ?_; rintro e w4 ⟨rfl, hb4⟩; have hb24 := below_then HB3.out HB3.out.size hb4; have r0 := (hb24.cell (p := ⟨g, 0, none⟩) hgw2).trans k0; have r1 := (hb24.cell (p := ⟨g, 1, none⟩) hgw2).trans k1; have HA4 := HAn.out w4 hb24; have HB4 := Aside0.mk hb24; clear hb4 hb24)
          | (go_at_call 15; refine HA4.mono ?_; rintro e w5 ⟨rfl, hb5⟩; have hb25 := below_then HB4.out HB4.out.size hb5; have s0 := HCell.out w5 hb25; have HB5 := Aside0.mk hb25; clear hb5 hb25)
          | (go_at_call 12; refine (fixed_any _).mono ?_; rintro e w6 ⟨rfl, hb6⟩; have HB6 := Aside0.mk (below_then HB5.out HB5.out.size hb6); clear hb6))
        go_ret
        exact ⟨rfl, below_then HR.out.bel HR.out.bel.size HB6.out⟩
end Go.Proofs.Ytbagcbiekpopbaa

namespace Go.Proofs.Ytbagcbiekpopbaa
open Go.ChangeShapes Go.WideShapes Go.ChangeAt Go.RowKit Go.Proofs.YtbagcbiekpopbaaW.PrintWords Go.Proofs.YtbagcbiekpopbaaW.PrintLast
set_option linter.unusedVariables false
set_option linter.unusedSimpArgs false
set_option linter.constructorNameAsVariable false
set_option maxRecDepth 100000

theorem satFinds_reads (os : Os) {H : Type} (enc : TypeId × Value → H) :
    ∃ ds, ∃ places, DataW.whole enc Try.prog ((World.doorLaid Try.prog 400 os).forCall (fun _ _ => 0) ⟨#[], #[.agg #[.int .i64 0, .slice none 0 0]], []⟩).memory Try.f3.params.toList Rows.satFindsSpec.vars false (#[.agg #[.int .i64 0, .slice none 0 0]] : Array Value).toList 8 = some ([.agg [.lit (.int .i64 0), .nil]], ds, places) :=
  ⟨[], [], by kernel_rfl⟩
theorem satFinds_lifted (os : Os) (started : os.Started) (H : Type) (enc : TypeId × Value → H) (F : Stop.Interp) :
    ReturnsInHanded {} Try.checked os 3 .any ((OpenSpec.ofChange Rows.satFindsSpec).preRow enc Try.prog Try.f3 Rows.satFindsRow.domain false Rows.satFindsRow.laid) (((OpenSpec.ofChange Rows.satFindsSpec).at F).post enc Try.prog Try.f3 false true false false) := by
  obtain ⟨gs0, places, hx⟩ := satFinds_reads os enc
  refine returnsInHanded_of_row (C := Try.checked) (s := OpenSpec.ofChange Rows.satFindsSpec) own started (by kernel_rfl) Try.func3
    (witness_row_atRef (enc := enc) (C := Try.checked) false (World.doorLaid Try.prog 400 os) #[.agg #[.int .i64 0, .slice none 0 0]] rfl (by kernel_rfl) (by kernel_rfl) (by kernel_rfl)
      (OpenSpec.preRow_of_cond 8 hx (by kernel_rfl) (fun k hk => by cases hk) (by kernel_rfl) (door_met os _))) ?_
  intro W base args ds gs before hval0 hW _ _ _ hL hsh _
  have hval : ∀ (j : Nat) t v, Try.f3.params[j]? = some t → args[j]? = some v → Value.okWide Try.prog W .any base t v := hval0
  have hW' := hW
  obtain ⟨p, q, hA0, hV, rfl, hfz, hnd⟩ := hW
  have hA : DataW.TrodAll enc Try.prog W 0 (fun _ => true) true Try.f3.params.toList args.toList ds p := hA0
  rw [Try.params3] at hA hval
  obtain ⟨v0, d0, rfl, rfl, h0⟩ := trodAll_one hA
  obtain ⟨rfl, rfl⟩ := trodVars_none hV
  clear hA0 hval0
  simp only [List.append_nil] at hW'
  have hlt : ∀ x ∈ p, x.block < W.heap.size := fun x hx => by simpa using hW'.lt x (by simpa using hx)
  obtain ⟨n0, A0, c0, L0, rfl, hn0, hC0, hc0, hWf0⟩ := openCnf (hval 0 24 v0 rfl rfl) h0
  refine (SatFinds_any n0 A0 c0 L0 W hC0 hc0 hWf0 hn0).mono ?_
  rintro e W' ⟨rfl, hb⟩
  exact ⟨_, rfl, _, _, _, [], _, [], hW', trodAll_mk1 (shut_bool Try.underlying4 _), trodAll_mk1 (Below.trod laidOut (by kernel_rfl) (of_decide_eq_true (by kernel_rfl)) h0 hb hlt), rfl, hb.frame _, fun h => by cases h⟩
theorem satFinds_said : Rows.SatFindsSaid :=
  OpenClaim.holds_of_cond 3 Try.f3 rfl rfl rfl rfl rfl rfl rfl ⟨rfl, rfl, rfl, rfl, rfl⟩ rfl rfl rfl rfl rfl (by kernel_rfl) Try.func3 (by kernel_rfl)
    (of_decide_eq_true (by kernel_rfl)) (by unfold Func.isWrapper; first | (rw [if_pos (by decide +kernel)]; kernel_rfl) | (rw [if_neg (by decide +kernel)]; exact ⟨rfl, rfl⟩))
    (fun os started H enc _ F => by rw [OpenClaim.pre_eq_preRow]; exact satFinds_lifted os started H enc F)
#print axioms satFinds_said
end Go.Proofs.Ytbagcbiekpopbaa
