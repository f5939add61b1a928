/- SatHidden: for every input the law returns true, and the input reads behind the call as it read before (of at most 8 variables, 60 clauses of 12 literals). -/
import Derived.Test.YtbagcbiekpopbaaG8
namespace Go.Proofs.Ytbagcbiekpopbaa
open Go.RowKit Go.Shelf Go.Proofs.YtbagcbiekpopbaaW.PrintWords Go.Proofs.YtbagcbiekpopbaaW.PrintLast Go.Proofs.YtbagcbiekpopbaaW.PrintMore
attribute [local go_sem] max2_int min2_int max_two min_two max_three min_three max_four min_four
set_option linter.unusedVariables false
set_option linter.unusedSimpArgs false

set_option maxHeartbeats 8000000 in
set_option maxRecDepth 100000 in
theorem SatHidden_any (n : Int) (A : Option Addr) (c : Nat) (L : List (List Int)) (A1 : Option Addr) (c1 : Nat) (a : List Bool) (w : World) (hC : Kd.C kII w A L.length L) (hc : L.length ≤ c) (hW : WfL L) (hn : -9223372036854775808 ≤ n ∧ n ≤ 9223372036854775807)
    (hCa : Kd.C Kd.bool w A1 a.length a) (hca : a.length ≤ c1) :
    Calls Try.prog 5 #[.agg #[.int .i64 n, .slice A L.length c], .slice A1 a.length c1] w fun e w' => e = .returned (.bool true) ∧ Below w.heap.size w w' := by
  have HBd := Bound_any n A c L (w.alloc (.cells #[.int .i64 n, .slice A L.length c] 24)) (Kd.C_below hC (bel_alloc _ _)) hc
  have HW : Aside0 (WfL (boundL L) ∧ (∀ r ∈ boundL L, r.length ≤ 12) ∧ (boundL L).length ≤ 60) := ⟨boundL_wf hW, fun r hr => boundL_row hr, boundL_len L⟩
  have HCa := Aside0.mk (And.intro hCa hca)
  obtain ⟨al, hal⟩ : ∃ al, a.length = al := ⟨_, rfl⟩
  have HAL := Aside0.mk hal
  rw [hal]
  obtain ⟨q, hq⟩ : ∃ q, min n 8 = q := ⟨_, rfl⟩
  obtain ⟨cnt, hcnt⟩ : ∃ cnt : Nat, max 0 q = (cnt : Int) := ⟨(max 0 q).toNat, by omega⟩
  have hcnt8 : cnt ≤ 8 := by omega
  have hq' : (if (8 : Int) < n then (8 : Int) else n) = q := by split <;> omega
  have hcnt' : (if (0 : Int) < q then q else 0) = (cnt : Int) := by split <;> omega
  clear hC hW hn hCa hca hal
  go_enter Try.func5, Try.ntmps5
  go_wp2_with fail
  refine HBd.mono ?_
  clear HBd
  generalize boundL L = B at *
  rintro e W ⟨A', c', rfl, hS, hb⟩
  rw [show (w.alloc (.cells #[.int .i64 n, .slice A L.length c] 24)).heap.size = w.heap.size + 1 from by simp] at hS hb
  have hbox := box_later hb
  have HC := Aside0.mk ((atS_store (n := n) hbox hS ((bel_alloc w _).trans (hb.mono (by omega))) (Nat.le_refl _)).setN (cnt : Int))
  have k0 := blk_cellA hbox 0
  have k1 := blk_cellA hbox 1
  have l0 := blk_frozen hbox 0
  have l1 := blk_frozen hbox 1
  clear hS hb hbox
  obtain ⟨g, hg⟩ : ∃ g, w.heap.size = g := ⟨_, rfl⟩
  have HG := Aside0.mk hg
  rw [hg] at k0 k1 l0 l1 HC ⊢
  clear hg
  obtain ⟨m, hm⟩ : ∃ m, B.length = m := ⟨_, rfl⟩
  have HM := Aside0.mk hm
  rw [hm] at HC ⊢
  clear hm
  go_wp2_with fail
  clear k0 k1 l0 l1 hq' hq hcnt hcnt'
  generalize ((W.setCell ⟨g, 0, none⟩ (.int .i64 n)).setCell ⟨g, 1, none⟩ (.slice A' m c')).setCell ⟨g, 0, none⟩ (.int .i64 (cnt : Int)) = W1 at *
  have HCk : Calls Try.prog 17 #[.agg #[.int .i64 (cnt : Int), .slice A' m c']] W1 fun e w' => e = .returned (.int .i64 (checkI (cnt : Int) B)) ∧ Below W1.heap.size W1 w' := by
    have hR := HC.out.rowsN HW.out.2.1
    rw [← HM.out]; exact Check_any (cnt : Int) A' c' B W1 hR.C
  generalize hck : checkI (cnt : Int) B = ck at *
  have HCK := Aside0.mk hck
  clear hck
  refine HCk.mono ?_
  rintro e w2 ⟨rfl, hb2⟩
  have HR := Aside0.mk (HC.out.below hb2)
  clear HCk HC hb2
  by_cases h0 : ck = 0
  · subst h0
    have HVV := Aside0.mk (check_V HCK.out HW.out.1).2.2
    have HRN := Aside0.mk (HR.out.rowsN HW.out.2.1)
    have k1 := HR.out.c1
    have hgW := HR.out.lt
    rw [HM.out] at k1
    go_wp2
    clear k1
    have hm60 : m ≤ 60 := by have := HW.out.2.2; rw [HM.out] at this; exact this
    go_loopg [5, 6] m (fun gg s5 s6 wr => ∃ (i : Nat) (vs : List Value), i + gg = m ∧ s6 = .int .i64 (i : Int) ∧ vs.length ≤ i ∧ Aside0 (Below w2.heap.size w2 wr ∧ wr.ownsRow w2.heap.size 37 1 s5 vs.length vs ∧ RowsVN w2 vs ((B.take i).filter fun r => clauseB r a)))
    case atStart => exact ⟨0, [], by omega, rfl, Nat.le_refl _, ⟨bel_alloc w2 _, own_empty w2 _, RowsVN.nil w2⟩⟩
    case round =>
      obtain ⟨i, vs, hig, rfl, hvl, HI⟩ := hrel
      have HA := Aside0.mk (HR.out.below HI.out.1)
      have k0 := HA.out.c0
      have k1 := HA.out.c1
      have hgw := HA.out.lt
      rw [HM.out] at k1
      match gk, hig with
      | 0, hig =>
        have hlt : decide ((i : Int) < (m : Int)) = false := by simp; omega
        have hlt2 : decide (i < m) = false := by simp; omega
        have hfull : B.take i = B := List.take_of_length_le (by rw [HM.out]; omega)
        obtain ⟨F, hF⟩ : ∃ F, B.filter (fun r => clauseB r a) = F := ⟨_, rfl⟩
        have hIR := HI.out.2.2
        rw [hfull, hF] at hIR
        have hsub : ∀ r ∈ F, r ∈ B ∧ clauseB r a = true := fun r hr => by
          rw [← hF] at hr
          have := List.mem_filter.1 hr
          exact ⟨this.1, by simpa using this.2⟩
        have hF60 : F.length ≤ 60 := by
          rw [← hF]
          have := List.length_filter_le (fun r => clauseB r a) B
          have := HW.out.2.2
          omega
        obtain ⟨A5, c5, rfl, hRF⟩ := hIR.rowsN HI.out.1 HI.out.2.1 (fun l hl => by have := HW.out.2.1 l (hsub l hl).1; omega)
        have hWF : WfL F := fun r hr => HW.out.1 r (hsub r hr).1
        have hcF : checkI (cnt : Int) F = 0 := checkI_sub HCK.out (fun r hr => (hsub r hr).1) (by omega)
        have hT : trueB F a = true := by rw [trueB_all, List.all_eq_true]; exact fun r hr => (hsub r hr).2
        rcases solve_full (n := cnt) (budget := 6561) (by omega) hcF (pow3 hcnt8 (by decide)) (by omega) (by omega) hWF with ⟨vals, hr, hvl, htv⟩ | ⟨pf, _, hno⟩
        · obtain ⟨fl, hfl⟩ : ∃ fl, F.length = fl := ⟨_, rfl⟩
          have HSv := Solve_any (cnt : Int) 6561 A5 c5 F wr hRF (by omega) (by omega) (by omega) hWF
          rw [hr, hcF, hfl] at HSv
          have HSv2 : Calls Try.prog 9 #[.agg #[.int .i64 (cnt : Int), .slice A5 fl c5], .int .i64 6561] wr fun e w' => ∃ A7 c7 A8 c8, e = .returned (.tuple #[.int .i64 1, .slice A7 cnt c7, .slice A8 0 c8, .int .i64 0]) ∧ Kd.C Kd.bool w' A7 vals.length vals ∧ vals.length ≤ c7 ∧ Below wr.heap.size wr w' := by
            refine HSv.mono ?_
            rintro e w' ⟨A7, c7, A8, c8, rfl, h1, h2, -, -, h3⟩
            exact ⟨A7, c7, A8, c8, by rw [← hvl]; rfl, h1, h2, h3⟩
          have HTr : Aside0 (∀ X A7 c7, Below wr.heap.size wr X → Kd.C Kd.bool X A7 vals.length vals → vals.length ≤ c7 → Calls Try.prog 13 #[.agg #[.int .i64 (cnt : Int), .slice A5 fl c5], .slice A7 cnt c7] X fun e w' => e = .returned (.bool true) ∧ Below X.heap.size X w') := ⟨fun X A7 c7 hX h1 h2 => by
            have hR := hRF.below hX
            have := RTrue_any (cnt : Int) A5 c5 F A7 c7 vals X hR.C hR.cap h1 h2 hWF (fun r hr => HW.out.2.1 r (hsub r hr).1) (by omega) (by omega)
            rw [htv, hfl, hvl] at this
            exact this⟩
          rw [hfl]
          clear hfull hF hIR hsub hF60 hRF hWF hcF hT hr hvl htv hfl HSv
          go_wp2_with (first
            | (go_at_call 9; refine HSv2.mono ?_; rintro e w3 ⟨A7, c7, A8, c8, rfl, hv, hc7, hb3⟩; have q0 := (hb3.cell (p := ⟨g, 0, none⟩) hgw).trans k0; have q1 := (hb3.cell (p := ⟨g, 1, none⟩) hgw).trans k1; have HT3 := HTr.out w3 A7 c7 hb3 hv hc7; have HB3 := Aside0.mk hb3; clear hv hb3)
            | (go_at_call 13; refine HT3.mono ?_; rintro e w4 ⟨rfl, hb4⟩; have HB4 := Aside0.mk (below_then HB3.out HB3.out.size hb4); clear hb4)
            | (go_at_call 12; refine (fixed_any _).mono ?_; rintro e w5 ⟨rfl, hb5⟩; have HB5 := Aside0.mk (below_then HB4.out HB4.out.size hb5); clear hb5))
          go_ret
          exact ⟨rfl, below_then HA.out.bel HA.out.bel.size HB5.out⟩
        · have := hno a
          rw [hT] at this
          cases this
      | g' + 1, hig =>
        have hlt : decide ((i : Int) < (m : Int)) = true := by simp; omega
        have hlt2 : decide (i < m) = true := by simp; omega
        have hlt3 : (i : Int) < (m : Int) := by omega
        obtain ⟨l, hl⟩ : ∃ l, B[i]? = some l := ⟨B[i]'(by rw [HM.out]; omega), List.getElem?_eq_getElem _⟩
        have hmem := List.mem_of_getElem? hl
        obtain ⟨b, off, ad, cc, rfl, hcell, hcc, hCl⟩ := HRN.out.row hl
        have hcw : wr.cell? ⟨b, off + i, none⟩ = some (.slice (some ad) l.length cc) := (HI.out.1.cell (World.block_lt_of_cell? w2 _ hcell)).trans hcell
        have htake : B.take (i + 1) = B.take i ++ [l] := by
          obtain ⟨q1, q2⟩ := List.getElem?_eq_some_iff.1 hl
          rw [List.take_succ_eq_append_getElem q1, q2]
        have HRc := RClause_small (some ad) cc l A1 c1 a wr (Kd.C_below hCl HI.out.1) hcc (Kd.C_below HCa.out.1 HA.out.bel) HCa.out.2 (fun x hx => by have := HVV.out l hmem x hx; rw [Int.toNat_natCast] at this; unfold V at this; omega) (by have := HW.out.2.1 l hmem; omega)
        rw [HAL.out] at HRc
        have HT := Aside0.mk (And.intro htake (And.intro hcc hCl))
        obtain ⟨rl, hrl⟩ : ∃ rl, l.length = rl := ⟨_, rfl⟩
        have HRL := Aside0.mk hrl
        rw [hrl] at HRc hcw
        have HB := Aside0.mk HI.out.1
        obtain ⟨cb, hcb⟩ : ∃ cb, clauseB l a = cb := ⟨_, rfl⟩
        have HCB := Aside0.mk hcb
        rw [hcb] at HRc
        have hvm : vs.length ≤ 60 := by omega
        clear hl hmem hcell hcc hCl htake hrl hcb
        cases cb with
        | true =>
          go_wp2_with (first
            | (go_at_call 18; refine HRc.mono ?_; rintro e w3 ⟨rfl, hb3⟩; have q1 := (hb3.cell (p := ⟨g, 1, none⟩) hgw).trans k1; have hcw3 := (hb3.cell (World.block_lt_of_cell? wr _ hcw)).trans hcw; have HB3 := Aside0.mk hb3; clear hb3)
            | (at_builtin; refine print_append (w0 := w2) w2.heap.size rfl (.tmp 37) (.tmp 43) 22 37 (.slice none 0 0) 24 rfl Try.underlying22 infoII rfl (by decide) u5 vs (.slice (some ad) rl cc) rfl rfl rfl ?aO ?aB ?aS ?aL ?_))
          case aO => exact pw_own_below HI.out.2.1 HB3.out
          case aB => exact below_then HI.out.1 HI.out.1.size HB3.out
          case aS => exact Nat.le_trans HI.out.1.size HB3.out.size
          case aL => omega
          intro v1 w4 hown hb4 hg4 hat4
          have HN : Aside0 (Below w2.heap.size w2 w4 ∧ w4.ownsRow w2.heap.size 37 1 v1 (vs ++ [Value.slice (some ad) rl cc]).length (vs ++ [Value.slice (some ad) rl cc]) ∧ RowsVN w2 (vs ++ [Value.slice (some ad) rl cc]) ((B.take (i + 1)).filter fun r => clauseB r a)) := ⟨hb4, by rw [List.length_append]; exact hown, by
            have h1 := HI.out.2.2.snoc HT.out.2.1 HT.out.2.2
            rw [HRL.out] at h1
            rw [HT.out.1, List.filter_append, List.filter_cons_of_pos (by simpa using HCB.out)]
            exact h1⟩
          clear hown hb4 hg4 hat4
          go_wp2
          go_roundg g'
          case measure => omega
          case rel => exact ⟨i + 1, vs ++ [Value.slice (some ad) rl cc], by omega, by go_num, by simp; omega, HN⟩
        | false =>
          go_wp2_with (go_at_call 18; refine HRc.mono ?_; rintro e w3 ⟨rfl, hb3⟩; have HB3 := Aside0.mk hb3; clear hb3)
          have HN : Aside0 (Below w2.heap.size w2 w3 ∧ w3.ownsRow w2.heap.size 37 1 u5 vs.length vs ∧ RowsVN w2 vs ((B.take (i + 1)).filter fun r => clauseB r a)) := ⟨below_then HI.out.1 HI.out.1.size HB3.out, pw_own_below HI.out.2.1 HB3.out, by
            rw [HT.out.1, List.filter_append, List.filter_cons_of_neg (by rw [HCB.out]; decide), List.filter_nil, List.append_nil]
            exact HI.out.2.2⟩
          go_roundg g'
          case measure => omega
          case rel => exact ⟨i + 1, vs, by omega, by go_num, by omega, HN⟩
  · have hne : (ck != 0) = true := by simpa using h0
    go_wp2_with (go_at_call 12; refine (fixed_any _).mono ?_; rintro e w4 ⟨rfl, hb4⟩; have HB4 := Aside0.mk hb4; clear hb4)
    go_ret
    exact ⟨rfl, below_then HR.out.bel HR.out.bel.size HB4.out⟩
end Go.Proofs.Ytbagcbiekpopbaa

namespace Go.Proofs.Ytbagcbiekpopbaa
open Go.ChangeShapes Go.WideShapes Go.ChangeAt Go.RowKit Go.Proofs.YtbagcbiekpopbaaW.PrintWords Go.Proofs.YtbagcbiekpopbaaW.PrintLast
set_option linter.unusedVariables false
set_option linter.unusedSimpArgs false
set_option linter.constructorNameAsVariable false
set_option maxRecDepth 100000

theorem satHidden_reads (os : Os) {H : Type} (enc : TypeId × Value → H) :
    ∃ ds, ∃ places, DataW.whole enc Try.prog ((World.doorLaid Try.prog 400 os).forCall (fun _ _ => 0) ⟨#[], #[.agg #[.int .i64 0, .slice none 0 0], .slice none 0 0], []⟩).memory Try.f5.params.toList Rows.satHiddenSpec.vars false (#[.agg #[.int .i64 0, .slice none 0 0], .slice none 0 0] : Array Value).toList 8 = some ([.agg [.lit (.int .i64 0), .nil], .nil], ds, places) :=
  ⟨[], [], by kernel_rfl⟩
theorem satHidden_lifted (os : Os) (started : os.Started) (H : Type) (enc : TypeId × Value → H) (F : Stop.Interp) :
    ReturnsInHanded {} Try.checked os 5 .any ((OpenSpec.ofChange Rows.satHiddenSpec).preRow enc Try.prog Try.f5 Rows.satHiddenRow.domain false Rows.satHiddenRow.laid) (((OpenSpec.ofChange Rows.satHiddenSpec).at F).post enc Try.prog Try.f5 false true false false) := by
  obtain ⟨gs0, places, hx⟩ := satHidden_reads os enc
  refine returnsInHanded_of_row (C := Try.checked) (s := OpenSpec.ofChange Rows.satHiddenSpec) own started (by kernel_rfl) Try.func5
    (witness_row_atRef (enc := enc) (C := Try.checked) false (World.doorLaid Try.prog 400 os) #[.agg #[.int .i64 0, .slice none 0 0], .slice none 0 0] rfl (by kernel_rfl) (by kernel_rfl) (by kernel_rfl)
      (OpenSpec.preRow_of_cond 8 hx (by kernel_rfl) (fun k hk => by cases hk) (by kernel_rfl) (door_met os _))) ?_
  intro W base args ds gs before hval0 hW _ _ _ hL hsh _
  have hval : ∀ (j : Nat) t v, Try.f5.params[j]? = some t → args[j]? = some v → Value.okWide Try.prog W .any base t v := hval0
  have hW' := hW
  obtain ⟨p, q, hA0, hV, rfl, hfz, hnd⟩ := hW
  have hA : DataW.TrodAll enc Try.prog W 0 (fun _ => true) true Try.f5.params.toList args.toList ds p := hA0
  rw [Try.params5] at hA hval
  obtain ⟨v0, v1, d0, d1, p0, p1, rfl, rfl, rfl, h0, h1⟩ := trodAll_two hA
  obtain ⟨rfl, rfl⟩ := trodVars_none hV
  clear hA0 hval0
  simp only [List.append_nil] at hW'
  have hlt : ∀ x ∈ p0 ++ p1, x.block < W.heap.size := fun x hx => by simpa using hW'.lt x (by simpa using hx)
  obtain ⟨n0, A0, c0, L0, rfl, hn0, hC0, hc0, hWf0⟩ := openCnf (hval 0 24 v0 rfl rfl) h0
  obtain ⟨A1, c1, x1, rfl, hC1, hc1⟩ := openBools (hval 1 26 v1 rfl rfl) h1
  refine (SatHidden_any n0 A0 c0 L0 A1 c1 x1 W hC0 hc0 hWf0 hn0 hC1 hc1).mono ?_
  rintro e W' ⟨rfl, hb⟩
  exact ⟨_, rfl, _, _, _, [], _, [], hW', trodAll_mk1 (shut_bool Try.underlying4 _), trodAll_mk2 (Below.trod laidOut (by kernel_rfl) (of_decide_eq_true (by kernel_rfl)) h0 hb (fun x hx => hlt x (List.mem_append.2 (.inl hx)))) (Below.trod laidOut (by kernel_rfl) (of_decide_eq_true (by kernel_rfl)) h1 hb (fun x hx => hlt x (List.mem_append.2 (.inr hx)))), rfl, hb.frame _, fun h => by cases h⟩
theorem satHidden_said : Rows.SatHiddenSaid :=
  OpenClaim.holds_of_cond 5 Try.f5 rfl rfl rfl rfl rfl rfl rfl ⟨rfl, rfl, rfl, rfl, rfl⟩ rfl rfl rfl rfl rfl (by kernel_rfl) Try.func5 (by kernel_rfl)
    (of_decide_eq_true (by kernel_rfl)) (by unfold Func.isWrapper; first | (rw [if_pos (by decide +kernel)]; kernel_rfl) | (rw [if_neg (by decide +kernel)]; exact ⟨rfl, rfl⟩))
    (fun os started H enc _ F => by rw [OpenClaim.pre_eq_preRow]; exact satHidden_lifted os started H enc F)
#print axioms satHidden_said
end Go.Proofs.Ytbagcbiekpopbaa
