/- SatBudgets: for every input the law returns true, and the input reads behind the call as it read before (of at most 30 variables, 60 clauses of 12 literals). -/
import Derived.Test.YtbagcbiekpopbaaG8
namespace Go.Proofs.Ytbagcbiekpopbaa
open Go.RowKit Go.Shelf Go.Proofs.YtbagcbiekpopbaaW.PrintWords Go.Proofs.YtbagcbiekpopbaaW.PrintLast Go.Proofs.YtbagcbiekpopbaaW.PrintMore
attribute [local go_sem] max2_int min2_int max_two min_two max_three min_three max_four min_four
set_option linter.unusedVariables false
set_option linter.unusedSimpArgs false

theorem boundL_same {L : List (List Int)} (h1 : L.length ≤ 60) (h2 : ∀ r ∈ L, r.length ≤ 12) : boundL L = L := by
  unfold boundL
  rw [List.take_of_length_le h1]
  conv => rhs; rw [← List.map_id L]
  exact List.map_congr_left fun r hr => List.take_of_length_le (h2 r hr)
theorem lists_below {A B : Option Addr} {c d : Nat} {xs : List (List Int)} {w : World} (h1 : Kd.C kII w A xs.length xs) (h2 : Kd.C kII w B xs.length xs) :
    Calls Try.prog 16 #[.slice A xs.length c, .slice B xs.length d] w fun e w' => e = .returned (.bool true) ∧ Below w.heap.size w w' :=
  (Lists_any A B c d xs xs w h1 h2).mono fun e w' ⟨h, q, hq⟩ => ⟨by rw [h, decide_eq_true rfl], by rw [hq]; exact bel_drewN w q⟩

set_option maxHeartbeats 8000000 in
set_option maxRecDepth 100000 in
theorem SatBudgets_any (n : Int) (A : Option Addr) (c : Nat) (L : List (List Int)) (x1 : Int) (w : World) (hC : Kd.C kII w A L.length L) (hc : L.length ≤ c) (hW : WfL L) (hn : -9223372036854775808 ≤ n ∧ n ≤ 9223372036854775807) :
    Calls Try.prog 4 #[.agg #[.int .i64 n, .slice A L.length c], .int .i64 x1] w fun e w' => e = .returned (.bool true) ∧ Below w.heap.size w w' := by
  have HBd := Bound_any n A c L (w.alloc (.cells #[.int .i64 n, .slice A L.length c] 24)) (Kd.C_below hC (bel_alloc _ _)) hc
  have HW : Aside0 (WfL (boundL L) ∧ (∀ r ∈ boundL L, r.length ≤ 12) ∧ (boundL L).length ≤ 60) := ⟨boundL_wf hW, fun r hr => boundL_row hr, boundL_len L⟩
  obtain ⟨q, hq⟩ : ∃ q, min n 30 = q := ⟨_, rfl⟩
  obtain ⟨b, hb⟩ : ∃ b, min x1 200 = b := ⟨_, rfl⟩
  have hq30 : q ≤ 30 := by omega
  have hb200 : b ≤ 200 := by omega
  have hq' : (if (30 : Int) < n then (30 : Int) else n) = q := by split <;> omega
  have hb' : (if (200 : Int) < x1 then (200 : Int) else x1) = b := by split <;> omega
  clear hC hW hn
  go_enter Try.func4, Try.ntmps4
  go_wp2_with fail
  refine HBd.mono ?_
  clear HBd
  generalize boundL L = B at *
  rintro e W ⟨A', c', rfl, hS, hb1⟩
  rw [show (w.alloc (.cells #[.int .i64 n, .slice A L.length c] 24)).heap.size = w.heap.size + 1 from by simp] at hS hb1
  have hbox := box_later hb1
  have HC := Aside0.mk ((atS_store (n := n) hbox hS ((bel_alloc w _).trans (hb1.mono (by omega))) (Nat.le_refl _)).setN q)
  have k0 := blk_cellA hbox 0
  have k1 := blk_cellA hbox 1
  have l0 := blk_frozen hbox 0
  have l1 := blk_frozen hbox 1
  clear hS hb1 hbox
  obtain ⟨g, hg⟩ : ∃ g, w.heap.size = g := ⟨_, rfl⟩
  have HG := Aside0.mk hg
  rw [hg] at k0 k1 l0 l1 HC ⊢
  clear hg
  obtain ⟨m, hm⟩ : ∃ m, B.length = m := ⟨_, rfl⟩
  have HM := Aside0.mk hm
  have HBd2 : Aside0 (∀ X, AtS w X g q A' c' B → Calls Try.prog 8 #[.agg #[.int .i64 q, .slice A' m c']] X fun e w' => ∃ A2 c2, e = .returned (.agg #[.int .i64 q, .slice A2 m c2]) ∧ RowsB w' X.heap.size (.slice A2 m c2) B ∧ Below X.heap.size X w') := ⟨fun X hX => by
    have hR := hX.rowsN HW.out.2.1
    have := Bound_any q A' c' B X hR.C hR.cap
    rw [boundL_same HW.out.2.2 HW.out.2.1, HM.out] at this
    exact this⟩
  rw [hm] at HC ⊢
  clear hm
  go_wp2_with fail
  clear k0 k1 l0 l1 hq' hb' hq hb
  generalize ((W.setCell ⟨g, 0, none⟩ (.int .i64 n)).setCell ⟨g, 1, none⟩ (.slice A' m c')).setCell ⟨g, 0, none⟩ (.int .i64 q) = W1 at *
  refine (HBd2.out _ HC.out).mono ?_
  rintro e W2 ⟨A2, c2, rfl, hS2, hb2⟩
  have HC2 := Aside0.mk (HC.out.below hb2)
  have HS2 := Aside0.mk hS2
  have k0 := HC2.out.c0
  have k1 := HC2.out.c1
  have hgW := HC2.out.lt
  rw [HM.out] at k1
  clear hb2 hS2 HC HBd2
  go_wp2_with fail
  have HA1 := Aside0.mk (HC2.out.below (bel_alloc W2 (.cells #[.int .i64 q, .slice A2 m c2] 24)))
  have HA2 : Aside0 (AtS w (W2.alloc (.cells #[.int .i64 q, .slice A2 m c2] 24)) W2.heap.size q A2 c2 B) := ⟨{ blk := by rw [HM.out]; exact heap_alloc_new W2 _, rows := ⟨_, (by have := HS2.out; rw [← HM.out] at this; exact this.below (bel_alloc W2 _))⟩, bel := below_then HC2.out.bel HC2.out.bel.size (bel_alloc W2 _), gl := HC2.out.bel.size }⟩
  obtain ⟨g2, hg2⟩ : ∃ g2, W2.heap.size = g2 := ⟨_, rfl⟩
  rw [hg2] at HA2 ⊢
  clear k0 k1 hgW HC2 HS2 hg2
  generalize W2.alloc (.cells #[.int .i64 q, .slice A2 m c2] 24) = W3 at *
  have HRN := Aside0.mk (HA1.out.rowsN HW.out.2.1)
  have HRN2 := Aside0.mk (HA2.out.rowsN HW.out.2.1)
  have HSv : Aside0 (∀ X, Below W3.heap.size W3 X → Calls Try.prog 9 #[.agg #[.int .i64 q, .slice A' m c'], .int .i64 b] X (AnsOut X (solveR b q B) (checkI q B))) := ⟨fun X hX => by
    rw [← HM.out]; exact Solve_any q b A' c' B X (HRN.out.below hX) (by omega) (by omega) (by have := HW.out.2.2; omega) HW.out.1⟩
  have HLaw : Aside0 (solveR b q B = ⟨0, [], []⟩ ∨ (0 ≤ q ∧ (∀ r ∈ B, ∀ x ∈ r, V q.toNat x) ∧ AnsLaw q.toNat B b (solveR b q B))) := ⟨by
    by_cases h : checkI q B = 0
    · by_cases h0 : 0 ≤ b
      · obtain ⟨-, h2⟩ := solveR_run (budget := b) h h0 (by omega) (by omega) (by have := HW.out.2.2; omega) HW.out.1
        obtain ⟨h1, -, h3⟩ := check_V h HW.out.1
        exact .inr ⟨h1, h3, h2.law (by omega) h3⟩
      · exact .inl (solveR_bad (.inr (by omega)))
    · exact .inl (solveR_bad (.inl h))⟩
  generalize solveR b q B = r at *
  obtain ⟨what, vals, pf⟩ := r
  generalize hck : checkI q B = ck at *
  have HCK := Aside0.mk hck
  obtain ⟨vl, hvl⟩ : ∃ vl, vals.length = vl := ⟨_, rfl⟩
  obtain ⟨pl, hpl⟩ : ∃ pl, pf.length = pl := ⟨_, rfl⟩
  have HVL := Aside0.mk (And.intro hvl hpl)
  have HSv2 : Aside0 (∀ X, Below W3.heap.size W3 X → Calls Try.prog 9 #[.agg #[.int .i64 q, .slice A' m c'], .int .i64 b] X (fun e w' => ∃ A1 c1 A2 c2, e = .returned (.tuple #[.int .i64 (what : Int), .slice A1 vl c1, .slice A2 pl c2, .int .i64 ck]) ∧ Kd.C Kd.bool w' A1 vl vals ∧ vl ≤ c1 ∧ Kd.C kII w' A2 pl pf ∧ pl ≤ c2 ∧ Below X.heap.size X w')) := ⟨fun X hX => by
    have := HSv.out X hX
    unfold AnsOut at this
    simp only [hvl, hpl] at this
    exact this⟩
  have k0 := HA1.out.c0
  have k1 := HA1.out.c1
  have hgW := HA1.out.lt
  have j1 := HA2.out.c1
  have hgW2 := HA2.out.lt
  rw [HM.out] at k1 j1
  clear hck hvl hpl HSv
  refine (HSv2.out W3 (Below.refl _ _)).mono ?_
  rintro e w4 ⟨A3, c3, A4, c4, rfl, hv4, hc3, hp4, hc4, hb4⟩
  have HB4 := Aside0.mk hb4
  have HV4 := Aside0.mk (And.intro hv4 hp4)
  have k0' := (hb4.cell (p := ⟨g, 0, none⟩) hgW).trans k0
  have k1' := (hb4.cell (p := ⟨g, 1, none⟩) hgW).trans k1
  clear hv4 hp4 hb4
  go_wp2_with fail
  clear k0' k1'
  refine (HSv2.out w4 HB4.out).mono ?_
  rintro e w5 ⟨A5, c5, A6, c6, rfl, hv5, hc5, hp5, hc6, hb5⟩
  have HB5 := Aside0.mk (below_then HB4.out HB4.out.size hb5)
  have HV5 := Aside0.mk (And.intro (Kd.C_below HV4.out.1 hb5) (And.intro (Kd.C_below HV4.out.2 hb5) (And.intro hv5 hp5)))
  have k0' := (HB5.out.cell (p := ⟨g, 0, none⟩) hgW).trans k0
  have k1' := (HB5.out.cell (p := ⟨g, 1, none⟩) hgW).trans k1
  have j1' := (HB5.out.cell (p := ⟨g2, 1, none⟩) hgW2).trans j1
  clear hv5 hp5 hb5 HSv2 HB4 HV4
  have HL1 : Calls Try.prog 16 #[.slice A4 pl c4, .slice A6 pl c6] w5 fun e w' => e = .returned (.bool true) ∧ Below w5.heap.size w5 w' := by
    have h1 := HV5.out.2.1
    have h2 := HV5.out.2.2.2
    rw [← HVL.out.2] at h1 h2 ⊢
    exact lists_below h1 h2
  have HL2 : Aside0 (∀ X, Below W3.heap.size W3 X → Calls Try.prog 16 #[.slice A' m c', .slice A2 m c2] X fun e w' => e = .returned (.bool true) ∧ Below X.heap.size X w') := ⟨fun X hX => by
    have h1 := (HRN.out.below hX).C
    have h2 := (HRN2.out.below hX).C
    rw [← HM.out]
    exact lists_below h1 h2⟩
  have HRk : Aside0 (∀ X, Below W3.heap.size W3 X → Calls Try.prog 11 #[.agg #[.int .i64 q, .slice A' m c']] X fun e w' => e = .returned (.int .i64 ck) ∧ Below X.heap.size X w') := ⟨fun X hX => by
    have hR := HRN.out.below hX
    rw [← HCK.out, ← HM.out]; exact RCheck_any q A' c' B X hR.C hR.cap HW.out.1 HW.out.2.1 (by have := HW.out.2.2; omega)⟩
  have e1 : (ck != ck) = false := by simp
  have e2 : ((what : Int) != (what : Int)) = false := by simp
  have e3 : ((vl : Int) != (vl : Int)) = false := by simp
  go_wp2_with fail
  refine HL1.mono ?_
  rintro e w6 ⟨rfl, hb6⟩
  have HB6 := Aside0.mk (And.intro (below_then HB5.out HB5.out.size hb6) hb6)
  clear k0' k1' j1' hb6 HL1
  have k0' := (HB6.out.1.cell (p := ⟨g, 0, none⟩) hgW).trans k0
  have k1' := (HB6.out.1.cell (p := ⟨g, 1, none⟩) hgW).trans k1
  have j1' := (HB6.out.1.cell (p := ⟨g2, 1, none⟩) hgW2).trans j1
  go_wp2_with fail
  refine (HL2.out w6 HB6.out.1).mono ?_
  rintro e w7 ⟨rfl, hb7⟩
  have HB7 := Aside0.mk (And.intro (below_then HB6.out.1 HB6.out.1.size hb7) (below_then HB6.out.2 HB6.out.2.size hb7))
  clear k0' k1' j1' hb7 HB6 HL2
  have k0' := (HB7.out.1.cell (p := ⟨g, 0, none⟩) hgW).trans k0
  have k1' := (HB7.out.1.cell (p := ⟨g, 1, none⟩) hgW).trans k1
  go_wp2_with fail
  refine (HRk.out w7 HB7.out.1).mono ?_
  rintro e w8 ⟨rfl, hb8⟩
  have HB8 := Aside0.mk (And.intro (below_then HB7.out.1 HB7.out.1.size hb8) (below_then HB7.out.2 HB7.out.2.size hb8))
  clear k0' k1' hb8 HB7
  go_wp2
  have hvl9 : vl ≤ 9223372036854775807 := C_max HV5.out.1
  go_loopg [15] vl (fun gg s15 wr => ∃ i : Nat, i + gg = vl ∧ s15 = .int .i64 (i : Int) ∧ Aside0 (Below w8.heap.size w8 wr))
  case atStart => exact ⟨0, by omega, rfl, ⟨Below.refl _ _⟩⟩
  case round =>
    obtain ⟨i, hig, rfl, HI⟩ := hrel
    match gk, hig with
    | g' + 1, hig =>
      have hlt : decide ((i : Int) < (vl : Int)) = true := by simp; omega
      have hlt2 : decide (i < vl) = true := by simp; omega
      have hlt3 : (i : Int) < (vl : Int) := by omega
      obtain ⟨b3, o3, rfl, hcl3⟩ := C_bools (xs := vals) (by rw [HVL.out.1]; exact HV5.out.1) (by rw [HVL.out.1]; omega)
      obtain ⟨b5, o5, rfl, hcl5⟩ := C_bools (xs := vals) (by rw [HVL.out.1]; exact HV5.out.2.2.1) (by rw [HVL.out.1]; omega)
      have hb5r := below_then HB8.out.2 HB8.out.2.size HI.out
      have d3 := hcl3 i (by rw [HVL.out.1]; omega)
      have d5 := hcl5 i (by rw [HVL.out.1]; omega)
      have f3 := (hb5r.cell (World.block_lt_of_cell? w5 _ d3)).trans d3
      have f5 := (hb5r.cell (World.block_lt_of_cell? w5 _ d5)).trans d5
      generalize vals[i]! = x at *
      have hx : (x != x) = false := by simp
      clear hcl3 hcl5 hb5r d3 d5
      go_wp2
      go_quiet (fail)
      have HN : Aside0 (Below w8.heap.size w8 (wr.drewN nq)) := ⟨below_drewN HI.out _⟩
      go_wp2
      go_roundg g'
      case measure => omega
      case rel => exact ⟨i + 1, by omega, by go_num, HN⟩
    | 0, hig =>
      have hlt : decide ((i : Int) < (vl : Int)) = false := by simp; omega
      have hlt2 : decide (i < vl) = false := by simp; omega
      have HBr := Aside0.mk (And.intro (below_then HB8.out.1 HB8.out.1.size HI.out) (below_then HB8.out.2 HB8.out.2.size HI.out))
      have k0r := (HBr.out.1.cell (p := ⟨g, 0, none⟩) hgW).trans k0
      have k1r := (HBr.out.1.cell (p := ⟨g, 1, none⟩) hgW).trans k1
      have hgr : g < wr.heap.size := Nat.lt_of_lt_of_le hgW HBr.out.1.size
      have HR := Aside0.mk (HRN.out.below HBr.out.1)
      have HVr := Aside0.mk (And.intro (Kd.C_below HV5.out.1 HBr.out.2) (Kd.C_below HV5.out.2.1 HBr.out.2))
      have HBw := Aside0.mk (below_then HA1.out.bel HA1.out.bel.size HBr.out.1)
      clear e1 e2 e3
      rcases HLaw.out with hr | ⟨hq0, hVV, hlaw⟩
      · injection hr with h1 h2 h3
        subst h1 h2 h3
        have hvl0 : vl = 0 := HVL.out.1.symm
        have hpl0 : pl = 0 := HVL.out.2.symm
        subst hvl0 hpl0
        go_wp2_with (go_at_call 12; refine (fixed_any _).mono ?_; rintro e w9 ⟨rfl, hb9⟩; have HB9 := Aside0.mk (below_then HBw.out HBw.out.size hb9); clear hb9)
        go_ret
        exact ⟨rfl, HB9.out⟩
      · obtain ⟨cnt, hcnt⟩ : ∃ cnt : Nat, q.toNat = cnt := ⟨_, rfl⟩
        obtain rfl : q = (cnt : Int) := by omega
        rw [hcnt] at hVV hlaw
        clear hcnt
        rcases hlaw with ⟨h1, h2, h3, _⟩ | ⟨h1, h2, h3, h4⟩ | ⟨h1, h2, h3, h4, h5, h6, h7⟩
        · simp only at h1 h2 h3
          subst h1 h2 h3
          have hvl0 : vl = 0 := HVL.out.1.symm
          have hpl0 : pl = 0 := HVL.out.2.symm
          subst hvl0 hpl0
          go_wp2_with (go_at_call 12; refine (fixed_any _).mono ?_; rintro e w9 ⟨rfl, hb9⟩; have HB9 := Aside0.mk (below_then HBw.out HBw.out.size hb9); clear hb9)
          go_ret
          exact ⟨rfl, HB9.out⟩
        · simp only at h1 h2 h3 h4
          subst h1 h3
          have hvl0 : vl = cnt := by have := HVL.out.1; omega
          have hpl0 : pl = 0 := HVL.out.2.symm
          subst hvl0 hpl0
          have HTr : Calls Try.prog 13 #[.agg #[.int .i64 (vl : Int), .slice A' m c'], .slice A3 vl c3] wr fun e w' => e = .returned (.bool true) ∧ Below wr.heap.size wr w' := by
            have h8 := HVr.out.1
            rw [← h2] at h8
            have := RTrue_any (vl : Int) A' c' B A3 c3 vals wr HR.out.C HR.out.cap h8 (by omega) HW.out.1 HW.out.2.1 (by have := HW.out.2.2; omega) (by omega)
            rw [h4, HM.out, h2] at this
            exact this
          clear h2 h4
          go_wp2_with (first
            | (go_at_call 13; refine HTr.mono ?_; rintro e w9 ⟨rfl, hb9⟩; have HB9 := Aside0.mk (below_then HBw.out HBw.out.size hb9); clear hb9)
            | (go_at_call 12; refine (fixed_any _).mono ?_; rintro e w10 ⟨rfl, hb10⟩; have HB10 := Aside0.mk (below_then HB9.out HB9.out.size hb10); clear hb10))
          go_ret
          exact ⟨rfl, HB10.out⟩
        · simp only at h1 h2 h3 h4 h5 h6
          subst h1 h2
          have hvl0 : vl = 0 := HVL.out.1.symm
          subst hvl0
          obtain ⟨q', hq'⟩ := h3
          have hpl1 : 1 ≤ pl := by have := HVL.out.2; rw [hq'] at this; simp at this; omega
          have hany : pf.any List.isEmpty = true := by rw [hq']; simp
          have hplb : (pl : Int) ≤ b := by have := HVL.out.2; omega
          have HPc : Calls Try.prog 14 #[.agg #[.int .i64 (cnt : Int), .slice A' m c'], .slice A4 pl c4] wr fun e w' => e = .returned (.tuple #[.int .i64 (pl : Int), .bool true]) ∧ Below wr.heap.size wr w' := by
            have h8 := HVr.out.2
            rw [← HVL.out.2] at h8 hc4 ⊢
            have hmul : (2 * cnt + 1) * (B.length + pf.length) ≤ 61 * 7000 := Nat.mul_le_mul (by omega) (by have := HW.out.2.2; omega)
            have := PCheck_any (n := cnt) (by omega) (2 * cnt + 1) (cnt : Int) B pf A' c' A4 c4 wr HR.out.C HR.out.cap h8 hc4 (fun l hl => ⟨by have := HW.out.2.1 l hl; omega, hVV l hl⟩) (fun l hl => ⟨by have := (h6 l hl).1; omega, (h6 l hl).2⟩) (by omega) (by have := HW.out.2.2; omega)
              (fun i C hi => follows_rup (n := cnt) (fun l hl => by
                rcases List.mem_append.1 hl with h | h
                · exact hVV l h
                · exact (h6 l (List.mem_of_mem_take h)).2) (h4 i C hi))
            rw [hany, HM.out] at this
            exact this
          have hm1 : (if (0 : Int) < b then b else 0) = b := by rw [if_pos (by omega)]
          have hm2 : max 0 b = b := by omega
          have hd : decide ((pl : Int) ≤ b + 1) = true := by simp; omega
          clear h4 h6 h7 hany hq' hVV
          go_wp2_with (first
            | (go_at_call 14; refine HPc.mono ?_; rintro e w9 ⟨rfl, hb9⟩; have HB9 := Aside0.mk (below_then HBw.out HBw.out.size hb9); clear hb9)
            | (go_at_call 12; refine (fixed_any _).mono ?_; rintro e w10 ⟨rfl, hb10⟩; have HB10 := Aside0.mk (below_then HB9.out HB9.out.size hb10); clear hb10))
          go_ret
          exact ⟨rfl, HB10.out⟩
end Go.Proofs.Ytbagcbiekpopbaa

namespace Go.Proofs.Ytbagcbiekpopbaa
open Go.ChangeShapes Go.WideShapes Go.ChangeAt Go.RowKit Go.Proofs.YtbagcbiekpopbaaW.PrintWords Go.Proofs.YtbagcbiekpopbaaW.PrintLast
set_option linter.unusedVariables false
set_option linter.unusedSimpArgs false
set_option linter.constructorNameAsVariable false
set_option maxRecDepth 100000

theorem satBudgets_reads (os : Os) {H : Type} (enc : TypeId × Value → H) :
    ∃ ds, ∃ places, DataW.whole enc Try.prog ((World.doorLaid Try.prog 400 os).forCall (fun _ _ => 0) ⟨#[], #[.agg #[.int .i64 0, .slice none 0 0], .int .i64 0], []⟩).memory Try.f4.params.toList Rows.satBudgetsSpec.vars false (#[.agg #[.int .i64 0, .slice none 0 0], .int .i64 0] : Array Value).toList 8 = some ([.agg [.lit (.int .i64 0), .nil], .lit (.int .i64 0)], ds, places) :=
  ⟨[], [], by kernel_rfl⟩
theorem satBudgets_lifted (os : Os) (started : os.Started) (H : Type) (enc : TypeId × Value → H) (F : Stop.Interp) :
    ReturnsInHanded {} Try.checked os 4 .any ((OpenSpec.ofChange Rows.satBudgetsSpec).preRow enc Try.prog Try.f4 Rows.satBudgetsRow.domain false Rows.satBudgetsRow.laid) (((OpenSpec.ofChange Rows.satBudgetsSpec).at F).post enc Try.prog Try.f4 false true false false) := by
  obtain ⟨gs0, places, hx⟩ := satBudgets_reads os enc
  refine returnsInHanded_of_row (C := Try.checked) (s := OpenSpec.ofChange Rows.satBudgetsSpec) own started (by kernel_rfl) Try.func4
    (witness_row_atRef (enc := enc) (C := Try.checked) false (World.doorLaid Try.prog 400 os) #[.agg #[.int .i64 0, .slice none 0 0], .int .i64 0] rfl (by kernel_rfl) (by kernel_rfl) (by kernel_rfl)
      (OpenSpec.preRow_of_cond 8 hx (by kernel_rfl) (fun k hk => by cases hk) (by kernel_rfl) (door_met os _))) ?_
  intro W base args ds gs before hval0 hW _ _ _ hL hsh _
  have hval : ∀ (j : Nat) t v, Try.f4.params[j]? = some t → args[j]? = some v → Value.okWide Try.prog W .any base t v := hval0
  have hW' := hW
  obtain ⟨p, q, hA0, hV, rfl, hfz, hnd⟩ := hW
  have hA : DataW.TrodAll enc Try.prog W 0 (fun _ => true) true Try.f4.params.toList args.toList ds p := hA0
  rw [Try.params4] at hA hval
  obtain ⟨v0, v1, d0, d1, p0, p1, rfl, rfl, rfl, h0, h1⟩ := trodAll_two hA
  obtain ⟨rfl, rfl⟩ := trodVars_none hV
  clear hA0 hval0
  simp only [List.append_nil] at hW'
  have hlt : ∀ x ∈ p0 ++ p1, x.block < W.heap.size := fun x hx => by simpa using hW'.lt x (by simpa using hx)
  obtain ⟨n0, A0, c0, L0, rfl, hn0, hC0, hc0, hWf0⟩ := openCnf (hval 0 24 v0 rfl rfl) h0
  obtain ⟨x1, rfl, hl1, hh1⟩ := openInt (hval 1 3 v1 rfl rfl) h1
  refine (SatBudgets_any n0 A0 c0 L0 x1 W hC0 hc0 hWf0 hn0).mono ?_
  rintro e W' ⟨rfl, hb⟩
  exact ⟨_, rfl, _, _, _, [], _, [], hW', trodAll_mk1 (shut_bool Try.underlying4 _), trodAll_mk2 (Below.trod laidOut (by kernel_rfl) (of_decide_eq_true (by kernel_rfl)) h0 hb (fun x hx => hlt x (List.mem_append.2 (.inl hx)))) (Below.trod laidOut (by kernel_rfl) (of_decide_eq_true (by kernel_rfl)) h1 hb (fun x hx => hlt x (List.mem_append.2 (.inr hx)))), rfl, hb.frame _, fun h => by cases h⟩
theorem satBudgets_said : Rows.SatBudgetsSaid :=
  OpenClaim.holds_of_cond 4 Try.f4 rfl rfl rfl rfl rfl rfl rfl ⟨rfl, rfl, rfl, rfl, rfl⟩ rfl rfl rfl rfl rfl (by kernel_rfl) Try.func4 (by kernel_rfl)
    (of_decide_eq_true (by kernel_rfl)) (by unfold Func.isWrapper; first | (rw [if_pos (by decide +kernel)]; kernel_rfl) | (rw [if_neg (by decide +kernel)]; exact ⟨rfl, rfl⟩))
    (fun os started H enc _ F => by rw [OpenClaim.pre_eq_preRow]; exact satBudgets_lifted os started H enc F)
#print axioms satBudgets_said
end Go.Proofs.Ytbagcbiekpopbaa
