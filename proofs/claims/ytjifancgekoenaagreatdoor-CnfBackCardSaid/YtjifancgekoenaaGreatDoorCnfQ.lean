import Derived.Test.YtjifancgekoenaaGreatDoorCnfO
namespace Go.Proofs.YtjifancgekoenaaGreatDoor
open Go.RowKit Go.Proofs.YtjifancgekoenaaGreatDoorW.PrintWords Go.Proofs.YtjifancgekoenaaGreatDoorW.PrintLast
set_option linter.unusedVariables false
set_option linter.unusedSimpArgs false

theorem cutNL_rest (s : List UInt8) : (cutNL s).2.1.length ≤ s.length := by
  cases s with
  | nil => simp [cutNL]
  | cons b l => have := (cut_len (b :: l) (by simp)).2; omega
theorem parse_wf (s : List UInt8) : WfL (parseR s).2.1 ∧ bulk (parseR s).2.1 ≤ 3 * s.length := by
  have h0 : WfL ([] : List (List Int)) ∧ bulk ([] : List (List Int)) ≤ 3 * s.length := ⟨fun x hx => (by cases hx), by simp [bulk]⟩
  unfold parseR
  split
  · split
    · rename_i L h
      split
      · have := rowsP_facts _ _ _ h
        have := cutNL_rest s
        exact ⟨(rowsP_facts _ _ _ h).2, by show bulk L ≤ _; omega⟩
      · exact h0
    · exact h0
  · exact h0
theorem bytesB_take (s : List UInt8) (k : Nat) : (bytesB s).extract 0 k = bytesB (s.take k) := by
  apply ByteArray.ext
  apply Array.ext'
  simp [bytesB, ByteArray.data_extract]

set_option maxHeartbeats 4000000 in
set_option maxRecDepth 100000 in
theorem CnfBack_any (n : Int) (A : Option Addr) (c : Nat) (L : List (List Int)) (s : List UInt8) (w : World) (hC : Kd.C kII w A L.length L) (hc : L.length ≤ c) (hW : WfL L) (hn : -9223372036854775808 ≤ n ∧ n ≤ 9223372036854775807) (hs : s.length ≤ 9223372036854775807) (hL : Laid w) :
    Calls Tryz.prog 7 #[.agg #[.int .i64 n, .slice A L.length c], .string (bytesB s)] w fun e w' => e = .returned (.bool true) ∧ Below w.heap.size w w' := by
  have HBd := Bound_any n A c L (w.alloc (.cells #[.int .i64 n, .slice A L.length c] 28)) (Kd.C_below hC (bel_alloc _ _)) hc
  have HW : Aside0 (WfL (boundL L) ∧ bulk (boundL L) ≤ 1000 ∧ (boundL L).length ≤ 60 ∧ Laid w) := ⟨boundL_wf hW, boundL_bulk L, boundL_len L, hL⟩
  have HN : Aside0 (-9223372036854775808 ≤ n ∧ n ≤ 9223372036854775807) := ⟨hn⟩
  obtain ⟨k, hk1⟩ : ∃ k : Nat, min s.length 600 = k := ⟨_, rfl⟩
  have hk2 : (k : Int) ≤ (s.length : Int) := by omega
  have hsz0 : (bytesB s).size = s.length := bytesB_size s
  have hmin : (if (600 : Int) < (s.length : Int) then (600 : Int) else (s.length : Int)) = (k : Int) := by split <;> omega
  have hmin2 : min (s.length : Int) 600 = (k : Int) := by omega
  have HT : Aside0 ((bytesB s).extract 0 k = bytesB (s.take 600) ∧ (s.take 600).length ≤ 600) := ⟨by
    rw [bytesB_take]
    congr 1
    rcases Nat.lt_or_ge s.length 600 with h | h
    · rw [List.take_of_length_le (by omega), List.take_of_length_le (by omega)]
    · congr 1; omega, by rw [List.length_take]; omega⟩
  have HP0 := Aside0.mk (parse_code (s.take 600))
  have HPW := Aside0.mk (parse_wf (s.take 600))
  clear hC hW hL hn
  go_enter Tryz.func7, Tryz.ntmps7
  go_wp2_with fail
  refine HBd.mono ?_
  clear HBd
  generalize boundL L = B at *
  rintro e W ⟨A', c', rfl, hS, hb⟩
  rw [show (w.alloc (.cells #[.int .i64 n, .slice A L.length c] 28)).heap.size = w.heap.size + 1 from by simp] at hS hb
  have HC := Aside0.mk (atC_store HW.out.2.2.2 hS hb)
  have hbox := atC_box hb
  have k0 := blk_cellA hbox 0
  have k1 := blk_cellA hbox 1
  have l0 := blk_frozen hbox 0
  have l1 := blk_frozen hbox 1
  clear hS hb hbox
  go_wp2_with fail
  rw [HT.out.1]
  clear k0 k1 l0 l1 hmin hmin2 hk2 hk1 hsz0
  generalize (W.setCell ⟨w.heap.size, 0, none⟩ (.int .i64 n)).setCell ⟨w.heap.size, 1, none⟩ (.slice A' B.length c') = W1 at *
  have HSL := Aside0.mk HT.out.2
  clear HT
  generalize s.take 600 = u at *
  by_cases hk : checkI n B = 0
  · have hn1 := check_range hk
    have HS : Aside0 ((printL n B).length ≤ 50 + 22 * 1000 ∧ parseR (printL n B) = (n, B, 0)) :=
      ⟨by have := print_len n B HW.out.1 HN.out (by have := HW.out.2.2.1; omega); have := HW.out.2.1; omega, parse_print n B HW.out.1 hk (by have := HW.out.2.2.1; omega)⟩
    refine (Print_ok n A' c' B W1 HC.out.laid HC.out.rows HW.out.1 hn1 (by have := HW.out.2.1; omega) hk).mono ?_
    rintro e W2 ⟨rfl, hb⟩
    have HC2 := Aside0.mk (HC.out.below hb)
    clear hb HC hn1 hk
    generalize printL n B = t at *
    go_wp2_with fail
    have HP := Parse_any t (by have := HS.out.1; omega) W2 HC2.out.laid
    rw [HS.out.2] at HP
    refine HP.mono ?_
    clear HP
    rintro e W3 ⟨v, rfl, hrow, hb⟩
    obtain ⟨Ad, cd, rfl, _, hCd⟩ := hrow.reads
    have HC3 := Aside0.mk (HC2.out.below hb)
    clear hrow hb HC2
    have HC4 := Aside0.mk (HC3.out.below (bel_alloc W3 (.cells #[.int .i64 n, .slice Ad B.length cd] 28)))
    have kD := Keeps.C (Kd.C_below hCd (bel_alloc W3 (.cells #[.int .i64 n, .slice Ad B.length cd] 28)))
    have hd0 := cell_new W3 #[.int .i64 n, .slice Ad B.length cd] 28 0
    have hd1 := cell_new W3 #[.int .i64 n, .slice Ad B.length cd] 28 1
    have hc0 := HC4.out.c0
    have hc1 := HC4.out.c1
    clear hCd
    go_wp2_with fail
    generalize W3.alloc (.cells #[.int .i64 n, .slice Ad B.length cd] 28) = W4 at *
    refine (Lists_any Ad A' cd c' B B W4 kD.here HC4.out.rows).mono ?_
    rintro e W5 ⟨rfl, q, rfl⟩
    rw [show decide (B = B) = true from by simp]
    have HCX := Aside0.mk (HC4.out.below (bel_drewN W4 q))
    generalize W4.drewN q = WX at *
    clear hd0 hd1 hc0 hc1 kD HC3 HC4
    go_wp2_with fail
    have HP := Parse_any u (by have := HSL.out; omega) WX HCX.out.laid
    refine HP.mono ?_
    clear HP
    rintro e W6 ⟨v, rfl, hrow, hb⟩
    obtain ⟨Ae, ce, rfl, _, hCe⟩ := hrow.reads
    have HC6 := Aside0.mk (HCX.out.below hb)
    clear hrow hb HCX
    obtain ⟨p, hp⟩ : ∃ p, parseR u = p := ⟨_, rfl⟩
    rw [hp] at HP0 HPW hCe ⊢
    obtain ⟨p1, p2, p3⟩ := p
    have HC7 := Aside0.mk (HC6.out.below (bel_alloc W6 (.cells #[.int .i64 p1, .slice Ae p2.length ce] 28)))
    have kE := Keeps.C (Kd.C_below hCe (bel_alloc W6 (.cells #[.int .i64 p1, .slice Ae p2.length ce] 28)))
    have hd0 := cell_new W6 #[.int .i64 p1, .slice Ae p2.length ce] 28 0
    have hd1 := cell_new W6 #[.int .i64 p1, .slice Ae p2.length ce] 28 1
    have kd0 := Keeps.cell hd0
    have kd1 := Keeps.cell hd1
    clear hCe hp
    rcases HP0.out with ⟨hq, hck, hpr⟩ | hq
    · simp only at hq hck hpr
      subst hq
      have hr := check_range hck
      have HCK : Aside0 (checkI p1 p2 = 0) := ⟨hck⟩
      have HPR : Aside0 (printL p1 p2 = u) := ⟨hpr⟩
      have HPL := fun W4 hL4 hC4 => Print_ok p1 Ae ce p2 W4 hL4 hC4 HPW.out.1 hr (by have := HPW.out.2; have := HSL.out; have h3 : bulk p2 ≤ 3 * u.length := HPW.out.2; omega) hck
      clear hck hpr hr HP0
      go_wp2_with fail
      generalize W6.alloc (.cells #[.int .i64 p1, .slice Ae p2.length ce] 28) = W7 at *
      refine (HPL W7 HC7.out.laid kE.here).mono ?_
      rw [HPR.out]
      rintro e W8 ⟨rfl, hb⟩
      have HC8 := Aside0.mk (HC7.out.below hb)
      replace kE := kE.step hb
      replace kd0 := kd0.step hb
      replace kd1 := kd1.step hb
      have hd0 := kd0.here
      have hd1 := kd1.here
      clear hb HC7 HPL
      go_wp2_with fail
      refine (Check_any p1 Ae ce p2 W8 kE.here).mono ?_
      rw [HCK.out]
      rintro e W9 ⟨rfl, hb⟩
      have HC9 := Aside0.mk (HC8.out.below hb)
      clear hb
      go_wp2_with fail
      refine (fixed_any W9 HC9.out.laid).mono ?_
      rintro e W10 ⟨rfl, hb⟩
      have hfin := (HC9.out.below hb).bel
      go_wp2
      go_ret
      exact ⟨rfl, hfin⟩
    · simp only [Prod.mk.injEq] at hq
      obtain ⟨rfl, rfl, rfl⟩ := hq
      have HPL := fun W4 hL4 hC4 => Print_ok 0 Ae ce [] W4 hL4 hC4 (by intro x hx; cases hx) (by omega) (by decide) (by kernel_rfl)
      clear HP0
      go_wp2_with fail
      generalize W6.alloc (.cells #[.int .i64 0, .slice Ae ([] : List (List Int)).length ce] 28) = W7 at *
      refine (HPL W7 HC7.out.laid kE.here).mono ?_
      rintro e W8 ⟨rfl, hb⟩
      have HC8 := Aside0.mk (HC7.out.below hb)
      clear hb HC7 HPL
      go_wp2_with fail
      refine (fixed_any W8 HC8.out.laid).mono ?_
      rintro e W10 ⟨rfl, hb⟩
      have hfin := (HC8.out.below hb).bel
      go_wp2
      go_ret
      exact ⟨rfl, hfin⟩
  · have he : (checkI n B == 0) = false := by simpa using hk
    refine (Print_err n A' c' B W1 HC.out.rows (checkI n B) rfl he).mono ?_
    rintro e WX ⟨rfl, hb⟩
    have HCX := Aside0.mk (HC.out.below hb)
    clear hb HC hk
    generalize checkI n B = er at *
    go_wp2_with fail
    have HP := Parse_any u (by have := HSL.out; omega) WX HCX.out.laid
    refine HP.mono ?_
    clear HP
    rintro e W6 ⟨v, rfl, hrow, hb⟩
    obtain ⟨Ae, ce, rfl, _, hCe⟩ := hrow.reads
    have HC6 := Aside0.mk (HCX.out.below hb)
    clear hrow hb HCX
    obtain ⟨p, hp⟩ : ∃ p, parseR u = p := ⟨_, rfl⟩
    rw [hp] at HP0 HPW hCe ⊢
    obtain ⟨p1, p2, p3⟩ := p
    have HC7 := Aside0.mk (HC6.out.below (bel_alloc W6 (.cells #[.int .i64 p1, .slice Ae p2.length ce] 28)))
    have kE := Keeps.C (Kd.C_below hCe (bel_alloc W6 (.cells #[.int .i64 p1, .slice Ae p2.length ce] 28)))
    have hd0 := cell_new W6 #[.int .i64 p1, .slice Ae p2.length ce] 28 0
    have hd1 := cell_new W6 #[.int .i64 p1, .slice Ae p2.length ce] 28 1
    have kd0 := Keeps.cell hd0
    have kd1 := Keeps.cell hd1
    clear hCe hp
    rcases HP0.out with ⟨hq, hck, hpr⟩ | hq
    · simp only at hq hck hpr
      subst hq
      have hr := check_range hck
      have HCK : Aside0 (checkI p1 p2 = 0) := ⟨hck⟩
      have HPR : Aside0 (printL p1 p2 = u) := ⟨hpr⟩
      have HPL := fun W4 hL4 hC4 => Print_ok p1 Ae ce p2 W4 hL4 hC4 HPW.out.1 hr (by have := HPW.out.2; have := HSL.out; have h3 : bulk p2 ≤ 3 * u.length := HPW.out.2; omega) hck
      clear hck hpr hr HP0
      go_wp2_with fail
      generalize W6.alloc (.cells #[.int .i64 p1, .slice Ae p2.length ce] 28) = W7 at *
      refine (HPL W7 HC7.out.laid kE.here).mono ?_
      rw [HPR.out]
      rintro e W8 ⟨rfl, hb⟩
      have HC8 := Aside0.mk (HC7.out.below hb)
      replace kE := kE.step hb
      replace kd0 := kd0.step hb
      replace kd1 := kd1.step hb
      have hd0 := kd0.here
      have hd1 := kd1.here
      clear hb HC7 HPL
      go_wp2_with fail
      refine (Check_any p1 Ae ce p2 W8 kE.here).mono ?_
      rw [HCK.out]
      rintro e W9 ⟨rfl, hb⟩
      have HC9 := Aside0.mk (HC8.out.below hb)
      clear hb
      go_wp2_with fail
      refine (fixed_any W9 HC9.out.laid).mono ?_
      rintro e W10 ⟨rfl, hb⟩
      have hfin := (HC9.out.below hb).bel
      go_wp2
      go_ret
      exact ⟨rfl, hfin⟩
    · simp only [Prod.mk.injEq] at hq
      obtain ⟨rfl, rfl, rfl⟩ := hq
      have HPL := fun W4 hL4 hC4 => Print_ok 0 Ae ce [] W4 hL4 hC4 (by intro x hx; cases hx) (by omega) (by decide) (by kernel_rfl)
      clear HP0
      go_wp2_with fail
      generalize W6.alloc (.cells #[.int .i64 0, .slice Ae ([] : List (List Int)).length ce] 28) = W7 at *
      refine (HPL W7 HC7.out.laid kE.here).mono ?_
      rintro e W8 ⟨rfl, hb⟩
      have HC8 := Aside0.mk (HC7.out.below hb)
      clear hb HC7 HPL
      go_wp2_with fail
      refine (fixed_any W8 HC8.out.laid).mono ?_
      rintro e W10 ⟨rfl, hb⟩
      have hfin := (HC8.out.below hb).bel
      go_wp2
      go_ret
      exact ⟨rfl, hfin⟩
end Go.Proofs.YtjifancgekoenaaGreatDoor
