import Derived.Test.YtdgkbigmdadlaaaDoorAsmL
namespace Go.Proofs.YtdgkbigmdadlaaaDoor
open Go.RowKit Go.Lib Go.Proofs.YtdgkbigmdadlaaaDoorW.PrintWords Go.Proofs.YtdgkbigmdadlaaaDoorW.PrintLast
attribute [local go_sem high] eqA23
set_option linter.unusedVariables false
set_option linter.unusedSimpArgs false

theorem ne_parts {x y : I5} (h : x ≠ y) : (x.op == y.op && (x.rd == y.rd && (x.a == y.a && (x.b == y.b && (x.n == y.n))))) = false := by
  cases hb : (x.op == y.op && (x.rd == y.rd && (x.a == y.a && (x.b == y.b && (x.n == y.n))))) with
  | false => rfl
  | true =>
    simp only [Bool.and_eq_true, beq_iff_eq] at hb
    exact absurd ((i5_eq x y).2 hb) h
theorem eq_parts (x : I5) : (x.op == x.op && (x.rd == x.rd && (x.a == x.a && (x.b == x.b && (x.n == x.n))))) = true := by simp

/-- The second half of AsmBack: what is parsed is printed as it was. -/
structure BSt (w W : World) (x y : I5) : Prop where
  bel : Below w.heap.size w W
  bx : Box5 W w.heap.size x
  bY : Box5 W (w.heap.size + 1) y
theorem BSt.below {w W W' : World} {x y : I5} (h : BSt w W x y) (hb : Below W.heap.size W W') : BSt w W' x y := ⟨below_after h.bel hb (Nat.le_refl _), h.bx.below hb, h.bY.below hb⟩
theorem bst_new (w : World) (x y : I5) : BSt w ((w.alloc (.cells #[.int .i64 x.op, .int .i64 x.rd, .int .i64 x.a, .int .i64 x.b, .int .i64 x.n] 23)).alloc (.cells #[.int .i64 y.op, .int .i64 y.rd, .int .i64 y.a, .int .i64 y.b, .int .i64 y.n] 23)) x y where
  bel := ((Below.refl _ w).alloc (Nat.le_refl _) _).alloc (by simp) _
  bx := (Box5.new w x 23).below (bel1 _ _)
  bY := by
    have := Box5.new (w.alloc (.cells #[.int .i64 x.op, .int .i64 x.rd, .int .i64 x.a, .int .i64 x.b, .int .i64 x.n] 23)) y 23
    rwa [show (w.alloc (.cells #[.int .i64 x.op, .int .i64 x.rd, .int .i64 x.a, .int .i64 x.b, .int .i64 x.n] 23)).heap.size = w.heap.size + 1 from by simp] at this
set_option maxHeartbeats 8000000 in
set_option maxRecDepth 100000 in
theorem AsmBack_any (x y : I5) (s : List UInt8) (hs : s.length ≤ 9223372036854775807) (w : World) (hL : Laid w) :
    Calls Tryd.prog 4 #[.agg #[.int .i64 x.op, .int .i64 x.rd, .int .i64 x.a, .int .i64 x.b, .int .i64 x.n], .agg #[.int .i64 y.op, .int .i64 y.rd, .int .i64 y.a, .int .i64 y.b, .int .i64 y.n], .string (bytesB s)] w fun e w' => e = .returned (.bool true) ∧ Below w.heap.size w w' := by
  have HL := Aside0.mk hL
  have HS0 := Aside0.mk (bst_new w x y)
  have HX := Aside0.mk (fun (W : World) hL => fixed_any W hL)
  have HPx := Aside0.mk (fun (W : World) hL => Print_any x W hL)
  have HPy := Aside0.mk (fun (W : World) hL => Print_any y W hL)
  obtain ⟨k, hk1⟩ : ∃ k : Nat, min s.length 100 = k := ⟨_, rfl⟩
  have hk2 : (k : Int) ≤ (s.length : Int) := by omega
  have hsz0 : (bytesB s).size = s.length := bytesB_size s
  have hmin : (if (100 : Int) < (s.length : Int) then (100 : Int) else (s.length : Int)) = (k : Int) := by split <;> omega
  have hmin2 : min (s.length : Int) 100 = (k : Int) := by omega
  have HT : Aside0 ((bytesB s).extract 0 k = bytesB (s.take 100) ∧ (s.take 100).length ≤ 100) := ⟨by
    rw [bytesB_take]
    congr 1
    rcases Nat.lt_or_ge s.length 100 with h | h
    · rw [List.take_of_length_le (by omega), List.take_of_length_le (by omega)]
    · congr 1; omega, by rw [List.length_take]; omega⟩
  clear hL
  go_enter Tryd.func4, Tryd.ntmps4
  obtain ⟨k0, k1, k2, k3, k4⟩ := HS0.out.bx
  go_wp2_with fail
  rw [HT.out.1]
  have HSL := Aside0.mk HT.out.2
  clear HT hmin hmin2 hk2 hk1 hsz0
  generalize s.take 100 = u at *
  refine (HPx.out _ (HL.out.below HS0.out.bel)).mono ?_
  rintro e W1 ⟨rfl, hb⟩
  have HS1 := Aside0.mk (HS0.out.below hb)
  clear hb HS0 k0 k1 k2 k3 k4
  obtain ⟨k0, k1, k2, k3, k4⟩ := HS1.out.bY
  go_wp2_with fail
  refine (HPy.out _ (HL.out.below HS1.out.bel)).mono ?_
  rintro e W2 ⟨rfl, hb⟩
  have HS2 := Aside0.mk (HS1.out.below hb)
  clear hb HS1 k0 k1 k2 k3 k4 HPx HPy
  have HA : Aside0 ((∃ z : I5, printT z = u ∧ printE z = 0 ∧ ∀ W, Laid W → Calls Tryd.prog 16 #[.string (bytesB u)] W fun e w' => e = .returned (.tuple #[.agg #[.int .i64 z.op, .int .i64 z.rd, .int .i64 z.a, .int .i64 z.b, .int .i64 z.n], .int .i64 0]) ∧ Below W.heap.size W w') ∨
      (∀ W, Laid W → Calls Tryd.prog 16 #[.string (bytesB u)] W fun e w' => e = .returned (.tuple #[.agg #[.int .i64 0, .int .i64 0, .int .i64 0, .int .i64 0, .int .i64 0], .int .i64 50]) ∧ Below W.heap.size W w')) := ⟨by
    have HA := fun W h => Parse_any u (by have := HSL.out; omega) W h
    rcases parseI_cases u (tryA u) with ⟨h1, h2, h3⟩ | h1
    · refine .inl ⟨tryA u, by unfold printT; rw [h2]; exact h3, by unfold printE; rw [h2]; rfl, fun W h => ?_⟩
      have := HA W h
      rw [show parseA u = (tryA u, 0) from h1] at this
      exact this
    · refine .inr fun W h => ?_
      have := HA W h
      rw [show parseA u = (zeroI, 50) from h1] at this
      exact this⟩
  cases hr : rightI x with
  | true =>
    have hpx : printT x = textI x ∧ printE x = 0 := by unfold printT printE; rw [hr]; exact ⟨rfl, rfl⟩
    have htl := textI_len hr
    have HPt : Aside0 (∀ W, Laid W → Calls Tryd.prog 16 #[.string (bytesB (textI x))] W fun e w' => e = .returned (.tuple #[.agg #[.int .i64 x.op, .int .i64 x.rd, .int .i64 x.a, .int .i64 x.b, .int .i64 x.n], .int .i64 0]) ∧ Below W.heap.size W w') := ⟨fun W h => by
      have := Parse_any (textI x) (by omega) W h
      rw [parseA_text hr] at this
      exact this⟩
    rw [hpx.1, hpx.2]
    have hcase : (rightI y = true ∧ printT y = textI y ∧ printE y = 0 ∧ ((textI y = textI x ∧ x = y) ∨ ((x.op == y.op && (x.rd == y.rd && (x.a == y.a && (x.b == y.b && (x.n == y.n))))) = false ∧ ((bytesB (textI x)).toList == (bytesB (textI y)).toList) = false))) ∨ (printE y = 20) := by
      cases hy : rightI y with
      | false => refine .inr ?_; unfold printE; rw [hy]; rfl
      | true =>
        refine .inl ⟨rfl, by unfold printT; rw [hy]; rfl, by unfold printE; rw [hy]; rfl, ?_⟩
        by_cases e : x = y
        · exact .inl ⟨by rw [e], e⟩
        · refine .inr ⟨ne_parts e, ?_⟩
          rw [toList_bytes, toList_bytes]
          simpa using (fun h => e (text_inj hr hy h))
    clear hpx htl hr
    have mid : (∃ t f, printT y = t ∧ printE y = f) := ⟨_, _, rfl, rfl⟩
    clear mid
    have Hcase := Aside0.mk hcase
    clear hcase
    generalize textI x = tx at *
    go_wp2_with fail
    refine (HPt.out _ (HL.out.below HS2.out.bel)).mono ?_
    rintro e W3 ⟨rfl, hb⟩
    have HS3 := Aside0.mk ((HS2.out.below hb).below (bel1 W3 (.cells #[.int .i64 x.op, .int .i64 x.rd, .int .i64 x.a, .int .i64 x.b, .int .i64 x.n] 23)))
    have HZ3 := Aside0.mk (Box5.new W3 x 23)
    clear hb HS2
    obtain ⟨k0, k1, k2, k3, k4⟩ := HS3.out.bx
    obtain ⟨j0, j1, j2, j3, j4⟩ := HS3.out.bY
    obtain ⟨i0, i1, i2, i3, i4⟩ := HZ3.out
    rcases Hcase.out with ⟨_, e1, e2, e3⟩ | e2
    · rw [e1, e2]
      rcases e3 with ⟨ht, rfl⟩ | ⟨q1, q2⟩
      · rw [ht]
        clear ht e1
        have hq := eq_parts x
        rcases HA.out with ⟨z, z1, z2, HAz⟩ | HAz
        · have HPz := Aside0.mk (fun (W : World) hL => Print_any z W hL)
          rw [z1, z2] at HPz
          have HAZ := Aside0.mk HAz
          clear z1 z2 HAz HA
          go_wp2_with fail
          refine (HAZ.out _ (HL.out.below HS3.out.bel)).mono ?_
          rintro e W5 ⟨rfl, hb⟩
          have HB5 := Aside0.mk (below_after (HS3.out.below hb).bel (bel1 W5 (.cells #[.int .i64 z.op, .int .i64 z.rd, .int .i64 z.a, .int .i64 z.b, .int .i64 z.n] 23)) (Nat.le_refl _))
          obtain ⟨k0, k1, k2, k3, k4⟩ := Box5.new W5 z 23
          clear hb
          go_wp2_with fail
          refine (HPz.out _ (HL.out.below HB5.out)).mono ?_
          rintro e W6 ⟨rfl, hb⟩
          have HB6 := Aside0.mk (below_after HB5.out hb (Nat.le_refl _))
          clear hb k0 k1 k2 k3 k4 HB5
          go_wp2_with fail
          refine (HX.out _ (HL.out.below HB6.out)).mono ?_
          rintro e W7 ⟨rfl, hb⟩
          have hfin := below_after HB6.out hb (Nat.le_refl _)
          go_wp2_with fail
          go_ret
          exact ⟨rfl, hfin⟩
        · have HAZ := Aside0.mk HAz
          clear HAz HA
          go_wp2_with fail
          refine (HAZ.out _ (HL.out.below HS3.out.bel)).mono ?_
          rintro e W5 ⟨rfl, hb⟩
          have HB5 := Aside0.mk (below_after (HS3.out.below hb).bel (bel1 W5 (.cells #[.int .i64 0, .int .i64 0, .int .i64 0, .int .i64 0, .int .i64 0] 23)) (Nat.le_refl _))
          obtain ⟨k0, k1, k2, k3, k4⟩ := Box5.new W5 zeroI 23
          clear hb
          go_wp2_with fail
          refine (HX.out _ (HL.out.below HB5.out)).mono ?_
          rintro e W7 ⟨rfl, hb⟩
          have hfin := below_after HB5.out hb (Nat.le_refl _)
          go_wp2_with fail
          go_ret
          exact ⟨rfl, hfin⟩
      · have hq := eq_parts x
        rcases HA.out with ⟨z, z1, z2, HAz⟩ | HAz
        · have HPz := Aside0.mk (fun (W : World) hL => Print_any z W hL)
          rw [z1, z2] at HPz
          have HAZ := Aside0.mk HAz
          clear z1 z2 HAz HA
          go_wp2_with fail
          refine (HAZ.out _ (HL.out.below HS3.out.bel)).mono ?_
          rintro e W5 ⟨rfl, hb⟩
          have HB5 := Aside0.mk (below_after (HS3.out.below hb).bel (bel1 W5 (.cells #[.int .i64 z.op, .int .i64 z.rd, .int .i64 z.a, .int .i64 z.b, .int .i64 z.n] 23)) (Nat.le_refl _))
          obtain ⟨k0, k1, k2, k3, k4⟩ := Box5.new W5 z 23
          clear hb
          go_wp2_with fail
          refine (HPz.out _ (HL.out.below HB5.out)).mono ?_
          rintro e W6 ⟨rfl, hb⟩
          have HB6 := Aside0.mk (below_after HB5.out hb (Nat.le_refl _))
          clear hb k0 k1 k2 k3 k4 HB5
          go_wp2_with fail
          refine (HX.out _ (HL.out.below HB6.out)).mono ?_
          rintro e W7 ⟨rfl, hb⟩
          have hfin := below_after HB6.out hb (Nat.le_refl _)
          go_wp2_with fail
          go_ret
          exact ⟨rfl, hfin⟩
        · have HAZ := Aside0.mk HAz
          clear HAz HA
          go_wp2_with fail
          refine (HAZ.out _ (HL.out.below HS3.out.bel)).mono ?_
          rintro e W5 ⟨rfl, hb⟩
          have HB5 := Aside0.mk (below_after (HS3.out.below hb).bel (bel1 W5 (.cells #[.int .i64 0, .int .i64 0, .int .i64 0, .int .i64 0, .int .i64 0] 23)) (Nat.le_refl _))
          obtain ⟨k0, k1, k2, k3, k4⟩ := Box5.new W5 zeroI 23
          clear hb
          go_wp2_with fail
          refine (HX.out _ (HL.out.below HB5.out)).mono ?_
          rintro e W7 ⟨rfl, hb⟩
          have hfin := below_after HB5.out hb (Nat.le_refl _)
          go_wp2_with fail
          go_ret
          exact ⟨rfl, hfin⟩
    · rw [e2]
      have hq := eq_parts x
      rcases HA.out with ⟨z, z1, z2, HAz⟩ | HAz
      · have HPz := Aside0.mk (fun (W : World) hL => Print_any z W hL)
        rw [z1, z2] at HPz
        have HAZ := Aside0.mk HAz
        clear z1 z2 HAz HA
        go_wp2_with fail
        refine (HAZ.out _ (HL.out.below HS3.out.bel)).mono ?_
        rintro e W5 ⟨rfl, hb⟩
        have HB5 := Aside0.mk (below_after (HS3.out.below hb).bel (bel1 W5 (.cells #[.int .i64 z.op, .int .i64 z.rd, .int .i64 z.a, .int .i64 z.b, .int .i64 z.n] 23)) (Nat.le_refl _))
        obtain ⟨k0, k1, k2, k3, k4⟩ := Box5.new W5 z 23
        clear hb
        go_wp2_with fail
        refine (HPz.out _ (HL.out.below HB5.out)).mono ?_
        rintro e W6 ⟨rfl, hb⟩
        have HB6 := Aside0.mk (below_after HB5.out hb (Nat.le_refl _))
        clear hb k0 k1 k2 k3 k4 HB5
        go_wp2_with fail
        refine (HX.out _ (HL.out.below HB6.out)).mono ?_
        rintro e W7 ⟨rfl, hb⟩
        have hfin := below_after HB6.out hb (Nat.le_refl _)
        go_wp2_with fail
        go_ret
        exact ⟨rfl, hfin⟩
      · have HAZ := Aside0.mk HAz
        clear HAz HA
        go_wp2_with fail
        refine (HAZ.out _ (HL.out.below HS3.out.bel)).mono ?_
        rintro e W5 ⟨rfl, hb⟩
        have HB5 := Aside0.mk (below_after (HS3.out.below hb).bel (bel1 W5 (.cells #[.int .i64 0, .int .i64 0, .int .i64 0, .int .i64 0, .int .i64 0] 23)) (Nat.le_refl _))
        obtain ⟨k0, k1, k2, k3, k4⟩ := Box5.new W5 zeroI 23
        clear hb
        go_wp2_with fail
        refine (HX.out _ (HL.out.below HB5.out)).mono ?_
        rintro e W7 ⟨rfl, hb⟩
        have hfin := below_after HB5.out hb (Nat.le_refl _)
        go_wp2_with fail
        go_ret
        exact ⟨rfl, hfin⟩
  | false =>
    have hpx : printE x = 20 := by unfold printE; rw [hr]; rfl
    rw [hpx]
    clear hpx hr
    rcases HA.out with ⟨z, z1, z2, HAz⟩ | HAz
    · have HPz := Aside0.mk (fun (W : World) hL => Print_any z W hL)
      rw [z1, z2] at HPz
      have HAZ := Aside0.mk HAz
      clear z1 z2 HAz HA
      go_wp2_with fail
      refine (HAZ.out _ (HL.out.below HS2.out.bel)).mono ?_
      rintro e W5 ⟨rfl, hb⟩
      have HB5 := Aside0.mk (below_after (HS2.out.below hb).bel (bel1 W5 (.cells #[.int .i64 z.op, .int .i64 z.rd, .int .i64 z.a, .int .i64 z.b, .int .i64 z.n] 23)) (Nat.le_refl _))
      obtain ⟨k0, k1, k2, k3, k4⟩ := Box5.new W5 z 23
      clear hb
      go_wp2_with fail
      refine (HPz.out _ (HL.out.below HB5.out)).mono ?_
      rintro e W6 ⟨rfl, hb⟩
      have HB6 := Aside0.mk (below_after HB5.out hb (Nat.le_refl _))
      clear hb k0 k1 k2 k3 k4 HB5
      go_wp2_with fail
      refine (HX.out _ (HL.out.below HB6.out)).mono ?_
      rintro e W7 ⟨rfl, hb⟩
      have hfin := below_after HB6.out hb (Nat.le_refl _)
      go_wp2_with fail
      go_ret
      exact ⟨rfl, hfin⟩
    · have HAZ := Aside0.mk HAz
      clear HAz HA
      go_wp2_with fail
      refine (HAZ.out _ (HL.out.below HS2.out.bel)).mono ?_
      rintro e W5 ⟨rfl, hb⟩
      have HB5 := Aside0.mk (below_after (HS2.out.below hb).bel (bel1 W5 (.cells #[.int .i64 0, .int .i64 0, .int .i64 0, .int .i64 0, .int .i64 0] 23)) (Nat.le_refl _))
      obtain ⟨k0, k1, k2, k3, k4⟩ := Box5.new W5 zeroI 23
      clear hb
      go_wp2_with fail
      refine (HX.out _ (HL.out.below HB5.out)).mono ?_
      rintro e W7 ⟨rfl, hb⟩
      have hfin := below_after HB5.out hb (Nat.le_refl _)
      go_wp2_with fail
      go_ret
      exact ⟨rfl, hfin⟩
end Go.Proofs.YtdgkbigmdadlaaaDoor
