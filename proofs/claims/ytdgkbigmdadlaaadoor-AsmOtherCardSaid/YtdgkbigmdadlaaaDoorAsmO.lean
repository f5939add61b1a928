import Derived.Test.YtdgkbigmdadlaaaDoorAsmN
namespace Go.Proofs.YtdgkbigmdadlaaaDoor
open Go.RowKit Go.Lib Go.Proofs.YtdgkbigmdadlaaaDoorW.PrintWords Go.Proofs.YtdgkbigmdadlaaaDoorW.PrintLast
attribute [local go_sem high] eqA23
set_option linter.unusedVariables false
set_option linter.unusedSimpArgs false

theorem text_begins (x : I5) : ∃ r, textI x = nameL x.op ++ r := by
  unfold textI
  split
  · exact ⟨[], by simp⟩
  · exact ⟨_, rfl⟩
theorem text_head (x : I5) : (bytesB (nameL x.op)).size ≤ (bytesB (textI x)).size ∧ (bytesB (textI x)).extract 0 (bytesB (nameL x.op)).size = bytesB (nameL x.op) := by
  obtain ⟨r, hr⟩ := text_begins x
  rw [hr, bytesB_size, bytesB_size]
  refine ⟨by simp, ?_⟩
  rw [bytesB_take]
  simp
set_option maxHeartbeats 8000000 in
set_option maxRecDepth 100000 in
theorem AsmOther_any (x : I5) (rd n : Int) (w : World) (hL : Laid w) :
    Calls Tryd.prog 6 #[.agg #[.int .i64 x.op, .int .i64 x.rd, .int .i64 x.a, .int .i64 x.b, .int .i64 x.n], .int .i64 rd, .int .i64 n] w fun e w' => e = .returned (.bool true) ∧ Below w.heap.size w w' := by
  have HL := Aside0.mk hL
  have HS0 : Aside0 (BSt w ((w.alloc (.cells #[.int .i64 x.op, .int .i64 x.rd, .int .i64 x.a, .int .i64 x.b, .int .i64 x.n] 23)).alloc (.cells #[.int .i64 x.op, .int .i64 rd, .int .i64 x.a, .int .i64 x.b, .int .i64 n] 23)) x ⟨x.op, rd, x.a, x.b, n⟩) := ⟨bst_new w x ⟨x.op, rd, x.a, x.b, n⟩⟩
  have HX := Aside0.mk (fun (W : World) hL => fixed_any W hL)
  have HPx := Aside0.mk (fun (W : World) hL => Print_any x W hL)
  have HPy : Aside0 (∀ W, Laid W → Calls Tryd.prog 9 #[.agg #[.int .i64 x.op, .int .i64 rd, .int .i64 x.a, .int .i64 x.b, .int .i64 n]] W fun e w' => e = .returned (.tuple #[.string (bytesB (printT ⟨x.op, rd, x.a, x.b, n⟩)), .int .i64 (printE ⟨x.op, rd, x.a, x.b, n⟩)]) ∧ Below W.heap.size W w') := ⟨fun W h => Print_any ⟨x.op, rd, x.a, x.b, n⟩ W h⟩
  have HN := Aside0.mk (fun (W : World) => Name_any x.op W)
  have hcase : (∃ tx ty, printT x = tx ∧ printT ⟨x.op, rd, x.a, x.b, n⟩ = ty ∧ printE x = 0 ∧ printE ⟨x.op, rd, x.a, x.b, n⟩ = 0 ∧
      ((bytesB (nameL x.op)).size ≤ (bytesB tx).size ∧ (bytesB tx).extract 0 (bytesB (nameL x.op)).size = bytesB (nameL x.op)) ∧ ((bytesB (nameL x.op)).size ≤ (bytesB ty).size ∧ (bytesB ty).extract 0 (bytesB (nameL x.op)).size = bytesB (nameL x.op)) ∧ tx.length ≤ 165 ∧ ty.length ≤ 165 ∧
      ((x.rd = rd ∧ x.n = n ∧ ty = tx) ∨ ((x.rd == rd) = false ∧ ((bytesB tx).toList == (bytesB ty).toList) = false) ∨ (x.rd = rd ∧ (x.n == n) = false ∧ ((bytesB tx).toList == (bytesB ty).toList) = false))) ∨ (printE x = 0 ∧ printE ⟨x.op, rd, x.a, x.b, n⟩ = 20) ∨ (printE x = 20) := by
    cases h1 : rightI x with
    | false => exact .inr (.inr (by unfold printE; rw [h1]; rfl))
    | true =>
      cases h2 : rightI ⟨x.op, rd, x.a, x.b, n⟩ with
      | true =>
        refine .inl ⟨textI x, textI ⟨x.op, rd, x.a, x.b, n⟩, by unfold printT; rw [h1]; rfl, by unfold printT; rw [h2]; rfl, by unfold printE; rw [h1]; rfl, by unfold printE; rw [h2]; rfl, text_head x, text_head ⟨x.op, rd, x.a, x.b, n⟩, textI_len h1, textI_len h2, ?_⟩
        have hne : x ≠ ⟨x.op, rd, x.a, x.b, n⟩ → ((bytesB (textI x)).toList == (bytesB (textI ⟨x.op, rd, x.a, x.b, n⟩)).toList) = false := fun e => by
          rw [toList_bytes, toList_bytes]
          simpa using (fun h => e (text_inj h1 h2 h))
        by_cases e1 : x.rd = rd
        · by_cases e2 : x.n = n
          · refine .inl ⟨e1, e2, ?_⟩
            congr 1
            subst e1 e2
            rfl
          · exact .inr (.inr ⟨e1, by simpa using e2, hne (fun e => e2 (congrArg I5.n e))⟩)
        · exact .inr (.inl ⟨by simpa using e1, hne (fun e => e1 (congrArg I5.rd e))⟩)
      | false => exact .inr (.inl ⟨by unfold printE; rw [h1]; rfl, by unfold printE; rw [h2]; rfl⟩)
  generalize printT ⟨x.op, rd, x.a, x.b, n⟩ = ty0 at *
  generalize printE ⟨x.op, rd, x.a, x.b, n⟩ = ey at *
  generalize printT x = tx0 at *
  generalize printE x = ex at *
  have hnl : (bytesB (nameL x.op)).size ≤ 6 := by
    rw [bytesB_size]
    rcases Classical.em (0 ≤ x.op ∧ x.op < 47) with h | h
    · exact (name_in h).2.2.2
    · rw [name_off h]; simp
  generalize bytesB (nameL x.op) = nm at *
  clear hL
  have HC := Aside0.mk hcase
  clear hcase
  go_enter Tryd.func6, Tryd.ntmps6
  go_wp2_with fail
  refine (HPx.out _ (HL.out.below HS0.out.bel)).mono ?_
  rintro e W1 ⟨rfl, hb⟩
  have HS1 := Aside0.mk (HS0.out.below hb)
  clear hb HS0 HPx
  obtain ⟨j0, j1, j2, j3, j4⟩ := HS1.out.bY
  dsimp only at j0 j1 j2 j3 j4
  go_wp2_with fail
  refine (HPy.out _ (HL.out.below HS1.out.bel)).mono ?_
  rintro e W2 ⟨rfl, hb⟩
  have HS2 := Aside0.mk (HS1.out.below hb)
  clear hb HS1 HPy j0 j1 j2 j3 j4
  rcases HC.out with ⟨_, _, rfl, rfl, rfl, rfl, ⟨a1, a2⟩, ⟨b1, b2⟩, l1, l2, hc⟩ | ⟨rfl, rfl⟩ | rfl
  · have z1 : (bytesB tx0).size ≤ 165 := by rw [bytesB_size]; exact l1
    have z2 : (bytesB ty0).size ≤ 165 := by rw [bytesB_size]; exact l2
    obtain ⟨k0, k1, k2, k3, k4⟩ := HS2.out.bx
    clear l1 l2 HC
    have HCC := Aside0.mk hc
    clear hc
    go_wp2_with fail
    refine (HN.out _).mono ?_
    rintro e W3 ⟨rfl, hb⟩
    have HS3 := Aside0.mk (HS2.out.below hb)
    clear hb HS2 k0 k1 k2 k3 k4
    obtain ⟨k0, k1, k2, k3, k4⟩ := HS3.out.bx
    obtain ⟨j0, j1, j2, j3, j4⟩ := HS3.out.bY
    dsimp only at j0 j1 j2 j3 j4
    have g1 : ((nm.size : Nat) : Int) ≤ ((bytesB tx0).size : Int) := by omega
    have g2 : ((nm.size : Nat) : Int) ≤ ((bytesB ty0).size : Int) := by omega
    rcases HCC.out with ⟨rfl, rfl, rfl⟩ | ⟨q1, q2⟩ | ⟨rfl, q1, q2⟩
    all_goals
      try generalize bytesB tx0 = A at *
      try generalize bytesB ty0 = B at *
      go_wp2_with fail
      refine (HX.out _ (HL.out.below HS3.out.bel)).mono ?_
      rintro e W4 ⟨rfl, hb⟩
      have hfin := below_after HS3.out.bel hb (Nat.le_refl _)
      go_wp2_with fail
      go_ret
      exact ⟨rfl, hfin⟩
  all_goals
    go_wp2_with fail
    refine (HX.out _ (HL.out.below HS2.out.bel)).mono ?_
    rintro e W4 ⟨rfl, hb⟩
    have hfin := below_after HS2.out.bel hb (Nat.le_refl _)
    go_wp2_with fail
    go_ret
    exact ⟨rfl, hfin⟩
end Go.Proofs.YtdgkbigmdadlaaaDoor
