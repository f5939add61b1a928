import Derived.Test.YtdgkbigmdadlaaaGreatDoorAsmD
namespace Go.Proofs.YtdgkbigmdadlaaaGreatDoor
open Go.RowKit Go.Lib Go.Proofs.YtdgkbigmdadlaaaGreatDoorW.PrintWords Go.Proofs.YtdgkbigmdadlaaaGreatDoorW.PrintLast
set_option linter.unusedVariables false
set_option linter.unusedSimpArgs false

abbrev I5.v (x : I5) : Value := .agg #[.int .i64 x.op, .int .i64 x.rd, .int .i64 x.a, .int .i64 x.b, .int .i64 x.n]
/-- An instruction in a box. -/
structure Box5 (W : World) (g : Nat) (x : I5) : Prop where
  c0 : W.cell? ⟨g, 0, none⟩ = some (.int .i64 x.op)
  c1 : W.cell? ⟨g, 1, none⟩ = some (.int .i64 x.rd)
  c2 : W.cell? ⟨g, 2, none⟩ = some (.int .i64 x.a)
  c3 : W.cell? ⟨g, 3, none⟩ = some (.int .i64 x.b)
  c4 : W.cell? ⟨g, 4, none⟩ = some (.int .i64 x.n)
theorem Box5.below {W W' : World} {g : Nat} {x : I5} (h : Box5 W g x) (hb : Below W.heap.size W W') : Box5 W' g x where
  c0 := (hb.cell (World.block_lt_of_cell? W _ h.c0)).trans h.c0
  c1 := (hb.cell (World.block_lt_of_cell? W _ h.c1)).trans h.c1
  c2 := (hb.cell (World.block_lt_of_cell? W _ h.c2)).trans h.c2
  c3 := (hb.cell (World.block_lt_of_cell? W _ h.c3)).trans h.c3
  c4 := (hb.cell (World.block_lt_of_cell? W _ h.c4)).trans h.c4
theorem Box5.new (w : World) (x : I5) (t : TypeId) : Box5 (w.alloc (.cells #[.int .i64 x.op, .int .i64 x.rd, .int .i64 x.a, .int .i64 x.b, .int .i64 x.n] t)) w.heap.size x :=
  ⟨cell_new _ _ _ 0, cell_new _ _ _ 1, cell_new _ _ _ 2, cell_new _ _ _ 3, cell_new _ _ _ 4⟩

theorem ret_bool {a b : Bool} (h : a = b) : Ending.returned (.bool a) = .returned (.bool b) := by rw [h]
set_option maxHeartbeats 4000000 in
set_option maxRecDepth 100000 in
theorem Right_any (x : I5) (w : World) : Calls Tryz.prog 33 #[.agg #[.int .i64 x.op, .int .i64 x.rd, .int .i64 x.a, .int .i64 x.b, .int .i64 x.n]] w fun e w' => e = .returned (.bool (rightI x)) ∧ Below w.heap.size w w' := by
  have HX := Aside0.mk (Box5.new w x 23)
  have HF := Form_any x.op (w.alloc (.cells #[.int .i64 x.op, .int .i64 x.rd, .int .i64 x.a, .int .i64 x.b, .int .i64 x.n] 23))
  have HH := Aside0.mk (fun (W : World) => has_any (formI x.op) W)
  have H1 := Aside0.mk (fun (W : World) => iregister_any (has1 (formI x.op)) x.rd W)
  have H2 := Aside0.mk (fun (W : World) => iregister_any (has2 (formI x.op)) x.a W)
  have H3 := Aside0.mk (fun (W : World) => iregister_any (has3 (formI x.op)) x.b W)
  have H4 := Aside0.mk (fun (W : World) => inumber_any (formI x.op) x.n W)
  unfold rightI
  generalize has1 (formI x.op) = b1 at *
  generalize has2 (formI x.op) = b2 at *
  generalize has3 (formI x.op) = b3 at *
  generalize regOk b1 x.rd = r1 at *
  generalize regOk b2 x.a = r2 at *
  generalize regOk b3 x.b = r3 at *
  generalize numOk (formI x.op) x.n = r4 at *
  generalize formI x.op = f at *
  by_cases hf : f = 0
  · subst hf
    go_enter Tryz.func33, Tryz.ntmps33
    go_wp2_with fail
    refine HF.mono ?_
    rintro e W1 ⟨rfl, hb⟩
    have hfin := below_after (bel1 w (.cells #[.int .i64 x.op, .int .i64 x.rd, .int .i64 x.a, .int .i64 x.b, .int .i64 x.n] 23)) hb (Nat.le_refl _)
    clear hb
    go_wp2_with fail
    refine (HH.out _).mono ?_
    rintro e W2 ⟨rfl, ⟨q, rfl⟩⟩
    go_wp2_with fail
    go_ret
    exact ⟨rfl, pw_below_drewN hfin q⟩
  · have hf2 : (f != 0) = true := by simpa using hf
    have hf3 : decide (f = 0) = false := by simpa using hf
    rw [hf3]
    clear hf hf3
    cases r1
    · go_enter Tryz.func33, Tryz.ntmps33
      go_wp2_with fail
      refine HF.mono ?_
      rintro e W1 ⟨rfl, hb⟩
      have hfin := below_after (bel1 w (.cells #[.int .i64 x.op, .int .i64 x.rd, .int .i64 x.a, .int .i64 x.b, .int .i64 x.n] 23)) hb (Nat.le_refl _)
      obtain ⟨k0, k1, k2, k3, k4⟩ := HX.out.below hb
      clear hb
      go_wp2_with fail
      refine (HH.out _).mono ?_
      rintro e W2 ⟨rfl, ⟨q, rfl⟩⟩
      go_wp2_with fail
      refine (H1.out _).mono ?_
      rintro e W3 ⟨rfl, ⟨q1, rfl⟩⟩
      go_wp2_with fail
      go_ret
      exact ⟨ret_bool (by simp), by repeat' (first | exact hfin | refine pw_below_drewN ?_ _)⟩
    cases r2
    · go_enter Tryz.func33, Tryz.ntmps33
      go_wp2_with fail
      refine HF.mono ?_
      rintro e W1 ⟨rfl, hb⟩
      have hfin := below_after (bel1 w (.cells #[.int .i64 x.op, .int .i64 x.rd, .int .i64 x.a, .int .i64 x.b, .int .i64 x.n] 23)) hb (Nat.le_refl _)
      obtain ⟨k0, k1, k2, k3, k4⟩ := HX.out.below hb
      clear hb
      go_wp2_with fail
      refine (HH.out _).mono ?_
      rintro e W2 ⟨rfl, ⟨q, rfl⟩⟩
      go_wp2_with fail
      refine (H1.out _).mono ?_
      rintro e W3 ⟨rfl, ⟨q1, rfl⟩⟩
      go_wp2_with fail
      refine (H2.out _).mono ?_
      rintro e W4 ⟨rfl, ⟨q2, rfl⟩⟩
      go_wp2_with fail
      go_ret
      exact ⟨ret_bool (by simp), by repeat' (first | exact hfin | refine pw_below_drewN ?_ _)⟩
    cases r3
    · go_enter Tryz.func33, Tryz.ntmps33
      go_wp2_with fail
      refine HF.mono ?_
      rintro e W1 ⟨rfl, hb⟩
      have hfin := below_after (bel1 w (.cells #[.int .i64 x.op, .int .i64 x.rd, .int .i64 x.a, .int .i64 x.b, .int .i64 x.n] 23)) hb (Nat.le_refl _)
      obtain ⟨k0, k1, k2, k3, k4⟩ := HX.out.below hb
      clear hb
      go_wp2_with fail
      refine (HH.out _).mono ?_
      rintro e W2 ⟨rfl, ⟨q, rfl⟩⟩
      go_wp2_with fail
      refine (H1.out _).mono ?_
      rintro e W3 ⟨rfl, ⟨q1, rfl⟩⟩
      go_wp2_with fail
      refine (H2.out _).mono ?_
      rintro e W4 ⟨rfl, ⟨q2, rfl⟩⟩
      go_wp2_with fail
      refine (H3.out _).mono ?_
      rintro e W5 ⟨rfl, ⟨q3, rfl⟩⟩
      go_wp2_with fail
      go_ret
      exact ⟨ret_bool (by simp), by repeat' (first | exact hfin | refine pw_below_drewN ?_ _)⟩
    · go_enter Tryz.func33, Tryz.ntmps33
      go_wp2_with fail
      refine HF.mono ?_
      rintro e W1 ⟨rfl, hb⟩
      have hfin := below_after (bel1 w (.cells #[.int .i64 x.op, .int .i64 x.rd, .int .i64 x.a, .int .i64 x.b, .int .i64 x.n] 23)) hb (Nat.le_refl _)
      obtain ⟨k0, k1, k2, k3, k4⟩ := HX.out.below hb
      clear hb
      go_wp2_with fail
      refine (HH.out _).mono ?_
      rintro e W2 ⟨rfl, ⟨q, rfl⟩⟩
      go_wp2_with fail
      refine (H1.out _).mono ?_
      rintro e W3 ⟨rfl, ⟨q1, rfl⟩⟩
      go_wp2_with fail
      refine (H2.out _).mono ?_
      rintro e W4 ⟨rfl, ⟨q2, rfl⟩⟩
      go_wp2_with fail
      refine (H3.out _).mono ?_
      rintro e W5 ⟨rfl, ⟨q3, rfl⟩⟩
      go_wp2_with fail
      refine (H4.out _).mono ?_
      rintro e W6 ⟨rfl, ⟨q4, rfl⟩⟩
      go_wp2_with fail
      go_ret
      exact ⟨ret_bool (by simp), by repeat' (first | exact hfin | refine pw_below_drewN ?_ _)⟩

/-! texts -/
theorem cat_reg (n : Int) : (⟨#[120]⟩ : ByteArray) ++ itoaB n = bytesB (regL n) := bytesB_app [120] _
theorem cat_at1 (n : Int) : itoaB n ++ (⟨#[40]⟩ : ByteArray) = bytesB (Lib.itoa n ++ [40]) := bytesB_app _ [40]
theorem cat_at2 (n r : Int) : (bytesB (Lib.itoa n ++ [40]) ++ bytesB (regL r)) ++ (⟨#[41]⟩ : ByteArray) = bytesB (atL n r) := by
  rw [bytesB_app]
  refine (bytesB_app _ [41]).trans ?_
  congr 1
  unfold atL; simp
theorem itoa_len (n : Int) (h : -9223372036854775808 ≤ n ∧ n ≤ 9223372036854775807) : (Lib.itoa n).length ≤ 21 := Lib.itoa_length_le n h.1 h.2
theorem regL_len (n : Int) (h : -9223372036854775808 ≤ n ∧ n ≤ 9223372036854775807) : (regL n).length ≤ 22 := by have := itoa_len n h; unfold regL; simp; omega
theorem atL_len (n r : Int) (h : -9223372036854775808 ≤ n ∧ n ≤ 9223372036854775807) (h2 : -9223372036854775808 ≤ r ∧ r ≤ 9223372036854775807) : (atL n r).length ≤ 45 := by have := itoa_len n h; have := regL_len r h2; unfold atL; simp; omega
set_option maxHeartbeats 1000000 in
set_option maxRecDepth 100000 in
theorem reg_any (n : Int) (h : -9223372036854775808 ≤ n ∧ n ≤ 9223372036854775807) (w : World) (hL : Laid w) : Calls Tryz.prog 36 #[.int .i64 n] w fun e w' => e = .returned (.string (bytesB (regL n))) ∧ Below w.heap.size w w' := by
  have HI := Itoa_below n h.1 h.2 w hL
  have hs := itoaB_size n h.1 h.2
  have hf : (9223372036854775807 < 1 + (itoaB n).size) = False := eq_false (by omega)
  have hf2 : (9223372036854775807 < (itoaB n).size + 1) = False := eq_false (by omega)
  clear hL h
  go_enter Tryz.func36, Tryz.ntmps36
  go_wp2_with (go_at_call 34; refine HI.mono ?_; rintro e w' ⟨rfl, hb⟩)
  go_ret
  rw [cat_reg]
  exact ⟨rfl, hb⟩
set_option maxHeartbeats 1000000 in
set_option maxRecDepth 100000 in
theorem at_any (n r : Int) (h : -9223372036854775808 ≤ n ∧ n ≤ 9223372036854775807) (h2 : -9223372036854775808 ≤ r ∧ r ≤ 9223372036854775807) (w : World) (hL : Laid w) : Calls Tryz.prog 37 #[.int .i64 n, .int .i64 r] w fun e w' => e = .returned (.string (bytesB (atL n r))) ∧ Below w.heap.size w w' := by
  have HI := Itoa_below n h.1 h.2 w hL
  have HR := Aside0.mk (fun (W : World) hL => reg_any r h2 W hL)
  have HL := Aside0.mk hL
  have HC := Aside0.mk (cat_at2 n r)
  have HC1 := Aside0.mk (cat_at1 n)
  have hs1 : (itoaB n).size ≤ 21 := itoaB_size n h.1 h.2
  have hs2 : (bytesB (regL r)).size ≤ 22 := by rw [bytesB_size]; exact regL_len r h2
  clear hL h h2
  generalize bytesB (regL r) = t at *
  generalize bytesB (atL n r) = u at *
  have hf : (9223372036854775807 < (itoaB n).size + 1) = False := eq_false (by omega)
  have hf2 : (9223372036854775807 < (itoaB n).size + 1 + t.size) = False := eq_false (by omega)
  have hf3 : (9223372036854775807 < (itoaB n).size + 1 + t.size + 1) = False := eq_false (by omega)
  go_enter Tryz.func37, Tryz.ntmps37
  go_wp2_with fail
  refine HI.mono ?_
  rintro e w1 ⟨rfl, hb⟩
  have hr := HR.out w1 (HL.out.below hb)
  go_wp2_with fail
  refine hr.mono ?_
  rintro e w2 ⟨rfl, hb2⟩
  go_wp2_with fail
  go_ret
  rw [HC1.out, HC.out]
  exact ⟨rfl, below_after hb hb2 (Nat.le_refl _)⟩
theorem join_two (a b : List UInt8) : Lib.join [a, b] [44, 32] = two a b := by rw [Lib.join_cons]; simp [Lib.joinTail, two]
theorem join_three (a b c : List UInt8) : Lib.join [a, b, c] [44, 32] = three a b c := by rw [Lib.join_cons]; simp [Lib.joinTail, three]
set_option maxHeartbeats 1000000 in
set_option maxRecDepth 100000 in
theorem list_any (xs : List (List UInt8)) (bk : Nat) (w : World) (hb : w.heap[bk]? = some (.cells (xs.map fun l => Value.string (bytesB l)).toArray 9 (0, 0))) (hn : xs.length ≤ 1000) (hlen : (Lib.join xs [44, 32]).length ≤ 140737488355328) :
    Calls Tryz.prog 35 #[.slice (some ⟨bk, 0, none⟩) xs.length xs.length] w fun e w' => e = .returned (.string (bytesB (Lib.join xs [44, 32]))) ∧ Below w.heap.size w w' := by
  have hlt : bk < w.heap.size := by
    rcases Nat.lt_or_ge bk w.heap.size with h' | h'
    · exact h'
    · rw [Array.getElem?_eq_none h'] at hb; cases hb
  have hm : (xs.map bytesB).map (·.data.toList) = xs := by
    rw [List.map_map]
    conv => rhs; rw [← List.map_id xs]
    exact List.map_congr_left fun l _ => rfl
  have HJ := Tryz.strings_Join bk 0 xs.length (xs.map bytesB) ⟨#[44, 32]⟩ w (fun j y hj => by
    rw [List.getElem?_map] at hj
    obtain ⟨l, hl, rfl⟩ := Option.map_eq_some_iff.1 hj
    rw [Nat.zero_add, Lib.cell_of_heap hb]
    simp [hl]) hlt (by rw [List.length_map]; omega) (by rw [List.length_map]; exact Nat.le_refl _) (by rw [hm]; exact hlen)
  rw [hm, List.length_map] at HJ
  change Calls _ _ _ _ (fun e w' => e = .returned (.string (bytesB (Lib.join xs [44, 32]))) ∧ _) at HJ
  generalize bytesB (Lib.join xs [44, 32]) = r at *
  clear hm hlen hn hb hlt
  generalize xs.length = k at *
  go_enter Tryz.func35, Tryz.ntmps35
  go_wp2_with (go_at_call 57; refine HJ.mono ?_; rintro e w' ⟨rfl, hb⟩)
  go_ret
  exact ⟨rfl, hb⟩
theorem list2_any (a b : List UInt8) (bk : Nat) (w : World) (hb : w.heap[bk]? = some (.cells #[.string (bytesB a), .string (bytesB b)] 9 (0, 0))) (ha : a.length ≤ 100000) (hb2 : b.length ≤ 100000) :
    Calls Tryz.prog 35 #[.slice (some ⟨bk, 0, none⟩) 2 2] w fun e w' => e = .returned (.string (bytesB (two a b))) ∧ Below w.heap.size w w' := by
  have := list_any [a, b] bk w hb (by simp) (by rw [join_two]; unfold two; simp; omega)
  rwa [join_two] at this
theorem list3_any (a b c : List UInt8) (bk : Nat) (w : World) (hb : w.heap[bk]? = some (.cells #[.string (bytesB a), .string (bytesB b), .string (bytesB c)] 9 (0, 0))) (ha : a.length ≤ 100000) (hb2 : b.length ≤ 100000) (hc : c.length ≤ 100000) :
    Calls Tryz.prog 35 #[.slice (some ⟨bk, 0, none⟩) 3 3] w fun e w' => e = .returned (.string (bytesB (three a b c))) ∧ Below w.heap.size w w' := by
  have := list_any [a, b, c] bk w hb (by simp) (by rw [join_three]; unfold three; simp; omega)
  rwa [join_three] at this
end Go.Proofs.YtdgkbigmdadlaaaGreatDoor
