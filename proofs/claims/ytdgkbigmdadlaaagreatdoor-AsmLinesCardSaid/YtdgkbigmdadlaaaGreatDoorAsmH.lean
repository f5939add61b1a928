import Derived.Test.YtdgkbigmdadlaaaGreatDoorAsmGb
namespace Go.Proofs.YtdgkbigmdadlaaaGreatDoor
open Go.RowKit Go.Lib Go.Proofs.YtdgkbigmdadlaaaGreatDoorW.PrintWords Go.Proofs.YtdgkbigmdadlaaaGreatDoorW.PrintLast
set_option linter.unusedVariables false
set_option linter.unusedSimpArgs false

theorem splitK_len (sep : List UInt8) : ∀ (k : Nat) (s : List UInt8), ∀ p ∈ Lib.splitK sep 0 k s, p.length ≤ s.length
  | 0, s, p, hp => by rw [Lib.splitK] at hp; simp at hp; subst hp; exact Nat.le_refl _
  | k + 1, s, p, hp => by
    unfold Lib.splitK at hp
    split at hp
    · simp at hp; subst hp; exact Nat.le_refl _
    · rcases List.mem_cons.1 hp with rfl | hp
      · rw [List.length_take]; omega
      · have := splitK_len sep k _ p hp
        rw [List.length_drop] at this
        omega
theorem splitB_is (s sep : ByteArray) (k : Nat) : Lib.splitB sep 0 k s = (Lib.splitK sep.data.toList 0 k s.data.toList).map bytesB := by
  rw [← Lib.splitB_data, List.map_map]
  conv => lhs; rw [← List.map_id (Lib.splitB sep 0 k s)]
  exact List.map_congr_left fun b _ => rfl
theorem Split_any (l : List UInt8) (hl : l.length ≤ 1000000) (w : World) (hL : Laid w) :
    Calls Tryz.prog 16 #[.string (bytesB l), .string ⟨#[44, 32]⟩] w fun e w' => e = .returned (.slice (some ⟨w.heap.size, 0, none⟩) (Lib.split l [44, 32]).length (Lib.split l [44, 32]).length) ∧ w' = w.alloc (.cells ((Lib.split l [44, 32]).map fun l => Value.string (bytesB l)).toArray 9) := by
  obtain ⟨m, hm⟩ := hL.maxl
  refine (Tryz.strings_Split (bytesB l) ⟨#[44, 32]⟩ m w (by rw [bytesB_size]; omega) hm (by decide)).mono ?_
  rintro e w' ⟨h1, h2⟩
  have e1 : Lib.splitB ⟨#[44, 32]⟩ 0 (Lib.countB (bytesB l) ⟨#[44, 32]⟩) (bytesB l) = (Lib.split l [44, 32]).map bytesB := splitB_is _ _ _
  have e2 := Lib.splitB_all ⟨#[44, 32]⟩ (by decide) 0 _ (bytesB l) rfl
  rw [e1, List.length_map] at e2
  rw [e2, h1, h2, e1, List.map_map]
  exact ⟨rfl, rfl⟩
theorem split_len (l : List UInt8) : ∀ p ∈ Lib.split l [44, 32], p.length ≤ l.length := splitK_len _ _ _
/-- The state of asm.Parse behind fill. -/
structure HSt (w W : World) (bx : Nat) (x : I5) : Prop where
  res : W.heap[w.heap.size]? = some (.cells #[.int .i64 0, .int .i64 0, .int .i64 0, .int .i64 0, .int .i64 0] 23 (0, 0))
  box : W.heap[bx]? = some (.cells #[.int .i64 x.op, .int .i64 x.rd, .int .i64 x.a, .int .i64 x.b, .int .i64 x.n] 23 (0, 0))
  bel : Below w.heap.size w W
theorem HSt.below {w W W' : World} {bx : Nat} {x : I5} (h : HSt w W bx x) (hb : Below W.heap.size W W') : HSt w W' bx x := ⟨below_blk h.res hb, below_blk h.box hb, below_after h.bel hb (Nat.le_refl _)⟩
set_option maxHeartbeats 4000000 in
set_option maxRecDepth 100000 in
theorem Parse_any (s : List UInt8) (hl : s.length ≤ 100000) (w : World) (hL : Laid w) :
    Calls Tryz.prog 5 #[.string (bytesB s)] w fun e w' => e = .returned (.tuple #[.agg #[.int .i64 (parseA s).1.op, .int .i64 (parseA s).1.rd, .int .i64 (parseA s).1.a, .int .i64 (parseA s).1.b, .int .i64 (parseA s).1.n], .int .i64 (parseA s).2]) ∧ Below w.heap.size w w' := by
  have HL := Aside0.mk hL
  have hcl := cutB_len 32 s
  have HC := Cut_any 32 s (by omega) (w.alloc (.cells #[.int .i64 0, .int .i64 0, .int .i64 0, .int .i64 0, .int .i64 0] 23)) (hL.below (bel1 _ _))
  unfold parseA tryA
  generalize cutB 32 s = p at *
  obtain ⟨p1, p2, p3⟩ := p
  simp only at *
  have HB := Aside0.mk (fun (W : World) => By_any p1 W)
  have HSp := Aside0.mk (fun (W : World) hL => Split_any p2 (by omega) W hL)
  have HFi := Aside0.mk (fun (bk : Nat) (W : World) hb hL => fill_any (byL p1) (Lib.split p2 [44, 32]) bk W hb (fun l h => by have := split_len p2 l h; omega) hL)
  generalize fillA (byL p1) (Lib.split p2 [44, 32]) = x at *
  generalize byL p1 = op at *
  generalize Lib.split p2 [44, 32] = ps at *
  have HP := Aside0.mk (fun (W : World) hL => Print_any x W hL)
  have HR := Aside0.mk (show parseI s x = if printE x = 0 ∧ printT x = s then (x, 0) else (zeroI, 50) from rfl)
  obtain ⟨T, hT⟩ : ∃ T, printT x = T := ⟨_, rfl⟩
  obtain ⟨E, hE⟩ : ∃ E, printE x = E := ⟨_, rfl⟩
  rw [hT, hE] at HP HR
  clear hL hcl hT hE
  go_enter Tryz.func5, Tryz.ntmps5
  go_wp2_with fail
  refine HC.mono ?_
  rintro e W1 ⟨rfl, hb⟩
  have hr1 := Aside0.mk (below_blk (heap_alloc_new w (.cells #[.int .i64 0, .int .i64 0, .int .i64 0, .int .i64 0, .int .i64 0] 23 (0, 0))) hb)
  have hB1 := Aside0.mk (below_after (bel1 w (.cells #[.int .i64 0, .int .i64 0, .int .i64 0, .int .i64 0, .int .i64 0] 23)) hb (Nat.le_refl _))
  clear hb HC
  go_wp2_with fail
  refine (HB.out W1).mono ?_
  rintro e W2 ⟨rfl, hb⟩
  have hr2 := Aside0.mk (below_blk hr1.out hb)
  have hB2 := Aside0.mk (below_after hB1.out hb (Nat.le_refl _))
  clear hb hr1 hB1
  go_wp2_with fail
  refine (HSp.out W2 (HL.out.below hB2.out)).mono ?_
  rintro e W3 ⟨rfl, hW3⟩
  have hrow : W3.heap[W2.heap.size]? = some (.cells (ps.map fun l => Value.string (bytesB l)).toArray 9 (0, 0)) := by rw [hW3]; exact heap_alloc_new _ _
  have hb : Below W2.heap.size W2 W3 := by rw [hW3]; exact bel1 _ _
  clear hW3
  have hr3 := Aside0.mk (below_blk hr2.out hb)
  have hB3 := Aside0.mk (below_after hB2.out hb (Nat.le_refl _))
  clear hb hr2 hB2
  have HFF := Aside0.mk (HFi.out W2.heap.size W3 hrow (HL.out.below hB3.out))
  clear hrow HFi
  generalize W2.heap.size = bk at *
  generalize ps.length = m at *
  go_wp2_with fail
  refine HFF.out.mono ?_
  rintro e W4 ⟨rfl, hb⟩
  have hr4 := Aside0.mk (below_blk hr3.out hb)
  have hB4 := Aside0.mk (below_after hB3.out hb (Nat.le_refl _))
  clear hb hr3 hB3
  have HS : Aside0 (HSt w (W4.alloc (.cells #[.int .i64 x.op, .int .i64 x.rd, .int .i64 x.a, .int .i64 x.b, .int .i64 x.n] 23)) W4.heap.size x) := ⟨⟨below_blk hr4.out (bel1 _ _), heap_alloc_new _ _, below_after hB4.out (bel1 _ _) (Nat.le_refl _)⟩⟩
  have HPP := Aside0.mk (HP.out (W4.alloc (.cells #[.int .i64 x.op, .int .i64 x.rd, .int .i64 x.a, .int .i64 x.b, .int .i64 x.n] 23)) (HL.out.below HS.out.bel))
  clear hr4 hB4 HP
  go_wp2_with fail
  refine HPP.out.mono ?_
  clear HPP
  rintro e W5 ⟨rfl, hb⟩
  have HS5 := Aside0.mk (HS.out.below hb)
  clear hb HS
  generalize W4.heap.size = bx at *
  have hr := HS5.out.res
  have hx := HS5.out.box
  have HRES := Aside0.mk hr
  have HBEL := Aside0.mk HS5.out.bel
  have x0 := blk_cellA hx 0
  have x1 := blk_cellA hx 1
  have x2 := blk_cellA hx 2
  have x3 := blk_cellA hx 3
  have x4 := blk_cellA hx 4
  have y0 := blk_cellA hr 0
  have z0 := blk_frozen hr 0
  have y1 := blk_cellA hr 1
  have z1 := blk_frozen hr 1
  have y2 := blk_cellA hr 2
  have z2 := blk_frozen hr 2
  have y3 := blk_cellA hr 3
  have z3 := blk_frozen hr 3
  have y4 := blk_cellA hr 4
  have z4 := blk_frozen hr 4
  clear hr hx HS5
  by_cases hE : E = 0
  · subst hE
    by_cases hT : T = s
    · subst hT
      have HR2 : Aside0 (parseI T x = (x, 0)) := ⟨by rw [HR.out, if_pos ⟨rfl, rfl⟩]⟩
      go_wp2
      have hs := set5 HRES.out (.int .i64 x.op) (.int .i64 x.rd) (.int .i64 x.a) (.int .i64 x.b) (.int .i64 x.n)
      have e0 := blk_cellA hs 0
      have e1 := blk_cellA hs 1
      have e2 := blk_cellA hs 2
      have e3 := blk_cellA hs 3
      have e4 := blk_cellA hs 4
      refine bodyPost_ret (v := .tuple #[.agg #[.int .i64 x.op, .int .i64 x.rd, .int .i64 x.a, .int .i64 x.b, .int .i64 x.n], .int .i64 0]) (by simp [results, Tryz.results5, go_sem, e0, e1, e2, e3, e4]) rfl ?_
      rw [HR2.out]
      exact ⟨rfl, set5_below HBEL.out (Nat.le_refl _) _ _ _ _ _⟩
    · have HR2 : Aside0 (parseI s x = (zeroI, 50)) := ⟨by rw [HR.out, if_neg (fun h => hT h.2)]⟩
      have hne : ((bytesB T).toList == (bytesB s).toList) = false := by rw [toList_bytes, toList_bytes]; simpa using hT
      generalize bytesB T = t at *
      clear hT
      go_wp2
      have hs := set5 HRES.out (.int .i64 0) (.int .i64 0) (.int .i64 0) (.int .i64 0) (.int .i64 0)
      have e0 := blk_cellA hs 0
      have e1 := blk_cellA hs 1
      have e2 := blk_cellA hs 2
      have e3 := blk_cellA hs 3
      have e4 := blk_cellA hs 4
      refine bodyPost_ret (v := .tuple #[.agg #[.int .i64 0, .int .i64 0, .int .i64 0, .int .i64 0, .int .i64 0], .int .i64 50]) (by simp [results, Tryz.results5, go_sem, e0, e1, e2, e3, e4]) rfl ?_
      rw [HR2.out]
      exact ⟨rfl, set5_below HBEL.out (Nat.le_refl _) _ _ _ _ _⟩
  · have HR2 : Aside0 (parseI s x = (zeroI, 50)) := ⟨by rw [HR.out, if_neg (fun h => hE h.1)]⟩
    have hk0 : (E == 0) = false := by simpa using hE
    have hk1 : (E != 0) = true := by simpa using hE
    clear hE
    go_wp2
    have hs := set5 HRES.out (.int .i64 0) (.int .i64 0) (.int .i64 0) (.int .i64 0) (.int .i64 0)
    have e0 := blk_cellA hs 0
    have e1 := blk_cellA hs 1
    have e2 := blk_cellA hs 2
    have e3 := blk_cellA hs 3
    have e4 := blk_cellA hs 4
    refine bodyPost_ret (v := .tuple #[.agg #[.int .i64 0, .int .i64 0, .int .i64 0, .int .i64 0, .int .i64 0], .int .i64 50]) (by simp [results, Tryz.results5, go_sem, e0, e1, e2, e3, e4]) rfl ?_
    rw [HR2.out]
    exact ⟨rfl, set5_below HBEL.out (Nat.le_refl _) _ _ _ _ _⟩
end Go.Proofs.YtdgkbigmdadlaaaGreatDoor
