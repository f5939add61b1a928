/- SatOrder: for every input the law returns true, and the input reads behind the call as it read before (of at most 7 variables, 40 clauses of 12 literals). -/
import Derived.Test.YtbagcbiekpopbaaG8
namespace Go.Proofs.Ytbagcbiekpopbaa
open Go.RowKit Go.Shelf Go.Proofs.YtbagcbiekpopbaaW.PrintWords Go.Proofs.YtbagcbiekpopbaaW.PrintLast Go.Proofs.YtbagcbiekpopbaaW.PrintMore
set_option linter.unusedVariables false
set_option linter.unusedSimpArgs false

theorem own_slice {w : World} {B n : Nat} {e : TypeId} {v : Value} {xs : List Value} (h : w.ownsRow B e 1 v n xs) : ∃ A c, v = .slice A n c := by
  rcases h.2 with ⟨rfl, h0⟩ | ⟨g, cap, cur, rfl, _⟩
  · subst h0; exact ⟨_, _, rfl⟩
  · exact ⟨_, _, rfl⟩
/-- A variable of clauses that is the call's own and grows. -/
structure GrowS (w0 W : World) (base g2 : Nat) (n : Int) (v : Value) (vs : List Value) (D : List (List Int)) : Prop where
  bel : Below base w0 W
  blk : W.heap[g2]? = some (.cells #[.int .i64 n, v] 24 (0, 0))
  own : W.ownsRow base 37 1 v vs.length vs
  vals : RowsVN w0 vs D
  bg : base ≤ g2
  b0 : base ≤ w0.heap.size
theorem GrowS.c0 {w0 W : World} {base g2 : Nat} {n : Int} {v : Value} {vs : List Value} {D : List (List Int)} (h : GrowS w0 W base g2 n v vs D) : W.cell? ⟨g2, 0, none⟩ = some (.int .i64 n) := blk_cellA h.blk 0
theorem GrowS.c1 {w0 W : World} {base g2 : Nat} {n : Int} {v : Value} {vs : List Value} {D : List (List Int)} (h : GrowS w0 W base g2 n v vs D) : W.cell? ⟨g2, 1, none⟩ = some v := blk_cellA h.blk 1
theorem GrowS.f1 {w0 W : World} {base g2 : Nat} {n : Int} {v : Value} {vs : List Value} {D : List (List Int)} (h : GrowS w0 W base g2 n v vs D) : W.frozen? ⟨g2, 1, none⟩ = false := blk_frozen h.blk 1
theorem GrowS.below {w0 W W' : World} {base g2 : Nat} {n : Int} {v : Value} {vs : List Value} {D : List (List Int)} (h : GrowS w0 W base g2 n v vs D) (hb : Below W.heap.size W W') : GrowS w0 W' base g2 n v vs D where
  bel := below_then h.bel (Nat.le_trans h.b0 h.bel.size) hb
  blk := (hb.block g2 (blk_lt h.blk)).trans h.blk
  own := pw_own_below h.own hb
  vals := h.vals
  bg := h.bg
  b0 := h.b0
theorem GrowS.kept {w0 W X w3 : World} {base g2 : Nat} {n : Int} {v : Value} {vs : List Value} {D : List (List Int)} (h : GrowS w0 W base g2 n v vs D) (hX : Below W.heap.size W X) (hg : X.grownBy w3 v.ownBlock) : w3.heap[g2]? = W.heap[g2]? := by
  have hlt := blk_lt h.blk
  exact (hg.block g2 (Nat.lt_of_lt_of_le hlt hX.size) (type_ne (cs := []) h.own h.blk (by decide))).trans (hX.block g2 hlt)
theorem GrowS.step {w0 W X w3 : World} {base g2 : Nat} {n : Int} {v v3 : Value} {vs : List Value} {D : List (List Int)} (h : GrowS w0 W base g2 n v vs D) (hX : Below W.heap.size W X) (hg : X.grownBy w3 v.ownBlock)
    {a : Addr} {c : Nat} {r : List Int} (hc : r.length ≤ c) (hC : Kd.C kI w0 (some a) r.length r)
    (hown : w3.ownsRow base 37 1 v3 (vs ++ [Value.slice (some a) r.length c]).length (vs ++ [Value.slice (some a) r.length c])) (hb3 : Below base w0 w3) :
    GrowS w0 (w3.setCell ⟨g2, 1, none⟩ v3) base g2 n v3 (vs ++ [Value.slice (some a) r.length c]) (D ++ [r]) where
  bel := hb3.setCell (p := ⟨g2, 1, none⟩) h.bg _
  blk := by
    have h1 : w3.heap[g2]? = some (.cells #[.int .i64 n, v] 24 (0, 0)) := (h.kept hX hg).trans h.blk
    have := setSol (k := 1) (u := v3) h1
    simpa using this
  own := by
    have h1 : w3.heap[g2]? = some (.cells #[.int .i64 n, v] 24 (0, 0)) := (h.kept hX hg).trans h.blk
    exact ownsRow_turn hown (Turn.set w3 g2 1 v3) (fun k e e2 => type_ne (cs := []) hown h1 (by decide) (by rw [e, e2]))
  vals := h.vals.snoc hc hC
  bg := h.bg
  b0 := h.b0

theorem checkI_same {n : Int} {L L' : List (List Int)} (hs : ∀ r, r ∈ L' ↔ r ∈ L) (hl : L.length ≤ 1000) (hl' : L'.length ≤ 1000) : checkI n L' = checkI n L := by
  have e : (L'.any fun l => l.any (oddB n)) = (L.any fun l => l.any (oddB n)) := by
    rw [Bool.eq_iff_iff, List.any_eq_true, List.any_eq_true]
    exact ⟨fun ⟨r, h1, h2⟩ => ⟨r, (hs r).1 h1, h2⟩, fun ⟨r, h1, h2⟩ => ⟨r, (hs r).2 h1, h2⟩⟩
  unfold checkI
  rw [e]
  simp only [show ¬ (1048576 : Int) < (L.length : Int) from by omega, show ¬ (1048576 : Int) < (L'.length : Int) from by omega, if_false]
theorem trueB_same {L L' : List (List Int)} (hs : ∀ r, r ∈ L' ↔ r ∈ L) (a : List Bool) : trueB L' a = trueB L a := by
  rw [Bool.eq_iff_iff, trueB_iff, trueB_iff]
  exact ⟨fun h r hr => h r ((hs r).2 hr), fun h r hr => h r ((hs r).1 hr)⟩
/-- The same clauses answer the same. -/
theorem same_ans {n : Nat} {b : Int} {L L' : List (List Int)} (hs : ∀ r, r ∈ L' ↔ r ∈ L) (hn : n ≤ 1000) (hb : (3 : Int) ^ n ≤ b) (hb2 : b ≤ 100000) (hl : L.length ≤ 1000) (hl' : L'.length ≤ 1000) (hW : WfL L) :
    checkI (n : Int) L' = checkI (n : Int) L ∧ (solveR b (n : Int) L').what = (solveR b (n : Int) L).what ∧ (checkI (n : Int) L ≠ 0 ∨ (checkI (n : Int) L = 0 ∧ (solveR b (n : Int) L).what ≠ 0)) := by
  have hc := checkI_same (n := (n : Int)) hs hl hl'
  have hW' : WfL L' := fun r hr => hW r ((hs r).1 hr)
  refine ⟨hc, ?_, ?_⟩
  · by_cases h : checkI (n : Int) L = 0
    · rcases solve_full hn h hb hb2 hl hW with ⟨v, e, _, ht⟩ | ⟨p, e, hno⟩ <;> rcases solve_full hn (hc.trans h) hb hb2 hl' hW' with ⟨v', e', _, ht'⟩ | ⟨p', e', hno'⟩ <;> rw [e, e']
      · have := hno' v
        rw [trueB_same hs, ht] at this
        cases this
      · have := hno v'
        rw [← trueB_same hs, ht'] at this
        cases this
    · rw [solveR_bad (.inl h), solveR_bad (.inl (by rw [hc]; exact h))]
  · by_cases h : checkI (n : Int) L = 0
    · right
      refine ⟨h, ?_⟩
      rcases solve_full hn h hb hb2 hl hW with ⟨v, e, _, ht⟩ | ⟨p, e, hno⟩ <;> rw [e] <;> simp
    · exact .inl h
end Go.Proofs.Ytbagcbiekpopbaa

namespace Go.Proofs.Ytbagcbiekpopbaa
open Go.RowKit Go.Shelf Go.Proofs.YtbagcbiekpopbaaW.PrintWords Go.Proofs.YtbagcbiekpopbaaW.PrintLast Go.Proofs.YtbagcbiekpopbaaW.PrintMore
attribute [local go_sem] max2_int min2_int max_two min_two max_three min_three max_four min_four
set_option linter.unusedVariables false
set_option linter.unusedSimpArgs false

set_option maxHeartbeats 8000000 in
set_option maxRecDepth 100000 in
theorem SatOrder_any (n : Int) (A : Option Addr) (c : Nat) (L : List (List Int)) (w : World) (hC : Kd.C kII w A L.length L) (hc : L.length ≤ c) (hW : WfL L) (hn : -9223372036854775808 ≤ n ∧ n ≤ 9223372036854775807) :
    Calls Try.prog 7 #[.agg #[.int .i64 n, .slice A L.length c]] w fun e w' => e = .returned (.bool true) ∧ Below w.heap.size w w' := by
  have HBd := Bound_any n A c L (w.alloc (.cells #[.int .i64 n, .slice A L.length c] 24)) (Kd.C_below hC (bel_alloc _ _)) hc
  have HW : Aside0 (WfL (boundL L) ∧ (∀ r ∈ boundL L, r.length ≤ 12) ∧ (boundL L).length ≤ 60) := ⟨boundL_wf hW, fun r hr => boundL_row hr, boundL_len L⟩
  obtain ⟨q, hq⟩ : ∃ q, min n 7 = q := ⟨_, rfl⟩
  obtain ⟨cnt, hcnt⟩ : ∃ cnt : Nat, max 0 q = (cnt : Int) := ⟨(max 0 q).toNat, by omega⟩
  have hcnt7 : cnt ≤ 7 := by omega
  have hq' : (if (7 : Int) < n then (7 : Int) else n) = q := by split <;> omega
  have hcnt' : (if (0 : Int) < q then q else 0) = (cnt : Int) := by split <;> omega
  clear hC hW hn
  go_enter Try.func7, Try.ntmps7
  go_wp2_with fail
  refine HBd.mono ?_
  clear HBd
  generalize boundL L = B at *
  rintro e W ⟨A', c', rfl, hS, hb⟩
  rw [show (w.alloc (.cells #[.int .i64 n, .slice A L.length c] 24)).heap.size = w.heap.size + 1 from by simp] at hS hb
  have hbox := box_later hb
  obtain ⟨k, hk⟩ : ∃ k : Nat, min B.length 40 = k := ⟨_, rfl⟩
  have HC := Aside0.mk (((atS_store (n := n) hbox hS ((bel_alloc w _).trans (hb.mono (by omega))) (Nat.le_refl _)).setN (cnt : Int)).setL (k := k) (by omega))
  have k0 := blk_cellA hbox 0
  have k1 := blk_cellA hbox 1
  have l0 := blk_frozen hbox 0
  have l1 := blk_frozen hbox 1
  have hmc : B.length ≤ c' := by obtain ⟨_, _, e, h1, _⟩ := hS.reads; injection e with _ _ e; omega
  clear hS hb hbox
  obtain ⟨g, hg⟩ : ∃ g, w.heap.size = g := ⟨_, rfl⟩
  have HG := Aside0.mk hg
  rw [hg] at k0 k1 l0 l1 HC ⊢
  clear hg
  obtain ⟨m, hm⟩ : ∃ m, B.length = m := ⟨_, rfl⟩
  have HM := Aside0.mk hm
  have hbk : (B.take k).length = k := by rw [List.length_take]; omega
  rw [hm] at HC hmc hk ⊢
  rw [hbk] at HC
  have hk40 : k ≤ 40 := by omega
  have hkm : k ≤ m := by omega
  have hkc : k ≤ c' := by omega
  have hm1 : min (m : Int) 40 = (k : Int) := by omega
  have hm2 : (if (40 : Int) < (m : Int) then (40 : Int) else (m : Int)) = (k : Int) := by split <;> omega
  have hkci : (k : Int) ≤ (c' : Int) := by omega
  have HBK := Aside0.mk hbk
  clear hm hk hbk
  obtain ⟨X, hX⟩ : ∃ X, (((W.setCell ⟨g, 0, none⟩ (.int .i64 n)).setCell ⟨g, 1, none⟩ (.slice A' m c')).setCell ⟨g, 0, none⟩ (.int .i64 (cnt : Int))).setCell ⟨g, 1, none⟩ (.slice A' k c') = X := ⟨_, rfl⟩
  have hXs : W.heap.size = X.heap.size := by rw [← hX]; simp
  rw [hX] at HC
  generalize hB2 : B.take k = B2 at *
  have HW2 : Aside0 (WfL B2 ∧ (∀ r ∈ B2, r.length ≤ 12) ∧ B2.length = k) := ⟨fun r hr => HW.out.1 r (List.mem_of_mem_take (by rw [hB2]; exact hr)), fun r hr => HW.out.2.1 r (List.mem_of_mem_take (by rw [hB2]; exact hr)), HBK.out⟩
  clear hB2
  obtain ⟨g2, hg2⟩ : ∃ g2, X.heap.size = g2 := ⟨_, rfl⟩
  have kx0 := HC.out.c0
  have kk1 : ∀ o : Obj, (X.alloc o).cell? ⟨g, 1, none⟩ = some (.slice A' k c') := fun o => by
    have h1 := (HC.out.below (bel_alloc X o)).c1
    rw [HW2.out.2.2] at h1
    exact h1
  have HA := Aside0.mk (HC.out.below (bel_alloc X (.cells #[.int .i64 (cnt : Int), .slice none 0 0] 24)))
  have HGr : Aside0 (GrowS X (X.alloc (.cells #[.int .i64 (cnt : Int), .slice none 0 0] 24)) g2 g2 (cnt : Int) nilS [] []) := ⟨by
    subst hg2
    exact ⟨bel_alloc X _, heap_alloc_new X _, World.ownsRow_nil _ _ _ _, RowsVN.nil X, Nat.le_refl _, Nat.le_refl _⟩⟩
  rw [hg2] at hXs
  go_wp2
  clear hX k0 k1 l0 l1 kx0 kk1 hq hq' hcnt hcnt' hm1 hm2 hkci hmc
  generalize X.alloc (.cells #[.int .i64 (cnt : Int), .slice none 0 0] 24) = W2 at *
  have HRN := Aside0.mk (HC.out.rowsN HW2.out.2.1)
  have HKX := Aside0.mk (And.intro HC.out.c1 HC.out.lt)
  go_loopg [4] k (fun gg s4 wr => ∃ (v : Value) (vs : List Value) (D : List (List Int)), s4 = .int .i64 ((gg : Int) - 1) ∧ gg ≤ k ∧ Aside0 (GrowS X wr g2 g2 (cnt : Int) v vs D ∧ (∀ r, r ∈ D ↔ r ∈ B2.drop gg) ∧ D.length = 2 * (k - gg)))
  case atStart => exact ⟨nilS, [], [], rfl, Nat.le_refl _, ⟨HGr.out, fun r => by rw [List.drop_of_length_le (by rw [HW2.out.2.2]; exact Nat.le_refl _)], by simp⟩⟩
  case round =>
    obtain ⟨v, vs, D, rfl, hgk, HI⟩ := hrel
    clear HGr
    have hbX := below_then (Below.refl X.heap.size X) (Nat.le_refl _) (by have := HI.out.1.bel; rw [← hg2] at this; exact this : Below X.heap.size X wr)
    have k1 := (hbX.cell (World.block_lt_of_cell? X _ HKX.out.1)).trans HKX.out.1
    rw [HW2.out.2.2] at k1
    match gk, hgk with
    | 0, hgk =>
      rw [show ((0 : Nat) : Int) - 1 = -1 from rfl]
      have hmem : ∀ r, r ∈ D ↔ r ∈ B2 := fun r => by have := HI.out.2.1 r; rw [List.drop_zero] at this; exact this
      have hDlen : D.length = 2 * k := HI.out.2.2
      have hWD : WfL D := fun r hr => HW2.out.1 r ((hmem r).1 hr)
      obtain ⟨s1, s2, s3⟩ := same_ans (n := cnt) (b := 2187) hmem (by omega) (pow3 hcnt7 (by decide)) (by omega) (by rw [HW2.out.2.2]; omega) (by omega) HW2.out.1
      obtain ⟨Av, cv, rfl, hRD⟩ := HI.out.1.vals.rowsN hbX HI.out.1.own (fun l hl => by have := HW2.out.2.1 l ((hmem l).1 hl); omega)
      have HSc := Solve_any (cnt : Int) 2187 A' c' B2 wr (HRN.out.below hbX) (by omega) (by omega) (by rw [HW2.out.2.2]; omega) HW2.out.1
      have HSd := Aside0.mk (fun (W' : World) (hb : Below wr.heap.size wr W') => Solve_any (cnt : Int) 2187 Av cv D W' (hRD.below hb) (by omega) (by omega) (by omega) hWD)
      rw [HW2.out.2.2] at HSc
      rw [hDlen, s1] at HSd
      have d0 := HI.out.1.c0
      have d1 := HI.out.1.c1
      rw [hDlen] at d1
      have hg2l := blk_lt HI.out.1.blk
      have k0 := (hbX.cell (World.block_lt_of_cell? X _ HC.out.c0)).trans HC.out.c0
      have HBw := Aside0.mk (below_then HC.out.bel HC.out.bel.size hbX)
      generalize solveR 2187 (cnt : Int) D = r2 at *
      generalize solveR 2187 (cnt : Int) B2 = r1 at *
      generalize checkI (cnt : Int) B2 = ck at *
      obtain ⟨what, vals, pf⟩ := r1
      obtain ⟨what2, vals2, pf2⟩ := r2
      simp only at s2 s3
      subst s2
      have HS3 := Aside0.mk s3
      have e1 : (ck == ck) = true := by simp
      have e2 : ((what2 : Int) == (what2 : Int)) = true := by simp
      clear hRD hmem hWD s1 s3 HI
      go_wp2_with fail
      refine HSc.mono ?_
      rintro e w5 ⟨A5, c5, A6, c6, rfl, -, -, -, -, hb5⟩
      have d0' := (hb5.cell (p := ⟨g2, 0, none⟩) hg2l).trans d0
      have d1' := (hb5.cell (p := ⟨g2, 1, none⟩) hg2l).trans d1
      have HB5 := Aside0.mk hb5
      clear HSc hb5
      go_wp2_with fail
      refine (HSd.out w5 HB5.out).mono ?_
      rintro e w6 ⟨A7, c7, A8, c8, rfl, -, -, -, -, hb6⟩
      have HB6 := Aside0.mk (below_then HBw.out HBw.out.size (below_then HB5.out HB5.out.size hb6))
      clear HSd hb6 d0' d1'
      rcases HS3.out with h0 | ⟨h0, hw0⟩
      · have e3 : (ck != 0) = true := by simpa using h0
        go_wp2_with (go_at_call 12; refine (fixed_any _).mono ?_; rintro e w7 ⟨rfl, hb7⟩; have HB7 := Aside0.mk (below_then HB6.out HB6.out.size hb7); clear hb7)
        go_ret
        exact ⟨rfl, HB7.out⟩
      · subst h0
        have e3 : ((what2 : Int) != 0) = true := by simpa using hw0
        go_wp2_with (go_at_call 12; refine (fixed_any _).mono ?_; rintro e w7 ⟨rfl, hb7⟩; have HB7 := Aside0.mk (below_then HB6.out HB6.out.size hb7); clear hb7)
        go_ret
        exact ⟨rfl, HB7.out⟩
    | g' + 1, hgk =>
      rw [show (((g' + 1 : Nat) : Int) - 1) = (g' : Int) from by omega]
      have hge : decide ((0 : Int) ≤ (g' : Int)) = true := by simp
      have hlt3 : (g' : Int) < (k : Int) := by omega
      have hlt4 : g' < k := by omega
      obtain ⟨l, hl⟩ : ∃ l, B2[g']? = some l := ⟨B2[g']'(by rw [HW2.out.2.2]; omega), List.getElem?_eq_getElem _⟩
      obtain ⟨b, off, ad, cc, rfl, hcell, hcc, hCl⟩ := HRN.out.row hl
      have hcw : wr.cell? ⟨b, off + g', none⟩ = some (.slice (some ad) l.length cc) := (hbX.cell (World.block_lt_of_cell? X _ hcell)).trans hcell
      have hdrop : B2.drop g' = l :: B2.drop (g' + 1) := by
        obtain ⟨q1, q2⟩ := List.getElem?_eq_some_iff.1 hl
        rw [List.drop_eq_getElem_cons q1, q2]
      have HT := Aside0.mk (And.intro hdrop (And.intro hcc (And.intro hCl (And.intro HI.out.2.1 (And.intro HI.out.2.2 hcell)))))
      have HG1 := Aside0.mk HI.out.1
      have hDl : vs.length ≤ 80 := by have h1 := HI.out.1.vals.len; have h2 := HI.out.2.2; omega
      clear hl hcell hcc hCl hdrop HI hbX
      obtain ⟨Ava, cva, eva⟩ := own_slice HG1.out.own
      have EVa := Aside0.mk eva
      have hv1a := HG1.out.c1
      have hf1a := HG1.out.f1
      have hlta := blk_lt HG1.out.blk
      obtain ⟨nva, hnva⟩ : ∃ nv, vs.length = nv := ⟨_, rfl⟩
      have NVa := Aside0.mk hnva
      have hnba : nva ≤ 1000 := by rw [← hnva]; omega
      rw [eva, hnva] at hv1a
      have hvca : ∀ o, (wr.alloc o).cell? ⟨g2, 1, none⟩ = some (.slice Ava nva cva) := fun o => (World.cell?_of_block (a := ⟨g2, 1, none⟩) (Below.heap_alloc wr o g2 hlta)).trans hv1a
      have hcak1 : ∀ o, (wr.alloc o).cell? ⟨g, 1, none⟩ = some (.slice (some ⟨b, off, none⟩) k c') := fun o => (World.cell?_of_block (a := ⟨g, 1, none⟩) (Below.heap_alloc wr o _ (World.block_lt_of_cell? wr _ k1))).trans k1
      have hcahcw : ∀ o, (wr.alloc o).cell? ⟨b, off + g', none⟩ = some (.slice (some ad) l.length cc) := fun o => (World.cell?_of_block (a := ⟨b, off + g', none⟩) (Below.heap_alloc wr o _ (World.block_lt_of_cell? wr _ hcw))).trans hcw
      clear eva hnva
      go_wp2
      go_region_law (first
        | (refine step_append_all (w0 := X) g2 (by rfl) (.tmp 40) (.tmp 46) 22 37 (.slice none 0 0) 24 rfl Try.underlying22 infoII rfl (by decide) (.slice Ava nva cva) vs (some ⟨wr.heap.size, 0, none⟩) 1 1 [Value.slice (some ad) l.length cc] rfl rfl HG1.out.vals.one (by simp [Value.oneCell'])
            (by have h1 := HG1.out.own; rw [EVa.out, NVa.out] at h1; rw [NVa.out]; exact pw_own_below h1 (by (repeat' (first | exact Below.refl _ _ | refine pw_below_drewN ?_ _ | refine below_drew ?_ | refine below_alloc ?_ _)))) rfl (by omega) (fun _ => ⟨_, rfl, World.news_of_block (cs := #[Value.slice (some ad) l.length cc]) (t := 37) (fr := (0, 0)) (heap_alloc_new wr _)⟩)
            (below_then HG1.out.bel (Nat.le_trans HG1.out.b0 HG1.out.bel.size) (by (repeat' (first | exact Below.refl _ _ | refine pw_below_drewN ?_ _ | refine below_drew ?_ | refine below_alloc ?_ _)))) (by have h1 := Nat.le_trans HG1.out.b0 HG1.out.bel.size; simp; omega) (by rw [NVa.out]; omega) ?_; intro v3a w3a howna hb3a hg3a hat3a; have hgxa := hg3a; rw [← NVa.out, ← EVa.out] at hgxa; have hcha := HG1.out.kept (w3 := w3a) (by (repeat' (first | exact Below.refl _ _ | refine pw_below_drewN ?_ _ | refine below_drew ?_ | refine below_alloc ?_ _))) hgxa; have x1a := (World.cell?_of_block (a := ⟨g2, 1, none⟩) hcha).trans hv1a; have x2a := (World.frozen?_of_block (a := ⟨g2, 1, none⟩) hcha).trans hf1a; have HXa := Aside0.mk (HG1.out.step (w3 := w3a) (by (repeat' (first | exact Below.refl _ _ | refine pw_below_drewN ?_ _ | refine below_drew ?_ | refine below_alloc ?_ _))) hgxa HT.out.2.1 HT.out.2.2.1 (by first | exact howna | (rw [List.length_append]; exact howna)) hb3a); obtain ⟨g3a, cap3a, rfl⟩ := own_succ (k := nva) (by rw [List.length_append, NVa.out] at howna; exact howna); clear howna hb3a hg3a hat3a hcha hgxa))
      all_goals (
        clear x1a x2a hv1a hf1a hlta hvca hcak1 hcahcw
        generalize w3a.setCell ⟨g2, 1, none⟩ (.slice (some ⟨g3a, 0, none⟩) (nva + 1) cap3a) = Wb at *
        generalize hvs1 : vs ++ [Value.slice (some ad) l.length cc] = vs1 at *
        generalize hD1 : D ++ [l] = D1 at *
        have hbX : Below X.heap.size X Wb := by have := HXa.out.bel; rw [← hg2] at this; exact this
        have k1b := (hbX.cell (World.block_lt_of_cell? X _ HKX.out.1)).trans HKX.out.1
        rw [HW2.out.2.2] at k1b
        have hcwb := (hbX.cell (World.block_lt_of_cell? X _ HT.out.2.2.2.2.2)).trans HT.out.2.2.2.2.2
        have hD1l : vs1.length ≤ 90 := by rw [← hvs1]; simp; omega
        have HD1 := Aside0.mk hD1
        clear hbX hvs1 hD1
        obtain ⟨Avb, cvb, evb⟩ := own_slice HXa.out.own
        have EVb := Aside0.mk evb
        have hv1b := HXa.out.c1
        have hf1b := HXa.out.f1
        have hltb := blk_lt HXa.out.blk
        obtain ⟨nvb, hnvb⟩ : ∃ nv, vs1.length = nv := ⟨_, rfl⟩
        have NVb := Aside0.mk hnvb
        have hnbb : nvb ≤ 1000 := by rw [← hnvb]; omega
        rw [evb, hnvb] at hv1b
        have hvcb : ∀ o, (Wb.alloc o).cell? ⟨g2, 1, none⟩ = some (.slice Avb nvb cvb) := fun o => (World.cell?_of_block (a := ⟨g2, 1, none⟩) (Below.heap_alloc Wb o g2 hltb)).trans hv1b
        have hcbk1b : ∀ o, (Wb.alloc o).cell? ⟨g, 1, none⟩ = some (.slice (some ⟨b, off, none⟩) k c') := fun o => (World.cell?_of_block (a := ⟨g, 1, none⟩) (Below.heap_alloc Wb o _ (World.block_lt_of_cell? Wb _ k1b))).trans k1b
        have hcbhcwb : ∀ o, (Wb.alloc o).cell? ⟨b, off + g', none⟩ = some (.slice (some ad) l.length cc) := fun o => (World.cell?_of_block (a := ⟨b, off + g', none⟩) (Below.heap_alloc Wb o _ (World.block_lt_of_cell? Wb _ hcwb))).trans hcwb
        clear evb hnvb
        go_wp2
        go_region_law (first
          | (refine step_append_all (w0 := X) g2 (by rfl) (.tmp 50) (.tmp 56) 22 37 (.slice none 0 0) 24 rfl Try.underlying22 infoII rfl (by decide) (.slice Avb nvb cvb) vs1 (some ⟨Wb.heap.size, 0, none⟩) 1 1 [Value.slice (some ad) l.length cc] rfl rfl HXa.out.vals.one (by simp [Value.oneCell'])
              (by have h1 := HXa.out.own; rw [EVb.out, NVb.out] at h1; rw [NVb.out]; exact pw_own_below h1 (by (repeat' (first | exact Below.refl _ _ | refine pw_below_drewN ?_ _ | refine below_drew ?_ | refine below_alloc ?_ _)))) rfl (by omega) (fun _ => ⟨_, rfl, World.news_of_block (cs := #[Value.slice (some ad) l.length cc]) (t := 37) (fr := (0, 0)) (heap_alloc_new Wb _)⟩)
              (below_then HXa.out.bel (Nat.le_trans HXa.out.b0 HXa.out.bel.size) (by (repeat' (first | exact Below.refl _ _ | refine pw_below_drewN ?_ _ | refine below_drew ?_ | refine below_alloc ?_ _)))) (by have h1 := Nat.le_trans HXa.out.b0 HXa.out.bel.size; simp; omega) (by rw [NVb.out]; omega) ?_; intro v3b w3b hownb hb3b hg3b hat3b; have hgxb := hg3b; rw [← NVb.out, ← EVb.out] at hgxb; have hchb := HXa.out.kept (w3 := w3b) (by (repeat' (first | exact Below.refl _ _ | refine pw_below_drewN ?_ _ | refine below_drew ?_ | refine below_alloc ?_ _))) hgxb; have x1b := (World.cell?_of_block (a := ⟨g2, 1, none⟩) hchb).trans hv1b; have x2b := (World.frozen?_of_block (a := ⟨g2, 1, none⟩) hchb).trans hf1b; have HXb := Aside0.mk (HXa.out.step (w3 := w3b) (by (repeat' (first | exact Below.refl _ _ | refine pw_below_drewN ?_ _ | refine below_drew ?_ | refine below_alloc ?_ _))) hgxb HT.out.2.1 HT.out.2.2.1 (by first | exact hownb | (rw [List.length_append]; exact hownb)) hb3b); obtain ⟨g3b, cap3b, rfl⟩ := own_succ (k := nvb) (by rw [List.length_append, NVb.out] at hownb; exact hownb); clear hownb hb3b hg3b hat3b hchb hgxb))
        all_goals (
          have HN := Aside0.mk (And.intro HXb.out (And.intro (show ∀ r, r ∈ D1 ++ [l] ↔ r ∈ B2.drop g' from fun r => by
            rw [HT.out.1, ← HD1.out, List.mem_cons, ← HT.out.2.2.2.1 r]
            simp only [List.mem_append, List.mem_singleton]
            constructor
            · rintro ((h | h) | h)
              · exact .inr h
              · exact .inl h
              · exact .inl h
            · rintro (h | h)
              · exact .inr h
              · exact .inl (.inl h)) (show (D1 ++ [l]).length = 2 * (k - g') from by
            have := HT.out.2.2.2.2.1
            rw [← HD1.out]
            simp
            omega)))
          clear x1b x2b hv1b hf1b hltb hvcb hcbk1b hcbhcwb k1b hcwb HXb HXa
          go_wp2
          go_roundg g'
          case measure => omega
          case rel => exact ⟨_, _, _, by go_num, by omega, HN⟩))
end Go.Proofs.Ytbagcbiekpopbaa

namespace Go.Proofs.Ytbagcbiekpopbaa
open Go.ChangeShapes Go.WideShapes Go.ChangeAt Go.RowKit Go.Proofs.YtbagcbiekpopbaaW.PrintWords Go.Proofs.YtbagcbiekpopbaaW.PrintLast
set_option linter.unusedVariables false
set_option linter.unusedSimpArgs false
set_option linter.constructorNameAsVariable false
set_option maxRecDepth 100000

theorem satOrder_reads (os : Os) {H : Type} (enc : TypeId × Value → H) :
    ∃ ds, ∃ places, DataW.whole enc Try.prog ((World.doorLaid Try.prog 400 os).forCall (fun _ _ => 0) ⟨#[], #[.agg #[.int .i64 0, .slice none 0 0]], []⟩).memory Try.f7.params.toList Rows.satOrderSpec.vars false (#[.agg #[.int .i64 0, .slice none 0 0]] : Array Value).toList 8 = some ([.agg [.lit (.int .i64 0), .nil]], ds, places) :=
  ⟨[], [], by kernel_rfl⟩
theorem satOrder_lifted (os : Os) (started : os.Started) (H : Type) (enc : TypeId × Value → H) (F : Stop.Interp) :
    ReturnsInHanded {} Try.checked os 7 .any ((OpenSpec.ofChange Rows.satOrderSpec).preRow enc Try.prog Try.f7 Rows.satOrderRow.domain false Rows.satOrderRow.laid) (((OpenSpec.ofChange Rows.satOrderSpec).at F).post enc Try.prog Try.f7 false true false false) := by
  obtain ⟨gs0, places, hx⟩ := satOrder_reads os enc
  refine returnsInHanded_of_row (C := Try.checked) (s := OpenSpec.ofChange Rows.satOrderSpec) own started (by kernel_rfl) Try.func7
    (witness_row_atRef (enc := enc) (C := Try.checked) false (World.doorLaid Try.prog 400 os) #[.agg #[.int .i64 0, .slice none 0 0]] rfl (by kernel_rfl) (by kernel_rfl) (by kernel_rfl)
      (OpenSpec.preRow_of_cond 8 hx (by kernel_rfl) (fun k hk => by cases hk) (by kernel_rfl) (door_met os _))) ?_
  intro W base args ds gs before hval0 hW _ _ _ hL hsh _
  have hval : ∀ (j : Nat) t v, Try.f7.params[j]? = some t → args[j]? = some v → Value.okWide Try.prog W .any base t v := hval0
  have hW' := hW
  obtain ⟨p, q, hA0, hV, rfl, hfz, hnd⟩ := hW
  have hA : DataW.TrodAll enc Try.prog W 0 (fun _ => true) true Try.f7.params.toList args.toList ds p := hA0
  rw [Try.params7] at hA hval
  obtain ⟨v0, d0, rfl, rfl, h0⟩ := trodAll_one hA
  obtain ⟨rfl, rfl⟩ := trodVars_none hV
  clear hA0 hval0
  simp only [List.append_nil] at hW'
  have hlt : ∀ x ∈ p, x.block < W.heap.size := fun x hx => by simpa using hW'.lt x (by simpa using hx)
  obtain ⟨n0, A0, c0, L0, rfl, hn0, hC0, hc0, hWf0⟩ := openCnf (hval 0 24 v0 rfl rfl) h0
  refine (SatOrder_any n0 A0 c0 L0 W hC0 hc0 hWf0 hn0).mono ?_
  rintro e W' ⟨rfl, hb⟩
  exact ⟨_, rfl, _, _, _, [], _, [], hW', trodAll_mk1 (shut_bool Try.underlying4 _), trodAll_mk1 (Below.trod laidOut (by kernel_rfl) (of_decide_eq_true (by kernel_rfl)) h0 hb hlt), rfl, hb.frame _, fun h => by cases h⟩
theorem satOrder_said : Rows.SatOrderSaid :=
  OpenClaim.holds_of_cond 7 Try.f7 rfl rfl rfl rfl rfl rfl rfl ⟨rfl, rfl, rfl, rfl, rfl⟩ rfl rfl rfl rfl rfl (by kernel_rfl) Try.func7 (by kernel_rfl)
    (of_decide_eq_true (by kernel_rfl)) (by unfold Func.isWrapper; first | (rw [if_pos (by decide +kernel)]; kernel_rfl) | (rw [if_neg (by decide +kernel)]; exact ⟨rfl, rfl⟩))
    (fun os started H enc _ F => by rw [OpenClaim.pre_eq_preRow]; exact satOrder_lifted os started H enc F)
#print axioms satOrder_said
end Go.Proofs.Ytbagcbiekpopbaa
