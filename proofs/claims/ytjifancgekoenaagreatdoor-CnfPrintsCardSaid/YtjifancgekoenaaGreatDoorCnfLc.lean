import Derived.Test.YtjifancgekoenaaGreatDoorCnfLb
namespace Go.Proofs.YtjifancgekoenaaGreatDoor
open Go.RowKit Go.Proofs.YtjifancgekoenaaGreatDoorW.PrintWords Go.Proofs.YtjifancgekoenaaGreatDoorW.PrintLast
set_option linter.unusedVariables false
set_option linter.unusedSimpArgs false

def boundL (L : List (List Int)) : List (List Int) := (L.take 60).map (List.take 12)
theorem boundL_snoc (L : List (List Int)) (i : Nat) (hi : i < L.length) (h60 : i < 60) : boundL (L.take (i + 1)) = boundL (L.take i) ++ [L[i].take 12] := by
  unfold boundL
  rw [List.take_take, List.take_take, show min 60 i = i from by omega, show min 60 (i + 1) = i + 1 from by omega, List.take_succ_eq_append_getElem hi, List.map_append, List.map_cons, List.map_nil]
theorem boundL_all (L : List (List Int)) (i : Nat) (h : min L.length 60 ≤ i) : boundL (L.take i) = boundL L := by
  unfold boundL
  rw [List.take_take]
  congr 1
  rcases Nat.lt_or_ge L.length 60 with h1 | h1
  · rw [List.take_of_length_le (by omega), List.take_of_length_le (by omega)]
  · congr 1; omega
theorem box_two (w : World) (a b : Obj) : ((w.alloc a).alloc b).heap[w.heap.size]? = some a ∧ ((w.alloc a).alloc b).heap[w.heap.size + 1]? = some b := by
  constructor
  · rw [Below.heap_alloc _ _ _ (by simp)]; exact heap_alloc_new w a
  · have := heap_alloc_new (w.alloc a) b
    rwa [show (w.alloc a).heap.size = w.heap.size + 1 from by simp] at this
theorem own_form {w : World} {base : Nat} {e : TypeId} {v : Value} {n : Nat} {xs : List Value} (h : w.ownsRow base e 1 v n xs) (hv : v.ownBlock ≠ none) : ∃ g cap, v = .slice (some ⟨g, 0, none⟩) n cap := by
  rcases h.2 with ⟨rfl, _⟩ | ⟨g, cap, cur, rfl, _⟩
  · exact absurd rfl hv
  · exact ⟨g, cap, rfl⟩
theorem rows_one {w : World} {base : Nat} {vs : List Value} {L : List (List Int)} (h1 : vs.length = L.length) (h3 : ∀ (j : Nat) y r, vs[j]? = some y → L[j]? = some r → OwnR w base y r) : ∀ u ∈ vs, u.oneCell' = true := by
  intro u hu
  obtain ⟨j, hj⟩ := List.mem_iff_getElem?.1 hu
  have hjl := (List.getElem?_eq_some_iff.1 hj).1
  obtain ⟨A, c, rfl, _⟩ := (h3 j u L[j] hj (List.getElem?_eq_getElem (by omega))).reads
  rfl
theorem ints_at {w : World} {A : Option Addr} {n : Nat} {xs : List Int} (h : Kd.C kI w A n xs) : 0 < n → ∃ ad, A = some ad ∧ ∀ j u, (nums .i64 xs)[j]? = some u → w.cell? (ad.add j) = some u := by
  intro hp
  obtain ⟨ad, e, h2⟩ := h.2.2 hp
  refine ⟨ad, e, fun j u hj => ?_⟩
  unfold nums at hj
  rw [List.getElem?_map] at hj
  obtain ⟨x, hx, rfl⟩ := Option.map_eq_some_iff.1 hj
  obtain ⟨cs, _, hcs, h4⟩ := h2 j x hx
  obtain rfl : cs = [Value.int .i64 x] := hcs
  have := h4 0 _ rfl
  have e1 : j * kI.sz + 0 = j := by show j * 1 + 0 = j; omega
  rwa [e1] at this
set_option maxHeartbeats 4000000 in
set_option maxRecDepth 100000 in
theorem Bound_walk (n : Int) (A : Option Addr) (c : Nat) (L : List (List Int)) (w : World) (hC : Kd.C kII w A L.length L) (hc : L.length ≤ c) :
    Calls Tryz.prog 13 #[.agg #[.int .i64 n, .slice A L.length c]] w fun e w' => ∃ v, e = .returned (.agg #[.int .i64 n, v]) ∧ RowsB w' w.heap.size v (boundL L) ∧ Below w.heap.size w w' := by
  obtain ⟨m, hm⟩ : ∃ m, L.length = m := ⟨_, rfl⟩
  have hm9 : m ≤ 9223372036854775807 := by rw [← hm]; exact C_max hC
  have HC : Aside0 (Kd.C kII w A m L ∧ L.length = m) := ⟨hm ▸ hC, hm⟩
  rw [hm]
  clear hC hc hm
  go_enter Tryz.func13, Tryz.ntmps13
  go_wp2_with fail
  go_loopg [3, 4] 60 (fun gg s3 s4 wr => ∃ (kk : Nat), kk ≤ m ∧ kk ≤ 60 ∧ 60 - kk ≤ gg ∧ s4 = .int .i64 kk ∧ Aside0 (RowsB wr w.heap.size s3 (boundL (L.take kk))) ∧
    Aside0 (wr.heap[w.heap.size]? = some (.cells #[.int .i64 n, .slice A m c] 28 (0, 0)) ∧ wr.heap[w.heap.size + 1]? = some (.cells #[.int .i64 0, .slice none 0 0] 28 (0, 0))) ∧ Aside0 (Below w.heap.size w wr))
  case atStart =>
    have hb := bel2 w (.cells #[.int .i64 n, .slice A m c] 28) (.cells #[.int .i64 0, .slice none 0 0] 28)
    have h2 := box_two w (.cells #[.int .i64 n, .slice A m c] 28) (.cells #[.int .i64 0, .slice none 0 0] 28)
    have hz : w.heap.size + 1 + 1 = ((w.alloc (.cells #[.int .i64 n, .slice A m c] 28)).alloc (.cells #[.int .i64 0, .slice none 0 0] 28)).heap.size := by simp
    rw [hz]
    have hs : w.heap.size + 2 ≤ ((w.alloc (.cells #[.int .i64 n, .slice A m c] 28)).alloc (.cells #[.int .i64 0, .slice none 0 0] 28)).heap.size := by simp
    clear hz
    generalize (w.alloc (.cells #[.int .i64 n, .slice A m c] 28)).alloc (.cells #[.int .i64 0, .slice none 0 0] 28) = W2 at *
    exact ⟨0, by omega, by omega, by omega, rfl, ⟨[], by simp [boundL], by simpa [boundL] using own_weaken (own_empty W2 22) hb.size, fun j y r hy => by simp at hy⟩,
      ⟨by rw [Below.heap_alloc _ _ _ (by omega)]; exact h2.1, by rw [Below.heap_alloc _ _ _ (by omega)]; exact h2.2⟩, ⟨hb.alloc hb.size _⟩⟩
  case round =>
    obtain ⟨kk, h1, h2, h3, rfl, HR, HX, HB⟩ := hrel
    have hc0 := blk_cellA HX.out.1 0
    have hc1 := blk_cellA HX.out.1 1
    by_cases hlt : kk < m ∧ kk < 60
    · have hlt2 : decide ((kk : Int) < (m : Int)) = true := by simpa using hlt.1
      have hlt3 : decide ((kk : Int) < 60) = true := by have := hlt.2; simp; omega
      obtain ⟨b, off, rfl, hbl, hrow⟩ := C_rows HC.out.1 (by omega)
      obtain ⟨Ar, cr, hcell0, hcr, hCr⟩ := hrow kk hlt.1
      have hcell : wr.cell? ⟨b, off + kk, none⟩ = some (.slice Ar L[kk]!.length cr) := (HB.out.cell (p := ⟨b, off + kk, none⟩) hbl).trans hcell0
      have hblr : b < wr.heap.size := Nat.lt_of_lt_of_le hbl HB.out.size
      have hgr : w.heap.size < wr.heap.size := World.block_lt_of_cell? wr ⟨w.heap.size, 1, none⟩ hc1
      have hgr2 : w.heap.size + 1 < wr.heap.size := blk_lt HX.out.2
      obtain ⟨rl, hrl⟩ : ∃ rl, L[kk]!.length = rl := ⟨_, rfl⟩
      obtain ⟨kq, hkq⟩ : ∃ kq : Nat, min rl 12 = kq := ⟨_, rfl⟩
      have hr9 : rl ≤ 9223372036854775807 := by rw [← hrl]; exact C_max hCr
      have hmin : (if (12 : Int) < (rl : Int) then (12 : Int) else (rl : Int)) = (kq : Int) := by split <;> omega
      have hmin2 : min (rl : Int) 12 = (kq : Int) := by omega
      have hkq2 : (kq : Int) ≤ (cr : Int) := by omega
      have hkq3 : kq ≤ 12 := by omega
      have HT : Aside0 ((L[kk]!.take 12).length = kq ∧ Kd.C kI wr Ar kq (L[kk]!.take 12) ∧ boundL (L.take (kk + 1)) = boundL (L.take kk) ++ [L[kk]!.take 12]) := by
        have e1 : (L[kk]!.take 12).length = kq := by rw [List.length_take]; omega
        have e2 : L[kk]!.take 12 = L[kk]!.take kq := by
          rcases Nat.lt_or_ge rl 12 with h | h
          · rw [List.take_of_length_le (by omega), List.take_of_length_le (by omega)]
          · congr 1; omega
        refine ⟨e1, ?_, ?_⟩
        · rw [e2]
          have := Kd.C_below (C_take hCr (show kq ≤ L[kk]!.length by omega)) HB.out
          exact this
        · rw [boundL_snoc L kk (by have := HC.out.2; omega) hlt.2, getElem!_pos L kk (by have := HC.out.2; omega)]
      rw [hrl] at hcell
      clear hcell0 hCr hrow hrl hcr hkq
      generalize L[kk]!.take 12 = rt at *
      obtain ⟨vs, hv1, hv2, hv3⟩ := HR.out
      have HV : Aside0 (vs.length = (boundL (L.take kk)).length ∧ wr.ownsRow w.heap.size 22 1 u3 (boundL (L.take kk)).length vs ∧ ∀ (j : Nat) y r, vs[j]? = some y → (boundL (L.take kk))[j]? = some r → OwnR wr w.heap.size y r) := ⟨⟨hv1, hv2, hv3⟩⟩
      have HL60 : Aside0 ((boundL (L.take kk)).length ≤ 60) := ⟨by unfold boundL; simp; omega⟩
      have HN : Aside0 (0 < kq → ∃ ad, Ar = some ad ∧ ∀ j u, (nums .i64 rt)[j]? = some u → wr.cell? (ad.add j) = some u) := ⟨ints_at HT.out.2.1⟩
      have hvl : vs.length = (boundL (L.take kk)).length := hv1
      clear hv2 hv3 hv1
      have HFar : Aside0 (∀ W w2, Below wr.heap.size wr W → W.grownBy w2 u3.ownBlock → (w2.cell? ⟨w.heap.size, 1, none⟩ = some (.slice (some ⟨b, off, none⟩) m c) ∧ w2.cell? ⟨b, off + kk, none⟩ = some (.slice Ar rl cr)) ∧
          w2.heap[w.heap.size]? = some (.cells #[.int .i64 n, .slice (some ⟨b, off, none⟩) m c] 28 (0, 0)) ∧ w2.heap[w.heap.size + 1]? = some (.cells #[.int .i64 0, .slice none 0 0] 28 (0, 0))) := ⟨fun W w2 hb hg => by
        have n1 := type_ne (cs := []) HV.out.2.1 HX.out.1 (by decide)
        have n2 := type_ne (cs := []) HV.out.2.1 HX.out.2 (by decide)
        have n3 : some b ≠ u3.ownBlock := fun e => absurd (own_base HV.out.2.1 b e.symm) (by omega)
        have hz := hb.size
        refine ⟨⟨?_, ?_⟩, ?_, ?_⟩
        · exact (World.grownBy.cell_far hg ⟨w.heap.size, 1, none⟩ (Nat.lt_of_lt_of_le hgr hz) n1).trans ((hb.cell (p := ⟨w.heap.size, 1, none⟩) hgr).trans hc1)
        · exact (World.grownBy.cell_far hg ⟨b, off + kk, none⟩ (Nat.lt_of_lt_of_le hblr hz) n3).trans ((hb.cell (p := ⟨b, off + kk, none⟩) hblr).trans hcell)
        · exact (hg.block _ (Nat.lt_of_lt_of_le hgr hz) n1).trans ((hb.block _ hgr).trans HX.out.1)
        · exact (hg.block _ (Nat.lt_of_lt_of_le hgr2 hz) n2).trans ((hb.block _ hgr2).trans HX.out.2)⟩
      go_wp2
      go_region_held3 (fun w' => w'.cell? ⟨w.heap.size, 1, none⟩ = some (.slice (some ⟨b, off, none⟩) m c) ∧ w'.cell? ⟨b, off + kk, none⟩ = some (.slice Ar rl cr)) (first | exact hS | go_keep | (go_split_ands; refine ⟨?_, ?_⟩ <;> first | (rw [hB.cell (p := ⟨w.heap.size, 1, none⟩) hgr]; assumption) | (rw [hB.cell (p := ⟨b, off + kk, none⟩) hblr]; assumption))) (first | (refine step_append_all (w0 := wr) wr.heap.size (by rfl) (.tmp 18) (.tmp 31) 22 3 (.int .i64 0) 8 rfl Tryz.underlying22 infoI rfl (by decide) (.slice (some ⟨wr.heap.size, 0, none⟩) 0 0) [] Ar kq cr (nums .i64 rt) rfl rfl (by simp) (by simp [nums, Value.oneCell']) (own_empty _ _) (by unfold nums; rw [List.length_map]; exact HT.out.1) (by omega) (fun hp => (HN.out hp).imp fun ad h => ⟨h.1, fun j u hj => (Below.cell (w := wr) (B := wr.heap.size) (by (repeat' (first | exact Below.refl _ _ | assumption | refine pw_below_drewN ?_ _ | refine below_drew ?_ | refine below_alloc ?_ _))) (World.block_lt_of_cell? wr _ (h.2 j u hj))).trans (h.2 j u hj)⟩) (by (repeat' (first | exact Below.refl _ _ | assumption | refine pw_below_drewN ?_ _ | refine below_drew ?_ | refine below_alloc ?_ _))) (by simp) (by simp; omega) ?_; intro v1 w1 hown hB hg hat; rw [show ([] ++ nums .i64 rt : List Value).length = kq from (by unfold nums; simp; exact HT.out.1)] at hown; obtain ⟨g1, cap1, rfl⟩ := own_form hown (by rcases hat with h | ⟨b1, h, _⟩ <;> (rw [h]; simp [Value.ownBlock])); have HO1 := Aside0.mk hown; clear hown hg hat) | (refine step_append_all (w0 := w) w.heap.size (by rfl) (.tmp 17) (.tmp 33) 26 22 (.slice none 0 0) 24 rfl Tryz.underlying26 infoII rfl (by decide) u3 vs _ 1 1 [.slice (some ⟨g1, 0, none⟩) kq cap1] rfl rfl (rows_one HV.out.1 HV.out.2.2) (by simp [Value.oneCell']) (by rw [hvl]; exact pw_own_below HV.out.2.1 (by (repeat' (first | exact Below.refl _ _ | assumption | refine pw_below_drewN ?_ _ | refine below_drew ?_ | refine below_alloc ?_ _)))) (by rfl) (by omega) (fun _ => ⟨_, rfl, World.news_of_block (cs := #[.slice (some ⟨g1, 0, none⟩) kq cap1]) (t := 22) (fr := (0, 0)) (heap_alloc_new _ _)⟩) (HB.out.trans (Below.mono (B := wr.heap.size) (by (repeat' (first | exact Below.refl _ _ | assumption | refine pw_below_drewN ?_ _ | refine below_drew ?_ | refine below_alloc ?_ _))) HB.out.size)) (Nat.le_trans HB.out.size (Below.size (w := wr) (B := wr.heap.size) (by (repeat' (first | exact Below.refl _ _ | assumption | refine pw_below_drewN ?_ _ | refine below_drew ?_ | refine below_alloc ?_ _))))) (by rw [hvl]; have := HL60.out; omega) ?_; intro v2 w2 hown2 hb2 hg2 hat2; have HRN := Aside0.mk (RowsB.snoc HV.out.1 (pw_own_below HV.out.2.1 (by (repeat' (first | exact Below.refl _ _ | assumption | refine pw_below_drewN ?_ _ | refine below_drew ?_ | refine below_alloc ?_ _)))) (fun j y r hy hr => pw_own_below (HV.out.2.2 j y r hy hr) (by (repeat' (first | exact Below.refl _ _ | assumption | refine pw_below_drewN ?_ _ | refine below_drew ?_ | refine below_alloc ?_ _)))) (r := rt) (show OwnR _ w.heap.size (.slice (some ⟨g1, 0, none⟩) kq cap1) rt from by unfold OwnR; rw [HT.out.1]; exact pw_own_below (own_weaken HO1.out HB.out.size) (by (repeat' (first | exact Below.refl _ _ | assumption | refine pw_below_drewN ?_ _ | refine below_drew ?_ | refine below_alloc ?_ _)))) hown2 hg2); have HF2 := Aside0.mk (HFar.out _ _ (by (repeat' (first | exact Below.refl _ _ | assumption | refine pw_below_drewN ?_ _ | refine below_drew ?_ | refine below_alloc ?_ _))) hg2); have hS := HF2.out.1; have HW2 := Aside0.mk hb2; have HB1 := Aside0.mk hB; clear hown2 hb2 hg2 hat2))
      all_goals
        have HRN2 := Aside0.mk (HT.out.2.2 ▸ HRN.out)
        clear HRN hS HB1 HV HN HFar hc0 hc1 hcell
        go_wp2
        go_roundg (60 - kk - 1)
        case measure => omega
        case rel => exact ⟨kk + 1, by omega, by omega, by omega, by go_num, HRN2, ⟨HF2.out.2⟩, HW2⟩
    · have HRF : Aside0 (RowsB wr w.heap.size u3 (boundL L)) := ⟨by
        have := HR.out
        rw [boundL_all L kk (by have := HC.out.2; omega)] at this
        exact this⟩
      obtain ⟨A', c', rfl, _, _⟩ := HRF.out.reads
      have k0 := blk_cellA HX.out.2 0
      have k1 := blk_cellA HX.out.2 1
      have l0 := blk_frozen HX.out.2 0
      have l1 := blk_frozen HX.out.2 1
      have HFin : Aside0 (((wr.setCell ⟨w.heap.size + 1, 0, none⟩ (.int .i64 n)).setCell ⟨w.heap.size + 1, 1, none⟩ (.slice A' (boundL L).length c')).heap[w.heap.size + 1]? = some (.cells #[.int .i64 n, .slice A' (boundL L).length c'] 28 (0, 0)) ∧
          RowsB ((wr.setCell ⟨w.heap.size + 1, 0, none⟩ (.int .i64 n)).setCell ⟨w.heap.size + 1, 1, none⟩ (.slice A' (boundL L).length c')) w.heap.size (.slice A' (boundL L).length c') (boundL L) ∧ Below w.heap.size w ((wr.setCell ⟨w.heap.size + 1, 0, none⟩ (.int .i64 n)).setCell ⟨w.heap.size + 1, 1, none⟩ (.slice A' (boundL L).length c'))) :=
        ⟨set2 HX.out.2 _ _, HRF.out.moved (set2_other HX.out.2 _ _), set2_below HB.out (by omega) _ _⟩
      have e0 : (kk < m ∧ decide ((kk : Int) < (m : Int)) = true ∧ decide ((kk : Int) < 60) = false) ∨ (¬ kk < m ∧ decide ((kk : Int) < (m : Int)) = false) := by
        rcases Nat.lt_or_ge kk m with hkn | hkn
        · left; simp; omega
        · right; simp; omega
      clear HR HRF
      rcases e0 with ⟨e3, e1, e2⟩ | ⟨e3, e1⟩
      all_goals
        go_wp2
        have z0 := blk_cellA HFin.out.1 0
        have z1 := blk_cellA HFin.out.1 1
        refine bodyPost_ret (v := .agg #[.int .i64 n, .slice A' (boundL L).length c']) (by simp [results, Tryz.results13, go_sem, z0, z1]) rfl ?_
        exact ⟨_, rfl, HFin.out.2.1, HFin.out.2.2⟩
end Go.Proofs.YtjifancgekoenaaGreatDoor
