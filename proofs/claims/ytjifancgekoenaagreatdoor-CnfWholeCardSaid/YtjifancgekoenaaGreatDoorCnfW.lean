import Derived.Test.YtjifancgekoenaaGreatDoorCnfU
namespace Go.Proofs.YtjifancgekoenaaGreatDoor
open Go.RowKit Go.Proofs.YtjifancgekoenaaGreatDoorW.PrintWords Go.Proofs.YtjifancgekoenaaGreatDoorW.PrintLast
set_option linter.unusedVariables false
set_option linter.unusedSimpArgs false

/-- The cells of a row of rows. -/
theorem rows_vals {w : World} {A : Option Addr} {n : Nat} {L : List (List Int)} (h : Kd.C kII w A n L) : ∃ vs : List Value, vs.length = n ∧ (0 < n → ∃ ad, A = some ad ∧ ∀ j u, vs[j]? = some u → w.cell? (ad.add j) = some u) ∧
    ∀ (j : Nat) y r, vs[j]? = some y → L[j]? = some r → ∃ A c, y = .slice A r.length c ∧ r.length ≤ c ∧ Kd.C kI w A r.length r := by
  have hl : L.length = n := h.1
  rcases Nat.eq_zero_or_pos n with h0 | hp
  · subst h0
    exact ⟨[], rfl, fun h => absurd h (by omega), fun j y r hy => by simp at hy⟩
  · obtain ⟨b, off, rfl, _, hc⟩ := C_rows h hp
    refine ⟨(List.range n).map fun j => (w.cell? ⟨b, off + j, none⟩).getD (.bool false), by simp, fun _ => ⟨_, rfl, fun j u hj => ?_⟩, fun j y r hy hr => ?_⟩
    · rw [List.getElem?_map] at hj
      obtain ⟨i, hi, rfl⟩ := Option.map_eq_some_iff.1 hj
      obtain ⟨hjn, rfl⟩ := List.getElem?_eq_some_iff.1 hi
      simp only [List.getElem_range]
      rw [List.length_range] at hjn
      obtain ⟨A1, c1, h1, _⟩ := hc j hjn
      rw [add_spot rfl, h1]; rfl
    · rw [List.getElem?_map] at hy
      obtain ⟨i, hi, rfl⟩ := Option.map_eq_some_iff.1 hy
      obtain ⟨hjn, rfl⟩ := List.getElem?_eq_some_iff.1 hi
      simp only [List.getElem_range]
      rw [List.length_range] at hjn
      obtain ⟨A1, c1, h1, h2, h3⟩ := hc j hjn
      have er : L[j]! = r := by rw [List.getElem!_eq_getElem?_getD, hr]; rfl
      rw [er] at h1 h2 h3
      exact ⟨A1, c1, by rw [h1]; rfl, h2, h3⟩
/-- Rows whose cells lie in a block of the call's own, the rows in an older world. -/
def RowsV (w0 w : World) (base : Nat) (v : Value) (L : List (List Int)) : Prop :=
  ∃ vs : List Value, vs.length = L.length ∧ w.ownsRow base 22 1 v L.length vs ∧ ∀ (j : Nat) y r, vs[j]? = some y → L[j]? = some r → ∃ A c, y = .slice A r.length c ∧ r.length ≤ c ∧ Kd.C kI w0 A r.length r
theorem RowsV.reads {w0 w : World} {base : Nat} {v : Value} {L : List (List Int)} (h : RowsV w0 w base v L) (hb : Below w0.heap.size w0 w) : ∃ A c, v = .slice A L.length c ∧ L.length ≤ c ∧ Kd.C kII w A L.length L := by
  obtain ⟨vs, h1, h2, h3⟩ := h
  rcases h2.2 with ⟨rfl, h0⟩ | ⟨g, cap, cur, rfl, _, _, h4, h5, _⟩
  · have : L = [] := List.eq_nil_of_length_eq_zero h0
    subst this
    exact ⟨none, 0, rfl, Nat.le_refl _, Kd.C_nil _ _⟩
  · refine ⟨_, cap, rfl, by omega, CII_of_cells (by unfold maxLen at h5; omega) (fun j r hj => ?_)⟩
    have hjl := (List.getElem?_eq_some_iff.1 hj).1
    obtain ⟨y, hy⟩ : ∃ y, vs[j]? = some y := ⟨_, List.getElem?_eq_getElem (by omega)⟩
    obtain ⟨A, c, rfl, hc, hC⟩ := h3 j y r hy hj
    have := h2.cells (g := g) rfl j _ hy
    rw [add_plain] at this
    exact ⟨A, c, by simpa using this, hc, Kd.C_below hC hb⟩
theorem own_empty2 (X : World) (D : Obj) (t : TypeId) : ((X.alloc D).alloc (.cells #[] t)).drew.ownsRow X.heap.size t 1 (.slice (some ⟨X.heap.size + 1, 0, none⟩) 0 0) 0 [] := by
  have h := own_weaken (base' := X.heap.size) (own_empty (X.alloc D) t) (by simp)
  rw [show (X.alloc D).heap.size = X.heap.size + 1 from by simp] at h
  exact own_drew h
theorem trueB_snoc (L : List (List Int)) (r : List Int) (a : List Bool) : trueB (L ++ [r]) a = (trueB L a && clauseB r a) := by
  rw [trueB_all, trueB_all, List.all_append]; simp

/-- Behind the literal: the variable d. -/
structure Aft (wr W : World) (D : Nat) (n : Int) (v : Value) (vs : List Value) (m : Nat) : Prop where
  box : W.heap[D]? = some (.cells #[.int .i64 n, v] 28 (0, 0))
  own : W.ownsRow wr.heap.size 22 1 v m vs
  bel : Below wr.heap.size wr W
  low : wr.heap.size ≤ D
theorem own_set2 {w : World} {b base m : Nat} {x y u1 u2 v : Value} {vs : List Value} (hb : w.heap[b]? = some (.cells #[x, y] 28 (0, 0))) (h : w.ownsRow base 22 1 v m vs) : ((w.setCell ⟨b, 0, none⟩ u1).setCell ⟨b, 1, none⟩ u2).ownsRow base 22 1 v m vs := by
  obtain ⟨h1, h2⟩ := h
  refine ⟨h1, ?_⟩
  rcases h2 with h2 | ⟨g, cap, cur, rfl, hg, hh, r⟩
  · exact .inl h2
  · exact .inr ⟨g, cap, cur, rfl, hg, (set2_other hb u1 u2 g ⟨_, _, hh, by decide⟩).trans hh, r⟩
theorem aft_set {wr w1 : World} {D : Nat} {n : Int} {v : Value} {vs : List Value} {m : Nat} (hD : w1.heap[D]? = some (.cells #[.int .i64 0, .slice none 0 0] 28 (0, 0))) (ho : w1.ownsRow wr.heap.size 22 1 v m vs) (hB : Below wr.heap.size wr w1) (hl : wr.heap.size ≤ D) :
    Aft wr ((w1.setCell ⟨D, 0, none⟩ (.int .i64 n)).setCell ⟨D, 1, none⟩ v) D n v vs m := ⟨set2 hD _ _, own_set2 hD ho, set2_below hB hl _ _, hl⟩
theorem aft_new {wr w1 : World} {n : Int} {v : Value} {vs : List Value} {m : Nat} (ho : w1.ownsRow wr.heap.size 22 1 v m vs) (hB : Below wr.heap.size wr w1) :
    Aft wr (w1.alloc (.cells #[.int .i64 n, v] 28)) w1.heap.size n v vs m := ⟨heap_alloc_new _ _, pw_own_below ho (bel_alloc _ _), hB.alloc hB.size _, hB.size⟩
theorem own_set1 {w : World} {b base m : Nat} {x y u v : Value} {vs : List Value} (hb : w.heap[b]? = some (.cells #[x, y] 28 (0, 0))) (h : w.ownsRow base 22 1 v m vs) : (w.setCell ⟨b, 1, none⟩ u).ownsRow base 22 1 v m vs := by
  obtain ⟨h1, h2⟩ := h
  refine ⟨h1, ?_⟩
  rcases h2 with h2 | ⟨g, cap, cur, rfl, hg, hh, r⟩
  · exact .inl h2
  · have hne : g ≠ b := by
      rintro rfl
      rw [hb] at hh
      simp at hh
    exact .inr ⟨g, cap, cur, rfl, hg, (Below.heap_setCell w ⟨b, 1, none⟩ u g hne).trans hh, r⟩
/-- Behind 'd.L = append(d.L, more)'. -/
structure Aft2 (wr W : World) (D : Nat) (n : Int) (v : Value) (L : List (List Int)) : Prop where
  box : W.heap[D]? = some (.cells #[.int .i64 n, v] 28 (0, 0))
  rows : ∃ A c, v = .slice A L.length c ∧ Kd.C kII W A L.length L
  bel : Below wr.heap.size wr W
theorem aft2_set {wr w9 : World} {D m km : Nat} {n : Int} {v v2 : Value} {vs : List Value} {B : List (List Int)} {mt : List Int} {A2 : Option Addr} {c2 : Nat} (hD : w9.heap[D]? = some (.cells #[.int .i64 n, v] 28 (0, 0)))
    (ho : w9.ownsRow wr.heap.size 22 1 v2 (m + 1) (vs ++ [.slice A2 km c2])) (hB : Below wr.heap.size wr w9) (hl : wr.heap.size ≤ D) (hBm : B.length = m) (hv : vs.length = m) (hmt : mt.length = km) (hkc : km ≤ c2) (hmC : Kd.C kI wr A2 mt.length mt)
    (hvs : ∀ (j : Nat) y r, vs[j]? = some y → B[j]? = some r → ∃ A c, y = .slice A r.length c ∧ r.length ≤ c ∧ Kd.C kI wr A r.length r) :
    Aft2 wr (w9.setCell ⟨D, 1, none⟩ v2) D n v2 (B ++ [mt]) := by
  have hb2 : Below wr.heap.size wr (w9.setCell ⟨D, 1, none⟩ v2) := hB.setCell hl _
  refine ⟨set1 hD v2, ?_, hb2⟩
  have hR : RowsV wr (w9.setCell ⟨D, 1, none⟩ v2) wr.heap.size v2 (B ++ [mt]) := by
    refine ⟨vs ++ [.slice A2 km c2], by simp; omega, ?_, fun j y r hy hr => ?_⟩
    · rw [show (B ++ [mt]).length = m + 1 from by simp [hBm]]
      exact own_set1 hD ho
    · rcases Nat.lt_or_ge j m with hj | hj
      · rw [List.getElem?_append_left (by omega)] at hy hr
        exact hvs j y r hy hr
      · have hj2 := (List.getElem?_eq_some_iff.1 hr).1
        simp only [List.length_append, List.length_cons, List.length_nil] at hj2
        obtain rfl : j = m := by omega
        rw [← hBm] at hr
        simp at hr
        subst hr
        rw [← hv] at hy
        simp at hy
        subst hy
        exact ⟨A2, c2, by rw [hmt], by omega, hmC⟩
  obtain ⟨A, c, e, _, hC⟩ := hR.reads hb2
  exact ⟨A, c, e, hC⟩
set_option maxHeartbeats 4000000 in
set_option maxRecDepth 100000 in
theorem CnfWhole_any (n : Int) (A : Option Addr) (c : Nat) (L : List (List Int)) (A1 : Option Addr) (c1 : Nat) (a0 : List Bool) (A2 : Option Addr) (c2 : Nat) (m0 : List Int) (w : World) (hC : Kd.C kII w A L.length L) (hc : L.length ≤ c) (hW : WfL L) (hn : -9223372036854775808 ≤ n ∧ n ≤ 9223372036854775807)
    (ha0 : Kd.C Kd.bool w A1 a0.length a0) (hca : a0.length ≤ c1) (hm0 : Kd.C kI w A2 m0.length m0) (hcm : m0.length ≤ c2) (hWm : Wf m0) (hL : Laid w) :
    Calls Tryz.prog 9 #[.agg #[.int .i64 n, .slice A L.length c], .slice A1 a0.length c1, .slice A2 m0.length c2] w fun e w' => e = .returned (.bool true) ∧ Below w.heap.size w w' := by
  have HBd := Bound_any n A c L (w.alloc (.cells #[.int .i64 n, .slice A L.length c] 28)) (Kd.C_below hC (bel_alloc _ _)) hc
  have HW : Aside0 (WfL (boundL L) ∧ (∀ r ∈ boundL L, r.length ≤ 12) ∧ (boundL L).length ≤ 60 ∧ Laid w) := ⟨boundL_wf hW, fun r hr => boundL_row hr, boundL_len L, hL⟩
  obtain ⟨k, hk1⟩ : ∃ k : Nat, min a0.length 100 = k := ⟨_, rfl⟩
  have ha9 : a0.length ≤ 9223372036854775807 := C_max ha0
  have hk2 : (k : Int) ≤ (c1 : Int) := by omega
  have hmin : (if (100 : Int) < (a0.length : Int) then (100 : Int) else (a0.length : Int)) = (k : Int) := by split <;> omega
  have hmin2 : min (a0.length : Int) 100 = (k : Int) := by omega
  obtain ⟨a, hae⟩ : ∃ a, a0.take k = a := ⟨_, rfl⟩
  have hal : a.length = k := by rw [← hae, List.length_take]; omega
  have HA : Aside0 (Kd.C Kd.bool w A1 a.length a ∧ a.length = k ∧ k ≤ 100 ∧ k ≤ c1) := ⟨by rw [hal, ← hae]; exact C_take ha0 (by omega), hal, by omega, by omega⟩
  obtain ⟨km, hkm1⟩ : ∃ km : Nat, min m0.length 12 = km := ⟨_, rfl⟩
  have hm9 : m0.length ≤ 9223372036854775807 := C_max hm0
  have hkm2 : (km : Int) ≤ (c2 : Int) := by omega
  have hmin3 : (if (12 : Int) < (m0.length : Int) then (12 : Int) else (m0.length : Int)) = (km : Int) := by split <;> omega
  have hmin4 : min (m0.length : Int) 12 = (km : Int) := by omega
  obtain ⟨mt, hme⟩ : ∃ mt, m0.take km = mt := ⟨_, rfl⟩
  have hml : mt.length = km := by rw [← hme, List.length_take]; omega
  have HMo : Aside0 (Kd.C kI w A2 mt.length mt ∧ mt.length = km ∧ km ≤ 12 ∧ km ≤ c2) := ⟨by rw [hml, ← hme]; exact C_take hm0 (by omega), hml, by omega, by omega⟩
  clear hC hW hL hn ha0 hae hal hk1 hm0 hme hml hkm1 hWm
  go_enter Tryz.func9, Tryz.ntmps9
  go_wp2_with fail
  refine HBd.mono ?_
  clear HBd
  generalize boundL L = B at *
  rintro e W ⟨A', c', rfl, hS, hb⟩
  rw [show (w.alloc (.cells #[.int .i64 n, .slice A L.length c] 28)).heap.size = w.heap.size + 1 from by simp] at hS hb
  have HC := Aside0.mk (atC_store HW.out.2.2.2 hS hb)
  have hbox := atC_box hb
  have k0 := blk_cellA hbox 0
  have k1 := blk_cellA hbox 1
  have l0 := blk_frozen hbox 0
  have l1 := blk_frozen hbox 1
  clear hS hb hbox
  go_wp2_with fail
  clear k0 k1 l0 l1 hmin hmin2 hk2 ha9 hca
  generalize (W.setCell ⟨w.heap.size, 0, none⟩ (.int .i64 n)).setCell ⟨w.heap.size, 1, none⟩ (.slice A' B.length c') = W1 at *
  obtain ⟨m, hm⟩ : ∃ m, B.length = m := ⟨_, rfl⟩
  have HM : Aside0 (B.length = m ∧ m ≤ 60) := ⟨hm, by have := HW.out.2.2.1; omega⟩
  have hm60 : m ≤ 60 := HM.out.2
  rw [hm]
  go_loopg [7, 8] m (fun gg s7 s8 wr => ∃ kk : Nat, kk ≤ m ∧ m - kk ≤ gg ∧ s7 = .bool (trueB (B.take kk) a) ∧ s8 = .int .i64 kk ∧ Aside0 (AtC w wr w.heap.size n A' c' B))
  case atStart => exact ⟨0, by omega, by omega, by simp [trueB], rfl, HC⟩
  case round =>
    obtain ⟨kk, h1, h2, rfl, rfl, HR⟩ := hrel
    clear HC
    have hc1 := HR.out.c1
    rw [hm] at hc1
    by_cases hlt : kk < m
    · have hlt2 : decide ((kk : Int) < (m : Int)) = true := by simpa using hlt
      obtain ⟨b, off, rfl, hbl, hrow⟩ := C_rows HR.out.rows (by omega)
      obtain ⟨Ar, cr, hcell, hcr, hCr⟩ := hrow kk (by omega)
      have hg : w.heap.size < wr.heap.size := World.block_lt_of_cell? wr _ hc1
      have HCl := Clause_any Ar cr B[kk]! A1 c1 a wr hCr (Kd.C_below HA.out.1 HR.out.bel)
      rw [HA.out.2.1] at HCl
      have HT : Aside0 (trueB (B.take (kk + 1)) a = (trueB (B.take kk) a && clauseB B[kk]! a)) := ⟨by
        rw [List.take_succ_eq_append_getElem (by omega), trueB_snoc, getElem!_pos B kk (by omega)]⟩
      generalize B[kk]!.length = rl at *
      generalize clauseB B[kk]! a = cb at *
      generalize trueB (B.take kk) a = tb at *
      clear hCr hrow hcr
      cases tb
      · go_wp2
        have HT2 : Aside0 (trueB (B.take (kk + 1)) a = false) := ⟨by rw [HT.out]; rfl⟩
        go_roundg (m - kk - 1)
        case measure => omega
        case rel => exact ⟨kk + 1, by omega, by omega, by rw [HT2.out], by go_num, HR⟩
      · go_wp2_with fail
        refine HCl.mono ?_
        rintro e w2 ⟨rfl, hb⟩
        have HR2 := Aside0.mk (HR.out.below hb)
        have HT2 : Aside0 (trueB (B.take (kk + 1)) a = cb) := ⟨by rw [HT.out]; rfl⟩
        clear hb HCl
        cases cb
        all_goals
          go_wp2
          go_roundg (m - kk - 1)
          case measure => omega
          case rel => exact ⟨kk + 1, by omega, by omega, by rw [HT2.out], by go_num, HR2⟩
    · have hlt2 : decide ((kk : Int) < (m : Int)) = false := by simpa using hlt
      have hc0 := HR.out.c0
      have hg : w.heap.size < wr.heap.size := World.block_lt_of_cell? wr _ hc1
      have ht : trueB (B.take kk) a = trueB B a := by rw [List.take_of_length_le (by omega)]
      rw [ht]
      obtain ⟨vs, hvs1, hvs2, hvs3⟩ := rows_vals HR.out.rows
      rw [hm] at hvs1 hvs2
      have HVS : Aside0 (vs.length = m ∧ (0 < m → ∃ ad, A' = some ad ∧ ∀ j u, vs[j]? = some u → wr.cell? (ad.add j) = some u) ∧ ∀ (j : Nat) y r, vs[j]? = some y → B[j]? = some r → ∃ A c, y = .slice A r.length c ∧ r.length ≤ c ∧ Kd.C kI wr A r.length r) := ⟨⟨hvs1, hvs2, hvs3⟩⟩
      have HV1 : Aside0 (∀ u ∈ vs, u.oneCell' = true) := ⟨by
        intro u hu
        obtain ⟨j, hj⟩ := List.mem_iff_getElem?.1 hu
        have hjl := (List.getElem?_eq_some_iff.1 hj).1
        obtain ⟨A9, c9, rfl, _⟩ := hvs3 j u B[j] hj (List.getElem?_eq_getElem (by omega))
        rfl⟩
      clear ht hvs1 hvs2 hvs3
      obtain ⟨tb, htbe⟩ : ∃ tb, trueB B a = tb := ⟨_, rfl⟩
      have HTB := Aside0.mk htbe
      rw [htbe]
      clear htbe
      have hn0 : w.heap.size ≠ wr.heap.size := by omega
      have hn1 : w.heap.size ≠ wr.heap.size + 1 := by omega
      have hn2 : wr.heap.size ≠ w.heap.size := by omega
      have hn3 : wr.heap.size + 1 ≠ w.heap.size := by omega
      go_wp2
      go_region_held3 (fun w' => w'.cell? ⟨w.heap.size, 0, none⟩ = some (.int .i64 n) ∧ w'.cell? ⟨w.heap.size, 1, none⟩ = some (.slice A' m c')) (first | go_keep | ((try dsimp only); (repeat' apply And.intro) <;> first | go_keep | (rw [hB.cell (p := ⟨w.heap.size, 0, none⟩) hg]; assumption) | (rw [hB.cell (p := ⟨w.heap.size, 1, none⟩) hg]; assumption)) | (go_split_ands; refine ⟨?_, ?_⟩ <;> first | (rw [hB.cell (p := ⟨w.heap.size, 0, none⟩) hg]; assumption) | (rw [hB.cell (p := ⟨w.heap.size, 1, none⟩) hg]; assumption))) (first | (refine step_append_all (w0 := wr) wr.heap.size (by rfl) (.tmp 36) (.tmp 38) 26 22 (.slice none 0 0) 24 rfl Tryz.underlying26 infoII rfl (by decide) (.slice (some ⟨_, 0, none⟩) 0 0) [] A' m c' vs rfl rfl (by simp) HV1.out (by first | exact own_empty2 _ _ _ | exact own_weaken (own_empty _ _) (by first | (simp; done) | (simp; omega)) | exact pw_own_below (own_weaken (own_empty _ _) (by first | (simp; done) | (simp; omega))) (by (repeat' (first | exact Below.refl _ _ | assumption | refine pw_below_drewN ?_ _ | refine below_drew ?_ | refine below_alloc ?_ _)))) HVS.out.1 (by omega) (fun hp => (HVS.out.2.1 hp).imp fun ad h => ⟨h.1, fun j u hj => (Below.cell (w := wr) (B := wr.heap.size) (by (repeat' (first | exact Below.refl _ _ | assumption | refine pw_below_drewN ?_ _ | refine below_drew ?_ | refine below_alloc ?_ _))) (World.block_lt_of_cell? wr _ (h.2 j u hj))).trans (h.2 j u hj)⟩) (by (repeat' (first | exact Below.refl _ _ | assumption | refine pw_below_drewN ?_ _ | refine below_drew ?_ | refine below_alloc ?_ _))) (by first | (simp; done) | (simp; omega)) (by simp; omega) ?_; intro v1 w1 hown hB hgw hat; rw [show ([] ++ vs : List Value).length = m from (by simpa using HVS.out.1)] at hown; obtain ⟨g1, cap1, rfl⟩ := own_form hown (by rcases hat with h | ⟨b1, h, _⟩ <;> (rw [h]; simp [Value.ownBlock])); have HO1 := Aside0.mk hown; have HG1 := Aside0.mk hgw; have hc0' := (hB.cell (p := ⟨w.heap.size, 0, none⟩) hg).trans hc0; have hc1' := (hB.cell (p := ⟨w.heap.size, 1, none⟩) hg).trans hc1; have hne0 := World.new_ne w1 ⟨w.heap.size, 0, none⟩ hc0'; have hne1 := World.new_ne w1 ⟨w.heap.size, 1, none⟩ hc1'; (first | (have hDA : w1.heap[wr.heap.size + 1]? = some (.cells #[.int .i64 0, .slice none 0 0] 28 (0, 0)) := (hgw.block (wr.heap.size + 1) (by simp) (by simp [Value.ownBlock])).trans (box_two wr (.cells #[] 22) (.cells #[.int .i64 0, .slice none 0 0] 28)).2; have kD0 := blk_cellA hDA 0; have kD1 := blk_cellA hDA 1; have lD0 := blk_frozen hDA 0; have lD1 := blk_frozen hDA 1; have HDA := Aside0.mk hDA; clear hDA) | (have hDA : w1.heap[wr.heap.size]? = some (.cells #[.int .i64 0, .slice none 0 0] 28 (0, 0)) := (hgw.block wr.heap.size (by simp; omega) (by simp [Value.ownBlock])).trans (box_two wr (.cells #[.int .i64 0, .slice none 0 0] 28) (.cells #[] 22)).1; have kD0 := blk_cellA hDA 0; have kD1 := blk_cellA hDA 1; have lD0 := blk_frozen hDA 0; have lD1 := blk_frozen hDA 1; have HDA := Aside0.mk hDA; clear hDA) | skip); clear hown hgw hat))
      all_goals
        first
          | (obtain ⟨W8, hW8⟩ : ∃ W8, (w1.setCell ⟨wr.heap.size + 1, 0, none⟩ (.int .i64 n)).setCell ⟨wr.heap.size + 1, 1, none⟩ (.slice (some ⟨g1, 0, none⟩) m cap1) = W8 := ⟨_, rfl⟩; have HAf := Aside0.mk (aft_set (wr := wr) (n := n) HDA.out HO1.out hB (by omega)); rw [hW8] at HAf ⊢; clear hW8; generalize wr.heap.size + 1 = D at HAf ⊢)
          | (obtain ⟨W8, hW8⟩ : ∃ W8, (w1.setCell ⟨wr.heap.size, 0, none⟩ (.int .i64 n)).setCell ⟨wr.heap.size, 1, none⟩ (.slice (some ⟨g1, 0, none⟩) m cap1) = W8 := ⟨_, rfl⟩; have HAf := Aside0.mk (aft_set (wr := wr) (n := n) HDA.out HO1.out hB (Nat.le_refl _)); rw [hW8] at HAf ⊢; clear hW8; obtain ⟨D, hDD⟩ : ∃ D, wr.heap.size = D := ⟨_, rfl⟩; replace HAf : Aside0 (Aft wr W8 D n (.slice (some ⟨g1, 0, none⟩) m cap1) ([] ++ vs) m) := ⟨by rw [← hDD]; exact HAf.out⟩; rw [hDD]; clear hDD)
          | (obtain ⟨W8, hW8⟩ : ∃ W8, w1.alloc (.cells #[.int .i64 n, (.slice (some ⟨g1, 0, none⟩) m cap1)] 28) = W8 := ⟨_, rfl⟩; have HAf := Aside0.mk (aft_new (wr := wr) (n := n) HO1.out hB); rw [hW8] at HAf ⊢; clear hW8; generalize w1.heap.size = D at HAf ⊢)
        have hd0 := blk_cellA HAf.out.box 0
        have hd1 := blk_cellA HAf.out.box 1
        have ld1 := blk_frozen HAf.out.box 1
        have hDl : D < W8.heap.size := blk_lt HAf.out.box
        have HFar : Aside0 (∀ W w2, Below W8.heap.size W8 W → W.grownBy w2 (Value.slice (some ⟨g1, 0, none⟩) m cap1).ownBlock → w2.heap[D]? = some (.cells #[.int .i64 n, .slice (some ⟨g1, 0, none⟩) m cap1] 28 (0, 0))) :=
          ⟨fun W w2 hb hg => (hg.block D (Nat.lt_of_lt_of_le hDl hb.size) (type_ne (cs := []) HAf.out.own HAf.out.box (by decide))).trans ((hb.block D hDl).trans HAf.out.box)⟩
        have HOw : Aside0 (W8.ownsRow wr.heap.size 22 1 (.slice (some ⟨g1, 0, none⟩) m cap1) vs.length vs) := ⟨by rw [HVS.out.1]; exact HAf.out.own⟩
        try clear HDA kD0 kD1 lD0 lD1
        clear hB HO1 HG1 hc0' hc1' hne0 hne1 hc0 hc1
        go_wp2
        go_region_law ((refine step_append_all (w0 := wr) wr.heap.size (by rfl) (.tmp 42) (.tmp 48) 26 22 (.slice none 0 0) 24 rfl Tryz.underlying26 infoII rfl (by decide) (.slice (some ⟨g1, 0, none⟩) m cap1) vs _ 1 1 [.slice A2 km c2] rfl rfl HV1.out (by simp [Value.oneCell']) (pw_own_below HOw.out (by (repeat' (first | exact Below.refl _ _ | assumption | refine pw_below_drewN ?_ _ | refine below_drew ?_ | refine below_alloc ?_ _)))) (by rfl) (by omega) (fun _ => ⟨_, rfl, World.news_of_block (cs := #[.slice A2 km c2]) (t := 22) (fr := (0, 0)) (heap_alloc_new _ _)⟩) (HAf.out.bel.trans (Below.mono (B := W8.heap.size) (by (repeat' (first | exact Below.refl _ _ | assumption | refine pw_below_drewN ?_ _ | refine below_drew ?_ | refine below_alloc ?_ _))) HAf.out.bel.size)) (Nat.le_trans HAf.out.bel.size (Below.size (w := W8) (B := W8.heap.size) (by (repeat' (first | exact Below.refl _ _ | assumption | refine pw_below_drewN ?_ _ | refine below_drew ?_ | refine below_alloc ?_ _))))) (by rw [HVS.out.1]; omega) ?_; intro v2 w9 hown hb9 hg9 hat9; have hbox9 := HFar.out _ _ (by (repeat' (first | exact Below.refl _ _ | assumption | refine pw_below_drewN ?_ _ | refine below_drew ?_ | refine below_alloc ?_ _))) hg9; have kd := blk_cellA hbox9 1; have ld := blk_frozen hbox9 1; rw [show (vs ++ [.slice A2 km c2] : List Value).length = m + 1 from (by simp; exact HVS.out.1)] at hown; obtain ⟨g2, cap2, rfl⟩ := own_form hown (by rcases hat9 with h | ⟨b1, h, _⟩ <;> (rw [h]; simp [Value.ownBlock])); have HO9 := Aside0.mk hown; have HB9 := Aside0.mk hb9; have HBX9 := Aside0.mk hbox9; clear hown hb9 hg9 hat9 hbox9))
        all_goals
          have HA2 := Aside0.mk (aft2_set (mt := mt) HBX9.out HO9.out HB9.out HAf.out.low HM.out.1 HVS.out.1 HMo.out.2.1 HMo.out.2.2.2 (Kd.C_below HMo.out.1 HR.out.bel) HVS.out.2.2)
          clear HBX9 HO9 HB9 HFar HOw HAf HVS HV1 kd ld hd0 hd1 ld1 hDl
          generalize w9.setCell ⟨D, 1, none⟩ (.slice (some ⟨g2, 0, none⟩) (m + 1) cap2) = W10 at HA2 ⊢
          have HCf := Aside0.mk (HR.out.below HA2.out.bel)
          obtain ⟨A5, c5, e5, hC5⟩ := HA2.out.rows
          have hlen : (B ++ [mt]).length = m + 1 := by simp [hm]
          rw [hlen] at e5
          injection e5 with e6 e7 e8
          subst e6 e8
          have kd0 := Keeps.cell (blk_cellA HA2.out.box 0)
          have kd1 := Keeps.cell (blk_cellA HA2.out.box 1)
          have kD := Keeps.C hC5
          have kA : Keeps (fun W => Kd.bool.C W A1 a.length a) W10 := ⟨fun W h => Kd.C_below HA.out.1 (HCf.out.bel.trans (h.mono HCf.out.bel.size))⟩
          have kL := Keeps.laid HCf.out.laid
          have kB := Keeps.base HCf.out.bel (Nat.le_refl _)
          have kc0 := Keeps.cell HCf.out.c0
          have kc1 := Keeps.cell HCf.out.c1
          have kC := Keeps.C HCf.out.rows
          have HTd : Aside0 (trueB (B ++ [mt]) a = (tb && clauseB mt a)) := ⟨by rw [trueB_snoc, HTB.out]⟩
          have HQ1 := fun W hW hA => True_any n A' c' B A1 c1 a W hW hA
          have HQ2 := fun W hW hA => True_any n (some ⟨g2, 0, none⟩) cap2 (B ++ [mt]) A1 c1 a W hW hA
          have HQ3 := fun W hA => True_any n none 0 [] A1 c1 a W (Kd.C_nil _ _) hA
          rw [HTB.out, hm, HA.out.2.1] at HQ1
          rw [hlen, HTd.out, HA.out.2.1] at HQ2
          rw [show trueB [] a = true from rfl, HA.out.2.1] at HQ3
          rw [HA.out.2.1] at kA
          rw [hm] at kc1 kC
          rw [hlen] at kD
          clear hlen hC5 HA2 HCf
          generalize clauseB mt a = ct at *
          have h0 := kc0.here
          have h1 := kc1.here
          go_wp2_with fail
          refine (HQ1 W10 kC.here kA.here).mono ?_
          rintro e W11 ⟨rfl, hb⟩
          replace kd0 := kd0.step hb
          replace kd1 := kd1.step hb
          replace kD := kD.step hb
          replace kA := kA.step hb
          replace kL := kL.step hb
          replace kB := kB.step hb
          replace kc0 := kc0.step hb
          replace kc1 := kc1.step hb
          clear hb h0 h1
          have h0 := kd0.here
          have h1 := kd1.here
          have h2 := kc0.here
          have htb : (tb == tb) = true := by simp
          go_wp2_with fail
          refine (HQ2 W11 kD.here kA.here).mono ?_
          rintro e W12 ⟨rfl, hb⟩
          replace kA := kA.step hb
          replace kL := kL.step hb
          replace kB := kB.step hb
          replace kc0 := kc0.step hb
          clear hb h0 h1 h2
          have h2 := kc0.here
          cases tb <;> cases ct
          all_goals
            go_wp2_with fail
            refine (HQ3 W12 kA.here).mono ?_
            rintro e W13 ⟨rfl, hb⟩
            replace kL := kL.step hb
            replace kB := kB.step hb
            clear hb
            go_wp2_with fail
            refine (fixed_any W13 kL.here).mono ?_
            rintro e W14 ⟨rfl, hb⟩
            have hfin := (kB.step hb).here
            go_wp2
            go_ret
            exact ⟨rfl, hfin⟩
end Go.Proofs.YtjifancgekoenaaGreatDoor
