import Derived.Test.YtjifancgekoenaaGreatDoorCnfL
import Derived.Test.YtjifancgekoenaaGreatDoorCnfK
namespace Go.Proofs.YtjifancgekoenaaGreatDoor
open Go.RowKit Go.Proofs.YtjifancgekoenaaGreatDoorW.PrintWords Go.Proofs.YtjifancgekoenaaGreatDoorW.PrintLast Go.Proofs.YtjifancgekoenaaGreatDoorW.PrintMore
open Go.Sort (grow cell?_grow heap_grow_old)
set_option linter.unusedVariables false
set_option linter.unusedSimpArgs false

def boundL (L : List (List Int)) : List (List Int) := (L.take 60).map (List.take 12)
theorem bound_pure (n : Int) (L : List (List Int)) : ∀ (m i : Nat), i + m = min L.length 60 → whetstonelaw13_Bound.l0 (m + 1) (boundL (L.take i)) (i : Int) n L = some (n, boundL L)
  | 0, i, h => by
    have e : boundL (L.take i) = boundL L := by
      unfold boundL
      rw [List.take_take]
      congr 1
      rcases Nat.lt_or_ge L.length 60 with h1 | h1
      · rw [List.take_of_length_le (by omega), List.take_of_length_le (by omega)]
      · congr 1; omega
    unfold whetstonelaw13_Bound.l0
    by_cases h1 : (i : Int) < (L.length : Int)
    · rw [if_pos h1, if_neg (by omega), e]
    · rw [if_neg h1, e]
  | m + 1, i, h => by
    unfold whetstonelaw13_Bound.l0
    have h1 : (i : Int) < (L.length : Int) := by omega
    have hi : i < L.length := by omega
    have er : rd_L6 L (i : Int) = L[i] := by
      unfold rd_L6
      simp [List.getD_eq_getElem?_getD, hi]
    rw [if_pos h1, if_pos (by omega), er]
    simp only [Option.bind_some]
    have hmn : mn (L[i].length : Int) 12 = ((min L[i].length 12 : Nat) : Int) := by unfold mn; split <;> omega
    rw [hmn, if_pos (by omega), if_pos (by omega), if_pos (by omega), if_pos (by simp; omega), if_pos (by simp [boundL]; omega)]
    have hw : wrap64 ((i : Int) + 1) = ((i + 1 : Nat) : Int) := by simp [wrap64]; omega
    rw [hw]
    have ea : boundL (L.take i) ++ [[] ++ L[i].take (min L[i].length 12 : Nat)] = boundL (L.take (i + 1)) := by
      unfold boundL
      rw [List.take_take, List.take_take, show min 60 i = i from by omega, show min 60 (i + 1) = i + 1 from by omega, List.take_succ_eq_append_getElem hi, List.map_append, List.map_cons, List.map_nil, List.nil_append]
      have e12 : L[i].take (min L[i].length 12) = L[i].take 12 := by
        rcases Nat.lt_or_ge L[i].length 12 with h2 | h2
        · rw [List.take_of_length_le (by omega), List.take_of_length_le (by omega)]
        · rw [Nat.min_eq_right h2]
      rw [e12]
    rw [show (((min L[i].length 12 : Nat) : Int)).toNat = min L[i].length 12 from by simp, ea]
    exact bound_pure n L m (i + 1) (by omega)
theorem boundL_len (L : List (List Int)) : (boundL L).length ≤ 60 := by unfold boundL; simp; omega
theorem boundL_row {L : List (List Int)} {r : List Int} (h : r ∈ boundL L) : r.length ≤ 12 := by
  unfold boundL at h
  obtain ⟨x, _, rfl⟩ := List.mem_map.1 h
  simp; omega
theorem boundL_wf {L : List (List Int)} (h : WfL L) : WfL (boundL L) := by
  intro r hr x hx
  unfold boundL at hr
  obtain ⟨y, hy, rfl⟩ := List.mem_map.1 hr
  exact h y (List.mem_of_mem_take hy) x (List.mem_of_mem_take hx)
theorem bulk_le {L : List (List Int)} {m : Nat} (h : ∀ r ∈ L, r.length ≤ m) : bulk L ≤ L.length + L.length * m := by
  unfold bulk
  have : (L.map List.length).sum ≤ L.length * m := by
    induction L with
    | nil => simp
    | cons r L ih =>
      simp only [List.map_cons, List.sum_cons, List.length_cons]
      have h1 := h r (by simp)
      have h2 := ih (fun x hx => h x (by simp [hx]))
      rw [Nat.add_mul]
      omega
  omega
theorem boundL_bulk (L : List (List Int)) : bulk (boundL L) ≤ 1000 := by
  have h1 := bulk_le (L := boundL L) (m := 12) (fun r hr => boundL_row hr)
  have h2 := boundL_len L
  omega

theorem Bound_any (n : Int) (A : Option Addr) (c : Nat) (L : List (List Int)) (w : World) (hC : Kd.C kII w A L.length L) (hc : L.length ≤ c) :
    Calls Tryz.prog 13 #[.agg #[.int .i64 n, .slice A L.length c]] w fun e w' => ∃ A' c', e = .returned (.agg #[.int .i64 n, .slice A' (boundL L).length c']) ∧ Kd.S kII 22 w' w.heap.size (fun _ => True) (.slice A' (boundL L).length c') (boundL L) ∧ Below w.heap.size w w' := by
  refine (whetstonelaw13_Bound.calls (min L.length 60 + 1) n A c L n (boundL L) w hC hc (bound_pure n L (min L.length 60) 0 (by omega))).mono ?_
  rintro e w' ⟨v, rfl, hS, hb⟩
  obtain ⟨A', c', rfl, h1, h2⟩ := Kd.S_reads hS
  exact ⟨A', c', rfl, hS, hb⟩

/-- Behind 'c = Bound(c)': the variable c, what it holds, and that nothing older has turned. -/
structure AtC (w W : World) (g : Nat) (n : Int) (A : Option Addr) (c : Nat) (L : List (List Int)) : Prop where
  c0 : W.cell? ⟨g, 0, none⟩ = some (.int .i64 n)
  c1 : W.cell? ⟨g, 1, none⟩ = some (.slice A L.length c)
  rows : Kd.C kII W A L.length L
  cap : L.length ≤ c
  bel : Below w.heap.size w W
  laid : Laid W
theorem AtC.below {w W W' : World} {g : Nat} {n : Int} {A : Option Addr} {c : Nat} {L : List (List Int)} (h : AtC w W g n A c L) (hb : Below W.heap.size W W') : AtC w W' g n A c L where
  c0 := (hb.cell (World.block_lt_of_cell? W _ h.c0)).trans h.c0
  c1 := (hb.cell (World.block_lt_of_cell? W _ h.c1)).trans h.c1
  rows := Kd.C_below h.rows hb
  cap := h.cap
  bel := h.bel.trans (hb.mono h.bel.size)
  laid := h.laid.below hb
theorem atC_store {w W : World} {A0 : Option Addr} {c0 m : Nat} {n : Int} {A : Option Addr} {c : Nat} {L : List (List Int)} (hL : Laid w)
    (hS : Kd.S kII 22 W (w.heap.size + 1) (fun _ => True) (.slice A L.length c) L) (hb : Below (w.heap.size + 1) (w.alloc (.cells #[.int .i64 n, .slice A0 m c0] 28)) W) :
    AtC w ((W.setCell ⟨w.heap.size, 0, none⟩ (.int .i64 n)).setCell ⟨w.heap.size, 1, none⟩ (.slice A L.length c)) w.heap.size n A c L := by
  have hsz : (w.alloc (.cells #[.int .i64 n, .slice A0 m c0] 28)).heap.size = w.heap.size + 1 := by simp
  have hbox : W.heap[w.heap.size]? = some (.cells #[.int .i64 n, .slice A0 m c0] 28 (0, 0)) := (hb.block w.heap.size (by omega)).trans (heap_alloc_new w _)
  have h2 := set2 hbox (.int .i64 n) (.slice A L.length c)
  have hbox1 : (W.setCell ⟨w.heap.size, 0, none⟩ (.int .i64 n)).heap[w.heap.size]? = some (.cells #[.int .i64 n, .slice A0 m c0] 28 (0, 0)) :=
    blk_put (cs := #[.int .i64 n, .slice A0 m c0]) hbox 0 (.int .i64 n) (by simp)
  have hS2 := Kd.S_set (Kd.S_set hS hbox (by decide) 0 (.int .i64 n)) hbox1 (by decide) 1 (.slice A L.length c)
  obtain ⟨A', c', he, h3, h4⟩ := Kd.S_reads hS2
  injection he with e1 e2 e3
  subst e1 e3
  have hB : Below w.heap.size w ((W.setCell ⟨w.heap.size, 0, none⟩ (.int .i64 n)).setCell ⟨w.heap.size, 1, none⟩ (.slice A L.length c)) :=
    set2_below (((Below.refl w.heap.size w).alloc (Nat.le_refl _) _).trans (hb.mono (Nat.le_succ _))) (Nat.le_refl _) _ _
  exact ⟨(blk_cellA h2 0), (blk_cellA h2 1), h4, h3, hB, hL.below hB⟩
theorem atC_box {w W : World} {A0 : Option Addr} {c0 m : Nat} {n : Int} (hb : Below (w.heap.size + 1) (w.alloc (.cells #[.int .i64 n, .slice A0 m c0] 28)) W) : W.heap[w.heap.size]? = some (.cells #[.int .i64 n, .slice A0 m c0] 28 (0, 0)) :=
  (hb.block w.heap.size (by omega)).trans (heap_alloc_new w _)
end Go.Proofs.YtjifancgekoenaaGreatDoor
