import Derived.Test.YtjifancgekoenaaGreatDoorCnfLc
namespace Go.Proofs.YtjifancgekoenaaGreatDoor
open Go.RowKit Go.Proofs.YtjifancgekoenaaGreatDoorW.PrintWords Go.Proofs.YtjifancgekoenaaGreatDoorW.PrintLast
open Go.Sort (grow cell?_grow heap_grow_old)
set_option linter.unusedVariables false
set_option linter.unusedSimpArgs false

theorem boundL_len (L : List (List Int)) : (boundL L).length ≤ 60 := by unfold boundL; simp; omega
theorem boundL_row {L : List (List Int)} {r : List Int} (h : r ∈ boundL L) : r.length ≤ 12 := by
  unfold boundL at h
  obtain ⟨x, _, rfl⟩ := List.mem_map.1 h
  simp; omega
theorem boundL_wf {L : List (List Int)} (h : WfL L) : WfL (boundL L) := by
  intro r hr x hx
  unfold boundL at hr
  obtain ⟨y, hy, rfl⟩ := List.mem_map.1 hr
  exact h y (List.mem_of_mem_take hy) x (List.mem_of_mem_take hx)
theorem bulk_le {L : List (List Int)} {m : Nat} (h : ∀ r ∈ L, r.length ≤ m) : bulk L ≤ L.length + L.length * m := by
  unfold bulk
  have : (L.map List.length).sum ≤ L.length * m := by
    induction L with
    | nil => simp
    | cons r L ih =>
      simp only [List.map_cons, List.sum_cons, List.length_cons]
      have h1 := h r (by simp)
      have h2 := ih (fun x hx => h x (by simp [hx]))
      rw [Nat.add_mul]
      omega
  omega
theorem boundL_bulk (L : List (List Int)) : bulk (boundL L) ≤ 1000 := by
  have h1 := bulk_le (L := boundL L) (m := 12) (fun r hr => boundL_row hr)
  have h2 := boundL_len L
  omega

theorem Bound_any (n : Int) (A : Option Addr) (c : Nat) (L : List (List Int)) (w : World) (hC : Kd.C kII w A L.length L) (hc : L.length ≤ c) :
    Calls Tryz.prog 13 #[.agg #[.int .i64 n, .slice A L.length c]] w fun e w' => ∃ A' c', e = .returned (.agg #[.int .i64 n, .slice A' (boundL L).length c']) ∧ RowsB w' w.heap.size (.slice A' (boundL L).length c') (boundL L) ∧ Below w.heap.size w w' := by
  refine (Bound_walk n A c L w hC hc).mono ?_
  rintro e w' ⟨v, rfl, hS, hb⟩
  obtain ⟨A', c', rfl, h1, h2⟩ := hS.reads
  exact ⟨A', c', rfl, hS, hb⟩

/-- Behind 'c = Bound(c)': the variable c, what it holds, and that nothing older has turned. -/
structure AtC (w W : World) (g : Nat) (n : Int) (A : Option Addr) (c : Nat) (L : List (List Int)) : Prop where
  c0 : W.cell? ⟨g, 0, none⟩ = some (.int .i64 n)
  c1 : W.cell? ⟨g, 1, none⟩ = some (.slice A L.length c)
  rows : Kd.C kII W A L.length L
  cap : L.length ≤ c
  bel : Below w.heap.size w W
  laid : Laid W
theorem AtC.below {w W W' : World} {g : Nat} {n : Int} {A : Option Addr} {c : Nat} {L : List (List Int)} (h : AtC w W g n A c L) (hb : Below W.heap.size W W') : AtC w W' g n A c L where
  c0 := (hb.cell (World.block_lt_of_cell? W _ h.c0)).trans h.c0
  c1 := (hb.cell (World.block_lt_of_cell? W _ h.c1)).trans h.c1
  rows := Kd.C_below h.rows hb
  cap := h.cap
  bel := h.bel.trans (hb.mono h.bel.size)
  laid := h.laid.below hb
theorem atC_store {w W : World} {A0 : Option Addr} {c0 m : Nat} {n : Int} {A : Option Addr} {c : Nat} {L : List (List Int)} (hL : Laid w)
    (hS : RowsB W (w.heap.size + 1) (.slice A L.length c) L) (hb : Below (w.heap.size + 1) (w.alloc (.cells #[.int .i64 n, .slice A0 m c0] 28)) W) :
    AtC w ((W.setCell ⟨w.heap.size, 0, none⟩ (.int .i64 n)).setCell ⟨w.heap.size, 1, none⟩ (.slice A L.length c)) w.heap.size n A c L := by
  have hbox : W.heap[w.heap.size]? = some (.cells #[.int .i64 n, .slice A0 m c0] 28 (0, 0)) := (hb.block w.heap.size (by omega)).trans (heap_alloc_new w _)
  have h2 := set2 hbox (.int .i64 n) (.slice A L.length c)
  obtain ⟨A', c', he, h3, h4⟩ := (hS.moved (set2_other hbox (.int .i64 n) (.slice A L.length c))).reads
  injection he with e1 e2 e3
  subst e1 e3
  have hB : Below w.heap.size w ((W.setCell ⟨w.heap.size, 0, none⟩ (.int .i64 n)).setCell ⟨w.heap.size, 1, none⟩ (.slice A L.length c)) :=
    set2_below (((Below.refl w.heap.size w).alloc (Nat.le_refl _) _).trans (hb.mono (Nat.le_succ _))) (Nat.le_refl _) _ _
  exact ⟨(blk_cellA h2 0), (blk_cellA h2 1), h4, h3, hB, hL.below hB⟩
theorem atC_box {w W : World} {A0 : Option Addr} {c0 m : Nat} {n : Int} (hb : Below (w.heap.size + 1) (w.alloc (.cells #[.int .i64 n, .slice A0 m c0] 28)) W) : W.heap[w.heap.size]? = some (.cells #[.int .i64 n, .slice A0 m c0] 28 (0, 0)) :=
  (hb.block w.heap.size (by omega)).trans (heap_alloc_new w _)
end Go.Proofs.YtjifancgekoenaaGreatDoor
