/- learn and conflict, walked. -/
import Derived.Test.YtbagcbiekpopbaaG4
import Derived.Maps.OwnIn
namespace Go.Proofs.Ytbagcbiekpopbaa
open Go.RowKit Go.Shelf Go.Proofs.YtbagcbiekpopbaaW.PrintWords Go.Proofs.YtbagcbiekpopbaaW.PrintLast
set_option linter.unusedVariables false
set_option linter.unusedSimpArgs false
attribute [local go_sem] Oper.semAt_some

theorem lrnIn_step {F : Fl} {y : Int} {ys : List Int} {a r : St.Ln} (h : St.lrnIn F (y :: ys) a = some r) : ∃ v, a.s.le[y.natAbs]? = some v ∧
    (((a.seen y.natAbs = true ∨ v = 0) ∧ St.lrnIn F ys a = some r) ∨
     (a.seen y.natAbs = false ∧ v ≠ 0 ∧ ∃ s1, a.s.bump F y.natAbs = some s1 ∧ a.out.length < bigN ∧ a.op < bigN ∧
       ((v = a.s.ma.length ∧ St.lrnIn F ys { s := s1, seen := upd a.seen y.natAbs true, out := a.out, op := a.op + 1 } = some r) ∨
        (v ≠ a.s.ma.length ∧ St.lrnIn F ys { s := s1, seen := upd a.seen y.natAbs true, out := a.out ++ [y], op := a.op } = some r)))) := by
  unfold St.lrnIn at h
  simp only [Option.bind_eq_bind, Option.bind_eq_some_iff] at h
  obtain ⟨v, hv, h⟩ := h
  refine ⟨v, hv, ?_⟩
  split at h
  · rename_i hc
    exact .inl ⟨hc, h⟩
  · rename_i hc
    simp only [Option.bind_eq_bind, Option.bind_eq_some_iff] at h
    obtain ⟨s1, hs1, h⟩ := h
    split at h
    · rename_i hb
      refine .inr ⟨by cases e : a.seen y.natAbs with | false => rfl | true => exact absurd (.inl e) hc, fun e => hc (.inr e), s1, hs1, hb.1, hb.2, ?_⟩
      split at h
      · rename_i hv2; exact .inl ⟨hv2, h⟩
      · rename_i hv2; exact .inr ⟨hv2, h⟩
    · cases h
theorem lrnOut_step {F : Fl} {x : Int} {xs why : List Int} {a r : St.Ln} (h : St.lrnOut F (x :: xs) why a = some r) : ∃ a1 v, St.lrnIn F why a = some a1 ∧ a1.s.le[x.natAbs]? = some v ∧
    (((a1.seen x.natAbs = false ∨ v ≠ a1.s.ma.length) ∧ St.lrnOut F xs [] a1 = some r) ∨
     (a1.seen x.natAbs = true ∧ v = a1.s.ma.length ∧ ((a1.op = 1 ∧ r = { a1 with op := 0, out := a1.out.set 0 (-x) }) ∨
       (1 < a1.op ∧ ∃ rs w, a1.s.re[x.natAbs]? = some rs ∧ 0 ≤ rs ∧ a1.s.cl[rs.toNat]? = some w ∧ St.lrnOut F xs w { a1 with op := a1.op - 1 } = some r)))) := by
  unfold St.lrnOut at h
  simp only [Option.bind_eq_bind, Option.bind_eq_some_iff] at h
  obtain ⟨a1, ha1, v, hv, h⟩ := h
  refine ⟨a1, v, ha1, hv, ?_⟩
  split at h
  · rename_i hc
    exact .inl ⟨hc, h⟩
  · rename_i hc
    refine .inr ⟨by cases e : a1.seen x.natAbs with | true => rfl | false => exact absurd (.inl e) hc, by
      rcases Decidable.em (v = a1.s.ma.length) with e | e
      · exact e
      · exact absurd (.inr e) hc, ?_⟩
    split at h
    · cases h
    · rename_i h0
      split at h
      · rename_i h1
        exact .inl ⟨h1, (Option.some.inj h).symm⟩
      · rename_i h1
        simp only [Option.bind_eq_bind, Option.bind_eq_some_iff] at h
        obtain ⟨rs, hrs, h⟩ := h
        split at h
        · rename_i h2
          simp only [Option.bind_eq_bind, Option.bind_eq_some_iff] at h
          obtain ⟨w, hw, h⟩ := h
          exact .inr ⟨by omega, rs, w, hrs, h2, hw, h⟩
        · cases h

theorem allocs_heap : ∀ (os : List Obj) (w : World), (os.foldl World.alloc w).heap = w.heap ++ os.toArray ∧ (os.foldl World.alloc w).os = w.os ∧ (os.foldl World.alloc w).tape = w.tape ∧ (os.foldl World.alloc w).output = w.output
  | [], w => by simp
  | o :: os, w => by
    obtain ⟨h1, h2, h3, h4⟩ := allocs_heap os (w.alloc o)
    refine ⟨?_, h2.trans rfl, h3.trans rfl, h4.trans rfl⟩
    show (os.foldl World.alloc (w.alloc o)).heap = _
    rw [h1]
    show w.heap.push o ++ os.toArray = _
    simp
theorem allocs_size (os : List Obj) (w : World) : (os.foldl World.alloc w).heap.size = w.heap.size + os.length := by rw [(allocs_heap os w).1]; simp
theorem allocs_at (os : List Obj) (w : World) (j : Nat) : (os.foldl World.alloc w).heap[w.heap.size + j]? = os[j]? := by
  rw [(allocs_heap os w).1, Array.getElem?_append_right (by omega)]; simp
theorem allocs_turn (os : List Obj) (w : World) : Turn w (os.foldl World.alloc w) (fun _ => False) := by
  obtain ⟨h1, h2, h3, h4⟩ := allocs_heap os w
  refine ⟨h2, h3, h4, by rw [allocs_size]; omega, fun k hk _ => ?_⟩
  rw [h1, Array.getElem?_append_left hk]

def LearnOut (w : World) (B sb : Nat) (h : Hp) (s' : St) (C : List Int) (back : Nat) (e : Ending) (w' : World) : Prop :=
  ∃ g c, e = .returned (.tuple #[.slice (some ⟨g, 0, none⟩) C.length c, .int .i64 (back : Int)]) ∧ Rep w' B sb s' h ∧ Turn w w' (fun g => g = sb ∨ h.own g = .row .sc) ∧ w'.ownsRow w.heap.size 3 1 (.slice (some ⟨g, 0, none⟩) C.length c) C.length (nums .i64 C) ∧ w.heap.size ≤ g

theorem Turn.block' {w : World} {g i : Nat} {v : Value} (h : Turn w (w.setCell ⟨g, i, none⟩ v) (fun k => k = g)) (k : Nat) (hk : k ≠ g) : (w.setCell ⟨g, i, none⟩ v).heap[k]? = w.heap[k]? := by
  simp only [World.setCell, Array.getElem?_modify]
  rw [if_neg (fun e => hk e.symm)]
set_option maxHeartbeats 8000000 in
set_option maxRecDepth 100000 in
theorem learn_any (k : Nat) (w : World) (B sb : Nat) (s s' : St) (h : Hp) (C : List Int) (back : Nat) (R : Rep w B sb s h) (hs : s.learn flS k = some (s', C, back)) (hk : k < bigN) :
    Calls Try.prog 38 #[.pointer (some ⟨sb, 0, none⟩), .int .i64 (k : Int)] w (LearnOut w B sb h s' C back) := by
  unfold St.learn at hs
  simp only [Option.bind_eq_bind, Option.bind_eq_some_iff] at hs
  obtain ⟨why, hwhy, fin, hfin, ⟨o2, bk2⟩, hback, hs⟩ := hs
  simp only [Option.some.injEq, Prod.mk.injEq] at hs
  obtain ⟨rfl, rfl, rfl⟩ := hs
  have HS := Aside0.mk (And.intro R (And.intro hwhy (And.intro hfin hback)))
  -- what is read ahead of the loop
  have hcl : (cellsOf s h.val .cl)[k]? = some (h.val (.c k)) := by
    show ((List.range s.cl.length).map fun i => h.val (.c i))[k]? = _
    rw [List.getElem?_map, List.getElem?_range (List.getElem?_eq_some_iff.1 hwhy).1]; rfl
  obtain ⟨gc, cc, e1, hi1, hc1, hm1, hcell1, -, -, -⟩ := R.num (t := .cl) hcl
  obtain ⟨n1, hn1⟩ : ∃ n1, (cellsOf s h.val .cl).length = n1 := ⟨_, rfl⟩
  have h1 := R.cell 1
  change w.cell? ⟨sb, 1, none⟩ = some (h.val .cl) at h1
  rw [e1] at h1
  rw [hn1] at h1 hi1 hc1
  have hi1' : (k : Int) < (n1 : Int) := by omega
  have h6 := R.cell 6
  change w.cell? ⟨sb, 6, none⟩ = some (h.val .tr) at h6
  obtain ⟨A6, c6, e6, hc6, hm6, hA6⟩ := (R.row .tr).form
  have l6 : (cellsOf s h.val .tr).length = s.tr.length := nums_length _ _
  rw [e6, l6] at h6
  obtain ⟨n6, hn6⟩ : ∃ n6, s.tr.length = n6 := ⟨_, rfl⟩
  rw [hn6] at h6
  obtain ⟨v9, hv9⟩ : ∃ v9, h.val (.c k) = v9 := ⟨_, rfl⟩
  rw [hv9] at hcell1
  have hsb := R.base.2.2
  have hgc : gc < w.heap.size := World.block_lt_of_cell? w _ hcell1
  have h1' := hcell1
  obtain ⟨A9, n9, c9, rfl⟩ : ∃ A n c, v9 = .slice A n c := by
    obtain ⟨A, c, e, _⟩ := (R.row (.c k)).form
    exact ⟨A, _, c, hv9.symm.trans e⟩
  have HE := Aside0.mk (And.intro e1 (And.intro e6 (And.intro hn6 (And.intro hv9 (And.intro hA6 (And.intro hc6 hm6))))))
  clear R hwhy hfin hback hcl e1 e6 l6 hn6 hv9 hn1 hA6 hc6 hm6
  unfold bigN at hk
  have hmm := @run_makeMap Try.prog
  obtain ⟨N, hN⟩ : ∃ N, w.heap.size = N := ⟨_, rfl⟩
  obtain ⟨W5, hW5⟩ : ∃ W, ((((w.alloc (.cells #[.pointer (some ⟨sb, 0, none⟩)] 42)).alloc (.map #[] 0)).alloc (.cells #[.map (some (N + 1))] 79)).alloc (.cells #[.int .i64 0] 3)).alloc (.cells #[.slice (some ⟨N + 1 + 1 + 1, 0, none⟩) 1 1] 37) = W := ⟨_, rfl⟩
  have eW5 : W5 = ([.cells #[.pointer (some ⟨sb, 0, none⟩)] 42 (0, 0), .map #[] 0, .cells #[.map (some (N + 1))] 79 (0, 0), .cells #[.int .i64 0] 3 (0, 0), .cells #[.slice (some ⟨N + 1 + 1 + 1, 0, none⟩) 1 1] 37 (0, 0)] : List Obj).foldl World.alloc w := hW5.symm
  have T5 : Turn w W5 (fun _ => False) := by rw [eW5]; exact allocs_turn _ _
  have hz5 : W5.heap.size = N + 5 := by rw [eW5, allocs_size, hN]; rfl
  have hb5 : ∀ j o, ([.cells #[.pointer (some ⟨sb, 0, none⟩)] 42 (0, 0), .map #[] 0, .cells #[.map (some (N + 1))] 79 (0, 0), .cells #[.int .i64 0] 3 (0, 0), .cells #[.slice (some ⟨N + 1 + 1 + 1, 0, none⟩) 1 1] 37 (0, 0)] : List Obj)[j]? = some o → W5.heap[N + j]? = some o := by
    intro j o ho
    have := allocs_at ([.cells #[.pointer (some ⟨sb, 0, none⟩)] 42 (0, 0), .map #[] 0, .cells #[.map (some (N + 1))] 79 (0, 0), .cells #[.int .i64 0] 3 (0, 0), .cells #[.slice (some ⟨N + 1 + 1 + 1, 0, none⟩) 1 1] 37 (0, 0)] : List Obj) w j
    rw [← eW5, hN] at this
    exact this.trans ho
  obtain ⟨W7, hW7⟩ : ∃ W, (W5.alloc (.cells #[.int .i64 0] 3)).alloc (.cells #[.slice A9 n9 c9] 37) = W := ⟨_, rfl⟩
  have hz7 : W7.heap.size = N + 7 := by rw [← hW7]; simp [hz5]
  have T56 : Turn W5 (W5.alloc (.cells #[.int .i64 0] 3)) (fun _ => False) := Turn.alloc _ _ _
  have T57 : Turn W5 W7 (fun _ => False) := by
    rw [← hW7]; exact (T56.trans (Turn.alloc _ _ (fun _ => False))).mono (fun g _ e => e.elim (fun e => e) (fun e => e))
  have T7 : Turn w W7 (fun _ => False) := (T5.trans T57).mono (fun g _ e => e.elim (fun e => e) (fun e => e))
  have T6 : Turn w (W5.alloc (.cells #[.int .i64 0] 3)) (fun _ => False) := (T5.trans T56).mono (fun g _ e => e.elim (fun e => e) (fun e => e))
  have hN0 := hb5 0 _ rfl
  rw [Nat.add_zero] at hN0
  have q0 := (cell_block (turn_at T56 hN0 (fun e => e))).1
  have q1 : (W5.alloc (.cells #[.int .i64 0] 3)).cell? ⟨sb, 1, none⟩ = _ := (World.cell?_of_block (T6.block sb hsb (fun e => e))).trans h1
  have q2 : (W5.alloc (.cells #[.int .i64 0] 3)).cell? ⟨gc, k, none⟩ = _ := (World.cell?_of_block (T6.block gc hgc (fun e => e))).trans hcell1
  have r0 := (cell_block (turn_at T57 hN0 (fun e => e))).1
  have r6 : W7.cell? ⟨sb, 6, none⟩ = _ := (World.cell?_of_block (T7.block sb hsb (fun e => e))).trans h6
  have HB5 := Aside0.mk hb5
  have HT := Aside0.mk (And.intro T5 (And.intro T57 (And.intro T7 hW7)))
  clear hb5 T5 T6 T7 T56 T57 eW5 h1 h6 h1' hcell1 hN0
  refine (callsIn_wide (n := 5)).1 ?_
  refine callsIn_of_wp_marks Try.func38 rfl trivial ?_ rfl
  refine wpIn_wide.2 ?_
  simp only [Try.ntmps38, List.size_toArray, List.length_cons, List.length_nil, Nat.reduceAdd, Nat.reduceSub, Array.replicate_succ, Array.replicate_zero, List.push_toArray, List.append_toArray, List.nil_append, List.cons_append]
  go_wp2_with (go_at_call 54; refine (backward_any _ _ ⟨_, _, _, rfl⟩).mono ?_; rintro e w' ⟨rfl, rfl⟩)
  clear q0 q1 q2 r0 r6 hW5
  obtain ⟨W8, hW8⟩ : ∃ W, W7.alloc (.cells #[.slice A6 n6 c6] 37) = W := ⟨_, rfl⟩
  rw [hW8]
  have hz8 : W8.heap.size = N + 8 := by rw [← hW8]; simp [hz7]
  have T78 : Turn W7 W8 (fun _ => False) := by rw [← hW8]; exact Turn.alloc _ _ _
  have T58 : Turn W5 W8 (fun _ => False) := (HT.out.2.1.trans T78).mono (fun g _ e => e.elim (fun e => e) (fun e => e))
  have T8 : Turn w W8 (fun _ => False) := (HT.out.2.2.1.trans T78).mono (fun g _ e => e.elim (fun e => e) (fun e => e))
  have hfree : ∀ g, N ≤ g → h.own g = .free := fun g hg => HS.out.1.free g (by omega)
  have n58 : ∀ j o, ([.cells #[.pointer (some ⟨sb, 0, none⟩)] 42 (0, 0), .map #[] 0, .cells #[.map (some (N + 1))] 79 (0, 0), .cells #[.int .i64 0] 3 (0, 0), .cells #[.slice (some ⟨N + 1 + 1 + 1, 0, none⟩) 1 1] 37 (0, 0)] : List Obj)[j]? = some o → W8.heap[N + j]? = some o := fun j o ho => turn_at T58 (HB5.out j o ho) (fun e => e)
  have HL0 : LM N B sb h W8 { s := s, seen := fun _ => false, out := [0], op := 0 } why (.slice A9 n9 c9) := by
    have hz78 : ∀ o : Obj, W8.heap[N + 7]? = some o ↔ some (Obj.cells #[.slice A6 n6 c6] 37 (0, 0)) = some o := fun o => by
      rw [← hW8]
      have := World.alloc_heap_new W7 (.cells #[.slice A6 n6 c6] 37)
      rw [hz7] at this
      rw [this]
    have hw7 := HT.out.2.2.2
    have hz5' : (W5.alloc (.cells #[.int .i64 0] 3)).heap.size = N + 6 := by simp [hz5]
    have e5 : (W5.alloc (.cells #[.int .i64 0] 3)).heap[N + 5]? = some (.cells #[.int .i64 0] 3 (0, 0)) := by
      have := World.alloc_heap_new W5 (.cells #[.int .i64 0] 3)
      rwa [hz5] at this
    have e57 : W7.heap[N + 5]? = some (.cells #[.int .i64 0] 3 (0, 0)) := by
      rw [← hw7]; exact (Below.heap_alloc _ _ _ (by rw [hz5']; omega)).trans e5
    have e67 : W7.heap[N + 6]? = some (.cells #[.slice A9 n9 c9] 37 (0, 0)) := by
      rw [← hw7]
      have := World.alloc_heap_new (W5.alloc (.cells #[.int .i64 0] 3)) (.cells #[.slice A9 n9 c9] 37)
      rwa [hz5'] at this
    have hown : W8.ownsRow N 3 1 (.slice (some ⟨N + 3, 0, none⟩) 1 1) 1 [.int .i64 0] := ⟨rfl, .inr ⟨N + 3, 1, _, rfl, by omega, n58 3 _ rfl, Nat.le_refl _, by unfold maxLen; omega, rfl, rfl⟩⟩
    refine ⟨HS.out.1.turn T8 (fun _ _ e => e.elim), hfree, by omega, n58 0 _ rfl, ⟨fun _ => .bool false, ?_, fun _ => rfl⟩, n58 2 _ rfl, ⟨N + 3, 1, n58 4 _ rfl, hown, .inl rfl⟩, turn_at T78 e57 (fun e => e), ⟨turn_at T78 e67 (fun e => e), .inr ⟨k, HS.out.2.1, HE.out.2.2.2.1.symm⟩⟩, ?_, Nat.zero_lt_one, Nat.zero_le _⟩
    · have hmade := MapR.made (w.alloc (.cells #[.pointer (some ⟨sb, 0, none⟩)] 42)) (.bool false)
      have e1 : (w.alloc (.cells #[.pointer (some ⟨sb, 0, none⟩)] 42)).heap.size = N + 1 := by simp [hN]
      rw [e1] at hmade
      obtain ⟨es, ck, hb, r⟩ := hmade
      have hnew := World.alloc_heap_new (w.alloc (.cells #[.pointer (some ⟨sb, 0, none⟩)] 42)) (.map #[] 0)
      rw [e1] at hnew
      have e2 : W8.heap[N + 1]? = some (.map #[] 0) := n58 1 _ rfl
      exact ⟨es, ck, e2.trans (hnew.symm.trans hb), r⟩
    · rw [HE.out.2.1]
      have l6 : (cellsOf s h.val .tr).length = n6 := (nums_length _ _).trans HE.out.2.2.1
      rw [l6]
      exact (hz78 _).2 rfl
  have HLM := Aside0.mk (And.intro HL0 T8)
  have HLC : Aside0 (LC w N sb h A6) := ⟨⟨hN, by omega, hfree, fun q hq => by
    have hob : h.own q = .row .tr := (HS.out.1.row .tr).own q (by rw [HE.out.2.1, hq]; rfl)
    refine ⟨?_, ?_, by rw [hob]; exact fun e => by cases e⟩
    · rcases Nat.lt_or_ge q N with e | e
      · exact e
      · rw [hfree q e] at hob; cases hob
    · rintro rfl
      rw [HS.out.1.osol] at hob; cases hob⟩⟩
  clear HL0 T8 n58 T58 T78 hW8
  rename_i K hK
  have HTail : Aside0 (∀ (D : Nat) (W : World) (why2 : List Int) (v9 : Value), N + 8 ≤ D → LM N B sb h W fin why2 v9 → Turn w W (fun g => g = sb ∨ h.own g = .row .sc) → W.heap[D]? = some (.deferred (some [])) →
      K { tmps := #[.pointer (some ⟨sb, 0, none⟩), .int .i64 (k : Int), .pointer (some ⟨N, 0, none⟩), undef, .slice none 0 0, .int .i64 0, .pointer (some ⟨N + 2, 0, none⟩), .pointer (some ⟨N + 4, 0, none⟩), .pointer (some ⟨N + 5, 0, none⟩), .pointer (some ⟨N + 6, 0, none⟩), undef, undef, undef, undef, undef, undef, undef, undef, undef, .map (some (N + 1)), .slice (some ⟨N + 3, 0, none⟩) 1 1, .pointer (some ⟨sb, 0, none⟩), .pointer (some ⟨sb, 0, none⟩), .pointer (some ⟨sb, 1, none⟩), .slice (some ⟨gc, 0, none⟩) n1 cc, .int .i64 (k : Int), .pointer (some ⟨gc, k, none⟩), .slice A9 n9 c9, .pointer (some ⟨sb, 0, none⟩), .pointer (some ⟨sb, 0, none⟩), .pointer (some ⟨sb, 6, none⟩), .slice A6 n6 c6, .func (.func 60) #[] #[.pointer (some ⟨N + 7, 0, none⟩)], undef, undef, undef, undef, undef, undef, undef, undef, undef, undef, undef, undef, undef, undef, undef, undef, undef, undef, undef, undef, undef, undef, undef, undef, undef, undef, undef, undef, undef, undef, undef, undef, undef, undef, undef, undef, undef, undef, undef, undef, undef, undef, undef, undef, undef, undef, undef, undef, undef, undef, undef, undef, undef, undef, undef, undef, undef, undef, undef, undef, undef, undef, undef, undef, undef, undef, undef, undef, undef, undef, undef, undef, undef, undef, undef, undef, undef, undef, undef, undef, undef, undef, undef, undef, undef, undef, undef, undef, undef, undef, undef, undef, undef, undef, undef, undef, undef, undef, undef, undef, undef, undef, undef, undef, undef, undef, undef, undef, undef, undef, undef, undef, undef, undef, undef, undef, undef, undef, undef, undef, undef, undef, undef, undef, undef], defers := [{ target := .collected D, args := #[] }] } W) := ⟨by
    intro D W why2 v9 hD HL T hDK
    refine hK _ _ ?_
    clear hK
    have HB := Aside0.mk HS.out.2.2.2
    obtain ⟨L, hL⟩ : ∃ L, fin.out.length = L := ⟨_, rfl⟩
    have hL1 : 1 ≤ L := by have := HL.on; omega
    have HI0 : Aside0 (LM N B sb h W { fin with out := fin.out } why2 v9 ∧ fin.out.length = L ∧ St.lrnBack fin.s (L - 1) 1 fin.out 0 = some (o2, bk2) ∧ Turn w W (fun g => g = sb ∨ h.own g = .row .sc) ∧ W.heap[D]? = some (.deferred (some []))) := ⟨⟨HL, hL, by rw [← hL]; exact HB.out, T, hDK⟩⟩
    clear HL T hDK
    go_wp2
    go_loopg [16, 17] L (fun gg s16 s17 wr => ∃ (i : Nat) (out : List Int) (back : Nat), 1 ≤ i ∧ i ≤ L ∧ L - i ≤ gg ∧ s16 = .int .i64 (back : Int) ∧ s17 = .int .i64 (i : Int) ∧ Aside0 (LM N B sb h wr { fin with out := out } why2 v9 ∧ out.length = L ∧ St.lrnBack fin.s (L - i) i out back = some (o2, bk2) ∧ Turn w wr (fun g => g = sb ∨ h.own g = .row .sc) ∧ wr.heap[D]? = some (.deferred (some []))))
    case atStart => exact ⟨1, fin.out, 0, by omega, hL1, by omega, rfl, rfl, HI0⟩
    case round =>
      obtain ⟨i, out, back, hi1, hi2, hi3, rfl, rfl, HH⟩ := hrel
      clear HI0
      obtain ⟨HL, hol, hbk, T, hDK⟩ := HH.out
      have HO7 := HL.b7
      have ko2 := (cell_block HL.b2).1
      obtain ⟨g7, cap7, b7, o7, hg7⟩ := HO7
      have hcap : out.length ≤ cap7 ∧ cap7 ≤ 9223372036854775807 := by
        rcases o7.2 with ⟨e1, _⟩ | ⟨g', cap, cur, e1, _, _, h6, h7, _⟩
        · cases e1
        · injection e1 with _ _ e3
          subst e3
          exact ⟨h6, by unfold maxLen at h7; omega⟩
      obtain ⟨k7, -⟩ := cell_block b7
      change wr.cell? ⟨N + 4, 0, none⟩ = some (.slice (some ⟨g7, 0, none⟩) out.length cap7) at k7
      rw [hol] at k7 hcap
      obtain ⟨hl7, hm7⟩ := hcap
      by_cases hlt : i < L
      · have hlt2 : decide ((i : Int) < (L : Int)) = true := by simpa using hlt
        have hlt3 : (i : Int) < (L : Int) := by omega
        have h1L : (1 : Int) < (L : Int) := by omega
        obtain ⟨y, hy⟩ : ∃ y, out[i]? = some y := ⟨out[i]'(by omega), List.getElem?_eq_getElem _⟩
        obtain ⟨y1, hy1⟩ : ∃ y1, out[1]? = some y1 := ⟨out[1]'(by omega), List.getElem?_eq_getElem _⟩
        have hci := o7.cells (g := g7) rfl i (.int .i64 y) (nums_get hy)
        rw [add_plain] at hci
        have hc1 := o7.cells (g := g7) rfl 1 (.int .i64 y1) (nums_get hy1)
        rw [add_plain] at hc1
        have hff : ∀ j, wr.frozen? ⟨g7, j, none⟩ = false := fun j => by
          rcases o7.2 with ⟨e1, _⟩ | ⟨g', cap, cur, e1, _, h5, _⟩
          · cases e1
          · injection e1 with e1
            injection e1 with e1
            injection e1 with e1
            subst e1
            exact blk_frozen h5 j
        have hfi := hff i
        have hf1 := hff 1
        obtain ⟨f, hf⟩ : ∃ f, L - i = f + 1 := ⟨L - i - 1, by omega⟩
        rw [hf] at hbk
        unfold St.lrnBack at hbk
        simp only [Option.bind_eq_bind, Option.bind_eq_some_iff] at hbk
        obtain ⟨y', hy', v, hv, hbk⟩ := hbk
        rw [hy] at hy'
        obtain rfl := Option.some.inj hy'
        have hyl := (List.getElem?_eq_some_iff.1 hv).1
        have hyb : y.natAbs < bigN := Nat.lt_of_lt_of_le hyl HL.rep.small.2.2
        have hV := svar_any y hyb
        obtain ⟨kk, hkk⟩ : ∃ kk, y.natAbs = kk := ⟨_, rfl⟩
        rw [hkk] at hV hv hyb
        have hVq : ∀ q, Calls Try.prog 41 #[.int .i64 y] (wr.drewN q) (fun e w' => e = .returned (.int .i64 (kk : Int)) ∧ ∃ m, w' = wr.drewN m) := fun q => (hV _).mono fun _ _ ⟨he, hm⟩ => ⟨he, q, hm.symm⟩
        obtain ⟨g4, cap4, e4, hi4, hcap4, hmax4, hcell4, -, -, -⟩ := HL.rep.num (t := .le) (nats_get hv)
        obtain ⟨l4, hl4⟩ : ∃ l4, (cellsOf fin.s h.val .le).length = l4 := ⟨_, rfl⟩
        have h4 := HL.rep.cell 4
        change wr.cell? ⟨sb, 4, none⟩ = some (h.val .le) at h4
        change h.val .le = .slice (some ⟨g4, 0, none⟩) (cellsOf fin.s h.val .le).length cap4 at e4
        change kk < (cellsOf fin.s h.val .le).length at hi4
        change (cellsOf fin.s h.val .le).length ≤ cap4 at hcap4
        rw [e4] at h4
        rw [hl4] at h4 hi4 hcap4
        have hi4' : (kk : Int) < (l4 : Int) := by omega
        have HF := Aside0.mk (And.intro HL (And.intro hol (And.intro T (And.intro hDK (And.intro o7 (And.intro hg7 (And.intro b7 (And.intro hbk (And.intro hy hy1)))))))))
        have HFf := Aside0.mk hf
        clear HL hol T hDK o7 hg7 b7 HH hbk hy hy1 hff e4 hl4 hv hkk hf hV
        have hyl := trivial
        by_cases hbv : back < v
        · have hgt : decide ((back : Int) < (v : Int)) = true := by simpa using hbv
          go_wp2
          go_quiet ((go_at_call 41; exact hVq _))
          obtain ⟨wq, hwq⟩ : ∃ W, wr.drewN nq = W := ⟨_, rfl⟩
          have HFq : Aside0 (LM N B sb h wq { fin with out := out } why2 v9 ∧ Turn w wq (fun g => g = sb ∨ h.own g = .row .sc) ∧ wq.heap[D]? = some (.deferred (some [])) ∧ wq.heap[N + 4]? = some (.cells #[.slice (some ⟨g7, 0, none⟩) out.length cap7] 37 (0, 0)) ∧ wq.ownsRow N 3 1 (.slice (some ⟨g7, 0, none⟩) out.length cap7) out.length (nums .i64 out)) := ⟨by
            obtain ⟨HL, hol, T, hDK, o7, hg7, b7, hbk, hy, hy1⟩ := HF.out
            rw [← hwq]
            exact ⟨HL.drewN nq, (T.trans (Turn.drew _ nq (fun _ => False))).mono (fun _ _ e => e.elim (fun e => e) (fun e => e.elim)), hDK, b7, o7⟩⟩
          have kq7 : wq.cell? ⟨N + 4, 0, none⟩ = some (.slice (some ⟨g7, 0, none⟩) L cap7) := by rw [← hwq]; exact k7
          have kqi : wq.cell? ⟨g7, i, none⟩ = some (.int .i64 y) := by rw [← hwq]; exact hci
          have kq1 : wq.cell? ⟨g7, 1, none⟩ = some (.int .i64 y1) := by rw [← hwq]; exact hc1
          have fqi : wq.frozen? ⟨g7, i, none⟩ = false := by rw [← hwq]; exact hfi
          have fq1 : wq.frozen? ⟨g7, 1, none⟩ = false := by rw [← hwq]; exact hf1
          rw [hwq]
          clear hwq k7 hci hc1 hfi hf1 ko2 h4 hcell4 hVq
          have ho1 := ownsRow_set (i := 1) (u := .int .i64 y) HFq.out.2.2.2.2
          have hxl : i < (out.set 1 y).length := by rw [List.length_set, HF.out.2.1]; exact hlt
          have kx : (wq.setCell ⟨g7, 1, none⟩ (.int .i64 y)).cell? ⟨g7, i, none⟩ = some (.int .i64 (out.set 1 y)[i]) := by
            have := ho1.cells (g := g7) rfl i (.int .i64 (out.set 1 y)[i]) (by rw [← nums_set]; exact nums_get (List.getElem?_eq_getElem hxl))
            rwa [add_plain] at this
          obtain ⟨yx, hyx⟩ : ∃ yx, (out.set 1 y)[i] = yx := ⟨_, rfl⟩
          rw [hyx] at kx
          obtain ⟨W2, hW2⟩ : ∃ W, ((wq.setCell ⟨g7, 1, none⟩ (.int .i64 y)).setCell ⟨g7, i, none⟩ (.int .i64 y1)).drew = W := ⟨_, rfl⟩
          have HN : Aside0 (LM N B sb h W2 { fin with out := swapAt out 1 i } why2 v9 ∧ (swapAt out 1 i).length = L ∧ St.lrnBack fin.s (L - (i + 1)) (i + 1) (swapAt out 1 i) v = some (o2, bk2) ∧ Turn w W2 (fun g => g = sb ∨ h.own g = .row .sc) ∧ W2.heap[D]? = some (.deferred (some []))) := ⟨by
            obtain ⟨HL, hol, T, hDK, o7, hg7, b7, hbk, hy, hy1⟩ := HF.out
            obtain ⟨HLq, Tq, hDq, bq, oq⟩ := HFq.out
            rw [if_pos hbv] at hbk
            have hgN := (rowG_lt oq).2.1
            have hl1 := HLq.setOut (i := 1) bq y
            have hb1 : (wq.setCell ⟨g7, 1, none⟩ (.int .i64 y)).heap[N + 4]? = some (.cells #[.slice (some ⟨g7, 0, none⟩) (out.set 1 y).length cap7] 37 (0, 0)) := by
              rw [List.length_set]
              exact turn_at (Turn.set wq g7 1 _) bq (fun e => by omega)
            have hl2 := hl1.setOut (i := i) hb1 y1
            have es : swapAt out 1 i = (out.set 1 y).set i y1 := by
              unfold swapAt
              rw [List.getD_eq_getElem?_getD, List.getD_eq_getElem?_getD, hy, hy1]; rfl
            have Ts : Turn wq W2 (fun k => k = g7) := by
              rw [← hW2]
              exact (((Turn.set wq g7 1 _).trans (Turn.set _ g7 i _)).trans (Turn.drew _ 1 (fun _ => False))).mono (fun k _ e => by
                rcases e with (e | e) | e
                · exact e
                · exact e
                · exact e.elim)
            have hDg : ¬ (D = g7) := by
              rintro rfl
              obtain ⟨-, -, o, ho, hc⟩ := rowG_lt oq
              rw [hDq] at ho
              obtain rfl := Option.some.inj ho
              cases hc
            refine ⟨?_, by rw [swapAt_length]; exact hol, ?_, (Tq.trans Ts).mono (fun k hk e => ?_), turn_at Ts hDq hDg⟩
            · rw [es, ← hW2]
              exact hl2.drewN 1
            · have e : L - (i + 1) = f := by have := HFf.out; omega
              rw [e]; exact hbk
            · rcases e with e | e
              · exact e
              · omega⟩
          clear ho1 hxl hyx
          have hks : Aside0 (∀ (X : World) (Y : Option Value), X.cell? ⟨N + 4, 0, none⟩ = Y → ∀ j u, (X.setCell ⟨g7, j, none⟩ u).cell? ⟨N + 4, 0, none⟩ = Y) := ⟨fun X Y hX j u => by
            rw [← hX]
            refine World.cell?_of_block (a := ⟨N + 4, 0, none⟩) ((Turn.set X g7 j u).block' (N + 4) ?_)
            have := HF.out.2.2.2.2.2.1
            omega⟩
          have kW2 : Aside0 (W2.cell? ⟨N + 4, 0, none⟩ = some (.slice (some ⟨g7, 0, none⟩) L cap7)) := ⟨by rw [← hW2]; exact hks.out _ _ (hks.out _ _ kq7 _ _) _ _⟩
          go_wp2
          refine wp_region_noPanic ?_
          refine wp_region_held_drew (S := fun w' => w'.cell? ⟨N + 4, 0, none⟩ = some (.slice (some ⟨g7, 0, none⟩) L cap7)) (by kernel_rfl) kq7 (fun hHeld => ?_)
          refine wpAnyH_take (i := 0) (oi := _) (v := ?_) rfl (by kernel_rfl) (by kernel_rfl) (by kernel_rfl) (fun _ _ _ h => h) (Or.inl ⟨by rfl, ?_⟩) (by assumption) ?_
          rotate_left
          · intro w hSw
            (try dsimp only at hSw)
            go_simp
            try with_reducible rfl
          try simp only [Act.put, List.setIfInBounds_toArray, List.set_cons_zero, List.set_cons_succ]
          refine wpAnyH_take (i := 1) (oi := _) (v := ?_) rfl (by kernel_rfl) (by kernel_rfl) (by kernel_rfl) (fun _ _ _ h => h) (Or.inl ⟨by rfl, ?_⟩) (by assumption) ?_
          rotate_left
          · intro w hSw
            (try dsimp only at hSw)
            go_simp
            try with_reducible rfl
          try simp only [Act.put, List.setIfInBounds_toArray, List.set_cons_zero, List.set_cons_succ]
          refine wpAnyH_take (i := 2) (oi := _) (v := ?_) rfl (by kernel_rfl) (by kernel_rfl) (by kernel_rfl) (fun _ _ _ h => h) (Or.inl ⟨by rfl, ?_⟩) (by assumption) ?_
          rotate_left
          · intro w hSw
            (try dsimp only at hSw)
            go_simp
            try with_reducible rfl
          try simp only [Act.put, List.setIfInBounds_toArray, List.set_cons_zero, List.set_cons_succ]
          refine wpAnyH_take (i := 3) (oi := _) (v := ?_) rfl (by kernel_rfl) (by kernel_rfl) (by kernel_rfl) (fun _ _ _ h => h) (Or.inl ⟨by rfl, ?_⟩) (by assumption) ?_
          rotate_left
          · intro w hSw
            (try dsimp only at hSw)
            go_simp
            try with_reducible rfl
          try simp only [Act.put, List.setIfInBounds_toArray, List.set_cons_zero, List.set_cons_succ]
          refine wpAnyH_take (i := 4) (oi := _) (v := ?_) rfl (by kernel_rfl) (by kernel_rfl) (by kernel_rfl) (fun _ _ _ h => h) (Or.inl ⟨by rfl, ?_⟩) (by assumption) ?_
          rotate_left
          · intro w hSw
            (try dsimp only at hSw)
            go_simp
            try with_reducible rfl
          try simp only [Act.put, List.setIfInBounds_toArray, List.set_cons_zero, List.set_cons_succ]
          refine wpAnyH_take (i := 5) (oi := _) (v := ?_) rfl (by kernel_rfl) (by kernel_rfl) (by kernel_rfl) (fun _ _ _ h => h) (Or.inl ⟨by rfl, ?_⟩) (by assumption) ?_
          rotate_left
          · intro w hSw
            (try dsimp only at hSw)
            go_simp
            try with_reducible rfl
          try simp only [Act.put, List.setIfInBounds_toArray, List.set_cons_zero, List.set_cons_succ]
          refine wpAnyH_take (i := 7) (oi := _) (v := ?_) rfl (by kernel_rfl) (by kernel_rfl) (by kernel_rfl) (fun _ _ _ h => h) (Or.inl ⟨by rfl, ?_⟩) (by assumption) ?_
          rotate_left
          · intro w hSw
            (try dsimp only at hSw)
            go_simp
            try with_reducible rfl
          try simp only [Act.put, List.setIfInBounds_toArray, List.set_cons_zero, List.set_cons_succ]
          refine wpAnyH_take (i := 8) (oi := _) (v := ?_) rfl (by kernel_rfl) (by kernel_rfl) (by kernel_rfl) (fun _ _ _ h => h) (Or.inl ⟨by rfl, ?_⟩) (by assumption) ?_
          rotate_left
          · intro w hSw
            (try dsimp only at hSw)
            go_simp
            try with_reducible rfl
          try simp only [Act.put, List.setIfInBounds_toArray, List.set_cons_zero, List.set_cons_succ]
          refine wpAnyH_ready (rs := [6, 9]) (by kernel_rfl) (by simp) ?_
          refine AllReadyH.cons (o := _) rfl (fun K hK => ?_) (AllReadyH.cons (o := _) rfl (fun K hK => ?_) AllReadyH.nil)
          · go_simp
            refine hK.out _ _ kq7 (fun hHeld2 => ?_)
            clear hK K
            try simp only [Act.put, List.setIfInBounds_toArray, List.set_cons_zero, List.set_cons_succ]
            refine wpAnyH_ready (rs := [9]) (by kernel_rfl) (by simp) ?_
            refine AllReadyH.cons (o := _) rfl (fun K hK => ?_) ?_
            rotate_left
            · exact AllReadyH.nil
            go_simp
            refine hK.out _ _ kq7 (fun hHeld2 => ?_)
            clear hK K
            try simp only [Act.put, List.setIfInBounds_toArray, List.set_cons_zero, List.set_cons_succ]
            refine wpAnyH_take (i := 10) (oi := _) (v := ?_) rfl (by kernel_rfl) (by kernel_rfl) (by kernel_rfl) (fun _ _ _ h => h) (Or.inl ⟨by rfl, ?_⟩) (by assumption) ?_
            rotate_left
            · intro w hSw
              (try dsimp only at hSw)
              go_simp
              try with_reducible rfl
            try simp only [Act.put, List.setIfInBounds_toArray, List.set_cons_zero, List.set_cons_succ]
            refine wpAnyH_ready (rs := [11]) (by kernel_rfl) (by simp) ?_
            refine AllReadyH.cons (o := _) rfl (fun K hK => ?_) ?_
            rotate_left
            · exact AllReadyH.nil
            go_simp
            refine hK.out _ _ (hks.out _ _ kq7 _ _) (fun hHeld2 => ?_)
            clear hK K
            try simp only [Act.put, List.setIfInBounds_toArray, List.set_cons_zero, List.set_cons_succ]
            refine wpAnyH_take (i := 12) (oi := _) (v := ?_) rfl (by kernel_rfl) (by kernel_rfl) (by kernel_rfl) (fun _ _ _ h => h) (Or.inl ⟨by rfl, ?_⟩) (by assumption) ?_
            rotate_left
            · intro w hSw
              (try dsimp only at hSw)
              go_simp
              try with_reducible rfl
            try simp only [Act.put, List.setIfInBounds_toArray, List.set_cons_zero, List.set_cons_succ]
            refine wpAnyH_ready (rs := [13]) (by kernel_rfl) (by simp) ?_
            refine AllReadyH.cons (o := _) rfl (fun K hK => ?_) ?_
            rotate_left
            · exact AllReadyH.nil
            go_simp
            refine hK.out _ _ kW2.out (fun hHeld2 => ?_)
            clear hK K
            try simp only [Act.put, List.setIfInBounds_toArray, List.set_cons_zero, List.set_cons_succ]
            refine wpAnyH_done (by kernel_rfl) ?_ _
            refine NoPanic.normal ?_
            clear hW2
            go_wp2
            go_roundg (L - i - 1)
            case measure => omega
            case rel => exact ⟨i + 1, swapAt out 1 i, v, by omega, by omega, by omega, by go_num, by go_num, HN⟩
          · go_simp
            refine hK.out _ _ kq7 (fun hHeld2 => ?_)
            clear hK K
            try simp only [Act.put, List.setIfInBounds_toArray, List.set_cons_zero, List.set_cons_succ]
            refine wpAnyH_ready (rs := [6]) (by kernel_rfl) (by simp) ?_
            refine AllReadyH.cons (o := _) rfl (fun K hK => ?_) ?_
            rotate_left
            · exact AllReadyH.nil
            go_simp
            refine hK.out _ _ kq7 (fun hHeld2 => ?_)
            clear hK K
            try simp only [Act.put, List.setIfInBounds_toArray, List.set_cons_zero, List.set_cons_succ]
            refine wpAnyH_take (i := 10) (oi := _) (v := ?_) rfl (by kernel_rfl) (by kernel_rfl) (by kernel_rfl) (fun _ _ _ h => h) (Or.inl ⟨by rfl, ?_⟩) (by assumption) ?_
            rotate_left
            · intro w hSw
              (try dsimp only at hSw)
              go_simp
              try with_reducible rfl
            try simp only [Act.put, List.setIfInBounds_toArray, List.set_cons_zero, List.set_cons_succ]
            refine wpAnyH_ready (rs := [11]) (by kernel_rfl) (by simp) ?_
            refine AllReadyH.cons (o := _) rfl (fun K hK => ?_) ?_
            rotate_left
            · exact AllReadyH.nil
            go_simp
            refine hK.out _ _ (hks.out _ _ kq7 _ _) (fun hHeld2 => ?_)
            clear hK K
            try simp only [Act.put, List.setIfInBounds_toArray, List.set_cons_zero, List.set_cons_succ]
            refine wpAnyH_take (i := 12) (oi := _) (v := ?_) rfl (by kernel_rfl) (by kernel_rfl) (by kernel_rfl) (fun _ _ _ h => h) (Or.inl ⟨by rfl, ?_⟩) (by assumption) ?_
            rotate_left
            · intro w hSw
              (try dsimp only at hSw)
              go_simp
              try with_reducible rfl
            try simp only [Act.put, List.setIfInBounds_toArray, List.set_cons_zero, List.set_cons_succ]
            refine wpAnyH_ready (rs := [13]) (by kernel_rfl) (by simp) ?_
            refine AllReadyH.cons (o := _) rfl (fun K hK => ?_) ?_
            rotate_left
            · exact AllReadyH.nil
            go_simp
            refine hK.out _ _ kW2.out (fun hHeld2 => ?_)
            clear hK K
            try simp only [Act.put, List.setIfInBounds_toArray, List.set_cons_zero, List.set_cons_succ]
            refine wpAnyH_done (by kernel_rfl) ?_ _
            refine NoPanic.normal ?_
            clear hW2
            go_wp2
            go_roundg (L - i - 1)
            case measure => omega
            case rel => exact ⟨i + 1, swapAt out 1 i, v, by omega, by omega, by omega, by go_num, by go_num, HN⟩
        · have hgt : decide ((back : Int) < (v : Int)) = false := by simp; omega
          go_wp2
          go_quiet ((go_at_call 41; exact hVq _))
          have HN : Aside0 (LM N B sb h (wr.drewN nq) { fin with out := out } why2 v9 ∧ out.length = L ∧ St.lrnBack fin.s (L - (i + 1)) (i + 1) out back = some (o2, bk2) ∧ Turn w (wr.drewN nq) (fun g => g = sb ∨ h.own g = .row .sc) ∧ (wr.drewN nq).heap[D]? = some (.deferred (some []))) := ⟨by
            obtain ⟨HL, hol, T, hDK, o7, hg7, b7, hbk, hy, hy1⟩ := HF.out
            rw [if_neg hbv] at hbk
            refine ⟨HL.drewN nq, hol, ?_, (T.trans (Turn.drew _ nq (fun _ => False))).mono (fun _ _ e => e.elim (fun e => e) (fun e => e.elim)), hDK⟩
            have e : L - (i + 1) = f := by have := HFf.out; omega
            rw [e]; exact hbk⟩
          go_wp2
          go_roundg (L - i - 1)
          case measure => omega
          case rel => exact ⟨i + 1, out, back, by omega, by omega, by omega, by go_num, by go_num, HN⟩
      · have hin : i = L := by omega
        subst hin
        have hlt2 : decide ((i : Int) < (i : Int)) = false := by simp
        rw [Nat.sub_self] at hbk
        unfold St.lrnBack at hbk
        simp only [Option.some.injEq, Prod.mk.injEq] at hbk
        obtain ⟨rfl, rfl⟩ := hbk
        have HF := Aside0.mk (And.intro HL (And.intro hol (And.intro T (And.intro hDK (And.intro o7 hg7)))))
        clear HL hol T hDK o7 hg7 b7 HH
        go_wp2
        refine ⟨by simp, .inl ⟨_, _, rfl, run_takeDeferred HF.out.2.2.2.1, ?_⟩⟩
        have T2 : Turn wr (wr.putObj D (.deferred none)) (Bk (N + 8) wr) := Turn.putObj _ hD HF.out.2.2.2.1 rfl
        have hbk2 : ∀ k, Bk (N + 8) wr k → N + 8 ≤ k ∧ ¬ ∃ o : Obj, wr.heap[k]? = some o ∧ o.isCells = true := by
          rintro k ⟨hk, o, ho, hc⟩
          refine ⟨hk, fun ⟨o', ho', hc'⟩ => ?_⟩
          rw [ho] at ho'
          obtain rfl := Option.some.inj ho'
          rw [hc] at hc'; cases hc'
        have HL2 := HF.out.1.turn T2 hbk2
        refine ⟨_, results_tmp2 rfl _ _ _, g7, cap7, ?_, HL2.rep, ?_, ?_, ?_⟩
        · show Ending.returned (.tuple #[.slice (some ⟨g7, 0, none⟩) i cap7, .int .i64 (back : Int)]) = _
          rw [HF.out.2.1]
        · exact (HF.out.2.2.1.trans T2).mono (fun g hg e => by
            rcases e with e | e
            · exact e
            · have := e.1; omega)
        · rw [hN]
          exact ownsRow_turn HF.out.2.2.2.2.1 T2 (fun g' e e2 => by
            injection e with e
            subst e
            exact (hbk2 _ e2).2 (rowG_lt HF.out.2.2.2.2.1).2.2)
        · rw [hN]; have := (rowG_lt HF.out.2.2.2.2.1).2.1; exact this⟩
  refine (wpIn_wide (n := 5)).1 ?_
  refine over_rangeFunc (gf := 60) (lb := #[.pointer (some ⟨N + 7, 0, none⟩)]) rfl (enters_of Try.func60 (by kernel_rfl) rfl) (encs := fun x : Nat × Int => #[.int .i64 (x.1 : Int), .int .i64 x.2]) (fun _ => rfl) (bw s.tr n6) (fun q => q = N + 7 ∨ A6 = some ⟨q, 0, none⟩) ?hK0
    (bwd_seq 4 (N + 7) A6 n6 c6 s.tr ?hn ?hc ?hcm _ W8 ?hbox (.inl rfl) ?hA) 0
    (fun (pre : List (Nat × Int)) W => ∃ rem why a v9, pre.map (·.2) ++ rem = s.tr.reverse ∧ St.lrnOut flS rem why a = some fin ∧ LM N B sb h W a why v9 ∧ Turn w W (fun g => g = sb ∨ h.own g = .row .sc))
    (fun W => (∃ why v9, LM N B sb h W fin why v9) ∧ Turn w W (fun g => g = sb ∨ h.own g = .row .sc)) ?hI ?hIx ?h0
    (fun x => { tmps := #[.pointer (some ⟨sb, 0, none⟩), .int .i64 (k : Int), .pointer (some ⟨N, 0, none⟩), undef, .slice none 0 0, .int .i64 0, .pointer (some ⟨N + 2, 0, none⟩), .pointer (some ⟨N + 4, 0, none⟩), .pointer (some ⟨N + 5, 0, none⟩), .pointer (some ⟨N + 6, 0, none⟩), undef, .int .i64 x.2, undef, undef, undef, undef, undef, undef, undef, .map (some (N + 1)), .slice (some ⟨N + 3, 0, none⟩) 1 1, .pointer (some ⟨sb, 0, none⟩), .pointer (some ⟨sb, 0, none⟩), .pointer (some ⟨sb, 1, none⟩), .slice (some ⟨gc, 0, none⟩) n1 cc, .int .i64 (k : Int), .pointer (some ⟨gc, k, none⟩), .slice A9 n9 c9, .pointer (some ⟨sb, 0, none⟩), .pointer (some ⟨sb, 0, none⟩), .pointer (some ⟨sb, 6, none⟩), .slice A6 n6 c6, .func (.func 60) #[] #[.pointer (some ⟨N + 7, 0, none⟩)], .int .i64 (x.1 : Int), .int .i64 x.2, undef, undef, undef, undef, undef, undef, undef, undef, undef, undef, undef, undef, undef, undef, undef, undef, undef, undef, undef, undef, undef, undef, undef, undef, undef, undef, undef, undef, undef, undef, undef, undef, undef, undef, undef, undef, undef, undef, undef, undef, undef, undef, undef, undef, undef, undef, undef, undef, undef, undef, undef, undef, undef, undef, undef, undef, undef, undef, undef, undef, undef, undef, undef, undef, undef, undef, undef, undef, undef, undef, undef, undef, undef, undef, undef, undef, undef, undef, undef, undef, undef, undef, undef, undef, undef, undef, undef, undef, undef, undef, undef, undef, undef, undef, undef, undef, undef, undef, undef, undef, undef, undef, undef, undef, undef, undef, undef, undef, undef, undef, undef, undef, undef, undef, undef, undef, undef, undef, undef, undef, undef, undef, undef], defers := [] }) ?assign ?body ?done ?stop
  case assign =>
    intro l x W K hK
    gi_wp2
    exact hK
  case body =>
    rintro l pre x W ⟨rem, why2, a, v9, hrem, hout, HL, T⟩ hpre
    obtain ⟨rem2, rfl⟩ : ∃ rem2, rem = x.2 :: rem2 := by
      obtain ⟨t, ht⟩ := hpre
      have e1 : pre.map (·.2) ++ (x.2 :: t.map (·.2)) = s.tr.reverse := by
        have e2 := bw_snd s.tr n6 (by rw [HE.out.2.2.1]; omega)
        rw [List.take_of_length_le (by rw [HE.out.2.2.1]; omega)] at e2
        rw [← e2, ← ht]; simp
      exact ⟨t.map (·.2), List.append_cancel_left (hrem.trans e1.symm)⟩
    obtain ⟨a1, v, ha1, hv, hcase⟩ := lrnOut_step hout
    obtain ⟨A2, c2, rfl, hc2, hm2⟩ := HL.why
    have HRem := Aside0.mk (And.intro hrem (And.intro hv hcase))
    have hb9 := (cell_block HL.b9.1).1
    have HLS : Aside0 (LS w W N B sb h A6 W a why2 (.slice A2 why2.length c2)) := ⟨⟨HLC.out, HL, LK.refl T⟩⟩
    have HIn := Aside0.mk ha1
    clear hrem hout HL T hpre hv hcase ha1
    obtain ⟨n2, hn2⟩ : ∃ n2, why2.length = n2 := ⟨_, rfl⟩
    rw [hn2] at HLS hb9 hc2
    have HN2 := Aside0.mk hn2
    clear hn2
    have hn2m : (n2 : Int) ≤ 9223372036854775807 := by omega
    gi_wp2
    clear hb9
    gi_loopw [37] (fun s37 wr => ∃ (i : Nat) (b : St.Ln), i ≤ n2 ∧ s37 = .int .i64 (i : Int) ∧ Aside0 (LS w W N B sb h A6 wr b why2 (.slice A2 n2 c2) ∧ St.lrnIn flS (why2.drop i) b = some a1)) (fun s37 _ => n2 - (intOf s37).toNat)
    case atStart => exact ⟨0, a, Nat.zero_le _, rfl, ⟨HLS.out, HIn.out⟩⟩
    case round =>
      obtain ⟨i, b, hi, rfl, HH⟩ := hrel
      clear HLS HIn
      by_cases hlt : i < n2
      · have hlt2 : decide ((i : Int) < (n2 : Int)) = true := by simpa using hlt
        have hlt3 : (i : Int) < (n2 : Int) := by omega
        obtain ⟨y, hy⟩ : ∃ y, why2[i]? = some y := ⟨why2[i]'(by rw [HN2.out]; exact hlt), List.getElem?_eq_getElem _⟩
        have hdrop : why2.drop i = y :: why2.drop (i + 1) := by
          obtain ⟨q1, q2⟩ := List.getElem?_eq_some_iff.1 hy
          rw [List.drop_eq_getElem_cons q1, q2]
        obtain ⟨L, hin⟩ := HH.out
        rw [hdrop] at hin
        obtain ⟨v0, hv0, hcs⟩ := lrnIn_step hin
        obtain ⟨g2, rfl, hcy⟩ := L.m.whyAt hy
        have hyl := (List.getElem?_eq_some_iff.1 hv0).1
        have hyb : y.natAbs < bigN := Nat.lt_of_lt_of_le hyl L.m.rep.small.2.2
        have hV := svar_any y hyb
        obtain ⟨kk, hkk⟩ : ∃ kk, y.natAbs = kk := ⟨_, rfl⟩
        rw [hkk] at hV hv0 hcs hyb
        obtain ⟨V, hM, hVs⟩ := L.m.mp
        have hkb : ((kk : Int)).natAbs < bigN := by rw [Int.natAbs_natCast]; exact hyb
        have hlk := hM.look Try.underlying79 (Try.zeroValue4 _) hkb
        rw [hVs kk] at hlk
        have cb2 := (cell_block L.m.b2).1
        have cb6 := (cell_block L.m.b6).1
        obtain ⟨g4, cap4, e4, hi4, hcap4, hmax4, hcell4, -, -, -⟩ := L.m.rep.num (t := .le) (nats_get hv0)
        obtain ⟨l4, hl4⟩ : ∃ l4, (cellsOf b.s h.val .le).length = l4 := ⟨_, rfl⟩
        have h4 := L.m.rep.cell 4
        change wr.cell? ⟨sb, 4, none⟩ = some (h.val .le) at h4
        rw [e4] at h4
        rw [hl4] at h4 hi4 hcap4
        have hi4' : (kk : Int) < (l4 : Int) := by omega
        have HLL := Aside0.mk L
        have HCS := Aside0.mk hcs
        have HVV := Aside0.mk (And.intro hM hVs)
        have HKK := Aside0.mk hkk
        have HV0 := Aside0.mk hv0
        have hd1 : 1 ≤ 5 - 1 - 1 := by decide
        clear hin hdrop hy L hcs hM hVs hv0 hkk e4 hl4 HH hyl
        unfold bigN at hyb
        rcases HCS.out with ⟨hsk, hrest⟩ | ⟨hsn, hv0n, s1, hs1, hol, hop, hcs⟩
        · -- passed over
          have HN : Aside0 (LS w W N B sb h A6 wr b why2 (.slice (some ⟨g2, 0, none⟩) n2 c2) ∧ St.lrnIn flS (why2.drop (i + 1)) b = some a1) := ⟨⟨HLL.out, hrest⟩⟩
          cases hsb2 : b.seen kk with
          | true =>
            rw [hsb2] at hlk
            clear hsk hrest
            gi_wp2_with (refine ⟨trivial, ?_⟩; gi_at_call 41; refine (rnd_calls (hV _)).mono ?_; rintro e w' ⟨rfl, rfl⟩)
            go_roundw
            case rel => exact ⟨i + 1, b, by omega, by go_num, HN⟩
            case measure => simp [intOf]; omega
          | false =>
            rw [hsb2] at hlk
            have hv00 : v0 = 0 := by
              rcases hsk with e | e
              · rw [e] at hsb2; cases hsb2
              · exact e
            subst hv00
            clear hsk hrest
            gi_wp2_with (refine ⟨trivial, ?_⟩; gi_at_call 41; refine (rnd_calls (hV _)).mono ?_; rintro e w' ⟨rfl, rfl⟩)
            go_roundw
            case rel => exact ⟨i + 1, b, by omega, by go_num, HN⟩
            case measure => simp [intOf]; omega
        · -- taken
          rw [hsn] at hlk
          have hv0' : ((v0 : Int) == 0) = false := by simpa using hv0n
          obtain ⟨wm, hrun, hMm, hgm⟩ := MapR.store HVV.out.1 Try.underlying79 hkb (.bool true)
          have HLm := Aside0.mk (HLL.out.setSeen HVV.out.2 hMm hgm)
          have cm2 := (cell_block HLm.out.m.b2).1
          have HBp := bump_any kk wm B sb b.s s1 h HLm.out.m.rep hs1
          have HBc := Aside0.mk (bump_cl hs1)
          have HBO := Aside0.mk (And.intro hol (And.intro hop hcs))
          clear hs1 hol hop hcs hMm hgm
          gi_wp2_with (first | (refine ⟨trivial, ?_⟩; gi_at_call 41; refine (rnd_calls (hV _)).mono ?_; rintro e w' ⟨rfl, rfl⟩) | (refine ⟨trivial, ?_⟩; gi_at_call 55; refine (rnd_calls HBp).mono ?_; rintro e wb ⟨rfl, hRb, hTb⟩))
          have HLb := Aside0.mk (HLm.out.bump hRb hTb HBc.out.1)
          clear hRb hTb HBp hrun cb2 cb6 hcy hcell4 h4 hlk cm2 HLm
          have hle : s1.le = b.s.le := HBc.out.2.2
          have hma : s1.ma = b.s.ma := HBc.out.2.1
          have hv1 : s1.le[kk]? = some v0 := by rw [hle]; exact HV0.out
          have cb2 := (cell_block HLb.out.m.b2).1
          obtain ⟨g4, cap4, e4, hi4, hcap4, hmax4, hcell4, -, -, -⟩ := HLb.out.m.rep.num (t := .le) (nats_get hv1)
          obtain ⟨l4, hl4⟩ : ∃ l4, (cellsOf s1 h.val .le).length = l4 := ⟨_, rfl⟩
          have h4 := HLb.out.m.rep.cell 4
          change wb.cell? ⟨sb, 4, none⟩ = some (h.val .le) at h4
          rw [e4] at h4
          rw [hl4] at h4 hi4 hcap4
          have hi4' : (kk : Int) < (l4 : Int) := by omega
          obtain ⟨A7, c7, e7, hc71, hc72, -⟩ := (HLb.out.m.rep.row .ma).form
          have l7 : (cellsOf s1 h.val .ma).length = s1.ma.length := nats_length _
          have h7 := HLb.out.m.rep.cell 7
          change wb.cell? ⟨sb, 7, none⟩ = some (h.val .ma) at h7
          rw [e7, l7, hma] at h7
          obtain ⟨n7, hn7⟩ : ∃ n7, b.s.ma.length = n7 := ⟨_, rfl⟩
          rw [hn7] at h7
          have HN7 := Aside0.mk hn7
          clear hle hma hv1 e4 hl4 e7 hc71 hc72 l7 hn7
          by_cases hvn : v0 = n7
          · subst hvn
            have heq : ((v0 : Int) == (v0 : Int)) = true := by simp
            refine region_quiet_round (by kernel_rfl) (by kernel_rfl) (by kernel_rfl) (fun ⟨_, _, h⟩ => h) ?_
            repeat (go_big_quiet_step (fail))
            refine wpQuiet_nil ?_
            rintro _ ⟨nq, rfl⟩
            have HLq := Aside0.mk (HLb.out.drewN nq)
            obtain ⟨wq, hwq⟩ : ∃ W, wb.drewN nq = W := ⟨_, rfl⟩
            rw [hwq] at HLq ⊢
            clear hwq cb2 hcell4 h4 h7 HLb
            clear heq
            have hrest : St.lrnIn flS (why2.drop (i + 1)) { s := s1, seen := upd b.seen kk true, out := b.out, op := b.op + 1 } = some a1 := by
              rcases HBO.out.2.2 with ⟨_, e⟩ | ⟨e, _⟩
              · exact e
              · exact absurd HN7.out.symm e
            obtain ⟨c8, f8⟩ := cell_block HLq.out.m.b8
            change wq.cell? ⟨N + 5, 0, none⟩ = some (.int .i64 (b.op : Int)) at c8
            have HN : Aside0 (LS w W N B sb h A6 (wq.setCell ⟨N + 5, 0, none⟩ (.int .i64 ((b.op + 1 : Nat) : Int))) { s := s1, seen := upd b.seen kk true, out := b.out, op := b.op + 1 } why2 (.slice (some ⟨g2, 0, none⟩) n2 c2) ∧ St.lrnIn flS (why2.drop (i + 1)) { s := s1, seen := upd b.seen kk true, out := b.out, op := b.op + 1 } = some a1) := ⟨⟨HLq.out.setOp (b.op + 1) HBO.out.2.1, hrest⟩⟩
            have hob := HBO.out.2.1
            unfold bigN at hob
            obtain ⟨op, hop⟩ : ∃ op, b.op = op := ⟨_, rfl⟩
            rw [hop] at c8 HN hob
            clear hrest hop
            gi_wp2
            go_roundw
            case rel => exact ⟨i + 1, _, by omega, by go_num, by simpa using HN⟩
            case measure => simp [intOf]; omega
          · have heq : ((v0 : Int) == (n7 : Int)) = false := by simp; omega
            refine region_quiet_round (by kernel_rfl) (by kernel_rfl) (by kernel_rfl) (fun ⟨_, _, h⟩ => h) ?_
            repeat (go_big_quiet_step (fail))
            refine wpQuiet_nil ?_
            rintro _ ⟨nq, rfl⟩
            have HLq := Aside0.mk (HLb.out.drewN nq)
            obtain ⟨wq, hwq⟩ : ∃ W, wb.drewN nq = W := ⟨_, rfl⟩
            rw [hwq] at HLq ⊢
            clear hwq cb2 hcell4 h4 h7 HLb
            clear heq
            have hrest : St.lrnIn flS (why2.drop (i + 1)) { s := s1, seen := upd b.seen kk true, out := b.out ++ [y], op := b.op } = some a1 := by
              rcases HBO.out.2.2 with ⟨e, _⟩ | ⟨_, e⟩
              · exact absurd (e.trans HN7.out) hvn
              · exact e
            obtain ⟨g7, cap7, c7, f7, b7, o7, hg7, hl7, hm7⟩ := HLq.out.outAt
            have HO7 := Aside0.mk (And.intro b7 (And.intro o7 hg7))
            change wq.cell? ⟨N + 4, 0, none⟩ = some (.slice (some ⟨g7, 0, none⟩) b.out.length cap7) at c7
            change b.out.length ≤ cap7 at hl7
            have hol := HBO.out.1
            unfold bigN at hol
            obtain ⟨lo, hlo⟩ : ∃ lo, b.out.length = lo := ⟨_, rfl⟩
            rw [hlo] at c7 hl7 hol
            have HLO := Aside0.mk hlo
            have HREST := Aside0.mk hrest
            clear hrest hlo b7 o7 hg7
            obtain ⟨i0, hi0, hz0, hz1, hz2⟩ := info_parts infoI
            gi_wp2_with (gi_at_builtin; refine wpListIn_append_own_at (wq.alloc (.cells #[.int .i64 y] 3)) rfl (.tmp 76) (.tmp 78) 37 rfl N 3 i0 (.int .i64 0) 1 8 Try.underlying37 hi0 hz0 hz1 hz2 rfl (by decide) (.slice (some ⟨g7, 0, none⟩) lo cap7) lo (nums .i64 b.out) rfl ?aO ⟨wq.heap.size, 0, none⟩ 1 1 [.int .i64 y] rfl rfl (cell_one_new _ _ _) (by simp [Value.oneCell']) ?a1 ?a2 ?a3 ?_)
            case aO => rw [← HLO.out]; exact HO7.out.2.1.alloc _
            case a1 => unfold maxLen; omega
            case a2 => omega
            case a3 => have := HLq.out.m.size; simp; omega
            intro v' w1 hown hg _ hat
            obtain ⟨g', cap', rfl⟩ := own_succ hown
            have hg2 : wq.grownBy w1 (some g7) := World.grownBy.trans (World.grownBy_alloc wq _ _) hg
            have hat2 : g' = g7 ∨ wq.heap.size ≤ g' := by
              rcases hat with e | e
              · injection e with e; exact .inl e
              · injection e with e; right; show wq.heap.size ≤ g'; have e2 : g' = wq.heap.size + 1 := e; omega
            have hN47 : ¬ (some g7 = some (N + 4)) := fun e => by injection e with e; have := HO7.out.2.2; omega
            obtain ⟨k7, q7⟩ := cell_block (turn_at (Turn.grown hg2) HO7.out.1 hN47)
            change w1.cell? ⟨N + 4, 0, none⟩ = some (.slice (some ⟨g7, 0, none⟩) b.out.length cap7) at k7
            have hnn : nums .i64 b.out ++ [Value.int .i64 y] = nums .i64 (b.out ++ [y]) := by simp [nums]
            rw [hnn] at hown
            have HN : Aside0 (LS w W N B sb h A6 (w1.setCell ⟨N + 4, 0, none⟩ (.slice (some ⟨g', 0, none⟩) (lo + 1) cap')) { s := s1, seen := upd b.seen kk true, out := b.out ++ [y], op := b.op } why2 (.slice (some ⟨g2, 0, none⟩) n2 c2) ∧ St.lrnIn flS (why2.drop (i + 1)) { s := s1, seen := upd b.seen kk true, out := b.out ++ [y], op := b.op } = some a1) := ⟨by
              refine ⟨?_, HREST.out⟩
              have e1 := HLO.out
              subst e1
              exact HLq.out.addOut HO7.out.1 HO7.out.2.1 HO7.out.2.2 hg2 hown hat2⟩
            clear hown hg hat hg2 hat2 hnn c7 f7 HLq HO7 hN47
            gi_wp2
            go_roundw
            case rel => exact ⟨i + 1, _, by omega, by go_num, HN⟩
            case measure => simp [intOf]; omega
      · have hin : i = n2 := by omega
        subst hin
        have hlt2 : decide ((i : Int) < (i : Int)) = false := by simp
        have ha1 : b = a1 := by
          have h1 := HH.out.2
          rw [List.drop_of_length_le (by rw [HN2.out]; omega)] at h1
          unfold St.lrnIn at h1
          exact Option.some.inj h1
        subst ha1
        have HLx := Aside0.mk HH.out.1
        clear HH
        obtain ⟨c9', f9'⟩ := cell_block HLx.out.m.b9.1
        obtain ⟨xv, hxv⟩ : ∃ xv, x.2 = xv := ⟨_, rfl⟩
        rw [hxv] at HRem
        rw [hxv]
        have HXV := Aside0.mk hxv
        obtain ⟨ws, hws⟩ : ∃ W, wr.setCell ⟨N + 6, 0, none⟩ (.slice none 0 0) = W := ⟨_, rfl⟩
        have HLs : Aside0 (LS w W N B sb h A6 ws b [] nilS) := ⟨by rw [← hws]; exact HLx.out.setWhy nilS (.inl ⟨rfl, rfl⟩)⟩
        obtain ⟨v0, hv0e⟩ : ∃ v0, v = v0 := ⟨_, rfl⟩
        subst hv0e
        have hxl := (List.getElem?_eq_some_iff.1 HRem.out.2.1).1
        have hxb : xv.natAbs < bigN := Nat.lt_of_lt_of_le hxl HLs.out.m.rep.small.2.2
        have hV3 := svar_any xv hxb
        obtain ⟨kk, hkk⟩ : ∃ kk, xv.natAbs = kk := ⟨_, rfl⟩
        have HRx := HRem.out
        rw [hkk] at hV3 hxb HRx
        obtain ⟨hrem, hv0, hcase⟩ := HRx
        obtain ⟨V, hM, hVs⟩ := HLs.out.m.mp
        have hkb : ((kk : Int)).natAbs < bigN := by rw [Int.natAbs_natCast]; exact hxb
        have hlk : ∀ q, (Instr.lookup 79 (.map (some (N + 1))) (.int .i64 (kk : Int)) false).run Try.prog (ws.drewN q) = .ok (.bool (b.seen kk)) (ws.drewN q) := fun q => by
          have := (hM.turn (Turn.drew ws q (fun _ => False)) (fun e => e)).look Try.underlying79 (Try.zeroValue4 _) hkb
          rw [hVs kk] at this
          exact this
        have cb2 := (cell_block HLs.out.m.b2).1
        have cb6 := (cell_block HLs.out.m.b6).1
        obtain ⟨g4, cap4, e4, hi4, hcap4, hmax4, hcell4, -, -, -⟩ := HLs.out.m.rep.num (t := .le) (nats_get hv0)
        obtain ⟨l4, hl4⟩ : ∃ l4, (cellsOf b.s h.val .le).length = l4 := ⟨_, rfl⟩
        have h4 := HLs.out.m.rep.cell 4
        change ws.cell? ⟨sb, 4, none⟩ = some (h.val .le) at h4
        rw [e4] at h4
        rw [hl4] at h4 hi4 hcap4
        have hi4' : (kk : Int) < (l4 : Int) := by omega
        obtain ⟨A7, c7, e7, hc71, hc72, -⟩ := (HLs.out.m.rep.row .ma).form
        have l7 : (cellsOf b.s h.val .ma).length = b.s.ma.length := nats_length _
        have h7 := HLs.out.m.rep.cell 7
        change ws.cell? ⟨sb, 7, none⟩ = some (h.val .ma) at h7
        rw [e7, l7] at h7
        obtain ⟨n7, hn7⟩ : ∃ n7, b.s.ma.length = n7 := ⟨_, rfl⟩
        rw [hn7] at h7
        have HN7 := Aside0.mk hn7
        have HCS := Aside0.mk (And.intro hrem hcase)
        have HKK := Aside0.mk hkk
        have hd1 : 1 ≤ 5 - 1 - 1 := by decide
        clear e4 hl4 e7 hc71 hc72 l7 hn7 hxv hrem hcase hM hVs hv0 hkk HRem hxl
        unfold bigN at hxb
        have HSkip : Aside0 ((b.seen kk = false ∨ v ≠ n7) → ∀ (nq : Nat) (act : Act), overPost W8.heap.size 0 (fun q => q = N + 7 ∨ A6 = some ⟨q, 0, none⟩) (fun W' => ∃ rem why a v9, (pre ++ [x]).map (·.2) ++ rem = s.tr.reverse ∧ St.lrnOut flS rem why a = some fin ∧ LM N B sb h W' a why v9 ∧ Turn w W' (fun g => g = sb ∨ h.own g = .row .sc)) (fun W' => (∃ why v9, LM N B sb h W' fin why v9) ∧ Turn w W' (fun g => g = sb ∨ h.own g = .row .sc)) W .normal act (ws.drewN nq)) := ⟨fun hsk nq act => by
          have hL := HLs.out.drewN nq
          rw [hz8]
          refine ⟨hL.k.kf, hL.k.k0, rem2, [], b, nilS, ?_, ?_, hL.m, hL.k.tw⟩
          · rw [List.map_append, List.append_assoc]; show pre.map (·.2) ++ (x.2 :: rem2) = _; rw [HXV.out]; exact HCS.out.1
          · rcases HCS.out.2 with ⟨_, e⟩ | ⟨e1, e2, _⟩
            · exact e
            · rcases hsk with e | e
              · rw [e1] at e; cases e
              · exact absurd (e2.trans HN7.out) e⟩
        cases hseen : b.seen kk with
        | false =>
          rw [hseen] at hlk
          gi_wp2_with (refine ⟨trivial, ?_⟩; gi_at_call 41; refine (rnd_calls (hV3 _)).mono ?_; rintro e w' ⟨rfl, rfl⟩)
          clear hws
          clear c9' f9'
          refine region_quiet_round (by kernel_rfl) (by kernel_rfl) (by kernel_rfl) (fun ⟨_, _, h⟩ => h) ?_
          repeat (go_big_quiet_step (fail))
          refine wpQuiet_nil ?_
          rintro _ ⟨nq, rfl⟩
          gi_wp2
          exact HSkip.out (.inl hseen) nq _
        | true =>
          rw [hseen] at hlk
          by_cases hvn : v = n7
          · subst hvn
            have hne : ((v : Int) != (v : Int)) = false := by simp
            gi_wp2_with (refine ⟨trivial, ?_⟩; gi_at_call 41; refine (rnd_calls (hV3 _)).mono ?_; rintro e w' ⟨rfl, rfl⟩)
            clear hws c9' f9'
            refine region_quiet_round (by kernel_rfl) (by kernel_rfl) (by kernel_rfl) (fun ⟨_, _, h⟩ => h) ?_
            repeat (go_big_quiet_step (fail))
            refine wpQuiet_nil ?_
            rintro _ ⟨nq, rfl⟩
            have HLq := Aside0.mk (HLs.out.drewN nq)
            obtain ⟨wq, hwq⟩ : ∃ W, ws.drewN nq = W := ⟨_, rfl⟩
            rw [hwq] at HLq ⊢
            clear hwq cb2 hcell4 h4 h7 hlk cb6 HSkip hne
            obtain ⟨c8, f8⟩ := cell_block HLq.out.m.b8
            rcases HCS.out.2 with ⟨e, _⟩ | ⟨_, _, hcase⟩
            · exfalso
              rcases e with e | e
              · rw [hseen] at e; cases e
              · exact e HN7.out.symm
            rcases hcase with ⟨hop1, hfin1⟩ | ⟨hop1, rs, w2, hrs, hrs0, hw2, hrest⟩
            · -- the last one
              rw [hop1] at c8
              change wq.cell? ⟨N + 5, 0, none⟩ = some (.int .i64 1) at c8
              obtain ⟨wo, hwo⟩ : ∃ W, wq.setCell ⟨N + 5, 0, none⟩ (.int .i64 0) = W := ⟨_, rfl⟩
              have HLo : Aside0 (LS w W N B sb h A6 wo { b with op := 0 } [] nilS) := ⟨by rw [← hwo]; exact HLq.out.setOp 0 (Nat.zero_le _)⟩
              obtain ⟨g7, cap7, k7, f7, b7, o7, hg7, hl7, hm7⟩ := HLo.out.outAt
              change wo.cell? ⟨N + 4, 0, none⟩ = some (.slice (some ⟨g7, 0, none⟩) b.out.length cap7) at k7
              obtain ⟨ko8, -⟩ := cell_block HLo.out.m.b8
              change wo.cell? ⟨N + 5, 0, none⟩ = some (.int .i64 0) at ko8
              have hon : 0 < b.out.length := HLo.out.m.on
              obtain ⟨o0, ho0⟩ : ∃ o0, b.out[0]? = some o0 := ⟨b.out[0]'hon, List.getElem?_eq_getElem _⟩
              have hk0 := o7.cells (g := g7) rfl 0 (.int .i64 o0) (nums_get ho0)
              rw [add_plain] at hk0
              have hf0 : wo.frozen? ⟨g7, 0, none⟩ = false := by
                obtain ⟨-, -, o, ho, hc⟩ := rowG_lt o7
                rcases o7.2 with ⟨e1, _⟩ | ⟨g', cap, cur, e1, _, h5, _⟩
                · cases e1
                · injection e1 with e1
                  injection e1 with e1
                  injection e1 with e1
                  subst e1
                  exact blk_frozen h5 0
              have hneg : wrap64 (-xv) = -xv := by have := HKK.out; unfold wrap64; omega
              have HF : Aside0 (LS w W N B sb h A6 (wo.setCell ⟨g7, 0, none⟩ (.int .i64 (-xv))) fin [] nilS) := ⟨by
                have := HLo.out.setOut b7 o7 hg7 (i := 0) (-xv)
                rw [hfin1]
                exact this⟩
              obtain ⟨lo, hlo⟩ : ∃ lo, b.out.length = lo := ⟨_, rfl⟩
              rw [hlo] at k7 hl7 hon
              have hon' : (0 : Int) < (lo : Int) := by omega
              clear b7 o7 hg7 ho0 hop1 hlo
              gi_wp2
              rw [hz8]
              exact ⟨rfl, HF.out.k.kf, ⟨_, _, HF.out.m⟩, HF.out.k.tw⟩
            · -- on to its reason
              obtain ⟨p, hp⟩ : ∃ p, b.op = p + 1 := ⟨b.op - 1, by omega⟩
              have hob := HLq.out.m.ob
              rw [hp] at hop1 hob
              change wq.cell? ⟨N + 5, 0, none⟩ = some (.int .i64 (b.op : Int)) at c8
              rw [hp, show ((p + 1 : Nat) : Int) = (p : Int) + 1 from rfl] at c8
              unfold bigN at hob
              have hp0 : ((p : Int) == 0) = false := by simp; omega
              obtain ⟨wo, hwo⟩ : ∃ W, wq.setCell ⟨N + 5, 0, none⟩ (.int .i64 (p : Int)) = W := ⟨_, rfl⟩
              have HLo : Aside0 (LS w W N B sb h A6 wo { b with op := p } [] nilS) := ⟨by rw [← hwo]; exact HLq.out.setOp p (by unfold bigN; omega)⟩
              obtain ⟨ko8, -⟩ := cell_block HLo.out.m.b8
              change wo.cell? ⟨N + 5, 0, none⟩ = some (.int .i64 (p : Int)) at ko8
              have ko2 := (cell_block HLo.out.m.b2).1
              obtain ⟨ko9, kf9⟩ := cell_block HLo.out.m.b9.1
              obtain ⟨rn, hrn⟩ : ∃ rn : Nat, rs = (rn : Int) := ⟨rs.toNat, by omega⟩
              subst hrn
              rw [Int.toNat_natCast] at hw2
              obtain ⟨g5, cap5, e5, hi5, hcap5, hmax5, hcell5, -, -, -⟩ := HLo.out.m.rep.num (t := .re) (nums_get hrs)
              obtain ⟨l5, hl5⟩ : ∃ l5, (cellsOf b.s h.val .re).length = l5 := ⟨_, rfl⟩
              have h5 := HLo.out.m.rep.cell 5
              change wo.cell? ⟨sb, 5, none⟩ = some (h.val .re) at h5
              change h.val .re = .slice (some ⟨g5, 0, none⟩) (cellsOf b.s h.val .re).length cap5 at e5
              change kk < (cellsOf b.s h.val .re).length at hi5
              change (cellsOf b.s h.val .re).length ≤ cap5 at hcap5
              rw [e5] at h5
              rw [hl5] at h5 hi5 hcap5
              have hi5' : (kk : Int) < (l5 : Int) := by omega
              have hclr : (cellsOf b.s h.val .cl)[rn]? = some (h.val (.c rn)) := by
                show ((List.range b.s.cl.length).map fun i => h.val (.c i))[rn]? = _
                rw [List.getElem?_map, List.getElem?_range (List.getElem?_eq_some_iff.1 hw2).1]; rfl
              obtain ⟨g1, cap1, e1, hi1, hcap1, hmax1, hcell1, -, -, -⟩ := HLo.out.m.rep.num (t := .cl) hclr
              obtain ⟨l1, hl1⟩ : ∃ l1, (cellsOf b.s h.val .cl).length = l1 := ⟨_, rfl⟩
              have h1 := HLo.out.m.rep.cell 1
              change wo.cell? ⟨sb, 1, none⟩ = some (h.val .cl) at h1
              change h.val .cl = .slice (some ⟨g1, 0, none⟩) (cellsOf b.s h.val .cl).length cap1 at e1
              change rn < (cellsOf b.s h.val .cl).length at hi1
              change (cellsOf b.s h.val .cl).length ≤ cap1 at hcap1
              rw [e1] at h1
              rw [hl1] at h1 hi1 hcap1
              have hi1' : (rn : Int) < (l1 : Int) := by omega
              obtain ⟨v9, hv9⟩ : ∃ v9, h.val (.c rn) = v9 := ⟨_, rfl⟩
              rw [hv9] at hcell1
              obtain ⟨A3, n3, c3, rfl⟩ : ∃ A n c, v9 = .slice A n c := by
                obtain ⟨A, c, e, _⟩ := (HLo.out.m.rep.row (.c rn)).form
                exact ⟨A, _, c, hv9.symm.trans e⟩
              have HF : Aside0 (LS w W N B sb h A6 ((wo.drew).setCell ⟨N + 6, 0, none⟩ (.slice A3 n3 c3)) { b with op := p } w2 (.slice A3 n3 c3)) := ⟨(HLo.out.drewN 1).setWhy (.slice A3 n3 c3) (.inr ⟨rn, hw2, hv9.symm⟩)⟩
              have HRest : Aside0 (St.lrnOut flS rem2 w2 { b with op := p } = some fin) := ⟨by
                have e : b.op - 1 = p := by omega
                rw [e] at hrest; exact hrest⟩
              clear hrest hw2 hrs hclr e1 e5 hl1 hl5 hv9 hp
              gi_wp2
              clear hwo c8 f8
              refine region_tail_round 13 (by kernel_rfl) (by kernel_rfl) (by kernel_rfl) (fun ⟨_, _, h⟩ => h) ?_
              simp only [List.take_succ_cons, List.take_zero, List.drop_succ_cons, List.drop_zero]
              repeat still_step
              refine wpStill_nil ?_
              go_wp2
              rw [hz8]
              refine ⟨HF.out.k.kf, HF.out.k.k0, rem2, w2, _, _, ?_, HRest.out, HF.out.m, HF.out.k.tw⟩
              rw [List.map_append, List.append_assoc]; show pre.map (·.2) ++ (x.2 :: rem2) = _; rw [HXV.out]; exact HCS.out.1
          · have hne : ((v : Int) != (n7 : Int)) = true := by simp; omega
            gi_wp2_with (refine ⟨trivial, ?_⟩; gi_at_call 41; refine (rnd_calls (hV3 _)).mono ?_; rintro e w' ⟨rfl, rfl⟩)
            clear hws c9' f9'
            refine region_quiet_round (by kernel_rfl) (by kernel_rfl) (by kernel_rfl) (fun ⟨_, _, h⟩ => h) ?_
            repeat (go_big_quiet_step (fail))
            refine wpQuiet_nil ?_
            rintro _ ⟨nq, rfl⟩
            gi_wp2
            exact HSkip.out (.inr hvn) nq _
  case hK0 =>
    rintro q (rfl | hq)
    · omega
    · have := (HLC.out.tr q hq).1; omega
  case hn => exact HE.out.2.2.1
  case hc =>
    have e := HE.out.2.2.2.2.2.1
    have l6 : (cellsOf s h.val .tr).length = n6 := (nums_length _ _).trans HE.out.2.2.1
    rw [l6] at e
    exact e
  case hcm => have := HE.out.2.2.2.2.2.2; unfold maxLen at this; omega
  case hbox =>
    have := HLM.out.1.bx
    rw [HE.out.2.1] at this
    have l6 : (cellsOf s h.val .tr).length = n6 := (nums_length _ _).trans HE.out.2.2.1
    rw [l6] at this
    exact this
  case hA =>
    intro hp
    have l6 : (cellsOf s h.val .tr).length = n6 := (nums_length _ _).trans HE.out.2.2.1
    obtain ⟨g, hg⟩ := HE.out.2.2.2.2.1 (by rw [l6]; exact hp)
    refine ⟨g, hg, .inr hg, fun i x hx => ?_⟩
    exact (HLM.out.1.rep.at (t := .tr) (g := g) (n := (cellsOf s h.val .tr).length) (cap := c6) (by rw [HE.out.2.1, hg]) (nums_get hx)).1
  case hI =>
    rintro pre W W' T ⟨rem, why2, a, v9, h1, h2, L, h4⟩
    rw [hz8] at T
    have hbk : ∀ k, Bk (N + 8) W k → N + 8 ≤ k ∧ ¬ ∃ o : Obj, W.heap[k]? = some o ∧ o.isCells = true := by
      rintro k ⟨hk, o, ho, hc⟩
      refine ⟨hk, fun ⟨o', ho', hc'⟩ => ?_⟩
      rw [ho] at ho'
      obtain rfl := Option.some.inj ho'
      rw [hc] at hc'; cases hc'
    refine ⟨rem, why2, a, v9, h1, h2, L.turn T hbk, (h4.trans T).mono (fun g hg e => ?_)⟩
    rcases e with e | e
    · exact e
    · have := e.1; omega
  case hIx =>
    rintro W W' T ⟨⟨why2, v9, L⟩, h4⟩
    rw [hz8] at T
    have hbk : ∀ k, Bk (N + 8) W k → N + 8 ≤ k ∧ ¬ ∃ o : Obj, W.heap[k]? = some o ∧ o.isCells = true := by
      rintro k ⟨hk, o, ho, hc⟩
      refine ⟨hk, fun ⟨o', ho', hc'⟩ => ?_⟩
      rw [ho] at ho'
      obtain rfl := Option.some.inj ho'
      rw [hc] at hc'; cases hc'
    refine ⟨⟨why2, v9, L.turn T hbk⟩, (h4.trans T).mono (fun g hg e => ?_)⟩
    rcases e with e | e
    · exact e
    · have := e.1; omega
  case h0 => exact ⟨s.tr.reverse, why, _, _, rfl, HS.out.2.2.1, HLM.out.1, HLM.out.2.mono (fun _ _ e => e.elim)⟩
  case done =>
    rintro D W hD ⟨rem, why2, a, v9, hrem, hout, HL, T⟩ hK2
    have hr : rem = [] := by
      have e2 := bw_snd s.tr n6 (by rw [HE.out.2.2.1]; omega)
      rw [List.take_of_length_le (by rw [HE.out.2.2.1]; omega)] at e2
      rw [e2] at hrem
      have := congrArg List.length hrem
      simp at this
      exact this
    subst hr
    unfold St.lrnOut at hout
    obtain rfl := Option.some.inj hout
    exact HTail.out D W why2 v9 (by omega) HL T hK2
  case stop =>
    rintro D W hD ⟨⟨why2, v9, HL⟩, T⟩ hK2
    clear hK
    gi_wp2
    exact HTail.out D W why2 v9 (by omega) HL T hK2
end Go.Proofs.Ytbagcbiekpopbaa

namespace Go.Proofs.Ytbagcbiekpopbaa
open Go.RowKit Go.Shelf Go.Proofs.YtbagcbiekpopbaaW.PrintWords Go.Proofs.YtbagcbiekpopbaaW.PrintLast
set_option linter.unusedVariables false
set_option linter.unusedSimpArgs false
attribute [local go_sem] run_store_float

theorem add_get {s s' : St} {l : List Int} {k : Nat} (h : St.add s l = some (s', k)) : s'.cl[k]? = some l := by
  unfold St.add at h
  match l, h with
  | a :: b :: r, h =>
    simp only at h
    split at h
    · simp only [Option.bind_eq_bind, Option.bind_eq_some_iff] at h
      obtain ⟨s1, hs1, s2, hs2, h⟩ := h
      obtain ⟨rfl, rfl⟩ := Prod.mk.inj (Option.some.inj h)
      unfold St.watchOn at hs1 hs2
      split at hs1
      · obtain rfl := Option.some.inj hs1
        split at hs2
        · obtain rfl := Option.some.inj hs2
          simp
        · cases hs2
      · cases hs1
    · cases h
def StepOut (w : World) (B sb : Nat) (h : Hp) (v : Value) (s' : St) (e : Ending) (w' : World) : Prop :=
  e = .returned v ∧ ∃ h', Rep w' B sb s' h' ∧ Stp w w' h h'

set_option maxHeartbeats 8000000 in
set_option maxRecDepth 100000 in
theorem conflict_no (k : Nat) (w : World) (B sb : Nat) (s : St) (h : Hp) (R : Rep w B sb s h) (hs : s.ma = []) :
    Calls Try.prog 21 #[.pointer (some ⟨sb, 0, none⟩), .int .i64 (k : Int)] w (StepOut w B sb h (.bool false) s) := by
  obtain ⟨A7, c7, e7, hc71, hc72, -⟩ := (R.row .ma).form
  have l7 : (cellsOf s h.val .ma).length = 0 := by rw [show (cellsOf s h.val .ma).length = s.ma.length from nats_length _, hs]; rfl
  have h7 := R.cell 7
  change w.cell? ⟨sb, 7, none⟩ = some (h.val .ma) at h7
  rw [e7, l7] at h7
  have HR := Aside0.mk R
  clear R hs e7 l7 hc71 hc72
  go_enter Try.func21, Try.ntmps21
  go_wp2
  go_ret
  exact ⟨rfl, h, HR.out, Stp.refl _ _⟩

set_option maxHeartbeats 8000000 in
set_option maxRecDepth 100000 in
theorem conflict_yes (k : Nat) (hk : k < bigN) (w : World) (B sb : Nat) (s s1 s3 s5 : St) (l : List Int) (back : Nat) (r x : Int) (h : Hp) (R : Rep w B sb s h) (hma : s.ma ≠ []) (hl : s.learn flS k = some (s1, l, back)) (hpf : s1.pf.length < bigN)
    (hback : back < bigN) (hlb : l.length ≤ bigN) (h3 : St.undo { s1 with pf := s1.pf ++ [l] } back = some s3) (s4 : St) (h4 : (if 1 < l.length then (St.add s3 l).map (fun p => (p.1, (p.2 : Int))) else some (s3, -1)) = some (s4, r)) (hx : l[0]? = some x) (h5 : St.set s4 x r = some s5) (hsp : s5.sp ≤ infR) :
    Calls Try.prog 21 #[.pointer (some ⟨sb, 0, none⟩), .int .i64 (k : Int)] w (StepOut w B sb h (.bool true) { s5 with sp := flS.mul s5.sp 4607407598781385933 }) := by
  obtain ⟨A7, c7, e7, hc71, hc72, -⟩ := (R.row .ma).form
  have l7 : (cellsOf s h.val .ma).length = s.ma.length := nats_length _
  have h7 := R.cell 7
  change w.cell? ⟨sb, 7, none⟩ = some (h.val .ma) at h7
  obtain ⟨n7, hn7⟩ : ∃ n7, s.ma.length = n7 := ⟨_, rfl⟩
  rw [e7, l7, hn7] at h7
  have hn70 : ((n7 : Int) == 0) = false := by
    have : n7 ≠ 0 := fun e => hma (List.length_eq_zero_iff.1 (hn7.trans e))
    simpa using this
  have HL := learn_any k w B sb s s1 h l back R hl hk
  have HR := Aside0.mk R
  have HH := Aside0.mk (And.intro hpf (And.intro hback (And.intro hlb (And.intro h3 (And.intro h4 (And.intro hx (And.intro h5 hsp)))))))
  clear R hma hl e7 l7 hn7 hc71 hc72 hpf h3 h4 hx h5 hsp hback hlb
  go_enter Try.func21, Try.ntmps21
  go_wp2_with (go_at_call 38; refine HL.mono ?_; rintro e w1 ⟨gl, cl, rfl, hR1, hT1, hown1, hgl⟩)
  have hsb1 := hR1.base.2.2
  have hB1 := hR1.base.1
  obtain ⟨A11, c11, e11, hc111, hc112, -⟩ := (hR1.row .pf).form
  have l11 : (cellsOf s1 h.val .pf).length = s1.pf.length := by simp [cellsOf]
  have h11 := hR1.cell 11
  change w1.cell? ⟨sb, 11, none⟩ = some (h.val .pf) at h11
  have f11 := hR1.frozen 11
  obtain ⟨n11, hn11⟩ : ∃ n11, s1.pf.length = n11 := ⟨_, rfl⟩
  rw [l11, hn11] at e11
  rw [e11] at h11
  have hl0 : 0 < l.length := by
    have := (List.getElem?_eq_some_iff.1 HH.out.2.2.2.2.2.1).1
    omega
  have hll := HH.out.2.2.1
  unfold bigN at hll
  obtain ⟨ll, hll2⟩ : ∃ ll, l.length = ll := ⟨_, rfl⟩
  have HCl : Calls Try.prog 39 #[.slice (some ⟨gl, 0, none⟩) ll cl] w1.drew (fun e w' => ∃ gq cq, e = .returned (.slice (some ⟨gq, 0, none⟩) ll cq) ∧ w'.ownsRow w1.heap.size 3 1 (.slice (some ⟨gq, 0, none⟩) ll cq) ll (nums .i64 l) ∧ Below w1.heap.size w1 w') := by
    refine (Try.slices_Clone_int gl 0 ll cl l w1.drew (by omega) (by omega) (fun j hj => ?_)).mono ?_
    · have := hown1.cells (g := gl) rfl j (.int .i64 (l.getD j 0)) (nums_get (by rw [List.getD_eq_getElem?_getD, List.getElem?_eq_getElem hj]; rfl))
      rw [add_plain] at this
      simpa using this
    · rintro e w' ⟨v', rfl, ho, hn, hb⟩
      rw [List.take_of_length_le (by omega)] at ho
      rcases ho.2 with ⟨_, e⟩ | ⟨g, cap, _, rfl, _⟩
      · omega
      · exact ⟨g, cap, rfl, ho, ⟨hb.os, hb.tape, hb.output, hb.size, hb.block⟩⟩
  have hone : Aside0 (∀ u ∈ cellsOf s1 h.val .pf, u.oneCell' = true) := ⟨fun u hu => by
    simp only [cellsOf, List.mem_map] at hu
    obtain ⟨q, -, rfl⟩ := hu
    obtain ⟨A, c, e, -⟩ := (hR1.row (.p q)).form
    rw [e]; rfl⟩
  have HR1 := Aside0.mk (And.intro hR1 (And.intro hT1 (And.intro hown1 (And.intro hgl (And.intro e11 (And.intro l11 (And.intro hn11 hll2)))))))
  have hn11b : n11 ≤ 1099511627776 := by have := HH.out.1; unfold bigN at this; omega
  have HPO : Aside0 (w1.ownsRow B 37 1 (.slice A11 n11 c11) n11 (cellsOf s1 h.val .pf)) := ⟨by
    have := (hR1.row .pf).row
    rw [l11, hn11, e11] at this
    exact this⟩
  have hPB : Aside0 (∀ g, (Value.slice A11 n11 c11).ownBlock = some g → g ≠ sb ∧ g < w1.heap.size) := ⟨fun g e => by
    have h1 := (hR1.row .pf).own g (by rw [e11]; exact e)
    have h2 := ((hR1.row .pf).row.lt g (by rw [e11]; exact e)).2
    exact ⟨fun e2 => (sol_ne hR1 h1) e2.symm, h2⟩⟩
  clear hR1 hT1 hown1 hgl e11 hc111 hc112 l11 hn11 HL
  rw [hll2]
  have hlen3 : Aside0 (∀ u, (cellsOf s1 h.val .pf ++ [u]).length = n11 + 1) := ⟨fun u => by rw [List.length_append, HR1.out.2.2.2.2.2.1, HR1.out.2.2.2.2.2.2.1]; rfl⟩
  have hchain : Aside0 (∀ (X Y : World) (o : Obj), Below w1.heap.size w1 X → (X.alloc o).grownBy Y (Value.slice A11 n11 c11).ownBlock → Y.heap[sb]? = w1.heap[sb]?) := ⟨fun X Y o hb hg => by
    have hz := hb.size
    exact (hg.block sb (by simp; omega) (fun e => (hPB.out sb e.symm).1 rfl)).trans ((Below.heap_alloc X o sb (by omega)).trans (hb.block sb hsb1))⟩
  go_region_law (first
    | (go_simp; go_at_call 39; refine HCl.mono ?_; rintro e w2 ⟨gq, cq, rfl, hown2, hbel2⟩; have h11b := (hbel2.cell (p := ⟨sb, 11, none⟩) hsb1).trans h11; have h11c : ∀ o, (w2.alloc o).cell? ⟨sb, 11, none⟩ = some (.slice A11 n11 c11) := (fun o => (World.cell?_of_block (a := ⟨sb, 11, none⟩) (Below.heap_alloc w2 o sb (Nat.lt_of_lt_of_le hsb1 hbel2.size))).trans h11b); have HQ := Aside0.mk (And.intro hown2 hbel2); clear hown2 hbel2)
    | (refine step_append_all (w0 := w1) B (by rfl) (.tmp 24) (.tmp 27) 22 37 (.slice none 0 0) 24 rfl Try.underlying22 infoII rfl (by decide) (.slice A11 n11 c11) (cellsOf s1 h.val .pf) (some ⟨w2.heap.size, 0, none⟩) 1 1 [.slice (some ⟨gq, 0, none⟩) ll cq] rfl rfl hone.out (by simp [Value.oneCell'])
        (by rw [HR1.out.2.2.2.2.2.1, HR1.out.2.2.2.2.2.2.1]; exact (ownsRow_turn HPO.out (Turn.of_below HQ.out.2 (fun _ => False)) (fun _ _ e => e)).alloc _) rfl (by omega) (fun _ => ⟨_, rfl, World.news_of_block (cs := #[.slice (some ⟨gq, 0, none⟩) ll cq]) (t := 37) (fr := (0, 0)) (heap_alloc_new _ _)⟩)
        ((HQ.out.2.mono hB1).alloc (Nat.le_trans hB1 HQ.out.2.size) _) (by have := HQ.out.2.size; simp; omega) (by rw [HR1.out.2.2.2.2.2.1, HR1.out.2.2.2.2.2.2.1]; omega) ?_; intro v3 w3 hown3 hb3 hg3 hat3; rw [hlen3.out] at hown3; obtain ⟨g3, cap3, rfl⟩ := own_succ hown3; have hch := hchain.out w2 w3 _ HQ.out.2 hg3; have x1 := (World.cell?_of_block (a := ⟨sb, 11, none⟩) hch).trans h11; have x2 := (World.frozen?_of_block (a := ⟨sb, 11, none⟩) hch).trans f11; have HX := Aside0.mk (And.intro hown3 (And.intro hg3 hat3)); clear hown3 hb3 hg3 hat3 hch))
  all_goals (
    have hbw : Below w1.heap.size w1 (w2.alloc (.cells #[.slice (some ⟨gq, 0, none⟩) ll cq] 37)) := HQ.out.2.alloc HQ.out.2.size _
    obtain ⟨R4, T4, O4⟩ := HR1.out.1.addProof (lv := .slice (some ⟨gq, 0, none⟩) ll cq) (l := l) (v1 := .slice (some ⟨g3, 0, none⟩) (n11 + 1) cap3) hbw (by rw [HR1.out.2.2.2.2.1]; exact HX.out.2.1) (by rw [hlen3.out]; exact HX.out.1) (by rw [HR1.out.2.2.2.2.1]; exact HX.out.2.2)
      (by rw [hll2]; exact (own_weaken' HQ.out.1 hB1).alloc _) (fun g e => (HQ.out.1.lt g e).1)
    obtain ⟨W4, hW4⟩ : ∃ W, w3.setCell ⟨sb, 11, none⟩ (.slice (some ⟨g3, 0, none⟩) (n11 + 1) cap3) = W := ⟨_, rfl⟩
    rw [hW4] at R4 T4 ⊢
    obtain ⟨h4', hh4⟩ : ∃ h4', (h.put (.p s1.pf.length) (.slice (some ⟨gq, 0, none⟩) ll cq)).put .pf (.slice (some ⟨g3, 0, none⟩) (n11 + 1) cap3) = h4' := ⟨_, rfl⟩
    rw [hh4] at R4 O4
    have hglf : h.own gl = .free := HR.out.free gl HR1.out.2.2.2.1
    have hglz : gl < w1.heap.size := (rowG_lt HR1.out.2.2.1).1
    have S1 : Stp w w1 h h := ⟨HR1.out.2.1.mono (fun g _ e => by
      rcases e with e | e
      · rw [e, HR.out.osol]; exact fun e => by cases e
      · rw [e]; exact fun e => by cases e), fun _ _ e => e⟩
    have hfree4 : ∀ g, g < w1.heap.size → h.own g = .free → ¬ ((h.val .pf).ownBlock = some g ∨ g = sb) := fun g hg e e2 => by
      rcases e2 with e2 | e2
      · rw [(HR1.out.1.row .pf).own g e2] at e; cases e
      · rw [e2, HR.out.osol] at e; cases e
    have hqne : ∀ g, g < w1.heap.size → (Value.slice (some ⟨gq, 0, none⟩) ll cq).ownBlock ≠ some g := fun g hg e => by
      have := (HQ.out.1.lt g e).1; omega
    have S4 : Stp w1 W4 h h4' := ⟨T4.mono (fun g hg e => fun e2 => hfree4 g hg e2 e), fun g hg e => O4 g hg (hqne g hg) e⟩
    have hgl4 : h4'.own gl = .free := S4.own gl hglz hglf
    have hrow4 : W4.ownsRow B 3 1 (.slice (some ⟨gl, 0, none⟩) ll cl) ll (nums .i64 l) := by
      have h1 := HR1.out.2.2.1
      rw [hll2] at h1
      exact ownsRow_turn (own_weaken' h1 HR.out.base.1) T4 (fun g e => by
        injection e with e
        subst e
        exact hfree4 _ hglz hglf)
    have HU := undo_any back HH.out.2.1 W4 B sb _ s3 h4' R4 HH.out.2.2.2.1
    have hgl4z : gl < W4.heap.size := Nat.lt_of_lt_of_le hglz S4.turn.size
    have HS4 := Aside0.mk (And.intro (S1.trans S4) (And.intro hgl4 (And.intro hrow4 hgl4z)))
    have HK5 : Aside0 (∀ W5 h5, Stp W4 W5 h4' h5 → W5.ownsRow B 3 1 (.slice (some ⟨gl, 0, none⟩) ll cl) ll (nums .i64 l) ∧ h5.own gl = .free ∧ W5.cell? ⟨gl, 0, none⟩ = some (.int .i64 x)) := ⟨fun W5 h5 hS => by
      have h1 : W5.ownsRow B 3 1 (.slice (some ⟨gl, 0, none⟩) ll cl) ll (nums .i64 l) := ownsRow_turn hrow4 hS.turn (fun g e => by
        injection e with e
        subst e
        exact fun e2 => e2 hgl4)
      have h2 := h1.cells (g := gl) rfl 0 (.int .i64 x) (nums_get HH.out.2.2.2.2.2.1)
      rw [add_plain] at h2
      exact ⟨h1, hS.own gl hgl4z hgl4, h2⟩⟩
    clear hbw R4 T4 O4 hW4 hh4 hglf hglz S1 hfree4 hqne S4 hgl4 hrow4 x1 x2 HX HQ hgl4z
    obtain ⟨hmul, -⟩ := mul_grow HH.out.2.2.2.2.2.2.2
    obtain ⟨sp5, hsp5⟩ : ∃ sp5, s5.sp = sp5 := ⟨_, rfl⟩
    obtain ⟨y, hy⟩ : ∃ y, flS.mul s5.sp 4607407598781385933 = y := ⟨_, rfl⟩
    rw [hy, hsp5] at hmul
    have hrunm : ∀ W : World, (binOp .mul 45 (.float .f64 sp5) (.float .f64 4607407598781385933)).run Try.prog W = .ok (.float .f64 y) W := fun W => run_float_arith W .mul 45 .f64 sp5 4607407598781385933 y hmul
    have HSP := Aside0.mk (And.intro hsp5 hy)
    have HFin : Aside0 (∀ W7 h7, Rep W7 B sb s5 h7 → Stp w W7 h h7 → StepOut w B sb h (.bool true) { s5 with sp := flS.mul s5.sp 4607407598781385933 } (.returned (.bool true)) (W7.setCell ⟨sb, 10, none⟩ (.float .f64 y))) := ⟨fun W7 h7 hR hS => by
      obtain ⟨R8, S8⟩ := hR.setNum (k := 10) (u := .float .f64 y) (s' := { s5 with sp := y }) rfl (fun t => by cases t <;> rfl) ⟨rfl, rfl, rfl⟩
      rw [HSP.out.2]
      exact ⟨rfl, h7, R8, hS.trans S8⟩⟩
    clear hsp5 hy hmul
    by_cases h1l : 1 < ll
    · have hd : decide ((1 : Int) < (ll : Int)) = true := by simp; omega
      have hd2 : decide (1 < ll) = true := by simpa using h1l
      obtain ⟨kk, hadd, hr⟩ : ∃ kk : Nat, St.add s3 l = some (s4, kk) ∧ r = (kk : Int) := by
        have h4 := HH.out.2.2.2.2.1
        rw [if_pos (by rw [hll2]; exact h1l)] at h4
        obtain ⟨⟨s', k'⟩, h5, h6⟩ := Option.map_eq_some_iff.1 h4
        simp only [Prod.mk.injEq] at h6
        obtain ⟨rfl, rfl⟩ := h6
        exact ⟨k', h5, rfl⟩
      subst hr
      obtain ⟨a, b, rr, hle⟩ : ∃ a b rr, l = a :: b :: rr := by
        match l, hll2 with
        | [], e => simp at e; omega
        | [_], e => simp at e; omega
        | a :: b :: rr, _ => exact ⟨a, b, rr, rfl⟩
      have HAdd := Aside0.mk (And.intro hadd hle)
      have HA6 : Aside0 (∀ W6 h6, Rep W6 B sb s4 h6 → h6.val (.c kk) = .slice (some ⟨gl, 0, none⟩) ll cl → W6.cell? ⟨gl, 0, none⟩ = some (.int .i64 x)) := ⟨fun W6 h6 hR hv => by
        have hcl := add_get hadd
        refine (hR.at (t := .c kk) hv ?_).1
        show (nums .i64 (s4.cl.getD kk []))[0]? = _
        rw [List.getD_eq_getElem?_getD, hcl]
        exact nums_get HH.out.2.2.2.2.2.1⟩
      clear hadd hle
      go_wp2_with (first
        | (go_at_call 40; refine HU.mono ?_; rintro e W5 ⟨rfl, h5, hR5, hS5⟩; have H5 := Aside0.mk (HK5.out W5 h5 hS5); have HR5 := Aside0.mk (And.intro hR5 hS5); clear hR5 hS5)
        | (go_at_call 36; refine (add_any a b rr ll cl gl W5 B sb s3 s4 kk h5 HR5.out.1 (by rw [← HAdd.out.2]; exact HAdd.out.1) (by rw [← HAdd.out.2]; exact H5.out.1) H5.out.2.1).mono ?_; rintro e W6 ⟨rfl, h6, hR6, hT6, hO6, hv6⟩; have hl6 := HA6.out W6 h6 hR6 hv6; have HR6 := Aside0.mk (And.intro hR6 (And.intro hT6 hO6)); clear hR6 hT6 hO6 hv6)
        | (go_at_call 24; refine (set_any x kk W6 B sb s4 s5 h6 HR6.out.1 HH.out.2.2.2.2.2.2.1).mono ?_; rintro e W7 ⟨rfl, v7, hR7, hS7⟩; have h10 : W7.cell? ⟨sb, 10, none⟩ = some (.float .f64 sp5) := (hR7.cell 10).trans (by rw [← HSP.out.1]; rfl); have f10 := hR7.frozen 10; have HR7 := Aside0.mk (And.intro hR7 hS7); clear hR7 hS7))
      go_ret
      refine HFin.out W7 _ HR7.out.1 (Stp.trans ?_ HR7.out.2)
      have S5 := HS4.out.1.trans HR5.out.2
      refine ⟨(S5.turn.trans HR6.out.2.1).mono (fun g hg e e2 => ?_), fun g hg e => HR6.out.2.2 g (Nat.lt_of_lt_of_le hg S5.turn.size) (fun e2 => ?_) (S5.own g hg e)⟩
      · rcases e with e | e | e
        · exact e e2
        · exact e (S5.own g hg e2)
        · have := HR1.out.2.2.2.1; omega
      · have := HR1.out.2.2.2.1; omega
    · have hd : decide ((1 : Int) < (ll : Int)) = false := by simp; omega
      have hd2 : decide (1 < ll) = false := by simpa using h1l
      have h4e : s4 = s3 ∧ r = -1 := by
        have h4 := HH.out.2.2.2.2.1
        rw [if_neg (by rw [hll2]; exact h1l)] at h4
        simp only [Option.some.injEq, Prod.mk.injEq] at h4
        exact ⟨h4.1.symm, h4.2.symm⟩
      obtain ⟨rfl, rfl⟩ := h4e
      have hi0 : (0 : Int) < (ll : Int) := by omega
      have hi00 : 0 < ll := by omega
      go_wp2_with (first
        | (go_at_call 40; refine HU.mono ?_; rintro e W5 ⟨rfl, h5, hR5, hS5⟩; have hl5 := (HK5.out W5 h5 hS5).2.2; have HR5 := Aside0.mk (And.intro hR5 hS5); clear hR5 hS5)
        | (go_at_call 24; refine (set_any x (-1) W5 B sb s4 s5 h5 HR5.out.1 HH.out.2.2.2.2.2.2.1).mono ?_; rintro e W7 ⟨rfl, v7, hR7, hS7⟩; have h10 : W7.cell? ⟨sb, 10, none⟩ = some (.float .f64 sp5) := (hR7.cell 10).trans (by rw [← HSP.out.1]; rfl); have f10 := hR7.frozen 10; have HR7 := Aside0.mk (And.intro hR7 hS7); clear hR7 hS7))
      go_ret
      exact HFin.out W7 _ HR7.out.1 ((HS4.out.1.trans HR5.out.2).trans HR7.out.2))

theorem conflict_any (k : Nat) (hk : k < bigN) (ok : Bool) (w : World) (B sb : Nat) (s s' : St) (h : Hp) (R : Rep w B sb s h) (hs : s.conflict flS k = some (s', ok)) :
    Calls Try.prog 21 #[.pointer (some ⟨sb, 0, none⟩), .int .i64 (k : Int)] w (StepOut w B sb h (.bool ok) s') := by
  unfold St.conflict at hs
  split at hs
  · rename_i hma
    obtain ⟨rfl, rfl⟩ := Prod.mk.inj (Option.some.inj hs)
    exact conflict_no k w B sb s h R hma
  · rename_i hma
    simp only [Option.bind_eq_bind, Option.bind_eq_some_iff] at hs
    obtain ⟨⟨s1, l, back⟩, hl, hs⟩ := hs
    simp only at hs
    split at hs
    · rename_i hb
      simp only [Option.bind_eq_bind, Option.bind_eq_some_iff] at hs
      obtain ⟨s3, h3, hs⟩ := hs
      have hs2 : ∃ s4 r, (if 1 < l.length then (St.add s3 l).map (fun p => (p.1, (p.2 : Int))) else some (s3, -1)) = some (s4, r) ∧ (l[0]?.bind fun x => (St.set s4 x r).bind fun s5 => if s5.sp ≤ infR then some ({ s5 with sp := flS.mul s5.sp 4607407598781385933 }, true) else none) = some (s', ok) := by
        split at hs
        · rename_i h1
          obtain ⟨⟨s4, r⟩, h4, hs⟩ := Option.bind_eq_some_iff.1 hs
          exact ⟨s4, r, by rw [if_pos h1]; exact h4, hs⟩
        · rename_i h1
          obtain ⟨⟨s4, r⟩, h4, hs⟩ := Option.bind_eq_some_iff.1 hs
          exact ⟨s4, r, by rw [if_neg h1]; exact h4, hs⟩
      obtain ⟨s4, r, h4, hs⟩ := hs2
      obtain ⟨x, hx, hs⟩ := Option.bind_eq_some_iff.1 hs
      obtain ⟨s5, h5, hs⟩ := Option.bind_eq_some_iff.1 hs
      split at hs
      · rename_i hsp
        obtain ⟨rfl, rfl⟩ := Prod.mk.inj (Option.some.inj hs)
        exact conflict_yes k hk w B sb s s1 s3 s5 l back r x h R hma hl hb.1 hb.2.1 hb.2.2 h3 s4 h4 hx h5 hsp
      · cases hs
    · cases hs
end Go.Proofs.Ytbagcbiekpopbaa
