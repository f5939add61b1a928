import Derived.Test.YtdgkbigmdadlaaaDoorAsmN
namespace Go.Proofs.YtdgkbigmdadlaaaDoor
open Go.RowKit Go.Lib Go.Proofs.YtdgkbigmdadlaaaDoorW.PrintWords Go.Proofs.YtdgkbigmdadlaaaDoorW.PrintLast
attribute [local go_sem high] eqA23
set_option linter.unusedVariables false
set_option linter.unusedSimpArgs false

/-! lines are read as they were -/
theorem two_no (a b : List UInt8) (c : UInt8) (h1 : c ≠ 44) (h2 : c ≠ 32) (ha : c ∉ a) (hb : c ∉ b) : c ∉ two a b := by
  unfold two
  simp only [List.mem_append, List.mem_cons, not_or]
  exact ⟨ha, h1, h2, hb⟩
theorem three_no (a b d : List UInt8) (c : UInt8) (h1 : c ≠ 44) (h2 : c ≠ 32) (ha : c ∉ a) (hb : c ∉ b) (hd : c ∉ d) : c ∉ three a b d := two_no a _ c h1 h2 ha (two_no b d c h1 h2 hb hd)
theorem text_no10 {x : I5} (h : rightI x = true) : (10 : UInt8) ∉ textI x := by
  have hop := form_in (right_parts h).1
  have hn : (10 : UInt8) ∉ nameL x.op := fun hm => by have := (name_in hop).2.2.1 10 hm; simp at this
  have hi : ∀ n : Int, (10 : UInt8) ∉ Lib.itoa n := fun n => itoa_not n 10 (by decide) (by decide)
  have hr : ∀ n : Int, (10 : UInt8) ∉ regL n := fun n => regL_no n 10 (by decide) (by decide) (by decide)
  have ha : ∀ n r : Int, (10 : UInt8) ∉ atL n r := fun n r => by
    unfold atL
    simp only [List.mem_append, List.mem_cons, List.not_mem_nil, or_false, not_or]
    exact ⟨hi n, by decide, hr r, by decide⟩
  unfold textI
  split
  · exact hn
  · simp only [List.mem_append, List.mem_cons, not_or]
    refine ⟨hn, by decide, ?_⟩
    unfold restL
    repeat' split
    · exact two_no _ _ 10 (by decide) (by decide) (hr _) (hi _)
    · exact three_no _ _ _ 10 (by decide) (by decide) (hr _) (hr _) (hr _)
    · exact three_no _ _ _ 10 (by decide) (by decide) (hr _) (hr _) (hi _)
    · exact two_no _ _ 10 (by decide) (by decide) (hr _) (ha _ _)
    · exact two_no _ _ 10 (by decide) (by decide) (hr _) (ha _ _)
    · exact three_no _ _ _ 10 (by decide) (by decide) (hr _) (hr _) (hi _)
theorem line_cut {x : I5} (h : rightI x = true) (r : List UInt8) : cutB 10 (lineI x ++ r) = (textI x, r, true) := by
  rw [show lineI x ++ r = textI x ++ 10 :: r from by unfold lineI; simp]
  exact cutB_app 10 _ _ (text_no10 h)
/-- Lines, and a text behind them. -/
theorem readF_lines : ∀ (L : List I5) (f : Nat) (r : List UInt8), L.all rightI = true → readF (f + L.length) (L.flatMap lineI ++ r) = (readF f r).map (L ++ ·)
  | [], f, r, _ => by simp
  | x :: L, f, r, h => by
    rw [List.all_cons, Bool.and_eq_true] at h
    have hne : ¬ ((x :: L).flatMap lineI ++ r = []) := by simp [lineI]
    rw [show f + (x :: L).length = (f + L.length) + 1 from by simp; omega]
    conv => lhs; unfold readF
    rw [if_neg hne, List.flatMap_cons, List.append_assoc, line_cut h.1]
    simp only
    rw [parseA_text h.1, if_pos (by simp), readF_lines L f r h.2, Option.map_map]
    congr 1
theorem readF_more : ∀ (s : List UInt8) (f g : Nat), s.length ≤ f → s.length ≤ g → readF f s = readF g s
  | s, 0, 0, _, _ => rfl
  | s, 0, g + 1, h, _ => by
    obtain rfl : s = [] := List.eq_nil_of_length_eq_zero (by omega)
    simp [readF]
  | s, f + 1, 0, _, h => by
    obtain rfl : s = [] := List.eq_nil_of_length_eq_zero (by omega)
    simp [readF]
  | s, f + 1, g + 1, h1, h2 => by
    unfold readF
    by_cases hs : s = []
    · rw [if_pos hs, if_pos hs]
    · rw [if_neg hs, if_neg hs]
      have := cutB_lt 10 s hs
      rw [readF_more (cutB 10 s).2.1 f g (by omega) (by omega)]
theorem lines_long (L : List I5) : L.length ≤ (L.flatMap lineI).length := by
  induction L with
  | nil => simp
  | cons x L ih => simp only [List.flatMap_cons, List.length_append, List.length_cons, lineI, List.length_nil]; omega
theorem readA_lines {L : List I5} (h : L.all rightI = true) : readA (L.flatMap lineI) = (L, 0) := by
  have h1 := readF_lines L 0 [] h
  rw [List.append_nil, Nat.zero_add] at h1
  have h2 := lines_long L
  unfold readA
  rw [readF_more (L.flatMap lineI) (L.flatMap lineI).length (L.flatMap lineI).length (Nat.le_refl _) (Nat.le_refl _)]
  have h3 : readF (L.flatMap lineI).length (L.flatMap lineI) = some L := by
    obtain ⟨d, hd⟩ : ∃ d, (L.flatMap lineI).length = d + L.length := ⟨(L.flatMap lineI).length - L.length, by omega⟩
    rw [hd]
    have := readF_lines L d [] h
    rw [List.append_nil] at this
    rw [this]
    cases d <;> simp [readF]
  rw [h3]

/-! rows, made and appended -/
theorem RowI.take {w : World} {A : Option Addr} {L : List I5} (h : RowI w A L) (k : Nat) : RowI w A (L.take k) where
  max := by have := h.max; rw [List.length_take]; omega
  at_ := fun hp => by
    obtain ⟨b, off, e, h2⟩ := h.at_ (by rw [List.length_take] at hp; omega)
    refine ⟨b, off, e, fun j x hj => h2 j x ?_⟩
    have hl := (List.getElem?_eq_some_iff.1 hj).1
    rw [List.length_take] at hl
    rwa [List.getElem?_take_of_lt (by omega)] at hj
theorem insts_chunk {L : List I5} {j : Nat} {x : I5} (h : L[j]? = some x) : ((insts L).drop (j * 5)).take 5 = cells5 x := by
  apply List.ext_getElem?
  intro i
  by_cases hi : i < 5
  · rw [List.getElem?_take_of_lt hi, List.getElem?_drop]
    obtain ⟨u, hu⟩ : ∃ u, (cells5 x)[i]? = some u := ⟨_, List.getElem?_eq_getElem (by simp [cells5]; exact hi)⟩
    rw [insts_at L j x i u h hu, hu]
  · rw [List.getElem?_eq_none (by rw [List.length_take]; omega), List.getElem?_eq_none (by simp [cells5]; omega)]
theorem R_of_own {w : World} {base : Nat} {v : Value} {L : List I5} (h : OwnI w base v L) : Kd.R k23 23 w base (fun _ => True) v (L.map toS) := by
  refine ⟨fun _ _ => trivial, insts L, by rw [List.length_map]; exact h, by rw [List.length_map, insts_len]; rfl, fun j p hj => ?_⟩
  rw [List.getElem?_map] at hj
  obtain ⟨x, hx, rfl⟩ := Option.map_eq_some_iff.1 hj
  have e := insts_chunk hx
  change k23.M w base (fun _ => True) (toS x) (((insts L).drop (j * 5)).take 5)
  rw [e]
  exact k23_mkM w base _ (toS x)
theorem insts_of_reps {w : World} {base : Nat} {ok : Nat → Prop} : ∀ (L : List I5) (inner : List Value), Reps (k23.M w base ok) k23.sz (L.map toS) inner → inner = insts L := by
  intro L inner h
  obtain ⟨h1, h2⟩ := h
  rw [List.length_map] at h1
  have hsz : k23.sz = 5 := rfl
  rw [hsz] at h1
  apply List.ext_getElem?
  intro i
  by_cases hi : i < L.length * 5
  · have hj : i / 5 < L.length := by omega
    have h3 := k23_openM (h2 (i / 5) (toS L[i / 5]) (by rw [List.getElem?_map, List.getElem?_eq_getElem hj]; rfl))
    rw [hsz] at h3
    have e1 := insts_chunk (List.getElem?_eq_getElem hj)
    have e3 := congrArg (fun l => l[i % 5]?) (h3.trans e1.symm)
    try dsimp only at e3
    rw [List.getElem?_take_of_lt (by omega), List.getElem?_take_of_lt (by omega), List.getElem?_drop, List.getElem?_drop, show i / 5 * 5 + i % 5 = i from by omega] at e3
    exact e3
  · rw [List.getElem?_eq_none (by omega), List.getElem?_eq_none (by rw [insts_len]; omega)]
theorem own_of_R {w : World} {base : Nat} {ok : Nat → Prop} {v : Value} {L : List I5} (h : Kd.R k23 23 w base ok v (L.map toS)) : OwnI w base v L := by
  obtain ⟨_, inner, h2, h3⟩ := h
  obtain rfl := insts_of_reps L inner h3
  rw [List.length_map] at h2
  exact h2
theorem own_new (w : World) : OwnI (w.alloc (.cells #[] 23)) w.heap.size (.slice (some ⟨w.heap.size, 0, none⟩) 0 0) [] :=
  ⟨rfl, .inr ⟨w.heap.size, 0, #[], rfl, Nat.le_refl _, heap_alloc_new w _, Nat.le_refl _, Nat.zero_le _, rfl, rfl⟩⟩
theorem append_insts {P : Program} {ops : Array Oper} {rest : List Oper} {o : Oper} {a : Act} {Q : Exit → Act → World → Prop} {w0 W : World} (base : Nat) (hgd : o.guard = none) (s x : Operand)
    (ho : o.op = .call { callee := .builtin .append, args := #[s, x], argTypes := #[36, 36] }) (hP : P = Tryd.prog)
    (v : Value) (L M : List I5) (A : Option Addr) (m c : Nat) (hs : a.eval s = v) (hx : a.eval x = .slice A m c) (HO : OwnI W base v L) (hm : M.length = m) (HR : RowI W A M) (HB : Below base w0 W) (hbase : base ≤ W.heap.size) (hl : L.length + m ≤ 1000000)
    (h : ∀ v1 w1, OwnI w1 base v1 (L ++ M) → Below base w0 w1 → W.grownBy w1 v.ownBlock → wpList P ops Q rest (a.put o.dst v1) w1) : wpList P ops Q (o :: rest) a W := by
  subst hP
  refine Kd.R_append_rows k23 (Rr := k23.K W) (w0 := w0) base hgd s x 36 23 _ 40 ho Tryd.underlying36 infoInst rfl (by decide) (by decide) v (L.map toS) (M.map toS) A m c (fun _ => True) (fun _ => False) hs hx (R_of_own HO)
    (by subst hm; exact kC_of_row HR) (fun p cs hp => ?_) (fun _ h => h.elim) (fun _ _ => trivial) HB hbase (by rw [List.length_map]; omega) (fun v1 w1 h1 h2 h3 _ => ?_)
  · obtain rfl := k23_open hp
    exact k23_mkM W base _ p
  · rw [← List.map_append] at h1
    exact h v1 w1 (own_of_R h1) h2 h3
end Go.Proofs.YtdgkbigmdadlaaaDoor
