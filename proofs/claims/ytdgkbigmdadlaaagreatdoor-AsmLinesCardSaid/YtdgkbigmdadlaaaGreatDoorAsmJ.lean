import Derived.Test.YtdgkbigmdadlaaaGreatDoorAsmI
import Derived.Test.YtdgkbigmdadlaaaGreatDoorRefS
namespace Go.Proofs.YtdgkbigmdadlaaaGreatDoor
open Go.RowKit Go.Lib Go.Proofs.YtdgkbigmdadlaaaGreatDoorW.PrintWords Go.Proofs.YtdgkbigmdadlaaaGreatDoorW.PrintLast
set_option linter.unusedVariables false
set_option linter.unusedSimpArgs false

def cells5 (x : I5) : List Value := [.int .i64 x.op, .int .i64 x.rd, .int .i64 x.a, .int .i64 x.b, .int .i64 x.n]
def insts (L : List I5) : List Value := L.flatMap cells5
/-- A row of instructions of one's own. -/
def OwnI (w : World) (base : Nat) (v : Value) (L : List I5) : Prop := w.ownsRow base 23 5 v L.length (insts L)
theorem insts_snoc (L : List I5) (x : I5) : insts (L ++ [x]) = insts L ++ cells5 x := by unfold insts; simp
theorem insts_len (L : List I5) : (insts L).length = L.length * 5 := by
  unfold insts
  induction L with
  | nil => rfl
  | cons x L ih => simp only [List.flatMap_cons, List.length_append, ih, List.length_cons]; simp [cells5]; omega
theorem insts_at : ∀ (L : List I5) (j : Nat) (x : I5) (i : Nat) (u : Value), L[j]? = some x → (cells5 x)[i]? = some u → (insts L)[j * 5 + i]? = some u
  | [], j, x, i, u, h, _ => by simp at h
  | y :: L, 0, x, i, u, h, hu => by
    simp at h
    subst h
    have hi := (List.getElem?_eq_some_iff.1 hu).1
    unfold insts
    rw [List.flatMap_cons, Nat.zero_mul, Nat.zero_add, List.getElem?_append_left hi]
    exact hu
  | y :: L, j + 1, x, i, u, h, hu => by
    have := insts_at L j x i u (by simpa using h) hu
    unfold insts
    rw [List.flatMap_cons, List.getElem?_append_right (by simp [cells5]; omega)]
    have e : (j + 1) * 5 + i - (cells5 y).length = j * 5 + i := by simp [cells5]; omega
    rw [e]
    exact this
theorem OwnI.reads {w : World} {base : Nat} {v : Value} {L : List I5} (h : OwnI w base v L) : ∃ A c, v = .slice A L.length c ∧ L.length ≤ c ∧ RowI w A L := by
  rcases h.2 with ⟨rfl, h0⟩ | ⟨g, cap, cur, rfl, _, _, h3, h4, _⟩
  · have : L = [] := List.eq_nil_of_length_eq_zero h0
    subst this
    exact ⟨none, 0, rfl, Nat.le_refl _, ⟨by simp, fun hp => absurd hp (by simp)⟩⟩
  · refine ⟨_, cap, rfl, h3, ⟨?_, fun hp => ⟨g, 0, rfl, fun j x hj => ?_⟩⟩⟩
    · unfold maxLen at h4; omega
    · have hc := fun i u hu => h.cells (g := g) rfl (j * 5 + i) u (insts_at L j x i u hj hu)
      have e : ∀ (i : Nat) (u : Value), (cells5 x)[i]? = some u → w.cell? ⟨g, j * 5 + i, none⟩ = some u := fun i u hu => by
        have := hc i u hu
        rw [Go.Proofs.YtdgkbigmdadlaaaGreatDoorW.PrintWords.add_plain] at this
        exact this
      simp only [Nat.zero_add]
      exact ⟨e 0 _ rfl, e 1 _ rfl, e 2 _ rfl, e 3 _ rfl, e 4 _ rfl⟩
theorem OwnI.below {w w' : World} {base : Nat} {v : Value} {L : List I5} (h : OwnI w base v L) (hb : Below w.heap.size w w') : OwnI w' base v L := pw_own_below h hb
theorem OwnI.nil (w : World) (base : Nat) : OwnI w base (.slice none 0 0) [] := own_nil _ _ _ _
/-- The instructions of lines. -/
def readF : Nat → List UInt8 → Option (List I5)
  | 0, s => if s = [] then some [] else none
  | f + 1, s => if s = [] then some [] else if (cutB 10 s).2.2 = true ∧ (parseA (cutB 10 s).1).2 = 0 then (readF f (cutB 10 s).2.1).map ((parseA (cutB 10 s).1).1 :: ·) else none
/-- asm.Read -/
def readA (s : List UInt8) : List I5 × Int := match readF s.length s with
  | some L => (L, 0)
  | none => ([], 50)
theorem infoInst : (Tryz.prog.info? 23).map (fun i => (i.zero, i.size, i.bytes)) = some (some (.agg #[.int .i64 0, .int .i64 0, .int .i64 0, .int .i64 0, .int .i64 0]), 5, 40) := by kernel_rfl

set_option maxHeartbeats 4000000 in
set_option maxRecDepth 100000 in
theorem Read_any (s : List UInt8) (hl : s.length ≤ 100000) (w : World) (hL : Laid w) :
    Calls Tryz.prog 10 #[.string (bytesB s)] w fun e w' => ∃ v, e = .returned (.tuple #[v, .int .i64 (readA s).2]) ∧ OwnI w' w.heap.size v (readA s).1 ∧ Below w.heap.size w w' := by
  have HL := Aside0.mk hL
  clear hL
  go_enter Tryz.func10, Tryz.ntmps10
  go_wp2_with fail
  go_loopg [0, 4] s.length (fun gg s0 s4 wr => ∃ (R : List UInt8) (L : List I5), R.length ≤ gg ∧ R.length ≤ 100000 ∧ L.length + R.length ≤ 100000 ∧ s0 = .string (bytesB R) ∧ Aside0 (∃ f, R.length ≤ f ∧ readF s.length s = (readF f R).map (L ++ ·)) ∧ Aside0 (OwnI wr w.heap.size s4 L) ∧ Aside0 (Below w.heap.size w wr))
  case atStart => exact ⟨s, [], Nat.le_refl _, hl, by simpa using hl, rfl, ⟨s.length, Nat.le_refl _, by simp⟩, ⟨OwnI.nil _ _⟩, ⟨Below.refl _ _⟩⟩
  case round =>
    obtain ⟨R, L, h1, h2, h3, rfl, HF, HO, HX⟩ := hrel
    by_cases hR : R = []
    · subst hR
      have hE : (bytesB []).toList.isEmpty = true := by simp [bytesB]
      have hE2 : (bytesB []).toList = [] := by simp [bytesB]
      have HD : Aside0 (readA s = (L, 0)) := ⟨by
        obtain ⟨f, _, he⟩ := HF.out
        unfold readA
        rw [he]
        cases f <;> simp [readF]⟩
      clear HF
      go_wp2_with fail
      go_ret2
      rw [HD.out]
      exact ⟨_, rfl, HO.out, HX.out⟩
    · have hE : (bytesB R).toList.isEmpty = false := by simp [bytesB, hR]
      have hcl := cutB_lt 10 R hR
      have hcl2 := cutB_len 10 R
      have HF2 : Aside0 (∃ f, R.length ≤ f + 1 ∧ readF s.length s = (if (cutB 10 R).2.2 = true ∧ (parseA (cutB 10 R).1).2 = 0 then (readF f (cutB 10 R).2.1).map ((parseA (cutB 10 R).1).1 :: ·) else none).map (L ++ ·)) := ⟨by
        obtain ⟨f, hf, he⟩ := HF.out
        cases f with
        | zero => exact absurd (List.eq_nil_of_length_eq_zero (by omega)) hR
        | succ f => refine ⟨f, hf, ?_⟩; rw [he]; conv => lhs; unfold readF; rw [if_neg hR]⟩
      have HCt := Aside0.mk (fun (W : World) hL => Cut_any 10 R (by omega) W hL)
      generalize cutB 10 R = p at *
      obtain ⟨row, rest, found⟩ := p
      simp only at *
      have HP := Aside0.mk (fun (W : World) hL => Parse_any row (by omega) W hL)
      generalize parseA row = px at *
      obtain ⟨x, er⟩ := px
      simp only at *
      clear HF
      go_wp2_with fail
      refine (HCt.out wr (HL.out.below HX.out)).mono ?_
      rintro e w1 ⟨rfl, hb⟩
      have HX1 := Aside0.mk (below_after HX.out hb (Nat.le_refl _))
      have HO1 := Aside0.mk (HO.out.below hb)
      clear hb HX HO HCt
      go_wp2_with fail
      refine (HP.out w1 (HL.out.below HX1.out)).mono ?_
      rintro e w2 ⟨rfl, hb⟩
      have HX2 := Aside0.mk (below_after (below_after HX1.out hb (Nat.le_refl _)) (bel1 w2 (.cells (cells5 x).toArray 23)) (Nat.le_refl _))
      have HO2 := Aside0.mk ((HO1.out.below hb).below (bel1 w2 (.cells (cells5 x).toArray 23)))
      have c0 := cell_new w2 (cells5 x).toArray 23 0
      have c1 := cell_new w2 (cells5 x).toArray 23 1
      have c2 := cell_new w2 (cells5 x).toArray 23 2
      have c3 := cell_new w2 (cells5 x).toArray 23 3
      have c4 := cell_new w2 (cells5 x).toArray 23 4
      clear hb HX1 HO1 HP
      by_cases hg : found = true ∧ er = 0
      · obtain ⟨rfl, rfl⟩ := hg
        have HF3 : Aside0 (∃ f, rest.length ≤ f ∧ readF s.length s = (readF f rest).map ((L ++ [x]) ++ ·)) := ⟨by
          obtain ⟨f, hf, he⟩ := HF2.out
          refine ⟨f, by omega, ?_⟩
          rw [he, if_pos ⟨rfl, rfl⟩, Option.map_map]
          congr 1
          funext l
          simp⟩
        clear HF2
        go_wp2_with (at_builtin; refine print_append_cells (w0 := w) w.heap.size rfl (.tmp 29) (.tmp 31) 29 23 _ 5 40 rfl Tryz.underlying29 infoInst rfl (by decide) (by decide) u4 L.length (insts L) (cells5 x) rfl (by show Value.slice (some ⟨w2.heap.size + 1, 0, none⟩) 1 1 = _; simp) rfl (by simp [cells5, Value.oneCell']) ?aO ?aB ?aS ?aL ?_)
        case aO => exact HO2.out
        case aB => exact HX2.out
        case aS => exact HX2.out.size
        case aL => omega
        intro v1 w3 hown hb hg _
        have HO3 : Aside0 (OwnI w3 w.heap.size v1 (L ++ [x])) := ⟨by
          unfold OwnI
          rw [insts_snoc, List.length_append]
          exact hown⟩
        have HX3 := Aside0.mk hb
        clear hown hb hg HO2 HX2 c0 c1 c2 c3 c4
        go_wp2
        go_roundg rest.length
        case measure => omega
        case rel => exact ⟨rest, L ++ [x], Nat.le_refl _, by omega, by simp; omega, rfl, HF3, HO3, HX3⟩
      · have HN : Aside0 (readA s = ([], 50)) := ⟨by
          obtain ⟨f, _, he⟩ := HF2.out
          unfold readA
          rw [he, if_neg hg]
          rfl⟩
        have hbb : (found = false) ∨ (found = true ∧ (er == 0) = false ∧ (er != 0) = true) := by
          cases found
          · exact .inl rfl
          · refine .inr ⟨rfl, ?_, ?_⟩
            · simpa using (fun e => hg ⟨rfl, e⟩)
            · simpa using (fun e => hg ⟨rfl, e⟩)
        clear hg HF2
        rcases hbb with rfl | ⟨rfl, q1, q2⟩
        · go_wp2_with fail
          go_ret2
          rw [HN.out]
          exact ⟨_, rfl, OwnI.nil _ _, HX2.out⟩
        · go_wp2_with fail
          go_ret2
          rw [HN.out]
          exact ⟨_, rfl, OwnI.nil _ _, HX2.out⟩
end Go.Proofs.YtdgkbigmdadlaaaGreatDoor
