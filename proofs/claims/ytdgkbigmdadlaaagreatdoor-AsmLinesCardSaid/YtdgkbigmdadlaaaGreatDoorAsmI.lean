import Derived.Test.YtdgkbigmdadlaaaGreatDoorAsmH
namespace Go.Proofs.YtdgkbigmdadlaaaGreatDoor
open Go.RowKit Go.Lib Go.Proofs.YtdgkbigmdadlaaaGreatDoorW.PrintWords Go.Proofs.YtdgkbigmdadlaaaGreatDoorW.PrintLast
set_option linter.unusedVariables false
set_option linter.unusedSimpArgs false

/-- Instructions that are read. -/
structure RowI (w : World) (A : Option Addr) (L : List I5) : Prop where
  max : L.length ≤ 9223372036854775807
  at_ : 0 < L.length → ∃ b off, A = some ⟨b, off, none⟩ ∧ ∀ (j : Nat) x, L[j]? = some x → w.cell? ⟨b, off + j * 5, none⟩ = some (.int .i64 x.op) ∧ w.cell? ⟨b, off + j * 5 + 1, none⟩ = some (.int .i64 x.rd) ∧
    w.cell? ⟨b, off + j * 5 + 2, none⟩ = some (.int .i64 x.a) ∧ w.cell? ⟨b, off + j * 5 + 3, none⟩ = some (.int .i64 x.b) ∧ w.cell? ⟨b, off + j * 5 + 4, none⟩ = some (.int .i64 x.n)
theorem RowI.below {w w' : World} {A : Option Addr} {L : List I5} (h : RowI w A L) (hb : Below w.heap.size w w') : RowI w' A L where
  max := h.max
  at_ := fun hp => by
    obtain ⟨b, off, e, h2⟩ := h.at_ hp
    refine ⟨b, off, e, fun j x hj => ?_⟩
    obtain ⟨a0, a1, a2, a3, a4⟩ := h2 j x hj
    exact ⟨pw_cell_below hb a0, pw_cell_below hb a1, pw_cell_below hb a2, pw_cell_below hb a3, pw_cell_below hb a4⟩
def lineI (x : I5) : List UInt8 := textI x ++ [10]
/-- asm.Lines -/
def linesT (L : List I5) : List UInt8 := if L.all rightI then L.flatMap lineI else []
def linesE (L : List I5) : Int := if L.all rightI then 0 else 20
theorem textI_len {x : I5} (h : rightI x = true) : (textI x).length ≤ 165 := by
  obtain ⟨hf0, h1, h2, h3, h4⟩ := right_parts h
  have hop := form_in hf0
  have r1 := regOk_range h1
  have r2 := regOk_range h2
  have r3 := regOk_range h3
  have r4 := numOk_range h4
  have l0 := (name_in hop).2.2.2
  have l1 := regL_len x.rd (by omega)
  have l2 := regL_len x.a (by omega)
  have l3 := regL_len x.b (by omega)
  have l4 := itoa_len x.n (by omega)
  have l5 := atL_len x.n x.a (by omega) (by omega)
  have two_ := fun (a b : List UInt8) => @two_len a b
  have three_ := fun (a b c : List UInt8) => @three_len a b c
  unfold textI
  split
  · omega
  · have : (restL x).length ≤ 154 := by
      unfold restL
      repeat' split
      · have := two_ (regL x.rd) (Lib.itoa x.n) (by omega) (by omega); omega
      · exact three_ _ _ _ (by omega) (by omega) (by omega)
      · exact three_ _ _ _ (by omega) (by omega) (by omega)
      · have := two_ (regL x.b) (atL x.n x.a) (by omega) (by omega); omega
      · have := two_ (regL x.rd) (atL x.n x.a) (by omega) (by omega); omega
      · exact three_ _ _ _ (by omega) (by omega) (by omega)
    simp only [List.length_append, List.length_cons]
    omega
theorem lines_len : ∀ (L : List I5), L.all rightI = true → (L.flatMap lineI).length ≤ 166 * L.length
  | [], _ => by simp
  | x :: L, h => by
    rw [List.all_cons, Bool.and_eq_true] at h
    have h1 := textI_len h.1
    have h2 := lines_len L h.2
    simp only [List.flatMap_cons, List.length_append, lineI, List.length_cons, List.length_nil]
    omega
theorem strCells_app (a b : ByteArray) : Lib.strCells (a ++ b) = Lib.strCells a ++ Lib.strCells b := by
  rw [Lib.strCells_eq, Lib.strCells_eq, Lib.strCells_eq, ← Lib.byteCells_append]
  simp
theorem strCells_line (acc t : List UInt8) : Lib.byteCells acc ++ Lib.strCells (bytesB t ++ (⟨#[10]⟩ : ByteArray)) = Lib.byteCells (acc ++ (t ++ [10])) := by
  rw [Lib.byteCells_append, Lib.byteCells_append, strCells_app]
  rfl
theorem builder_below {T e : TypeId} {B b : Nat} {p : Value} {bs : List Value} {w w' : World} (h : Lib.BuilderAt T e B b p bs w) (hb : Below w.heap.size w w') : Lib.BuilderAt T e B b p bs w' := by
  obtain ⟨h1, v, h2, h3, h4⟩ := h
  exact ⟨h1, v, below_blk h2 hb, pw_own_below h3 hb, h4⟩
theorem isBuilder_below {T e : TypeId} {B b : Nat} {bs : List Value} {w w' : World} (h : Lib.IsBuilder T e B b bs w) (hb : Below w.heap.size w w') : Lib.IsBuilder T e B b bs w' :=
  h.imp (fun h => builder_below h hb) (fun h => builder_below h hb)
theorem builder_new (B : Nat) (w : World) (hB : B ≤ w.heap.size) (T e : TypeId) : Lib.IsBuilder T e B w.heap.size [] (w.alloc (.cells #[.pointer none, .slice none 0 0] T)) :=
  .inl ⟨hB, .slice none 0 0, heap_alloc_new w _, own_nil _ _ _ _, by simp [Value.ownBlock]⟩
theorem take_all {L : List I5} {k : Nat} {x : I5} (hx : L[k]? = some x) (h : (L.take k).all rightI = true) (hr : rightI x = true) : (L.take (k + 1)).all rightI = true ∧ (L.take (k + 1)).flatMap lineI = (L.take k).flatMap lineI ++ (textI x ++ [10]) := by
  obtain ⟨hl, e⟩ := List.getElem?_eq_some_iff.1 hx
  rw [List.take_succ_eq_append_getElem hl, e, List.all_append, List.flatMap_append, h]
  simp [hr, lineI]
theorem not_all {L : List I5} {k : Nat} {x : I5} (hx : L[k]? = some x) (hr : rightI x = false) : L.all rightI = false := by
  rw [List.all_eq_false]
  exact ⟨x, List.mem_of_getElem? hx, by simp [hr]⟩

set_option maxHeartbeats 4000000 in
set_option maxRecDepth 100000 in
theorem Lines_any (A : Option Addr) (c : Nat) (L : List I5) (hl : L.length ≤ 100000) (w : World) (hC : RowI w A L) (hL : Laid w) :
    Calls Tryz.prog 8 #[.slice A L.length c] w fun e w' => e = .returned (.tuple #[.string (bytesB (linesT L)), .int .i64 (linesE L)]) ∧ Below w.heap.size w w' := by
  have HC := Aside0.mk hC
  have HL := Aside0.mk hL
  clear hC hL
  obtain ⟨m, hm⟩ : ∃ m, L.length = m := ⟨_, rfl⟩
  have HM := Aside0.mk hm
  rw [hm] at hl ⊢
  clear hm
  go_enter Tryz.func8, Tryz.ntmps8
  go_wp2_with fail
  have HB0 : Aside0 (Lib.IsBuilder 50 5 w.heap.size w.heap.size (Lib.byteCells ((L.take 0).flatMap lineI)) (w.alloc (.cells #[.pointer none, .slice none 0 0] 50))) := ⟨builder_new _ _ (Nat.le_refl _) _ _⟩
  have HX0 := Aside0.mk (bel1 w (.cells #[.pointer none, .slice none 0 0] 50))
  go_loopg [11] m (fun gg s11 wr => ∃ kk : Nat, kk ≤ m ∧ m - kk ≤ gg ∧ s11 = .int .i64 kk ∧ Aside0 ((L.take kk).all rightI = true) ∧ Aside0 (Lib.IsBuilder 50 5 w.heap.size w.heap.size (Lib.byteCells ((L.take kk).flatMap lineI)) wr) ∧ Aside0 (Below w.heap.size w wr))
  case atStart => exact ⟨0, by omega, by omega, rfl, ⟨rfl⟩, HB0, HX0⟩
  case round =>
    clear HB0 HX0
    obtain ⟨kk, h1, h2, rfl, HA, HB, HX⟩ := hrel
    by_cases hlt : kk < m
    · have hlt2 : decide ((kk : Int) < (m : Int)) = true := by simpa using hlt
      obtain ⟨b, off, rfl, hcs⟩ := HC.out.at_ (by have := HM.out; omega)
      obtain ⟨x, hx⟩ : ∃ x, L[kk]? = some x := ⟨_, List.getElem?_eq_getElem (by have := HM.out; omega)⟩
      obtain ⟨a0, a1, a2, a3, a4⟩ := hcs kk x hx
      replace a0 := pw_cell_below HX.out a0
      replace a1 := pw_cell_below HX.out a1
      replace a2 := pw_cell_below HX.out a2
      replace a3 := pw_cell_below HX.out a3
      replace a4 := pw_cell_below HX.out a4
      have HXk := Aside0.mk hx
      clear hcs hx
      have HP := Aside0.mk (fun (W : World) hL => Print_any x W hL)
      have HXa := Aside0.mk (below_after HX.out (bel1 wr (.cells #[.int .i64 x.op, .int .i64 x.rd, .int .i64 x.a, .int .i64 x.b, .int .i64 x.n] 23)) (Nat.le_refl _))
      have HBa := Aside0.mk (isBuilder_below HB.out (bel1 wr (.cells #[.int .i64 x.op, .int .i64 x.rd, .int .i64 x.a, .int .i64 x.b, .int .i64 x.n] 23)))
      have HPP := Aside0.mk (HP.out _ (HL.out.below HXa.out))
      clear HP HB HX
      cases hr : rightI x with
      | true =>
        have hTl := textI_len hr
        have HT := Aside0.mk (take_all HXk.out HA.out hr)
        have hal := lines_len (L.take kk) HA.out
        rw [List.length_take] at hal
        unfold printT printE at HPP
        rw [hr] at HPP
        simp only [if_true] at HPP
        clear hr HXk
        generalize (L.take kk).flatMap lineI = acc at *
        generalize textI x = tx at *
        have hs : (bytesB tx).size ≤ 165 := by rw [bytesB_size]; exact hTl
        have hf : (9223372036854775807 < (bytesB tx).size + 1) = False := eq_false (by omega)
        go_wp2_with fail
        refine HPP.out.mono ?_
        clear HPP
        rintro e w2 ⟨rfl, hb⟩
        have HX2 := Aside0.mk (below_after HXa.out hb (Nat.le_refl _))
        have HB2 := Aside0.mk (isBuilder_below HBa.out hb)
        clear hb HXa HBa a0 a1 a2 a3 a4
        have hlen : (Lib.byteCells acc).length + (bytesB tx ++ (⟨#[10]⟩ : ByteArray)).size ≤ 140737488355328 := by
          have e1 : (bytesB tx ++ (⟨#[10]⟩ : ByteArray)).size = tx.length + 1 := by rw [show bytesB tx ++ (⟨#[10]⟩ : ByteArray) = bytesB (tx ++ [10]) from bytesB_app tx [10], bytesB_size]; simp
          rw [e1]
          simp only [Lib.byteCells, List.length_map]
          omega
        have HW := Aside0.mk (Tryz.Builder_WriteString w.heap.size w.heap.size (Lib.byteCells acc) (bytesB tx ++ (⟨#[10]⟩ : ByteArray)) w2 HB2.out hlen HX2.out.size)
        have HCL := Aside0.mk (strCells_line acc tx)
        clear hlen hal
        go_wp2_with fail
        refine HW.out.mono ?_
        clear HW
        rintro e w3 ⟨rfl, hbu, hb⟩
        rw [HCL.out] at hbu
        have HX3 := Aside0.mk (HX2.out.trans hb)
        have HB3 : Aside0 (Lib.IsBuilder 50 5 w.heap.size w.heap.size (Lib.byteCells ((L.take (kk + 1)).flatMap lineI)) w3) := ⟨by rw [HT.out.2]; exact .inr hbu⟩
        have HA3 := Aside0.mk HT.out.1
        clear hbu hb HB2 HX2 HCL HT HA
        go_wp2_with fail
        go_roundg (m - kk - 1)
        case measure => omega
        case rel => exact ⟨kk + 1, by omega, by omega, by go_num, HA3, HB3, HX3⟩
      | false =>
        have HN := Aside0.mk (not_all HXk.out hr)
        unfold printT printE at HPP
        rw [hr] at HPP
        simp only [Bool.false_eq_true, if_false] at HPP
        clear hr HXk HA HBa
        go_wp2_with fail
        refine HPP.out.mono ?_
        clear HPP
        rintro e w2 ⟨rfl, hb⟩
        have hfin := below_after HXa.out hb (Nat.le_refl _)
        clear hb HXa a0 a1 a2 a3 a4
        go_wp2_with fail
        go_ret2
        unfold linesT linesE
        rw [HN.out]
        exact ⟨rfl, hfin⟩
    · have hlt2 : decide ((kk : Int) < (m : Int)) = false := by simpa using hlt
      obtain rfl : kk = m := by omega
      have HF : Aside0 (L.take kk = L) := ⟨List.take_of_length_le (by have := HM.out; omega)⟩
      rw [HF.out] at HA HB
      have HS := Aside0.mk (Tryz.Builder_String_any w.heap.size w.heap.size (L.flatMap lineI) wr HB.out HX.out.size)
      go_wp2_with fail
      refine HS.out.mono ?_
      rintro e w2 ⟨rfl, hb⟩
      have hfin := HX.out.trans hb
      go_wp2_with fail
      go_ret2
      unfold linesT linesE
      rw [HA.out]
      exact ⟨rfl, hfin⟩
end Go.Proofs.YtdgkbigmdadlaaaGreatDoor
