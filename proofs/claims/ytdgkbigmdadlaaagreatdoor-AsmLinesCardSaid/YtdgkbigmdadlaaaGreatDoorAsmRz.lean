import Derived.Test.YtdgkbigmdadlaaaGreatDoorAsmI
import Derived.Test.YtdgkbigmdadlaaaGreatDoorCards
import Derived.Test.YtdgkbigmdadlaaaGreatDoorTie
import Derived.WalkKit
import Derived.ProofKit
import Derived.OpenShut
import Derived.Carry
import Derived.LaidMore
import Derived.Lay
import Derived.Lib.SmallJoins
import Derived.Lib.LaidU8
import Derived.Deep.Fields
import Derived.Deep.DeepHandedRow
import Derived.Deep.DeepWitnessRowRef
import Derived.Lib.LaidTab
import Derived.Shelf.Vars
namespace Go.Proofs.YtdgkbigmdadlaaaGreatDoor
open Go.ChangeShapes Go.WideShapes Go.ChangeAt Go.RowKit Go.Shelf Go.Proofs.YtdgkbigmdadlaaaGreatDoorW.PrintWords Go.Proofs.YtdgkbigmdadlaaaGreatDoorW.PrintLast
set_option linter.unusedVariables false
set_option linter.unusedSimpArgs false
set_option linter.constructorNameAsVariable false
set_option maxRecDepth 100000

theorem own : ownKnob Tryz.prog.godebug = none := by kernel_rfl
theorem laidOut : laidOutB Tryz.prog = true := by kernel_rfl

/-! What the rows' list gives. -/
theorem tab_of_reads {P : Program} {w : World} {name : String} {g t e n : Nat} {k : IntKind} {zs : List Int} (hn : P.globalNamed name = some g) (hy : (P.globals[g]?).map (·.type) = some t) (ht : P.underlying t = some (.array n e)) (he : P.underlying e = some (.int k))
    (hce : P.cellsOf e = 1) (hct : P.cellsOf t = n) (h : Lib.VarReads P w name (Lib.tabData k zs)) : Lib.TabIs P w name k zs := by
  obtain ⟨g', t', cs, fuel, p, hg, hty, hvar, hd⟩ := h
  obtain rfl := Option.some.inj (hn.symm.trans hg)
  obtain rfl := Option.some.inj (hy.symm.trans hty)
  unfold Lib.TabIs
  rw [hvar, ← Lib.cells_of_tab ht he hce hct hd]
theorem iface_of_reads {P : Program} {w : World} {name nm : String} {g t : Nat} {ms : Array (String × TypeId)} {d : DataW Unit} (hn : P.globalNamed name = some g) (hy : (P.globals[g]?).map (·.type) = some t) (ht : P.underlying t = some (.interface ms))
    (h : Lib.VarReads P w name (.iface nm d)) : ∃ u v, w.cell? ⟨g, 0, none⟩ = some (.iface u v) := by
  obtain ⟨g', t', cs, fuel, p, hg, hty, hvar, hd⟩ := h
  obtain rfl := Option.some.inj (hn.symm.trans hg)
  obtain rfl := Option.some.inj (hy.symm.trans hty)
  have hc := World.var?_cell hn hvar 0
  cases fuel with
  | zero => simp [DataW.trod] at hd
  | succ fuel =>
    simp only [DataW.trod, ht] at hd
    split at hd <;> simp_all
    · cases cs; simp_all
set_option maxRecDepth 100000 in
theorem laid_of {W : World} (h : laidMet Tryz.prog Rows.asmParsesRow.laid W) (hsh : W.ShapedOpen Tryz.prog) : Laid W where
  pow := tab_of_reads gPow (t := 123) (by kernel_rfl) Tryz.underlying123 Tryz.underlying107 (by kernel_rfl) (by kernel_rfl) (Lib.laidMet.reads h (.tail _ (.tail _ (.head _))))
  maxl := cell_of_shapedOpen_int (zero := #[.int .i64 0]) hsh (of_decide_eq_true (by kernel_rfl)) (by kernel_rfl) (by kernel_rfl) (by kernel_rfl) (by kernel_rfl) Tryz.underlying3
  syn := iface_of_reads (t := 52) (by kernel_rfl) (by kernel_rfl) Tryz.underlying52 (Lib.laidMet.reads h (.tail _ (.tail _ (.tail _ (.tail _ (.tail _ (.head _)))))))
  rng := iface_of_reads (t := 52) (by kernel_rfl) (by kernel_rfl) Tryz.underlying52 (Lib.laidMet.reads h (.tail _ (.tail _ (.tail _ (.tail _ (.head _))))))

/-! The arguments, opened. -/
section
variable {H : Type} {enc : TypeId × Value → H} {W : World} {base : Nat}
theorem lit_range {n : Int} (h : (Lit.int .i64 n).wf = true) : -9223372036854775808 ≤ n ∧ n ≤ 9223372036854775807 := by
  simp [Lit.wf, IntKind.wrap, IntKind.bits, IntKind.signed, IntKind.min, IntKind.max] at h
  omega
theorem openStr {v : Value} {d : DataW H} {p : List MemPlace} (hv : Value.okWide Tryz.prog W .any base 9 v) (h : DataW.Trod enc Tryz.prog W 0 (fun _ => true) true 9 v d p) :
    ∃ s, v = .string (bytesB s) ∧ s.length ≤ maxLen := by
  obtain ⟨s, rfl, _, _, hs⟩ := ChangeMaps.open_string Tryz.underlying9 hv h
  exact ⟨s.data.toList, by simp [bytesB], by rw [← Lib.size_eq]; exact hs⟩
theorem int_cell {n : Nat} {v : Value} {y : DataW H × List MemPlace} (h : DataW.trod enc Tryz.prog W 0 (fun _ => true) true n 3 [v] = some y) : ∃ z, v = .int .i64 z ∧ -9223372036854775808 ≤ z ∧ z ≤ 9223372036854775807 := by
  obtain ⟨z, e, _, hw⟩ := DataW.trod_int Tryz.underlying3 h
  simp at e
  exact ⟨z, e, lit_range hw⟩
theorem openInt {v : Value} {d : DataW H} {p : List MemPlace} (hv : Value.okWide Tryz.prog W .any base 3 v) (h : DataW.Trod enc Tryz.prog W 0 (fun _ => true) true 3 v d p) :
    ∃ z, v = .int .i64 z ∧ -9223372036854775808 ≤ z ∧ z ≤ 9223372036854775807 := by
  obtain ⟨k, h⟩ := h
  obtain ⟨z, e, _, hw⟩ := DataW.trod_int Tryz.underlying3 h
  obtain ⟨z0, rfl⟩ : ∃ z0, v = .int .i64 z0 := okWide_int Tryz.underlying3 hv
  simp [Value.cells] at e
  subst e
  exact ⟨_, rfl, lit_range hw⟩
theorem inst_fields {n : Nat} {cs : List Value} {x : DataW H × List MemPlace} (h : DataW.trod enc Tryz.prog W 0 (fun _ => true) true n 23 cs = some x) :
    ∃ op rd a b n : Int, cs = [.int .i64 op, .int .i64 rd, .int .i64 a, .int .i64 b, .int .i64 n] := by
  obtain ⟨ys, m, _, _, hl, hys, hf⟩ := DataW.trod_struct Tryz.underlying23 h
  have h5 : cs.length = 5 := hl.trans (by kernel_rfl)
  match cs, h5 with
  | [c0, c1, c2, c3, c4], _ =>
    have g0 := hf 0 _ rfl
    have g1 := hf 1 _ rfl
    have g2 := hf 2 _ rfl
    have g3 := hf 3 _ rfl
    have g4 := hf 4 _ rfl
    change DataW.trod enc Tryz.prog W 0 (fun _ => true) true m 3 [c0] = _ at g0
    change DataW.trod enc Tryz.prog W 0 (fun _ => true) true m 3 [c1] = _ at g1
    change DataW.trod enc Tryz.prog W 0 (fun _ => true) true m 3 [c2] = _ at g2
    change DataW.trod enc Tryz.prog W 0 (fun _ => true) true m 3 [c3] = _ at g3
    change DataW.trod enc Tryz.prog W 0 (fun _ => true) true m 3 [c4] = _ at g4
    have gg : ∀ (c : Value) (y : Option (DataW H × List MemPlace)) (j : Nat), DataW.trod enc Tryz.prog W 0 (fun _ => true) true m 3 [c] = ys[j]? → j < ys.length → ∃ z, c = .int .i64 z := fun c y j hg hj => by
      rw [List.getElem?_eq_getElem hj] at hg
      obtain ⟨z, e, _⟩ := int_cell hg
      exact ⟨z, e⟩
    have hy5 : ys.length = 5 := by simpa using hys
    obtain ⟨z0, rfl⟩ := gg c0 none 0 g0 (by omega)
    obtain ⟨z1, rfl⟩ := gg c1 none 1 g1 (by omega)
    obtain ⟨z2, rfl⟩ := gg c2 none 2 g2 (by omega)
    obtain ⟨z3, rfl⟩ := gg c3 none 3 g3 (by omega)
    obtain ⟨z4, rfl⟩ := gg c4 none 4 g4 (by omega)
    exact ⟨z0, z1, z2, z3, z4, rfl⟩
theorem openInst {v : Value} {d : DataW H} {p : List MemPlace} (hv : Value.okWide Tryz.prog W .any base 23 v) (h : DataW.Trod enc Tryz.prog W 0 (fun _ => true) true 23 v d p) :
    ∃ x : I5, v = .agg #[.int .i64 x.op, .int .i64 x.rd, .int .i64 x.a, .int .i64 x.b, .int .i64 x.n] := by
  obtain ⟨cs, rfl, hsz⟩ := okWide_struct Tryz.underlying23 hv
  obtain ⟨k, h⟩ := h
  obtain ⟨op, rd, a, b, n, e⟩ := inst_fields h
  refine ⟨⟨op, rd, a, b, n⟩, ?_⟩
  have e2 : cs.toList = _ := e
  rw [show cs = cs.toList.toArray from rfl, e2]
theorem openInsts {v : Value} {d : DataW H} {p : List MemPlace} (hv : Value.okWide Tryz.prog W .any base 29 v) (h : DataW.Trod enc Tryz.prog W 0 (fun _ => true) true 29 v d p) :
    ∃ A c L, v = .slice A L.length c ∧ RowI W A L ∧ L.length ≤ c := by
  obtain ⟨a0, len, cap, rfl⟩ := okWide_slice Tryz.underlying29 hv
  obtain ⟨fuel, hf⟩ := h
  rcases Deep.open_slice Tryz.underlying29 hf with ⟨hcs, hx⟩ | ⟨a, len', cap', m, n, D, Pl, hcs, _, hl, hm, hmm, hx, hel⟩
  · simp [Value.cells] at hcs
    obtain ⟨rfl, rfl, rfl⟩ := hcs
    exact ⟨none, 0, [], rfl, ⟨by simp, fun h => by simp at h⟩, Nat.le_refl _⟩
  · simp [Value.cells] at hcs
    obtain ⟨rfl, rfl, rfl⟩ := hcs
    simp only [if_true] at hmm
    subst hmm
    have five : Tryz.prog.cellsOf 23 = 5 := by kernel_rfl
    rw [five] at hel
    have hI : ∀ i, ∃ x : I5, i < len → ∀ q, q < 5 → W.cell? ((a.add (i * 5)).add q) = [Value.int .i64 x.op, .int .i64 x.rd, .int .i64 x.a, .int .i64 x.b, .int .i64 x.n][q]? := fun i => by
      rcases Nat.lt_or_ge i len with hi | hi
      · obtain ⟨cs, hc, ht⟩ := hel i (by omega)
        obtain ⟨op, rd, a', b, n', rfl⟩ := inst_fields ht
        exact ⟨⟨op, rd, a', b, n'⟩, fun _ => (World.cells?_some hc).2.2⟩
      · exact ⟨⟨0, 0, 0, 0, 0⟩, fun h => by omega⟩
    obtain ⟨X, hX⟩ : ∃ X : Nat → I5, ∀ i, i < len → ∀ q, q < 5 → W.cell? ((a.add (i * 5)).add q) = [Value.int .i64 (X i).op, .int .i64 (X i).rd, .int .i64 (X i).a, .int .i64 (X i).b, .int .i64 (X i).n][q]? :=
      ⟨fun i => (hI i).choose, fun i => (hI i).choose_spec⟩
    have e : ((List.range len).map X).length = len := by simp
    refine ⟨some a, _, (List.range len).map X, by rw [e], ⟨by rw [e]; unfold maxLen at hm; omega, fun hp => ?_⟩, by rw [e]; exact hl⟩
    rw [e] at hp
    obtain ⟨b, off, spot⟩ := a
    have hspot : spot = none := by
      have h0 := hX 0 hp 0 (by omega)
      simp [Addr.add] at h0
      exact World.cell?_spot h0
    subst hspot
    refine ⟨b, off, rfl, fun j x hj => ?_⟩
    have hjl := (List.getElem?_eq_some_iff.1 hj).1
    rw [e] at hjl
    simp [hjl] at hj
    subst hj
    have hq := hX j hjl
    have hadd : ∀ q, ((⟨b, off, none⟩ : Addr).add (j * 5)).add q = ⟨b, off + j * 5 + q, none⟩ := fun q => by
      unfold Addr.add
      split <;> split <;> simp_all
    simp only [hadd] at hq
    exact ⟨hq 0 (by omega), hq 1 (by omega), hq 2 (by omega), hq 3 (by omega), hq 4 (by omega)⟩
end

/-- A law's end: true, and nothing that was there has turned. -/
theorem shut_true {H : Type} {enc : TypeId × Value → H} {W : World} : DataW.Trod enc Tryz.prog W 0 (fun _ => false) false 4 (.bool true) (.lit (.bool true)) [] := shut_bool Tryz.underlying4 _
theorem door_met (os : Os) (args : Array Value) : laidMet Tryz.prog Rows.asmParsesRow.laid ((World.laidAll Tryz.prog os Rows.asmParsesRow.laid).forCall (fun _ _ => 0) ⟨#[], args, []⟩).memory :=
  laidMet_laidAll _ (by kernel_rfl) (by kernel_rfl)
end Go.Proofs.YtdgkbigmdadlaaaGreatDoor
