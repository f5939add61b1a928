import Derived.Test.YtjifancgekoenaaGreatDoorCnfO
import Derived.Test.YtjifancgekoenaaGreatDoorCards
import Derived.Test.YtjifancgekoenaaGreatDoorTie
import Derived.WalkKit
import Derived.ProofKit
import Derived.OpenShut
import Derived.Carry
import Derived.LaidMore
import Derived.Deep.Matrix
import Derived.Deep.Grids
import Derived.Lib.SmallJoins
import Derived.Lib.LaidU8
import Derived.Deep.DeepHandedRow
import Derived.Deep.DeepWitnessRowRef
import Derived.Lib.LaidTab
import Derived.Shelf.Vars
namespace Go.Proofs.YtjifancgekoenaaGreatDoor
open Go.ChangeShapes Go.WideShapes Go.ChangeAt Go.RowKit Go.Shelf Go.Proofs.YtjifancgekoenaaGreatDoorW.PrintWords Go.Proofs.YtjifancgekoenaaGreatDoorW.PrintLast
set_option linter.unusedVariables false
set_option linter.unusedSimpArgs false
set_option linter.constructorNameAsVariable false
set_option maxRecDepth 100000

theorem own : ownKnob Tryz.prog.godebug = none := by kernel_rfl
theorem laidOut : laidOutB Tryz.prog = true := by kernel_rfl

/-! What the rows' list gives. -/
theorem tab_of_reads {P : Program} {w : World} {name : String} {g t e n : Nat} {k : IntKind} {zs : List Int} (hn : P.globalNamed name = some g) (hy : (P.globals[g]?).map (·.type) = some t) (ht : P.underlying t = some (.array n e)) (he : P.underlying e = some (.int k))
    (hce : P.cellsOf e = 1) (hct : P.cellsOf t = n) (h : Lib.VarReads P w name (Lib.tabData k zs)) : Lib.TabIs P w name k zs := by
  obtain ⟨g', t', cs, fuel, p, hg, hty, hvar, hd⟩ := h
  obtain rfl := Option.some.inj (hn.symm.trans hg)
  obtain rfl := Option.some.inj (hy.symm.trans hty)
  unfold Lib.TabIs
  rw [hvar, ← Lib.cells_of_tab ht he hce hct hd]
theorem iface_of_reads {P : Program} {w : World} {name nm : String} {g t : Nat} {ms : Array (String × TypeId)} {d : DataW Unit} (hn : P.globalNamed name = some g) (hy : (P.globals[g]?).map (·.type) = some t) (ht : P.underlying t = some (.interface ms))
    (h : Lib.VarReads P w name (.iface nm d)) : ∃ u v, w.cell? ⟨g, 0, none⟩ = some (.iface u v) := by
  obtain ⟨g', t', cs, fuel, p, hg, hty, hvar, hd⟩ := h
  obtain rfl := Option.some.inj (hn.symm.trans hg)
  obtain rfl := Option.some.inj (hy.symm.trans hty)
  have hc := World.var?_cell hn hvar 0
  cases fuel with
  | zero => simp [DataW.trod] at hd
  | succ fuel =>
    simp only [DataW.trod, ht] at hd
    split at hd <;> simp_all
    · cases cs; simp_all
set_option maxRecDepth 100000 in
theorem laid_of {W : World} (h : laidMet Tryz.prog Rows.cnfJoinsRow.laid W) (hsh : W.ShapedOpen Tryz.prog) : Laid W where
  pow := tab_of_reads gPow (t := 124) (by kernel_rfl) Tryz.underlying124 Tryz.underlying101 (by kernel_rfl) (by kernel_rfl) (Lib.laidMet.reads h (.tail _ (.tail _ (.head _))))
  maxl := cell_of_shapedOpen_int (zero := #[.int .i64 0]) hsh (of_decide_eq_true (by kernel_rfl)) (by kernel_rfl) (by kernel_rfl) (by kernel_rfl) (by kernel_rfl) Tryz.underlying3
  asp := tab_of_reads gAsp (t := 85) (by kernel_rfl) Tryz.underlying85 Tryz.underlying5 (by kernel_rfl) (by kernel_rfl) (Lib.laidMet.reads h (.tail _ (.tail _ (.tail _ (.tail _ (.tail _ (.tail _ (.head _))))))))
  white := whiteTab_of_reads { Tryz.lays157 with } ⟨by kernel_rfl, by kernel_rfl, by kernel_rfl, by kernel_rfl, by kernel_rfl, by kernel_rfl, by kernel_rfl, by kernel_rfl⟩ (Lib.laidMet.reads h (.tail _ (.tail _ (.tail _ (.tail _ (.tail _ (.head _)))))))
  syn := iface_of_reads (t := 52) (by kernel_rfl) (by kernel_rfl) Tryz.underlying52 (Lib.laidMet.reads h (.tail _ (.tail _ (.tail _ (.tail _ (.head _))))))
  rng := iface_of_reads (t := 52) (by kernel_rfl) (by kernel_rfl) Tryz.underlying52 (Lib.laidMet.reads h (.tail _ (.tail _ (.tail _ (.head _)))))

/-! The arguments, opened. -/
section
variable {H : Type} {enc : TypeId × Value → H} {W : World} {base : Nat}
theorem lit_range {n : Int} (h : (Lit.int .i64 n).wf = true) : -9223372036854775808 ≤ n ∧ n ≤ 9223372036854775807 := by
  simp [Lit.wf, IntKind.wrap, IntKind.bits, IntKind.signed, IntKind.min, IntKind.max] at h
  omega
theorem C_of_adds {k : IntKind} {a : Addr} {n : Nat} {xs : List Int} (hx : xs.length = n) (hm : n ≤ 9223372036854775807) (h : ∀ j, j < n → W.cell? (a.add j) = some (.int k (xs.getD j 0))) : Kd.C (Kd.int k) W (some a) n xs := by
  refine ⟨hx, hm, fun _ => ⟨a, rfl, fun j p hj => ⟨[.int k p], rfl, rfl, fun i u hi => ?_⟩⟩⟩
  match i, hi with
  | 0, hi =>
    simp only [List.getElem?_cons_zero, Option.some.injEq] at hi
    subst hi
    have e : j * (Kd.int k).sz + 0 = j := by show j * 1 + 0 = j; omega
    rw [e, h j (by have := (List.getElem?_eq_some_iff.1 hj).1; omega)]
    simp [List.getD_eq_getElem?_getD, hj]
theorem openInts {v : Value} {d : DataW H} {p : List MemPlace} (hv : Value.okWide Tryz.prog W .any base 22 v) (h : DataW.Trod enc Tryz.prog W 0 (fun _ => true) true 22 v d p) :
    ∃ A c xs, v = .slice A xs.length c ∧ Kd.C kI W A xs.length xs ∧ xs.length ≤ c ∧ Wf xs := by
  obtain ⟨a0, len, cap, rfl⟩ := okWide_slice Tryz.underlying22 hv
  obtain ⟨fuel, hf⟩ := h
  rcases open_ints Tryz.underlying22 Tryz.underlying3 (by kernel_rfl) hf with ⟨hcs, hx⟩ | ⟨a, len', cap', zs, hcs, _, hl, hm, hz, hx, hcell, hwz⟩
  · simp [Value.cells] at hcs
    obtain ⟨rfl, rfl, rfl⟩ := hcs
    exact ⟨none, 0, [], rfl, Kd.C_nil _ _, Nat.le_refl _, fun x hx => by cases hx⟩
  · simp [Value.cells] at hcs
    obtain ⟨rfl, rfl, rfl⟩ := hcs
    simp only [if_true] at hz
    have e : (zs.take len).length = len := by rw [List.length_take]; omega
    refine ⟨some a, cap, zs.take len, by rw [e], ?_, by rw [e]; exact hl, fun x hx => lit_range (hwz x (List.mem_of_mem_take hx))⟩
    rw [e]
    refine C_of_adds e (by unfold maxLen at hm; omega) (fun j hj => ?_)
    rw [hcell j (by omega)]
    simp [List.getD_eq_getElem?_getD, List.getElem?_take_of_lt hj]
theorem openBools {v : Value} {d : DataW H} {p : List MemPlace} (hv : Value.okWide Tryz.prog W .any base 23 v) (h : DataW.Trod enc Tryz.prog W 0 (fun _ => true) true 23 v d p) :
    ∃ A c bs, v = .slice A bs.length c ∧ Kd.C Kd.bool W A bs.length bs ∧ bs.length ≤ c := by
  obtain ⟨a0, len, cap, rfl⟩ := okWide_slice Tryz.underlying23 hv
  obtain ⟨fuel, hf⟩ := h
  rcases Deep.open_bools Tryz.underlying23 Tryz.underlying4 (by kernel_rfl) hf with ⟨hcs, hx⟩ | ⟨a, len', cap', B, hcs, _, hl, hm, hx, hcell⟩
  · simp [Value.cells] at hcs
    obtain ⟨rfl, rfl, rfl⟩ := hcs
    exact ⟨none, 0, [], rfl, Kd.C_nil _ _, Nat.le_refl _⟩
  · simp [Value.cells] at hcs
    obtain ⟨rfl, rfl, rfl⟩ := hcs
    have e : ((List.range len).map B).length = len := by simp
    refine ⟨some a, cap, (List.range len).map B, by rw [e], ?_, by rw [e]; exact hl⟩
    rw [e]
    refine ⟨e, by unfold maxLen at hm; omega, fun _ => ⟨a, rfl, fun j q hj => ⟨[.bool q], rfl, rfl, fun i u hi => ?_⟩⟩⟩
    match i, hi with
    | 0, hi =>
      simp only [List.getElem?_cons_zero, Option.some.injEq] at hi
      subst hi
      have e : j * Kd.bool.sz + 0 = j := by show j * 1 + 0 = j; omega
      have hjl := (List.getElem?_eq_some_iff.1 hj).1
      rw [List.length_map, List.length_range] at hjl
      rw [e, hcell j (by omega)]
      simp [hjl] at hj
      rw [hj]
theorem openRows {fuel : Nat} {v : Value} {x : DataW H × List MemPlace} (h : DataW.trod enc Tryz.prog W 0 (fun _ => true) true fuel 26 [v] = some x) :
    ∃ A c L, v = .slice A L.length c ∧ Kd.C kII W A L.length L ∧ L.length ≤ c ∧ WfL L := by
  rcases Deep.open_int_rows Tryz.underlying26 Tryz.underlying22 Tryz.underlying3 (by kernel_rfl) (by kernel_rfl) h with ⟨hcs, hx⟩ | ⟨a, len, cap, A, Ln, C, Z, hcs, _, hl, hm, _, hr⟩
  · simp at hcs
    subst hcs
    exact ⟨none, 0, [], rfl, Kd.C_nil _ _, Nat.le_refl _, fun x hx => by cases hx⟩
  · simp at hcs
    subst hcs
    have e : ((List.range len).map fun r => (Z r).take (Ln r)).length = len := by simp
    refine ⟨some a, cap, (List.range len).map fun r => (Z r).take (Ln r), by rw [e], ?_, by rw [e]; exact hl, ?_⟩
    · rw [e]
      refine ⟨e, by unfold maxLen at hm; omega, fun _ => ⟨a, rfl, fun j r hj => ?_⟩⟩
      have hjl := (List.getElem?_eq_some_iff.1 hj).1
      rw [List.length_map, List.length_range] at hjl
      simp [hjl] at hj
      obtain ⟨h1, h2, h3, h4, h5, h6, h7⟩ := hr j (by omega)
      have er : r.length = Ln j := by rw [← hj, List.length_take]; omega
      refine ⟨[.slice (A j) r.length (C j)], rfl, ⟨A j, C j, rfl, by omega, ?_⟩, fun i u hi => ?_⟩
      · cases hA : A j with
        | none =>
          have : r.length = 0 := by have := h6 hA; omega
          have : r = [] := List.eq_nil_of_length_eq_zero this
          subst this
          exact Kd.C_nil _ _
        | some a' =>
          refine C_of_adds rfl (by unfold maxLen at h3; omega) (fun i hi => ?_)
          rw [(h7 a' hA).2 i (by omega), ← hj]
          simp [List.getD_eq_getElem?_getD, List.getElem?_take_of_lt (show i < Ln j by omega)]
      · match i, hi with
        | 0, hi =>
          simp only [List.getElem?_cons_zero, Option.some.injEq] at hi
          subst hi
          have e : j * kII.sz + 0 = j := by show j * 1 + 0 = j; omega
          rw [e, h1, er]
    · intro r hr' x hx
      obtain ⟨j, hj, rfl⟩ := List.mem_map.1 hr'
      rw [List.mem_range] at hj
      exact lit_range ((hr j (by omega)).2.2.2.2.1 x (List.mem_of_mem_take hx))
theorem openCnf {v : Value} {d : DataW H} {p : List MemPlace} (hv : Value.okWide Tryz.prog W .any base 28 v) (h : DataW.Trod enc Tryz.prog W 0 (fun _ => true) true 28 v d p) :
    ∃ n A c L, v = .agg #[.int .i64 n, .slice A L.length c] ∧ (-9223372036854775808 ≤ n ∧ n ≤ 9223372036854775807) ∧ Kd.C kII W A L.length L ∧ L.length ≤ c ∧ WfL L := by
  obtain ⟨v0, v1, y0, y1, m, rfl, _, _, h0, h1⟩ := Joins.open_agg2 Tryz.underlying28 (by kernel_rfl) (by kernel_rfl) hv h
  obtain ⟨n, e, _, hw⟩ := DataW.trod_int Tryz.underlying3 h0
  simp at e
  subst e
  obtain ⟨A, c, L, rfl, h2, h3, h4⟩ := openRows h1
  exact ⟨n, A, c, L, rfl, lit_range hw, h2, h3, h4⟩
theorem openStr {v : Value} {d : DataW H} {p : List MemPlace} (hv : Value.okWide Tryz.prog W .any base 9 v) (h : DataW.Trod enc Tryz.prog W 0 (fun _ => true) true 9 v d p) :
    ∃ s, v = .string (bytesB s) ∧ s.length ≤ maxLen := by
  obtain ⟨s, rfl, _, _, hs⟩ := ChangeMaps.open_string Tryz.underlying9 hv h
  exact ⟨s.data.toList, by simp [bytesB], by rw [← Lib.size_eq]; exact hs⟩
end

/-- A law's end: true, and nothing that was there has turned. -/
theorem shut_true {H : Type} {enc : TypeId × Value → H} {W : World} : DataW.Trod enc Tryz.prog W 0 (fun _ => false) false 4 (.bool true) (.lit (.bool true)) [] := shut_bool Tryz.underlying4 _
theorem door_met (os : Os) (args : Array Value) : laidMet Tryz.prog Rows.cnfJoinsRow.laid ((World.doorLaid Tryz.prog 400 os).forCall (fun _ _ => 0) ⟨#[], args, []⟩).memory :=
  laidMet_of_run' 8 (by kernel_rfl) (by kernel_rfl)
end Go.Proofs.YtjifancgekoenaaGreatDoor
