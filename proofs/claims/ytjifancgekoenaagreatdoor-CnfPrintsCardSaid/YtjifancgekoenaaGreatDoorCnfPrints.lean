/- CnfPrints: for every input the law returns true, and the input reads behind the call as it read before (of at most 60 clauses of 12 literals, 600 bytes); the listed package-level variables hold what the program's text lays in them. -/
import Derived.Test.YtjifancgekoenaaGreatDoorCnfPt
import Derived.Test.YtjifancgekoenaaGreatDoorCnfR
namespace Go.Proofs.YtjifancgekoenaaGreatDoor
open Go.ChangeShapes Go.WideShapes Go.ChangeAt Go.RowKit Go.Proofs.YtjifancgekoenaaGreatDoorW.PrintWords Go.Proofs.YtjifancgekoenaaGreatDoorW.PrintLast
set_option linter.unusedVariables false
set_option linter.unusedSimpArgs false
set_option linter.constructorNameAsVariable false
set_option maxRecDepth 100000

theorem cnfPrints_reads (os : Os) {H : Type} (enc : TypeId × Value → H) :
    ∃ ds, ∃ places, DataW.whole enc Tryz.prog ((World.doorLaid Tryz.prog 400 os).forCall (fun _ _ => 0) ⟨#[], #[.agg #[.int .i64 0, .slice none 0 0], .string ⟨#[]⟩], []⟩).memory Tryz.f6.params.toList Rows.cnfPrintsSpec.vars false (#[.agg #[.int .i64 0, .slice none 0 0], .string ⟨#[]⟩] : Array Value).toList 8 = some ([.agg [.lit (.int .i64 0), .nil], .lit (.string [])], ds, places) :=
  ⟨[], [], by kernel_rfl⟩
theorem cnfPrints_lifted (os : Os) (started : os.Started) (H : Type) (enc : TypeId × Value → H) (F : Stop.Interp) :
    ReturnsInHanded {} Tryz.checked os 6 .any ((OpenSpec.ofChange Rows.cnfPrintsSpec).preRow enc Tryz.prog Tryz.f6 Rows.cnfPrintsRow.domain false Rows.cnfPrintsRow.laid) (((OpenSpec.ofChange Rows.cnfPrintsSpec).at F).post enc Tryz.prog Tryz.f6 false true false false) := by
  obtain ⟨gs0, places, hx⟩ := cnfPrints_reads os enc
  refine returnsInHanded_of_row (C := Tryz.checked) (s := OpenSpec.ofChange Rows.cnfPrintsSpec) own started (by kernel_rfl) Tryz.func6
    (witness_row_atRef (enc := enc) (C := Tryz.checked) false (World.doorLaid Tryz.prog 400 os) #[.agg #[.int .i64 0, .slice none 0 0], .string ⟨#[]⟩] rfl (by kernel_rfl) (by kernel_rfl) (by kernel_rfl)
      (OpenSpec.preRow_of_cond 8 hx (by kernel_rfl) (fun k hk => by cases hk) (by kernel_rfl) (door_met os _))) ?_
  intro W base args ds gs before hval0 hW _ _ _ hL hsh _
  have hval : ∀ (j : Nat) t v, Tryz.f6.params[j]? = some t → args[j]? = some v → Value.okWide Tryz.prog W .any base t v := hval0
  have hW' := hW
  obtain ⟨p, q, hA0, hV, rfl, hfz, hnd⟩ := hW
  have hA : DataW.TrodAll enc Tryz.prog W 0 (fun _ => true) true Tryz.f6.params.toList args.toList ds p := hA0
  rw [Tryz.params6] at hA hval
  obtain ⟨v0, v1, d0, d1, p0, p1, rfl, rfl, rfl, h0, h1⟩ := trodAll_two hA
  obtain ⟨rfl, rfl⟩ := trodVars_none hV
  clear hA0 hval0
  simp only [List.append_nil] at hW'
  have hlt : ∀ x ∈ p0 ++ p1, x.block < W.heap.size := fun x hx => by simpa using hW'.lt x (by simpa using hx)
  obtain ⟨n0, A0, c0, L0, rfl, hn0, hC0, hc0, hWf0⟩ := openCnf (hval 0 28 v0 rfl rfl) h0
  obtain ⟨x1, rfl, hs1⟩ := openStr (hval 1 9 v1 rfl rfl) h1
  refine (CnfPrints_any n0 A0 c0 L0 x1 W hC0 hc0 hWf0 hn0 (by unfold maxLen at hs1; omega) (laid_of hL hsh)).mono ?_
  rintro e W' ⟨rfl, hb⟩
  exact ⟨_, rfl, _, _, _, [], _, [], hW', trodAll_mk1 (shut_bool Tryz.underlying4 _), trodAll_mk2 (Below.trod laidOut (by kernel_rfl) (of_decide_eq_true (by kernel_rfl)) h0 hb (fun x hx => hlt x (List.mem_append.2 (.inl hx)))) (Below.trod laidOut (by kernel_rfl) (of_decide_eq_true (by kernel_rfl)) h1 hb (fun x hx => hlt x (List.mem_append.2 (.inr hx)))), rfl, hb.frame _, fun h => by cases h⟩
theorem cnfPrints_said : Rows.CnfPrintsSaid :=
  OpenClaim.holds_of_cond 6 Tryz.f6 rfl rfl rfl rfl rfl rfl rfl ⟨rfl, rfl, rfl, rfl, rfl⟩ rfl rfl rfl rfl rfl (by kernel_rfl) Tryz.func6 (by kernel_rfl)
    (of_decide_eq_true (by kernel_rfl)) (by unfold Func.isWrapper; first | (rw [if_pos (by decide +kernel)]; kernel_rfl) | (rw [if_neg (by decide +kernel)]; exact ⟨rfl, rfl⟩))
    (fun os started H enc _ F => by rw [OpenClaim.pre_eq_preRow]; exact cnfPrints_lifted os started H enc F)
theorem cnfPrints_plain (f : FuncId) (fn : Func) (hf : Tryz.pinned.checked.prog.funcNamed "whetstone/whetstonelaw13.CnfPrints" = some f) (hfn : Tryz.pinned.checked.prog.funcs[f]? = some fn) :
    true = Tryz.pinned.checked.prog.looks [] ∧ ∀ (j : Nat) t, fn.params[j]? = some t → Tryz.pinned.checked.prog.wantsStandIn t = false := by
  obtain rfl : f = 6 := Option.some.inj ((show Tryz.prog.funcNamed "whetstone/whetstonelaw13.CnfPrints" = some 6 by kernel_rfl).symm.trans hf) |>.symm
  obtain rfl : fn = Tryz.f6 := (Option.some.inj (Tryz.func6.symm.trans hfn)).symm
  refine ⟨by kernel_rfl, fun j t ht => ?_⟩
  rw [Tryz.params6] at ht
  have ht2 := Array.mem_of_getElem? ht
  simp only [List.mem_toArray, List.mem_cons, List.not_mem_nil, or_false] at ht2
  rcases ht2 with rfl | rfl
  · exact (show Tryz.prog.wantsStandIn 28 = false by kernel_rfl)
  · exact (show Tryz.prog.wantsStandIn 9 = false by kernel_rfl)
theorem cnfPrints_card : Rows.CnfPrintsCardSaid :=
  Claim7.holds_tied_plain_at .later [] _ _ _ _ cnfPrints_said (fun _ h => by cases h) (by kernel_rfl) (fun _ h => by cases h) cnfPrints_row_tie rfl ⟨rfl, rfl⟩ (by kernel_rfl) rfl cnfPrints_plain (by kernel_rfl)
#print axioms cnfPrints_card
end Go.Proofs.YtjifancgekoenaaGreatDoor
