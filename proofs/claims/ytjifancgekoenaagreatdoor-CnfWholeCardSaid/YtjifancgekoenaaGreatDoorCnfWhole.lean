/- CnfWhole: for every input the law returns true, and the input reads behind the call as it read before (of at most 60 clauses of 12 literals, 100 values); the listed package-level variables hold what the program's text lays in them. -/
import Derived.Test.YtjifancgekoenaaGreatDoorCnfW
import Derived.Test.YtjifancgekoenaaGreatDoorCnfR
namespace Go.Proofs.YtjifancgekoenaaGreatDoor
open Go.ChangeShapes Go.WideShapes Go.ChangeAt Go.RowKit Go.Proofs.YtjifancgekoenaaGreatDoorW.PrintWords Go.Proofs.YtjifancgekoenaaGreatDoorW.PrintLast
set_option linter.unusedVariables false
set_option linter.unusedSimpArgs false
set_option linter.constructorNameAsVariable false
set_option maxRecDepth 100000

theorem cnfWhole_reads (os : Os) {H : Type} (enc : TypeId × Value → H) :
    ∃ ds, ∃ places, DataW.whole enc Tryz.prog ((World.doorLaid Tryz.prog 400 os).forCall (fun _ _ => 0) ⟨#[], #[.agg #[.int .i64 0, .slice none 0 0], .slice none 0 0, .slice none 0 0], []⟩).memory Tryz.f9.params.toList Rows.cnfWholeSpec.vars false (#[.agg #[.int .i64 0, .slice none 0 0], .slice none 0 0, .slice none 0 0] : Array Value).toList 8 = some ([.agg [.lit (.int .i64 0), .nil], .nil, .nil], ds, places) :=
  ⟨[], [], by kernel_rfl⟩
theorem cnfWhole_lifted (os : Os) (started : os.Started) (H : Type) (enc : TypeId × Value → H) (F : Stop.Interp) :
    ReturnsInHanded {} Tryz.checked os 9 .any ((OpenSpec.ofChange Rows.cnfWholeSpec).preRow enc Tryz.prog Tryz.f9 Rows.cnfWholeRow.domain false Rows.cnfWholeRow.laid) (((OpenSpec.ofChange Rows.cnfWholeSpec).at F).post enc Tryz.prog Tryz.f9 false true false false) := by
  obtain ⟨gs0, places, hx⟩ := cnfWhole_reads os enc
  refine returnsInHanded_of_row (C := Tryz.checked) (s := OpenSpec.ofChange Rows.cnfWholeSpec) own started (by kernel_rfl) Tryz.func9
    (witness_row_atRef (enc := enc) (C := Tryz.checked) false (World.doorLaid Tryz.prog 400 os) #[.agg #[.int .i64 0, .slice none 0 0], .slice none 0 0, .slice none 0 0] rfl (by kernel_rfl) (by kernel_rfl) (by kernel_rfl)
      (OpenSpec.preRow_of_cond 8 hx (by kernel_rfl) (fun k hk => by cases hk) (by kernel_rfl) (door_met os _))) ?_
  intro W base args ds gs before hval0 hW _ _ _ hL hsh _
  have hval : ∀ (j : Nat) t v, Tryz.f9.params[j]? = some t → args[j]? = some v → Value.okWide Tryz.prog W .any base t v := hval0
  have hW' := hW
  obtain ⟨p, q, hA0, hV, rfl, hfz, hnd⟩ := hW
  have hA : DataW.TrodAll enc Tryz.prog W 0 (fun _ => true) true Tryz.f9.params.toList args.toList ds p := hA0
  rw [Tryz.params9] at hA hval
  obtain ⟨v0, v1, v2, d0, d1, d2, p0, p1, p2, rfl, rfl, rfl, h0, h1, h2⟩ := trodAll_three hA
  obtain ⟨rfl, rfl⟩ := trodVars_none hV
  clear hA0 hval0
  simp only [List.append_nil] at hW'
  have hlt : ∀ x ∈ p0 ++ p1 ++ p2, x.block < W.heap.size := fun x hx => by simpa using hW'.lt x (by simpa using hx)
  obtain ⟨n0, A0, c0, L0, rfl, hn0, hC0, hc0, hWf0⟩ := openCnf (hval 0 28 v0 rfl rfl) h0
  obtain ⟨A1, c1, x1, rfl, hC1, hc1⟩ := openBools (hval 1 23 v1 rfl rfl) h1
  obtain ⟨A2, c2, x2, rfl, hC2, hc2, hWf2⟩ := openInts (hval 2 22 v2 rfl rfl) h2
  refine (CnfWhole_any n0 A0 c0 L0 A1 c1 x1 A2 c2 x2 W hC0 hc0 hWf0 hn0 hC1 hc1 hC2 hc2 hWf2 (laid_of hL hsh)).mono ?_
  rintro e W' ⟨rfl, hb⟩
  exact ⟨_, rfl, _, _, _, [], _, [], hW', trodAll_mk1 (shut_bool Tryz.underlying4 _), trodAll_mk3 (Below.trod laidOut (by kernel_rfl) (of_decide_eq_true (by kernel_rfl)) h0 hb (fun x hx => hlt x (by simp [hx]))) (Below.trod laidOut (by kernel_rfl) (of_decide_eq_true (by kernel_rfl)) h1 hb (fun x hx => hlt x (by simp [hx]))) (Below.trod laidOut (by kernel_rfl) (of_decide_eq_true (by kernel_rfl)) h2 hb (fun x hx => hlt x (by simp [hx]))), rfl, hb.frame _, fun h => by cases h⟩
theorem cnfWhole_said : Rows.CnfWholeSaid :=
  OpenClaim.holds_of_cond 9 Tryz.f9 rfl rfl rfl rfl rfl rfl rfl ⟨rfl, rfl, rfl, rfl, rfl⟩ rfl rfl rfl rfl rfl (by kernel_rfl) Tryz.func9 (by kernel_rfl)
    (of_decide_eq_true (by kernel_rfl)) (by unfold Func.isWrapper; first | (rw [if_pos (by decide +kernel)]; kernel_rfl) | (rw [if_neg (by decide +kernel)]; exact ⟨rfl, rfl⟩))
    (fun os started H enc _ F => by rw [OpenClaim.pre_eq_preRow]; exact cnfWhole_lifted os started H enc F)
theorem cnfWhole_plain (f : FuncId) (fn : Func) (hf : Tryz.pinned.checked.prog.funcNamed "whetstone/whetstonelaw13.CnfWhole" = some f) (hfn : Tryz.pinned.checked.prog.funcs[f]? = some fn) :
    true = Tryz.pinned.checked.prog.looks [] ∧ ∀ (j : Nat) t, fn.params[j]? = some t → Tryz.pinned.checked.prog.wantsStandIn t = false := by
  obtain rfl : f = 9 := Option.some.inj ((show Tryz.prog.funcNamed "whetstone/whetstonelaw13.CnfWhole" = some 9 by kernel_rfl).symm.trans hf) |>.symm
  obtain rfl : fn = Tryz.f9 := (Option.some.inj (Tryz.func9.symm.trans hfn)).symm
  refine ⟨by kernel_rfl, fun j t ht => ?_⟩
  rw [Tryz.params9] at ht
  have ht2 := Array.mem_of_getElem? ht
  simp only [List.mem_toArray, List.mem_cons, List.not_mem_nil, or_false] at ht2
  rcases ht2 with rfl | rfl | rfl
  · exact (show Tryz.prog.wantsStandIn 28 = false by kernel_rfl)
  · exact (show Tryz.prog.wantsStandIn 23 = false by kernel_rfl)
  · exact (show Tryz.prog.wantsStandIn 22 = false by kernel_rfl)
theorem cnfWhole_card : Rows.CnfWholeCardSaid :=
  Claim7.holds_tied_plain_at .later [] _ _ _ _ cnfWhole_said (fun _ h => by cases h) (by kernel_rfl) (fun _ h => by cases h) cnfWhole_row_tie rfl ⟨rfl, rfl⟩ (by kernel_rfl) rfl cnfWhole_plain (by kernel_rfl)
#print axioms cnfWhole_card
end Go.Proofs.YtjifancgekoenaaGreatDoor
