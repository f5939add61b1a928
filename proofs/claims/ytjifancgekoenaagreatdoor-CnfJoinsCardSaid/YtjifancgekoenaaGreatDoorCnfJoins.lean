/- CnfJoins: for every input the law returns true, and the input reads behind the call as it read before; the listed package-level variables hold what the program's text lays in them. -/
import Derived.Test.YtjifancgekoenaaGreatDoorCnfR
namespace Go.Proofs.YtjifancgekoenaaGreatDoor
open Go.ChangeShapes Go.WideShapes Go.ChangeAt Go.RowKit Go.Proofs.YtjifancgekoenaaGreatDoorW.PrintWords Go.Proofs.YtjifancgekoenaaGreatDoorW.PrintLast
set_option linter.unusedVariables false
set_option linter.unusedSimpArgs false
set_option linter.constructorNameAsVariable false
set_option maxRecDepth 100000

theorem cnfJoins_reads (os : Os) {H : Type} (enc : TypeId × Value → H) :
    ∃ ds, ∃ places, DataW.whole enc Tryz.prog ((World.doorLaid Tryz.prog 400 os).forCall (fun _ _ => 0) ⟨#[], #[.agg #[.int .i64 0, .slice none 0 0]], []⟩).memory Tryz.f4.params.toList Rows.cnfJoinsSpec.vars false #[Value.agg #[.int .i64 0, .slice none 0 0]].toList 8 = some ([.agg [.lit (.int .i64 0), .nil]], ds, places) :=
  ⟨[], [], by kernel_rfl⟩
theorem cnfJoins_lifted (os : Os) (started : os.Started) (H : Type) (enc : TypeId × Value → H) (F : Stop.Interp) :
    ReturnsInHanded {} Tryz.checked os 4 .any ((OpenSpec.ofChange Rows.cnfJoinsSpec).preRow enc Tryz.prog Tryz.f4 Rows.cnfJoinsRow.domain false Rows.cnfJoinsRow.laid) (((OpenSpec.ofChange Rows.cnfJoinsSpec).at F).post enc Tryz.prog Tryz.f4 false true false false) := by
  obtain ⟨gs0, places, hx⟩ := cnfJoins_reads os enc
  refine returnsInHanded_of_row (C := Tryz.checked) (s := OpenSpec.ofChange Rows.cnfJoinsSpec) own started (by kernel_rfl) Tryz.func4
    (witness_row_atRef (enc := enc) (C := Tryz.checked) false (World.doorLaid Tryz.prog 400 os) #[.agg #[.int .i64 0, .slice none 0 0]] rfl (by kernel_rfl) (by kernel_rfl) (by kernel_rfl)
      (OpenSpec.preRow_of_cond 8 hx (by kernel_rfl) (fun k hk => by cases hk) (by kernel_rfl) (door_met os _))) ?_
  intro W base args ds gs before hval0 hW _ _ _ hL hsh _
  have hval : ∀ (j : Nat) t v, Tryz.f4.params[j]? = some t → args[j]? = some v → Value.okWide Tryz.prog W .any base t v := hval0
  have hW' := hW
  obtain ⟨p, q, hA0, hV, rfl, hfz, hnd⟩ := hW
  have hA : DataW.TrodAll enc Tryz.prog W 0 (fun _ => true) true Tryz.f4.params.toList args.toList ds p := hA0
  rw [Tryz.params4] at hA hval
  obtain ⟨v0, d0, rfl, rfl, h0⟩ := trodAll_one hA
  obtain ⟨rfl, rfl⟩ := trodVars_none hV
  clear hA0 hval0
  simp only [List.append_nil] at hW'
  have hlt : ∀ x ∈ p, x.block < W.heap.size := fun x hx => by simpa using hW'.lt x hx
  obtain ⟨n, A, c, L, rfl, hn, hC, hc, hWf⟩ := openCnf (hval 0 28 v0 rfl rfl) h0
  refine (CnfJoins_any n A c L W hC hc hWf hn (laid_of hL hsh)).mono ?_
  rintro e W' ⟨rfl, hb⟩
  exact ⟨_, rfl, _, _, _, [], _, [], hW', trodAll_mk1 (shut_bool Tryz.underlying4 _), trodAll_mk1 (Below.trod laidOut (by kernel_rfl) (of_decide_eq_true (by kernel_rfl)) h0 hb hlt), rfl, hb.frame _, fun h => by cases h⟩
theorem cnfJoins_said : Rows.CnfJoinsSaid :=
  OpenClaim.holds_of_cond 4 Tryz.f4 rfl rfl rfl rfl rfl rfl rfl ⟨rfl, rfl, rfl, rfl, rfl⟩ rfl rfl rfl rfl rfl (by kernel_rfl) Tryz.func4 (by kernel_rfl)
    (of_decide_eq_true (by kernel_rfl)) (by unfold Func.isWrapper; first | (rw [if_pos (by decide +kernel)]; kernel_rfl) | (rw [if_neg (by decide +kernel)]; exact ⟨rfl, rfl⟩))
    (fun os started H enc _ F => by rw [OpenClaim.pre_eq_preRow]; exact cnfJoins_lifted os started H enc F)
theorem cnfJoins_plain (f : FuncId) (fn : Func) (hf : Tryz.pinned.checked.prog.funcNamed "whetstone/whetstonelaw13.CnfJoins" = some f) (hfn : Tryz.pinned.checked.prog.funcs[f]? = some fn) :
    true = Tryz.pinned.checked.prog.looks [] ∧ ∀ (j : Nat) t, fn.params[j]? = some t → Tryz.pinned.checked.prog.wantsStandIn t = false := by
  obtain rfl : f = 4 := Option.some.inj ((show Tryz.prog.funcNamed "whetstone/whetstonelaw13.CnfJoins" = some 4 by kernel_rfl).symm.trans hf) |>.symm
  obtain rfl : fn = Tryz.f4 := (Option.some.inj (Tryz.func4.symm.trans hfn)).symm
  refine ⟨by kernel_rfl, fun j t ht => ?_⟩
  rw [Tryz.params4] at ht
  obtain rfl : t = 28 := by simpa using Array.mem_of_getElem? ht
  exact (show Tryz.prog.wantsStandIn 28 = false by kernel_rfl)
theorem cnfJoins_card : Rows.CnfJoinsCardSaid :=
  Claim7.holds_tied_plain_at .later [] _ _ _ _ cnfJoins_said (fun _ h => by cases h) (by kernel_rfl) (fun _ h => by cases h) cnfJoins_row_tie rfl ⟨rfl, rfl⟩ (by kernel_rfl) rfl cnfJoins_plain (by kernel_rfl)
#print axioms cnfJoins_card
end Go.Proofs.YtjifancgekoenaaGreatDoor
