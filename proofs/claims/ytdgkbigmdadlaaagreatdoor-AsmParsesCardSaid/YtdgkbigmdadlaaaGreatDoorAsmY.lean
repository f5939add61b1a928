import Derived.Test.YtdgkbigmdadlaaaGreatDoorAsmL
import Derived.Test.YtdgkbigmdadlaaaGreatDoorAsmV
namespace Go.Proofs.YtdgkbigmdadlaaaGreatDoor
open Go.RowKit Go.Lib Go.Proofs.YtdgkbigmdadlaaaGreatDoorW.PrintWords Go.Proofs.YtdgkbigmdadlaaaGreatDoorW.PrintLast
attribute [local go_sem high] eqA23
set_option linter.unusedVariables false
set_option linter.unusedSimpArgs false

set_option maxHeartbeats 8000000 in
set_option maxRecDepth 100000 in
theorem AsmParses_any (s : List UInt8) (hs : s.length ≤ 9223372036854775807) (w : World) (hL : Laid w) :
    Calls Tryz.prog 3 #[.string (bytesB s)] w fun e w' => e = .returned (.bool true) ∧ Below w.heap.size w w' := by
  have HL := Aside0.mk hL
  have HX := Aside0.mk (fun (W : World) hL => fixed_any W hL)
  obtain ⟨k, hk1⟩ : ∃ k : Nat, min s.length 100 = k := ⟨_, rfl⟩
  have hk2 : (k : Int) ≤ (s.length : Int) := by omega
  have hsz0 : (bytesB s).size = s.length := bytesB_size s
  have hmin : (if (100 : Int) < (s.length : Int) then (100 : Int) else (s.length : Int)) = (k : Int) := by split <;> omega
  have hmin2 : min (s.length : Int) 100 = (k : Int) := by omega
  have HT : Aside0 ((bytesB s).extract 0 k = bytesB (s.take 100) ∧ (s.take 100).length ≤ 100) := ⟨by
    rw [bytesB_take]
    congr 1
    rcases Nat.lt_or_ge s.length 100 with h | h
    · rw [List.take_of_length_le (by omega), List.take_of_length_le (by omega)]
    · congr 1; omega, by rw [List.length_take]; omega⟩
  clear hL
  go_enter Tryz.func3, Tryz.ntmps3
  go_wp2_with fail
  rw [HT.out.1]
  have HSL := Aside0.mk HT.out.2
  clear HT hmin hmin2 hk2 hk1 hsz0
  generalize s.take 100 = u at *
  have HP := Aside0.mk (fun (W : World) hL => Parse_any u (by have := HSL.out; omega) W hL)
  have HRP := Aside0.mk (fun (W : World) => RParse_any u (by have := HSL.out; omega) W)
  generalize parseA u = p at *
  obtain ⟨z, er⟩ := p
  simp only at HP HRP
  have hq : (z.op == z.op && (z.rd == z.rd && (z.a == z.a && (z.b == z.b && (z.n == z.n))))) = true := by simp
  refine (HP.out _ HL.out).mono ?_
  rintro e W1 ⟨rfl, hb⟩
  have HB1 := Aside0.mk (below_after hb (bel1 W1 (.cells #[.int .i64 z.op, .int .i64 z.rd, .int .i64 z.a, .int .i64 z.b, .int .i64 z.n] 23)) (Nat.le_refl _))
  have HZ1 := Aside0.mk (Box5.new W1 z 23)
  clear hb
  go_wp2_with fail
  refine (HRP.out _).mono ?_
  rintro e W3 ⟨rfl, hb⟩
  have HB3 := Aside0.mk (below_after (below_after HB1.out hb (Nat.le_refl _)) (bel1 W3 (.cells #[.int .i64 z.op, .int .i64 z.rd, .int .i64 z.a, .int .i64 z.b, .int .i64 z.n] 23)) (Nat.le_refl _))
  have HZ3 := Aside0.mk ((HZ1.out.below hb).below (bel1 W3 (.cells #[.int .i64 z.op, .int .i64 z.rd, .int .i64 z.a, .int .i64 z.b, .int .i64 z.n] 23)))
  have HY3 := Aside0.mk (Box5.new W3 z 23)
  clear hb HB1 HZ1
  go_wp2_with fail
  refine (HX.out _ (HL.out.below HB3.out)).mono ?_
  rintro e W7 ⟨rfl, hb⟩
  have hfin := below_after HB3.out hb (Nat.le_refl _)
  obtain ⟨k0, k1, k2, k3, k4⟩ := HZ3.out.below hb
  obtain ⟨j0, j1, j2, j3, j4⟩ := HY3.out.below hb
  clear hb
  go_wp2_with fail
  go_ret
  exact ⟨by simp, hfin⟩
end Go.Proofs.YtdgkbigmdadlaaaGreatDoor
