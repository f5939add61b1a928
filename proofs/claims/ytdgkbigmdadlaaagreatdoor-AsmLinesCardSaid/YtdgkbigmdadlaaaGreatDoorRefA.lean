import Derived.Test.YtdgkbigmdadlaaaGreatDoorProg
import Derived.Below
import Derived.Deep.Draws
import Derived.Deep.AppendLies
import Derived.Maps.AppendAt
import Derived.OwnWalk
import Derived.Laws.BytesArg
import Derived.Laws.MakeOwn
import Derived.Laws.OwnMore
import Derived.Deep.OwnRows
import Derived.Tactics
import Derived.Lib.ConvBytes
import Derived.Laws.Slices
import Derived.WalkKit
import Derived.KernelRfl
import Derived.RowKit3
import Derived.Deep.LoopGhost
import Derived.Deep.QuietTactic
import Derived.BigQuiet
import Derived.WideLaws
import Derived.Deep.DeepCutAuto
import Derived.Deep.CutBlock
import Derived.Deep.RegionHeld3
import Derived.Laws.Rows
import Derived.Lib.AppendStr
import Derived.ArgAppend
import Derived.Laws.IdiomCopy
import Derived.OrdersHeld
import Derived.Laws.BitsLemmas
import Derived.RowKit
import Derived.Test.YtdgkbigmdadlaaaGreatDoorWWords
import Derived.Test.YtdgkbigmdadlaaaGreatDoorWLast
import Derived.Test.YtdgkbigmdadlaaaGreatDoorWTab
import Derived.Test.YtdgkbigmdadlaaaGreatDoorWFour
import Derived.Test.YtdgkbigmdadlaaaGreatDoorWQPut
import Derived.Test.YtdgkbigmdadlaaaGreatDoorWApart
import Derived.Test.YtdgkbigmdadlaaaGreatDoorWArr
import Derived.Test.YtdgkbigmdadlaaaGreatDoorWZeros
import Derived.Test.YtdgkbigmdadlaaaGreatDoorWFoot
import Derived.Test.YtdgkbigmdadlaaaGreatDoorWKept
import Derived.Test.YtdgkbigmdadlaaaGreatDoorWShare
import Derived.Test.YtdgkbigmdadlaaaGreatDoorWN
import Derived.Test.YtdgkbigmdadlaaaGreatDoorWFootNe
import Derived.Test.YtdgkbigmdadlaaaGreatDoorWAt
import Derived.Test.YtdgkbigmdadlaaaGreatDoorWEqStruct
import Derived.Test.YtdgkbigmdadlaaaGreatDoorWRepsOne
import Derived.Test.YtdgkbigmdadlaaaGreatDoorWInv
import Derived.Test.YtdgkbigmdadlaaaGreatDoorWInvWords
import Derived.Test.YtdgkbigmdadlaaaGreatDoorWGuard
import Derived.Test.YtdgkbigmdadlaaaGreatDoorWNEv
import Derived.Test.YtdgkbigmdadlaaaGreatDoorWMore
namespace Go.Proofs.YtdgkbigmdadlaaaGreatDoor
open Go.RowKit Go.Proofs.YtdgkbigmdadlaaaGreatDoorW.PrintWords Go.Proofs.YtdgkbigmdadlaaaGreatDoorW.PrintLast Go.Proofs.YtdgkbigmdadlaaaGreatDoorW.PrintMore
attribute [local go_sem] max2_int min2_int max_two min_two max_three min_three max_four min_four
set_option linter.unusedVariables false
set_option linter.unusedSimpArgs false





def errW : Option Int → Value
  | none => .nilIface
  | some c => .iface 100 (.int .i64 c)
theorem errW_none : errW none = .nilIface := rfl
theorem errW_some (c : Int) : errW (some c) = .iface 100 (.int .i64 c) := rfl

theorem info3 : (Tryz.prog.info? 3).map (fun i => (i.zero, i.size, i.bytes)) = some (some (.int .i64 0), 1, 8) := by kernel_rfl
theorem info5 : (Tryz.prog.info? 5).map (fun i => (i.zero, i.size, i.bytes)) = some (some (.int .u8 0), 1, 1) := by kernel_rfl
theorem info9 : (Tryz.prog.info? 9).map (fun i => (i.zero, i.size, i.bytes)) = some (some (.string ⟨#[]⟩), 1, 16) := by kernel_rfl
theorem info23 : (Tryz.prog.info? 23).map (fun i => (i.zero, i.size, i.bytes)) = some (some (.agg #[(.int .i64 0), (.int .i64 0), (.int .i64 0), (.int .i64 0), (.int .i64 0)]), 5, 40) := by kernel_rfl
-- the values' own types
/-! #### struct type 23 -/
structure S23 where
  f0 : Int
  f1 : Int
  f2 : Int
  f3 : Int
  f4 : Int
def z23 : S23 := ⟨(0 : Int), (0 : Int), (0 : Int), (0 : Int), (0 : Int)⟩
def k23 : Kd S23 := Kd.iso (Kd.pair (Kd.int .i64) (Kd.pair (Kd.int .i64) (Kd.pair (Kd.int .i64) (Kd.pair (Kd.int .i64) (Kd.int .i64))))) (fun x : S23 => (x.f0, x.f1, x.f2, x.f3, x.f4))
theorem k23_open {w : World} {x : S23} {cs : List Value} (h : k23.K w x cs) : cs = [.int .i64 x.f0, .int .i64 x.f1, .int .i64 x.f2, .int .i64 x.f3, .int .i64 x.f4] := by
  obtain ⟨_, _, rfl, rfl, ⟨_, _, rfl, rfl, ⟨_, _, rfl, rfl, ⟨_, _, rfl, rfl, rfl⟩⟩⟩⟩ := h
  exact rfl
theorem k23_openM {w : World} {base : Nat} {ok : Nat → Prop} {x : S23} {cs : List Value} (h : k23.M w base ok x cs) : cs = [.int .i64 x.f0, .int .i64 x.f1, .int .i64 x.f2, .int .i64 x.f3, .int .i64 x.f4] := by
  obtain ⟨_, _, rfl, rfl, ⟨_, _, rfl, rfl, ⟨_, _, rfl, rfl, ⟨_, _, rfl, rfl, rfl⟩⟩⟩⟩ := h
  exact rfl
theorem k23_mk (w : World) (x : S23)  : k23.K w x [.int .i64 x.f0, .int .i64 x.f1, .int .i64 x.f2, .int .i64 x.f3, .int .i64 x.f4] := ⟨[.int .i64 x.f0], [.int .i64 x.f1, .int .i64 x.f2, .int .i64 x.f3, .int .i64 x.f4], rfl, rfl, ⟨[.int .i64 x.f1], [.int .i64 x.f2, .int .i64 x.f3, .int .i64 x.f4], rfl, rfl, ⟨[.int .i64 x.f2], [.int .i64 x.f3, .int .i64 x.f4], rfl, rfl, ⟨[.int .i64 x.f3], [.int .i64 x.f4], rfl, rfl, rfl⟩⟩⟩⟩
theorem k23_mkM (w : World) (base : Nat) (ok : Nat → Prop) (x : S23)  : k23.M w base ok x [.int .i64 x.f0, .int .i64 x.f1, .int .i64 x.f2, .int .i64 x.f3, .int .i64 x.f4] := ⟨[.int .i64 x.f0], [.int .i64 x.f1, .int .i64 x.f2, .int .i64 x.f3, .int .i64 x.f4], rfl, rfl, ⟨[.int .i64 x.f1], [.int .i64 x.f2, .int .i64 x.f3, .int .i64 x.f4], rfl, rfl, ⟨[.int .i64 x.f2], [.int .i64 x.f3, .int .i64 x.f4], rfl, rfl, ⟨[.int .i64 x.f3], [.int .i64 x.f4], rfl, rfl, rfl⟩⟩⟩⟩
def rd_T23 (xs : List S23) (i : Int) : S23 := xs.getD i.toNat z23
theorem at_T23 {w : World} {A : Option Addr} {n : Nat} {xs : List S23} (h : Kd.C k23 w A n xs) (i : Int) (h0 : 0 ≤ i) (h1 : i < n) : ∃ ad , A = some ad ∧ w.cell? (ad.add (i.toNat * 5)) = some (.int .i64 (rd_T23 xs i).f0) ∧ w.cell? ⟨(ad.add (i.toNat * 5)).block, (ad.add (i.toNat * 5)).off + 1, none⟩ = some (.int .i64 (rd_T23 xs i).f1) ∧ w.cell? ⟨(ad.add (i.toNat * 5)).block, (ad.add (i.toNat * 5)).off + 2, none⟩ = some (.int .i64 (rd_T23 xs i).f2) ∧ w.cell? ⟨(ad.add (i.toNat * 5)).block, (ad.add (i.toNat * 5)).off + 3, none⟩ = some (.int .i64 (rd_T23 xs i).f3) ∧ w.cell? ⟨(ad.add (i.toNat * 5)).block, (ad.add (i.toNat * 5)).off + 4, none⟩ = some (.int .i64 (rd_T23 xs i).f4) := by
  obtain ⟨ad, c, e, _, hK, hc0⟩ := Kd.C_get h z23 i h0 h1
  have hc : ∀ j u, c[j]? = some u → w.cell? (ad.add (i.toNat * 5 + j)) = some u := hc0
  obtain rfl := k23_open hK
  exact ⟨ad, e, hc 0 _ rfl, by rw [← add_field _ _ 1 (by omega)]; exact hc 1 _ rfl, by rw [← add_field _ _ 2 (by omega)]; exact hc 2 _ rfl, by rw [← add_field _ _ 3 (by omega)]; exact hc 3 _ rfl, by rw [← add_field _ _ 4 (by omega)]; exact hc 4 _ rfl⟩



theorem eqA23 (d : Nat) (w : World) (x0 y0 : Int) (x1 y1 : Int) (x2 y2 : Int) (x3 y3 : Int) (x4 y4 : Int) :
    (Op.equalIn (d + 2) 23 (.agg #[.int .i64 x0, .int .i64 x1, .int .i64 x2, .int .i64 x3, .int .i64 x4]) (.agg #[.int .i64 y0, .int .i64 y1, .int .i64 y2, .int .i64 y3, .int .i64 y4])).run Tryz.prog w = .ok (x0 == y0 && (x1 == y1 && (x2 == y2 && (x3 == y3 && (x4 == y4))))) w := by
  refine eqA_of Tryz.underlying23 (by kernel_rfl) ?_
  refine eqf_cons (by rfl) (by go_simp; rfl) (by go_simp; rfl) (by go_simp) ?_
  refine eqf_cons (by rfl) (by go_simp; rfl) (by go_simp; rfl) (by go_simp) ?_
  refine eqf_cons (by rfl) (by go_simp; rfl) (by go_simp; rfl) (by go_simp) ?_
  refine eqf_cons (by rfl) (by go_simp; rfl) (by go_simp; rfl) (by go_simp) ?_
  exact eqf_last (by rfl) (by go_simp; rfl) (by go_simp; rfl) (by go_simp)
/-! ### inst_has: function 53 -/
mutual
def inst_has.j0 : Nat → Int → Bool → Option (Bool × Bool × Bool)
  | 0, _, _ => none
  | k + 1, x5, x6 => if x6 = true then (some (true, false, false)) else (if x5 = 73 then (inst_has.j1 k x5 (x5 == 73)) else (inst_has.j1 k x5 (x5 == 72)))
def inst_has.j1 : Nat → Int → Bool → Option (Bool × Bool × Bool)
  | 0, _, _ => none
  | k + 1, x5, x9 => if x9 = true then (some (true, true, false)) else (if x5 = 66 then (inst_has.j2 k x5 (x5 == 66)) else (inst_has.j2 k x5 (x5 == 83)))
def inst_has.j2 : Nat → Int → Bool → Option (Bool × Bool × Bool)
  | 0, _, _ => none
  | k + 1, x5, x12 => if x12 = true then (some (false, true, true)) else (if x5 = 82 then (some (true, true, true)) else (some (false, false, false)))
end
def inst_has.f (k : Nat) (a0 : Int) : Option (Bool × Bool × Bool) := if a0 = 85 then (inst_has.j0 k a0 (a0 == 85)) else (inst_has.j0 k a0 (a0 == 74))
theorem inst_has.mono_l : ∀ k, (∀ y0 y1, LeO (inst_has.j0 k y0 y1) (inst_has.j0 (k + 1) y0 y1)) ∧ (∀ y0 y1, LeO (inst_has.j1 k y0 y1) (inst_has.j1 (k + 1) y0 y1)) ∧ (∀ y0 y1, LeO (inst_has.j2 k y0 y1) (inst_has.j2 (k + 1) y0 y1))
  | 0 => ⟨fun _ _ r h => by simp [inst_has.j0] at h, fun _ _ r h => by simp [inst_has.j1] at h, fun _ _ r h => by simp [inst_has.j2] at h⟩
  | k + 1 => by
    obtain ⟨ih0, ih1, ih2⟩ := inst_has.mono_l k
    refine ⟨?_, ?_, ?_⟩
    · intro y0 y1
      unfold inst_has.j0
      repeat' first
      | (with_reducible exact ih0 _ _)
      | (with_reducible exact ih1 _ _)
      | (with_reducible exact ih2 _ _)
      | (with_reducible exact LeO.refl _)
      | (with_reducible exact LeO.none _)
      | (with_reducible refine LeO.ite ?_ ?_)
      | (with_reducible refine LeO.bind ?_ (fun _ => ?_))
      | exact ih0 _ _
      | exact ih1 _ _
      | exact ih2 _ _
      | exact LeO.none _
      | refine LeO.ite ?_ ?_
      | refine LeO.bind ?_ (fun _ => ?_)
    · intro y0 y1
      unfold inst_has.j1
      repeat' first
      | (with_reducible exact ih0 _ _)
      | (with_reducible exact ih1 _ _)
      | (with_reducible exact ih2 _ _)
      | (with_reducible exact LeO.refl _)
      | (with_reducible exact LeO.none _)
      | (with_reducible refine LeO.ite ?_ ?_)
      | (with_reducible refine LeO.bind ?_ (fun _ => ?_))
      | exact ih0 _ _
      | exact ih1 _ _
      | exact ih2 _ _
      | exact LeO.none _
      | refine LeO.ite ?_ ?_
      | refine LeO.bind ?_ (fun _ => ?_)
    · intro y0 y1
      unfold inst_has.j2
      repeat' first
      | (with_reducible exact ih0 _ _)
      | (with_reducible exact ih1 _ _)
      | (with_reducible exact ih2 _ _)
      | (with_reducible exact LeO.refl _)
      | (with_reducible exact LeO.none _)
      | (with_reducible refine LeO.ite ?_ ?_)
      | (with_reducible refine LeO.bind ?_ (fun _ => ?_))
      | exact ih0 _ _
      | exact ih1 _ _
      | exact ih2 _ _
      | exact LeO.none _
      | refine LeO.ite ?_ ?_
      | refine LeO.bind ?_ (fun _ => ?_)
theorem inst_has.mono : ∀ a0 k, LeO (inst_has.f k a0) (inst_has.f (k + 1) a0) := by
  intro a0 k
  obtain ⟨ih0, ih1, ih2⟩ := inst_has.mono_l k
  unfold inst_has.f
  repeat' first
      | (with_reducible exact ih0 _ _)
      | (with_reducible exact ih1 _ _)
      | (with_reducible exact ih2 _ _)
      | (with_reducible exact LeO.refl _)
      | (with_reducible exact LeO.none _)
      | (with_reducible refine LeO.ite ?_ ?_)
      | (with_reducible refine LeO.bind ?_ (fun _ => ?_))
      | exact ih0 _ _
      | exact ih1 _ _
      | exact ih2 _ _
      | exact LeO.none _
      | refine LeO.ite ?_ ?_
      | refine LeO.bind ?_ (fun _ => ?_)
set_option maxHeartbeats 8000000 in
set_option maxRecDepth 100000 in
theorem inst_has.calls (k : Nat) (a0 : Int) (r1 : Bool) (r2 : Bool) (r3 : Bool) (w : World) (h : inst_has.f k a0 = some (r1, r2, r3)) :
    Calls Tryz.prog 53 #[.int .u8 a0] w fun e w' => e = .returned (.tuple #[.bool r1, .bool r2, .bool r3]) ∧ Drawn0 w w' := by
  have H : (if a0 = 85 then (inst_has.j0 k a0 (a0 == 85)) else (inst_has.j0 k a0 (a0 == 74))) = some (r1, r2, r3) := h
  clear h
  have HC2 := Aside0.mk H
  clear H
  go_enter Tryz.func53, Tryz.ntmps53
  go_upto_if 6 with (fail)
  go_cut [6] (fun v6 wc => ∃ (kq : Nat) (x6_1 : Bool), v6 = .bool x6_1 ∧ Aside0 (inst_has.j0 kq a0 x6_1 = some (r1, r2, r3)) ∧ Aside0 (kq ≤ k) ∧ Drawn0 w wc)
  case first =>
    have H := HC2.out
    clear HC2
    by_cases c3 : a0 = 85
    · rw [if_pos c3] at H
      have c3b0 : (a0 == 85) = true := beq_iff_eq.mpr c3
      have c3b1 : (a0 != 85) = false := bne_eq_false_iff_eq.mpr c3
      clear c3
      (first | rw [c3b0] | (simp only [i64_w, i32_w]; rw [c3b0]) | skip)
      have H' := Aside0.mk H
      clear H
      go_wp2
      go_meet
      case rel => exact ⟨_, ((a0 == 85)), (by first | rfl | (simp; done) | (simp [*]; done)), H', ⟨by first | omega | exact Nat.le_refl _⟩, by repeat (first | exact Drawn0.refl _ | apply Drawn0.step)⟩
    · rw [if_neg c3] at H
      have c3b0 : (a0 == 85) = false := beq_eq_false_iff_ne.mpr c3
      have c3b1 : (a0 != 85) = true := bne_iff_ne.mpr c3
      (first | rw [c3b0] | (simp only [i64_w, i32_w]; rw [c3b0]) | skip)
      have H' := Aside0.mk H
      clear H
      go_wp2
      go_meet
      case rel => exact ⟨_, ((a0 == 74)), (by first | rfl | (simp; done) | (simp [*]; done)), H', ⟨by first | omega | exact Nat.le_refl _⟩, by repeat (first | exact Drawn0.refl _ | apply Drawn0.step)⟩
  case rest =>
    clear HC2
    try clear p2
    try clear c3
    try clear c3b0
    try clear c3b1
    obtain ⟨kq, x6_1, rfl, HA, HJ1, ⟨mc1, rfl⟩⟩ := hcut
    cases kq with
    | zero => exact absurd HA.out (by simp [inst_has.j0])
    | succ kj1 =>
      have H := HA.out
      clear HA
      simp only [inst_has.j0] at H
      by_cases c4 : x6_1 = true
      · subst c4
        have H1 : (some (true, false, false)) = some (r1, r2, r3) := by rw [if_pos rfl] at H; exact H
        clear H
        have H := H1
        clear H1
        simp only [Option.some.injEq, Prod.mk.injEq] at H
        obtain ⟨rfl, rfl, rfl⟩ := H
        go_wp2
        go_ret3
        exact ⟨by first | rfl | (simp; done) | (simp [*]; done), by repeat (first | exact Drawn0.refl _ | apply Drawn0.step)⟩
      · replace c4 := Bool.eq_false_iff.mpr c4
        subst c4
        have H1 : (if a0 = 73 then (inst_has.j1 kj1 a0 (a0 == 73)) else (inst_has.j1 kj1 a0 (a0 == 72))) = some (r1, r2, r3) := by rw [if_neg (show ¬ (false = true) by decide)] at H; exact H
        clear H
        have H := H1
        clear H1
        have HC5 := Aside0.mk H
        clear H
        go_upto_if 9 with (fail)
        go_cut [9] (fun v9 wc => ∃ (kq : Nat) (x9_4 : Bool), v9 = .bool x9_4 ∧ Aside0 (inst_has.j1 kq a0 x9_4 = some (r1, r2, r3)) ∧ Aside0 (kq ≤ kj1) ∧ Drawn0 w wc)
        case first =>
          have H := HC5.out
          clear HC5
          by_cases c6 : a0 = 73
          · rw [if_pos c6] at H
            have c6b0 : (a0 == 73) = true := beq_iff_eq.mpr c6
            have c6b1 : (a0 != 73) = false := bne_eq_false_iff_eq.mpr c6
            clear c6
            (first | rw [c6b0] | (simp only [i64_w, i32_w]; rw [c6b0]) | skip)
            have H' := Aside0.mk H
            clear H
            go_wp2
            go_meet
            case rel => exact ⟨_, ((a0 == 73)), (by first | rfl | (simp; done) | (simp [*]; done)), H', ⟨by have := HJ1.out; first | omega | exact Nat.le_refl _⟩, by repeat (first | exact Drawn0.refl _ | apply Drawn0.step)⟩
          · rw [if_neg c6] at H
            have c6b0 : (a0 == 73) = false := beq_eq_false_iff_ne.mpr c6
            have c6b1 : (a0 != 73) = true := bne_iff_ne.mpr c6
            (first | rw [c6b0] | (simp only [i64_w, i32_w]; rw [c6b0]) | skip)
            have H' := Aside0.mk H
            clear H
            go_wp2
            go_meet
            case rel => exact ⟨_, ((a0 == 72)), (by first | rfl | (simp; done) | (simp [*]; done)), H', ⟨by have := HJ1.out; first | omega | exact Nat.le_refl _⟩, by repeat (first | exact Drawn0.refl _ | apply Drawn0.step)⟩
        case rest =>
          clear HC5
          try clear c1
          try clear p2
          try clear c3
          try clear c3b0
          try clear c3b1
          try clear c4
          try clear c5
          try clear c6
          try clear c6b0
          try clear c6b1
          try clear p2
          obtain ⟨kq, x9_4, rfl, HA, HJ4, ⟨mc4, rfl⟩⟩ := hcut
          cases kq with
          | zero => exact absurd HA.out (by simp [inst_has.j1])
          | succ kj4 =>
            have H := HA.out
            clear HA
            simp only [inst_has.j1] at H
            by_cases c7 : x9_4 = true
            · subst c7
              have H1 : (some (true, true, false)) = some (r1, r2, r3) := by rw [if_pos rfl] at H; exact H
              clear H
              have H := H1
              clear H1
              simp only [Option.some.injEq, Prod.mk.injEq] at H
              obtain ⟨rfl, rfl, rfl⟩ := H
              go_wp2
              go_ret3
              exact ⟨by first | rfl | (simp; done) | (simp [*]; done), by repeat (first | exact Drawn0.refl _ | apply Drawn0.step)⟩
            · replace c7 := Bool.eq_false_iff.mpr c7
              subst c7
              have H1 : (if a0 = 66 then (inst_has.j2 kj4 a0 (a0 == 66)) else (inst_has.j2 kj4 a0 (a0 == 83))) = some (r1, r2, r3) := by rw [if_neg (show ¬ (false = true) by decide)] at H; exact H
              clear H
              have H := H1
              clear H1
              have HC8 := Aside0.mk H
              clear H
              go_upto_if 12 with (fail)
              go_cut [12] (fun v12 wc => ∃ (kq : Nat) (x12_7 : Bool), v12 = .bool x12_7 ∧ Aside0 (inst_has.j2 kq a0 x12_7 = some (r1, r2, r3)) ∧ Aside0 (kq ≤ kj4) ∧ Drawn0 w wc)
              case first =>
                have H := HC8.out
                clear HC8
                by_cases c9 : a0 = 66
                · rw [if_pos c9] at H
                  have c9b0 : (a0 == 66) = true := beq_iff_eq.mpr c9
                  have c9b1 : (a0 != 66) = false := bne_eq_false_iff_eq.mpr c9
                  clear c9
                  (first | rw [c9b0] | (simp only [i64_w, i32_w]; rw [c9b0]) | skip)
                  have H' := Aside0.mk H
                  clear H
                  go_wp2
                  go_meet
                  case rel => exact ⟨_, ((a0 == 66)), (by first | rfl | (simp; done) | (simp [*]; done)), H', ⟨by have := HJ1.out; have := HJ4.out; first | omega | exact Nat.le_refl _⟩, by repeat (first | exact Drawn0.refl _ | apply Drawn0.step)⟩
                · rw [if_neg c9] at H
                  have c9b0 : (a0 == 66) = false := beq_eq_false_iff_ne.mpr c9
                  have c9b1 : (a0 != 66) = true := bne_iff_ne.mpr c9
                  (first | rw [c9b0] | (simp only [i64_w, i32_w]; rw [c9b0]) | skip)
                  have H' := Aside0.mk H
                  clear H
                  go_wp2
                  go_meet
                  case rel => exact ⟨_, ((a0 == 83)), (by first | rfl | (simp; done) | (simp [*]; done)), H', ⟨by have := HJ1.out; have := HJ4.out; first | omega | exact Nat.le_refl _⟩, by repeat (first | exact Drawn0.refl _ | apply Drawn0.step)⟩
              case rest =>
                clear HC8
                try clear c1
                try clear p2
                try clear c3
                try clear c3b0
                try clear c3b1
                try clear c4
                try clear c5
                try clear c6
                try clear c6b0
                try clear c6b1
                try clear c7
                try clear c9
                try clear c9b0
                try clear c9b1
                try clear p2
                obtain ⟨kq, x12_7, rfl, HA, HJ7, ⟨mc7, rfl⟩⟩ := hcut
                cases kq with
                | zero => exact absurd HA.out (by simp [inst_has.j2])
                | succ kj7 =>
                  have H := HA.out
                  clear HA
                  simp only [inst_has.j2] at H
                  by_cases c10 : x12_7 = true
                  · subst c10
                    have H1 : (some (false, true, true)) = some (r1, r2, r3) := by rw [if_pos rfl] at H; exact H
                    clear H
                    have H := H1
                    clear H1
                    simp only [Option.some.injEq, Prod.mk.injEq] at H
                    obtain ⟨rfl, rfl, rfl⟩ := H
                    go_wp2
                    go_ret3
                    exact ⟨by first | rfl | (simp; done) | (simp [*]; done), by repeat (first | exact Drawn0.refl _ | apply Drawn0.step)⟩
                  · replace c10 := Bool.eq_false_iff.mpr c10
                    subst c10
                    have H1 : (if a0 = 82 then (some (true, true, true)) else (some (false, false, false))) = some (r1, r2, r3) := by rw [if_neg (show ¬ (false = true) by decide)] at H; exact H
                    clear H
                    have H := H1
                    clear H1
                    by_cases c11 : a0 = 82
                    · rw [if_pos c11] at H
                      have c11b0 : (a0 == 82) = true := beq_iff_eq.mpr c11
                      have c11b1 : (a0 != 82) = false := bne_eq_false_iff_eq.mpr c11
                      clear c11
                      simp only [Option.some.injEq, Prod.mk.injEq] at H
                      obtain ⟨rfl, rfl, rfl⟩ := H
                      go_wp2
                      go_ret3
                      exact ⟨by first | rfl | (simp; done) | (simp [*]; done), by repeat (first | exact Drawn0.refl _ | apply Drawn0.step)⟩
                    · rw [if_neg c11] at H
                      have c11b0 : (a0 == 82) = false := beq_eq_false_iff_ne.mpr c11
                      have c11b1 : (a0 != 82) = true := bne_iff_ne.mpr c11
                      simp only [Option.some.injEq, Prod.mk.injEq] at H
                      obtain ⟨rfl, rfl, rfl⟩ := H
                      go_wp2
                      go_ret3
                      exact ⟨by first | rfl | (simp; done) | (simp [*]; done), by repeat (first | exact Drawn0.refl _ | apply Drawn0.step)⟩

/-! ### inst_between: function 74 -/
def inst_between.f (a0 : Int) (a1 : Int) (a2 : Int) : Option (Bool) := if a0 ≥ a1 then (some (decide (a0 ≤ a2))) else (some false)
set_option maxHeartbeats 8000000 in
set_option maxRecDepth 100000 in
theorem inst_between.calls (a0 : Int) (a1 : Int) (a2 : Int) (r : Bool) (w : World) (h : inst_between.f a0 a1 a2 = some r) :
    Calls Tryz.prog 74 #[.int .i64 a0, .int .i64 a1, .int .i64 a2] w fun e w' => e = .returned (.bool r) ∧ Drawn0 w w' := by
  have H : (if a0 ≥ a1 then (some (decide (a0 ≤ a2))) else (some false)) = some r := h
  clear h
  by_cases c4 : a0 ≥ a1
  · rw [if_pos c4] at H
    have c4b0 : decide (a1 ≤ a0) = true := decide_eq_true c4
    clear c4
    obtain rfl := Option.some.inj H
    go_enter Tryz.func74, Tryz.ntmps74
    go_wp2
    go_ret
    exact ⟨by first | rfl | (simp; done) | (simp [*]; done), by repeat (first | exact Drawn0.refl _ | apply Drawn0.step)⟩
  · rw [if_neg c4] at H
    have c4b0 : decide (a1 ≤ a0) = false := decide_eq_false c4
    clear c4
    obtain rfl := Option.some.inj H
    go_enter Tryz.func74, Tryz.ntmps74
    go_wp2
    go_ret
    exact ⟨by first | rfl | (simp; done) | (simp [*]; done), by repeat (first | exact Drawn0.refl _ | apply Drawn0.step)⟩

/-! ### inst_register: function 54 -/
def inst_register.f (a0 : Bool) (a1 : Int) : Option (Bool) := if a0 = true then ((inst_between.f a1 0 31).bind fun t145 => (if t145 = true then (some true) else (some (a1 == 0)))) else (some (a1 == 0))
set_option maxHeartbeats 8000000 in
set_option maxRecDepth 100000 in
theorem inst_register.calls (a0 : Bool) (a1 : Int) (r : Bool) (w : World) (h : inst_register.f a0 a1 = some r) :
    Calls Tryz.prog 54 #[.bool a0, .int .i64 a1] w fun e w' => e = .returned (.bool r) ∧ Drawn0 w w' := by
  have H : (if a0 = true then ((inst_between.f a1 0 31).bind fun t145 => (if t145 = true then (some true) else (some (a1 == 0)))) else (some (a1 == 0))) = some r := h
  clear h
  by_cases c3 : a0 = true
  · subst c3
    have H1 : ((inst_between.f a1 0 31).bind fun t145 => (if t145 = true then (some true) else (some (a1 == 0)))) = some r := by rw [if_pos rfl] at H; exact H
    clear H
    have H := H1
    clear H1
    replace H := Option.bind_eq_some_iff.mp H
    obtain ⟨t145, A40, H⟩ := H
    replace H : (if t145 = true then (some true) else (some (a1 == 0))) = some r := H
    have A4 := Aside0.mk A40
    clear A40
    by_cases c5 : t145 = true
    · subst c5
      have H1 : (some true) = some r := by rw [if_pos rfl] at H; exact H
      clear H
      have H := H1
      clear H1
      obtain rfl := Option.some.inj H
      go_enter Tryz.func54, Tryz.ntmps54
      go_wp2_with (first | (go_at_call 74; (with_reducible refine (inst_between.calls a1 0 31 true _ A4.out).mono ?_); rintro e w' ⟨rfl, ⟨nd, rfl⟩⟩))
      go_ret
      exact ⟨by first | rfl | (simp; done) | (simp [*]; done), by repeat (first | exact Drawn0.refl _ | apply Drawn0.step)⟩
    · replace c5 := Bool.eq_false_iff.mpr c5
      subst c5
      have H1 : (some (a1 == 0)) = some r := by rw [if_neg (show ¬ (false = true) by decide)] at H; exact H
      clear H
      have H := H1
      clear H1
      obtain rfl := Option.some.inj H
      go_enter Tryz.func54, Tryz.ntmps54
      go_wp2_with (first | (go_at_call 74; (with_reducible refine (inst_between.calls a1 0 31 false _ A4.out).mono ?_); rintro e w' ⟨rfl, ⟨nd, rfl⟩⟩))
      go_ret
      exact ⟨by first | rfl | (simp; done) | (simp [*]; done), by repeat (first | exact Drawn0.refl _ | apply Drawn0.step)⟩
  · replace c3 := Bool.eq_false_iff.mpr c3
    subst c3
    have H1 : (some (a1 == 0)) = some r := by rw [if_neg (show ¬ (false = true) by decide)] at H; exact H
    clear H
    have H := H1
    clear H1
    obtain rfl := Option.some.inj H
    go_enter Tryz.func54, Tryz.ntmps54
    go_wp2
    go_ret
    exact ⟨by first | rfl | (simp; done) | (simp [*]; done), by repeat (first | exact Drawn0.refl _ | apply Drawn0.step)⟩

/-! ### inst_number: function 55 -/
def inst_number.j0 : Nat → Int → Int → Bool → Option (Bool)
  | 0, _, _, _ => none
  | k + 1, x1, x5, x19 => if x19 = true then ((inst_between.f x1 (-2048) 2047).bind fun t148 => (some t148)) else (if x5 = 66 then ((inst_between.f x1 (-4096) 4094).bind fun t149 => (if t149 = true then (some ((Int.tmod x1 2) == 0)) else (some false))) else (if x5 = 72 then ((inst_between.f x1 0 31).bind fun t150 => (some t150)) else (some (x1 == 0))))
def inst_number.f (k : Nat) (a0 : Int) (a1 : Int) : Option (Bool) := if a0 = 85 then ((inst_between.f a1 0 1048575).bind fun t146 => (some t146)) else (if a0 = 74 then ((inst_between.f a1 (-1048576) 1048574).bind fun t147 => (if t147 = true then (some ((Int.tmod a1 2) == 0)) else (some false))) else (if a0 = 73 then (inst_number.j0 k a1 a0 (a0 == 73)) else (inst_number.j0 k a1 a0 (a0 == 83))))
theorem inst_number.mono_l : ∀ k, (∀ y0 y1 y2, LeO (inst_number.j0 k y0 y1 y2) (inst_number.j0 (k + 1) y0 y1 y2))
  | 0 => fun _ _ _ r h => by simp [inst_number.j0] at h
  | k + 1 => by
    have ih0 := inst_number.mono_l k
    · intro y0 y1 y2
      unfold inst_number.j0
      repeat' first
      | (with_reducible exact ih0 _ _ _)
      | (with_reducible exact LeO.refl _)
      | (with_reducible exact LeO.none _)
      | (with_reducible refine LeO.ite ?_ ?_)
      | (with_reducible refine LeO.bind ?_ (fun _ => ?_))
      | exact ih0 _ _ _
      | exact LeO.none _
      | refine LeO.ite ?_ ?_
      | refine LeO.bind ?_ (fun _ => ?_)
theorem inst_number.mono : ∀ a0 a1 k, LeO (inst_number.f k a0 a1) (inst_number.f (k + 1) a0 a1) := by
  intro a0 a1 k
  have ih0 := inst_number.mono_l k
  unfold inst_number.f
  repeat' first
      | (with_reducible exact ih0 _ _ _)
      | (with_reducible exact LeO.refl _)
      | (with_reducible exact LeO.none _)
      | (with_reducible refine LeO.ite ?_ ?_)
      | (with_reducible refine LeO.bind ?_ (fun _ => ?_))
      | exact ih0 _ _ _
      | exact LeO.none _
      | refine LeO.ite ?_ ?_
      | refine LeO.bind ?_ (fun _ => ?_)
set_option maxHeartbeats 8000000 in
set_option maxRecDepth 100000 in
theorem inst_number.calls (k : Nat) (a0 : Int) (a1 : Int) (r : Bool) (w : World) (h : inst_number.f k a0 a1 = some r) :
    Calls Tryz.prog 55 #[.int .u8 a0, .int .i64 a1] w fun e w' => e = .returned (.bool r) ∧ Drawn0 w w' := by
  have H : (if a0 = 85 then ((inst_between.f a1 0 1048575).bind fun t146 => (some t146)) else (if a0 = 74 then ((inst_between.f a1 (-1048576) 1048574).bind fun t147 => (if t147 = true then (some ((Int.tmod a1 2) == 0)) else (some false))) else (if a0 = 73 then (inst_number.j0 k a1 a0 (a0 == 73)) else (inst_number.j0 k a1 a0 (a0 == 83))))) = some r := h
  clear h
  by_cases c3 : a0 = 85
  · rw [if_pos c3] at H
    have c3b0 : (a0 == 85) = true := beq_iff_eq.mpr c3
    have c3b1 : (a0 != 85) = false := bne_eq_false_iff_eq.mpr c3
    clear c3
    replace H := Option.bind_eq_some_iff.mp H
    obtain ⟨t146, A40, H⟩ := H
    replace H : (some t146) = some r := H
    have A4 := Aside0.mk A40
    clear A40
    obtain rfl := Option.some.inj H
    go_enter Tryz.func55, Tryz.ntmps55
    go_wp2_with (first | ((with_reducible refine gate_callee (f := 74) rfl ?_); refine goesL_ (some 9) rfl rfl Tryz.func74 (by kernel_rfl) rfl #[.int .i64 a1, .int .i64 0, .int .i64 1048575] rfl (by (try simp only [List.map_toArray, List.map_cons, List.map_nil]); first | done | rfl | (simp only [List.length_drop, List.length_take]; rfl)) ?_; (with_reducible refine (inst_between.calls a1 0 1048575 t146 _ A4.out).mono ?_); rintro e w' ⟨rfl, ⟨nd, rfl⟩⟩; refine ⟨_, rfl, ?_⟩))
    go_ret
    exact ⟨by first | rfl | (simp; done) | (simp [*]; done), by repeat (first | exact Drawn0.refl _ | apply Drawn0.step)⟩
  · rw [if_neg c3] at H
    have c3b0 : (a0 == 85) = false := beq_eq_false_iff_ne.mpr c3
    have c3b1 : (a0 != 85) = true := bne_iff_ne.mpr c3
    by_cases c5 : a0 = 74
    · rw [if_pos c5] at H
      have c5b0 : (a0 == 74) = true := beq_iff_eq.mpr c5
      have c5b1 : (a0 != 74) = false := bne_eq_false_iff_eq.mpr c5
      clear c5
      replace H := Option.bind_eq_some_iff.mp H
      obtain ⟨t147, A60, H⟩ := H
      replace H : (if t147 = true then (some ((Int.tmod a1 2) == 0)) else (some false)) = some r := H
      have A6 := Aside0.mk A60
      clear A60
      by_cases c7 : t147 = true
      · subst c7
        have H1 : (some ((Int.tmod a1 2) == 0)) = some r := by rw [if_pos rfl] at H; exact H
        clear H
        have H := H1
        clear H1
        obtain rfl := Option.some.inj H
        go_enter Tryz.func55, Tryz.ntmps55
        go_wp2_with (first | ((with_reducible refine gate_callee (f := 74) rfl ?_); refine goesL_ (some 13) rfl rfl Tryz.func74 (by kernel_rfl) rfl #[.int .i64 a1, .int .i64 (-1048576), .int .i64 1048574] rfl (by (try simp only [List.map_toArray, List.map_cons, List.map_nil]); first | done | rfl | (simp only [List.length_drop, List.length_take]; rfl)) ?_; (with_reducible refine (inst_between.calls a1 (-1048576) 1048574 true _ A6.out).mono ?_); rintro e w' ⟨rfl, ⟨nd, rfl⟩⟩; refine ⟨_, rfl, ?_⟩))
        go_ret
        exact ⟨by first | rfl | (simp; done) | (simp [*]; done), by repeat (first | exact Drawn0.refl _ | apply Drawn0.step)⟩
      · replace c7 := Bool.eq_false_iff.mpr c7
        subst c7
        have H1 : (some false) = some r := by rw [if_neg (show ¬ (false = true) by decide)] at H; exact H
        clear H
        have H := H1
        clear H1
        obtain rfl := Option.some.inj H
        go_enter Tryz.func55, Tryz.ntmps55
        go_wp2_with (first | ((with_reducible refine gate_callee (f := 74) rfl ?_); refine goesL_ (some 13) rfl rfl Tryz.func74 (by kernel_rfl) rfl #[.int .i64 a1, .int .i64 (-1048576), .int .i64 1048574] rfl (by (try simp only [List.map_toArray, List.map_cons, List.map_nil]); first | done | rfl | (simp only [List.length_drop, List.length_take]; rfl)) ?_; (with_reducible refine (inst_between.calls a1 (-1048576) 1048574 false _ A6.out).mono ?_); rintro e w' ⟨rfl, ⟨nd, rfl⟩⟩; refine ⟨_, rfl, ?_⟩))
        go_ret
        exact ⟨by first | rfl | (simp; done) | (simp [*]; done), by repeat (first | exact Drawn0.refl _ | apply Drawn0.step)⟩
    · rw [if_neg c5] at H
      have c5b0 : (a0 == 74) = false := beq_eq_false_iff_ne.mpr c5
      have c5b1 : (a0 != 74) = true := bne_iff_ne.mpr c5
      have HC8 := Aside0.mk H
      clear H
      go_enter Tryz.func55, Tryz.ntmps55
      go_upto_if 19 with (fail)
      go_cut [19] (fun v19 wc => ∃ (kq : Nat) (x19_7 : Bool), v19 = .bool x19_7 ∧ Aside0 (inst_number.j0 kq a1 a0 x19_7 = some r) ∧ Aside0 (kq ≤ k) ∧ Drawn0 w wc)
      case first =>
        have H := HC8.out
        clear HC8
        by_cases c9 : a0 = 73
        · rw [if_pos c9] at H
          have c9b0 : (a0 == 73) = true := beq_iff_eq.mpr c9
          have c9b1 : (a0 != 73) = false := bne_eq_false_iff_eq.mpr c9
          clear c9
          (first | rw [c9b0] | (simp only [i64_w, i32_w]; rw [c9b0]) | skip)
          have H' := Aside0.mk H
          clear H
          go_wp2
          go_meet
          case rel => exact ⟨_, ((a0 == 73)), (by first | rfl | (simp; done) | (simp [*]; done)), H', ⟨by first | omega | exact Nat.le_refl _⟩, by repeat (first | exact Drawn0.refl _ | apply Drawn0.step)⟩
        · rw [if_neg c9] at H
          have c9b0 : (a0 == 73) = false := beq_eq_false_iff_ne.mpr c9
          have c9b1 : (a0 != 73) = true := bne_iff_ne.mpr c9
          (first | rw [c9b0] | (simp only [i64_w, i32_w]; rw [c9b0]) | skip)
          have H' := Aside0.mk H
          clear H
          go_wp2
          go_meet
          case rel => exact ⟨_, ((a0 == 83)), (by first | rfl | (simp; done) | (simp [*]; done)), H', ⟨by first | omega | exact Nat.le_refl _⟩, by repeat (first | exact Drawn0.refl _ | apply Drawn0.step)⟩
      case rest =>
        clear HC8
        try clear p2
        try clear c3
        try clear c3b0
        try clear c3b1
        try clear c5
        try clear c5b0
        try clear c5b1
        try clear c7
        try clear c9
        try clear c9b0
        try clear c9b1
        obtain ⟨kq, x19_7, rfl, HA, HJ7, ⟨mc7, rfl⟩⟩ := hcut
        cases kq with
        | zero => exact absurd HA.out (by simp [inst_number.j0])
        | succ kj7 =>
          have H := HA.out
          clear HA
          simp only [inst_number.j0] at H
          by_cases c10 : x19_7 = true
          · subst c10
            have H1 : ((inst_between.f a1 (-2048) 2047).bind fun t148 => (some t148)) = some r := by rw [if_pos rfl] at H; exact H
            clear H
            have H := H1
            clear H1
            replace H := Option.bind_eq_some_iff.mp H
            obtain ⟨t148, A110, H⟩ := H
            replace H : (some t148) = some r := H
            have A11 := Aside0.mk A110
            clear A110
            obtain rfl := Option.some.inj H
            go_wp2_with (first | ((with_reducible refine gate_callee (f := 74) rfl ?_); refine goesL_ (some 23) rfl rfl Tryz.func74 (by kernel_rfl) rfl #[.int .i64 a1, .int .i64 (-2048), .int .i64 2047] rfl (by (try simp only [List.map_toArray, List.map_cons, List.map_nil]); first | done | rfl | (simp only [List.length_drop, List.length_take]; rfl)) ?_; (with_reducible refine (inst_between.calls a1 (-2048) 2047 t148 _ A11.out).mono ?_); rintro e w' ⟨rfl, ⟨nd, rfl⟩⟩; refine ⟨_, rfl, ?_⟩))
            go_ret
            exact ⟨by first | rfl | (simp; done) | (simp [*]; done), by repeat (first | exact Drawn0.refl _ | apply Drawn0.step)⟩
          · replace c10 := Bool.eq_false_iff.mpr c10
            subst c10
            have H1 : (if a0 = 66 then ((inst_between.f a1 (-4096) 4094).bind fun t149 => (if t149 = true then (some ((Int.tmod a1 2) == 0)) else (some false))) else (if a0 = 72 then ((inst_between.f a1 0 31).bind fun t150 => (some t150)) else (some (a1 == 0)))) = some r := by rw [if_neg (show ¬ (false = true) by decide)] at H; exact H
            clear H
            have H := H1
            clear H1
            by_cases c12 : a0 = 66
            · rw [if_pos c12] at H
              have c12b0 : (a0 == 66) = true := beq_iff_eq.mpr c12
              have c12b1 : (a0 != 66) = false := bne_eq_false_iff_eq.mpr c12
              clear c12
              replace H := Option.bind_eq_some_iff.mp H
              obtain ⟨t149, A130, H⟩ := H
              replace H : (if t149 = true then (some ((Int.tmod a1 2) == 0)) else (some false)) = some r := H
              have A13 := Aside0.mk A130
              clear A130
              by_cases c14 : t149 = true
              · subst c14
                have H1 : (some ((Int.tmod a1 2) == 0)) = some r := by rw [if_pos rfl] at H; exact H
                clear H
                have H := H1
                clear H1
                obtain rfl := Option.some.inj H
                go_wp2_with (first | ((with_reducible refine gate_callee (f := 74) rfl ?_); refine goesL_ (some 27) rfl rfl Tryz.func74 (by kernel_rfl) rfl #[.int .i64 a1, .int .i64 (-4096), .int .i64 4094] rfl (by (try simp only [List.map_toArray, List.map_cons, List.map_nil]); first | done | rfl | (simp only [List.length_drop, List.length_take]; rfl)) ?_; (with_reducible refine (inst_between.calls a1 (-4096) 4094 true _ A13.out).mono ?_); rintro e w' ⟨rfl, ⟨nd, rfl⟩⟩; refine ⟨_, rfl, ?_⟩))
                go_ret
                exact ⟨by first | rfl | (simp; done) | (simp [*]; done), by repeat (first | exact Drawn0.refl _ | apply Drawn0.step)⟩
              · replace c14 := Bool.eq_false_iff.mpr c14
                subst c14
                have H1 : (some false) = some r := by rw [if_neg (show ¬ (false = true) by decide)] at H; exact H
                clear H
                have H := H1
                clear H1
                obtain rfl := Option.some.inj H
                go_wp2_with (first | ((with_reducible refine gate_callee (f := 74) rfl ?_); refine goesL_ (some 27) rfl rfl Tryz.func74 (by kernel_rfl) rfl #[.int .i64 a1, .int .i64 (-4096), .int .i64 4094] rfl (by (try simp only [List.map_toArray, List.map_cons, List.map_nil]); first | done | rfl | (simp only [List.length_drop, List.length_take]; rfl)) ?_; (with_reducible refine (inst_between.calls a1 (-4096) 4094 false _ A13.out).mono ?_); rintro e w' ⟨rfl, ⟨nd, rfl⟩⟩; refine ⟨_, rfl, ?_⟩))
                go_ret
                exact ⟨by first | rfl | (simp; done) | (simp [*]; done), by repeat (first | exact Drawn0.refl _ | apply Drawn0.step)⟩
            · rw [if_neg c12] at H
              have c12b0 : (a0 == 66) = false := beq_eq_false_iff_ne.mpr c12
              have c12b1 : (a0 != 66) = true := bne_iff_ne.mpr c12
              by_cases c15 : a0 = 72
              · rw [if_pos c15] at H
                have c15b0 : (a0 == 72) = true := beq_iff_eq.mpr c15
                have c15b1 : (a0 != 72) = false := bne_eq_false_iff_eq.mpr c15
                clear c15
                replace H := Option.bind_eq_some_iff.mp H
                obtain ⟨t150, A160, H⟩ := H
                replace H : (some t150) = some r := H
                have A16 := Aside0.mk A160
                clear A160
                obtain rfl := Option.some.inj H
                go_wp2_with (first | ((with_reducible refine gate_callee (f := 74) rfl ?_); refine goesL_ (some 36) rfl rfl Tryz.func74 (by kernel_rfl) rfl #[.int .i64 a1, .int .i64 0, .int .i64 31] rfl (by (try simp only [List.map_toArray, List.map_cons, List.map_nil]); first | done | rfl | (simp only [List.length_drop, List.length_take]; rfl)) ?_; (with_reducible refine (inst_between.calls a1 0 31 t150 _ A16.out).mono ?_); rintro e w' ⟨rfl, ⟨nd, rfl⟩⟩; refine ⟨_, rfl, ?_⟩))
                go_ret
                exact ⟨by first | rfl | (simp; done) | (simp [*]; done), by repeat (first | exact Drawn0.refl _ | apply Drawn0.step)⟩
              · rw [if_neg c15] at H
                have c15b0 : (a0 == 72) = false := beq_eq_false_iff_ne.mpr c15
                have c15b1 : (a0 != 72) = true := bne_iff_ne.mpr c15
                obtain rfl := Option.some.inj H
                go_wp2
                go_ret
                exact ⟨by first | rfl | (simp; done) | (simp [*]; done), by repeat (first | exact Drawn0.refl _ | apply Drawn0.step)⟩

/-! ### asm_around: function 30 -/
def asm_around.f (a0 : Int) : Option (Bool) := if a0 = 3 then (some true) else (if a0 ≥ 10 then (some (decide (a0 ≤ 14))) else (some false))
set_option maxHeartbeats 8000000 in
set_option maxRecDepth 100000 in
theorem asm_around.calls (a0 : Int) (r : Bool) (w : World) (h : asm_around.f a0 = some r) :
    Calls Tryz.prog 30 #[.int .i64 a0] w fun e w' => e = .returned (.bool r) ∧ Drawn0 w w' := by
  have H : (if a0 = 3 then (some true) else (if a0 ≥ 10 then (some (decide (a0 ≤ 14))) else (some false))) = some r := h
  clear h
  by_cases c2 : a0 = 3
  · rw [if_pos c2] at H
    have c2b0 : (a0 == 3) = true := beq_iff_eq.mpr c2
    have c2b1 : (a0 != 3) = false := bne_eq_false_iff_eq.mpr c2
    clear c2
    obtain rfl := Option.some.inj H
    go_enter Tryz.func30, Tryz.ntmps30
    go_wp2
    go_ret
    exact ⟨by first | rfl | (simp; done) | (simp [*]; done), by repeat (first | exact Drawn0.refl _ | apply Drawn0.step)⟩
  · rw [if_neg c2] at H
    have c2b0 : (a0 == 3) = false := beq_eq_false_iff_ne.mpr c2
    have c2b1 : (a0 != 3) = true := bne_iff_ne.mpr c2
    by_cases c3 : a0 ≥ 10
    · rw [if_pos c3] at H
      have c3b0 : decide (10 ≤ a0) = true := decide_eq_true c3
      clear c3
      obtain rfl := Option.some.inj H
      go_enter Tryz.func30, Tryz.ntmps30
      go_wp2
      go_ret
      exact ⟨by first | rfl | (simp; done) | (simp [*]; done), by repeat (first | exact Drawn0.refl _ | apply Drawn0.step)⟩
    · rw [if_neg c3] at H
      have c3b0 : decide (10 ≤ a0) = false := decide_eq_false c3
      clear c3
      obtain rfl := Option.some.inj H
      go_enter Tryz.func30, Tryz.ntmps30
      go_wp2
      go_ret
      exact ⟨by first | rfl | (simp; done) | (simp [*]; done), by repeat (first | exact Drawn0.refl _ | apply Drawn0.step)⟩

/-! ### whetstoneref05_names: function 39 -/
def whetstoneref05_names.f  : Option (List ByteArray) := some (([(⟨#[108, 117, 105]⟩ : ByteArray), (⟨#[97, 117, 105, 112, 99]⟩ : ByteArray), (⟨#[106, 97, 108]⟩ : ByteArray), (⟨#[106, 97, 108, 114]⟩ : ByteArray), (⟨#[98, 101, 113]⟩ : ByteArray), (⟨#[98, 110, 101]⟩ : ByteArray), (⟨#[98, 108, 116]⟩ : ByteArray), (⟨#[98, 103, 101]⟩ : ByteArray), (⟨#[98, 108, 116, 117]⟩ : ByteArray), (⟨#[98, 103, 101, 117]⟩ : ByteArray), (⟨#[108, 98]⟩ : ByteArray), (⟨#[108, 104]⟩ : ByteArray), (⟨#[108, 119]⟩ : ByteArray), (⟨#[108, 98, 117]⟩ : ByteArray), (⟨#[108, 104, 117]⟩ : ByteArray), (⟨#[115, 98]⟩ : ByteArray), (⟨#[115, 104]⟩ : ByteArray), (⟨#[115, 119]⟩ : ByteArray), (⟨#[97, 100, 100, 105]⟩ : ByteArray), (⟨#[115, 108, 116, 105]⟩ : ByteArray), (⟨#[115, 108, 116, 105, 117]⟩ : ByteArray), (⟨#[120, 111, 114, 105]⟩ : ByteArray), (⟨#[111, 114, 105]⟩ : ByteArray), (⟨#[97, 110, 100, 105]⟩ : ByteArray), (⟨#[115, 108, 108, 105]⟩ : ByteArray), (⟨#[115, 114, 108, 105]⟩ : ByteArray), (⟨#[115, 114, 97, 105]⟩ : ByteArray), (⟨#[97, 100, 100]⟩ : ByteArray), (⟨#[115, 117, 98]⟩ : ByteArray), (⟨#[115, 108, 108]⟩ : ByteArray), (⟨#[115, 108, 116]⟩ : ByteArray), (⟨#[115, 108, 116, 117]⟩ : ByteArray), (⟨#[120, 111, 114]⟩ : ByteArray), (⟨#[115, 114, 108]⟩ : ByteArray), (⟨#[115, 114, 97]⟩ : ByteArray), (⟨#[111, 114]⟩ : ByteArray), (⟨#[97, 110, 100]⟩ : ByteArray), (⟨#[109, 117, 108]⟩ : ByteArray), (⟨#[109, 117, 108, 104]⟩ : ByteArray), (⟨#[109, 117, 108, 104, 115, 117]⟩ : ByteArray), (⟨#[109, 117, 108, 104, 117]⟩ : ByteArray), (⟨#[100, 105, 118]⟩ : ByteArray), (⟨#[100, 105, 118, 117]⟩ : ByteArray), (⟨#[114, 101, 109]⟩ : ByteArray), (⟨#[114, 101, 109, 117]⟩ : ByteArray), (⟨#[101, 99, 97, 108, 108]⟩ : ByteArray), (⟨#[101, 98, 114, 101, 97, 107]⟩ : ByteArray)] : List ByteArray))
set_option maxHeartbeats 8000000 in
set_option maxRecDepth 100000 in
theorem whetstoneref05_names.calls  (r : List ByteArray) (w : World) (h : whetstoneref05_names.f  = some r) :
    Calls Tryz.prog 39 #[] w fun e w' => ∃ v0_ : Value, e = .returned (v0_) ∧ Kd.R Kd.string 9 w' w.heap.size (fun _ => True) v0_ r ∧ Below w.heap.size w w' := by
  have HB := Aside0.mk (Below.refl w.heap.size w)
  have H : (some (([(⟨#[108, 117, 105]⟩ : ByteArray), (⟨#[97, 117, 105, 112, 99]⟩ : ByteArray), (⟨#[106, 97, 108]⟩ : ByteArray), (⟨#[106, 97, 108, 114]⟩ : ByteArray), (⟨#[98, 101, 113]⟩ : ByteArray), (⟨#[98, 110, 101]⟩ : ByteArray), (⟨#[98, 108, 116]⟩ : ByteArray), (⟨#[98, 103, 101]⟩ : ByteArray), (⟨#[98, 108, 116, 117]⟩ : ByteArray), (⟨#[98, 103, 101, 117]⟩ : ByteArray), (⟨#[108, 98]⟩ : ByteArray), (⟨#[108, 104]⟩ : ByteArray), (⟨#[108, 119]⟩ : ByteArray), (⟨#[108, 98, 117]⟩ : ByteArray), (⟨#[108, 104, 117]⟩ : ByteArray), (⟨#[115, 98]⟩ : ByteArray), (⟨#[115, 104]⟩ : ByteArray), (⟨#[115, 119]⟩ : ByteArray), (⟨#[97, 100, 100, 105]⟩ : ByteArray), (⟨#[115, 108, 116, 105]⟩ : ByteArray), (⟨#[115, 108, 116, 105, 117]⟩ : ByteArray), (⟨#[120, 111, 114, 105]⟩ : ByteArray), (⟨#[111, 114, 105]⟩ : ByteArray), (⟨#[97, 110, 100, 105]⟩ : ByteArray), (⟨#[115, 108, 108, 105]⟩ : ByteArray), (⟨#[115, 114, 108, 105]⟩ : ByteArray), (⟨#[115, 114, 97, 105]⟩ : ByteArray), (⟨#[97, 100, 100]⟩ : ByteArray), (⟨#[115, 117, 98]⟩ : ByteArray), (⟨#[115, 108, 108]⟩ : ByteArray), (⟨#[115, 108, 116]⟩ : ByteArray), (⟨#[115, 108, 116, 117]⟩ : ByteArray), (⟨#[120, 111, 114]⟩ : ByteArray), (⟨#[115, 114, 108]⟩ : ByteArray), (⟨#[115, 114, 97]⟩ : ByteArray), (⟨#[111, 114]⟩ : ByteArray), (⟨#[97, 110, 100]⟩ : ByteArray), (⟨#[109, 117, 108]⟩ : ByteArray), (⟨#[109, 117, 108, 104]⟩ : ByteArray), (⟨#[109, 117, 108, 104, 115, 117]⟩ : ByteArray), (⟨#[109, 117, 108, 104, 117]⟩ : ByteArray), (⟨#[100, 105, 118]⟩ : ByteArray), (⟨#[100, 105, 118, 117]⟩ : ByteArray), (⟨#[114, 101, 109]⟩ : ByteArray), (⟨#[114, 101, 109, 117]⟩ : ByteArray), (⟨#[101, 99, 97, 108, 108]⟩ : ByteArray), (⟨#[101, 98, 114, 101, 97, 107]⟩ : ByteArray)] : List ByteArray))) = some r := h
  clear h
  obtain ⟨y175, hy175⟩ : ∃ y_ : List ByteArray, y_ = (([(⟨#[108, 117, 105]⟩ : ByteArray), (⟨#[97, 117, 105, 112, 99]⟩ : ByteArray), (⟨#[106, 97, 108]⟩ : ByteArray), (⟨#[106, 97, 108, 114]⟩ : ByteArray), (⟨#[98, 101, 113]⟩ : ByteArray), (⟨#[98, 110, 101]⟩ : ByteArray), (⟨#[98, 108, 116]⟩ : ByteArray), (⟨#[98, 103, 101]⟩ : ByteArray), (⟨#[98, 108, 116, 117]⟩ : ByteArray), (⟨#[98, 103, 101, 117]⟩ : ByteArray), (⟨#[108, 98]⟩ : ByteArray), (⟨#[108, 104]⟩ : ByteArray), (⟨#[108, 119]⟩ : ByteArray), (⟨#[108, 98, 117]⟩ : ByteArray), (⟨#[108, 104, 117]⟩ : ByteArray), (⟨#[115, 98]⟩ : ByteArray), (⟨#[115, 104]⟩ : ByteArray), (⟨#[115, 119]⟩ : ByteArray), (⟨#[97, 100, 100, 105]⟩ : ByteArray), (⟨#[115, 108, 116, 105]⟩ : ByteArray), (⟨#[115, 108, 116, 105, 117]⟩ : ByteArray), (⟨#[120, 111, 114, 105]⟩ : ByteArray), (⟨#[111, 114, 105]⟩ : ByteArray), (⟨#[97, 110, 100, 105]⟩ : ByteArray), (⟨#[115, 108, 108, 105]⟩ : ByteArray), (⟨#[115, 114, 108, 105]⟩ : ByteArray), (⟨#[115, 114, 97, 105]⟩ : ByteArray), (⟨#[97, 100, 100]⟩ : ByteArray), (⟨#[115, 117, 98]⟩ : ByteArray), (⟨#[115, 108, 108]⟩ : ByteArray), (⟨#[115, 108, 116]⟩ : ByteArray), (⟨#[115, 108, 116, 117]⟩ : ByteArray), (⟨#[120, 111, 114]⟩ : ByteArray), (⟨#[115, 114, 108]⟩ : ByteArray), (⟨#[115, 114, 97]⟩ : ByteArray), (⟨#[111, 114]⟩ : ByteArray), (⟨#[97, 110, 100]⟩ : ByteArray), (⟨#[109, 117, 108]⟩ : ByteArray), (⟨#[109, 117, 108, 104]⟩ : ByteArray), (⟨#[109, 117, 108, 104, 115, 117]⟩ : ByteArray), (⟨#[109, 117, 108, 104, 117]⟩ : ByteArray), (⟨#[100, 105, 118]⟩ : ByteArray), (⟨#[100, 105, 118, 117]⟩ : ByteArray), (⟨#[114, 101, 109]⟩ : ByteArray), (⟨#[114, 101, 109, 117]⟩ : ByteArray), (⟨#[101, 99, 97, 108, 108]⟩ : ByteArray), (⟨#[101, 98, 114, 101, 97, 107]⟩ : ByteArray)] : List ByteArray)) := ⟨_, rfl⟩
  replace H : (some y175) = some r := by first | (rw [hy175]; with_reducible exact H) | (have H2_ := (Option.bind_some _ _).symm.trans H; rw [hy175]; with_reducible exact H2_) | (have H2_ := (Option.bind_some _ _).symm.trans H; with_reducible exact H2_) | with_reducible exact H | (rw [hy175]; exact H) | exact H
  have Ny175 := Aside0.mk hy175
  clear hy175
  obtain rfl := Option.some.inj H
  go_enter Tryz.func39, Tryz.ntmps39
  go_wp2_with (first | ((with_reducible refine gate_dst (N := 1) rfl ?_); refine Kd.R_lit Kd.string _ 9 ?hg (N := 1) ?hd (xs := ([(⟨#[108, 117, 105]⟩ : ByteArray), (⟨#[97, 117, 105, 112, 99]⟩ : ByteArray), (⟨#[106, 97, 108]⟩ : ByteArray), (⟨#[106, 97, 108, 114]⟩ : ByteArray), (⟨#[98, 101, 113]⟩ : ByteArray), (⟨#[98, 110, 101]⟩ : ByteArray), (⟨#[98, 108, 116]⟩ : ByteArray), (⟨#[98, 103, 101]⟩ : ByteArray), (⟨#[98, 108, 116, 117]⟩ : ByteArray), (⟨#[98, 103, 101, 117]⟩ : ByteArray), (⟨#[108, 98]⟩ : ByteArray), (⟨#[108, 104]⟩ : ByteArray), (⟨#[108, 119]⟩ : ByteArray), (⟨#[108, 98, 117]⟩ : ByteArray), (⟨#[108, 104, 117]⟩ : ByteArray), (⟨#[115, 98]⟩ : ByteArray), (⟨#[115, 104]⟩ : ByteArray), (⟨#[115, 119]⟩ : ByteArray), (⟨#[97, 100, 100, 105]⟩ : ByteArray), (⟨#[115, 108, 116, 105]⟩ : ByteArray), (⟨#[115, 108, 116, 105, 117]⟩ : ByteArray), (⟨#[120, 111, 114, 105]⟩ : ByteArray), (⟨#[111, 114, 105]⟩ : ByteArray), (⟨#[97, 110, 100, 105]⟩ : ByteArray), (⟨#[115, 108, 108, 105]⟩ : ByteArray), (⟨#[115, 114, 108, 105]⟩ : ByteArray), (⟨#[115, 114, 97, 105]⟩ : ByteArray), (⟨#[97, 100, 100]⟩ : ByteArray), (⟨#[115, 117, 98]⟩ : ByteArray), (⟨#[115, 108, 108]⟩ : ByteArray), (⟨#[115, 108, 116]⟩ : ByteArray), (⟨#[115, 108, 116, 117]⟩ : ByteArray), (⟨#[120, 111, 114]⟩ : ByteArray), (⟨#[115, 114, 108]⟩ : ByteArray), (⟨#[115, 114, 97]⟩ : ByteArray), (⟨#[111, 114]⟩ : ByteArray), (⟨#[97, 110, 100]⟩ : ByteArray), (⟨#[109, 117, 108]⟩ : ByteArray), (⟨#[109, 117, 108, 104]⟩ : ByteArray), (⟨#[109, 117, 108, 104, 115, 117]⟩ : ByteArray), (⟨#[109, 117, 108, 104, 117]⟩ : ByteArray), (⟨#[100, 105, 118]⟩ : ByteArray), (⟨#[100, 105, 118, 117]⟩ : ByteArray), (⟨#[114, 101, 109]⟩ : ByteArray), (⟨#[114, 101, 109, 117]⟩ : ByteArray), (⟨#[101, 99, 97, 108, 108]⟩ : ByteArray), (⟨#[101, 98, 114, 101, 97, 107]⟩ : ByteArray)] : List ByteArray)) (inner := [.string (⟨#[108, 117, 105]⟩ : ByteArray), .string (⟨#[97, 117, 105, 112, 99]⟩ : ByteArray), .string (⟨#[106, 97, 108]⟩ : ByteArray), .string (⟨#[106, 97, 108, 114]⟩ : ByteArray), .string (⟨#[98, 101, 113]⟩ : ByteArray), .string (⟨#[98, 110, 101]⟩ : ByteArray), .string (⟨#[98, 108, 116]⟩ : ByteArray), .string (⟨#[98, 103, 101]⟩ : ByteArray), .string (⟨#[98, 108, 116, 117]⟩ : ByteArray), .string (⟨#[98, 103, 101, 117]⟩ : ByteArray), .string (⟨#[108, 98]⟩ : ByteArray), .string (⟨#[108, 104]⟩ : ByteArray), .string (⟨#[108, 119]⟩ : ByteArray), .string (⟨#[108, 98, 117]⟩ : ByteArray), .string (⟨#[108, 104, 117]⟩ : ByteArray), .string (⟨#[115, 98]⟩ : ByteArray), .string (⟨#[115, 104]⟩ : ByteArray), .string (⟨#[115, 119]⟩ : ByteArray), .string (⟨#[97, 100, 100, 105]⟩ : ByteArray), .string (⟨#[115, 108, 116, 105]⟩ : ByteArray), .string (⟨#[115, 108, 116, 105, 117]⟩ : ByteArray), .string (⟨#[120, 111, 114, 105]⟩ : ByteArray), .string (⟨#[111, 114, 105]⟩ : ByteArray), .string (⟨#[97, 110, 100, 105]⟩ : ByteArray), .string (⟨#[115, 108, 108, 105]⟩ : ByteArray), .string (⟨#[115, 114, 108, 105]⟩ : ByteArray), .string (⟨#[115, 114, 97, 105]⟩ : ByteArray), .string (⟨#[97, 100, 100]⟩ : ByteArray), .string (⟨#[115, 117, 98]⟩ : ByteArray), .string (⟨#[115, 108, 108]⟩ : ByteArray), .string (⟨#[115, 108, 116]⟩ : ByteArray), .string (⟨#[115, 108, 116, 117]⟩ : ByteArray), .string (⟨#[120, 111, 114]⟩ : ByteArray), .string (⟨#[115, 114, 108]⟩ : ByteArray), .string (⟨#[115, 114, 97]⟩ : ByteArray), .string (⟨#[111, 114]⟩ : ByteArray), .string (⟨#[97, 110, 100]⟩ : ByteArray), .string (⟨#[109, 117, 108]⟩ : ByteArray), .string (⟨#[109, 117, 108, 104]⟩ : ByteArray), .string (⟨#[109, 117, 108, 104, 115, 117]⟩ : ByteArray), .string (⟨#[109, 117, 108, 104, 117]⟩ : ByteArray), .string (⟨#[100, 105, 118]⟩ : ByteArray), .string (⟨#[100, 105, 118, 117]⟩ : ByteArray), .string (⟨#[114, 101, 109]⟩ : ByteArray), .string (⟨#[114, 101, 109, 117]⟩ : ByteArray), .string (⟨#[101, 99, 97, 108, 108]⟩ : ByteArray), .string (⟨#[101, 98, 114, 101, 97, 107]⟩ : ByteArray)]) (ok := fun _ => True) (okp := fun _ => True) ?hr ?hp (fun _ hk => hk) trivial (Below.refl _ _) (Nat.le_refl _) (by simp) ?_; (case hd => rfl); (case hg => rfl); (case hr => first | (go_simp; done) | (go_simp; rfl)); (case hp => exact (Reps.one (show Kd.M Kd.string _ _ _ (⟨#[108, 117, 105]⟩ : ByteArray) [.string (⟨#[108, 117, 105]⟩ : ByteArray)] from rfl) (Reps.one (show Kd.M Kd.string _ _ _ (⟨#[97, 117, 105, 112, 99]⟩ : ByteArray) [.string (⟨#[97, 117, 105, 112, 99]⟩ : ByteArray)] from rfl) (Reps.one (show Kd.M Kd.string _ _ _ (⟨#[106, 97, 108]⟩ : ByteArray) [.string (⟨#[106, 97, 108]⟩ : ByteArray)] from rfl) (Reps.one (show Kd.M Kd.string _ _ _ (⟨#[106, 97, 108, 114]⟩ : ByteArray) [.string (⟨#[106, 97, 108, 114]⟩ : ByteArray)] from rfl) (Reps.one (show Kd.M Kd.string _ _ _ (⟨#[98, 101, 113]⟩ : ByteArray) [.string (⟨#[98, 101, 113]⟩ : ByteArray)] from rfl) (Reps.one (show Kd.M Kd.string _ _ _ (⟨#[98, 110, 101]⟩ : ByteArray) [.string (⟨#[98, 110, 101]⟩ : ByteArray)] from rfl) (Reps.one (show Kd.M Kd.string _ _ _ (⟨#[98, 108, 116]⟩ : ByteArray) [.string (⟨#[98, 108, 116]⟩ : ByteArray)] from rfl) (Reps.one (show Kd.M Kd.string _ _ _ (⟨#[98, 103, 101]⟩ : ByteArray) [.string (⟨#[98, 103, 101]⟩ : ByteArray)] from rfl) (Reps.one (show Kd.M Kd.string _ _ _ (⟨#[98, 108, 116, 117]⟩ : ByteArray) [.string (⟨#[98, 108, 116, 117]⟩ : ByteArray)] from rfl) (Reps.one (show Kd.M Kd.string _ _ _ (⟨#[98, 103, 101, 117]⟩ : ByteArray) [.string (⟨#[98, 103, 101, 117]⟩ : ByteArray)] from rfl) (Reps.one (show Kd.M Kd.string _ _ _ (⟨#[108, 98]⟩ : ByteArray) [.string (⟨#[108, 98]⟩ : ByteArray)] from rfl) (Reps.one (show Kd.M Kd.string _ _ _ (⟨#[108, 104]⟩ : ByteArray) [.string (⟨#[108, 104]⟩ : ByteArray)] from rfl) (Reps.one (show Kd.M Kd.string _ _ _ (⟨#[108, 119]⟩ : ByteArray) [.string (⟨#[108, 119]⟩ : ByteArray)] from rfl) (Reps.one (show Kd.M Kd.string _ _ _ (⟨#[108, 98, 117]⟩ : ByteArray) [.string (⟨#[108, 98, 117]⟩ : ByteArray)] from rfl) (Reps.one (show Kd.M Kd.string _ _ _ (⟨#[108, 104, 117]⟩ : ByteArray) [.string (⟨#[108, 104, 117]⟩ : ByteArray)] from rfl) (Reps.one (show Kd.M Kd.string _ _ _ (⟨#[115, 98]⟩ : ByteArray) [.string (⟨#[115, 98]⟩ : ByteArray)] from rfl) (Reps.one (show Kd.M Kd.string _ _ _ (⟨#[115, 104]⟩ : ByteArray) [.string (⟨#[115, 104]⟩ : ByteArray)] from rfl) (Reps.one (show Kd.M Kd.string _ _ _ (⟨#[115, 119]⟩ : ByteArray) [.string (⟨#[115, 119]⟩ : ByteArray)] from rfl) (Reps.one (show Kd.M Kd.string _ _ _ (⟨#[97, 100, 100, 105]⟩ : ByteArray) [.string (⟨#[97, 100, 100, 105]⟩ : ByteArray)] from rfl) (Reps.one (show Kd.M Kd.string _ _ _ (⟨#[115, 108, 116, 105]⟩ : ByteArray) [.string (⟨#[115, 108, 116, 105]⟩ : ByteArray)] from rfl) (Reps.one (show Kd.M Kd.string _ _ _ (⟨#[115, 108, 116, 105, 117]⟩ : ByteArray) [.string (⟨#[115, 108, 116, 105, 117]⟩ : ByteArray)] from rfl) (Reps.one (show Kd.M Kd.string _ _ _ (⟨#[120, 111, 114, 105]⟩ : ByteArray) [.string (⟨#[120, 111, 114, 105]⟩ : ByteArray)] from rfl) (Reps.one (show Kd.M Kd.string _ _ _ (⟨#[111, 114, 105]⟩ : ByteArray) [.string (⟨#[111, 114, 105]⟩ : ByteArray)] from rfl) (Reps.one (show Kd.M Kd.string _ _ _ (⟨#[97, 110, 100, 105]⟩ : ByteArray) [.string (⟨#[97, 110, 100, 105]⟩ : ByteArray)] from rfl) (Reps.one (show Kd.M Kd.string _ _ _ (⟨#[115, 108, 108, 105]⟩ : ByteArray) [.string (⟨#[115, 108, 108, 105]⟩ : ByteArray)] from rfl) (Reps.one (show Kd.M Kd.string _ _ _ (⟨#[115, 114, 108, 105]⟩ : ByteArray) [.string (⟨#[115, 114, 108, 105]⟩ : ByteArray)] from rfl) (Reps.one (show Kd.M Kd.string _ _ _ (⟨#[115, 114, 97, 105]⟩ : ByteArray) [.string (⟨#[115, 114, 97, 105]⟩ : ByteArray)] from rfl) (Reps.one (show Kd.M Kd.string _ _ _ (⟨#[97, 100, 100]⟩ : ByteArray) [.string (⟨#[97, 100, 100]⟩ : ByteArray)] from rfl) (Reps.one (show Kd.M Kd.string _ _ _ (⟨#[115, 117, 98]⟩ : ByteArray) [.string (⟨#[115, 117, 98]⟩ : ByteArray)] from rfl) (Reps.one (show Kd.M Kd.string _ _ _ (⟨#[115, 108, 108]⟩ : ByteArray) [.string (⟨#[115, 108, 108]⟩ : ByteArray)] from rfl) (Reps.one (show Kd.M Kd.string _ _ _ (⟨#[115, 108, 116]⟩ : ByteArray) [.string (⟨#[115, 108, 116]⟩ : ByteArray)] from rfl) (Reps.one (show Kd.M Kd.string _ _ _ (⟨#[115, 108, 116, 117]⟩ : ByteArray) [.string (⟨#[115, 108, 116, 117]⟩ : ByteArray)] from rfl) (Reps.one (show Kd.M Kd.string _ _ _ (⟨#[120, 111, 114]⟩ : ByteArray) [.string (⟨#[120, 111, 114]⟩ : ByteArray)] from rfl) (Reps.one (show Kd.M Kd.string _ _ _ (⟨#[115, 114, 108]⟩ : ByteArray) [.string (⟨#[115, 114, 108]⟩ : ByteArray)] from rfl) (Reps.one (show Kd.M Kd.string _ _ _ (⟨#[115, 114, 97]⟩ : ByteArray) [.string (⟨#[115, 114, 97]⟩ : ByteArray)] from rfl) (Reps.one (show Kd.M Kd.string _ _ _ (⟨#[111, 114]⟩ : ByteArray) [.string (⟨#[111, 114]⟩ : ByteArray)] from rfl) (Reps.one (show Kd.M Kd.string _ _ _ (⟨#[97, 110, 100]⟩ : ByteArray) [.string (⟨#[97, 110, 100]⟩ : ByteArray)] from rfl) (Reps.one (show Kd.M Kd.string _ _ _ (⟨#[109, 117, 108]⟩ : ByteArray) [.string (⟨#[109, 117, 108]⟩ : ByteArray)] from rfl) (Reps.one (show Kd.M Kd.string _ _ _ (⟨#[109, 117, 108, 104]⟩ : ByteArray) [.string (⟨#[109, 117, 108, 104]⟩ : ByteArray)] from rfl) (Reps.one (show Kd.M Kd.string _ _ _ (⟨#[109, 117, 108, 104, 115, 117]⟩ : ByteArray) [.string (⟨#[109, 117, 108, 104, 115, 117]⟩ : ByteArray)] from rfl) (Reps.one (show Kd.M Kd.string _ _ _ (⟨#[109, 117, 108, 104, 117]⟩ : ByteArray) [.string (⟨#[109, 117, 108, 104, 117]⟩ : ByteArray)] from rfl) (Reps.one (show Kd.M Kd.string _ _ _ (⟨#[100, 105, 118]⟩ : ByteArray) [.string (⟨#[100, 105, 118]⟩ : ByteArray)] from rfl) (Reps.one (show Kd.M Kd.string _ _ _ (⟨#[100, 105, 118, 117]⟩ : ByteArray) [.string (⟨#[100, 105, 118, 117]⟩ : ByteArray)] from rfl) (Reps.one (show Kd.M Kd.string _ _ _ (⟨#[114, 101, 109]⟩ : ByteArray) [.string (⟨#[114, 101, 109]⟩ : ByteArray)] from rfl) (Reps.one (show Kd.M Kd.string _ _ _ (⟨#[114, 101, 109, 117]⟩ : ByteArray) [.string (⟨#[114, 101, 109, 117]⟩ : ByteArray)] from rfl) (Reps.one (show Kd.M Kd.string _ _ _ (⟨#[101, 99, 97, 108, 108]⟩ : ByteArray) [.string (⟨#[101, 99, 97, 108, 108]⟩ : ByteArray)] from rfl) (Reps.one (show Kd.M Kd.string _ _ _ (⟨#[101, 98, 114, 101, 97, 107]⟩ : ByteArray) [.string (⟨#[101, 98, 114, 101, 97, 107]⟩ : ByteArray)] from rfl) (Reps.none _ _))))))))))))))))))))))))))))))))))))))))))))))))); intro v176 w1 ho2 hb hg_ hnew_; clear hg_ hnew_; (first | rw [← Ny175.out] at ho2 | (simp only [Int.reduceToNat] at ho2; rw [← Ny175.out] at ho2)); have n0_ := Aside0.mk (Kd.R_lower ho2 (below_size (by repeat (first | (with_reducible first | exact HB.out | apply below_alloc | apply pw_below_drewN | apply below_drew1) | exact HB.out)))); have n1_ := Aside0.mk (below_step (by repeat (first | (with_reducible first | exact HB.out | apply below_alloc | apply pw_below_drewN | apply below_drew1) | exact HB.out)) hb); clear HB; have HO177 := n0_; have HB := n1_; clear n0_ n1_; clear hb ho2))
  go_ret
  exact ⟨_, by first | rfl | (simp [errW_none, errW_some] <;> rfl) | (simp [*, errW_none, errW_some] <;> rfl), by (with_reducible repeat (first | apply Kd.R_alloc | apply Kd.R_drewN | apply Kd.R_drew)); exact HO177.out, by repeat (first | (with_reducible first | exact HB.out | apply below_alloc | apply pw_below_drewN | apply below_drew1) | exact HB.out)⟩

/-! ### whetstoneref05_Name: function 43 -/
def whetstoneref05_Name.f (a0 : Int) : Option (ByteArray) := if a0 < 0 then (some (⟨#[]⟩ : ByteArray)) else ((whetstoneref05_names.f).bind fun t178 => (if a0 ≥ (t178.length : Int) then (some (⟨#[]⟩ : ByteArray)) else ((whetstoneref05_names.f).bind fun t181 => (if 0 ≤ a0 then (if a0 < (t181.length : Int) then (some (rdOf ByteArray.empty t181 a0)) else (none)) else (none)))))
set_option maxHeartbeats 8000000 in
set_option maxRecDepth 100000 in
theorem whetstoneref05_Name.calls (a0 : Int) (r : ByteArray) (w : World) (h : whetstoneref05_Name.f a0 = some r) :
    Calls Tryz.prog 43 #[.int .i64 a0] w fun e w' => e = .returned (.string r) ∧ Below w.heap.size w w' := by
  have HB := Aside0.mk (Below.refl w.heap.size w)
  have H : (if a0 < 0 then (some (⟨#[]⟩ : ByteArray)) else ((whetstoneref05_names.f).bind fun t178 => (if a0 ≥ (t178.length : Int) then (some (⟨#[]⟩ : ByteArray)) else ((whetstoneref05_names.f).bind fun t181 => (if 0 ≤ a0 then (if a0 < (t181.length : Int) then (some (rdOf ByteArray.empty t181 a0)) else (none)) else (none)))))) = some r := h
  clear h
  by_cases c2 : a0 < 0
  · rw [if_pos c2] at H
    have c2b0 : decide (a0 < 0) = true := decide_eq_true c2
    clear c2
    obtain rfl := Option.some.inj H
    go_enter Tryz.func43, Tryz.ntmps43
    go_wp2
    go_ret
    exact ⟨by first | rfl | (simp [errW_none, errW_some] <;> rfl) | (simp [*, errW_none, errW_some] <;> rfl), by repeat (first | (with_reducible first | exact HB.out | apply below_alloc | apply pw_below_drewN | apply below_drew1) | exact HB.out)⟩
  · rw [if_neg c2] at H
    have c2b0 : decide (a0 < 0) = false := decide_eq_false c2
    clear c2
    replace H := Option.bind_eq_some_iff.mp H
    obtain ⟨t178, A30, H⟩ := H
    replace H : (if a0 ≥ (t178.length : Int) then (some (⟨#[]⟩ : ByteArray)) else ((whetstoneref05_names.f).bind fun t181 => (if 0 ≤ a0 then (if a0 < (t181.length : Int) then (some (rdOf ByteArray.empty t181 a0)) else (none)) else (none)))) = some r := H
    have A3 := Aside0.mk A30
    clear A30
    by_cases c4 : a0 ≥ (t178.length : Int)
    · rw [if_pos c4] at H
      have c4b0 : decide ((t178.length : Int) ≤ a0) = true := decide_eq_true c4
      clear c4
      obtain rfl := Option.some.inj H
      go_enter Tryz.func43, Tryz.ntmps43
      go_wp2_with (first | (go_at_call 39; (with_reducible refine (whetstoneref05_names.calls  t178 _ A3.out).mono ?_); rintro e w5 ⟨v179, rfl, ho0, hb⟩; have n0_ := Aside0.mk (Kd.R_lower ho0 (below_size (by repeat (first | (with_reducible first | exact HB.out | apply below_alloc | apply pw_below_drewN | apply below_drew1) | exact HB.out)))); have n1_ := Aside0.mk (below_step (by repeat (first | (with_reducible first | exact HB.out | apply below_alloc | apply pw_below_drewN | apply below_drew1) | exact HB.out)) hb); clear HB; have HO180 := n0_; have HB := n1_; clear n0_ n1_; (try clear hb); (try clear hb2); (try clear hk); (try clear hi); (try clear ho0); obtain ⟨Ao6, co6, eo6⟩ := Kd.R_slice HO180.out; subst eo6))
      go_ret
      exact ⟨by first | rfl | (simp [errW_none, errW_some] <;> rfl) | (simp [*, errW_none, errW_some] <;> rfl), by repeat (first | (with_reducible first | exact HB.out | apply below_alloc | apply pw_below_drewN | apply below_drew1) | exact HB.out)⟩
    · rw [if_neg c4] at H
      have c4b0 : decide ((t178.length : Int) ≤ a0) = false := decide_eq_false c4
      clear c4
      replace H := Option.bind_eq_some_iff.mp H
      obtain ⟨t181, A70, H⟩ := H
      replace H : (if 0 ≤ a0 then (if a0 < (t181.length : Int) then (some (rdOf ByteArray.empty t181 a0)) else (none)) else (none)) = some r := H
      have A7 := Aside0.mk A70
      clear A70
      by_cases c8 : 0 ≤ a0
      · rw [if_pos c8] at H
        have c8b0 : decide (0 ≤ a0) = true := decide_eq_true c8
        clear c8
        by_cases c9 : a0 < (t181.length : Int)
        · rw [if_pos c9] at H
          have c9b0 : decide (a0 < (t181.length : Int)) = true := decide_eq_true c9
          clear c9
          obtain rfl := Option.some.inj H
          go_enter Tryz.func43, Tryz.ntmps43
          go_wp2_with (first | (go_at_call 39; (with_reducible refine (whetstoneref05_names.calls  t178 _ A3.out).mono ?_); rintro e w10 ⟨v179, rfl, ho0, hb⟩; have n0_ := Aside0.mk (Kd.R_lower ho0 (below_size (by repeat (first | (with_reducible first | exact HB.out | apply below_alloc | apply pw_below_drewN | apply below_drew1) | exact HB.out)))); have n1_ := Aside0.mk (below_step (by repeat (first | (with_reducible first | exact HB.out | apply below_alloc | apply pw_below_drewN | apply below_drew1) | exact HB.out)) hb); clear HB; have HO180 := n0_; have HB := n1_; clear n0_ n1_; (try clear hb); (try clear hb2); (try clear hk); (try clear hi); (try clear ho0); obtain ⟨Ao11, co11, eo11⟩ := Kd.R_slice HO180.out; subst eo11) | ((with_reducible refine gate_callee (f := 39) rfl ?_); refine goesL_ (some 11) rfl rfl Tryz.func39 (by kernel_rfl) rfl #[] rfl (by (try simp only [List.map_toArray, List.map_cons, List.map_nil]); first | done | rfl | (simp only [List.length_drop, List.length_take]; rfl)) ?_; (with_reducible refine (whetstoneref05_names.calls  t181 _ A7.out).mono ?_); rintro e w12 ⟨v182, rfl, ho0, hb⟩; refine ⟨_, rfl, ?_⟩; have n0_ := Aside0.mk (Kd.R_elder' (by (with_reducible repeat (first | apply Kd.R_alloc | apply Kd.R_drewN | apply Kd.R_drew)); exact HO180.out) (Kd.R_base ho0) hb); have n1_ := Aside0.mk (Kd.R_lower (Kd.R_new' ho0 (Kd.R_lt (by (with_reducible repeat (first | apply Kd.R_alloc | apply Kd.R_drewN | apply Kd.R_drew)); exact HO180.out))) (below_size (by repeat (first | (with_reducible first | exact HB.out | apply below_alloc | apply pw_below_drewN | apply below_drew1) | exact HB.out)))); have n2_ := Aside0.mk (below_step (by repeat (first | (with_reducible first | exact HB.out | apply below_alloc | apply pw_below_drewN | apply below_drew1) | exact HB.out)) hb); clear HO180; clear HB; have HO180 := n0_; have HO183 := n1_; have HB := n2_; clear n0_ n1_ n2_; (try clear hb); (try clear hb2); (try clear hk); (try clear hi); (try clear ho0); obtain ⟨Ao13, co13, eo13⟩ := Kd.R_slice HO183.out; subst eo13; have p184 : 0 ≤ (a0 : Int) := of_decide_eq_true (by first | (with_reducible assumption) | assumption); have q184 : a0 < (t181.length : Int) := of_decide_eq_true (by first | (with_reducible assumption) | assumption); obtain ⟨ad184, e184, hx184_0⟩ := Kd.at_string (Kd.R_reads' HO183.out).2.2 a0 p184 q184; cases e184; replace p184 := eq_true p184; replace q184 := eq_true q184))
          go_ret
          exact ⟨by first | rfl | (simp [errW_none, errW_some] <;> rfl) | (simp [*, errW_none, errW_some] <;> rfl), by repeat (first | (with_reducible first | exact HB.out | apply below_alloc | apply pw_below_drewN | apply below_drew1) | exact HB.out)⟩
        · rw [if_neg c9] at H
          exact absurd H (by simp)
      · rw [if_neg c8] at H
        exact absurd H (by simp)

/-! ### whetstoneref02_forms: function 58 -/
def whetstoneref02_forms.f  : Option (ByteArray) := some (⟨#[85, 85, 74, 73, 66, 66, 66, 66, 66, 66, 73, 73, 73, 73, 73, 83, 83, 83, 73, 73, 73, 73, 73, 73, 72, 72, 72, 82, 82, 82, 82, 82, 82, 82, 82, 82, 82, 82, 82, 82, 82, 82, 82, 82, 82, 69, 69]⟩ : ByteArray)
set_option maxHeartbeats 8000000 in
set_option maxRecDepth 100000 in
theorem whetstoneref02_forms.calls  (r : ByteArray) (w : World) (h : whetstoneref02_forms.f  = some r) :
    Calls Tryz.prog 58 #[] w fun e w' => e = .returned (.string r) ∧ Drawn0 w w' := by
  have H : (some (⟨#[85, 85, 74, 73, 66, 66, 66, 66, 66, 66, 73, 73, 73, 73, 73, 83, 83, 83, 73, 73, 73, 73, 73, 73, 72, 72, 72, 82, 82, 82, 82, 82, 82, 82, 82, 82, 82, 82, 82, 82, 82, 82, 82, 82, 82, 69, 69]⟩ : ByteArray)) = some r := h
  clear h
  obtain rfl := Option.some.inj H
  go_enter Tryz.func58, Tryz.ntmps58
  go_wp2
  go_ret
  exact ⟨by first | rfl | (simp; done) | (simp [*]; done), by repeat (first | exact Drawn0.refl _ | apply Drawn0.step)⟩

/-! ### whetstoneref02_Form: function 38 -/
def whetstoneref02_Form.f (a0 : Int) : Option (Int) := if a0 < 0 then (some 0) else ((whetstoneref02_forms.f).bind fun t157 => (if a0 ≥ (t157.size : Int) then (some 0) else ((whetstoneref02_forms.f).bind fun t158 => (if 0 ≤ a0 then (if a0 < (t158.size : Int) then (some (bt t158 a0)) else (none)) else (none)))))
set_option maxHeartbeats 8000000 in
set_option maxRecDepth 100000 in
theorem whetstoneref02_Form.calls (a0 : Int) (r : Int) (w : World) (h : whetstoneref02_Form.f a0 = some r) :
    Calls Tryz.prog 38 #[.int .i64 a0] w fun e w' => e = .returned (.int .u8 r) ∧ Drawn0 w w' := by
  have H : (if a0 < 0 then (some 0) else ((whetstoneref02_forms.f).bind fun t157 => (if a0 ≥ (t157.size : Int) then (some 0) else ((whetstoneref02_forms.f).bind fun t158 => (if 0 ≤ a0 then (if a0 < (t158.size : Int) then (some (bt t158 a0)) else (none)) else (none)))))) = some r := h
  clear h
  by_cases c2 : a0 < 0
  · rw [if_pos c2] at H
    have c2b0 : decide (a0 < 0) = true := decide_eq_true c2
    clear c2
    obtain rfl := Option.some.inj H
    go_enter Tryz.func38, Tryz.ntmps38
    go_wp2
    go_ret
    exact ⟨by first | rfl | (simp; done) | (simp [*]; done), by repeat (first | exact Drawn0.refl _ | apply Drawn0.step)⟩
  · rw [if_neg c2] at H
    have c2b0 : decide (a0 < 0) = false := decide_eq_false c2
    clear c2
    replace H := Option.bind_eq_some_iff.mp H
    obtain ⟨t157, A30, H⟩ := H
    replace H : (if a0 ≥ (t157.size : Int) then (some 0) else ((whetstoneref02_forms.f).bind fun t158 => (if 0 ≤ a0 then (if a0 < (t158.size : Int) then (some (bt t158 a0)) else (none)) else (none)))) = some r := H
    have A3 := Aside0.mk A30
    clear A30
    by_cases c4 : a0 ≥ (t157.size : Int)
    · rw [if_pos c4] at H
      have c4b0 : decide ((t157.size : Int) ≤ a0) = true := decide_eq_true c4
      clear c4
      obtain rfl := Option.some.inj H
      go_enter Tryz.func38, Tryz.ntmps38
      go_wp2_with (first | (go_at_call 58; (with_reducible refine (whetstoneref02_forms.calls  t157 _ A3.out).mono ?_); rintro e w' ⟨rfl, ⟨nd, rfl⟩⟩))
      go_ret
      exact ⟨by first | rfl | (simp; done) | (simp [*]; done), by repeat (first | exact Drawn0.refl _ | apply Drawn0.step)⟩
    · rw [if_neg c4] at H
      have c4b0 : decide ((t157.size : Int) ≤ a0) = false := decide_eq_false c4
      clear c4
      replace H := Option.bind_eq_some_iff.mp H
      obtain ⟨t158, A50, H⟩ := H
      replace H : (if 0 ≤ a0 then (if a0 < (t158.size : Int) then (some (bt t158 a0)) else (none)) else (none)) = some r := H
      have A5 := Aside0.mk A50
      clear A50
      by_cases c6 : 0 ≤ a0
      · rw [if_pos c6] at H
        have c6b0 : decide (0 ≤ a0) = true := decide_eq_true c6
        clear c6
        by_cases c7 : a0 < (t158.size : Int)
        · rw [if_pos c7] at H
          have c7b0 : decide (a0 < (t158.size : Int)) = true := decide_eq_true c7
          clear c7
          obtain rfl := Option.some.inj H
          go_enter Tryz.func38, Tryz.ntmps38
          go_wp2_with (first | (go_at_call 58; (with_reducible refine (whetstoneref02_forms.calls  t157 _ A3.out).mono ?_); rintro e w' ⟨rfl, ⟨nd, rfl⟩⟩) | ((with_reducible refine gate_callee (f := 58) rfl ?_); refine goesL_ (some 11) rfl rfl Tryz.func58 (by kernel_rfl) rfl #[] rfl (by (try simp only [List.map_toArray, List.map_cons, List.map_nil]); first | done | rfl | (simp only [List.length_drop, List.length_take]; rfl)) ?_; (with_reducible refine (whetstoneref02_forms.calls  t158 _ A5.out).mono ?_); rintro e w' ⟨rfl, ⟨nd, rfl⟩⟩; refine ⟨_, rfl, ?_⟩; have p8 : 0 ≤ (a0 : Int) := of_decide_eq_true (by first | (with_reducible assumption) | assumption); have q8 : a0 < (t158.size : Int) := of_decide_eq_true (by first | (with_reducible assumption) | assumption); have hx8 := bt_at t158 a0; replace p8 := eq_true p8; replace q8 := eq_true q8))
          go_ret
          exact ⟨by first | rfl | (simp; done) | (simp [*]; done), by repeat (first | exact Drawn0.refl _ | apply Drawn0.step)⟩
        · rw [if_neg c7] at H
          exact absurd H (by simp)
      · rw [if_neg c6] at H
        exact absurd H (by simp)

/-! ### whetstoneref02_span: function 59 -/
def whetstoneref02_span.j0 : Nat → Int → Bool → Option (Int × Int × Int)
  | 0, _, _ => none
  | k + 1, x5, x10 => if x10 = true then (some ((-2048), 2047, 1)) else (if x5 = 66 then (some ((-4096), 4094, 2)) else (if x5 = 72 then (some (0, 31, 1)) else (some (0, 0, 1))))
def whetstoneref02_span.f (k : Nat) (a0 : Int) : Option (Int × Int × Int) := if a0 = 85 then (some (0, 1048575, 1)) else (if a0 = 74 then (some ((-1048576), 1048574, 2)) else (if a0 = 73 then (whetstoneref02_span.j0 k a0 (a0 == 73)) else (whetstoneref02_span.j0 k a0 (a0 == 83))))
theorem whetstoneref02_span.mono_l : ∀ k, (∀ y0 y1, LeO (whetstoneref02_span.j0 k y0 y1) (whetstoneref02_span.j0 (k + 1) y0 y1))
  | 0 => fun _ _ r h => by simp [whetstoneref02_span.j0] at h
  | k + 1 => by
    have ih0 := whetstoneref02_span.mono_l k
    · intro y0 y1
      unfold whetstoneref02_span.j0
      repeat' first
      | (with_reducible exact ih0 _ _)
      | (with_reducible exact LeO.refl _)
      | (with_reducible exact LeO.none _)
      | (with_reducible refine LeO.ite ?_ ?_)
      | (with_reducible refine LeO.bind ?_ (fun _ => ?_))
      | exact ih0 _ _
      | exact LeO.none _
      | refine LeO.ite ?_ ?_
      | refine LeO.bind ?_ (fun _ => ?_)
theorem whetstoneref02_span.mono : ∀ a0 k, LeO (whetstoneref02_span.f k a0) (whetstoneref02_span.f (k + 1) a0) := by
  intro a0 k
  have ih0 := whetstoneref02_span.mono_l k
  unfold whetstoneref02_span.f
  repeat' first
      | (with_reducible exact ih0 _ _)
      | (with_reducible exact LeO.refl _)
      | (with_reducible exact LeO.none _)
      | (with_reducible refine LeO.ite ?_ ?_)
      | (with_reducible refine LeO.bind ?_ (fun _ => ?_))
      | exact ih0 _ _
      | exact LeO.none _
      | refine LeO.ite ?_ ?_
      | refine LeO.bind ?_ (fun _ => ?_)
set_option maxHeartbeats 8000000 in
set_option maxRecDepth 100000 in
theorem whetstoneref02_span.calls (k : Nat) (a0 : Int) (r1 : Int) (r2 : Int) (r3 : Int) (w : World) (h : whetstoneref02_span.f k a0 = some (r1, r2, r3)) :
    Calls Tryz.prog 59 #[.int .u8 a0] w fun e w' => e = .returned (.tuple #[.int .i64 r1, .int .i64 r2, .int .i64 r3]) ∧ Drawn0 w w' := by
  have H : (if a0 = 85 then (some (0, 1048575, 1)) else (if a0 = 74 then (some ((-1048576), 1048574, 2)) else (if a0 = 73 then (whetstoneref02_span.j0 k a0 (a0 == 73)) else (whetstoneref02_span.j0 k a0 (a0 == 83))))) = some (r1, r2, r3) := h
  clear h
  by_cases c2 : a0 = 85
  · rw [if_pos c2] at H
    have c2b0 : (a0 == 85) = true := beq_iff_eq.mpr c2
    have c2b1 : (a0 != 85) = false := bne_eq_false_iff_eq.mpr c2
    clear c2
    simp only [Option.some.injEq, Prod.mk.injEq] at H
    obtain ⟨rfl, rfl, rfl⟩ := H
    go_enter Tryz.func59, Tryz.ntmps59
    go_wp2
    go_ret3
    exact ⟨by first | rfl | (simp; done) | (simp [*]; done), by repeat (first | exact Drawn0.refl _ | apply Drawn0.step)⟩
  · rw [if_neg c2] at H
    have c2b0 : (a0 == 85) = false := beq_eq_false_iff_ne.mpr c2
    have c2b1 : (a0 != 85) = true := bne_iff_ne.mpr c2
    by_cases c3 : a0 = 74
    · rw [if_pos c3] at H
      have c3b0 : (a0 == 74) = true := beq_iff_eq.mpr c3
      have c3b1 : (a0 != 74) = false := bne_eq_false_iff_eq.mpr c3
      clear c3
      simp only [Option.some.injEq, Prod.mk.injEq] at H
      obtain ⟨rfl, rfl, rfl⟩ := H
      go_enter Tryz.func59, Tryz.ntmps59
      go_wp2
      go_ret3
      exact ⟨by first | rfl | (simp; done) | (simp [*]; done), by repeat (first | exact Drawn0.refl _ | apply Drawn0.step)⟩
    · rw [if_neg c3] at H
      have c3b0 : (a0 == 74) = false := beq_eq_false_iff_ne.mpr c3
      have c3b1 : (a0 != 74) = true := bne_iff_ne.mpr c3
      have HC4 := Aside0.mk H
      clear H
      go_enter Tryz.func59, Tryz.ntmps59
      go_upto_if 10 with (fail)
      go_cut [10] (fun v10 wc => ∃ (kq : Nat) (x10_3 : Bool), v10 = .bool x10_3 ∧ Aside0 (whetstoneref02_span.j0 kq a0 x10_3 = some (r1, r2, r3)) ∧ Aside0 (kq ≤ k) ∧ Drawn0 w wc)
      case first =>
        have H := HC4.out
        clear HC4
        by_cases c5 : a0 = 73
        · rw [if_pos c5] at H
          have c5b0 : (a0 == 73) = true := beq_iff_eq.mpr c5
          have c5b1 : (a0 != 73) = false := bne_eq_false_iff_eq.mpr c5
          clear c5
          (first | rw [c5b0] | (simp only [i64_w, i32_w]; rw [c5b0]) | skip)
          have H' := Aside0.mk H
          clear H
          go_wp2
          go_meet
          case rel => exact ⟨_, ((a0 == 73)), (by first | rfl | (simp; done) | (simp [*]; done)), H', ⟨by first | omega | exact Nat.le_refl _⟩, by repeat (first | exact Drawn0.refl _ | apply Drawn0.step)⟩
        · rw [if_neg c5] at H
          have c5b0 : (a0 == 73) = false := beq_eq_false_iff_ne.mpr c5
          have c5b1 : (a0 != 73) = true := bne_iff_ne.mpr c5
          (first | rw [c5b0] | (simp only [i64_w, i32_w]; rw [c5b0]) | skip)
          have H' := Aside0.mk H
          clear H
          go_wp2
          go_meet
          case rel => exact ⟨_, ((a0 == 83)), (by first | rfl | (simp; done) | (simp [*]; done)), H', ⟨by first | omega | exact Nat.le_refl _⟩, by repeat (first | exact Drawn0.refl _ | apply Drawn0.step)⟩
      case rest =>
        clear HC4
        try clear c2
        try clear c2b0
        try clear c2b1
        try clear p2
        try clear c3
        try clear c3b0
        try clear c3b1
        try clear c5
        try clear c5b0
        try clear c5b1
        obtain ⟨kq, x10_3, rfl, HA, HJ3, ⟨mc3, rfl⟩⟩ := hcut
        cases kq with
        | zero => exact absurd HA.out (by simp [whetstoneref02_span.j0])
        | succ kj3 =>
          have H := HA.out
          clear HA
          simp only [whetstoneref02_span.j0] at H
          by_cases c6 : x10_3 = true
          · subst c6
            have H1 : (some ((-2048), 2047, 1)) = some (r1, r2, r3) := by rw [if_pos rfl] at H; exact H
            clear H
            have H := H1
            clear H1
            simp only [Option.some.injEq, Prod.mk.injEq] at H
            obtain ⟨rfl, rfl, rfl⟩ := H
            go_wp2
            go_ret3
            exact ⟨by first | rfl | (simp; done) | (simp [*]; done), by repeat (first | exact Drawn0.refl _ | apply Drawn0.step)⟩
          · replace c6 := Bool.eq_false_iff.mpr c6
            subst c6
            have H1 : (if a0 = 66 then (some ((-4096), 4094, 2)) else (if a0 = 72 then (some (0, 31, 1)) else (some (0, 0, 1)))) = some (r1, r2, r3) := by rw [if_neg (show ¬ (false = true) by decide)] at H; exact H
            clear H
            have H := H1
            clear H1
            by_cases c7 : a0 = 66
            · rw [if_pos c7] at H
              have c7b0 : (a0 == 66) = true := beq_iff_eq.mpr c7
              have c7b1 : (a0 != 66) = false := bne_eq_false_iff_eq.mpr c7
              clear c7
              simp only [Option.some.injEq, Prod.mk.injEq] at H
              obtain ⟨rfl, rfl, rfl⟩ := H
              go_wp2
              go_ret3
              exact ⟨by first | rfl | (simp; done) | (simp [*]; done), by repeat (first | exact Drawn0.refl _ | apply Drawn0.step)⟩
            · rw [if_neg c7] at H
              have c7b0 : (a0 == 66) = false := beq_eq_false_iff_ne.mpr c7
              have c7b1 : (a0 != 66) = true := bne_iff_ne.mpr c7
              by_cases c8 : a0 = 72
              · rw [if_pos c8] at H
                have c8b0 : (a0 == 72) = true := beq_iff_eq.mpr c8
                have c8b1 : (a0 != 72) = false := bne_eq_false_iff_eq.mpr c8
                clear c8
                simp only [Option.some.injEq, Prod.mk.injEq] at H
                obtain ⟨rfl, rfl, rfl⟩ := H
                go_wp2
                go_ret3
                exact ⟨by first | rfl | (simp; done) | (simp [*]; done), by repeat (first | exact Drawn0.refl _ | apply Drawn0.step)⟩
              · rw [if_neg c8] at H
                have c8b0 : (a0 == 72) = false := beq_eq_false_iff_ne.mpr c8
                have c8b1 : (a0 != 72) = true := bne_iff_ne.mpr c8
                simp only [Option.some.injEq, Prod.mk.injEq] at H
                obtain ⟨rfl, rfl, rfl⟩ := H
                go_wp2
                go_ret3
                exact ⟨by first | rfl | (simp; done) | (simp [*]; done), by repeat (first | exact Drawn0.refl _ | apply Drawn0.step)⟩

/-! ### whetstoneref02_reg: function 60 -/
def whetstoneref02_reg.f (a0 : Int) (a1 : Bool) : Option (Bool) := if a0 = 0 then (some true) else (if a1 = true then (if a0 > 0 then (some (decide (a0 < 32))) else (some false)) else (some false))
set_option maxHeartbeats 8000000 in
set_option maxRecDepth 100000 in
theorem whetstoneref02_reg.calls (a0 : Int) (a1 : Bool) (r : Bool) (w : World) (h : whetstoneref02_reg.f a0 a1 = some r) :
    Calls Tryz.prog 60 #[.int .i64 a0, .bool a1] w fun e w' => e = .returned (.bool r) ∧ Drawn0 w w' := by
  have H : (if a0 = 0 then (some true) else (if a1 = true then (if a0 > 0 then (some (decide (a0 < 32))) else (some false)) else (some false))) = some r := h
  clear h
  by_cases c3 : a0 = 0
  · rw [if_pos c3] at H
    have c3b0 : (a0 == 0) = true := beq_iff_eq.mpr c3
    have c3b1 : (a0 != 0) = false := bne_eq_false_iff_eq.mpr c3
    clear c3
    obtain rfl := Option.some.inj H
    go_enter Tryz.func60, Tryz.ntmps60
    go_wp2
    go_ret
    exact ⟨by first | rfl | (simp; done) | (simp [*]; done), by repeat (first | exact Drawn0.refl _ | apply Drawn0.step)⟩
  · rw [if_neg c3] at H
    have c3b0 : (a0 == 0) = false := beq_eq_false_iff_ne.mpr c3
    have c3b1 : (a0 != 0) = true := bne_iff_ne.mpr c3
    by_cases c4 : a1 = true
    · subst c4
      have H1 : (if a0 > 0 then (some (decide (a0 < 32))) else (some false)) = some r := by rw [if_pos rfl] at H; exact H
      clear H
      have H := H1
      clear H1
      by_cases c5 : a0 > 0
      · rw [if_pos c5] at H
        have c5b0 : decide (0 < a0) = true := decide_eq_true c5
        clear c5
        obtain rfl := Option.some.inj H
        go_enter Tryz.func60, Tryz.ntmps60
        go_wp2
        go_ret
        exact ⟨by first | rfl | (simp; done) | (simp [*]; done), by repeat (first | exact Drawn0.refl _ | apply Drawn0.step)⟩
      · rw [if_neg c5] at H
        have c5b0 : decide (0 < a0) = false := decide_eq_false c5
        clear c5
        obtain rfl := Option.some.inj H
        go_enter Tryz.func60, Tryz.ntmps60
        go_wp2
        go_ret
        exact ⟨by first | rfl | (simp; done) | (simp [*]; done), by repeat (first | exact Drawn0.refl _ | apply Drawn0.step)⟩
    · replace c4 := Bool.eq_false_iff.mpr c4
      subst c4
      have H1 : (some false) = some r := by rw [if_neg (show ¬ (false = true) by decide)] at H; exact H
      clear H
      have H := H1
      clear H1
      obtain rfl := Option.some.inj H
      go_enter Tryz.func60, Tryz.ntmps60
      go_wp2
      go_ret
      exact ⟨by first | rfl | (simp; done) | (simp [*]; done), by repeat (first | exact Drawn0.refl _ | apply Drawn0.step)⟩

/-! ### whetstoneref02_in: function 61 -/
def whetstoneref02_in.l0 : Nat → Int → ByteArray → Int → Option (Bool)
  | 0, _, _, _ => none
  | k + 1, x0, x1, x5 => if x5 < (x1.size : Int) then (if 0 ≤ x5 then (if (bt x1 x5) = x0 then (some true) else (whetstoneref02_in.l0 k x0 x1 (wrap64 (x5 + 1)))) else (none)) else (some false)
def whetstoneref02_in.f (k : Nat) (a0 : Int) (a1 : ByteArray) : Option (Bool) := whetstoneref02_in.l0 k a0 a1 0
theorem whetstoneref02_in.mono_l : ∀ k, (∀ y0 y1 y2, LeO (whetstoneref02_in.l0 k y0 y1 y2) (whetstoneref02_in.l0 (k + 1) y0 y1 y2))
  | 0 => fun _ _ _ r h => by simp [whetstoneref02_in.l0] at h
  | k + 1 => by
    have ih0 := whetstoneref02_in.mono_l k
    · intro y0 y1 y2
      unfold whetstoneref02_in.l0
      repeat' first
      | (with_reducible exact ih0 _ _ _)
      | (with_reducible exact LeO.refl _)
      | (with_reducible exact LeO.none _)
      | (with_reducible refine LeO.ite ?_ ?_)
      | (with_reducible refine LeO.bind ?_ (fun _ => ?_))
      | exact ih0 _ _ _
      | exact LeO.none _
      | refine LeO.ite ?_ ?_
      | refine LeO.bind ?_ (fun _ => ?_)
theorem whetstoneref02_in.mono : ∀ a0 a1 k, LeO (whetstoneref02_in.f k a0 a1) (whetstoneref02_in.f (k + 1) a0 a1) := by
  intro a0 a1 k
  have ih0 := whetstoneref02_in.mono_l k
  unfold whetstoneref02_in.f
  repeat' first
      | (with_reducible exact ih0 _ _ _)
      | (with_reducible exact LeO.refl _)
      | (with_reducible exact LeO.none _)
      | (with_reducible refine LeO.ite ?_ ?_)
      | (with_reducible refine LeO.bind ?_ (fun _ => ?_))
      | exact ih0 _ _ _
      | exact LeO.none _
      | refine LeO.ite ?_ ?_
      | refine LeO.bind ?_ (fun _ => ?_)
set_option maxHeartbeats 8000000 in
set_option maxRecDepth 100000 in
theorem whetstoneref02_in.calls (k : Nat) (a0 : Int) (a1 : ByteArray) (r : Bool) (w : World) (h : whetstoneref02_in.f k a0 a1 = some r) :
    Calls Tryz.prog 61 #[.int .u8 a0, .string a1] w fun e w' => e = .returned (.bool r) ∧ Drawn0 w w' := by
  have H : (whetstoneref02_in.l0 k a0 a1 0) = some r := h
  clear h
  have H' := Aside0.mk H
  clear H
  go_enter Tryz.func61, Tryz.ntmps61
  go_wp2
  go_loopg [5] k (fun kq v5 w' => ∃ (x5_1 : Int), v5 = .int .i64 x5_1 ∧ Aside0 (whetstoneref02_in.l0 kq a0 a1 x5_1 = some r) ∧ Aside0 (kq ≤ k) ∧ Drawn0 w w')
  case atStart => exact ⟨(0), (by first | rfl | (simp; done) | (simp [*]; done)), H', ⟨Nat.le_refl _⟩, by repeat (first | exact Drawn0.refl _ | apply Drawn0.step)⟩
  case round =>
    clear H'
    try clear p2
    obtain ⟨x5_1, rfl, HA, HK1, ⟨m1, rfl⟩⟩ := hrel
    cases gk with
    | zero => exact absurd HA.out (by simp [whetstoneref02_in.l0])
    | succ k1 =>
      have H := HA.out
      clear HA
      simp only [whetstoneref02_in.l0] at H
      by_cases c3 : x5_1 < (a1.size : Int)
      · rw [if_pos c3] at H
        have c3b0 : decide (x5_1 < (a1.size : Int)) = true := decide_eq_true c3
        clear c3
        by_cases c4 : 0 ≤ x5_1
        · rw [if_pos c4] at H
          have c4b0 : decide (0 ≤ x5_1) = true := decide_eq_true c4
          clear c4
          by_cases c6 : (bt a1 x5_1) = a0
          · rw [if_pos c6] at H
            have c6b0 : ((bt a1 x5_1) == a0) = true := beq_iff_eq.mpr c6
            have c6b1 : ((bt a1 x5_1) != a0) = false := bne_eq_false_iff_eq.mpr c6
            clear c6
            obtain rfl := Option.some.inj H
            have p5 : 0 ≤ (x5_1 : Int) := of_decide_eq_true (by first | (with_reducible assumption) | assumption)
            have q5 : x5_1 < (a1.size : Int) := of_decide_eq_true (by first | (with_reducible assumption) | assumption)
            have hx5 := bt_at a1 x5_1
            replace p5 := eq_true p5
            replace q5 := eq_true q5
            go_wp2
            go_ret
            exact ⟨by first | rfl | (simp; done) | (simp [*]; done), by repeat (first | exact Drawn0.refl _ | apply Drawn0.step)⟩
          · rw [if_neg c6] at H
            have c6b0 : ((bt a1 x5_1) == a0) = false := beq_eq_false_iff_ne.mpr c6
            have c6b1 : ((bt a1 x5_1) != a0) = true := bne_iff_ne.mpr c6
            have H' := Aside0.mk H
            clear H
            have p5 : 0 ≤ (x5_1 : Int) := of_decide_eq_true (by first | (with_reducible assumption) | assumption)
            have q5 : x5_1 < (a1.size : Int) := of_decide_eq_true (by first | (with_reducible assumption) | assumption)
            have hx5 := bt_at a1 x5_1
            replace p5 := eq_true p5
            replace q5 := eq_true q5
            go_wp2
            go_roundg k1
            case measure => have := HK1.out; omega
            case rel => exact ⟨(wrap64 (x5_1 + 1)), (by first | rfl | (simp; done) | (simp [*]; done)), H', ⟨by have := HK1.out; omega⟩, by repeat (first | exact Drawn0.refl _ | apply Drawn0.step)⟩
        · rw [if_neg c4] at H
          exact absurd H (by simp)
      · rw [if_neg c3] at H
        have c3b0 : decide (x5_1 < (a1.size : Int)) = false := decide_eq_false c3
        clear c3
        obtain rfl := Option.some.inj H
        go_wp2
        go_ret
        exact ⟨by first | rfl | (simp; done) | (simp [*]; done), by repeat (first | exact Drawn0.refl _ | apply Drawn0.step)⟩

end Go.Proofs.YtdgkbigmdadlaaaGreatDoor
