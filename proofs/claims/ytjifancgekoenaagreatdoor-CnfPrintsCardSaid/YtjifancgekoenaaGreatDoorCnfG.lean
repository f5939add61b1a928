import Derived.Test.YtjifancgekoenaaGreatDoorCnfF
import Derived.Shelf.SlSortCmp.Whole1
namespace Go.Proofs.YtjifancgekoenaaGreatDoor
open Go.RowKit Go.Proofs.YtjifancgekoenaaGreatDoorW.PrintWords Go.Proofs.YtjifancgekoenaaGreatDoorW.PrintLast
open Go.Sort (grow cell?_grow heap_grow_old)
set_option linter.unusedVariables false
set_option linter.unusedSimpArgs false

/-- cnf.size -/
def sizeU (x : Int) : Int := if x < 0 then IntKind.u64.wrap (-(IntKind.u64.wrap x)) else IntKind.u64.wrap x
set_option maxHeartbeats 1000000 in
set_option maxRecDepth 100000 in
theorem size_any (x : Int) (w : World) : Calls Tryz.prog 47 #[.int .i64 x] w fun e w' => e = .returned (.int .u64 (sizeU x)) ∧ w = w' := by
  unfold sizeU
  by_cases h : x < 0
  · rw [if_pos h]
    go_enter Tryz.func47, Tryz.ntmps47
    go_wp2
    go_ret
    exact ⟨rfl, rfl⟩
  · rw [if_neg h]
    go_enter Tryz.func47, Tryz.ntmps47
    go_wp2
    go_ret
    exact ⟨rfl, rfl⟩
set_option maxHeartbeats 1000000 in
set_option maxRecDepth 100000 in
theorem nanU_any (x : Int) (w : World) : Calls Tryz.prog 60 #[.int .u64 x] w fun e w' => e = .returned (.bool false) ∧ w = w' := by
  go_enter Tryz.func60, Tryz.ntmps60
  go_wp2
  go_ret
  exact ⟨by simp, rfl⟩
def cmpI (x y : Int) : Int := if x < y then -1 else if y < x then 1 else 0
set_option maxHeartbeats 1000000 in
set_option maxRecDepth 100000 in
theorem cmpU_any (x y : Int) (w : World) : Calls Tryz.prog 46 #[.int .u64 x, .int .u64 y] w fun e w' => e = .returned (.int .i64 (cmpI x y)) ∧ w = w' := by
  unfold cmpI
  by_cases h : x < y
  · rw [if_pos h]
    go_enter Tryz.func46, Tryz.ntmps46
    go_wp2_with (go_at_call 60; refine (nanU_any _ _).mono ?_; rintro e w' ⟨rfl, rfl⟩)
    go_ret
    exact ⟨rfl, rfl⟩
  · rw [if_neg h]
    by_cases h2 : y < x
    · rw [if_pos h2]
      go_enter Tryz.func46, Tryz.ntmps46
      go_wp2_with (go_at_call 60; refine (nanU_any _ _).mono ?_; rintro e w' ⟨rfl, rfl⟩)
      go_ret
      exact ⟨rfl, rfl⟩
    · rw [if_neg h2]
      go_enter Tryz.func46, Tryz.ntmps46
      go_wp2_with (go_at_call 60; refine (nanU_any _ _).mono ?_; rintro e w' ⟨rfl, rfl⟩)
      go_ret
      exact ⟨rfl, rfl⟩
theorem cmpI_any (x y : Int) (w : World) : Calls Tryz.prog 48 #[.int .i64 x, .int .i64 y] w fun e w' => e = .returned (.int .i64 (cmpI x y)) ∧ w = w' := by
  refine (Tryz.cmp_Compare_int x y w).mono ?_
  rintro e w' ⟨h1, h2⟩
  exact ⟨h1, h2.symm⟩
def orI (a b : Int) : Int := if a = 0 then b else a
set_option maxHeartbeats 1000000 in
set_option maxRecDepth 100000 in
theorem or_any (a b : Int) (w : World) (g : Nat) (h0 : w.cell? ⟨g, 0, none⟩ = some (.int .i64 a)) (h1 : w.cell? ⟨g, 1, none⟩ = some (.int .i64 b)) :
    Calls Tryz.prog 45 #[.slice (some ⟨g, 0, none⟩) 2 2] w fun e w' => e = .returned (.int .i64 (orI a b)) ∧ w = w' := by
  have HR : Aside0 (∀ v, (a ≠ 0 → v = a) → (a = 0 → v = b) → v = orI a b) := ⟨fun v h1 h2 => by unfold orI; split <;> first | exact h2 ‹_› | exact h1 ‹_›⟩
  go_enter Tryz.func45, Tryz.ntmps45
  go_wp2
  go_loopg [8] 2 (fun gg s8 wr => ∃ kk : Nat, kk ≤ 2 ∧ 2 - kk ≤ gg ∧ s8 = .int .i64 kk ∧ wr = w ∧ Aside0 (1 ≤ kk → a = 0) ∧ Aside0 (2 ≤ kk → b = 0))
  case atStart => exact ⟨0, by omega, by omega, rfl, rfl, ⟨by omega⟩, ⟨by omega⟩⟩
  case round =>
    obtain ⟨kk, hkk, hg, rfl, rfl, HA, HB⟩ := hrel
    match kk, hkk with
    | 0, _ =>
      by_cases ha : a = 0
      · have ha1 : (a == 0) = true := by simpa using ha
        have ha2 : (a != 0) = false := by simpa using ha
        have HZ : Aside0 (a = 0) := ⟨ha⟩
        clear ha
        go_wp2
        go_roundg 1
        case measure => omega
        case rel => exact ⟨1, by omega, by omega, by go_num, rfl, ⟨fun _ => HZ.out⟩, ⟨by omega⟩⟩
      · have ha1 : (a == 0) = false := by simpa using ha
        have ha2 : (a != 0) = true := by simpa using ha
        have HZ : Aside0 (¬ a = 0) := ⟨ha⟩
        clear ha
        go_wp2
        go_ret
        exact ⟨ret_int (HR.out _ (fun _ => rfl) (fun h => absurd h HZ.out)), rfl⟩
    | 1, _ =>
      by_cases hb : b = 0
      · have ha1 : (b == 0) = true := by simpa using hb
        have ha2 : (b != 0) = false := by simpa using hb
        have HZ : Aside0 (b = 0) := ⟨hb⟩
        clear hb
        go_wp2
        go_roundg 0
        case measure => omega
        case rel => exact ⟨2, by omega, by omega, by go_num, rfl, ⟨fun _ => HA.out (by omega)⟩, ⟨fun _ => HZ.out⟩⟩
      · have ha1 : (b == 0) = false := by simpa using hb
        have ha2 : (b != 0) = true := by simpa using hb
        clear hb
        go_wp2
        go_ret
        exact ⟨ret_int (HR.out _ (fun h => absurd (HA.out (by omega)) h) (fun _ => rfl)), rfl⟩
    | 2, _ =>
      go_wp2
      go_ret
      exact ⟨ret_int (HR.out _ (fun h => absurd (HA.out (by omega)) h) (fun _ => (HB.out (by omega)).symm)), rfl⟩
/-- The order of literals. -/
def litC (x y : Int) : Int := orI (cmpI (sizeU x) (sizeU y)) (cmpI y x)
set_option maxHeartbeats 1000000 in
set_option maxRecDepth 100000 in
theorem plain_cmp (x y : Int) (w : World) : Calls Tryz.prog 44 #[.int .i64 x, .int .i64 y] w fun e w' => e = .returned (.int .i64 (litC x y)) ∧ ∃ q os, w' = grow (w.drewN q) os := by
  have H1 := size_any x w
  have H2 := size_any y w
  have H3 := cmpU_any (sizeU x) (sizeU y) w
  have H4 := cmpI_any y x w
  unfold litC
  generalize cmpI y x = b at *
  generalize cmpI (sizeU x) (sizeU y) = a at *
  generalize sizeU x = sx at *
  generalize sizeU y = sy at *
  go_enter Tryz.func44, Tryz.ntmps44
  go_wp2_with fail
  refine H1.mono ?_
  rintro e w' ⟨rfl, rfl⟩
  go_wp2_with fail
  refine H2.mono ?_
  rintro e w' ⟨rfl, rfl⟩
  go_wp2_with fail
  refine H3.mono ?_
  rintro e w' ⟨rfl, rfl⟩
  go_wp2_with fail
  refine H4.mono ?_
  rintro e w' ⟨rfl, rfl⟩
  go_wp2_with fail
  refine (or_any a b _ w.heap.size (cell_new w #[.int .i64 a, .int .i64 b] 3 0) (cell_new w #[.int .i64 a, .int .i64 b] 3 1)).mono ?_
  rintro e w' ⟨rfl, rfl⟩
  go_wp2
  go_ret
  exact ⟨rfl, 0, _, Go.Sort.alloc_eq_grow _ _⟩
end Go.Proofs.YtjifancgekoenaaGreatDoor
