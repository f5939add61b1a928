import Derived.Test.YtjifancgekoenaaGreatDoorCnfRefB
namespace Go.Proofs.YtjifancgekoenaaGreatDoor
open Go.RowKit Go.Proofs.YtjifancgekoenaaGreatDoorW.PrintWords Go.Proofs.YtjifancgekoenaaGreatDoorW.PrintLast Go.Proofs.YtjifancgekoenaaGreatDoorW.PrintMore
attribute [local go_sem] max2_int min2_int max_two min_two max_three min_three max_four min_four
set_option linter.unusedVariables false
set_option linter.unusedSimpArgs false

/-! ### whetstoneref13_nums: function 41 -/
mutual
def whetstoneref13_nums.l0 : Nat → ByteArray → Int → List Int → Int → Int → Bool → Option (List Int × Int)
  | 0, _, _, _, _, _, _ => none
  | k + 1, x0, x1, x6, x7, x8, x9 => if x1 < (x0.size : Int) then (if 0 ≤ x1 then (whetstoneref13_nums.j1 k x0 x1 x6 x7 x8 x9 ((bt x0 x1) != 10)) else (none)) else (whetstoneref13_nums.j1 k x0 x1 x6 x7 x8 x9 false)
def whetstoneref13_nums.j1 : Nat → ByteArray → Int → List Int → Int → Int → Bool → Bool → Option (List Int × Int)
  | 0, _, _, _, _, _, _, _ => none
  | k + 1, x0, x1, x6, x7, x8, x9, x21 => if x21 = true then (if 0 ≤ x1 then (if x1 < (x0.size : Int) then (if (bt x0 x1) ≥ 48 then (whetstoneref13_nums.j2 k x0 x1 x6 x7 x8 x9 (bt x0 x1) (decide ((bt x0 x1) ≤ 57))) else (whetstoneref13_nums.j2 k x0 x1 x6 x7 x8 x9 (bt x0 x1) false)) else (none)) else (none)) else (if x9 = true then (if x6.length < 17592186044416 then (some ((x6 ++ [wrap64 (x8 * x7)]), wrap64 (x1 + 1))) else (none)) else (some (x6, wrap64 (x1 + 1))))
def whetstoneref13_nums.j2 : Nat → ByteArray → Int → List Int → Int → Int → Bool → Int → Bool → Option (List Int × Int)
  | 0, _, _, _, _, _, _, _, _ => none
  | k + 1, x0, x1, x6, x7, x8, x9, x10, x30 => if x30 = true then (whetstoneref13_nums.l0 k x0 (wrap64 (x1 + 1)) x6 (mn (wrap64 ((wrap64 ((wrap64 (x7 * 10)) + (wrap64 (x10)))) - 48)) 1099511627776) x8 true) else (if x9 = true then (if x6.length < 17592186044416 then ((some (x6 ++ [wrap64 (x8 * x7)] : List Int)).bind fun y203 => (if x10 = 45 then (whetstoneref13_nums.l0 k x0 (wrap64 (x1 + 1)) y203 0 (-1) false) else (whetstoneref13_nums.l0 k x0 (wrap64 (x1 + 1)) y203 0 1 false))) else (none)) else (if x10 = 45 then (whetstoneref13_nums.l0 k x0 (wrap64 (x1 + 1)) x6 0 (-1) false) else (whetstoneref13_nums.l0 k x0 (wrap64 (x1 + 1)) x6 0 1 false)))
end
def whetstoneref13_nums.f (k : Nat) (a0 : ByteArray) (a1 : Int) : Option (List Int × Int) := whetstoneref13_nums.l0 k a0 a1 (([] : List Int)) 0 1 false
theorem whetstoneref13_nums.mono_l : ∀ k, (∀ y0 y1 y2 y3 y4 y5, LeO (whetstoneref13_nums.l0 k y0 y1 y2 y3 y4 y5) (whetstoneref13_nums.l0 (k + 1) y0 y1 y2 y3 y4 y5)) ∧ (∀ y0 y1 y2 y3 y4 y5 y6, LeO (whetstoneref13_nums.j1 k y0 y1 y2 y3 y4 y5 y6) (whetstoneref13_nums.j1 (k + 1) y0 y1 y2 y3 y4 y5 y6)) ∧ (∀ y0 y1 y2 y3 y4 y5 y6 y7, LeO (whetstoneref13_nums.j2 k y0 y1 y2 y3 y4 y5 y6 y7) (whetstoneref13_nums.j2 (k + 1) y0 y1 y2 y3 y4 y5 y6 y7))
  | 0 => ⟨fun _ _ _ _ _ _ r h => by simp [whetstoneref13_nums.l0] at h, fun _ _ _ _ _ _ _ r h => by simp [whetstoneref13_nums.j1] at h, fun _ _ _ _ _ _ _ _ r h => by simp [whetstoneref13_nums.j2] at h⟩
  | k + 1 => by
    obtain ⟨ih0, ih1, ih2⟩ := whetstoneref13_nums.mono_l k
    refine ⟨?_, ?_, ?_⟩
    · intro y0 y1 y2 y3 y4 y5
      unfold whetstoneref13_nums.l0
      repeat' first
      | (with_reducible exact ih0 _ _ _ _ _ _)
      | (with_reducible exact ih1 _ _ _ _ _ _ _)
      | (with_reducible exact ih2 _ _ _ _ _ _ _ _)
      | (with_reducible exact LeO.refl _)
      | (with_reducible exact LeO.none _)
      | (with_reducible refine LeO.ite ?_ ?_)
      | (with_reducible refine LeO.bind ?_ (fun _ => ?_))
      | exact ih0 _ _ _ _ _ _
      | exact ih1 _ _ _ _ _ _ _
      | exact ih2 _ _ _ _ _ _ _ _
      | exact LeO.none _
      | refine LeO.ite ?_ ?_
      | refine LeO.bind ?_ (fun _ => ?_)
    · intro y0 y1 y2 y3 y4 y5 y6
      unfold whetstoneref13_nums.j1
      repeat' first
      | (with_reducible exact ih0 _ _ _ _ _ _)
      | (with_reducible exact ih1 _ _ _ _ _ _ _)
      | (with_reducible exact ih2 _ _ _ _ _ _ _ _)
      | (with_reducible exact LeO.refl _)
      | (with_reducible exact LeO.none _)
      | (with_reducible refine LeO.ite ?_ ?_)
      | (with_reducible refine LeO.bind ?_ (fun _ => ?_))
      | exact ih0 _ _ _ _ _ _
      | exact ih1 _ _ _ _ _ _ _
      | exact ih2 _ _ _ _ _ _ _ _
      | exact LeO.none _
      | refine LeO.ite ?_ ?_
      | refine LeO.bind ?_ (fun _ => ?_)
    · intro y0 y1 y2 y3 y4 y5 y6 y7
      unfold whetstoneref13_nums.j2
      repeat' first
      | (with_reducible exact ih0 _ _ _ _ _ _)
      | (with_reducible exact ih1 _ _ _ _ _ _ _)
      | (with_reducible exact ih2 _ _ _ _ _ _ _ _)
      | (with_reducible exact LeO.refl _)
      | (with_reducible exact LeO.none _)
      | (with_reducible refine LeO.ite ?_ ?_)
      | (with_reducible refine LeO.bind ?_ (fun _ => ?_))
      | exact ih0 _ _ _ _ _ _
      | exact ih1 _ _ _ _ _ _ _
      | exact ih2 _ _ _ _ _ _ _ _
      | exact LeO.none _
      | refine LeO.ite ?_ ?_
      | refine LeO.bind ?_ (fun _ => ?_)
theorem whetstoneref13_nums.mono : ∀ a0 a1 k, LeO (whetstoneref13_nums.f k a0 a1) (whetstoneref13_nums.f (k + 1) a0 a1) := by
  intro a0 a1 k
  obtain ⟨ih0, ih1, ih2⟩ := whetstoneref13_nums.mono_l k
  unfold whetstoneref13_nums.f
  repeat' first
      | (with_reducible exact ih0 _ _ _ _ _ _)
      | (with_reducible exact ih1 _ _ _ _ _ _ _)
      | (with_reducible exact ih2 _ _ _ _ _ _ _ _)
      | (with_reducible exact LeO.refl _)
      | (with_reducible exact LeO.none _)
      | (with_reducible refine LeO.ite ?_ ?_)
      | (with_reducible refine LeO.bind ?_ (fun _ => ?_))
      | exact ih0 _ _ _ _ _ _
      | exact ih1 _ _ _ _ _ _ _
      | exact ih2 _ _ _ _ _ _ _ _
      | exact LeO.none _
      | refine LeO.ite ?_ ?_
      | refine LeO.bind ?_ (fun _ => ?_)
set_option maxHeartbeats 8000000 in
set_option maxRecDepth 100000 in
theorem whetstoneref13_nums.calls (k : Nat) (a0 : ByteArray) (a1 : Int) (r1 : List Int) (r2 : Int) (w : World) (h : whetstoneref13_nums.f k a0 a1 = some (r1, r2)) :
    Calls Tryz.prog 41 #[.string a0, .int .i64 a1] w fun e w' => ∃ v0_ : Value, e = .returned (.tuple #[v0_, .int .i64 r2]) ∧ Kd.R (Kd.int .i64) 3 w' w.heap.size (fun _ => True) v0_ r1 ∧ Below w.heap.size w w' := by
  have HB := Aside0.mk (Below.refl w.heap.size w)
  have H : (whetstoneref13_nums.l0 k a0 a1 (([] : List Int)) 0 1 false) = some (r1, r2) := h
  clear h
  obtain ⟨y197, hy197⟩ : ∃ y_ : List Int, y_ = (([] : List Int)) := ⟨_, rfl⟩
  replace H : (whetstoneref13_nums.l0 k a0 a1 y197 0 1 false) = some (r1, r2) := by first | (rw [hy197]; with_reducible exact H) | (have H2_ := (Option.bind_some _ _).symm.trans H; rw [hy197]; with_reducible exact H2_) | (have H2_ := (Option.bind_some _ _).symm.trans H; with_reducible exact H2_) | with_reducible exact H | (rw [hy197]; exact H) | exact H
  have Ny197 := Aside0.mk hy197
  clear hy197
  have H' := Aside0.mk H
  clear H
  go_enter Tryz.func41, Tryz.ntmps41
  go_wp2_with (first | ((with_reducible refine gate_dst (N := 11) rfl ?_); refine Kd.R_lit (Kd.int .i64) _ 3 ?hg (N := 11) ?hd (xs := ([] : List Int)) (inner := []) (ok := fun _ => True) (okp := fun _ => True) ?hr ?hp (fun _ hk => hk) trivial (Below.refl _ _) (Nat.le_refl _) (by simp) ?_; (case hd => rfl); (case hg => rfl); (case hr => first | (go_simp; done) | (go_simp; rfl)); (case hp => exact (Reps.none _ _)); intro v198 w3 ho4 hb hg_ hnew_; clear hg_ hnew_; (first | rw [← Ny197.out] at ho4 | (simp only [Int.reduceToNat] at ho4; rw [← Ny197.out] at ho4)); have n0_ := Aside0.mk (Kd.R_lower ho4 (below_size (by repeat (first | (with_reducible first | exact HB.out | apply below_alloc | apply pw_below_drewN | apply below_drew1) | exact HB.out)))); have n1_ := Aside0.mk (below_step (by repeat (first | (with_reducible first | exact HB.out | apply below_alloc | apply pw_below_drewN | apply below_drew1) | exact HB.out)) hb); clear HB; have HO199 := n0_; have HB := n1_; clear n0_ n1_; clear hb ho4))
  go_loopg [1, 6, 7, 8, 9] k (fun kq v1 v6 v7 v8 v9 w' => ∃ (x1_1 : Int) (x6_1 : List Int) (x7_1 : Int) (x8_1 : Int) (x9_1 : Bool), v1 = .int .i64 x1_1 ∧ v7 = .int .i64 x7_1 ∧ v8 = .int .i64 x8_1 ∧ v9 = .bool x9_1 ∧ Aside0 (whetstoneref13_nums.l0 kq a0 x1_1 x6_1 x7_1 x8_1 x9_1 = some (r1, r2)) ∧ Aside0 (kq ≤ k) ∧ Aside0 (Kd.R (Kd.int .i64) 3 w' w.heap.size (fun _ => True) v6 x6_1) ∧ Aside0 (Below w.heap.size w w'))
  case atStart => exact ⟨(a1), (y197), (0), (1), (false), (by first | rfl | (simp; done) | (simp [*]; done)), (by first | rfl | (simp; done) | (simp [*]; done)), (by first | rfl | (simp; done) | (simp [*]; done)), (by first | rfl | (simp; done) | (simp [*]; done)), H', ⟨Nat.le_refl _⟩, ⟨by (with_reducible repeat (first | apply Kd.R_alloc | apply Kd.R_drewN | apply Kd.R_drew)); exact HO199.out⟩, ⟨by repeat (first | (with_reducible first | exact HB.out | apply below_alloc | apply pw_below_drewN | apply below_drew1) | exact HB.out)⟩⟩
  case round =>
    clear H'
    try clear p2
    try clear c4
    obtain ⟨x1_1, x6_1, x7_1, x8_1, x9_1, rfl, rfl, rfl, rfl, HA, HK1, HO_6, HB⟩ := hrel
    cases gk with
    | zero => exact absurd HA.out (by simp [whetstoneref13_nums.l0])
    | succ k1 =>
      have H := HA.out
      clear HA
      simp only [whetstoneref13_nums.l0] at H
      have HC5 := Aside0.mk H
      clear H
      go_upto_region 2 with (fail)
      go_cut [21] (fun v21 wc => ∃ (kq : Nat) (x21_4 : Bool), v21 = .bool x21_4 ∧ Aside0 (whetstoneref13_nums.j1 kq a0 x1_1 x6_1 x7_1 x8_1 x9_1 x21_4 = some (r1, r2)) ∧ Aside0 (kq ≤ k1) ∧ Aside0 (Kd.R (Kd.int .i64) 3 wc w.heap.size (fun _ => True) u6 x6_1) ∧ Aside0 (Below w.heap.size w wc))
      case first =>
        have H := HC5.out
        clear HC5
        by_cases c6 : x1_1 < (a0.size : Int)
        · rw [if_pos c6] at H
          have c6b0 : decide (x1_1 < (a0.size : Int)) = true := decide_eq_true c6
          clear c6
          (first | rw [c6b0] | (simp only [i64_w, i32_w]; rw [c6b0]) | skip)
          by_cases c7 : 0 ≤ x1_1
          · rw [if_pos c7] at H
            have c7b0 : decide (0 ≤ x1_1) = true := decide_eq_true c7
            clear c7
            have H' := Aside0.mk H
            clear H
            have p8 : 0 ≤ (x1_1 : Int) := of_decide_eq_true (by first | (with_reducible assumption) | assumption)
            have q8 : x1_1 < (a0.size : Int) := of_decide_eq_true (by first | (with_reducible assumption) | assumption)
            have hx8 := bt_at a0 x1_1
            replace p8 := eq_true p8
            replace q8 := eq_true q8
            go_wp2
            go_meet
            case rel => exact ⟨_, (((bt a0 x1_1) != 10)), (by first | rfl | (simp; done) | (simp [*]; done)), H', ⟨by have := HK1.out; first | omega | exact Nat.le_refl _⟩, ⟨by (with_reducible repeat (first | apply Kd.R_alloc | apply Kd.R_drewN | apply Kd.R_drew)); exact HO_6.out⟩, ⟨by repeat (first | (with_reducible first | exact HB.out | apply below_alloc | apply pw_below_drewN | apply below_drew1) | exact HB.out)⟩⟩
          · rw [if_neg c7] at H
            exact absurd H (by simp)
        · rw [if_neg c6] at H
          have c6b0 : decide (x1_1 < (a0.size : Int)) = false := decide_eq_false c6
          clear c6
          (first | rw [c6b0] | (simp only [i64_w, i32_w]; rw [c6b0]) | skip)
          have H' := Aside0.mk H
          clear H
          go_wp2
          go_meet
          case rel => exact ⟨_, (false), (by first | rfl | (simp; done) | (simp [*]; done)), H', ⟨by have := HK1.out; first | omega | exact Nat.le_refl _⟩, ⟨by (with_reducible repeat (first | apply Kd.R_alloc | apply Kd.R_drewN | apply Kd.R_drew)); exact HO_6.out⟩, ⟨by repeat (first | (with_reducible first | exact HB.out | apply below_alloc | apply pw_below_drewN | apply below_drew1) | exact HB.out)⟩⟩
      case rest =>
        clear HC5
        try clear p2
        try clear c4
        try clear c6
        try clear c6b0
        try clear c7
        try clear c7b0
        try clear p8
        try clear q8
        try clear hx8
        try clear p2
        try clear p8
        try clear q8
        obtain ⟨kq, x21_4, rfl, HA, HJ4, HO_6, HB⟩ := hcut
        cases kq with
        | zero => exact absurd HA.out (by simp [whetstoneref13_nums.j1])
        | succ kj4 =>
          have H := HA.out
          clear HA
          simp only [whetstoneref13_nums.j1] at H
          by_cases c9 : x21_4 = true
          · subst c9
            have H1 : (if 0 ≤ x1_1 then (if x1_1 < (a0.size : Int) then (if (bt a0 x1_1) ≥ 48 then (whetstoneref13_nums.j2 kj4 a0 x1_1 x6_1 x7_1 x8_1 x9_1 (bt a0 x1_1) (decide ((bt a0 x1_1) ≤ 57))) else (whetstoneref13_nums.j2 kj4 a0 x1_1 x6_1 x7_1 x8_1 x9_1 (bt a0 x1_1) false)) else (none)) else (none)) = some (r1, r2) := by rw [if_pos rfl] at H; exact H
            clear H
            have H := H1
            clear H1
            by_cases c10 : 0 ≤ x1_1
            · rw [if_pos c10] at H
              have c10b0 : decide (0 ≤ x1_1) = true := decide_eq_true c10
              clear c10
              by_cases c11 : x1_1 < (a0.size : Int)
              · rw [if_pos c11] at H
                have c11b0 : decide (x1_1 < (a0.size : Int)) = true := decide_eq_true c11
                clear c11
                have HC13 := Aside0.mk H
                clear H
                have p12 : 0 ≤ (x1_1 : Int) := of_decide_eq_true (by first | (with_reducible assumption) | assumption)
                have q12 : x1_1 < (a0.size : Int) := of_decide_eq_true (by first | (with_reducible assumption) | assumption)
                have hx12 := bt_at a0 x1_1
                replace p12 := eq_true p12
                replace q12 := eq_true q12
                go_upto_region 4 with (fail)
                go_cut [30] (fun v30 wc => ∃ (kq : Nat) (x30_12 : Bool), v30 = .bool x30_12 ∧ Aside0 (whetstoneref13_nums.j2 kq a0 x1_1 x6_1 x7_1 x8_1 x9_1 (bt a0 x1_1) x30_12 = some (r1, r2)) ∧ Aside0 (kq ≤ kj4) ∧ Aside0 (Kd.R (Kd.int .i64) 3 wc w.heap.size (fun _ => True) u6 x6_1) ∧ Aside0 (Below w.heap.size w wc))
                case first =>
                  have H := HC13.out
                  clear HC13
                  by_cases c14 : (bt a0 x1_1) ≥ 48
                  · rw [if_pos c14] at H
                    have c14b0 : decide (48 ≤ (bt a0 x1_1)) = true := decide_eq_true c14
                    clear c14
                    (first | rw [c14b0] | (simp only [i64_w, i32_w]; rw [c14b0]) | skip)
                    have H' := Aside0.mk H
                    clear H
                    go_wp2
                    go_meet
                    case rel => exact ⟨_, (decide ((bt a0 x1_1) ≤ 57)), (by first | rfl | (simp; done) | (simp [*]; done)), H', ⟨by have := HK1.out; have := HJ4.out; first | omega | exact Nat.le_refl _⟩, ⟨by (with_reducible repeat (first | apply Kd.R_alloc | apply Kd.R_drewN | apply Kd.R_drew)); exact HO_6.out⟩, ⟨by repeat (first | (with_reducible first | exact HB.out | apply below_alloc | apply pw_below_drewN | apply below_drew1) | exact HB.out)⟩⟩
                  · rw [if_neg c14] at H
                    have c14b0 : decide (48 ≤ (bt a0 x1_1)) = false := decide_eq_false c14
                    clear c14
                    (first | rw [c14b0] | (simp only [i64_w, i32_w]; rw [c14b0]) | skip)
                    have H' := Aside0.mk H
                    clear H
                    go_wp2
                    go_meet
                    case rel => exact ⟨_, (false), (by first | rfl | (simp; done) | (simp [*]; done)), H', ⟨by have := HK1.out; have := HJ4.out; first | omega | exact Nat.le_refl _⟩, ⟨by (with_reducible repeat (first | apply Kd.R_alloc | apply Kd.R_drewN | apply Kd.R_drew)); exact HO_6.out⟩, ⟨by repeat (first | (with_reducible first | exact HB.out | apply below_alloc | apply pw_below_drewN | apply below_drew1) | exact HB.out)⟩⟩
                case rest =>
                  clear HC13
                  try clear c1
                  try clear p1
                  try clear q1
                  try clear hx1
                  try clear p2
                  try clear c4
                  try clear c6
                  try clear c6b0
                  try clear c7
                  try clear c7b0
                  try clear p8
                  try clear q8
                  try clear hx8
                  try clear c9
                  try clear c10
                  try clear c10b0
                  try clear c11
                  try clear c11b0
                  try clear p12
                  try clear q12
                  try clear hx12
                  try clear c14
                  try clear c14b0
                  try clear p12
                  try clear p2
                  try clear p8
                  try clear q12
                  try clear q8
                  obtain ⟨kq, x30_12, rfl, HA, HJ12, HO_6, HB⟩ := hcut
                  cases kq with
                  | zero => exact absurd HA.out (by simp [whetstoneref13_nums.j2])
                  | succ kj12 =>
                    have H := HA.out
                    clear HA
                    simp only [whetstoneref13_nums.j2] at H
                    by_cases c15 : x30_12 = true
                    · subst c15
                      have H1 : (whetstoneref13_nums.l0 kj12 a0 (wrap64 (x1_1 + 1)) x6_1 (mn (wrap64 ((wrap64 ((wrap64 (x7_1 * 10)) + (wrap64 ((bt a0 x1_1))))) - 48)) 1099511627776) x8_1 true) = some (r1, r2) := by rw [if_pos rfl] at H; exact H
                      clear H
                      have H := H1
                      clear H1
                      obtain ⟨ji16, hji16⟩ : ∃ j_ : Int, (mn (wrap64 ((wrap64 ((wrap64 (x7_1 * 10)) + (wrap64 ((bt a0 x1_1))))) - 48)) 1099511627776) = j_ := ⟨_, rfl⟩
                      replace H : (whetstoneref13_nums.l0 kj12 a0 (wrap64 (x1_1 + 1)) x6_1 ji16 x8_1 true) = some (r1, r2) := by first | (rw [hji16] at H; exact H) | (simp only [hji16] at H ⊢; exact H)
                      have hji16_ : (if 1099511627776 < (wrap64 ((wrap64 ((wrap64 (x7_1 * 10)) + (wrap64 ((bt a0 x1_1))))) - 48)) then 1099511627776 else (wrap64 ((wrap64 ((wrap64 (x7_1 * 10)) + (wrap64 ((bt a0 x1_1))))) - 48))) = ji16 := hji16
                      have H' := Aside0.mk H
                      clear H
                      go_wp2
                      go_roundg kj12
                      case measure => have := HK1.out; have := HJ4.out; have := HJ12.out; omega
                      case rel => exact ⟨(wrap64 (x1_1 + 1)), (x6_1), (ji16), (x8_1), (true), (by first | rfl | (simp; done) | (simp [*]; done)), (by first | rfl | (simp; done) | (simp only [← hji16] <;> (first | rfl | simp)) | (simp [*]; done)), (by first | rfl | (simp; done) | (simp [*]; done)), (by first | rfl | (simp; done) | (simp [*]; done)), H', ⟨by have := HK1.out; have := HJ4.out; have := HJ12.out; omega⟩, ⟨by (with_reducible repeat (first | apply Kd.R_alloc | apply Kd.R_drewN | apply Kd.R_drew)); exact HO_6.out⟩, ⟨by repeat (first | (with_reducible first | exact HB.out | apply below_alloc | apply pw_below_drewN | apply below_drew1) | exact HB.out)⟩⟩
                    · replace c15 := Bool.eq_false_iff.mpr c15
                      subst c15
                      have H1 : (if x9_1 = true then (if x6_1.length < 17592186044416 then ((some (x6_1 ++ [wrap64 (x8_1 * x7_1)] : List Int)).bind fun y203 => (if (bt a0 x1_1) = 45 then (whetstoneref13_nums.l0 kj12 a0 (wrap64 (x1_1 + 1)) y203 0 (-1) false) else (whetstoneref13_nums.l0 kj12 a0 (wrap64 (x1_1 + 1)) y203 0 1 false))) else (none)) else (if (bt a0 x1_1) = 45 then (whetstoneref13_nums.l0 kj12 a0 (wrap64 (x1_1 + 1)) x6_1 0 (-1) false) else (whetstoneref13_nums.l0 kj12 a0 (wrap64 (x1_1 + 1)) x6_1 0 1 false))) = some (r1, r2) := by rw [if_neg (show ¬ (false = true) by decide)] at H; exact H
                      clear H
                      have H := H1
                      clear H1
                      by_cases c17 : x9_1 = true
                      · subst c17
                        have H1 : (if x6_1.length < 17592186044416 then ((some (x6_1 ++ [wrap64 (x8_1 * x7_1)] : List Int)).bind fun y203 => (if (bt a0 x1_1) = 45 then (whetstoneref13_nums.l0 kj12 a0 (wrap64 (x1_1 + 1)) y203 0 (-1) false) else (whetstoneref13_nums.l0 kj12 a0 (wrap64 (x1_1 + 1)) y203 0 1 false))) else (none)) = some (r1, r2) := by rw [if_pos rfl] at H; exact H
                        clear H
                        have H := H1
                        clear H1
                        by_cases c18 : x6_1.length < 17592186044416
                        · rw [if_pos c18] at H
                          have LMc18 := Aside0.mk c18
                          clear c18
                          obtain ⟨y203, hy203⟩ : ∃ y_ : List Int, y_ = (x6_1 ++ [wrap64 (x8_1 * x7_1)]) := ⟨_, rfl⟩
                          replace H : (if (bt a0 x1_1) = 45 then (whetstoneref13_nums.l0 kj12 a0 (wrap64 (x1_1 + 1)) y203 0 (-1) false) else (whetstoneref13_nums.l0 kj12 a0 (wrap64 (x1_1 + 1)) y203 0 1 false)) = some (r1, r2) := by first | (rw [hy203]; with_reducible exact H) | (have H2_ := (Option.bind_some _ _).symm.trans H; rw [hy203]; with_reducible exact H2_) | (have H2_ := (Option.bind_some _ _).symm.trans H; with_reducible exact H2_) | with_reducible exact H | (rw [hy203]; exact H) | exact H
                          have Ny203 := Aside0.mk hy203
                          clear hy203
                          by_cases c19 : (bt a0 x1_1) = 45
                          · rw [if_pos c19] at H
                            have c19b0 : ((bt a0 x1_1) == 45) = true := beq_iff_eq.mpr c19
                            have c19b1 : ((bt a0 x1_1) != 45) = false := bne_eq_false_iff_eq.mpr c19
                            clear c19
                            have H' := Aside0.mk H
                            clear H
                            go_wp2_with (first | ((with_reducible refine gate_builtin (b := .append) (xs := #[.tmp 39, .tmp 43]) rfl ?_); at_builtin; refine Kd.R_append (Kd.int .i64) (w0 := w) w.heap.size rfl (.tmp 39) (.tmp 43) 22 3 (.int .i64 0) 8 rfl Tryz.underlying22 info3 rfl (by decide) (by omega) u6 x6_1 (wrap64 (x8_1 * x7_1)) [.int .i64 (wrap64 (x8_1 * x7_1))] (fun _ => True) (fun _ => False) rfl rfl ?aP (fun _ hk => hk.elim) ?aF ?aO ?aB ?aS ?aL ?_; (case aP => exact rfl); (case aB => exact (by repeat (first | (with_reducible first | exact HB.out | apply below_alloc | apply pw_below_drewN | apply below_drew1) | exact HB.out))); (case aF => exact (fun _ _ => trivial)); (case aO => exact (by (with_reducible repeat (first | apply Kd.R_alloc | apply Kd.R_drewN | apply Kd.R_drew)); exact HO_6.out)); (case aS => exact (below_size (by repeat (first | (with_reducible first | exact HB.out | apply below_alloc | apply pw_below_drewN | apply below_drew1) | exact HB.out)))); (case aL => have := LMc18.out; omega); intro v204 w20 ho hb hg hat; rw [← Ny203.out] at ho; have n0_ := Aside0.mk (hb); have n1_ := Aside0.mk (ho); clear HB; clear HO_6; have HB := n0_; have HO205 := n1_; clear n0_ n1_; clear ho hb hg hat))
                            go_roundg kj12
                            case measure => have := HK1.out; have := HJ4.out; have := HJ12.out; omega
                            case rel => exact ⟨(wrap64 (x1_1 + 1)), (y203), (0), ((-1)), (false), (by first | rfl | (simp; done) | (simp [*]; done)), (by first | rfl | (simp; done) | (simp [*]; done)), (by first | rfl | (simp; done) | (simp [*]; done)), (by first | rfl | (simp; done) | (simp [*]; done)), H', ⟨by have := HK1.out; have := HJ4.out; have := HJ12.out; omega⟩, ⟨by (with_reducible repeat (first | apply Kd.R_alloc | apply Kd.R_drewN | apply Kd.R_drew)); exact HO205.out⟩, ⟨by repeat (first | (with_reducible first | exact HB.out | apply below_alloc | apply pw_below_drewN | apply below_drew1) | exact HB.out)⟩⟩
                          · rw [if_neg c19] at H
                            have c19b0 : ((bt a0 x1_1) == 45) = false := beq_eq_false_iff_ne.mpr c19
                            have c19b1 : ((bt a0 x1_1) != 45) = true := bne_iff_ne.mpr c19
                            have H' := Aside0.mk H
                            clear H
                            go_wp2_with (first | ((with_reducible refine gate_builtin (b := .append) (xs := #[.tmp 39, .tmp 43]) rfl ?_); at_builtin; refine Kd.R_append (Kd.int .i64) (w0 := w) w.heap.size rfl (.tmp 39) (.tmp 43) 22 3 (.int .i64 0) 8 rfl Tryz.underlying22 info3 rfl (by decide) (by omega) u6 x6_1 (wrap64 (x8_1 * x7_1)) [.int .i64 (wrap64 (x8_1 * x7_1))] (fun _ => True) (fun _ => False) rfl rfl ?aP (fun _ hk => hk.elim) ?aF ?aO ?aB ?aS ?aL ?_; (case aP => exact rfl); (case aB => exact (by repeat (first | (with_reducible first | exact HB.out | apply below_alloc | apply pw_below_drewN | apply below_drew1) | exact HB.out))); (case aF => exact (fun _ _ => trivial)); (case aO => exact (by (with_reducible repeat (first | apply Kd.R_alloc | apply Kd.R_drewN | apply Kd.R_drew)); exact HO_6.out)); (case aS => exact (below_size (by repeat (first | (with_reducible first | exact HB.out | apply below_alloc | apply pw_below_drewN | apply below_drew1) | exact HB.out)))); (case aL => have := LMc18.out; omega); intro v204 w21 ho hb hg hat; rw [← Ny203.out] at ho; have n0_ := Aside0.mk (hb); have n1_ := Aside0.mk (ho); clear HB; clear HO_6; have HB := n0_; have HO205 := n1_; clear n0_ n1_; clear ho hb hg hat))
                            go_roundg kj12
                            case measure => have := HK1.out; have := HJ4.out; have := HJ12.out; omega
                            case rel => exact ⟨(wrap64 (x1_1 + 1)), (y203), (0), (1), (false), (by first | rfl | (simp; done) | (simp [*]; done)), (by first | rfl | (simp; done) | (simp [*]; done)), (by first | rfl | (simp; done) | (simp [*]; done)), (by first | rfl | (simp; done) | (simp [*]; done)), H', ⟨by have := HK1.out; have := HJ4.out; have := HJ12.out; omega⟩, ⟨by (with_reducible repeat (first | apply Kd.R_alloc | apply Kd.R_drewN | apply Kd.R_drew)); exact HO205.out⟩, ⟨by repeat (first | (with_reducible first | exact HB.out | apply below_alloc | apply pw_below_drewN | apply below_drew1) | exact HB.out)⟩⟩
                        · rw [if_neg c18] at H
                          exact absurd H (by simp)
                      · replace c17 := Bool.eq_false_iff.mpr c17
                        subst c17
                        have H1 : (if (bt a0 x1_1) = 45 then (whetstoneref13_nums.l0 kj12 a0 (wrap64 (x1_1 + 1)) x6_1 0 (-1) false) else (whetstoneref13_nums.l0 kj12 a0 (wrap64 (x1_1 + 1)) x6_1 0 1 false)) = some (r1, r2) := by rw [if_neg (show ¬ (false = true) by decide)] at H; exact H
                        clear H
                        have H := H1
                        clear H1
                        by_cases c22 : (bt a0 x1_1) = 45
                        · rw [if_pos c22] at H
                          have c22b0 : ((bt a0 x1_1) == 45) = true := beq_iff_eq.mpr c22
                          have c22b1 : ((bt a0 x1_1) != 45) = false := bne_eq_false_iff_eq.mpr c22
                          clear c22
                          have H' := Aside0.mk H
                          clear H
                          go_wp2
                          go_roundg kj12
                          case measure => have := HK1.out; have := HJ4.out; have := HJ12.out; omega
                          case rel => exact ⟨(wrap64 (x1_1 + 1)), (x6_1), (0), ((-1)), (false), (by first | rfl | (simp; done) | (simp [*]; done)), (by first | rfl | (simp; done) | (simp [*]; done)), (by first | rfl | (simp; done) | (simp [*]; done)), (by first | rfl | (simp; done) | (simp [*]; done)), H', ⟨by have := HK1.out; have := HJ4.out; have := HJ12.out; omega⟩, ⟨by (with_reducible repeat (first | apply Kd.R_alloc | apply Kd.R_drewN | apply Kd.R_drew)); exact HO_6.out⟩, ⟨by repeat (first | (with_reducible first | exact HB.out | apply below_alloc | apply pw_below_drewN | apply below_drew1) | exact HB.out)⟩⟩
                        · rw [if_neg c22] at H
                          have c22b0 : ((bt a0 x1_1) == 45) = false := beq_eq_false_iff_ne.mpr c22
                          have c22b1 : ((bt a0 x1_1) != 45) = true := bne_iff_ne.mpr c22
                          have H' := Aside0.mk H
                          clear H
                          go_wp2
                          go_roundg kj12
                          case measure => have := HK1.out; have := HJ4.out; have := HJ12.out; omega
                          case rel => exact ⟨(wrap64 (x1_1 + 1)), (x6_1), (0), (1), (false), (by first | rfl | (simp; done) | (simp [*]; done)), (by first | rfl | (simp; done) | (simp [*]; done)), (by first | rfl | (simp; done) | (simp [*]; done)), (by first | rfl | (simp; done) | (simp [*]; done)), H', ⟨by have := HK1.out; have := HJ4.out; have := HJ12.out; omega⟩, ⟨by (with_reducible repeat (first | apply Kd.R_alloc | apply Kd.R_drewN | apply Kd.R_drew)); exact HO_6.out⟩, ⟨by repeat (first | (with_reducible first | exact HB.out | apply below_alloc | apply pw_below_drewN | apply below_drew1) | exact HB.out)⟩⟩
              · rw [if_neg c11] at H
                exact absurd H (by simp)
            · rw [if_neg c10] at H
              exact absurd H (by simp)
          · replace c9 := Bool.eq_false_iff.mpr c9
            subst c9
            have H1 : (if x9_1 = true then (if x6_1.length < 17592186044416 then (some ((x6_1 ++ [wrap64 (x8_1 * x7_1)]), wrap64 (x1_1 + 1))) else (none)) else (some (x6_1, wrap64 (x1_1 + 1)))) = some (r1, r2) := by rw [if_neg (show ¬ (false = true) by decide)] at H; exact H
            clear H
            have H := H1
            clear H1
            by_cases c23 : x9_1 = true
            · subst c23
              have H1 : (if x6_1.length < 17592186044416 then (some ((x6_1 ++ [wrap64 (x8_1 * x7_1)]), wrap64 (x1_1 + 1))) else (none)) = some (r1, r2) := by rw [if_pos rfl] at H; exact H
              clear H
              have H := H1
              clear H1
              by_cases c24 : x6_1.length < 17592186044416
              · rw [if_pos c24] at H
                have LMc24 := Aside0.mk c24
                clear c24
                obtain ⟨y200, hy200⟩ : ∃ y_ : List Int, y_ = (x6_1 ++ [wrap64 (x8_1 * x7_1)]) := ⟨_, rfl⟩
                replace H : (some (y200, wrap64 (x1_1 + 1))) = some (r1, r2) := by first | (rw [hy200]; with_reducible exact H) | (have H2_ := (Option.bind_some _ _).symm.trans H; rw [hy200]; with_reducible exact H2_) | (have H2_ := (Option.bind_some _ _).symm.trans H; with_reducible exact H2_) | with_reducible exact H | (rw [hy200]; exact H) | exact H
                have Ny200 := Aside0.mk hy200
                clear hy200
                simp only [Option.some.injEq, Prod.mk.injEq] at H
                obtain ⟨rfl, rfl⟩ := H
                go_wp2_with (first | ((with_reducible refine gate_builtin (b := .append) (xs := #[.tmp 50, .tmp 54]) rfl ?_); at_builtin; refine Kd.R_append (Kd.int .i64) (w0 := w) w.heap.size rfl (.tmp 50) (.tmp 54) 22 3 (.int .i64 0) 8 rfl Tryz.underlying22 info3 rfl (by decide) (by omega) u6 x6_1 (wrap64 (x8_1 * x7_1)) [.int .i64 (wrap64 (x8_1 * x7_1))] (fun _ => True) (fun _ => False) rfl rfl ?aP (fun _ hk => hk.elim) ?aF ?aO ?aB ?aS ?aL ?_; (case aP => exact rfl); (case aB => exact (by repeat (first | (with_reducible first | exact HB.out | apply below_alloc | apply pw_below_drewN | apply below_drew1) | exact HB.out))); (case aF => exact (fun _ _ => trivial)); (case aO => exact (by (with_reducible repeat (first | apply Kd.R_alloc | apply Kd.R_drewN | apply Kd.R_drew)); exact HO_6.out)); (case aS => exact (below_size (by repeat (first | (with_reducible first | exact HB.out | apply below_alloc | apply pw_below_drewN | apply below_drew1) | exact HB.out)))); (case aL => have := LMc24.out; omega); intro v201 w25 ho hb hg hat; rw [← Ny200.out] at ho; have n0_ := Aside0.mk (hb); have n1_ := Aside0.mk (ho); clear HB; clear HO_6; have HB := n0_; have HO202 := n1_; clear n0_ n1_; clear ho hb hg hat))
                go_ret2
                exact ⟨_, by first | rfl | (simp [errW_none, errW_some] <;> rfl) | (simp [*, errW_none, errW_some] <;> rfl), by (with_reducible repeat (first | apply Kd.R_alloc | apply Kd.R_drewN | apply Kd.R_drew)); exact HO202.out, by repeat (first | (with_reducible first | exact HB.out | apply below_alloc | apply pw_below_drewN | apply below_drew1) | exact HB.out)⟩
              · rw [if_neg c24] at H
                exact absurd H (by simp)
            · replace c23 := Bool.eq_false_iff.mpr c23
              subst c23
              have H1 : (some (x6_1, wrap64 (x1_1 + 1))) = some (r1, r2) := by rw [if_neg (show ¬ (false = true) by decide)] at H; exact H
              clear H
              have H := H1
              clear H1
              simp only [Option.some.injEq, Prod.mk.injEq] at H
              obtain ⟨rfl, rfl⟩ := H
              go_wp2
              go_ret2
              exact ⟨_, by first | rfl | (simp [errW_none, errW_some] <;> rfl) | (simp [*, errW_none, errW_some] <;> rfl), by (with_reducible repeat (first | apply Kd.R_alloc | apply Kd.R_drewN | apply Kd.R_drew)); exact HO_6.out, by repeat (first | (with_reducible first | exact HB.out | apply below_alloc | apply pw_below_drewN | apply below_drew1) | exact HB.out)⟩

end Go.Proofs.YtjifancgekoenaaGreatDoor
