import Derived.Test.YtjifancgekoenaaGreatDoorCnfT
import Derived.Test.YtjifancgekoenaaGreatDoorCnfO
namespace Go.Proofs.YtjifancgekoenaaGreatDoor
open Go.RowKit Go.Proofs.YtjifancgekoenaaGreatDoorW.PrintWords Go.Proofs.YtjifancgekoenaaGreatDoorW.PrintLast
set_option linter.unusedVariables false
set_option linter.unusedSimpArgs false

theorem drawn_below {w w' : World} (h : Drawn0 w w') : Below w.heap.size w w' := by
  obtain ⟨n, rfl⟩ := h
  exact bel_drewN w n
theorem RClause_any (A0 : Option Addr) (c0 : Nat) (l0 : List Int) (A1 : Option Addr) (c1 : Nat) (l1 : List Bool) (w : World) (h0 : Kd.C kI w A0 l0.length l0) (hc0 : l0.length ≤ c0) (h1 : Kd.C Kd.bool w A1 l1.length l1) (hc1 : l1.length ≤ c1)
    (hW : Wf l0) (hl0 : l0.length ≤ 1000000) (hl1 : l1.length ≤ 1000000) :
    Calls Tryz.prog 11 #[.slice A0 l0.length c0, .slice A1 l1.length c1] w fun e w' => e = .returned (.bool (clauseB l0 l1)) ∧ Below w.heap.size w w' :=
  (whetstoneref13_Clause.calls (l0.length + l1.length + 2) A0 c0 l0 A1 c1 l1 (clauseB l0 l1) w h0 hc0 h1 hc1 (Clause_f l0 l1 hW hl0 hl1 _ (Nat.le_refl _))).mono fun _ _ ⟨h1, h2⟩ => ⟨h1, drawn_below h2⟩
theorem RCheck_any (n : Int) (A : Option Addr) (c : Nat) (L : List (List Int)) (w : World) (hC : Kd.C kII w A L.length L) (hc : L.length ≤ c) (hW : WfL L) (hM : ∀ r ∈ L, r.length ≤ 12) (hl : L.length ≤ 1000000) :
    Calls Tryz.prog 17 #[.agg #[.int .i64 n, .slice A L.length c]] w fun e w' => e = .returned (.int .i64 (checkI n L)) ∧ Below w.heap.size w w' :=
  whetstoneref13_Check.calls (L.length * (12 + 2) + 2) n A c L (checkI n L) w hC hc (Check_f n L 12 hM (by omega) hW hl _ (Nat.le_refl _))
theorem RTrue_any (n : Int) (A : Option Addr) (c : Nat) (L : List (List Int)) (A1 : Option Addr) (c1 : Nat) (a : List Bool) (w : World) (hC : Kd.C kII w A L.length L) (hc : L.length ≤ c) (h1 : Kd.C Kd.bool w A1 a.length a) (hc1 : a.length ≤ c1) (hW : WfL L) (hM : ∀ r ∈ L, r.length ≤ 12) (hl : L.length ≤ 1000000) (ha : a.length ≤ 1000000) :
    Calls Tryz.prog 19 #[.agg #[.int .i64 n, .slice A L.length c], .slice A1 a.length c1] w fun e w' => e = .returned (.bool (trueB L a)) ∧ Below w.heap.size w w' :=
  whetstoneref13_True.calls (L.length + 12 + a.length + 3) n A c L A1 c1 a (trueB L a) w hC hc h1 hc1 (True_f n L a 12 hM (by omega) hW hl ha _ (Nat.le_refl _))

set_option maxHeartbeats 4000000 in
set_option maxRecDepth 100000 in
theorem CnfChecks_any (n : Int) (A : Option Addr) (c : Nat) (L : List (List Int)) (A1 : Option Addr) (c1 : Nat) (a0 : List Bool) (w : World) (hC : Kd.C kII w A L.length L) (hc : L.length ≤ c) (hW : WfL L) (hn : -9223372036854775808 ≤ n ∧ n ≤ 9223372036854775807)
    (ha0 : Kd.C Kd.bool w A1 a0.length a0) (hca : a0.length ≤ c1) (hL : Laid w) :
    Calls Tryz.prog 5 #[.agg #[.int .i64 n, .slice A L.length c], .slice A1 a0.length c1] w fun e w' => e = .returned (.bool true) ∧ Below w.heap.size w w' := by
  have HBd := Bound_any n A c L (w.alloc (.cells #[.int .i64 n, .slice A L.length c] 28)) (Kd.C_below hC (bel_alloc _ _)) hc
  have HW : Aside0 (WfL (boundL L) ∧ (∀ r ∈ boundL L, r.length ≤ 12) ∧ (boundL L).length ≤ 60 ∧ Laid w) := ⟨boundL_wf hW, fun r hr => boundL_row hr, boundL_len L, hL⟩
  obtain ⟨k, hk1⟩ : ∃ k : Nat, min a0.length 100 = k := ⟨_, rfl⟩
  have ha9 : a0.length ≤ 9223372036854775807 := C_max ha0
  have hk2 : (k : Int) ≤ (c1 : Int) := by omega
  have hmin : (if (100 : Int) < (a0.length : Int) then (100 : Int) else (a0.length : Int)) = (k : Int) := by split <;> omega
  have hmin2 : min (a0.length : Int) 100 = (k : Int) := by omega
  obtain ⟨a, hae⟩ : ∃ a, a0.take k = a := ⟨_, rfl⟩
  have hal : a.length = k := by rw [← hae, List.length_take]; omega
  have HA : Aside0 (Kd.C Kd.bool w A1 a.length a ∧ a.length = k ∧ k ≤ 100 ∧ k ≤ c1) := ⟨by rw [hal, ← hae]; exact C_take ha0 (by omega), hal, by omega, by omega⟩
  clear hC hW hL hn ha0 hae hal hk1
  go_enter Tryz.func5, Tryz.ntmps5
  go_wp2_with fail
  refine HBd.mono ?_
  clear HBd
  generalize boundL L = B at *
  rintro e W ⟨A', c', rfl, hS, hb⟩
  rw [show (w.alloc (.cells #[.int .i64 n, .slice A L.length c] 28)).heap.size = w.heap.size + 1 from by simp] at hS hb
  have HC := Aside0.mk (atC_store HW.out.2.2.2 hS hb)
  have hbox := atC_box hb
  have k0 := blk_cellA hbox 0
  have k1 := blk_cellA hbox 1
  have l0 := blk_frozen hbox 0
  have l1 := blk_frozen hbox 1
  clear hS hb hbox
  go_wp2_with fail
  clear k0 k1 l0 l1 hmin hmin2 hk2 ha9 hca
  generalize (W.setCell ⟨w.heap.size, 0, none⟩ (.int .i64 n)).setCell ⟨w.heap.size, 1, none⟩ (.slice A' B.length c') = W1 at *
  obtain ⟨m, hm⟩ : ∃ m, B.length = m := ⟨_, rfl⟩
  have HM : Aside0 (B.length = m ∧ m ≤ 60) := ⟨hm, by have := HW.out.2.2.1; omega⟩
  have hm60 : m ≤ 60 := HM.out.2
  rw [hm]
  go_loopg [5] m (fun gg s5 wr => ∃ kk : Nat, kk ≤ m ∧ m - kk ≤ gg ∧ s5 = .int .i64 kk ∧ Aside0 (AtC w wr w.heap.size n A' c' B))
  case atStart => exact ⟨0, by omega, by omega, rfl, HC⟩
  case round =>
    obtain ⟨kk, h1, h2, rfl, HR⟩ := hrel
    clear HC
    have hc1 := HR.out.c1
    rw [hm] at hc1
    by_cases hlt : kk < m
    · have hlt2 : decide ((kk : Int) < (m : Int)) = true := by simpa using hlt
      obtain ⟨b, off, rfl, hbl, hrow⟩ := C_rows HR.out.rows (by omega)
      obtain ⟨Ar, cr, hcell, hcr, hCr⟩ := hrow kk (by omega)
      have hrm : B[kk]! ∈ B := by rw [getElem!_pos B kk (by omega)]; exact List.getElem_mem _
      have hwf := HW.out.1 _ hrm
      have h12 := HW.out.2.1 _ hrm
      have hg : w.heap.size < wr.heap.size := World.block_lt_of_cell? wr _ hc1
      have HCl : Aside0 (∀ W, Below wr.heap.size wr W → Calls Tryz.prog 10 #[.slice Ar B[kk]!.length cr, .slice A1 k c1] W fun e w' => e = .returned (.bool (clauseB B[kk]! a)) ∧ Below W.heap.size W w') := ⟨fun W h => by
        rw [← HA.out.2.1]
        exact Clause_any Ar cr B[kk]! A1 c1 a W (Kd.C_below hCr h) (Kd.C_below HA.out.1 ((HR.out.bel.trans (h.mono HR.out.bel.size))))⟩
      have HRl : Aside0 (∀ W, Below wr.heap.size wr W → Calls Tryz.prog 11 #[.slice Ar B[kk]!.length cr, .slice A1 k c1] W fun e w' => e = .returned (.bool (clauseB B[kk]! a)) ∧ Below W.heap.size W w') := ⟨fun W h => by
        rw [← HA.out.2.1]
        exact RClause_any Ar cr B[kk]! A1 c1 a W (Kd.C_below hCr h) hcr (Kd.C_below HA.out.1 ((HR.out.bel.trans (h.mono HR.out.bel.size)))) (by rw [HA.out.2.1]; exact HA.out.2.2.2) hwf (by omega) (by rw [HA.out.2.1]; have := HA.out.2.2.1; omega)⟩
      generalize B[kk]!.length = rl at *
      generalize clauseB B[kk]! a = cb at *
      have hcb : (cb != cb) = false := by simp
      clear hCr hrow hrm hwf h12 hcr
      go_wp2
      go_region_held3 (fun w' => w'.cell? ⟨w.heap.size, 1, none⟩ = some (.slice (some ⟨b, off, none⟩) m c') ∧ w'.cell? ⟨b, off + kk, none⟩ = some (.slice Ar rl cr)) (first | go_keep | (go_split_ands; refine ⟨?_, ?_⟩ <;> first | (rw [hB.cell (p := ⟨w.heap.size, 1, none⟩) hg]; assumption) | (rw [hB.cell (p := ⟨b, off + kk, none⟩) hbl]; assumption))) (first | (go_at_call 10; refine (HCl.out _ ?_).mono ?_; (repeat' (first | exact Below.refl _ _ | assumption | refine pw_below_drewN ?_ _ | refine below_drew ?_)); rintro e w2 ⟨rfl, hb⟩; have hB : Below wr.heap.size wr w2 := (by refine below_after ?_ hb (Nat.le_refl _); repeat' (first | exact Below.refl _ _ | assumption | refine pw_below_drewN ?_ _ | refine below_drew ?_)); clear hb) | (go_at_call 11; refine (HRl.out _ ?_).mono ?_; (repeat' (first | exact Below.refl _ _ | assumption | refine pw_below_drewN ?_ _ | refine below_drew ?_)); rintro e w2 ⟨rfl, hb⟩; have hB : Below wr.heap.size wr w2 := (by refine below_after ?_ hb (Nat.le_refl _); repeat' (first | exact Below.refl _ _ | assumption | refine pw_below_drewN ?_ _ | refine below_drew ?_)); clear hb))
      all_goals
        have HR2 := Aside0.mk (HR.out.below hB)
        clear hB
        go_wp2
        go_roundg (m - kk - 1)
        case measure => omega
        case rel => exact ⟨kk + 1, by omega, by omega, by go_num, HR2⟩
    · have hlt2 : decide ((kk : Int) < (m : Int)) = false := by simpa using hlt
      have hc0 := HR.out.c0
      have hg : w.heap.size < wr.heap.size := World.block_lt_of_cell? wr _ hc1
      have HF : Aside0 (∀ W, Below wr.heap.size wr W → Calls Tryz.prog 12 #[] W fun e w' => e = .returned (.bool true) ∧ Below W.heap.size W w') := ⟨fun W h => fixed_any W (HR.out.laid.below h)⟩
      have HCk : Aside0 (∀ W, Below wr.heap.size wr W → Calls Tryz.prog 16 #[.agg #[.int .i64 n, .slice A' m c']] W fun e w' => e = .returned (.int .i64 (checkI n B)) ∧ Below W.heap.size W w') := ⟨fun W h => by
        rw [← hm]; exact Check_any n A' c' B W (Kd.C_below HR.out.rows h)⟩
      have HRk : Aside0 (∀ W, Below wr.heap.size wr W → Calls Tryz.prog 17 #[.agg #[.int .i64 n, .slice A' m c']] W fun e w' => e = .returned (.int .i64 (checkI n B)) ∧ Below W.heap.size W w') := ⟨fun W h => by
        rw [← hm]; exact RCheck_any n A' c' B W (Kd.C_below HR.out.rows h) HR.out.cap HW.out.1 HW.out.2.1 (by omega)⟩
      have HTr : Aside0 (∀ W, Below wr.heap.size wr W → Calls Tryz.prog 18 #[.agg #[.int .i64 n, .slice A' m c'], .slice A1 k c1] W fun e w' => e = .returned (.bool (trueB B a)) ∧ Below W.heap.size W w') := ⟨fun W h => by
        rw [← hm, ← HA.out.2.1]; exact True_any n A' c' B A1 c1 a W (Kd.C_below HR.out.rows h) (Kd.C_below HA.out.1 ((HR.out.bel.trans (h.mono HR.out.bel.size))))⟩
      have HRt : Aside0 (∀ W, Below wr.heap.size wr W → Calls Tryz.prog 19 #[.agg #[.int .i64 n, .slice A' m c'], .slice A1 k c1] W fun e w' => e = .returned (.bool (trueB B a)) ∧ Below W.heap.size W w') := ⟨fun W h => by
        rw [← hm, ← HA.out.2.1]; exact RTrue_any n A' c' B A1 c1 a W (Kd.C_below HR.out.rows h) HR.out.cap (Kd.C_below HA.out.1 ((HR.out.bel.trans (h.mono HR.out.bel.size)))) (by rw [HA.out.2.1]; exact HA.out.2.2.2) HW.out.1 HW.out.2.1 (by omega) (by rw [HA.out.2.1]; have := HA.out.2.2.1; omega)⟩
      generalize checkI n B = ck at *
      generalize trueB B a = tb at *
      have hck : (ck == ck) = true := by simp
      have htb : (tb == tb) = true := by simp
      go_wp2
      go_region_held3 (fun w' => w'.cell? ⟨w.heap.size, 0, none⟩ = some (.int .i64 n) ∧ w'.cell? ⟨w.heap.size, 1, none⟩ = some (.slice A' m c')) (first | go_keep | (go_split_ands; refine ⟨?_, ?_⟩ <;> first | (rw [hB.cell (p := ⟨w.heap.size, 0, none⟩) hg]; assumption) | (rw [hB.cell (p := ⟨w.heap.size, 1, none⟩) hg]; assumption))) (first | (go_at_call 12; refine (HF.out _ ?_).mono ?_; (repeat' (first | exact Below.refl _ _ | assumption | refine pw_below_drewN ?_ _ | refine below_drew ?_)); rintro e w2 ⟨rfl, hb⟩; have hB : Below wr.heap.size wr w2 := (by refine below_after ?_ hb (Nat.le_refl _); repeat' (first | exact Below.refl _ _ | assumption | refine pw_below_drewN ?_ _ | refine below_drew ?_)); clear hb) | (go_at_call 16; refine (HCk.out _ ?_).mono ?_; (repeat' (first | exact Below.refl _ _ | assumption | refine pw_below_drewN ?_ _ | refine below_drew ?_)); rintro e w2 ⟨rfl, hb⟩; have hB : Below wr.heap.size wr w2 := (by refine below_after ?_ hb (Nat.le_refl _); repeat' (first | exact Below.refl _ _ | assumption | refine pw_below_drewN ?_ _ | refine below_drew ?_)); clear hb) | (go_at_call 17; refine (HRk.out _ ?_).mono ?_; (repeat' (first | exact Below.refl _ _ | assumption | refine pw_below_drewN ?_ _ | refine below_drew ?_)); rintro e w2 ⟨rfl, hb⟩; have hB : Below wr.heap.size wr w2 := (by refine below_after ?_ hb (Nat.le_refl _); repeat' (first | exact Below.refl _ _ | assumption | refine pw_below_drewN ?_ _ | refine below_drew ?_)); clear hb) | (go_at_call 18; refine (HTr.out _ ?_).mono ?_; (repeat' (first | exact Below.refl _ _ | assumption | refine pw_below_drewN ?_ _ | refine below_drew ?_)); rintro e w2 ⟨rfl, hb⟩; have hB : Below wr.heap.size wr w2 := (by refine below_after ?_ hb (Nat.le_refl _); repeat' (first | exact Below.refl _ _ | assumption | refine pw_below_drewN ?_ _ | refine below_drew ?_)); clear hb) | (go_at_call 19; refine (HRt.out _ ?_).mono ?_; (repeat' (first | exact Below.refl _ _ | assumption | refine pw_below_drewN ?_ _ | refine below_drew ?_)); rintro e w2 ⟨rfl, hb⟩; have hB : Below wr.heap.size wr w2 := (by refine below_after ?_ hb (Nat.le_refl _); repeat' (first | exact Below.refl _ _ | assumption | refine pw_below_drewN ?_ _ | refine below_drew ?_)); clear hb))
      all_goals
        have hfin := (HR.out.below hB).bel
        go_wp2
        go_ret
        exact ⟨rfl, hfin⟩
end Go.Proofs.YtjifancgekoenaaGreatDoor
