import Derived.Test.YtjifancgekoenaaGreatDoorCnfPn
namespace Go.Proofs.YtjifancgekoenaaGreatDoor
open Go.RowKit Go.Proofs.YtjifancgekoenaaGreatDoorW.PrintWords Go.Proofs.YtjifancgekoenaaGreatDoorW.PrintLast
set_option linter.unusedVariables false
set_option linter.unusedSimpArgs false

theorem RCheck_gen (n : Int) (A : Option Addr) (c : Nat) (L : List (List Int)) (M : Nat) (w : World) (hC : Kd.C kII w A L.length L) (hc : L.length ≤ c) (hW : WfL L) (hM : ∀ r ∈ L, r.length ≤ M) (hM2 : M ≤ 1000000) (hl : L.length ≤ 1000000) :
    Calls Tryz.prog 17 #[.agg #[.int .i64 n, .slice A L.length c]] w fun e w' => e = .returned (.int .i64 (checkI n L)) ∧ Below w.heap.size w w' :=
  whetstoneref13_Check.calls (L.length * (M + 2) + 2) n A c L (checkI n L) w hC hc (Check_f n L M hM hM2 hW hl _ (Nat.le_refl _))

set_option maxHeartbeats 4000000 in
set_option maxRecDepth 100000 in
theorem RPrint_err (n : Int) (A : Option Addr) (c : Nat) (L : List (List Int)) (M : Nat) (w : World) (hC : Kd.C kII w A L.length L) (hc : L.length ≤ c) (hW : WfL L) (hM : ∀ r ∈ L, r.length ≤ M) (hM2 : M ≤ 1000000) (hl : L.length ≤ 1000000) (er : Int) (hk : checkI n L = er) (he : (er == 0) = false) :
    Calls Tryz.prog 20 #[.agg #[.int .i64 n, .slice A L.length c]] w fun e w' => e = .returned (.tuple #[.string ⟨#[]⟩, .int .i64 er]) ∧ Below w.heap.size w w' := by
  have HQ := RCheck_gen n A c L M (w.alloc (.cells #[.int .i64 n, .slice A L.length c] 28)) (Kd.C_below hC (bel_alloc _ _)) hc hW hM hM2 hl
  rw [hk] at HQ
  have he2 : (er != 0) = true := by simpa using he
  clear hC hc hW hM hk
  go_enter Tryz.func20, Tryz.ntmps20
  go_wp2_with fail
  refine HQ.mono ?_
  rintro e w2 ⟨rfl, hb⟩
  have hfin := below_after (bel_alloc w (.cells #[.int .i64 n, .slice A L.length c] 28)) hb (Nat.le_refl _)
  clear hb
  go_wp2
  go_ret2
  exact ⟨rfl, hfin⟩

theorem cat_lit (t : List UInt8) (x : Int) : bytesB t ++ (itoaB x ++ (⟨#[32]⟩ : ByteArray)) = bytesB (t ++ (Lib.itoa x ++ [32])) := by
  rw [show itoaB x ++ (⟨#[32]⟩ : ByteArray) = bytesB (Lib.itoa x ++ [32]) from bytesB_app _ [32], bytesB_app]
theorem cat_end (t : List UInt8) : bytesB t ++ (⟨#[48, 10]⟩ : ByteArray) = bytesB (t ++ [48, 10]) := bytesB_app _ [48, 10]
theorem cat_head (n m : Int) : ((((⟨#[112, 32, 99, 110, 102, 32]⟩ : ByteArray) ++ itoaB n) ++ (⟨#[32]⟩ : ByteArray)) ++ itoaB m) ++ (⟨#[10]⟩ : ByteArray) = bytesB (headL n m) := by
  rw [show (⟨#[112, 32, 99, 110, 102, 32]⟩ : ByteArray) ++ itoaB n = bytesB ([112, 32, 99, 110, 102, 32] ++ Lib.itoa n) from bytesB_app [112, 32, 99, 110, 102, 32] _,
    show bytesB ([112, 32, 99, 110, 102, 32] ++ Lib.itoa n) ++ (⟨#[32]⟩ : ByteArray) = bytesB ([112, 32, 99, 110, 102, 32] ++ Lib.itoa n ++ [32]) from bytesB_app _ [32],
    show bytesB ([112, 32, 99, 110, 102, 32] ++ Lib.itoa n ++ [32]) ++ itoaB m = bytesB ([112, 32, 99, 110, 102, 32] ++ Lib.itoa n ++ [32] ++ Lib.itoa m) from bytesB_app _ _]
  exact bytesB_app _ [10]
theorem acc_len (n : Int) (L : List (List Int)) (hn : 0 ≤ n ∧ n ≤ 1048576) (hW : Mid L) (hb : bulk L ≤ 1000000) (kk : Nat) : (accL n L.length L kk).length ≤ 50 + 22 * 1000000 := by
  have hw : WfL L := fun r hr x hx => by have := hW r hr x hx; omega
  have h1 := rows_len L hw
  have h2 := lit_len n (by omega) (by omega)
  have hl : L.length ≤ 1000000 := by unfold bulk at hb; omega
  have h3 := lit_len (L.length : Int) (by omega) (by omega)
  have h4 : ((L.take kk).flatMap rowL).length ≤ (L.flatMap rowL).length := by
    conv => rhs; rw [← List.take_append_drop kk L, List.flatMap_append, List.length_append]
    omega
  unfold accL headL
  simp only [List.length_append, List.length_cons, List.length_nil]
  omega
theorem lits_acc (r : List Int) (hW : ∀ x ∈ r, -100000000 ≤ x ∧ x ≤ 100000000) (j : Nat) : (litsK r j).length ≤ 22 * r.length := by
  have hw : Wf (r.take j) := fun x hx => by have := hW x (List.mem_of_mem_take hx); omega
  have := lits_len (r.take j) hw
  unfold litsK
  rw [List.length_take] at this
  omega
theorem row_bulk2 {L : List (List Int)} {r : List Int} (h : r ∈ L) : r.length ≤ bulk L := by
  unfold bulk
  have : r.length ≤ (L.map List.length).sum := by
    induction L with
    | nil => cases h
    | cons x L ih =>
      simp only [List.map_cons, List.sum_cons]
      rcases List.mem_cons.1 h with rfl | h
      · omega
      · have := ih h; omega
  omega
set_option maxHeartbeats 4000000 in
set_option maxRecDepth 100000 in
theorem RPrint_ok (n : Int) (A : Option Addr) (c : Nat) (L : List (List Int)) (M : Nat) (w : World) (hC : Kd.C kII w A L.length L) (hc : L.length ≤ c) (hW : WfL L) (hM : ∀ r ∈ L, r.length ≤ M) (hM2 : M ≤ 1000000) (hbk : bulk L ≤ 1000000) (hk : checkI n L = 0) :
    Calls Tryz.prog 20 #[.agg #[.int .i64 n, .slice A L.length c]] w fun e w' => e = .returned (.tuple #[.string (bytesB (printL n L)), .int .i64 0]) ∧ Below w.heap.size w w' := by
  have hl : L.length ≤ 1000000 := by unfold bulk at hbk; omega
  have HQ := RCheck_gen n A c L M (w.alloc (.cells #[.int .i64 n, .slice A L.length c] 28)) (Kd.C_below hC (bel_alloc _ _)) hc hW hM hM2 hl
  rw [hk] at HQ
  have hn := check_range hk
  have HMid := Aside0.mk (check_mid hW hk)
  have HLen := Aside0.mk (print_len n L hW (by omega) hl)
  have hs1 := itoaB_size n (by omega) (by omega)
  have hs2 := itoaB_size (L.length : Int) (by omega) (by omega)
  have HNN : Aside0 (0 ≤ n ∧ n ≤ 1048576) := ⟨hn⟩
  obtain ⟨m, hm⟩ : ∃ m, L.length = m := ⟨_, rfl⟩
  have HC : Aside0 (Kd.C kII w A m L ∧ L.length = m ∧ bulk L ≤ 1000000) := ⟨hm ▸ hC, hm, hbk⟩
  have HR1 := Aside0.mk (fun (W : World) => RNum_any n (by omega) (by omega) W)
  have HR2 := Aside0.mk (fun (W : World) => RNum_any (L.length : Int) (by omega) (by omega) W)
  rw [hm] at HQ hs2 HR2 hl ⊢
  clear hC hc hW hM hk hn hbk hm
  go_enter Tryz.func20, Tryz.ntmps20
  go_wp2_with fail
  have k0 := Keeps.cell (cell_new w #[.int .i64 n, .slice A m c] 28 0)
  have k1 := Keeps.cell (cell_new w #[.int .i64 n, .slice A m c] 28 1)
  have kB := Keeps.base (bel_alloc w (.cells #[.int .i64 n, .slice A m c] 28)) (Nat.le_refl _)
  refine HQ.mono ?_
  generalize w.alloc (.cells #[.int .i64 n, .slice A m c] 28) = W0 at *
  rintro e W1 ⟨rfl, hb⟩
  replace k0 := k0.step hb
  replace k1 := k1.step hb
  replace kB := kB.step hb
  clear hb HQ
  have c0 := k0.here
  have c1 := k1.here
  have hg := World.block_lt_of_cell? W1 _ c0
  have f1 : (9223372036854775807 < 6 + (itoaB n).size) = False := eq_false (by omega)
  have f2 : (9223372036854775807 < 6 + (itoaB n).size + 1) = False := eq_false (by omega)
  have f3 : (9223372036854775807 < 6 + (itoaB n).size + 1 + (itoaB (m : Int)).size) = False := eq_false (by omega)
  have f4 : (9223372036854775807 < 6 + (itoaB n).size + 1 + (itoaB (m : Int)).size + 1) = False := eq_false (by omega)
  go_wp2
  go_region_held3 (fun w' => w'.cell? ⟨w.heap.size, 0, none⟩ = some (.int .i64 n) ∧ w'.cell? ⟨w.heap.size, 1, none⟩ = some (.slice A m c)) (first | go_keep | (go_split_ands; refine ⟨?_, ?_⟩ <;> first | (rw [hB.cell (p := ⟨w.heap.size, 0, none⟩) hg]; assumption) | (rw [hB.cell (p := ⟨w.heap.size, 1, none⟩) hg]; assumption))) (first | (go_at_call_of 40 (Value.int .i64 n); refine (HR1.out _).mono ?_; rintro e w2 ⟨rfl, hb⟩; have hB : Below W1.heap.size W1 w2 := (by refine below_after ?_ hb (Nat.le_refl _); repeat' (first | exact Below.refl _ _ | assumption | refine pw_below_drewN ?_ _ | refine below_drew ?_)); clear hb) | (go_at_call 40; refine (HR2.out _).mono ?_; rintro e w2 ⟨rfl, hb⟩; have hB : Below W1.heap.size W1 w2 := (by refine below_after ?_ hb (Nat.le_refl _); repeat' (first | exact Below.refl _ _ | assumption | refine pw_below_drewN ?_ _ | refine below_drew ?_)); clear hb))
  rw [cat_head]
  have HB0 := Aside0.mk hB
  clear hB c0 c1 f1 f2 f3 f4 hs1 hs2 HR1 HR2
  have hm9 : m ≤ 1000000 := hl
  go_wp2
  go_loopg [5, 6] m (fun gg s5 s6 wr => ∃ kk : Nat, kk ≤ m ∧ m - kk ≤ gg ∧ s5 = .string (bytesB (accL n m L kk)) ∧ s6 = .int .i64 kk ∧ Aside0 (Below W1.heap.size W1 wr))
  case atStart => exact ⟨0, by omega, by omega, by rw [accL_zero], rfl, HB0⟩
  case round =>
    obtain ⟨kk, h1, h2, rfl, rfl, HB⟩ := hrel
    have c1 := k1.out _ HB.out
    simp only [List.getElem?_toArray, List.getElem_toArray, List.getElem_cons_succ, List.getElem_cons_zero] at c1
    by_cases hlt : kk < m
    · have hlt2 : decide ((kk : Int) < (m : Int)) = true := by simpa using hlt
      obtain ⟨b, off, rfl, hbl, hrow⟩ := C_rows HC.out.1 (by omega)
      obtain ⟨Ar, cr, hcell0, hcr, hCr⟩ := hrow kk hlt
      have HCell : Aside0 (∀ W, Below W1.heap.size W1 W → W.cell? ⟨w.heap.size, 1, none⟩ = some (.slice (some ⟨b, off, none⟩) m c) ∧ W.cell? ⟨b, off + kk, none⟩ = some (.slice Ar L[kk]!.length cr) ∧ Kd.C kI W Ar L[kk]!.length L[kk]!) := ⟨fun W h => ⟨k1.out _ h, (kB.here.cell (p := ⟨b, off + kk, none⟩) hbl |> fun e => ((h.cell (p := ⟨b, off + kk, none⟩) (Nat.lt_of_lt_of_le hbl kB.here.size)).trans (e.trans hcell0))), Kd.C_below hCr (kB.here.trans (h.mono kB.here.size))⟩⟩
      have hrm : L[kk]! ∈ L := by rw [getElem!_pos L kk (by have := HC.out.2.1; omega)]; exact List.getElem_mem _
      have HRow : Aside0 ((∀ x ∈ L[kk]!, -100000000 ≤ x ∧ x ≤ 100000000) ∧ L[kk]!.length ≤ 1000000 ∧ (accL n m L kk).length ≤ 50 + 22 * 1000000 ∧ accL n m L (kk + 1) = accL n m L kk ++ (L[kk]!.flatMap (fun x => Lib.itoa x ++ [32]) ++ [48, 10])) :=
        ⟨HMid.out _ hrm, Nat.le_trans (row_bulk2 hrm) HC.out.2.2, by have := acc_len n L HNN.out HMid.out HC.out.2.2 kk; rw [HC.out.2.1] at this; exact this, accL_succ n m L kk (by have := HC.out.2.1; omega)⟩
      clear hrow hcell0 hCr hcr hrm
      generalize L[kk]! = r at *
      obtain ⟨rl, hrl⟩ : ∃ rl, r.length = rl := ⟨_, rfl⟩
      have HRl : Aside0 (r.length = rl) := ⟨hrl⟩
      rw [hrl] at HCell
      have hrl9 : rl ≤ 1000000 := by have := HRow.out.2.1; omega
      clear hrl
      go_wp2
      obtain ⟨wo, rfl⟩ : ∃ wo : World, wo = wr := ⟨_, rfl⟩
      go_loopg [5, 7] rl (fun gg s5 s7 wr => ∃ jj : Nat, jj ≤ rl ∧ rl - jj ≤ gg ∧ s5 = .string (bytesB (accL n m L kk ++ litsK r jj)) ∧ s7 = .int .i64 jj ∧ Aside0 (Below W1.heap.size W1 wr))
      case atStart => exact ⟨0, by omega, by omega, by rw [litsK_zero, List.append_nil], rfl, HB⟩
      case round =>
        obtain ⟨jj, h3, h4, rfl, rfl, HB2⟩ := hrel
        obtain ⟨d1, d2, d3⟩ := HCell.out _ HB2.out
        by_cases hj : jj < rl
        · have hj2 : decide ((jj : Int) < (rl : Int)) = true := by simpa using hj
          have d3' : Kd.C kI wr Ar r.length r := by rw [HRl.out]; exact d3
          obtain ⟨b2, off2, rfl, hcl⟩ := C_ints d3' (by rw [HRl.out]; omega)
          have d4 := hcl jj (by rw [HRl.out]; exact hj)
          have hxr : -100000000 ≤ r[jj]! ∧ r[jj]! ≤ 100000000 := HRow.out.1 _ (by rw [getElem!_pos r jj (by rw [HRl.out]; exact hj)]; exact List.getElem_mem _)
          have HS : Aside0 (accL n m L kk ++ litsK r (jj + 1) = (accL n m L kk ++ litsK r jj) ++ (Lib.itoa r[jj]! ++ [32]) ∧ (accL n m L kk ++ litsK r jj).length ≤ 100000000) := ⟨by
            rw [litsK_succ r jj (by rw [HRl.out]; exact hj), List.append_assoc], by
            have h5 := lits_acc r HRow.out.1 jj
            have h6 := HRow.out.2.1
            have h7 := HRow.out.2.2.1
            rw [List.length_append]; omega⟩
          have HRN := Aside0.mk (RNum_any r[jj]! hxr.1 hxr.2)
          have hsx := itoaB_size r[jj]! (by omega) (by omega)
          have HCat := Aside0.mk (fun t => cat_lit t r[jj]!)
          have hss : (bytesB (accL n m L kk ++ litsK r jj)).size ≤ 100000000 := by rw [bytesB_size]; exact HS.out.2
          clear d3 d3' hcl hxr
          generalize r[jj]! = x at *
          generalize accL n m L kk ++ litsK r jj = tt at *
          have g1 : (9223372036854775807 < (itoaB x).size + 1) = False := eq_false (by omega)
          have g2 : (9223372036854775807 < (bytesB tt).size + ((itoaB x).size + 1)) = False := eq_false (by omega)
          go_wp2_with fail
          refine (HRN.out _).mono ?_
          rintro e w3 ⟨rfl, hb⟩
          have HB3 := Aside0.mk (HB2.out.trans (hb.mono HB2.out.size))
          clear hb d1 d2 d4
          go_wp2
          go_roundg (rl - jj - 1)
          case measure => omega
          case rel => exact ⟨jj + 1, by omega, by omega, by rw [HS.out.1, ← HCat.out], by go_num, HB3⟩
        · have hj2 : decide ((jj : Int) < (rl : Int)) = false := by simpa using hj
          obtain rfl : jj = rl := by omega
          have HS : Aside0 (accL n m L (kk + 1) = (accL n m L kk ++ litsK r jj) ++ [48, 10] ∧ (accL n m L kk ++ litsK r jj).length ≤ 100000000) := ⟨by
            rw [HRow.out.2.2.2]
            unfold litsK
            rw [List.take_of_length_le (by rw [HRl.out]; exact Nat.le_refl _), List.append_assoc], by
            have h5 := lits_acc r HRow.out.1 jj
            have h6 := HRow.out.2.1
            have h7 := HRow.out.2.2.1
            rw [List.length_append]; omega⟩
          have hss : (bytesB (accL n m L kk ++ litsK r jj)).size ≤ 100000000 := by rw [bytesB_size]; exact HS.out.2
          generalize accL n m L kk ++ litsK r jj = tt at *
          have g2 : (9223372036854775807 < (bytesB tt).size + 2) = False := eq_false (by omega)
          go_wp2
          go_roundg (m - kk - 1)
          case measure => omega
          case rel => exact ⟨kk + 1, by omega, by omega, by rw [HS.out.1, ← cat_end], by go_num, HB2⟩
    · have hlt2 : decide ((kk : Int) < (m : Int)) = false := by simpa using hlt
      obtain rfl : kk = m := by omega
      have HF : Aside0 (accL n kk L kk = printL n L) := ⟨by unfold accL printL; rw [HC.out.2.1, List.take_of_length_le (by have := HC.out.2.1; omega)]⟩
      have hfin := kB.here.trans (HB.out.mono kB.here.size)
      go_wp2
      go_ret2
      rw [HF.out]
      exact ⟨rfl, hfin⟩
end Go.Proofs.YtjifancgekoenaaGreatDoor
