import Derived.Test.YtjifancgekoenaaGreatDoorCnfN
namespace Go.Proofs.YtjifancgekoenaaGreatDoor
open Go.RowKit Go.Proofs.YtjifancgekoenaaGreatDoorW.PrintWords Go.Proofs.YtjifancgekoenaaGreatDoorW.PrintLast
set_option linter.unusedVariables false
set_option linter.unusedSimpArgs false

theorem bytesB_get (s : List UInt8) (k : Nat) (h : k < (bytesB s).size) : (bytesB s)[k] = s[k]! := by
  have hk : k < s.length := by rw [bytesB_size] at h; exact h
  rw [getElem!_pos s k hk]
  show (bytesB s).data[k] = s[k]
  simp [bytesB]
theorem cnt_step (s : List UInt8) (k : Nat) (h : k < s.length) : cnt10 (s.take (k + 1)) = cnt10 (s.take k) + if s[k]! = 10 then 1 else 0 := by
  rw [List.take_succ_eq_append_getElem h, cnt10_app, getElem!_pos s k h]
  congr 1
  unfold cnt10
  by_cases h2 : s[k] = 10 <;> simp [h2]
theorem cnt_le (s : List UInt8) : cnt10 s ≤ s.length := by unfold cnt10; exact List.countP_le_length
theorem bytesB_drop (s : List UInt8) : (bytesB s).extract 0 (s.length - 1) = bytesB s.dropLast := by
  apply ByteArray.ext
  apply Array.ext'
  simp [bytesB, ByteArray.data_extract, List.dropLast_eq_take]
theorem bytesB_app (s t : List UInt8) : bytesB s ++ bytesB t = bytesB (s ++ t) := by
  apply ByteArray.ext
  simp [bytesB]
theorem byte_is (b : UInt8) : (((b.toNat : Int) == 10) = true ↔ b = 10) := by
  constructor
  · intro h
    have : (b.toNat : Int) = 10 := by simpa using h
    exact UInt8.toNat_inj.1 (show b.toNat = 10 by omega)
  · rintro rfl; rfl

set_option maxHeartbeats 4000000 in
set_option maxRecDepth 100000 in
theorem CnfJoins_any (n : Int) (A : Option Addr) (c : Nat) (L : List (List Int)) (w : World) (hC : Kd.C kII w A L.length L) (hc : L.length ≤ c) (hW : WfL L) (hn : -9223372036854775808 ≤ n ∧ n ≤ 9223372036854775807) (hL : Laid w) :
    Calls Tryz.prog 4 #[.agg #[.int .i64 n, .slice A L.length c]] w fun e w' => e = .returned (.bool true) ∧ Below w.heap.size w w' := by
  have HBd := Bound_any n A c L (w.alloc (.cells #[.int .i64 n, .slice A L.length c] 28)) (Kd.C_below hC (bel_alloc _ _)) hc
  have HW : Aside0 (WfL (boundL L) ∧ bulk (boundL L) ≤ 1000 ∧ (boundL L).length ≤ 60 ∧ Laid w) := ⟨boundL_wf hW, boundL_bulk L, boundL_len L, hL⟩
  have HN : Aside0 (-9223372036854775808 ≤ n ∧ n ≤ 9223372036854775807) := ⟨hn⟩
  clear hC hW hL hn
  go_enter Tryz.func4, Tryz.ntmps4
  go_wp2_with fail
  refine HBd.mono ?_
  clear HBd
  generalize boundL L = B at *
  rintro e W ⟨A', c', rfl, hS, hb⟩
  rw [show (w.alloc (.cells #[.int .i64 n, .slice A L.length c] 28)).heap.size = w.heap.size + 1 from by simp] at hS hb
  have HC := Aside0.mk (atC_store HW.out.2.2.2 hS hb)
  have hbox := atC_box hb
  have k0 := blk_cellA hbox 0
  have k1 := blk_cellA hbox 1
  have l0 := blk_frozen hbox 0
  have l1 := blk_frozen hbox 1
  clear hS hb hbox
  go_wp2_with fail
  clear k0 k1 l0 l1
  generalize (W.setCell ⟨w.heap.size, 0, none⟩ (.int .i64 n)).setCell ⟨w.heap.size, 1, none⟩ (.slice A' B.length c') = W1 at *
  by_cases hk : checkI n B = 0
  · have hn1 := check_range hk
    have HS : Aside0 ((printL n B).length ≤ 50 + 22 * 1000 ∧ cnt10 (printL n B) = B.length + 1 ∧ printL n B ≠ [] ∧ (parseR (printL n B).dropLast).2.2 = 130 ∧ (parseR (printL n B ++ [48, 10])).2.2 = 130) :=
      ⟨by have := print_len n B HW.out.1 HN.out (by have := HW.out.2.2.1; omega); have := HW.out.2.1; omega, cnt10_print n B, print_ne n B, parse_drop n B, parse_more n B HN.out (by have := HW.out.2.2.1; omega)⟩
    refine (Print_ok n A' c' B W1 HC.out.laid HC.out.rows HW.out.1 hn1 (by have := HW.out.2.1; omega) hk).mono ?_
    rintro e W2 ⟨rfl, hb⟩
    have HC2 := Aside0.mk (HC.out.below hb)
    clear hb HC hn1 hk
    generalize printL n B = s at *
    have hl9 : (s.length : Int) ≤ 30000 := by have := HS.out.1; omega
    have hsz : (bytesB s).size = s.length := bytesB_size s
    go_wp2_with fail
    go_loopg [5, 6] s.length (fun gg s5 s6 wr => ∃ kk : Nat, kk ≤ s.length ∧ s.length - kk ≤ gg ∧ s5 = .int .i64 (cnt10 (s.take kk)) ∧ s6 = .int .i64 kk ∧ wr = W2)
    case atStart => exact ⟨0, by omega, by omega, rfl, rfl, rfl⟩
    case round =>
      obtain ⟨kk, h1, h2, rfl, rfl, rfl⟩ := hrel
      by_cases hlt : kk < s.length
      · have hlt2 : decide ((kk : Int) < (s.length : Int)) = true := by simpa using hlt
        have HK : Aside0 (cnt10 (s.take (kk + 1)) = cnt10 (s.take kk) + (if s[kk]! = 10 then 1 else 0) ∧ cnt10 (s.take kk) ≤ 30000) := ⟨cnt_step s kk hlt, by have := cnt_le (s.take kk); rw [List.length_take] at this; omega⟩
        have hlt3 : kk < (bytesB s).size := by rw [hsz]; exact hlt
        have HG : Aside0 ((bytesB s)[kk] = s[kk]!) := ⟨bytesB_get s kk hlt3⟩
        go_wp2
        all_goals
          rename_i hb
          first
            | (have hb2 : s[kk]! = 10 := by rw [← HG.out]; exact (byte_is _).1 hb
               have HK2 : Aside0 (cnt10 (s.take (kk + 1)) = cnt10 (s.take kk) + 1) := ⟨by rw [HK.out.1, if_pos hb2]⟩
               go_roundg (s.length - kk - 1)
               case measure => omega
               case rel => exact ⟨kk + 1, by omega, by omega, by rw [HK2.out]; have := HK.out.2; simp [wrap64]; omega, by go_num, rfl⟩)
            | (have hb2 : ¬ s[kk]! = 10 := by rw [← HG.out]; intro e; rw [(byte_is _).2 e] at hb; cases hb
               have HK2 : Aside0 (cnt10 (s.take (kk + 1)) = cnt10 (s.take kk)) := ⟨by rw [HK.out.1, if_neg hb2]; rfl⟩
               go_roundg (s.length - kk - 1)
               case measure => omega
               case rel => exact ⟨kk + 1, by omega, by omega, by rw [HK2.out], by go_num, rfl⟩)
      · have hlt2 : decide ((kk : Int) < (s.length : Int)) = false := by simpa using hlt
        obtain rfl : kk = s.length := by omega
        have hcnt : cnt10 (s.take s.length) = B.length + 1 := by rw [List.take_length]; exact HS.out.2.1
        rw [hcnt]
        have hc0 := HC2.out.c0
        have hc1 := HC2.out.c1
        have hB60 := HW.out.2.2.1
        clear hcnt
        have hpos : (0 : Int) ≤ (s.length : Int) - 1 := by
          have := List.length_pos_iff.2 HS.out.2.2.1
          omega
        have hle : (s.length : Int) - 1 ≤ (s.length : Int) := by omega
        have hws : IntKind.i64.wrap ((s.length : Int) - 1) = (s.length : Int) - 1 := IntWalk.i64_in _ (by omega)
        have hsne : (bytesB s).toList.isEmpty = false := by
          rw [toList_bytes]
          have := HS.out.2.2.1
          cases s with
          | nil => exact absurd rfl this
          | cons => rfl
        go_wp2_with fail
        rw [bytesB_drop]
        have HP := Parse_any s.dropLast (by rw [List.length_dropLast]; have := HS.out.1; omega) wr HC2.out.laid
        rw [HS.out.2.2.2.1] at HP
        refine HP.mono ?_
        clear HP
        rintro e W3 ⟨v, rfl, hrow, hb⟩
        obtain ⟨Ad, cd, rfl, _, _⟩ := hrow.reads
        have HC3 := Aside0.mk (HC2.out.below hb)
        clear hrow hb hc0 hc1 hpos hle hws hsne HC2
        have hcat : bytesB s ++ (⟨#[48, 10]⟩ : ByteArray) = bytesB (s ++ [48, 10]) := bytesB_app s [48, 10]
        have hz1 : (9223372036854775807 < (bytesB s).size + (⟨#[48, 10]⟩ : ByteArray).size) = False := by
          apply eq_false
          rw [hsz, show (⟨#[48, 10]⟩ : ByteArray).size = 2 from rfl]
          have := HS.out.1
          omega
        go_wp2_with fail
        have HC4 := Aside0.mk (HC3.out.below (bel_alloc W3 (.cells #[.int .i64 (parseR s.dropLast).1, .slice Ad (parseR s.dropLast).2.1.length cd] 28)))
        generalize W3.alloc (.cells #[.int .i64 (parseR s.dropLast).1, .slice Ad (parseR s.dropLast).2.1.length cd] 28) = W4 at *
        have HP := Parse_any (s ++ [48, 10]) (by rw [List.length_append]; have := HS.out.1; simp; omega) W4 HC4.out.laid
        rw [HS.out.2.2.2.2] at HP
        refine HP.mono ?_
        clear HP
        rintro e W5 ⟨v, rfl, hrow, hb⟩
        obtain ⟨Ae, ce, rfl, _, _⟩ := hrow.reads
        have HC5 := Aside0.mk (HC4.out.below hb)
        clear hrow hb hcat hz1
        go_wp2_with fail
        have HC6 := Aside0.mk (HC5.out.below (bel_alloc W5 (.cells #[.int .i64 (parseR (s ++ [48, 10])).1, .slice Ae (parseR (s ++ [48, 10])).2.1.length ce] 28)))
        generalize W5.alloc (.cells #[.int .i64 (parseR (s ++ [48, 10])).1, .slice Ae (parseR (s ++ [48, 10])).2.1.length ce] 28) = W6 at *
        refine (fixed_any W6 HC6.out.laid).mono ?_
        rintro e W7 ⟨rfl, hb⟩
        have hfin := (HC6.out.below hb).bel
        go_wp2
        go_ret
        exact ⟨rfl, hfin⟩
  · have he : (checkI n B == 0) = false := by simpa using hk
    refine (Print_err n A' c' B W1 HC.out.rows (checkI n B) rfl he).mono ?_
    rintro e W2 ⟨rfl, hb⟩
    have HC2 := Aside0.mk (HC.out.below hb)
    clear hb HC hk
    rw [show bytesB [] = ⟨#[]⟩ from rfl]
    generalize checkI n B = er at *
    have he2 : (er != 0) = true := by simpa using he
    go_wp2_with fail
    refine (fixed_any W2 HC2.out.laid).mono ?_
    rintro e W3 ⟨rfl, hb⟩
    have hfin := (HC2.out.below hb).bel
    go_wp2
    go_ret
    exact ⟨rfl, hfin⟩
end Go.Proofs.YtjifancgekoenaaGreatDoor
