import Derived.Test.YtdgkbigmdadlaaaGreatDoorAsmL
import Derived.Test.YtdgkbigmdadlaaaGreatDoorAsmX
namespace Go.Proofs.YtdgkbigmdadlaaaGreatDoor
open Go.RowKit Go.Lib Go.Proofs.YtdgkbigmdadlaaaGreatDoorW.PrintWords Go.Proofs.YtdgkbigmdadlaaaGreatDoorW.PrintLast Go.Proofs.YtdgkbigmdadlaaaGreatDoorW.PrintMore
set_option linter.unusedVariables false
set_option linter.unusedSimpArgs false

theorem RowI.take {w : World} {A : Option Addr} {L : List I5} (h : RowI w A L) (k : Nat) : RowI w A (L.take k) where
  max := by have := h.max; rw [List.length_take]; omega
  at_ := fun hp => by
    obtain ⟨b, off, e, h2⟩ := h.at_ (by rw [List.length_take] at hp; omega)
    refine ⟨b, off, e, fun j x hj => h2 j x ?_⟩
    have hl := (List.getElem?_eq_some_iff.1 hj).1
    rw [List.length_take] at hl
    rwa [List.getElem?_take_of_lt (by omega)] at hj
theorem Same_C (A B : Option Addr) (c d : Nat) (L1 L2 : List I5) (w : World) (h1 : RowI w A L1) (k2 : Kd.C k23 w B L2.length (L2.map toS)) (hc : L1.length ≤ c) (hd : L2.length ≤ d) (hm : L1.length ≤ 1000000000) :
    Calls Tryz.prog 12 #[.slice A L1.length c, .slice B L2.length d] w fun e w' => e = .returned (.bool (decide (L1 = L2))) ∧ Drawn0 w w' := by
  have k1 := kC_of_row h1
  have := whetstoneref05_Same.calls (L1.length + 1) A c (L1.map toS) B d (L2.map toS) (decide (L1 = L2)) w (by rw [List.length_map]; exact k1) (by rw [List.length_map]; exact hc) (by rw [List.length_map]; exact k2) (by rw [List.length_map]; exact hd) (by
    unfold whetstoneref05_Same.f
    rw [List.length_map, List.length_map]
    by_cases hl : L1.length = L2.length
    · rw [if_pos (by omega)]
      have := Same_l L1 L2 hl hm (L1.length) 0 (L1.length + 1) (by omega) (by omega) (by omega)
      simpa using this
    · rw [if_neg (by omega)]
      congr 1
      symm
      simp only [decide_eq_false_iff_not]
      rintro rfl
      exact hl rfl)
  rw [List.length_map, List.length_map] at this
  exact this
theorem RRead_any (s : List UInt8) (hs : s.length ≤ 100000) (w : World) :
    Calls Tryz.prog 11 #[.string (bytesB s)] w fun e w' => ∃ A c, e = .returned (.tuple #[.slice A (readA s).1.length c, .int .i64 (readA s).2]) ∧ (readA s).1.length ≤ c ∧ Kd.C k23 w' A (readA s).1.length ((readA s).1.map toS) ∧ Below w.heap.size w w' :=
  (whetstoneref05_Read.calls _ _ _ _ w (read_f s hs)).mono fun e w' ⟨v, h1, h2, h3⟩ => by
    obtain ⟨A, c, rfl, h4, h5⟩ := Kd.R_reads h2
    rw [List.length_map] at h1 h4 h5
    exact ⟨A, c, h1, h4, h5, h3⟩
theorem readF_len : ∀ (f : Nat) (s : List UInt8) (L : List I5), readF f s = some L → L.length ≤ s.length
  | 0, s, L, h => by
    unfold readF at h
    split at h
    · cases h; simp
    · cases h
  | f + 1, s, L, h => by
    unfold readF at h
    split at h
    · cases h; simp
    · rename_i hne
      split at h
      · cases hr : readF f (cutB 10 s).2.1 with
        | none => rw [hr] at h; cases h
        | some M =>
          rw [hr] at h
          simp only [Option.map_some, Option.some.injEq] at h
          have h1 := readF_len f _ M hr
          have h2 := cutB_lt 10 s hne
          rw [← h, List.length_cons]
          omega
      · cases h
theorem readA_len (s : List UInt8) : (readA s).1.length ≤ s.length := by
  unfold readA
  cases h : readF s.length s with
  | none => simp
  | some L => exact readF_len _ _ _ h
/-- The row that is written into. -/
def BlkI (base : Nat) (A : Option Addr) (n : Nat) (W : World) : Prop := 0 < n → ∃ g, ∃ cells : Array Value, A = some ⟨g, 0, none⟩ ∧ base ≤ g ∧ W.heap[g]? = some (.cells cells 23 (0, 0)) ∧ n * 5 ≤ cells.size
theorem blkI_of {w : World} {base : Nat} {A : Option Addr} {n c : Nat} {L : List I5} (h : OwnI w base (.slice A n c) L) (hn : n = L.length) : BlkI base A n w := fun hp => by
  rcases h.2 with ⟨h, h0⟩ | ⟨g, cap, cur, he, hg, hh, h5, h6, h7, _⟩
  · omega
  · injection he with he _ _
    refine ⟨g, cur, he, hg, hh, ?_⟩
    omega
theorem BlkI.below {base : Nat} {A : Option Addr} {n : Nat} {W W' : World} (h : BlkI base A n W) (hb : Below W.heap.size W W') : BlkI base A n W' := fun hp => by
  obtain ⟨g, cs, h1, h2, h3, h4⟩ := h hp
  exact ⟨g, cs, h1, h2, below_blk h3 hb, h4⟩
theorem cell_in {w : World} {g k : Nat} {cells : Array Value} {T : TypeId} (hg : w.heap[g]? = some (.cells cells T (0, 0))) (hk : k < cells.size) : ∃ u, w.cell? ⟨g, k, none⟩ = some u := ⟨cells[k], by rw [blk_cellA hg]; simp [hk]⟩
theorem BlkI.store {base g : Nat} {n k : Nat} {W : World} {cells : Array Value} (h : base ≤ g) (h3 : W.heap[g]? = some (.cells cells 23 (0, 0))) (h4 : n * 5 ≤ cells.size) (u : Value) : BlkI base (some ⟨g, 0, none⟩) n (W.setCell ⟨g, k, none⟩ u) := fun _ =>
  ⟨g, cells.setIfInBounds k u, rfl, h, by simp [World.setCell, Array.getElem?_modify, h3], by simpa using h4⟩

set_option maxHeartbeats 8000000 in
set_option maxRecDepth 100000 in
theorem AsmLines_any (A : Option Addr) (c : Nat) (L : List I5) (s : List UInt8) (w : World) (hA : RowI w A L) (hc : L.length ≤ c) (hs : s.length ≤ 9223372036854775807) (hL : Laid w) :
    Calls Tryz.prog 4 #[.slice A L.length c, .string (bytesB s)] w fun e w' => e = .returned (.bool true) ∧ Below w.heap.size w w' := by
  have HL := Aside0.mk hL
  have HX := Aside0.mk (fun (W : World) hL => fixed_any W hL)
  obtain ⟨k1, hk1⟩ : ∃ k : Nat, min L.length 40 = k := ⟨_, rfl⟩
  obtain ⟨k2, hk2⟩ : ∃ k : Nat, min s.length 600 = k := ⟨_, rfl⟩
  have hA2 := Aside0.mk (hA.take k1)
  have e1 : (L.take k1).length = k1 := by rw [List.length_take]; omega
  have hm1 : (if (40 : Int) < (L.length : Int) then (40 : Int) else (L.length : Int)) = (k1 : Int) := by split <;> omega
  have hm2 : min (L.length : Int) 40 = (k1 : Int) := by omega
  have hm3 : (if (600 : Int) < (s.length : Int) then (600 : Int) else (s.length : Int)) = (k2 : Int) := by split <;> omega
  have hm4 : min (s.length : Int) 600 = (k2 : Int) := by omega
  have hsz0 : (bytesB s).size = s.length := bytesB_size s
  have HT : Aside0 ((bytesB s).extract 0 k2 = bytesB (s.take k2) ∧ (s.take k2).length ≤ 600) := ⟨bytesB_take _ _, by rw [List.length_take]; omega⟩
  have g1 : (k1 : Int) ≤ (c : Int) := by omega
  have g2 : (k2 : Int) ≤ (s.length : Int) := by omega
  have g3 : k1 ≤ 40 := by omega
  have g4 : k2 ≤ 600 := by omega
  have gm1 := hA.max
  have HLa : Aside0 (∀ W, Below w.heap.size w W → Calls Tryz.prog 8 #[.slice A k1 c] W fun e w' => e = .returned (.tuple #[.string (bytesB (linesT (L.take k1))), .int .i64 (linesE (L.take k1))]) ∧ Below W.heap.size W w') := ⟨fun W h => by
    have := Lines_any A c (L.take k1) (by omega) W (hA2.out.below h) (hL.below h)
    rw [e1] at this
    exact this⟩
  have HLb : Aside0 (∀ W, Below w.heap.size w W → Calls Tryz.prog 9 #[.slice A k1 c] W fun e w' => e = .returned (.tuple #[.string (bytesB (linesT (L.take k1))), .int .i64 (linesE (L.take k1))]) ∧ Below W.heap.size W w') := ⟨fun W h => by
    have := RLines_any A c (L.take k1) (by omega) W (hA2.out.below h) (by omega)
    rw [e1] at this
    exact this⟩
  clear hA hc hL hk1 hk2 e1 hA2
  generalize bytesB (linesT (L.take k1)) = lt at *
  generalize linesE (L.take k1) = le at *
  generalize L.length = n1 at *
  go_enter Tryz.func4, Tryz.ntmps4
  go_wp2_with fail
  rw [HT.out.1]
  have HSL := Aside0.mk HT.out.2
  clear HT hm1 hm2 hm3 hm4 g1 g2 g3 g4 gm1 hsz0
  generalize s.take k2 = u at *
  have HRd := Aside0.mk (fun (W : World) hL => Read_any u (by have := HSL.out; omega) W hL)
  have HRr := Aside0.mk (fun (W : World) => RRead_any u (by have := HSL.out; omega) W)
  have HPm : Aside0 ((readA u).1.length ≤ 100000) := ⟨by have := readA_len u; have := HSL.out; omega⟩
  generalize readA u = p at *
  obtain ⟨P, er⟩ := p
  simp only at HRd HRr HPm
  refine (HLa.out _ (Below.refl _ _)).mono ?_
  rintro e W1 ⟨rfl, hb⟩
  have HB1 := Aside0.mk hb
  clear hb HLa
  go_wp2_with fail
  refine (HLb.out _ HB1.out).mono ?_
  rintro e W2 ⟨rfl, hb⟩
  have HB2 := Aside0.mk (below_after HB1.out hb (Nat.le_refl _))
  clear hb HLb HB1
  go_wp2
  go_loopg [9] 2 (fun gg s9 wr => ∃ kk : Nat, kk ≤ 2 ∧ 2 - kk ≤ gg ∧ s9 = .int .i64 kk ∧ Aside0 (Below w.heap.size w wr))
  case atStart => exact ⟨0, by omega, by omega, rfl, HB2⟩
  case round =>
    clear HB2
    obtain ⟨kk, h1, h2, rfl, HB⟩ := hrel
    by_cases hlt : kk < 2
    · have hlt2 : decide ((kk : Int) < 2) = true := by simpa using (by omega : (kk : Int) < 2)
      go_wp2_with fail
      refine (HRd.out _ (HL.out.below HB.out)).mono ?_
      rintro e W3 ⟨v, rfl, hown, hb⟩
      obtain ⟨Ax, cx, rfl, hcx, hrow⟩ := hown.reads
      have HK3 := Aside0.mk (blkI_of hown rfl)
      have HR3 := Aside0.mk hrow
      have HB3 := Aside0.mk hb
      clear hown hrow hb
      go_wp2_with fail
      refine (HRr.out _).mono ?_
      rintro e W4 ⟨Ay, cy, rfl, hcy, hCy, hb⟩
      have HK4 := Aside0.mk (HK3.out.below hb)
      have HB4 := Aside0.mk (below_after HB3.out hb (Nat.le_refl _))
      have HSm := Aside0.mk (Same_C Ax Ay cx cy P P W4 (HR3.out.below hb) hCy hcx hcy (by have := HPm.out; omega))
      rw [show decide (P = P) = true from by simp] at HSm
      clear hb HK3 HR3 HB3 hCy
      have hpm := HPm.out
      generalize P.length = n at *
      go_wp2_with fail
      refine HSm.out.mono ?_
      rintro e W5 ⟨rfl, ⟨q, rfl⟩⟩
      have HK5 := Aside0.mk (HK4.out.below (bel_drewN W4 q))
      have HB5 := Aside0.mk (pw_below_drewN HB4.out q)
      clear HSm HK4 HB4
      generalize W4.drewN q = W5 at *
      go_wp2
      obtain ⟨wo, rfl⟩ : ∃ wo : World, wo = wr := ⟨_, rfl⟩
      go_loopg [14] n (fun gg s14 wr => ∃ ii : Nat, ii ≤ n ∧ n - ii ≤ gg ∧ s14 = .int .i64 ii ∧ Aside0 (BlkI wo.heap.size Ax n wr) ∧ Aside0 (Below wo.heap.size wo wr))
      case atStart => exact ⟨0, by omega, by omega, rfl, HK5, HB5⟩
      case round =>
        clear HK5 HB5
        obtain ⟨ii, h3, h4, rfl, HK, HBI⟩ := hrel
        by_cases hi : ii < n
        · have hi2 : decide ((ii : Int) < (n : Int)) = true := by simpa using hi
          obtain ⟨g, cells, rfl, hg1, hg2, hg3⟩ := HK.out (by omega)
          obtain ⟨u0, hu⟩ := cell_in (k := ii * 5 + 1) hg2 (by omega)
          have hf := blk_frozen hg2 (ii * 5 + 1)
          have HK2 := Aside0.mk (BlkI.store (k := ii * 5 + 1) (n := n) hg1 hg2 hg3 (.int .i64 99))
          have HBK := Aside0.mk (HBI.out.setCell (p := ⟨g, ii * 5 + 1, none⟩) hg1 (.int .i64 99))
          clear hg2 hg3 HK HBI
          go_wp2
          go_roundg (n - ii - 1)
          case measure => omega
          case rel => exact ⟨ii + 1, by omega, by omega, by go_num, HK2, HBK⟩
        · have hi2 : decide ((ii : Int) < (n : Int)) = false := by simpa using hi
          have HB9 := Aside0.mk (below_after HB.out HBI.out (Nat.le_refl _))
          go_wp2
          go_roundg (2 - kk - 1)
          case measure => omega
          case rel => exact ⟨kk + 1, by omega, by omega, by go_num, HB9⟩
    · have hlt2 : decide ((kk : Int) < 2) = false := by simpa using (by omega : ¬ (kk : Int) < 2)
      go_wp2_with fail
      refine (HX.out _ (HL.out.below HB.out)).mono ?_
      rintro e W10 ⟨rfl, hb⟩
      have hfin := below_after HB.out hb (Nat.le_refl _)
      go_wp2
      go_ret
      exact ⟨by simp, hfin⟩
end Go.Proofs.YtdgkbigmdadlaaaGreatDoor
