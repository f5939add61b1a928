import Derived.Test.YtdgkbigmdadlaaaGreatDoorAsmJ
namespace Go.Proofs.YtdgkbigmdadlaaaGreatDoor
open Go.RowKit Go.Lib Go.Proofs.YtdgkbigmdadlaaaGreatDoorW.PrintWords Go.Proofs.YtdgkbigmdadlaaaGreatDoorW.PrintLast
set_option linter.unusedVariables false
set_option linter.unusedSimpArgs false

def toS (x : I5) : S23 := ⟨x.op, x.rd, x.a, x.b, x.n⟩
theorem kC_of_row {w : World} {A : Option Addr} {L : List I5} (h : RowI w A L) : Kd.C k23 w A L.length (L.map toS) := by
  refine ⟨by rw [List.length_map], h.max, fun hp => ?_⟩
  obtain ⟨b, off, rfl, hc⟩ := h.at_ hp
  refine ⟨_, rfl, fun j p hj => ?_⟩
  rw [List.getElem?_map] at hj
  obtain ⟨x, hx, rfl⟩ := Option.map_eq_some_iff.1 hj
  obtain ⟨c0, c1, c2, c3, c4⟩ := hc j x hx
  refine ⟨cells5 x, rfl, k23_mk w (toS x), fun i u hu => ?_⟩
  rw [Lib.add_plain]
  have e : ∀ i, off + (j * k23.sz + i) = off + j * 5 + i := fun i => by
    have : k23.sz = 5 := rfl
    rw [this]; omega
  rw [e]
  match i, hu with
  | 0, hu => simp [cells5] at hu; subst hu; exact c0
  | 1, hu => simp [cells5] at hu; subst hu; exact c1
  | 2, hu => simp [cells5] at hu; subst hu; exact c2
  | 3, hu => simp [cells5] at hu; subst hu; exact c3
  | 4, hu => simp [cells5] at hu; subst hu; exact c4
theorem drop_eq {L1 L2 : List I5} {i : Nat} (h1 : i < L1.length) (h2 : i < L2.length) : (L1.drop i = L2.drop i) ↔ (L1[i] = L2[i] ∧ L1.drop (i + 1) = L2.drop (i + 1)) := by
  rw [List.drop_eq_getElem_cons h1, List.drop_eq_getElem_cons h2]
  exact ⟨fun h => List.cons.inj h, fun h => by rw [h.1, h.2]⟩
theorem i5_eq (x y : I5) : x = y ↔ (x.op = y.op ∧ x.rd = y.rd ∧ x.a = y.a ∧ x.b = y.b ∧ x.n = y.n) := by
  cases x; cases y; simp
theorem Same_l (L1 L2 : List I5) (hl : L1.length = L2.length) (hm : L1.length ≤ 1000000000) : ∀ (d i k : Nat), L1.length - i = d → i ≤ L1.length → d < k →
    whetstoneref05_Same.l0 k (L1.map toS) (L2.map toS) (i : Int) = some (decide (L1.drop i = L2.drop i))
  | 0, i, k, hd, hi, hk => by
    obtain ⟨k, rfl⟩ : ∃ m, k = m + 1 := ⟨k - 1, by omega⟩
    unfold whetstoneref05_Same.l0
    rw [if_neg (by rw [List.length_map]; omega), List.drop_of_length_le (by omega), List.drop_of_length_le (by omega)]
    simp
  | d + 1, i, k, hd, hi, hk => by
    obtain ⟨k, rfl⟩ : ∃ m, k = m + 1 := ⟨k - 1, by omega⟩
    have h1 : i < L1.length := by omega
    have h2 : i < L2.length := by omega
    unfold whetstoneref05_Same.l0
    rw [if_pos (by rw [List.length_map]; omega), if_pos (by omega), if_pos (by rw [List.length_map]; omega)]
    have r1 : rd_T23 (L1.map toS) (i : Int) = toS L1[i] := by unfold rd_T23; simp [List.getD_eq_getElem?_getD, h1]
    have r2 : rd_T23 (L2.map toS) (i : Int) = toS L2[i] := by unfold rd_T23; simp [List.getD_eq_getElem?_getD, h2]
    rw [r1, r2]
    have hdrop := drop_eq h1 h2
    by_cases he : L1[i] = L2[i]
    · rw [he]
      simp only [beq_self_eq_true, Bool.not_true, Bool.or_self, Bool.false_eq_true, if_false]
      have hw : wrap64 ((i : Int) + 1) = ((i + 1 : Nat) : Int) := by unfold wrap64; omega
      rw [hw, Same_l L1 L2 hl hm d (i + 1) k (by omega) (by omega) (by omega)]
      congr 1
      simp only [hdrop, he, true_and]
    · have hne : (!((toS L1[i]).f0 == (toS L2[i]).f0) || (!((toS L1[i]).f1 == (toS L2[i]).f1) || (!((toS L1[i]).f2 == (toS L2[i]).f2) || (!((toS L1[i]).f3 == (toS L2[i]).f3) || (!((toS L1[i]).f4 == (toS L2[i]).f4)))))) = true := by
        simp only [toS, Bool.or_eq_true, Bool.not_eq_true', beq_eq_false_iff_ne]
        rw [i5_eq] at he
        omega
      rw [if_pos hne]
      congr 1
      simp only [hdrop, he, false_and, decide_false]
theorem Same_any (A B : Option Addr) (c d : Nat) (L1 L2 : List I5) (w : World) (h1 : RowI w A L1) (h2 : RowI w B L2) (hc : L1.length ≤ c) (hd : L2.length ≤ d) (hm : L1.length ≤ 1000000000) :
    Calls Tryz.prog 12 #[.slice A L1.length c, .slice B L2.length d] w fun e w' => e = .returned (.bool (decide (L1 = L2))) ∧ Drawn0 w w' := by
  have k1 := kC_of_row h1
  have k2 := kC_of_row h2
  have := whetstoneref05_Same.calls (L1.length + 1) A c (L1.map toS) B d (L2.map toS) (decide (L1 = L2)) w (by rw [List.length_map]; exact k1) (by rw [List.length_map]; exact hc) (by rw [List.length_map]; exact k2) (by rw [List.length_map]; exact hd) (by
    unfold whetstoneref05_Same.f
    rw [List.length_map, List.length_map]
    by_cases hl : L1.length = L2.length
    · rw [if_pos (by omega)]
      have := Same_l L1 L2 hl hm (L1.length) 0 (L1.length + 1) (by omega) (by omega) (by omega)
      simpa using this
    · rw [if_neg (by omega)]
      congr 1
      symm
      simp only [decide_eq_false_iff_not]
      rintro rfl
      exact hl rfl)
  rw [List.length_map, List.length_map] at this
  exact this

theorem fx1 : bytesB (printT ⟨18, 1, 2, 0, -5⟩) = ⟨#[97, 100, 100, 105, 32, 120, 49, 44, 32, 120, 50, 44, 32, 45, 53]⟩ ∧ printE ⟨18, 1, 2, 0, -5⟩ = 0 := ⟨by kernel_rfl, by kernel_rfl⟩
theorem fx2 : bytesB (printT ⟨17, 0, 2, 1, -4⟩) = ⟨#[115, 119, 32, 120, 49, 44, 32, 45, 52, 40, 120, 50, 41]⟩ ∧ printE ⟨17, 0, 2, 1, -4⟩ = 0 := ⟨by kernel_rfl, by kernel_rfl⟩
theorem fx3 : parseA [108, 119, 32, 120, 49, 44, 32, 52, 40, 120, 50, 41] = (⟨12, 1, 2, 0, 4⟩, 0) := by kernel_rfl
theorem fx4 : parseA [97, 100, 100, 32, 120, 49, 44, 32, 120, 50, 44, 32, 120, 48, 51] = (zeroI, 50) := by kernel_rfl
theorem fx5 : bytesB (printT ⟨47, 0, 0, 0, 0⟩) = ⟨#[]⟩ ∧ printE ⟨47, 0, 0, 0, 0⟩ = 20 := ⟨by kernel_rfl, by kernel_rfl⟩
theorem fx6 : readA [101, 99, 97, 108, 108, 10, 108, 117, 105, 32, 120, 49, 44, 32, 53, 10] = ([⟨45, 0, 0, 0, 0⟩, ⟨0, 1, 0, 0, 5⟩], 0) := by kernel_rfl
theorem fx7 : byL [114, 101, 109, 117] = 44 ∧ byL [120] = -1 ∧ bytesB (nameL (-1)) = ⟨#[]⟩ := ⟨by kernel_rfl, by kernel_rfl, by kernel_rfl⟩
end Go.Proofs.YtdgkbigmdadlaaaGreatDoor
