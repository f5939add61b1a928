import Derived.Test.YtdgkbigmdadlaaaDoorAsmL
namespace Go.Proofs.YtdgkbigmdadlaaaDoor
open Go.RowKit Go.Lib Go.Proofs.YtdgkbigmdadlaaaDoorW.PrintWords Go.Proofs.YtdgkbigmdadlaaaDoorW.PrintLast
attribute [local go_sem high] eqA23
set_option linter.unusedVariables false
set_option linter.unusedSimpArgs false

theorem bytesB_get (s : List UInt8) (k : Nat) (h : k < (bytesB s).size) (h2 : k < s.length) : (bytesB s)[k] = s[k] := rfl
theorem name_eq_iff {a b : Int} (ha : 0 ≤ a ∧ a < 47) : nameL a = nameL b ↔ a = b := by
  refine ⟨fun h => ?_, fun h => by rw [h]⟩
  rcases Classical.em (0 ≤ b ∧ b < 47) with hb | hb
  · rw [← (name_in ha).1, h, (name_in hb).1]
  · rw [name_off hb] at h
    exact absurd h (name_in ha).2.1
set_option maxHeartbeats 8000000 in
set_option maxRecDepth 100000 in
theorem AsmNames_any (a b : Int) (w : World) (hL : Laid w) : Calls Tryd.prog 5 #[.int .i64 a, .int .i64 b] w fun e w' => e = .returned (.bool true) ∧ Below w.heap.size w w' := by
  have HL := Aside0.mk hL
  clear hL
  have HNa := Aside0.mk (fun (W : World) => Name_any a W)
  have HNb := Aside0.mk (fun (W : World) => Name_any b W)
  have HX := Aside0.mk (fun (W : World) hL => fixed_any W hL)
  by_cases ha : 0 ≤ a ∧ a < 47
  · obtain ⟨hby, hne, hlow, hlen⟩ := name_in ha
    have hq := name_eq_iff (b := b) ha
    have HBy := Aside0.mk (fun (W : World) => By_any (nameL a) W)
    rw [hby] at HBy
    obtain ⟨ha1, ha2⟩ := ha
    generalize nameL a = na at *
    generalize nameL b = nb at *
    have HLow := Aside0.mk hlow
    have hE : (bytesB na).toList.isEmpty = false := by rw [toList_bytes]; cases na with | nil => exact absurd rfl hne | cons => rfl
    have hsz : (bytesB na).size = na.length := bytesB_size na
    have hAB : (a = b ∧ nb = na) ∨ ((a == b) = false ∧ ((bytesB na).toList == (bytesB nb).toList) = false) := by
      by_cases h : a = b
      · exact .inl ⟨h, (hq.2 h).symm⟩
      · refine .inr ⟨by simpa using h, ?_⟩
        rw [toList_bytes, toList_bytes]
        simpa using (fun e => h (hq.1 e))
    have HAB := Aside0.mk hAB
    clear hby hne hlow hq hAB
    go_enter Tryd.func5, Tryd.ntmps5
    go_wp2_with fail
    refine (HNa.out _).mono ?_
    rintro e w1 ⟨rfl, hb1⟩
    go_wp2_with fail
    refine (HNb.out _).mono ?_
    rintro e w2 ⟨rfl, hb2⟩
    have HW := Aside0.mk (below_after hb1 hb2 (Nat.le_refl _))
    clear hb1 hb2
    go_wp2_with fail
    go_loopg [8] na.length (fun gg s8 wr => ∃ kk : Nat, kk ≤ na.length ∧ na.length - kk ≤ gg ∧ s8 = .int .i64 kk ∧ wr = w2)
    case atStart => exact ⟨0, by omega, by omega, rfl, rfl⟩
    case round =>
      obtain ⟨kk, h1, h2, rfl, rfl⟩ := hrel
      by_cases hlt : kk < na.length
      · have hlt2 : decide ((kk : Int) < (na.length : Int)) = true := by simpa using hlt
        have hlt3 : kk < (bytesB na).size := by rw [hsz]; exact hlt
        have hg := HLow.out na[kk] (List.getElem_mem _)
        have hg1 : (97 : Int) ≤ (((bytesB na)[kk]).toNat : Int) := Int.ofNat_le.mpr hg.1
        have hg2 : (((bytesB na)[kk]).toNat : Int) ≤ 122 := Int.ofNat_le.mpr hg.2
        clear hg
        go_wp2_with fail
        go_roundg (na.length - kk - 1)
        case measure => omega
        case rel => exact ⟨kk + 1, by omega, by omega, by go_num, rfl⟩
      · have hlt2 : decide ((kk : Int) < (na.length : Int)) = false := by simpa using hlt
        rcases HAB.out with ⟨rfl, rfl⟩ | ⟨q1, q2⟩
        all_goals
          go_wp2_with fail
          refine (HBy.out _).mono ?_
          rintro e w3 ⟨rfl, hb⟩
          have HW3 := Aside0.mk (below_after HW.out hb (Nat.le_refl _))
          clear hb
          go_wp2_with fail
          refine (HX.out _ (HL.out.below HW3.out)).mono ?_
          rintro e w4 ⟨rfl, hb⟩
          have hfin := below_after HW3.out hb (Nat.le_refl _)
          go_wp2_with fail
          go_ret
          exact ⟨rfl, hfin⟩
  · rw [name_off ha] at HNa
    have hc : a < 0 ∨ (0 ≤ a ∧ 47 ≤ a) := by omega
    clear ha
    generalize nameL b = nb at *
    have hE : (bytesB []).toList.isEmpty = true := by simp [bytesB]
    have hsz : (bytesB []).size = 0 := rfl
    rcases hc with hc | ⟨hc1, hc⟩
    all_goals
      go_enter Tryd.func5, Tryd.ntmps5
      go_wp2_with fail
      refine (HNa.out _).mono ?_
      rintro e w1 ⟨rfl, hb1⟩
      go_wp2_with fail
      refine (HNb.out _).mono ?_
      rintro e w2 ⟨rfl, hb2⟩
      have HW := Aside0.mk (below_after hb1 hb2 (Nat.le_refl _))
      clear hb1 hb2
      go_wp2_with fail
      go_loopg [8] 0 (fun gg s8 wr => s8 = .int .i64 0 ∧ wr = w2)
      case atStart => exact ⟨rfl, rfl⟩
      case round =>
        obtain ⟨rfl, rfl⟩ := hrel
        go_wp2_with fail
        refine (HX.out _ (HL.out.below HW.out)).mono ?_
        rintro e w4 ⟨rfl, hb⟩
        have hfin := below_after HW.out hb (Nat.le_refl _)
        go_wp2_with fail
        go_ret
        exact ⟨rfl, hfin⟩
end Go.Proofs.YtdgkbigmdadlaaaDoor
