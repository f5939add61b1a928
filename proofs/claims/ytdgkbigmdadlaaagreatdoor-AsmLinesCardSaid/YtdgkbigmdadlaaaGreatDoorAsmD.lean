import Derived.Test.YtdgkbigmdadlaaaGreatDoorAsmC
namespace Go.Proofs.YtdgkbigmdadlaaaGreatDoor
open Go.RowKit Go.Lib Go.Proofs.YtdgkbigmdadlaaaGreatDoorW.PrintWords Go.Proofs.YtdgkbigmdadlaaaGreatDoorW.PrintLast
set_option linter.unusedVariables false
set_option linter.unusedSimpArgs false

theorem ret_int {k : IntKind} {a b : Int} (h : a = b) : Ending.returned (.int k a) = .returned (.int k b) := by rw [h]
theorem beq_dec (n m : Int) : (n == m) = decide (n = m) := by by_cases h : n = m <;> simp [h]
def rowV (k : Nat) : Value := .agg (kindsV.extract (4 * k) (4 * k + 4))
theorem index_kinds (k : Nat) (hk : k < 47) (w : World) : (Instr.index 73 (.agg kindsV) (.int .i64 (k : Int))).run Tryz.prog w = .ok (rowV k) w :=
  match k, hk with
  | 0, _ => by kernel_rfl
  | 1, _ => by kernel_rfl
  | 2, _ => by kernel_rfl
  | 3, _ => by kernel_rfl
  | 4, _ => by kernel_rfl
  | 5, _ => by kernel_rfl
  | 6, _ => by kernel_rfl
  | 7, _ => by kernel_rfl
  | 8, _ => by kernel_rfl
  | 9, _ => by kernel_rfl
  | 10, _ => by kernel_rfl
  | 11, _ => by kernel_rfl
  | 12, _ => by kernel_rfl
  | 13, _ => by kernel_rfl
  | 14, _ => by kernel_rfl
  | 15, _ => by kernel_rfl
  | 16, _ => by kernel_rfl
  | 17, _ => by kernel_rfl
  | 18, _ => by kernel_rfl
  | 19, _ => by kernel_rfl
  | 20, _ => by kernel_rfl
  | 21, _ => by kernel_rfl
  | 22, _ => by kernel_rfl
  | 23, _ => by kernel_rfl
  | 24, _ => by kernel_rfl
  | 25, _ => by kernel_rfl
  | 26, _ => by kernel_rfl
  | 27, _ => by kernel_rfl
  | 28, _ => by kernel_rfl
  | 29, _ => by kernel_rfl
  | 30, _ => by kernel_rfl
  | 31, _ => by kernel_rfl
  | 32, _ => by kernel_rfl
  | 33, _ => by kernel_rfl
  | 34, _ => by kernel_rfl
  | 35, _ => by kernel_rfl
  | 36, _ => by kernel_rfl
  | 37, _ => by kernel_rfl
  | 38, _ => by kernel_rfl
  | 39, _ => by kernel_rfl
  | 40, _ => by kernel_rfl
  | 41, _ => by kernel_rfl
  | 42, _ => by kernel_rfl
  | 43, _ => by kernel_rfl
  | 44, _ => by kernel_rfl
  | 45, _ => by kernel_rfl
  | 46, _ => by kernel_rfl
  | k + 47, h => absurd h (by omega)
theorem field_kinds (k : Nat) (hk : k < 47) (w : World) : (Instr.field 72 (rowV k) 0).run Tryz.prog w = .ok (.int .u8 (formTab.getD k 0)) w :=
  match k, hk with
  | 0, _ => by kernel_rfl
  | 1, _ => by kernel_rfl
  | 2, _ => by kernel_rfl
  | 3, _ => by kernel_rfl
  | 4, _ => by kernel_rfl
  | 5, _ => by kernel_rfl
  | 6, _ => by kernel_rfl
  | 7, _ => by kernel_rfl
  | 8, _ => by kernel_rfl
  | 9, _ => by kernel_rfl
  | 10, _ => by kernel_rfl
  | 11, _ => by kernel_rfl
  | 12, _ => by kernel_rfl
  | 13, _ => by kernel_rfl
  | 14, _ => by kernel_rfl
  | 15, _ => by kernel_rfl
  | 16, _ => by kernel_rfl
  | 17, _ => by kernel_rfl
  | 18, _ => by kernel_rfl
  | 19, _ => by kernel_rfl
  | 20, _ => by kernel_rfl
  | 21, _ => by kernel_rfl
  | 22, _ => by kernel_rfl
  | 23, _ => by kernel_rfl
  | 24, _ => by kernel_rfl
  | 25, _ => by kernel_rfl
  | 26, _ => by kernel_rfl
  | 27, _ => by kernel_rfl
  | 28, _ => by kernel_rfl
  | 29, _ => by kernel_rfl
  | 30, _ => by kernel_rfl
  | 31, _ => by kernel_rfl
  | 32, _ => by kernel_rfl
  | 33, _ => by kernel_rfl
  | 34, _ => by kernel_rfl
  | 35, _ => by kernel_rfl
  | 36, _ => by kernel_rfl
  | 37, _ => by kernel_rfl
  | 38, _ => by kernel_rfl
  | 39, _ => by kernel_rfl
  | 40, _ => by kernel_rfl
  | 41, _ => by kernel_rfl
  | 42, _ => by kernel_rfl
  | 43, _ => by kernel_rfl
  | 44, _ => by kernel_rfl
  | 45, _ => by kernel_rfl
  | 46, _ => by kernel_rfl
  | k + 47, h => absurd h (by omega)
set_option maxHeartbeats 1000000 in
set_option maxRecDepth 100000 in
theorem Name_any (op : Int) (w : World) : Calls Tryz.prog 22 #[.int .i64 op] w fun e w' => e = .returned (.string (bytesB (nameL op))) ∧ Below w.heap.size w w' := by
  by_cases h : 0 ≤ op ∧ op < 47
  · obtain ⟨k, rfl⟩ : ∃ k : Nat, op = k := ⟨op.toNat, by omega⟩
    have hi := index_names k (by omega)
    have hn : nameL (k : Int) = nameTab.getD k [] := by unfold nameL; rw [if_neg (by omega)]; rfl
    rw [hn]
    generalize nameTab.getD k [] = t at *
    clear hn
    have h1 : decide ((k : Int) < 0) = false := by simp
    have h2 : decide ((k : Int) < 47) = true := by simp; omega
    have h3 : ¬ (k : Int) ≥ 47 := by omega
    go_enter Tryz.func22, Tryz.ntmps22
    go_wp2_with (go_at_call 31; refine (named_any _).mono ?_; rintro e w' ⟨rfl, hb⟩)
    go_ret
    exact ⟨rfl, hb⟩
  · rw [name_off h]
    have hc : op < 0 ∨ (0 ≤ op ∧ 47 ≤ op) := by omega
    rcases hc with hc | hc
    · go_enter Tryz.func22, Tryz.ntmps22
      go_wp2_with fail
      go_ret
      exact ⟨rfl, Below.refl _ _⟩
    · obtain ⟨h1, h2⟩ := hc
      go_enter Tryz.func22, Tryz.ntmps22
      go_wp2_with fail
      go_ret
      exact ⟨rfl, Below.refl _ _⟩
set_option maxHeartbeats 1000000 in
set_option maxRecDepth 100000 in
theorem Form_any (op : Int) (w : World) : Calls Tryz.prog 26 #[.int .i64 op] w fun e w' => e = .returned (.int .u8 (formI op)) ∧ Below w.heap.size w w' := by
  by_cases h : 0 ≤ op ∧ op < 47
  · obtain ⟨k, rfl⟩ : ∃ k : Nat, op = k := ⟨op.toNat, by omega⟩
    have hi := index_kinds k (by omega)
    have hf := field_kinds k (by omega)
    have hn : formI (k : Int) = formTab.getD k 0 := by unfold formI; rw [if_neg (by omega)]; rfl
    rw [hn]
    generalize formTab.getD k 0 = t at *
    generalize rowV k = v at *
    clear hn
    have h1 : decide ((k : Int) < 0) = false := by simp
    have h2 : decide ((k : Int) < 47) = true := by simp; omega
    have h3 : ¬ (k : Int) ≥ 47 := by omega
    go_enter Tryz.func26, Tryz.ntmps26
    go_wp2_with (go_at_call 46; refine (kinds_any _).mono ?_; rintro e w' ⟨rfl, hb⟩)
    go_ret
    exact ⟨rfl, hb⟩
  · rw [form_off h]
    have hc : op < 0 ∨ (0 ≤ op ∧ 47 ≤ op) := by omega
    rcases hc with hc | hc
    · go_enter Tryz.func26, Tryz.ntmps26
      go_wp2_with fail
      go_ret
      exact ⟨rfl, Below.refl _ _⟩
    · obtain ⟨h1, h2⟩ := hc
      go_enter Tryz.func26, Tryz.ntmps26
      go_wp2_with fail
      go_ret
      exact ⟨rfl, Below.refl _ _⟩
theorem byFrom_step (k : Nat) (hk : k < 47) (s : List UInt8) : byFrom k (nameTab.drop k) s = if nameTab.getD k [] = s then (k : Int) else byFrom ((k + 1 : Nat) : Int) (nameTab.drop (k + 1)) s := by
  have hl : k < nameTab.length := hk
  rw [List.drop_eq_getElem_cons hl]
  conv => lhs; unfold byFrom
  rw [List.getD_eq_getElem?_getD, List.getElem?_eq_getElem hl]
  rfl
theorem byFrom_end (s : List UInt8) : byFrom (47 : Nat) (nameTab.drop 47) s = -1 := by
  rw [List.drop_of_length_le (by rw [nameTab_len]; omega)]
  rfl
set_option maxHeartbeats 4000000 in
set_option maxRecDepth 100000 in
theorem By_any (s : List UInt8) (w : World) : Calls Tryz.prog 15 #[.string (bytesB s)] w fun e w' => e = .returned (.int .i64 (byL s)) ∧ Below w.heap.size w w' := by
  go_enter Tryz.func15, Tryz.ntmps15
  go_wp2_with (go_at_call 31; refine (named_any _).mono ?_; rintro e w' ⟨rfl, hb⟩)
  have HB := Aside0.mk hb
  clear hb
  go_loopg [6] 47 (fun gg s6 wr => ∃ kk : Nat, kk ≤ 47 ∧ 47 - kk ≤ gg ∧ s6 = .int .i64 kk ∧ Aside0 (byL s = byFrom kk (nameTab.drop kk) s) ∧ Aside0 (Below w.heap.size w wr))
  case atStart => exact ⟨0, by omega, by omega, rfl, ⟨rfl⟩, HB⟩
  case round =>
    clear HB
    obtain ⟨kk, h1, h2, rfl, HY, HB⟩ := hrel
    by_cases hlt : kk < 47
    · have hi := index_names kk hlt
      have HS := Aside0.mk (byFrom_step kk hlt s)
      have hlt2 : decide ((kk : Int) < 47) = true := by simp; omega
      generalize nameTab.getD kk [] = t at *
      by_cases he : t = s
      · have hE : ((bytesB t).toList == (bytesB s).toList) = true := by rw [he]; simp
        have HR : Aside0 (byL s = (kk : Int)) := ⟨by rw [HY.out, HS.out, if_pos he]⟩
        clear he HS
        go_wp2
        go_ret
        exact ⟨ret_int HR.out.symm, HB.out⟩
      · have hE : ((bytesB t).toList == (bytesB s).toList) = false := by rw [toList_bytes, toList_bytes]; simpa using he
        have HR : Aside0 (byL s = byFrom ((kk + 1 : Nat) : Int) (nameTab.drop (kk + 1)) s) := ⟨by rw [HY.out, HS.out, if_neg he]⟩
        clear he HS
        go_wp2
        go_roundg (47 - (kk + 1))
        case measure => omega
        case rel => exact ⟨kk + 1, by omega, by omega, by go_num, HR, HB⟩
    · have hlt2 : decide ((kk : Int) < 47) = false := by simp; omega
      obtain rfl : kk = 47 := by omega
      have HR : Aside0 (byL s = -1) := ⟨by rw [HY.out]; exact byFrom_end s⟩
      go_wp2
      go_ret
      exact ⟨ret_int HR.out.symm, HB.out⟩
/-! forms -/
theorem has_f (f : Int) : inst_has.f 5 f = some (has1 f, has2 f, has3 f) := by
  by_cases h1 : f = 85
  · subst h1; rfl
  by_cases h2 : f = 74
  · subst h2; rfl
  by_cases h3 : f = 73
  · subst h3; rfl
  by_cases h4 : f = 72
  · subst h4; rfl
  by_cases h5 : f = 66
  · subst h5; rfl
  by_cases h6 : f = 83
  · subst h6; rfl
  by_cases h7 : f = 82
  · subst h7; rfl
  simp [inst_has.f, inst_has.j0, inst_has.j1, inst_has.j2, has1, has2, has3, h1, h2, h3, h4, h5, h6, h7]
theorem has_any (f : Int) (w : World) : Calls Tryz.prog 53 #[.int .u8 f] w fun e w' => e = .returned (.tuple #[.bool (has1 f), .bool (has2 f), .bool (has3 f)]) ∧ Drawn0 w w' :=
  inst_has.calls 5 f _ _ _ w (has_f f)
theorem register_f (is : Bool) (n : Int) : inst_register.f is n = some (regOk is n) := by
  unfold inst_register.f inst_between.f regOk
  cases is
  · simp [beq_dec]
  · by_cases h1 : n ≥ 0
    · by_cases h2 : n ≤ 31
      · simp [h1, h2]
      · simp [h1, h2, beq_dec]
    · have h3 : ¬ 0 ≤ n := by omega
      simp [h1, h3, beq_dec]
theorem iregister_any (is : Bool) (n : Int) (w : World) : Calls Tryz.prog 54 #[.bool is, .int .i64 n] w fun e w' => e = .returned (.bool (regOk is n)) ∧ Drawn0 w w' :=
  inst_register.calls is n _ w (register_f is n)
theorem between_f (n a b : Int) : inst_between.f n a b = some (decide (a ≤ n) && decide (n ≤ b)) := by
  unfold inst_between.f
  by_cases h : n ≥ a
  · have h2 : a ≤ n := h
    simp [h, h2]
  · have h2 : ¬ a ≤ n := h
    simp [h, h2]
theorem number_f (f n : Int) : inst_number.f 5 f n = some (numOk f n) := by
  by_cases h1 : f = 85
  · subst h1; simp [inst_number.f, between_f, numOk]
  by_cases h2 : f = 74
  · subst h2
    simp only [inst_number.f, between_f, numOk, Option.bind_some]
    cases hb : (decide (-1048576 ≤ n) && decide (n ≤ 1048574)) <;> simp [hb, beq_dec]
  by_cases h3 : f = 73
  · subst h3; simp [inst_number.f, inst_number.j0, between_f, numOk]
  by_cases h6 : f = 83
  · subst h6; simp [inst_number.f, inst_number.j0, between_f, numOk]
  by_cases h5 : f = 66
  · subst h5
    simp only [inst_number.f, inst_number.j0, between_f, numOk, Option.bind_some]
    cases hb : (decide (-4096 ≤ n) && decide (n ≤ 4094)) <;> simp [hb, beq_dec]
  by_cases h4 : f = 72
  · subst h4; simp [inst_number.f, inst_number.j0, between_f, numOk]
  simp [inst_number.f, inst_number.j0, between_f, numOk, h1, h2, h3, h4, h5, h6, beq_dec]
theorem inumber_any (f n : Int) (w : World) : Calls Tryz.prog 55 #[.int .u8 f, .int .i64 n] w fun e w' => e = .returned (.bool (numOk f n)) ∧ Drawn0 w w' :=
  inst_number.calls 5 f n _ w (number_f f n)
theorem around_f (op : Int) : asm_around.f op = some (around op) := by
  unfold asm_around.f around
  by_cases h1 : op = 3
  · simp [h1]
  · by_cases h2 : op ≥ 10
    · have h3 : 10 ≤ op := h2
      simp [h1, h2, h3]
    · have h3 : ¬ 10 ≤ op := h2
      simp [h1, h2, h3]
theorem around_any (op : Int) (w : World) : Calls Tryz.prog 30 #[.int .i64 op] w fun e w' => e = .returned (.bool (around op)) ∧ Drawn0 w w' :=
  asm_around.calls op _ w (around_f op)
end Go.Proofs.YtdgkbigmdadlaaaGreatDoor
