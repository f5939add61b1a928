import Derived.Test.YtjifancgekoenaaGreatDoorCnfI
namespace Go.Proofs.YtjifancgekoenaaGreatDoor
open Go.RowKit Go.Proofs.YtjifancgekoenaaGreatDoorW.PrintWords Go.Proofs.YtjifancgekoenaaGreatDoorW.PrintLast
open Go.Sort (grow cell?_grow heap_grow_old)
set_option linter.unusedVariables false
set_option linter.unusedSimpArgs false

theorem below_drewN {B : Nat} {a w : World} (h : Below B a w) (n : Nat) : Below B a (w.drewN n) := ⟨h.os, h.tape, h.output, h.size, h.block⟩
theorem getBang {α : Type} [Inhabited α] {xs : List α} {j : Nat} (h : j < xs.length) : xs[j]? = some xs[j]! := by rw [List.getElem!_eq_getElem?_getD, List.getElem?_eq_getElem h]; rfl
theorem list_ext_bang {α : Type} [Inhabited α] {xs ys : List α} {n : Nat} (h1 : xs.length = n) (h2 : ys.length = n) (h : ∀ j, j < n → xs[j]! = ys[j]!) : xs = ys := by
  apply List.ext_getElem? 
  intro j
  rcases Nat.lt_or_ge j n with hj | hj
  · rw [getBang (by omega), getBang (by omega), h j hj]
  · rw [List.getElem?_eq_none (by omega), List.getElem?_eq_none (by omega)]

set_option maxHeartbeats 1000000 in
set_option maxRecDepth 100000 in
theorem Nums_any (A B : Option Addr) (c d : Nat) (xs ys : List Int) (w : World) (h1 : Kd.C kI w A xs.length xs) (h2 : Kd.C kI w B ys.length ys) :
    Calls Tryz.prog 24 #[.slice A xs.length c, .slice B ys.length d] w fun e w' => e = .returned (.bool (decide (xs = ys))) ∧ ∃ q, w' = w.drewN q := by
  obtain ⟨n, hn⟩ : ∃ n, xs.length = n := ⟨_, rfl⟩
  obtain ⟨m, hm⟩ : ∃ m, ys.length = m := ⟨_, rfl⟩
  have HX : Aside0 (xs.length = n ∧ ys.length = m ∧ Kd.C kI w A xs.length xs ∧ Kd.C kI w B ys.length ys) := ⟨hn, hm, h1, h2⟩
  have hn9 : n ≤ 9223372036854775807 := by rw [← hn]; exact C_max h1
  have HR : Aside0 (∀ b, (xs = ys ↔ b = true) → decide (xs = ys) = b) := ⟨fun b h => by cases b <;> simp_all⟩
  rw [hn, hm]
  clear h1 h2 hn hm
  generalize hD : decide (xs = ys) = D at *
  clear hD
  by_cases hnm : n = m
  · subst hnm
    go_enter Tryz.func24, Tryz.ntmps24
    go_wp2
    go_loopg [5] n (fun gg s5 wr => ∃ (kk q : Nat), kk ≤ n ∧ n - kk ≤ gg ∧ s5 = .int .i64 kk ∧ wr = w.drewN q ∧ Aside0 (∀ j, j < kk → xs[j]! = ys[j]!))
    case atStart => exact ⟨0, 0, by omega, by omega, rfl, rfl, ⟨fun j hj => by omega⟩⟩
    case round =>
      obtain ⟨kk, q, h2, h3, rfl, rfl, HO⟩ := hrel
      by_cases hlt : kk < n
      · have hlt2 : decide ((kk : Int) < (n : Int)) = true := by simpa using hlt
        obtain ⟨b1, o1, rfl, hc1⟩ := C_ints HX.out.2.2.1 (by rw [HX.out.1]; omega)
        obtain ⟨b2, o2, rfl, hc2⟩ := C_ints HX.out.2.2.2 (by rw [HX.out.2.1]; omega)
        have hx := hc1 kk (by rw [HX.out.1]; exact hlt)
        have hy := hc2 kk (by rw [HX.out.2.1]; exact hlt)
        clear hc1 hc2
        have HV : Aside0 (∀ x y, xs[kk]! = x → ys[kk]! = y → x ≠ y → D = false) := ⟨fun x y h1 h2 h3 => HR.out _ ⟨fun h => absurd (by rw [← h1, ← h2, h]) h3, fun h => by cases h⟩⟩
        have HW : Aside0 (∀ x y, xs[kk]! = x → ys[kk]! = y → x = y → ∀ j, j < kk + 1 → xs[j]! = ys[j]!) := ⟨fun x y e1 e2 e3 j hj => by
          rcases Nat.lt_or_ge j kk with h | h
          · exact HO.out j h
          · obtain rfl : j = kk := by omega
            rw [e1, e2, e3]⟩
        have HE : Aside0 (∀ x y, xs[kk]! = x → ys[kk]! = y → (x ≠ y → D = false) ∧ (x = y → ∀ j, j < kk + 1 → xs[j]! = ys[j]!)) := ⟨fun x y h1 h2 => ⟨HV.out x y h1 h2, HW.out x y h1 h2⟩⟩
        have HE2 : Aside0 ((xs[kk]! ≠ ys[kk]! → D = false) ∧ (xs[kk]! = ys[kk]! → ∀ j, j < kk + 1 → xs[j]! = ys[j]!)) := ⟨HE.out _ _ rfl rfl⟩
        generalize xs[kk]! = x at *
        generalize ys[kk]! = y at *
        clear HV HW HE
        by_cases hxy : x = y
        · have e1 : (x == y) = true := by simpa using hxy
          have e2 : (x != y) = false := by simpa using hxy
          have HF : Aside0 (∀ j, j < kk + 1 → xs[j]! = ys[j]!) := ⟨HE2.out.2 hxy⟩
          clear hxy
          go_wp2
          go_quiet (fail)
          go_wp2
          go_roundg (n - kk - 1)
          case measure => omega
          case rel => exact ⟨kk + 1, q + nq, by omega, by omega, by go_num, by simp [World.drewN_drewN], ⟨HF.out⟩⟩
        · have e1 : (x == y) = false := by simpa using hxy
          have e2 : (x != y) = true := by simpa using hxy
          have HF : Aside0 (D = false) := ⟨HE2.out.1 hxy⟩
          clear hxy
          go_wp2
          go_quiet (fail)
          go_wp2
          go_ret
          exact ⟨by rw [HF.out]; rfl, q + nq, World.drewN_drewN _ _ _⟩
      · have hlt2 : decide ((kk : Int) < (n : Int)) = false := by simpa using hlt
        obtain rfl : kk = n := by omega
        have HF : Aside0 (D = true) := ⟨HR.out _ ⟨fun _ => rfl, fun _ => list_ext_bang HX.out.1 HX.out.2.1 HO.out⟩⟩
        go_wp2
        go_ret
        exact ⟨by rw [HF.out]; rfl, q, rfl⟩
  · have e1 : ((n : Int) == (m : Int)) = false := by simpa using (by omega : ¬ (n : Int) = m)
    have e2 : ((n : Int) != (m : Int)) = true := by simpa using (by omega : ¬ (n : Int) = m)
    have HF : Aside0 (D = false) := ⟨HR.out _ ⟨fun h => absurd (by rw [← HX.out.1, ← HX.out.2.1, h]) hnm, fun h => by cases h⟩⟩
    go_enter Tryz.func24, Tryz.ntmps24
    go_wp2
    go_ret
    exact ⟨by rw [HF.out]; rfl, 0, rfl⟩

set_option maxHeartbeats 1000000 in
set_option maxRecDepth 100000 in
theorem Lists_any (A B : Option Addr) (c d : Nat) (xs ys : List (List Int)) (w : World) (h1 : Kd.C kII w A xs.length xs) (h2 : Kd.C kII w B ys.length ys) :
    Calls Tryz.prog 22 #[.slice A xs.length c, .slice B ys.length d] w fun e w' => e = .returned (.bool (decide (xs = ys))) ∧ ∃ q, w' = w.drewN q := by
  obtain ⟨n, hn⟩ : ∃ n, xs.length = n := ⟨_, rfl⟩
  obtain ⟨m, hm⟩ : ∃ m, ys.length = m := ⟨_, rfl⟩
  have HX : Aside0 (xs.length = n ∧ ys.length = m ∧ Kd.C kII w A n xs ∧ Kd.C kII w B m ys) := ⟨hn, hm, hn ▸ h1, hm ▸ h2⟩
  have hn9 : n ≤ 9223372036854775807 := by rw [← hn]; exact C_max h1
  have HR : Aside0 (∀ b, (xs = ys ↔ b = true) → decide (xs = ys) = b) := ⟨fun b h => by cases b <;> simp_all⟩
  rw [hn, hm]
  clear h1 h2 hn hm
  generalize hD : decide (xs = ys) = D at *
  clear hD
  by_cases hnm : n = m
  · subst hnm
    go_enter Tryz.func22, Tryz.ntmps22
    go_wp2
    go_loopg [5] n (fun gg s5 wr => ∃ (kk q : Nat), kk ≤ n ∧ n - kk ≤ gg ∧ s5 = .int .i64 kk ∧ Aside0 (wr = w.drewN q) ∧ Aside0 (∀ j, j < kk → xs[j]! = ys[j]!))
    case atStart => exact ⟨0, 0, by omega, by omega, rfl, ⟨rfl⟩, ⟨fun j hj => by omega⟩⟩
    case round =>
      obtain ⟨kk, q, h2, h3, rfl, HQ, HO⟩ := hrel
      by_cases hlt : kk < n
      · have hlt2 : decide ((kk : Int) < (n : Int)) = true := by simpa using hlt
        obtain ⟨b1, o1, rfl, _, hc1⟩ := C_rows HX.out.2.2.1 (by omega)
        obtain ⟨b2, o2, rfl, _, hc2⟩ := C_rows HX.out.2.2.2 (by omega)
        obtain ⟨A1, c1, hx, _, hX⟩ := hc1 kk hlt
        obtain ⟨A2, c2, hy, _, hY⟩ := hc2 kk hlt
        clear hc1 hc2
        replace hx : wr.cell? ⟨b1, o1 + kk, none⟩ = some (.slice A1 xs[kk]!.length c1) := by rw [HQ.out]; exact hx
        replace hy : wr.cell? ⟨b2, o2 + kk, none⟩ = some (.slice A2 ys[kk]!.length c2) := by rw [HQ.out]; exact hy
        have HN := fun W (hW : ∃ q, W = wr.drewN q) => Nums_any A1 A2 c1 c2 xs[kk]! ys[kk]! W (Kd.C_below hX (by obtain ⟨q', rfl⟩ := hW; rw [HQ.out]; exact below_drewN (below_drewN (Below.refl _ _) _) _)) (Kd.C_below hY (by obtain ⟨q', rfl⟩ := hW; rw [HQ.out]; exact below_drewN (below_drewN (Below.refl _ _) _) _))
        have HE2 : Aside0 ((xs[kk]! ≠ ys[kk]! → D = false) ∧ (xs[kk]! = ys[kk]! → ∀ j, j < kk + 1 → xs[j]! = ys[j]!)) := ⟨fun h3 => HR.out _ ⟨fun h => absurd (by rw [h]) h3, fun h => by cases h⟩, fun h3 j hj => by
          rcases Nat.lt_or_ge j kk with h | h
          · exact HO.out j h
          · obtain rfl : j = kk := by omega
            exact h3⟩
        clear hX hY
        generalize xs[kk]! = x at *
        generalize ys[kk]! = y at *
        by_cases hxy : x = y
        · have HF : Aside0 (∀ j, j < kk + 1 → xs[j]! = ys[j]!) := ⟨HE2.out.2 hxy⟩
          have e1 : decide (x = y) = true := by simpa using hxy
          rw [e1] at HN
          clear hxy e1
          have HN2 : Aside0 (∀ W, (∃ q, W = wr.drewN q) → Calls Tryz.prog 24 #[.slice A1 x.length c1, .slice A2 y.length c2] W fun e w' => e = .returned (.bool true) ∧ ∃ q, w' = W.drewN q) := ⟨HN⟩
          clear HN
          go_wp2
          go_quiet ((go_at_call 24; exact Calls.quiet_of (HN2.out _ ⟨_, rfl⟩)))
          go_wp2
          go_roundg (n - kk - 1)
          case measure => omega
          case rel => exact ⟨kk + 1, q + nq, by omega, by omega, by go_num, ⟨by rw [HQ.out, World.drewN_drewN]⟩, ⟨HF.out⟩⟩
        · have HF : Aside0 (D = false) := ⟨HE2.out.1 hxy⟩
          have e1 : decide (x = y) = false := by simpa using hxy
          rw [e1] at HN
          clear hxy e1
          have HN2 : Aside0 (∀ W, (∃ q, W = wr.drewN q) → Calls Tryz.prog 24 #[.slice A1 x.length c1, .slice A2 y.length c2] W fun e w' => e = .returned (.bool false) ∧ ∃ q, w' = W.drewN q) := ⟨HN⟩
          clear HN
          go_wp2
          go_quiet ((go_at_call 24; exact Calls.quiet_of (HN2.out _ ⟨_, rfl⟩)))
          go_wp2
          go_ret
          exact ⟨by rw [HF.out]; rfl, q + nq, by rw [HQ.out, World.drewN_drewN]⟩
      · have hlt2 : decide ((kk : Int) < (n : Int)) = false := by simpa using hlt
        obtain rfl : kk = n := by omega
        have HF : Aside0 (D = true) := ⟨HR.out _ ⟨fun _ => rfl, fun _ => list_ext_bang HX.out.1 HX.out.2.1 HO.out⟩⟩
        go_wp2
        go_ret
        exact ⟨by rw [HF.out]; rfl, q, HQ.out⟩
  · have e1 : ((n : Int) == (m : Int)) = false := by simpa using (by omega : ¬ (n : Int) = m)
    have e2 : ((n : Int) != (m : Int)) = true := by simpa using (by omega : ¬ (n : Int) = m)
    have HF : Aside0 (D = false) := ⟨HR.out _ ⟨fun h => absurd (by rw [← HX.out.1, ← HX.out.2.1, h]) hnm, fun h => by cases h⟩⟩
    go_enter Tryz.func22, Tryz.ntmps22
    go_wp2
    go_ret
    exact ⟨by rw [HF.out]; rfl, 0, rfl⟩
end Go.Proofs.YtjifancgekoenaaGreatDoor
