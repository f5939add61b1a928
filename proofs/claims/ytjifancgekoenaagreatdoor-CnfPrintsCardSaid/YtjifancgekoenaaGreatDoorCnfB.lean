import Derived.Test.YtjifancgekoenaaGreatDoorCnfA
import Derived.Laws.EntriesVeiled
namespace Go.Proofs.YtjifancgekoenaaGreatDoor
open Go.RowKit Go.Lib Go.Proofs.YtjifancgekoenaaGreatDoorW.PrintWords Go.Proofs.YtjifancgekoenaaGreatDoorW.PrintLast
set_option linter.unusedVariables false
set_option linter.unusedSimpArgs false

abbrev kI : Kd Int := Kd.int .i64
abbrev kII : Kd (List Int) := Kd.slice 3 (Kd.int .i64)

/-- A row of rows of whole numbers: where it lies. -/
theorem C_rows {w : World} {A : Option Addr} {n : Nat} {xs : List (List Int)} (h : Kd.C kII w A n xs) (hp : 0 < n) : ∃ b off, A = some ⟨b, off, none⟩ ∧ b < w.heap.size ∧
    ∀ j, j < n → ∃ A1 c1, w.cell? ⟨b, off + j, none⟩ = some (.slice A1 xs[j]!.length c1) ∧ xs[j]!.length ≤ c1 ∧ Kd.C kI w A1 xs[j]!.length xs[j]! := by
  have key : ∀ j : Nat, j < n → ∃ ad A1 c1, A = some ad ∧ ad.spot = none ∧ w.cell? (ad.add j) = some (.slice A1 xs[j]!.length c1) ∧ xs[j]!.length ≤ c1 ∧ Kd.C kI w A1 xs[j]!.length xs[j]! := by
    intro j hj
    obtain ⟨ad, c, e, hcl, ⟨A1, c1, rfl, hl, hC⟩, hcc⟩ := Kd.C_get h [] (j : Int) (by omega) (by omega)
    have h1 := hcc 0 _ rfl
    have e1 : xs.getD (j : Int).toNat [] = xs[j]! := by simp [List.getD_eq_getElem?_getD, List.getElem!_eq_getElem?_getD]; rfl
    rw [e1] at h1 hl hC
    have e2 : ((j : Int).toNat * kII.sz + 0) = j := by show ((j : Int).toNat * 1 + 0) = j; simp
    rw [e2] at h1
    have hs : ad.spot = none := by
      have h0 := spot_none h1
      unfold Addr.add at h0
      split at h0
      · exact h0
      · obtain ⟨ad', c', e', hcl', ⟨A1', c1', rfl, hl', hC'⟩, hcc'⟩ := Kd.C_get h [] (0 : Int) (by omega) (by omega)
        obtain rfl : ad = ad' := Option.some.inj (e.symm.trans e')
        have h2 := spot_none (hcc' 0 _ rfl)
        simpa [Addr.add] using h2
    exact ⟨ad, A1, c1, e, hs, h1, hl, hC⟩
  obtain ⟨ad, A1, c1, rfl, hs, h1, _⟩ := key 0 hp
  have hb := World.block_lt_of_cell? w _ h1
  rw [add_spot hs] at hb
  refine ⟨ad.block, ad.off, by cases ad; simp_all, hb, fun j hj => ?_⟩
  obtain ⟨ad', A1', c1', e', hs', h1', hl', hC'⟩ := key j hj
  obtain rfl : ad = ad' := Option.some.inj e'
  rw [add_spot hs] at h1'
  exact ⟨A1', c1', h1', hl', hC'⟩

/-- slices.IndexFunc at rows: 'p' is what the function value says of a row. -/
def RowPred (g : Nat) (cb : Array Value) (p : List Int → Bool) (w : World) : Prop :=
  ∀ (W : World) (A : Option Addr) (c : Nat) (l : List Int), Below w.heap.size w W → Kd.C kI W A l.length l → Calls Tryz.prog g (#[.slice A l.length c] ++ cb) W fun e w' => e = .returned (.bool (p l)) ∧ Below W.heap.size W w'

set_option maxHeartbeats 1000000 in
set_option maxRecDepth 100000 in
theorem indexRows_any (g : Nat) (cb : Array Value) (eg : ∀ args w, (callFunc g args).run Tryz.prog w = .ok (.enter g args) w) (p : List Int → Bool) (A : Option Addr) (c : Nat) (xs : List (List Int)) (w : World)
    (hC : Kd.C kII w A xs.length xs) (hp : RowPred g cb p w) :
    Calls Tryz.prog 57 #[.slice A xs.length c, .func (.func g) #[] cb] w fun e w' => (∃ i : Int, e = .returned (.int .i64 i) ∧ decide (0 ≤ i) = xs.any p) ∧ Below w.heap.size w w' := by
  have hm := C_max hC
  have HP : Aside0 (RowPred g cb p w) := ⟨hp⟩
  have HC : Aside0 (Kd.C kII w A xs.length xs) := ⟨hC⟩
  clear hp hC
  obtain ⟨n, hn⟩ : ∃ n, xs.length = n := ⟨_, rfl⟩
  have HN : Aside0 (xs.length = n) := ⟨hn⟩
  rw [hn] at HC hm ⊢
  clear hn
  go_enter Tryz.func57, Tryz.ntmps57
  go_wp2
  go_loopg [5, 8] n (fun gg _ s8 wr => ∃ kk : Nat, kk ≤ n ∧ n - kk ≤ gg ∧ s8 = .int .i64 kk ∧ Aside0 (Below w.heap.size w wr) ∧ Aside0 (∀ j, j < kk → p xs[j]! = false))
  case atStart => exact ⟨0, Nat.zero_le _, by omega, rfl, ⟨Below.refl _ _⟩, ⟨fun j hj => absurd hj (Nat.not_lt_zero _)⟩⟩
  case round =>
    obtain ⟨kk, hkk, hg, rfl, HB, HF⟩ := hrel
    by_cases hlt : kk < n
    · have hltz : (kk : Int) < (n : Int) := by omega
      obtain ⟨b, off, rfl, hbl, hcs⟩ := C_rows HC.out (by omega)
      obtain ⟨A1, c1, hc1, hl1, hC1⟩ := hcs kk hlt
      have hcell := (HB.out.cell (World.block_lt_of_cell? w _ hc1)).trans hc1
      have hcall := HP.out wr A1 c1 xs[kk]! HB.out (Kd.C_below hC1 HB.out)
      have HK : Aside0 (xs[kk]! = xs[kk]!) := ⟨rfl⟩
      generalize hy : xs[kk]! = y at hcell hcall
      have B : Aside0 (xs[kk]! = y) := ⟨hy⟩
      clear hy hcs hc1 hl1 hC1 hbl
      generalize y.length = m at hcell hcall
      cases hq : p y with
      | true =>
        have HQ : Aside0 (p y = true) := ⟨hq⟩
        rw [hq] at hcall
        clear hq
        go_wp2_with (go_at_fn g; refine (hcall).mono ?_; rintro e w' ⟨rfl, hb1⟩)
        go_ret
        refine ⟨⟨_, rfl, ?_⟩, below_then HB.out HB.out.size hb1⟩
        rw [show decide ((0 : Int) ≤ (kk : Int)) = true from by simp]
        symm
        rw [List.any_eq_true]
        refine ⟨y, ?_, HQ.out⟩
        have h1 := B.out
        have h2 := HN.out
        rw [getElem!_pos xs kk (by omega)] at h1
        rw [← h1]
        exact List.getElem_mem _
      | false =>
        have HQ : Aside0 (p y = false) := ⟨hq⟩
        rw [hq] at hcall
        clear hq
        go_wp2_with (go_at_fn g; refine (hcall).mono ?_; rintro e w' ⟨rfl, hb1⟩)
        have HB1 : Aside0 (Below wr.heap.size wr w') := ⟨hb1⟩
        clear hb1
        go_roundg (n - (kk + 1))
        case measure => omega
        case rel =>
          refine ⟨kk + 1, by omega, by omega, by go_num, ⟨below_then HB.out HB.out.size HB1.out⟩, ⟨fun j hj => ?_⟩⟩
          by_cases e : j = kk
          · subst e
            rw [B.out]; exact HQ.out
          · exact HF.out j (by omega)
    · have hltz : ¬ (kk : Int) < (n : Int) := by omega
      obtain rfl : kk = n := by omega
      go_wp2
      go_ret
      refine ⟨⟨_, rfl, ?_⟩, HB.out⟩
      symm
      rw [show decide ((0 : Int) ≤ -1) = false from by decide]
      rw [List.any_eq_false]
      intro x hx
      obtain ⟨j, hj, rfl⟩ := List.getElem_of_mem hx
      have := HF.out j (by have := HN.out; omega)
      rw [getElem!_pos xs j hj] at this
      simp [this]

set_option maxHeartbeats 1000000 in
set_option maxRecDepth 100000 in
theorem containsRows_any (g : Nat) (cb : Array Value) (eg : ∀ args w, (callFunc g args).run Tryz.prog w = .ok (.enter g args) w) (p : List Int → Bool) (A : Option Addr) (c : Nat) (xs : List (List Int)) (w : World)
    (hC : Kd.C kII w A xs.length xs) (hp : RowPred g cb p w) :
    Calls Tryz.prog 37 #[.slice A xs.length c, .func (.func g) #[] cb] w fun e w' => e = .returned (.bool (xs.any p)) ∧ Below w.heap.size w w' := by
  have HI := indexRows_any g cb eg p A c xs w hC hp
  clear hC hp
  generalize xs.any p = r at *
  generalize xs.length = n at *
  go_enter Tryz.func37, Tryz.ntmps37
  go_wp2_with (go_at_call 57; refine HI.mono ?_; rintro e w' ⟨⟨i, rfl, rfl⟩, hb⟩)
  go_ret
  exact ⟨by simp, hb⟩

def oddB (n x : Int) : Bool := decide (vari x < 1) || decide (n < vari x)
set_option maxHeartbeats 1000000 in
set_option maxRecDepth 100000 in
theorem odd_fn (B : Nat) (n : Int) (w : World) (hB : B < w.heap.size) (hc : w.cell? ⟨B, 0, none⟩ = some (.int .i64 n)) :
    PredAt Tryz.prog 35 #[.pointer (some ⟨B, 0, none⟩)] (Value.int .i64) (fun x => oddB n x) w := by
  intro W x hb
  have hc' := (hb.cell (p := ⟨B, 0, none⟩) hB).trans hc
  have HV := fun W => variable_any x W
  show FnGives Tryz.prog 35 #[.pointer (some ⟨B, 0, none⟩)] #[.int .i64 x] (.bool (oddB n x)) W
  clear hc hb
  unfold oddB
  generalize vari x = v at *
  unfold FnGives
  by_cases h1 : v < 1
  · have hd : decide (v < 1) = true := by simpa using h1
    rw [hd]
    go_enter Tryz.func35, Tryz.ntmps35
    go_wp2
    go_quiet ((go_at_call 36; exact Calls.quiet_of_same ((HV _).mono fun _ _ ⟨h1, h2⟩ => ⟨h1, h2.symm⟩)))
    go_wp2
    go_ret
    exact ⟨rfl, _, rfl⟩
  · have hd : decide (v < 1) = false := by simpa using h1
    rw [hd]
    go_enter Tryz.func35, Tryz.ntmps35
    go_wp2
    go_quiet ((go_at_call 36; exact Calls.quiet_of_same ((HV _).mono fun _ _ ⟨h1, h2⟩ => ⟨h1, h2.symm⟩)))
    go_wp2
    go_ret
    exact ⟨rfl, _, rfl⟩

set_option maxHeartbeats 1000000 in
set_option maxRecDepth 100000 in
theorem odds_fn (B D : Nat) (n : Int) (w : World) (hB : B < w.heap.size) (hD : D < w.heap.size) (hc : w.cell? ⟨B, 0, none⟩ = some (.int .i64 n))
    (hd : w.cell? ⟨D, 0, none⟩ = some (.func (.func 35) #[] #[.pointer (some ⟨B, 0, none⟩)])) :
    RowPred 38 #[.pointer (some ⟨D, 0, none⟩)] (fun l => l.any (oddB n)) w := by
  intro W A c l hb hC
  have hd' := (hb.cell (p := ⟨D, 0, none⟩) hD).trans hd
  have hc' := (hb.cell (p := ⟨B, 0, none⟩) hB).trans hc
  have eg : ∀ args w, (callFunc 35 args).run Tryz.prog w = .ok (.enter 35 args) w := enters_of Tryz.func35 (by kernel_rfl) rfl
  have hP := odd_fn B n W (Nat.lt_of_lt_of_le hB hb.size) hc'
  have HH : Calls Tryz.prog 25 #[.slice A l.length c, .func (.func 35) #[] #[.pointer (some ⟨B, 0, none⟩)]] W fun e w' => e = .returned (.bool (l.any (oddB n))) ∧ ∃ q, w' = W.drewN q := by
    by_cases hp : 0 < l.length
    · obtain ⟨b, off, rfl, hcc⟩ := C_ints hC hp
      have HH := AnyE.slices_ContainsFunc Tryz.contI (Value.int .i64) (fun x => oddB n x) 35 #[.pointer (some ⟨B, 0, none⟩)] eg b off l.length c l W hP (Nat.le_refl _) (C_max hC) hcc
      rw [List.take_length] at HH
      exact HH
    · obtain rfl : l = [] := List.eq_nil_of_length_eq_zero (by omega)
      exact (AnyE.slices_ContainsFunc_empty Tryz.contI A c _ W).mono fun _ _ ⟨h1, h2⟩ => ⟨h1, 0, h2⟩
  show Calls Tryz.prog 38 #[.slice A l.length c, .pointer (some ⟨D, 0, none⟩)] W fun e w' => e = .returned (.bool (l.any (oddB n))) ∧ Below W.heap.size W w'
  clear hc hd hb hC hP hc'
  generalize l.any (oddB n) = r at *
  generalize l.length = m at *
  go_enter Tryz.func38, Tryz.ntmps38
  go_wp2_with (go_at_call 25; refine HH.mono ?_; rintro e w' ⟨rfl, q, rfl⟩)
  go_ret
  exact ⟨rfl, pw_below_drewN (Below.refl _ _) _⟩

theorem cell_new2 (w : World) (a : Obj) (cs : Array Value) (t : TypeId) (j : Nat) : ((w.alloc a).alloc (.cells cs t)).cell? ⟨w.heap.size + 1, j, none⟩ = cs[j]? := by
  have := cell_new (w.alloc a) cs t j
  rwa [show (w.alloc a).heap.size = w.heap.size + 1 from by simp] at this
theorem bel1 (w : World) (a : Obj) : Below w.heap.size w (w.alloc a) := (Below.refl _ _).alloc (Nat.le_refl _) _
theorem bel2 (w : World) (a b : Obj) : Below w.heap.size w ((w.alloc a).alloc b) := ((Below.refl _ _).alloc (Nat.le_refl _) _).alloc (by simp) _
theorem bel3 (w : World) (a b c : Obj) : Below w.heap.size w (((w.alloc a).alloc b).alloc c) := (bel2 w a b).alloc (by simp; omega) _

def checkI (n : Int) (l : List (List Int)) : Int :=
  if n < 0 then 130 else if 1048576 < n then 2 else if 1048576 < (l.length : Int) then 2 else if l.any (fun l => l.any (oddB n)) then 130 else 0

set_option maxHeartbeats 1000000 in
set_option maxRecDepth 100000 in
theorem Check_any (n : Int) (A : Option Addr) (c : Nat) (l : List (List Int)) (w : World) (hC : Kd.C kII w A l.length l) :
    Calls Tryz.prog 16 #[.agg #[.int .i64 n, .slice A l.length c]] w fun e w' => e = .returned (.int .i64 (checkI n l)) ∧ Below w.heap.size w w' := by
  have eg : ∀ args w, (callFunc 38 args).run Tryz.prog w = .ok (.enter 38 args) w := enters_of Tryz.func38 (by kernel_rfl) rfl
  have hm := C_max hC
  unfold checkI
  by_cases h1 : n < 0
  · rw [if_pos h1]
    clear hC
    go_enter Tryz.func16, Tryz.ntmps16
    go_wp2
    go_ret
    exact ⟨rfl, bel2 _ _ _⟩
  · rw [if_neg h1]
    by_cases h2 : 1048576 < n
    · rw [if_pos h2]
      clear hC
      go_enter Tryz.func16, Tryz.ntmps16
      go_wp2
      go_ret
      exact ⟨rfl, bel2 _ _ _⟩
    · rw [if_neg h2]
      by_cases h3 : 1048576 < (l.length : Int)
      · rw [if_pos h3]
        clear hC
        go_enter Tryz.func16, Tryz.ntmps16
        go_wp2
        go_ret
        exact ⟨rfl, bel2 _ _ _⟩
      · rw [if_neg h3]
        have hb2 := bel2 w (.cells #[.int .i64 n, .slice A l.length c] 28) (.cells #[.func (.func 35) #[] #[.pointer (some ⟨w.heap.size, 0, none⟩)]] 46)
        have HH := containsRows_any 38 #[.pointer (some ⟨w.heap.size + 1, 0, none⟩)] eg (fun l => l.any (oddB n)) A c l _ (Kd.C_below hC hb2)
          (odds_fn w.heap.size (w.heap.size + 1) n _ (by simp; omega) (by simp) (pw_cell_below (bel1 _ _) (cell_new w _ _ 0)) (cell_new2 _ _ _ _ 0))
        have HB := Lib.hid hb2
        clear hC hb2
        generalize (l.any fun l => l.any (oddB n)) = r at *
        cases r
        all_goals
          go_enter Tryz.func16, Tryz.ntmps16
          go_wp2_with (go_at_call 37; refine HH.mono ?_; rintro e w' ⟨rfl, hb⟩)
          go_ret
          exact ⟨rfl, below_then HB.out HB.out.size hb⟩

set_option maxHeartbeats 1000000 in
set_option maxRecDepth 100000 in
theorem not_fn (B : Nat) (A : Option Addr) (c : Nat) (a : List Bool) (w : World) (hB : B < w.heap.size) (hc : w.cell? ⟨B, 0, none⟩ = some (.slice A a.length c)) (ha : Kd.C Kd.bool w A a.length a) :
    RowPred 39 #[.pointer (some ⟨B, 0, none⟩)] (fun l => !clauseB l a) w := by
  intro W A1 c1 l hb hC
  have hc' := (hb.cell (p := ⟨B, 0, none⟩) hB).trans hc
  have HH := Clause_any A1 c1 l A c a W hC (Kd.C_below ha hb)
  show Calls Tryz.prog 39 #[.slice A1 l.length c1, .pointer (some ⟨B, 0, none⟩)] W fun e w' => e = .returned (.bool (!clauseB l a)) ∧ Below W.heap.size W w'
  clear hc hb hC ha
  generalize clauseB l a = r at *
  generalize l.length = m at *
  generalize a.length = m2 at *
  go_enter Tryz.func39, Tryz.ntmps39
  go_wp2_with (go_at_call 10; refine HH.mono ?_; rintro e w' ⟨rfl, hb⟩)
  go_ret
  exact ⟨rfl, hb⟩

def trueB (l : List (List Int)) (a : List Bool) : Bool := !(l.any fun l => !clauseB l a)

set_option maxHeartbeats 1000000 in
set_option maxRecDepth 100000 in
theorem True_any (n : Int) (A : Option Addr) (c : Nat) (l : List (List Int)) (A1 : Option Addr) (c1 : Nat) (a : List Bool) (w : World) (hC : Kd.C kII w A l.length l) (ha : Kd.C Kd.bool w A1 a.length a) :
    Calls Tryz.prog 18 #[.agg #[.int .i64 n, .slice A l.length c], .slice A1 a.length c1] w fun e w' => e = .returned (.bool (trueB l a)) ∧ Below w.heap.size w w' := by
  have eg : ∀ args w, (callFunc 39 args).run Tryz.prog w = .ok (.enter 39 args) w := enters_of Tryz.func39 (by kernel_rfl) rfl
  have hm := C_max hC
  unfold trueB
  have hb2 := bel2 w (.cells #[.int .i64 n, .slice A l.length c] 28) (.cells #[.slice A1 a.length c1] 23)
  have HH := containsRows_any 39 #[.pointer (some ⟨w.heap.size + 1, 0, none⟩)] eg (fun l => !clauseB l a) A c l _ (Kd.C_below hC hb2)
    (not_fn (w.heap.size + 1) A1 c1 a _ (by simp) (cell_new2 _ _ _ _ 0) (Kd.C_below ha hb2))
  have HB := Lib.hid hb2
  clear hC hb2 ha
  generalize (l.any fun l => !clauseB l a) = r at *
  go_enter Tryz.func18, Tryz.ntmps18
  go_wp2_with (go_at_call 37; refine HH.mono ?_; rintro e w' ⟨rfl, hb⟩)
  go_ret
  exact ⟨rfl, below_then HB.out HB.out.size hb⟩
end Go.Proofs.YtjifancgekoenaaGreatDoor
