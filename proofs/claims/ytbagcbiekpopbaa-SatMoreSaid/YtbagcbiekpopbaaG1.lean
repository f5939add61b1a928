/- The kit of the walks: literals, rows, Bound, Check, Plain. -/
import Derived.Test.YtbagcbiekpopbaaProg
import Derived.Test.YtbagcbiekpopbaaWMore
import Derived.Shelf.SlicesE.IndexFunc
import Derived.Lib.Hide
import Derived.Lib.Builder
import Derived.Test.YtbagcbiekpopbaaShelf
import Derived.Laws.EntriesVeiled
import Derived.Shelf.SlSortCmp.Whole1
import Derived.Lib.SlicesCompact
namespace Go.Proofs.Ytbagcbiekpopbaa
open Go.RowKit Go.Proofs.YtbagcbiekpopbaaW.PrintWords Go.Proofs.YtbagcbiekpopbaaW.PrintLast
set_option linter.unusedVariables false
set_option linter.unusedSimpArgs false

/-- cnf.variable -/
def vari (x : Int) : Int := max 0 (if x < 0 then wrap64 (-x) else x)

theorem ret_int {k : IntKind} {a b : Int} (h : a = b) : Ending.returned (.int k a) = .returned (.int k b) := by rw [h]
theorem ret_bool {a b : Bool} (h : a = b) : Ending.returned (.bool a) = .returned (.bool b) := by rw [h]

set_option maxHeartbeats 1000000 in
set_option maxRecDepth 100000 in
theorem variable_any (x : Int) (w : World) : Calls Try.prog 29 #[.int .i64 x] w fun e w' => e = .returned (.int .i64 (vari x)) ∧ w = w' := by
  unfold vari
  by_cases h : x < 0
  · rw [if_pos h]
    go_enter Try.func29, Try.ntmps29
    go_wp2
    go_ret
    exact ⟨rfl, rfl⟩
  · rw [if_neg h]
    go_enter Try.func29, Try.ntmps29
    go_wp2
    go_ret
    exact ⟨rfl, rfl⟩

theorem C_max {α : Type} {d : Kd α} {w : World} {A : Option Addr} {n : Nat} {xs : List α} (h : d.C w A n xs) : n ≤ 9223372036854775807 := h.2.1

theorem spot_none {w : World} {a : Addr} {v : Value} (h : w.cell? a = some v) : a.spot = none := by
  unfold World.cell? at h
  split at h
  · split at h
    · simp at h
    · rename_i hs
      simpa using hs
  · simp at h
theorem add_spot {a : Addr} (h : a.spot = none) (j : Nat) : a.add j = ⟨a.block, a.off + j, none⟩ := by
  unfold Addr.add
  split
  · subst_vars
    cases a
    simp_all
  · rfl
/-- A row of whole numbers that is read: where it lies. -/
theorem C_ints {w : World} {k : IntKind} {A : Option Addr} {xs : List Int} (h : Kd.C (Kd.int k) w A xs.length xs) (hp : 0 < xs.length) : ∃ b off, A = some ⟨b, off, none⟩ ∧ ∀ j, j < xs.length → w.cell? ⟨b, off + j, none⟩ = some (.int k xs[j]!) := by
  obtain ⟨ad, e, hc⟩ := Kd.at_int h 0 (by omega) (by omega)
  have hs : ad.spot = none := by
    have := spot_none hc
    simpa [Addr.add] using this
  refine ⟨ad.block, ad.off, by rw [e]; cases ad; simp_all, fun j hj => ?_⟩
  obtain ⟨ad', e', hc'⟩ := Kd.at_int h (j : Int) (by omega) (by omega)
  obtain rfl : ad = ad' := Option.some.inj (e.symm.trans e')
  rw [add_spot hs] at hc'
  simp only [Int.toNat_natCast] at hc'
  rw [hc']
  simp [rd, List.getD_eq_getElem?_getD, List.getElem!_eq_getElem?_getD]

theorem cell_new (w : World) (cs : Array Value) (t : TypeId) (j : Nat) : (w.alloc (.cells cs t)).cell? ⟨w.heap.size, j, none⟩ = cs[j]? := Lib.cell_of_heap (heap_alloc_new w _) j
end Go.Proofs.Ytbagcbiekpopbaa

namespace Go.Proofs.Ytbagcbiekpopbaa
open Go.RowKit Go.Lib Go.Proofs.YtbagcbiekpopbaaW.PrintWords Go.Proofs.YtbagcbiekpopbaaW.PrintLast
set_option linter.unusedVariables false
set_option linter.unusedSimpArgs false

abbrev kI : Kd Int := Kd.int .i64
abbrev kII : Kd (List Int) := Kd.slice 3 (Kd.int .i64)

/-- A row of rows of whole numbers: where it lies. -/
theorem C_rows {w : World} {A : Option Addr} {n : Nat} {xs : List (List Int)} (h : Kd.C kII w A n xs) (hp : 0 < n) : ∃ b off, A = some ⟨b, off, none⟩ ∧ b < w.heap.size ∧
    ∀ j, j < n → ∃ A1 c1, w.cell? ⟨b, off + j, none⟩ = some (.slice A1 xs[j]!.length c1) ∧ xs[j]!.length ≤ c1 ∧ Kd.C kI w A1 xs[j]!.length xs[j]! := by
  have key : ∀ j : Nat, j < n → ∃ ad A1 c1, A = some ad ∧ ad.spot = none ∧ w.cell? (ad.add j) = some (.slice A1 xs[j]!.length c1) ∧ xs[j]!.length ≤ c1 ∧ Kd.C kI w A1 xs[j]!.length xs[j]! := by
    intro j hj
    obtain ⟨ad, c, e, hcl, ⟨A1, c1, rfl, hl, hC⟩, hcc⟩ := Kd.C_get h [] (j : Int) (by omega) (by omega)
    have h1 := hcc 0 _ rfl
    have e1 : xs.getD (j : Int).toNat [] = xs[j]! := by simp [List.getD_eq_getElem?_getD, List.getElem!_eq_getElem?_getD]; rfl
    rw [e1] at h1 hl hC
    have e2 : ((j : Int).toNat * kII.sz + 0) = j := by show ((j : Int).toNat * 1 + 0) = j; simp
    rw [e2] at h1
    have hs : ad.spot = none := by
      have h0 := spot_none h1
      unfold Addr.add at h0
      split at h0
      · exact h0
      · obtain ⟨ad', c', e', hcl', ⟨A1', c1', rfl, hl', hC'⟩, hcc'⟩ := Kd.C_get h [] (0 : Int) (by omega) (by omega)
        obtain rfl : ad = ad' := Option.some.inj (e.symm.trans e')
        have h2 := spot_none (hcc' 0 _ rfl)
        simpa [Addr.add] using h2
    exact ⟨ad, A1, c1, e, hs, h1, hl, hC⟩
  obtain ⟨ad, A1, c1, rfl, hs, h1, _⟩ := key 0 hp
  have hb := World.block_lt_of_cell? w _ h1
  rw [add_spot hs] at hb
  refine ⟨ad.block, ad.off, by cases ad; simp_all, hb, fun j hj => ?_⟩
  obtain ⟨ad', A1', c1', e', hs', h1', hl', hC'⟩ := key j hj
  obtain rfl : ad = ad' := Option.some.inj e'
  rw [add_spot hs] at h1'
  exact ⟨A1', c1', h1', hl', hC'⟩

/-- slices.IndexFunc at rows: 'p' is what the function value says of a row. -/
def RowPred (g : Nat) (cb : Array Value) (p : List Int → Bool) (w : World) : Prop :=
  ∀ (W : World) (A : Option Addr) (c : Nat) (l : List Int), Below w.heap.size w W → Kd.C kI W A l.length l → Calls Try.prog g (#[.slice A l.length c] ++ cb) W fun e w' => e = .returned (.bool (p l)) ∧ Below W.heap.size W w'

set_option maxHeartbeats 1000000 in
set_option maxRecDepth 100000 in
theorem indexRows_any (g : Nat) (cb : Array Value) (eg : ∀ args w, (callFunc g args).run Try.prog w = .ok (.enter g args) w) (p : List Int → Bool) (A : Option Addr) (c : Nat) (xs : List (List Int)) (w : World)
    (hC : Kd.C kII w A xs.length xs) (hp : RowPred g cb p w) :
    Calls Try.prog 45 #[.slice A xs.length c, .func (.func g) #[] cb] w fun e w' => (∃ i : Int, e = .returned (.int .i64 i) ∧ decide (0 ≤ i) = xs.any p) ∧ Below w.heap.size w w' := by
  have hm := C_max hC
  have HP : Aside0 (RowPred g cb p w) := ⟨hp⟩
  have HC : Aside0 (Kd.C kII w A xs.length xs) := ⟨hC⟩
  clear hp hC
  obtain ⟨n, hn⟩ : ∃ n, xs.length = n := ⟨_, rfl⟩
  have HN : Aside0 (xs.length = n) := ⟨hn⟩
  rw [hn] at HC hm ⊢
  clear hn
  go_enter Try.func45, Try.ntmps45
  go_wp2
  go_loopg [5, 8] n (fun gg _ s8 wr => ∃ kk : Nat, kk ≤ n ∧ n - kk ≤ gg ∧ s8 = .int .i64 kk ∧ Aside0 (Below w.heap.size w wr) ∧ Aside0 (∀ j, j < kk → p xs[j]! = false))
  case atStart => exact ⟨0, Nat.zero_le _, by omega, rfl, ⟨Below.refl _ _⟩, ⟨fun j hj => absurd hj (Nat.not_lt_zero _)⟩⟩
  case round =>
    obtain ⟨kk, hkk, hg, rfl, HB, HF⟩ := hrel
    by_cases hlt : kk < n
    · have hltz : (kk : Int) < (n : Int) := by omega
      obtain ⟨b, off, rfl, hbl, hcs⟩ := C_rows HC.out (by omega)
      obtain ⟨A1, c1, hc1, hl1, hC1⟩ := hcs kk hlt
      have hcell := (HB.out.cell (World.block_lt_of_cell? w _ hc1)).trans hc1
      have hcall := HP.out wr A1 c1 xs[kk]! HB.out (Kd.C_below hC1 HB.out)
      have HK : Aside0 (xs[kk]! = xs[kk]!) := ⟨rfl⟩
      generalize hy : xs[kk]! = y at hcell hcall
      have B : Aside0 (xs[kk]! = y) := ⟨hy⟩
      clear hy hcs hc1 hl1 hC1 hbl
      generalize y.length = m at hcell hcall
      cases hq : p y with
      | true =>
        have HQ : Aside0 (p y = true) := ⟨hq⟩
        rw [hq] at hcall
        clear hq
        go_wp2_with (go_at_fn g; refine (hcall).mono ?_; rintro e w' ⟨rfl, hb1⟩)
        go_ret
        refine ⟨⟨_, rfl, ?_⟩, below_then HB.out HB.out.size hb1⟩
        rw [show decide ((0 : Int) ≤ (kk : Int)) = true from by simp]
        symm
        rw [List.any_eq_true]
        refine ⟨y, ?_, HQ.out⟩
        have h1 := B.out
        have h2 := HN.out
        rw [getElem!_pos xs kk (by omega)] at h1
        rw [← h1]
        exact List.getElem_mem _
      | false =>
        have HQ : Aside0 (p y = false) := ⟨hq⟩
        rw [hq] at hcall
        clear hq
        go_wp2_with (go_at_fn g; refine (hcall).mono ?_; rintro e w' ⟨rfl, hb1⟩)
        have HB1 : Aside0 (Below wr.heap.size wr w') := ⟨hb1⟩
        clear hb1
        go_roundg (n - (kk + 1))
        case measure => omega
        case rel =>
          refine ⟨kk + 1, by omega, by omega, by go_num, ⟨below_then HB.out HB.out.size HB1.out⟩, ⟨fun j hj => ?_⟩⟩
          by_cases e : j = kk
          · subst e
            rw [B.out]; exact HQ.out
          · exact HF.out j (by omega)
    · have hltz : ¬ (kk : Int) < (n : Int) := by omega
      obtain rfl : kk = n := by omega
      go_wp2
      go_ret
      refine ⟨⟨_, rfl, ?_⟩, HB.out⟩
      symm
      rw [show decide ((0 : Int) ≤ -1) = false from by decide]
      rw [List.any_eq_false]
      intro x hx
      obtain ⟨j, hj, rfl⟩ := List.getElem_of_mem hx
      have := HF.out j (by have := HN.out; omega)
      rw [getElem!_pos xs j hj] at this
      simp [this]

set_option maxHeartbeats 1000000 in
set_option maxRecDepth 100000 in
theorem containsRows_any (g : Nat) (cb : Array Value) (eg : ∀ args w, (callFunc g args).run Try.prog w = .ok (.enter g args) w) (p : List Int → Bool) (A : Option Addr) (c : Nat) (xs : List (List Int)) (w : World)
    (hC : Kd.C kII w A xs.length xs) (hp : RowPred g cb p w) :
    Calls Try.prog 30 #[.slice A xs.length c, .func (.func g) #[] cb] w fun e w' => e = .returned (.bool (xs.any p)) ∧ Below w.heap.size w w' := by
  have HI := indexRows_any g cb eg p A c xs w hC hp
  clear hC hp
  generalize xs.any p = r at *
  generalize xs.length = n at *
  go_enter Try.func30, Try.ntmps30
  go_wp2_with (go_at_call 45; refine HI.mono ?_; rintro e w' ⟨⟨i, rfl, rfl⟩, hb⟩)
  go_ret
  exact ⟨by simp, hb⟩

def oddB (n x : Int) : Bool := decide (vari x < 1) || decide (n < vari x)
set_option maxHeartbeats 1000000 in
set_option maxRecDepth 100000 in
theorem odd_fn (B : Nat) (n : Int) (w : World) (hB : B < w.heap.size) (hc : w.cell? ⟨B, 0, none⟩ = some (.int .i64 n)) :
    PredAt Try.prog 28 #[.pointer (some ⟨B, 0, none⟩)] (Value.int .i64) (fun x => oddB n x) w := by
  intro W x hb
  have hc' := (hb.cell (p := ⟨B, 0, none⟩) hB).trans hc
  have HV := fun W => variable_any x W
  show FnGives Try.prog 28 #[.pointer (some ⟨B, 0, none⟩)] #[.int .i64 x] (.bool (oddB n x)) W
  clear hc hb
  unfold oddB
  generalize vari x = v at *
  unfold FnGives
  by_cases h1 : v < 1
  · have hd : decide (v < 1) = true := by simpa using h1
    rw [hd]
    go_enter Try.func28, Try.ntmps28
    go_wp2
    go_quiet ((go_at_call 29; exact Calls.quiet_of_same ((HV _).mono fun _ _ ⟨h1, h2⟩ => ⟨h1, h2.symm⟩)))
    go_wp2
    go_ret
    exact ⟨rfl, _, rfl⟩
  · have hd : decide (v < 1) = false := by simpa using h1
    rw [hd]
    go_enter Try.func28, Try.ntmps28
    go_wp2
    go_quiet ((go_at_call 29; exact Calls.quiet_of_same ((HV _).mono fun _ _ ⟨h1, h2⟩ => ⟨h1, h2.symm⟩)))
    go_wp2
    go_ret
    exact ⟨rfl, _, rfl⟩

set_option maxHeartbeats 1000000 in
set_option maxRecDepth 100000 in
theorem odds_fn (B D : Nat) (n : Int) (w : World) (hB : B < w.heap.size) (hD : D < w.heap.size) (hc : w.cell? ⟨B, 0, none⟩ = some (.int .i64 n))
    (hd : w.cell? ⟨D, 0, none⟩ = some (.func (.func 28) #[] #[.pointer (some ⟨B, 0, none⟩)])) :
    RowPred 31 #[.pointer (some ⟨D, 0, none⟩)] (fun l => l.any (oddB n)) w := by
  intro W A c l hb hC
  have hd' := (hb.cell (p := ⟨D, 0, none⟩) hD).trans hd
  have hc' := (hb.cell (p := ⟨B, 0, none⟩) hB).trans hc
  have eg : ∀ args w, (callFunc 28 args).run Try.prog w = .ok (.enter 28 args) w := enters_of Try.func28 (by kernel_rfl) rfl
  have hP := odd_fn B n W (Nat.lt_of_lt_of_le hB hb.size) hc'
  have HH : Calls Try.prog 32 #[.slice A l.length c, .func (.func 28) #[] #[.pointer (some ⟨B, 0, none⟩)]] W fun e w' => e = .returned (.bool (l.any (oddB n))) ∧ ∃ q, w' = W.drewN q := by
    by_cases hp : 0 < l.length
    · obtain ⟨b, off, rfl, hcc⟩ := C_ints hC hp
      have HH := AnyE.slices_ContainsFunc Try.contI (Value.int .i64) (fun x => oddB n x) 28 #[.pointer (some ⟨B, 0, none⟩)] eg b off l.length c l W hP (Nat.le_refl _) (C_max hC) hcc
      rw [List.take_length] at HH
      exact HH
    · obtain rfl : l = [] := List.eq_nil_of_length_eq_zero (by omega)
      exact (AnyE.slices_ContainsFunc_empty Try.contI A c _ W).mono fun _ _ ⟨h1, h2⟩ => ⟨h1, 0, h2⟩
  show Calls Try.prog 31 #[.slice A l.length c, .pointer (some ⟨D, 0, none⟩)] W fun e w' => e = .returned (.bool (l.any (oddB n))) ∧ Below W.heap.size W w'
  clear hc hd hb hC hP hc'
  generalize l.any (oddB n) = r at *
  generalize l.length = m at *
  go_enter Try.func31, Try.ntmps31
  go_wp2_with (go_at_call 32; refine HH.mono ?_; rintro e w' ⟨rfl, q, rfl⟩)
  go_ret
  exact ⟨rfl, pw_below_drewN (Below.refl _ _) _⟩

theorem cell_new2 (w : World) (a : Obj) (cs : Array Value) (t : TypeId) (j : Nat) : ((w.alloc a).alloc (.cells cs t)).cell? ⟨w.heap.size + 1, j, none⟩ = cs[j]? := by
  have := cell_new (w.alloc a) cs t j
  rwa [show (w.alloc a).heap.size = w.heap.size + 1 from by simp] at this
theorem bel1 (w : World) (a : Obj) : Below w.heap.size w (w.alloc a) := (Below.refl _ _).alloc (Nat.le_refl _) _
theorem bel2 (w : World) (a b : Obj) : Below w.heap.size w ((w.alloc a).alloc b) := ((Below.refl _ _).alloc (Nat.le_refl _) _).alloc (by simp) _
theorem bel3 (w : World) (a b c : Obj) : Below w.heap.size w (((w.alloc a).alloc b).alloc c) := (bel2 w a b).alloc (by simp; omega) _

def checkI (n : Int) (l : List (List Int)) : Int :=
  if n < 0 then 130 else if 1048576 < n then 2 else if 1048576 < (l.length : Int) then 2 else if l.any (fun l => l.any (oddB n)) then 130 else 0

set_option maxHeartbeats 1000000 in
set_option maxRecDepth 100000 in
theorem Check_any (n : Int) (A : Option Addr) (c : Nat) (l : List (List Int)) (w : World) (hC : Kd.C kII w A l.length l) :
    Calls Try.prog 17 #[.agg #[.int .i64 n, .slice A l.length c]] w fun e w' => e = .returned (.int .i64 (checkI n l)) ∧ Below w.heap.size w w' := by
  have eg : ∀ args w, (callFunc 31 args).run Try.prog w = .ok (.enter 31 args) w := enters_of Try.func31 (by kernel_rfl) rfl
  have hm := C_max hC
  unfold checkI
  by_cases h1 : n < 0
  · rw [if_pos h1]
    clear hC
    go_enter Try.func17, Try.ntmps17
    go_wp2
    go_ret
    exact ⟨rfl, bel2 _ _ _⟩
  · rw [if_neg h1]
    by_cases h2 : 1048576 < n
    · rw [if_pos h2]
      clear hC
      go_enter Try.func17, Try.ntmps17
      go_wp2
      go_ret
      exact ⟨rfl, bel2 _ _ _⟩
    · rw [if_neg h2]
      by_cases h3 : 1048576 < (l.length : Int)
      · rw [if_pos h3]
        clear hC
        go_enter Try.func17, Try.ntmps17
        go_wp2
        go_ret
        exact ⟨rfl, bel2 _ _ _⟩
      · rw [if_neg h3]
        have hb2 := bel2 w (.cells #[.int .i64 n, .slice A l.length c] 24) (.cells #[.func (.func 28) #[] #[.pointer (some ⟨w.heap.size, 0, none⟩)]] 49)
        have HH := containsRows_any 31 #[.pointer (some ⟨w.heap.size + 1, 0, none⟩)] eg (fun l => l.any (oddB n)) A c l _ (Kd.C_below hC hb2)
          (odds_fn w.heap.size (w.heap.size + 1) n _ (by simp; omega) (by simp) (pw_cell_below (bel1 _ _) (cell_new w _ _ 0)) (cell_new2 _ _ _ _ 0))
        have HB := Lib.hid hb2
        clear hC hb2
        generalize (l.any fun l => l.any (oddB n)) = r at *
        cases r
        all_goals
          go_enter Try.func17, Try.ntmps17
          go_wp2_with (go_at_call 30; refine HH.mono ?_; rintro e w' ⟨rfl, hb⟩)
          go_ret
          exact ⟨rfl, below_then HB.out HB.out.size hb⟩

theorem C_of_cells {w : World} {b off : Nat} {k : IntKind} {xs : List Int} (hm : xs.length ≤ 9223372036854775807) (h : ∀ j x, xs[j]? = some x → w.cell? ⟨b, off + j, none⟩ = some (.int k x)) : Kd.C (Kd.int k) w (some ⟨b, off, none⟩) xs.length xs := by
  refine ⟨rfl, hm, fun _ => ⟨_, rfl, fun j p hj => ⟨[.int k p], rfl, rfl, fun i u hi => ?_⟩⟩⟩
  match i, hi with
  | 0, hi =>
    simp only [List.getElem?_cons_zero, Option.some.injEq] at hi
    subst hi
    have e : j * (Kd.int k).sz + 0 = j := by show j * 1 + 0 = j; omega
    rw [e, add_spot rfl]
    exact h j p hj
theorem blk_frozen {w : World} {b : Nat} {cs : Array Value} {T : TypeId} (hb : w.heap[b]? = some (.cells cs T (0, 0))) (j : Nat) : w.frozen? ⟨b, j, none⟩ = false := by simp [World.frozen?, hb]
theorem blk_cellA {w : World} {b : Nat} {cs : Array Value} {T : TypeId} (hb : w.heap[b]? = some (.cells cs T (0, 0))) (j : Nat) : w.cell? ⟨b, j, none⟩ = cs[j]? := by simp [World.cell?, hb]
theorem below_blk {w w' : World} {b : Nat} {o : Obj} (hb : w.heap[b]? = some o) (h : Below w.heap.size w w') : w'.heap[b]? = some o := by
  have hlt : b < w.heap.size := by
    rcases Nat.lt_or_ge b w.heap.size with h' | h'
    · exact h'
    · rw [Array.getElem?_eq_none h'] at hb; cases hb
  exact (h.block b hlt).trans hb

theorem set2 {w : World} {b : Nat} {x y : Value} {T : TypeId} (hb : w.heap[b]? = some (.cells #[x, y] T (0, 0))) (u v : Value) : ((w.setCell ⟨b, 0, none⟩ u).setCell ⟨b, 1, none⟩ v).heap[b]? = some (.cells #[u, v] T (0, 0)) := by
  simp [World.setCell, Array.getElem?_modify, hb]
theorem set2_below {w W : World} {B b : Nat} (h : Below B w W) (hB : B ≤ b) (u v : Value) : Below B w ((W.setCell ⟨b, 0, none⟩ u).setCell ⟨b, 1, none⟩ v) :=
  (h.setCell (p := ⟨b, 0, none⟩) hB _).setCell (p := ⟨b, 1, none⟩) hB _
theorem set2_other {w : World} {b : Nat} {x y : Value} (hb : w.heap[b]? = some (.cells #[x, y] 24 (0, 0))) (u v : Value) : ∀ k : Nat, (∃ cells t, w.heap[k]? = some (.cells cells t (0, 0)) ∧ t ≠ 24) → ((w.setCell ⟨b, 0, none⟩ u).setCell ⟨b, 1, none⟩ v).heap[k]? = w.heap[k]? := by
  rintro k ⟨cells, t, hk, ht⟩
  have hne : k ≠ b := by
    rintro rfl
    rw [hb] at hk
    injection hk with hk
    injection hk with _ h2
    exact ht h2.symm
  rw [Below.heap_setCell _ ⟨b, 1, none⟩ v k hne, Below.heap_setCell _ ⟨b, 0, none⟩ u k hne]
theorem type_ne {w : World} {base e n b : Nat} {v : Value} {xs cs : List Value} {T : Nat} {cells : Array Value} (hv : w.ownsRow base e 1 v n xs) (hb : w.heap[b]? = some (.cells cells T (0, 0))) (hne : T ≠ e) : some b ≠ v.ownBlock := by
  intro he
  obtain ⟨cells', hc⟩ := own_typed hv b he.symm
  rw [hb] at hc
  injection hc with hc
  injection hc with _ h2
  exact hne h2
theorem set1 {w : World} {b : Nat} {x y : Value} {T : TypeId} (hb : w.heap[b]? = some (.cells #[x, y] T (0, 0))) (v : Value) : (w.setCell ⟨b, 1, none⟩ v).heap[b]? = some (.cells #[x, v] T (0, 0)) := by
  simp [World.setCell, Array.getElem?_modify, hb]
theorem infoI : (Try.prog.info? 3).map (fun i => (i.zero, i.size, i.bytes)) = some (some (.int .i64 0), 1, 8) := by kernel_rfl
theorem infoII : (Try.prog.info? 37).map (fun i => (i.zero, i.size, i.bytes)) = some (some (.slice none 0 0), 1, 24) := by kernel_rfl

end Go.Proofs.Ytbagcbiekpopbaa

namespace Go.Proofs.Ytbagcbiekpopbaa
open Go.RowKit Go.Proofs.YtbagcbiekpopbaaW.PrintWords Go.Proofs.YtbagcbiekpopbaaW.PrintLast
open Go.Sort (grow cell?_grow heap_grow_old)
set_option linter.unusedVariables false
set_option linter.unusedSimpArgs false

/-- cnf.size -/
def sizeU (x : Int) : Int := if x < 0 then IntKind.u64.wrap (-(IntKind.u64.wrap x)) else IntKind.u64.wrap x
set_option maxHeartbeats 1000000 in
set_option maxRecDepth 100000 in
theorem size_any (x : Int) (w : World) : Calls Try.prog 51 #[.int .i64 x] w fun e w' => e = .returned (.int .u64 (sizeU x)) ∧ w = w' := by
  unfold sizeU
  by_cases h : x < 0
  · rw [if_pos h]
    go_enter Try.func51, Try.ntmps51
    go_wp2
    go_ret
    exact ⟨rfl, rfl⟩
  · rw [if_neg h]
    go_enter Try.func51, Try.ntmps51
    go_wp2
    go_ret
    exact ⟨rfl, rfl⟩
set_option maxHeartbeats 1000000 in
set_option maxRecDepth 100000 in
theorem nanU_any (x : Int) (w : World) : Calls Try.prog 58 #[.int .u64 x] w fun e w' => e = .returned (.bool false) ∧ w = w' := by
  go_enter Try.func58, Try.ntmps58
  go_wp2
  go_ret
  exact ⟨by simp, rfl⟩
def cmpI (x y : Int) : Int := if x < y then -1 else if y < x then 1 else 0
set_option maxHeartbeats 1000000 in
set_option maxRecDepth 100000 in
theorem cmpU_any (x y : Int) (w : World) : Calls Try.prog 50 #[.int .u64 x, .int .u64 y] w fun e w' => e = .returned (.int .i64 (cmpI x y)) ∧ w = w' := by
  unfold cmpI
  by_cases h : x < y
  · rw [if_pos h]
    go_enter Try.func50, Try.ntmps50
    go_wp2_with (go_at_call 58; refine (nanU_any _ _).mono ?_; rintro e w' ⟨rfl, rfl⟩)
    go_ret
    exact ⟨rfl, rfl⟩
  · rw [if_neg h]
    by_cases h2 : y < x
    · rw [if_pos h2]
      go_enter Try.func50, Try.ntmps50
      go_wp2_with (go_at_call 58; refine (nanU_any _ _).mono ?_; rintro e w' ⟨rfl, rfl⟩)
      go_ret
      exact ⟨rfl, rfl⟩
    · rw [if_neg h2]
      go_enter Try.func50, Try.ntmps50
      go_wp2_with (go_at_call 58; refine (nanU_any _ _).mono ?_; rintro e w' ⟨rfl, rfl⟩)
      go_ret
      exact ⟨rfl, rfl⟩
theorem cmpI_any (x y : Int) (w : World) : Calls Try.prog 52 #[.int .i64 x, .int .i64 y] w fun e w' => e = .returned (.int .i64 (cmpI x y)) ∧ w = w' := by
  refine (Try.cmp_Compare_int x y w).mono ?_
  rintro e w' ⟨h1, h2⟩
  exact ⟨h1, h2.symm⟩
def orI (a b : Int) : Int := if a = 0 then b else a
set_option maxHeartbeats 1000000 in
set_option maxRecDepth 100000 in
theorem or_any (a b : Int) (w : World) (g : Nat) (h0 : w.cell? ⟨g, 0, none⟩ = some (.int .i64 a)) (h1 : w.cell? ⟨g, 1, none⟩ = some (.int .i64 b)) :
    Calls Try.prog 49 #[.slice (some ⟨g, 0, none⟩) 2 2] w fun e w' => e = .returned (.int .i64 (orI a b)) ∧ w = w' := by
  have HR : Aside0 (∀ v, (a ≠ 0 → v = a) → (a = 0 → v = b) → v = orI a b) := ⟨fun v h1 h2 => by unfold orI; split <;> first | exact h2 ‹_› | exact h1 ‹_›⟩
  go_enter Try.func49, Try.ntmps49
  go_wp2
  go_loopg [8] 2 (fun gg s8 wr => ∃ kk : Nat, kk ≤ 2 ∧ 2 - kk ≤ gg ∧ s8 = .int .i64 kk ∧ wr = w ∧ Aside0 (1 ≤ kk → a = 0) ∧ Aside0 (2 ≤ kk → b = 0))
  case atStart => exact ⟨0, by omega, by omega, rfl, rfl, ⟨by omega⟩, ⟨by omega⟩⟩
  case round =>
    obtain ⟨kk, hkk, hg, rfl, rfl, HA, HB⟩ := hrel
    match kk, hkk with
    | 0, _ =>
      by_cases ha : a = 0
      · have ha1 : (a == 0) = true := by simpa using ha
        have ha2 : (a != 0) = false := by simpa using ha
        have HZ : Aside0 (a = 0) := ⟨ha⟩
        clear ha
        go_wp2
        go_roundg 1
        case measure => omega
        case rel => exact ⟨1, by omega, by omega, by go_num, rfl, ⟨fun _ => HZ.out⟩, ⟨by omega⟩⟩
      · have ha1 : (a == 0) = false := by simpa using ha
        have ha2 : (a != 0) = true := by simpa using ha
        have HZ : Aside0 (¬ a = 0) := ⟨ha⟩
        clear ha
        go_wp2
        go_ret
        exact ⟨ret_int (HR.out _ (fun _ => rfl) (fun h => absurd h HZ.out)), rfl⟩
    | 1, _ =>
      by_cases hb : b = 0
      · have ha1 : (b == 0) = true := by simpa using hb
        have ha2 : (b != 0) = false := by simpa using hb
        have HZ : Aside0 (b = 0) := ⟨hb⟩
        clear hb
        go_wp2
        go_roundg 0
        case measure => omega
        case rel => exact ⟨2, by omega, by omega, by go_num, rfl, ⟨fun _ => HA.out (by omega)⟩, ⟨fun _ => HZ.out⟩⟩
      · have ha1 : (b == 0) = false := by simpa using hb
        have ha2 : (b != 0) = true := by simpa using hb
        clear hb
        go_wp2
        go_ret
        exact ⟨ret_int (HR.out _ (fun h => absurd (HA.out (by omega)) h) (fun _ => rfl)), rfl⟩
    | 2, _ =>
      go_wp2
      go_ret
      exact ⟨ret_int (HR.out _ (fun h => absurd (HA.out (by omega)) h) (fun _ => (HB.out (by omega)).symm)), rfl⟩
/-- The order of literals. -/
def litC (x y : Int) : Int := orI (cmpI (sizeU x) (sizeU y)) (cmpI y x)
set_option maxHeartbeats 1000000 in
set_option maxRecDepth 100000 in
theorem plain_cmp (x y : Int) (w : World) : Calls Try.prog 48 #[.int .i64 x, .int .i64 y] w fun e w' => e = .returned (.int .i64 (litC x y)) ∧ ∃ q os, w' = grow (w.drewN q) os := by
  have H1 := size_any x w
  have H2 := size_any y w
  have H3 := cmpU_any (sizeU x) (sizeU y) w
  have H4 := cmpI_any y x w
  unfold litC
  generalize cmpI y x = b at *
  generalize cmpI (sizeU x) (sizeU y) = a at *
  generalize sizeU x = sx at *
  generalize sizeU y = sy at *
  go_enter Try.func48, Try.ntmps48
  go_wp2_with fail
  refine H1.mono ?_
  rintro e w' ⟨rfl, rfl⟩
  go_wp2_with fail
  refine H2.mono ?_
  rintro e w' ⟨rfl, rfl⟩
  go_wp2_with fail
  refine H3.mono ?_
  rintro e w' ⟨rfl, rfl⟩
  go_wp2_with fail
  refine H4.mono ?_
  rintro e w' ⟨rfl, rfl⟩
  go_wp2_with fail
  refine (or_any a b _ w.heap.size (cell_new w #[.int .i64 a, .int .i64 b] 3 0) (cell_new w #[.int .i64 a, .int .i64 b] 3 1)).mono ?_
  rintro e w' ⟨rfl, rfl⟩
  go_wp2
  go_ret
  exact ⟨rfl, 0, _, Go.Sort.alloc_eq_grow _ _⟩
end Go.Proofs.Ytbagcbiekpopbaa

namespace Go.Proofs.Ytbagcbiekpopbaa
open Go.RowKit Go.Proofs.YtbagcbiekpopbaaW.PrintWords Go.Proofs.YtbagcbiekpopbaaW.PrintLast
open Go.Sort (grow cell?_grow heap_grow_old)
set_option linter.unusedVariables false
set_option linter.unusedSimpArgs false

/-- Of two literals the one that stands ahead. -/
def LtL (x y : Int) : Prop := sizeU x < sizeU y ∨ sizeU x = sizeU y ∧ y < x
instance (x y : Int) : Decidable (LtL x y) := by unfold LtL; exact inferInstance
theorem litC_lt (x y : Int) : Go.Proofs.ltOf litC x y = decide (LtL x y) := by
  unfold Go.Proofs.ltOf
  rw [decide_eq_decide]
  unfold litC LtL orI cmpI
  generalize sizeU x = a
  generalize sizeU y = b
  by_cases h1 : a < b
  · simp [h1]
  · by_cases h2 : b < a
    · have : ¬ a = b := by omega
      simp [h1, h2, this]
    · have : a = b := by omega
      subst this
      by_cases h3 : y < x
      · simp [h3]
      · by_cases h4 : x < y <;> simp [h3, h4]
theorem LtL.irrefl (x : Int) : ¬ LtL x x := by unfold LtL; omega
theorem LtL.trans {x y z : Int} (h1 : LtL x y) (h2 : LtL y z) : LtL x z := by unfold LtL at *; omega
theorem LtL.tri {x y : Int} (h1 : ¬ LtL x y) (h2 : ¬ LtL y x) : x = y := by unfold LtL at *; omega
theorem swo_lit : Go.Sort.SWO (Go.Proofs.ltOf litC) where
  irrefl x := by rw [litC_lt]; simp [LtL.irrefl]
  trans x y z := by rw [litC_lt, litC_lt, litC_lt]; simp only [decide_eq_true_eq]; exact LtL.trans
  ntrans x y z := by rw [litC_lt, litC_lt, litC_lt]; simp only [decide_eq_false_iff_not]; unfold LtL; omega

/-- A clause in order, each number once. -/
structure IsPlain (l p : List Int) : Prop where
  mem : ∀ x, x ∈ p ↔ x ∈ l
  ord : p.Pairwise LtL
theorem strict_unique : ∀ (p q : List Int), p.Pairwise LtL → q.Pairwise LtL → (∀ x, x ∈ p ↔ x ∈ q) → p = q
  | [], [], _, _, _ => rfl
  | [], y :: q, _, _, h => absurd ((h y).2 (by simp)) (by simp)
  | x :: p, [], _, _, h => absurd ((h x).1 (by simp)) (by simp)
  | x :: p, y :: q, hp, hq, h => by
    rw [List.pairwise_cons] at hp hq
    have e : x = y := by
      rcases List.mem_cons.1 ((h x).1 (by simp)) with e | e
      · exact e
      rcases List.mem_cons.1 ((h y).2 (by simp)) with e2 | e2
      · exact e2.symm
      · exact absurd ((hq.1 _ e).trans (hp.1 _ e2)) (LtL.irrefl _)
    subst e
    rw [strict_unique p q hp.2 hq.2 (fun z => ?_)]
    constructor
    · intro hz
      rcases List.mem_cons.1 ((h z).1 (by simp [hz])) with e | e
      · subst e; exact absurd (hp.1 _ hz) (LtL.irrefl _)
      · exact e
    · intro hz
      rcases List.mem_cons.1 ((h z).2 (by simp [hz])) with e | e
      · subst e; exact absurd (hq.1 _ hz) (LtL.irrefl _)
      · exact e
theorem IsPlain.unique {l p q : List Int} (h : IsPlain l p) (k : IsPlain l q) : p = q := strict_unique p q h.ord k.ord (fun x => (h.mem x).trans (k.mem x).symm)
theorem IsPlain.again {l p : List Int} (h : IsPlain l p) : IsPlain p p := ⟨fun _ => Iff.rfl, h.ord⟩

theorem compact_plain (d : Array Int) (h : ∀ i j, i < j → j < d.size → ¬ LtL d[j]! d[i]!) : ∀ m, m ≤ d.size →
    (∀ x, x ∈ Lib.compactUpTo d m ↔ ∃ j, j < m ∧ d[j]! = x) ∧ (Lib.compactUpTo d m).Pairwise LtL := by
  intro m
  induction m with
  | zero => intro _; exact ⟨fun x => by simp [Lib.compactUpTo], by simp [Lib.compactUpTo]⟩
  | succ m ih =>
    intro hm
    obtain ⟨i1, i2⟩ := ih (by omega)
    rw [Lib.compactUpTo_succ]
    by_cases hk : m = 0 ∨ d[m]! ≠ d[m - 1]!
    · have hk' : Lib.keeps d m = true := by simp [Lib.keeps]; simpa using hk
      rw [hk', if_pos rfl]
      refine ⟨fun x => ?_, ?_⟩
      · rw [List.mem_append, i1]
        constructor
        · rintro (⟨j, hj, e⟩ | e)
          · exact ⟨j, by omega, e⟩
          · simp at e; exact ⟨m, by omega, e.symm⟩
        · rintro ⟨j, hj, e⟩
          rcases Nat.lt_or_ge j m with h1 | h1
          · exact .inl ⟨j, h1, e⟩
          · obtain rfl : j = m := by omega
            exact .inr (by simp [e])
      · rw [List.pairwise_append]
        refine ⟨i2, by simp, fun x hx y hy => ?_⟩
        simp only [List.mem_cons, List.not_mem_nil, or_false] at hy
        subst hy
        obtain ⟨j, hj, rfl⟩ := (i1 x).1 hx
        have a1 := h j m hj (by omega)
        rcases Decidable.em (LtL d[j]! d[m]!) with h2 | h2
        · exact h2
        · have e := LtL.tri h2 a1
          rcases hk with h3 | h3
          · omega
          · have a2 := h (m - 1) m (by omega) (by omega)
            rcases Nat.lt_or_ge j (m - 1) with h4 | h4
            · have a3 := h j (m - 1) h4 (by omega)
              rw [e] at a3
              exact absurd (LtL.tri a2 a3) h3
            · obtain rfl : j = m - 1 := by omega
              exact absurd e.symm h3
    · have hk' : Lib.keeps d m = false := by simp [Lib.keeps]; simpa using hk
      rw [hk']
      simp only [Bool.false_eq_true, if_false, List.append_nil]
      refine ⟨fun x => ?_, i2⟩
      rw [i1]
      constructor
      · rintro ⟨j, hj, e⟩
        exact ⟨j, by omega, e⟩
      · rintro ⟨j, hj, e⟩
        rcases Nat.lt_or_ge j m with h1 | h1
        · exact ⟨j, h1, e⟩
        · obtain rfl : j = m := by omega
          have h0 : ¬ j = 0 := fun z => hk (.inl z)
          have h1 : d[j]! = d[j - 1]! := Decidable.byContradiction fun z => hk (.inr z)
          exact ⟨j - 1, by omega, by rw [← h1, e]⟩
theorem sorted_plain (l : List Int) (d : Array Int) (hp : Go.Sort.PermIn 0 l.toArray.size l.toArray d) (hs : Go.Sort.SortedIn (Go.Proofs.ltOf litC) 0 l.toArray.size d) : d.size = l.length ∧ IsPlain l (Lib.compact d.toList) := by
  obtain ⟨p1, _, p3⟩ := hp
  have hsz : d.size = l.length := by simpa using p1
  have h : ∀ i j, i < j → j < d.size → ¬ LtL d[j]! d[i]! := by
    intro i j hij hj
    have := hs i j (by omega) hij (by simp; omega)
    rw [litC_lt] at this
    simpa using this
  have hc := compact_plain d h d.size (Nat.le_refl _)
  refine ⟨hsz, ?_, ?_⟩
  · intro x
    unfold Lib.compact
    rw [show d.toList.toArray = d from by simp, show d.toList.length = d.size from by simp, hc.1]
    have e : x ∈ d.toList ↔ x ∈ l := by
      have : (d.extract 0 l.toArray.size).toList = d.toList := by rw [show l.toArray.size = d.size from by simp [hsz]]; simp
      rw [this] at p3
      have e2 : (l.toArray.extract 0 l.toArray.size).toList = l := by simp
      rw [e2] at p3
      exact p3.mem_iff
    rw [← e, List.mem_iff_getElem]
    constructor
    · rintro ⟨j, hj, e⟩
      exact ⟨j, by simpa using hj, by rw [← e]; simp [getElem!_pos d j hj]⟩
    · rintro ⟨j, hj, e⟩
      have hj' : j < d.size := by simpa using hj
      exact ⟨j, hj', by rw [← e]; simp [getElem!_pos d j hj']⟩
  · unfold Lib.compact
    rw [show d.toList.toArray = d from by simp, show d.toList.length = d.size from by simp]
    exact hc.2

/-- No two neighbours are opposites. -/
def oppI : List Int → Bool
  | x :: y :: r => if y = wrap64 (-x) then false else oppI (y :: r)
  | _ => true
theorem oppI_step {p : List Int} {k : Nat} (h : k + 1 < p.length) : oppI (p.drop k) = if p[k+1]! = wrap64 (-p[k]!) then false else oppI (p.drop (k + 1)) := by
  have e1 : p.drop k = p[k]! :: p[k+1]! :: p.drop (k + 2) := by
    rw [List.drop_eq_getElem_cons (by omega), List.drop_eq_getElem_cons h, getElem!_pos p k (by omega), getElem!_pos p (k+1) h]
  have e2 : p.drop (k + 1) = p[k+1]! :: p.drop (k + 2) := by
    rw [List.drop_eq_getElem_cons h, getElem!_pos p (k+1) h]
  rw [e1, e2]
  rfl
theorem oppI_end {p : List Int} {k : Nat} (h : p.length ≤ k + 1) : oppI (p.drop k) = true := by
  have : (p.drop k).length ≤ 1 := by simp; omega
  match hd : p.drop k, this with
  | [], _ => rfl
  | [x], _ => rfl
end Go.Proofs.Ytbagcbiekpopbaa

namespace Go.Proofs.Ytbagcbiekpopbaa
open Go.RowKit Go.Proofs.YtbagcbiekpopbaaW.PrintWords Go.Proofs.YtbagcbiekpopbaaW.PrintLast
open Go.Sort (grow cell?_grow heap_grow_old)
set_option linter.unusedVariables false
set_option linter.unusedSimpArgs false

theorem putRow_below {α : Type} [Inhabited α] {B : Nat} {a w : World} (h : Below B a w) (enc : α → Value) (blk off : Nat) (d : Array α) (hb : B ≤ blk) : Below B a (Go.Sort.putRow enc w blk off d) :=
  ⟨h.os, h.tape, h.output, by rw [Go.Sort.size_putRow]; exact h.size, fun k hk => by
    rw [← h.block k hk]
    show (w.heap.modify blk _)[k]? = _
    rw [Array.getElem?_modify, if_neg (by omega)]⟩
theorem ahead_below {B : Nat} {a w : World} (h : Below B a w) (n : Nat) : Below B a (Go.Sort.ahead w n) := ⟨h.os, h.tape, h.output, h.size, h.block⟩
theorem grow_below {B : Nat} {a w : World} (h : Below B a w) (hB : B ≤ w.heap.size) (os : Array Obj) : Below B a (grow w os) :=
  ⟨h.os, h.tape, h.output, by rw [Go.Sort.size_grow]; have := h.size; omega, fun k hk => by rw [heap_grow_old w os (by omega)]; exact h.block k hk⟩
theorem sortWorld_below {B : Nat} {a w : World} (h : Below B a w) (hB : B ≤ w.heap.size) {α : Type} [Inhabited α] (enc : α → Value) (blk off n : Nat) (d : Array α) (os : Array Obj) (hb : B ≤ blk) : Below B a (sortWorld enc w blk off n d os) :=
  grow_below (putRow_below (ahead_below h n) enc blk off d hb) (by rw [Go.Sort.size_putRow]; exact hB) os

/-- A block of whole numbers of its own. -/
def blkS (w : World) (g cap : Nat) : Prop := ∃ cur, w.heap[g]? = some (.cells cur 3 (0, 0)) ∧ cur.size = cap
theorem blkS.putRow {w : World} {g cap : Nat} (h : blkS w g cap) (d : Array Int) : blkS (Go.Sort.putRow (Value.int .i64) w g 0 d) g cap := by
  obtain ⟨cur, h1, h2⟩ := h
  refine ⟨Go.Sort.putCells (Value.int .i64) 0 d cur, ?_, by simp [Go.Sort.putCells, h2]⟩
  show (w.heap.modify g _)[g]? = _
  rw [Array.getElem?_modify, if_pos rfl, h1]
  rfl
theorem blkS.grow {w : World} {g cap : Nat} (h : blkS w g cap) (os : Array Obj) : blkS (Go.Sort.grow w os) g cap := by
  obtain ⟨cur, h1, h2⟩ := h
  exact ⟨cur, by rw [heap_grow_old w os (Array.getElem?_eq_some_iff.1 h1).1]; exact h1, h2⟩
theorem blkS.ahead {w : World} {g cap : Nat} (h : blkS w g cap) (n : Nat) : blkS (Go.Sort.ahead w n) g cap := h
theorem blkS.own {w : World} {g cap B : Nat} {p : List Int} (h : blkS w g cap) (hB : B ≤ g) (hp : p.length ≤ cap) (hm : cap ≤ maxLen) (hc : ∀ j, j < p.length → w.cell? ⟨g, 0 + j, none⟩ = some (.int .i64 p[j]!)) :
    w.ownsRow B 3 1 (.slice (some ⟨g, 0, none⟩) p.length cap) p.length (nums .i64 p) := by
  obtain ⟨cur, h1, h2⟩ := h
  refine ⟨by simp [nums], .inr ⟨g, cap, cur, rfl, hB, h1, hp, hm, by omega, ?_⟩⟩
  rw [Nat.mul_one]
  apply List.ext_getElem?
  intro j
  rw [List.getElem?_take]
  unfold nums
  rw [List.getElem?_map]
  split
  · rename_i hj
    have := hc j hj
    rw [Nat.zero_add, blk_cellA h1] at this
    rw [Array.getElem?_toList, this, List.getElem?_eq_getElem hj, getElem!_pos p j hj]
    rfl
  · rename_i hj
    rw [List.getElem?_eq_none (by omega)]
    rfl
theorem plain_lays (blk off size : Nat) (w : World) : CmpLays1 Try.prog 48 #[] (Value.int .i64) litC blk off size w := fun m os dk hs x y => plain_cmp x y _

def PlainOut (w w' : World) (l : List Int) (e : Ending) : Prop := ∃ (A : Option Addr) (c : Nat) (p : List Int), e = .returned (.tuple #[.slice A p.length c, .bool (oppI p)]) ∧ IsPlain l p ∧ p.length ≤ l.length ∧ p.length ≤ c ∧ (∃ a, A = some a) ∧ Kd.C kI w' A p.length p ∧ Below w.heap.size w w' ∧ w'.ownsRow w.heap.size 3 1 (.slice A p.length c) p.length (nums .i64 p)

theorem clone_at (a : Addr) (c : Nat) (l : List Int) (w : World) (hC : Kd.C kI w (some a) l.length l) (hl : l.length ≤ 1000) :
    Calls Try.prog 39 #[.slice (some a) l.length c] w fun e w' => ∃ g cap cur, e = .returned (.slice (some ⟨g, 0, none⟩) l.length cap) ∧ w.heap.size ≤ g ∧ l.length ≤ cap ∧ w'.heap[g]? = some (.cells cur 3 (0, 0)) ∧ cur.toList.take l.length = l.map (Value.int .i64) ∧ Below w.heap.size w w' ∧ cur.size = cap ∧ cap ≤ maxLen := by
  have fin : ∀ (n : Nat) (zs : List Int), n = zs.length → ∀ (e : Ending) (w' : World), (∃ v', e = .returned v' ∧ w'.ownsRow w.heap.size 3 1 v' n (zs.map (Value.int .i64)) ∧ v' ≠ .slice none 0 0 ∧ Below w.heap.size w w') → ∃ g cap cur, e = .returned (.slice (some ⟨g, 0, none⟩) zs.length cap) ∧ w.heap.size ≤ g ∧ zs.length ≤ cap ∧ w'.heap[g]? = some (.cells cur 3 (0, 0)) ∧ cur.toList.take zs.length = zs.map (Value.int .i64) ∧ Below w.heap.size w w' ∧ cur.size = cap ∧ cap ≤ maxLen := by
    rintro n zs rfl e w' ⟨v', rfl, ho, hne, hb⟩
    rcases ho.2 with ⟨h1, _⟩ | ⟨g, cap, cur, h1, h2, h3, h4, h5, h6, h7⟩
    · exact absurd h1 hne
    · subst h1
      exact ⟨g, cap, cur, rfl, h2, h4, h3, by simpa using h7, hb, by omega, h5⟩
  by_cases h0 : l.length = 0
  · have : l = [] := List.eq_nil_of_length_eq_zero h0
    subst this
    exact (Try.slices_Clone_int_zero a c w).mono fun e w' h => fin 0 [] rfl e w' h
  · obtain ⟨b, off, e, hcell⟩ := C_ints hC (by omega)
    obtain rfl := Option.some.inj e
    refine (Try.slices_Clone_int b off l.length c l w (Nat.le_refl _) (by omega) (fun j hj => ?_)).mono fun e w' h => fin l.length l rfl e w' (by simpa using h)
    rw [hcell j hj]
    simp [List.getD_eq_getElem?_getD, List.getElem!_eq_getElem?_getD]
    
set_option maxHeartbeats 4000000 in
set_option maxRecDepth 100000 in
theorem Plain_any (a : Addr) (c : Nat) (l : List Int) (w : World) (hC : Kd.C kI w (some a) l.length l) (hl : l.length ≤ 1000) :
    Calls Try.prog 34 #[.slice (some a) l.length c] w fun e w' => PlainOut w w' l e := by
  have H1 := clone_at a c l w hC hl
  have eg : ∀ args w, (callFunc 48 args).run Try.prog w = .ok (.enter 48 args) w := enters_of Try.func48 (by kernel_rfl) rfl
  obtain ⟨n, hn⟩ : ∃ n, l.length = n := ⟨_, rfl⟩
  have HN : Aside0 (l.length = n) := ⟨hn⟩
  have HLN : Aside0 (l.length ≤ 1000) := ⟨hl⟩
  clear hC hl
  rw [hn] at H1 ⊢
  clear hn
  go_enter Try.func34, Try.ntmps34
  go_wp2_with fail
  refine H1.mono ?_
  rintro e w1 ⟨g, cap, cur, rfl, hg, hcap, hblk, hcur, hb1, hsz0, hcm⟩
  have HS : Aside0 (blkS w1 g cap ∧ cap ≤ maxLen) := ⟨⟨cur, hblk, hsz0⟩, hcm⟩
  clear hsz0 hcm
  clear H1
  have hgl : g < w1.heap.size := by
    rcases Nat.lt_or_ge g w1.heap.size with h | h
    · exact h
    · rw [Array.getElem?_eq_none h] at hblk; cases hblk
  have hH : Go.Sort.Holds (Value.int .i64) w1 g 0 l.toArray := by
    intro j hj
    have hj' : j < l.length := by simpa using hj
    refine ⟨?_, blk_frozen hblk _⟩
    rw [blk_cellA hblk]
    have := congrArg (fun x => x[j]?) hcur
    simp only [List.getElem?_map, Nat.zero_add] at this ⊢
    rw [List.getElem?_take_of_lt (by rw [← HN.out]; exact hj')] at this
    rw [← Array.getElem?_toList, this]
    simp [List.getElem?_eq_getElem hj', getElem!_pos l.toArray j hj]
  have H2 := Any.slices_SortFunc Try.sortL (Value.int .i64) (fun _ => rfl) litC swo_lit 48 #[] g 0 cap l.toArray w1 eg (plain_lays _ _ _ _) hH hgl (by have := HLN.out; simp; omega)
  have hsz : l.toArray.size = n := by simpa using HN.out
  have HK : Aside0 (w.heap.size ≤ g ∧ n ≤ cap ∧ Below w.heap.size w w1 ∧ g < w1.heap.size ∧ Go.Sort.Holds (Value.int .i64) w1 g 0 l.toArray) := ⟨hg, hcap, hb1, hgl, hH⟩
  rw [hsz] at H2
  change Calls Try.prog 47 _ _ _ at H2
  clear hg hcap hb1 hgl hH hblk hcur hsz eg
  go_wp2_with fail
  refine H2.mono ?_
  rintro e w2 ⟨rfl, d, m, os, hp, hs, rfl⟩
  clear H2
  have hpl : d.size = n ∧ IsPlain l (Lib.compact d.toList) := by
    have := sorted_plain l d (by rw [show l.toArray.size = n from by simpa using HN.out]; exact hp) (by rw [show l.toArray.size = n from by simpa using HN.out]; exact hs)
    exact ⟨this.1.trans HN.out, this.2⟩
  clear hp hs
  have hlenT : d.toList.length = n := by simpa using hpl.1
  have hkn : (Lib.compact d.toList).length ≤ n := by
    rw [← hlenT]; unfold Lib.compact Lib.compactUpTo
    rw [List.length_map]
    exact Nat.le_trans (List.length_filter_le _ _) (by simp)
  have hH2 : Go.Sort.Holds (Value.int .i64) (sortWorld (Value.int .i64) w1 g 0 m d os) g 0 d := by
    obtain ⟨h1, h2, h3, h4, h5⟩ := HK.out
    have hs : SW (Value.int .i64) w1 g 0 d (sortWorld (Value.int .i64) w1 g 0 m d os) := ⟨m, os, rfl⟩
    exact hs.holds h4 h5 (by simp [hpl.1, HN.out])
  have hb2 : Below w.heap.size w (sortWorld (Value.int .i64) w1 g 0 m d os) := by
    obtain ⟨h1, h2, h3, h4, h5⟩ := HK.out
    exact sortWorld_below h3 h3.size _ _ _ _ _ _ h1
  have hS2 : blkS (sortWorld (Value.int .i64) w1 g 0 m d os) g cap := ((HS.out.1.ahead m).putRow d).grow os
  obtain ⟨w2, hw2⟩ : ∃ w2, sortWorld (Value.int .i64) w1 g 0 m d os = w2 := ⟨_, rfl⟩
  rw [hw2] at hH2 hb2 hS2 ⊢
  clear hw2
  have H3 := Try.slices_Compact_int g 0 cap d.toList w2 (by simpa using hH2) (by have := HLN.out; have := HN.out; omega) (by have := HK.out.2.1; omega)
  have H3' : Calls Try.prog 53 #[.slice (some ⟨g, 0, none⟩) d.toList.length cap] w2 fun e w3 => e = .returned (.slice (some ⟨g, 0, none⟩) (Lib.compact d.toList).length cap) ∧ Below w.heap.size w w3 ∧ (∀ j : Nat, j < (Lib.compact d.toList).length → w3.cell? ⟨g, 0 + j, none⟩ = some (.int .i64 (Lib.compact d.toList)[j]!)) ∧ blkS w3 g cap := by
    refine H3.mono ?_
    rintro e w3 ⟨h1, q, rfl⟩
    refine ⟨h1, putRow_below (ahead_below hb2 q) _ _ _ _ HK.out.1, fun j hj => ?_, (hS2.ahead q).putRow _⟩
    have hsz : (Lib.compact d.toList ++ List.replicate (d.toList.length - (Lib.compact d.toList).length) 0).toArray.size = d.size := by simp; simp at hlenT; omega
    have := (Go.Sort.holds_putRow (Value.int .i64) (Go.Sort.ahead w2 q) g 0 d (Lib.compact d.toList ++ List.replicate (d.toList.length - (Lib.compact d.toList).length) 0).toArray (Go.Sort.holds_ahead _ _ _ _ _ _ hH2) hsz j (by rw [hsz]; omega)).1
    rw [this]
    congr 2
    rw [getElem!_pos _ j (by rw [hsz]; omega), getElem!_pos _ j hj]
    simp [List.getElem_append_left hj]
  rw [hlenT] at H3'
  clear H3 hb2 hH2 hS2
  have hpl2 := hpl.2
  clear hpl hlenT
  generalize Lib.compact d.toList = p at *
  clear d m os
  obtain ⟨k, hk⟩ : ∃ k, p.length = k := ⟨_, rfl⟩
  have HP : Aside0 (p.length = k ∧ IsPlain l p ∧ k ≤ n ∧ k ≤ 1000 ∧ k ≤ cap) := ⟨hk, hpl2, by omega, by have := HLN.out; have := HN.out; omega, by have := HK.out.2.1; omega⟩
  rw [hk] at H3' hkn
  clear hk hpl2
  go_wp2_with fail
  refine H3'.mono ?_
  rintro e w3 ⟨rfl, hb3, hc3, hS3⟩
  have HB : Aside0 (Below w.heap.size w w3 ∧ ∀ j : Nat, j < k → w3.cell? ⟨g, 0 + j, none⟩ = some (.int .i64 p[j]!)) := ⟨hb3, hc3⟩
  have HO3 : Aside0 (w3.ownsRow w.heap.size 3 1 (.slice (some ⟨g, 0, none⟩) p.length cap) p.length (nums .i64 p)) := ⟨hS3.own HK.out.1 (by rw [HP.out.1]; exact HP.out.2.2.2.2) HS.out.2 (by rw [HP.out.1]; exact hc3)⟩
  have hk9 : k ≤ 1000 := HP.out.2.2.2.1
  have HR : Aside0 (∀ (q : Nat), PlainOut w (w3.drewN q) l (.returned (.tuple #[.slice (some ⟨g, 0, none⟩) k cap, .bool (oppI p)]))) := ⟨fun q => by
    obtain ⟨h1, h2, h3, h4, h5⟩ := HP.out
    subst h1
    refine ⟨some ⟨g, 0, none⟩, cap, p, rfl, h2, by rw [HN.out]; exact h3, h5, ⟨_, rfl⟩, ?_, ⟨hb3.os, hb3.tape, hb3.output, hb3.size, hb3.block⟩, HO3.out⟩
    refine C_of_cells (by omega) (fun j x hj => ?_)
    have hjl := (List.getElem?_eq_some_iff.1 hj).1
    show w3.cell? _ = _
    rw [hc3 j hjl, List.getElem!_eq_getElem?_getD, hj]; rfl⟩
  clear H3' hb3 hc3 hkn HK hS3 HO3
  go_wp2
  go_loopg [5] k (fun gg s5 wr => ∃ (kk q : Nat), 1 ≤ kk ∧ kk ≤ k + 1 ∧ k + 1 - kk ≤ gg ∧ s5 = .int .i64 kk ∧ wr = w3.drewN q ∧ Aside0 (oppI p = oppI (p.drop (kk - 1))))
  case atStart => exact ⟨1, 0, by omega, by omega, by omega, rfl, rfl, ⟨rfl⟩⟩
  case round =>
    obtain ⟨kk, q, h1, h2, h3, rfl, rfl, HO⟩ := hrel
    by_cases hlt : kk < k
    · have hlt2 : decide ((kk : Int) < (k : Int)) = true := by simpa using hlt
      have hc1 := HB.out.2 kk hlt
      have hc0 := HB.out.2 (kk - 1) (by omega)
      rw [Nat.zero_add] at hc1 hc0
      have hwr : IntKind.i64.wrap ((kk : Int) - 1) = ((kk - 1 : Nat) : Int) := by simp [IntKind.wrap, IntKind.bits, IntKind.signed]; omega
      have HST : Aside0 (oppI (p.drop (kk - 1)) = if p[kk]! = wrap64 (-p[kk - 1]!) then false else oppI (p.drop kk)) := ⟨by
        have := oppI_step (p := p) (k := kk - 1) (by rw [HP.out.1]; omega)
        rw [show kk - 1 + 1 = kk from by omega] at this
        exact this⟩
      generalize p[kk]! = x1 at *
      generalize p[kk - 1]! = x0 at *
      by_cases hx : x1 = wrap64 (-x0)
      · have hx1 : (x1 == wrap64 (-x0)) = true := by simpa using hx
        have HF : Aside0 (oppI p = false) := ⟨by rw [HO.out, HST.out, if_pos hx]⟩
        clear hx
        go_wp2
        go_quiet (fail)
        go_wp2
        go_ret2
        rw [← HF.out, World.drewN_drewN]
        exact HR.out _
      · have hx1 : (x1 == wrap64 (-x0)) = false := by simpa using hx
        have HF : Aside0 (oppI p = oppI (p.drop kk)) := ⟨by rw [HO.out, HST.out, if_neg hx]⟩
        clear hx
        go_wp2
        go_quiet (fail)
        go_wp2
        go_roundg (k - kk)
        case measure => omega
        case rel => exact ⟨kk + 1, q + nq, by omega, by omega, by omega, by go_num, by simp [World.drewN_drewN], ⟨by rw [HF.out, Nat.add_sub_cancel]⟩⟩
    · have hlt2 : decide ((kk : Int) < (k : Int)) = false := by simpa using hlt
      have HF : Aside0 (oppI p = true) := ⟨by rw [HO.out]; exact oppI_end (by rw [HP.out.1]; omega)⟩
      go_wp2
      go_ret2
      rw [← HF.out]
      exact HR.out _
end Go.Proofs.Ytbagcbiekpopbaa

namespace Go.Proofs.Ytbagcbiekpopbaa
open Go.RowKit Go.Proofs.YtbagcbiekpopbaaW.PrintWords Go.Proofs.YtbagcbiekpopbaaW.PrintLast
open Go.Sort (grow cell?_grow heap_grow_old)
set_option linter.unusedVariables false
set_option linter.unusedSimpArgs false

theorem below_drewN {B : Nat} {a w : World} (h : Below B a w) (n : Nat) : Below B a (w.drewN n) := ⟨h.os, h.tape, h.output, h.size, h.block⟩
theorem getBang {α : Type} [Inhabited α] {xs : List α} {j : Nat} (h : j < xs.length) : xs[j]? = some xs[j]! := by rw [List.getElem!_eq_getElem?_getD, List.getElem?_eq_getElem h]; rfl
theorem list_ext_bang {α : Type} [Inhabited α] {xs ys : List α} {n : Nat} (h1 : xs.length = n) (h2 : ys.length = n) (h : ∀ j, j < n → xs[j]! = ys[j]!) : xs = ys := by
  apply List.ext_getElem? 
  intro j
  rcases Nat.lt_or_ge j n with hj | hj
  · rw [getBang (by omega), getBang (by omega), h j hj]
  · rw [List.getElem?_eq_none (by omega), List.getElem?_eq_none (by omega)]

set_option maxHeartbeats 1000000 in
set_option maxRecDepth 100000 in
theorem Nums_any (A B : Option Addr) (c d : Nat) (xs ys : List Int) (w : World) (h1 : Kd.C kI w A xs.length xs) (h2 : Kd.C kI w B ys.length ys) :
    Calls Try.prog 27 #[.slice A xs.length c, .slice B ys.length d] w fun e w' => e = .returned (.bool (decide (xs = ys))) ∧ ∃ q, w' = w.drewN q := by
  obtain ⟨n, hn⟩ : ∃ n, xs.length = n := ⟨_, rfl⟩
  obtain ⟨m, hm⟩ : ∃ m, ys.length = m := ⟨_, rfl⟩
  have HX : Aside0 (xs.length = n ∧ ys.length = m ∧ Kd.C kI w A xs.length xs ∧ Kd.C kI w B ys.length ys) := ⟨hn, hm, h1, h2⟩
  have hn9 : n ≤ 9223372036854775807 := by rw [← hn]; exact C_max h1
  have HR : Aside0 (∀ b, (xs = ys ↔ b = true) → decide (xs = ys) = b) := ⟨fun b h => by cases b <;> simp_all⟩
  rw [hn, hm]
  clear h1 h2 hn hm
  generalize hD : decide (xs = ys) = D at *
  clear hD
  by_cases hnm : n = m
  · subst hnm
    go_enter Try.func27, Try.ntmps27
    go_wp2
    go_loopg [5] n (fun gg s5 wr => ∃ (kk q : Nat), kk ≤ n ∧ n - kk ≤ gg ∧ s5 = .int .i64 kk ∧ wr = w.drewN q ∧ Aside0 (∀ j, j < kk → xs[j]! = ys[j]!))
    case atStart => exact ⟨0, 0, by omega, by omega, rfl, rfl, ⟨fun j hj => by omega⟩⟩
    case round =>
      obtain ⟨kk, q, h2, h3, rfl, rfl, HO⟩ := hrel
      by_cases hlt : kk < n
      · have hlt2 : decide ((kk : Int) < (n : Int)) = true := by simpa using hlt
        obtain ⟨b1, o1, rfl, hc1⟩ := C_ints HX.out.2.2.1 (by rw [HX.out.1]; omega)
        obtain ⟨b2, o2, rfl, hc2⟩ := C_ints HX.out.2.2.2 (by rw [HX.out.2.1]; omega)
        have hx := hc1 kk (by rw [HX.out.1]; exact hlt)
        have hy := hc2 kk (by rw [HX.out.2.1]; exact hlt)
        clear hc1 hc2
        have HV : Aside0 (∀ x y, xs[kk]! = x → ys[kk]! = y → x ≠ y → D = false) := ⟨fun x y h1 h2 h3 => HR.out _ ⟨fun h => absurd (by rw [← h1, ← h2, h]) h3, fun h => by cases h⟩⟩
        have HW : Aside0 (∀ x y, xs[kk]! = x → ys[kk]! = y → x = y → ∀ j, j < kk + 1 → xs[j]! = ys[j]!) := ⟨fun x y e1 e2 e3 j hj => by
          rcases Nat.lt_or_ge j kk with h | h
          · exact HO.out j h
          · obtain rfl : j = kk := by omega
            rw [e1, e2, e3]⟩
        have HE : Aside0 (∀ x y, xs[kk]! = x → ys[kk]! = y → (x ≠ y → D = false) ∧ (x = y → ∀ j, j < kk + 1 → xs[j]! = ys[j]!)) := ⟨fun x y h1 h2 => ⟨HV.out x y h1 h2, HW.out x y h1 h2⟩⟩
        have HE2 : Aside0 ((xs[kk]! ≠ ys[kk]! → D = false) ∧ (xs[kk]! = ys[kk]! → ∀ j, j < kk + 1 → xs[j]! = ys[j]!)) := ⟨HE.out _ _ rfl rfl⟩
        generalize xs[kk]! = x at *
        generalize ys[kk]! = y at *
        clear HV HW HE
        by_cases hxy : x = y
        · have e1 : (x == y) = true := by simpa using hxy
          have e2 : (x != y) = false := by simpa using hxy
          have HF : Aside0 (∀ j, j < kk + 1 → xs[j]! = ys[j]!) := ⟨HE2.out.2 hxy⟩
          clear hxy
          go_wp2
          go_quiet (fail)
          go_wp2
          go_roundg (n - kk - 1)
          case measure => omega
          case rel => exact ⟨kk + 1, q + nq, by omega, by omega, by go_num, by simp [World.drewN_drewN], ⟨HF.out⟩⟩
        · have e1 : (x == y) = false := by simpa using hxy
          have e2 : (x != y) = true := by simpa using hxy
          have HF : Aside0 (D = false) := ⟨HE2.out.1 hxy⟩
          clear hxy
          go_wp2
          go_quiet (fail)
          go_wp2
          go_ret
          exact ⟨by rw [HF.out]; rfl, q + nq, World.drewN_drewN _ _ _⟩
      · have hlt2 : decide ((kk : Int) < (n : Int)) = false := by simpa using hlt
        obtain rfl : kk = n := by omega
        have HF : Aside0 (D = true) := ⟨HR.out _ ⟨fun _ => rfl, fun _ => list_ext_bang HX.out.1 HX.out.2.1 HO.out⟩⟩
        go_wp2
        go_ret
        exact ⟨by rw [HF.out]; rfl, q, rfl⟩
  · have e1 : ((n : Int) == (m : Int)) = false := by simpa using (by omega : ¬ (n : Int) = m)
    have e2 : ((n : Int) != (m : Int)) = true := by simpa using (by omega : ¬ (n : Int) = m)
    have HF : Aside0 (D = false) := ⟨HR.out _ ⟨fun h => absurd (by rw [← HX.out.1, ← HX.out.2.1, h]) hnm, fun h => by cases h⟩⟩
    go_enter Try.func27, Try.ntmps27
    go_wp2
    go_ret
    exact ⟨by rw [HF.out]; rfl, 0, rfl⟩

set_option maxHeartbeats 1000000 in
set_option maxRecDepth 100000 in
theorem Lists_any (A B : Option Addr) (c d : Nat) (xs ys : List (List Int)) (w : World) (h1 : Kd.C kII w A xs.length xs) (h2 : Kd.C kII w B ys.length ys) :
    Calls Try.prog 16 #[.slice A xs.length c, .slice B ys.length d] w fun e w' => e = .returned (.bool (decide (xs = ys))) ∧ ∃ q, w' = w.drewN q := by
  obtain ⟨n, hn⟩ : ∃ n, xs.length = n := ⟨_, rfl⟩
  obtain ⟨m, hm⟩ : ∃ m, ys.length = m := ⟨_, rfl⟩
  have HX : Aside0 (xs.length = n ∧ ys.length = m ∧ Kd.C kII w A n xs ∧ Kd.C kII w B m ys) := ⟨hn, hm, hn ▸ h1, hm ▸ h2⟩
  have hn9 : n ≤ 9223372036854775807 := by rw [← hn]; exact C_max h1
  have HR : Aside0 (∀ b, (xs = ys ↔ b = true) → decide (xs = ys) = b) := ⟨fun b h => by cases b <;> simp_all⟩
  rw [hn, hm]
  clear h1 h2 hn hm
  generalize hD : decide (xs = ys) = D at *
  clear hD
  by_cases hnm : n = m
  · subst hnm
    go_enter Try.func16, Try.ntmps16
    go_wp2
    go_loopg [5] n (fun gg s5 wr => ∃ (kk q : Nat), kk ≤ n ∧ n - kk ≤ gg ∧ s5 = .int .i64 kk ∧ Aside0 (wr = w.drewN q) ∧ Aside0 (∀ j, j < kk → xs[j]! = ys[j]!))
    case atStart => exact ⟨0, 0, by omega, by omega, rfl, ⟨rfl⟩, ⟨fun j hj => by omega⟩⟩
    case round =>
      obtain ⟨kk, q, h2, h3, rfl, HQ, HO⟩ := hrel
      by_cases hlt : kk < n
      · have hlt2 : decide ((kk : Int) < (n : Int)) = true := by simpa using hlt
        obtain ⟨b1, o1, rfl, _, hc1⟩ := C_rows HX.out.2.2.1 (by omega)
        obtain ⟨b2, o2, rfl, _, hc2⟩ := C_rows HX.out.2.2.2 (by omega)
        obtain ⟨A1, c1, hx, _, hX⟩ := hc1 kk hlt
        obtain ⟨A2, c2, hy, _, hY⟩ := hc2 kk hlt
        clear hc1 hc2
        replace hx : wr.cell? ⟨b1, o1 + kk, none⟩ = some (.slice A1 xs[kk]!.length c1) := by rw [HQ.out]; exact hx
        replace hy : wr.cell? ⟨b2, o2 + kk, none⟩ = some (.slice A2 ys[kk]!.length c2) := by rw [HQ.out]; exact hy
        have HN := fun W (hW : ∃ q, W = wr.drewN q) => Nums_any A1 A2 c1 c2 xs[kk]! ys[kk]! W (Kd.C_below hX (by obtain ⟨q', rfl⟩ := hW; rw [HQ.out]; exact below_drewN (below_drewN (Below.refl _ _) _) _)) (Kd.C_below hY (by obtain ⟨q', rfl⟩ := hW; rw [HQ.out]; exact below_drewN (below_drewN (Below.refl _ _) _) _))
        have HE2 : Aside0 ((xs[kk]! ≠ ys[kk]! → D = false) ∧ (xs[kk]! = ys[kk]! → ∀ j, j < kk + 1 → xs[j]! = ys[j]!)) := ⟨fun h3 => HR.out _ ⟨fun h => absurd (by rw [h]) h3, fun h => by cases h⟩, fun h3 j hj => by
          rcases Nat.lt_or_ge j kk with h | h
          · exact HO.out j h
          · obtain rfl : j = kk := by omega
            exact h3⟩
        clear hX hY
        generalize xs[kk]! = x at *
        generalize ys[kk]! = y at *
        by_cases hxy : x = y
        · have HF : Aside0 (∀ j, j < kk + 1 → xs[j]! = ys[j]!) := ⟨HE2.out.2 hxy⟩
          have e1 : decide (x = y) = true := by simpa using hxy
          rw [e1] at HN
          clear hxy e1
          have HN2 : Aside0 (∀ W, (∃ q, W = wr.drewN q) → Calls Try.prog 27 #[.slice A1 x.length c1, .slice A2 y.length c2] W fun e w' => e = .returned (.bool true) ∧ ∃ q, w' = W.drewN q) := ⟨HN⟩
          clear HN
          go_wp2
          go_quiet ((go_at_call 27; exact Calls.quiet_of (HN2.out _ ⟨_, rfl⟩)))
          go_wp2
          go_roundg (n - kk - 1)
          case measure => omega
          case rel => exact ⟨kk + 1, q + nq, by omega, by omega, by go_num, ⟨by rw [HQ.out, World.drewN_drewN]⟩, ⟨HF.out⟩⟩
        · have HF : Aside0 (D = false) := ⟨HE2.out.1 hxy⟩
          have e1 : decide (x = y) = false := by simpa using hxy
          rw [e1] at HN
          clear hxy e1
          have HN2 : Aside0 (∀ W, (∃ q, W = wr.drewN q) → Calls Try.prog 27 #[.slice A1 x.length c1, .slice A2 y.length c2] W fun e w' => e = .returned (.bool false) ∧ ∃ q, w' = W.drewN q) := ⟨HN⟩
          clear HN
          go_wp2
          go_quiet ((go_at_call 27; exact Calls.quiet_of (HN2.out _ ⟨_, rfl⟩)))
          go_wp2
          go_ret
          exact ⟨by rw [HF.out]; rfl, q + nq, by rw [HQ.out, World.drewN_drewN]⟩
      · have hlt2 : decide ((kk : Int) < (n : Int)) = false := by simpa using hlt
        obtain rfl : kk = n := by omega
        have HF : Aside0 (D = true) := ⟨HR.out _ ⟨fun _ => rfl, fun _ => list_ext_bang HX.out.1 HX.out.2.1 HO.out⟩⟩
        go_wp2
        go_ret
        exact ⟨by rw [HF.out]; rfl, q, HQ.out⟩
  · have e1 : ((n : Int) == (m : Int)) = false := by simpa using (by omega : ¬ (n : Int) = m)
    have e2 : ((n : Int) != (m : Int)) = true := by simpa using (by omega : ¬ (n : Int) = m)
    have HF : Aside0 (D = false) := ⟨HR.out _ ⟨fun h => absurd (by rw [← HX.out.1, ← HX.out.2.1, h]) hnm, fun h => by cases h⟩⟩
    go_enter Try.func16, Try.ntmps16
    go_wp2
    go_ret
    exact ⟨by rw [HF.out]; rfl, 0, rfl⟩
end Go.Proofs.Ytbagcbiekpopbaa

namespace Go.Proofs.Ytbagcbiekpopbaa
open Go.RowKit Go.Proofs.YtbagcbiekpopbaaW.PrintWords Go.Proofs.YtbagcbiekpopbaaW.PrintLast
open Go.Sort (grow cell?_grow heap_grow_old)
set_option linter.unusedVariables false
set_option linter.unusedSimpArgs false

/-- What stays in every later world. -/
structure Keeps (F : World → Prop) (W : World) : Prop where
  out : ∀ W', Below W.heap.size W W' → F W'
theorem Keeps.here {F : World → Prop} {W : World} (h : Keeps F W) : F W := h.out W (Below.refl _ _)
theorem Keeps.step {F : World → Prop} {W W2 : World} (h : Keeps F W) (hb : Below W.heap.size W W2) : Keeps F W2 := ⟨fun W' h' => h.out W' (hb.trans (h'.mono hb.size))⟩
theorem Keeps.cell {W : World} {p : Addr} {v : Value} (h : W.cell? p = some v) : Keeps (fun W => W.cell? p = some v) W := ⟨fun W' hb => (hb.cell (World.block_lt_of_cell? W _ h)).trans h⟩
theorem Keeps.C {α : Type} {d : Kd α} {W : World} {A : Option Addr} {n : Nat} {xs : List α} (h : d.C W A n xs) : Keeps (fun W => d.C W A n xs) W := ⟨fun W' hb => Kd.C_below h hb⟩
theorem Keeps.base {B : Nat} {w W : World} (h : Below B w W) (hB : B ≤ w.heap.size) : Keeps (fun W => Below B w W) W := ⟨fun W' hb => h.trans (hb.mono (Nat.le_trans hB h.size))⟩
theorem bel_alloc (w : World) (o : Obj) : Below w.heap.size w (w.alloc o) := (Below.refl _ _).alloc (Nat.le_refl _) o
theorem bel_drewN (w : World) (n : Nat) : Below w.heap.size w (w.drewN n) := below_drewN (Below.refl _ _) n

theorem CII_of_cells {w : World} {b off : Nat} {xs : List (List Int)} (hm : xs.length ≤ 9223372036854775807) (h : ∀ j r, xs[j]? = some r → ∃ A c, w.cell? ⟨b, off + j, none⟩ = some (.slice A r.length c) ∧ r.length ≤ c ∧ Kd.C kI w A r.length r) : Kd.C kII w (some ⟨b, off, none⟩) xs.length xs := by
  refine ⟨rfl, hm, fun _ => ⟨_, rfl, fun j r hj => ?_⟩⟩
  obtain ⟨A, c, h1, h2, h3⟩ := h j r hj
  refine ⟨[.slice A r.length c], rfl, ⟨A, c, rfl, h2, h3⟩, fun i u hi => ?_⟩
  match i, hi with
  | 0, hi =>
    simp only [List.getElem?_cons_zero, Option.some.injEq] at hi
    subst hi
    have e : j * kII.sz + 0 = j := by show j * 1 + 0 = j; omega
    rw [e, add_spot rfl]
    exact h1
theorem C_of_bools {w : World} {b off : Nat} {xs : List Bool} (hm : xs.length ≤ 9223372036854775807) (h : ∀ j x, xs[j]? = some x → w.cell? ⟨b, off + j, none⟩ = some (.bool x)) : Kd.C Kd.bool w (some ⟨b, off, none⟩) xs.length xs := by
  refine ⟨rfl, hm, fun _ => ⟨_, rfl, fun j p hj => ⟨[.bool p], rfl, rfl, fun i u hi => ?_⟩⟩⟩
  match i, hi with
  | 0, hi =>
    simp only [List.getElem?_cons_zero, Option.some.injEq] at hi
    subst hi
    have e : j * Kd.bool.sz + 0 = j := by show j * 1 + 0 = j; omega
    rw [e, add_spot rfl]
    exact h j p hj
theorem C_new_ints (w : World) (xs : List Int) (hm : xs.length ≤ 1000000) (t : TypeId) : Kd.C kI (w.alloc (.cells (xs.map (Value.int .i64)).toArray t)) (some ⟨w.heap.size, 0, none⟩) xs.length xs :=
  C_of_cells (by omega) fun j x hj => by rw [Nat.zero_add, cell_new]; simp [hj]
theorem C_new_bools (w : World) (xs : List Bool) (hm : xs.length ≤ 1000000) (t : TypeId) : Kd.C Kd.bool (w.alloc (.cells (xs.map Value.bool).toArray t)) (some ⟨w.heap.size, 0, none⟩) xs.length xs :=
  C_of_bools (by omega) fun j x hj => by rw [Nat.zero_add, cell_new]; simp [hj]

end Go.Proofs.Ytbagcbiekpopbaa

namespace Go.Proofs.Ytbagcbiekpopbaa
open Go.RowKit Go.Proofs.YtbagcbiekpopbaaW.PrintWords Go.Proofs.YtbagcbiekpopbaaW.PrintLast
set_option linter.unusedVariables false
set_option linter.unusedSimpArgs false

theorem below_after {a w1 w2 : World} {B : Nat} (h : Below B a w1) (hb : Below w1.heap.size w1 w2) (hB : B ≤ a.heap.size) : Below B a w2 := h.trans (hb.mono (Nat.le_trans hB h.size))
theorem C_take {α : Type} {d : Kd α} {w : World} {A : Option Addr} {n k : Nat} {xs : List α} (h : d.C w A n xs) (hk : k ≤ n) : d.C w A k (xs.take k) := by
  obtain ⟨h1, h2, h3⟩ := h
  refine ⟨by rw [List.length_take]; omega, by omega, fun hp => ?_⟩
  obtain ⟨ad, e, h4⟩ := h3 (by omega)
  refine ⟨ad, e, fun j p hj => h4 j p ?_⟩
  have hjl := (List.getElem?_eq_some_iff.1 hj).1
  rw [List.length_take] at hjl
  rw [List.getElem?_take_of_lt (by omega)] at hj
  exact hj
theorem own_empty (w : World) (t : TypeId) : (w.alloc (.cells #[] t)).ownsRow w.heap.size t 1 (.slice (some ⟨w.heap.size, 0, none⟩) 0 0) 0 [] :=
  ⟨rfl, .inr ⟨w.heap.size, 0, #[], rfl, Nat.le_refl _, heap_alloc_new w _, Nat.le_refl _, Nat.zero_le _, rfl, rfl⟩⟩
/-- A row of whole numbers that the call made; a row of such rows. -/
def OwnR (w : World) (base : Nat) (v : Value) (r : List Int) : Prop := w.ownsRow base 3 1 v r.length (nums .i64 r) ∧ v.ownBlock ≠ none
def RowsB (w : World) (base : Nat) (v : Value) (L : List (List Int)) : Prop :=
  ∃ vs : List Value, vs.length = L.length ∧ w.ownsRow base 37 1 v L.length vs ∧ ∀ (j : Nat) y r, vs[j]? = some y → L[j]? = some r → OwnR w base y r
theorem OwnR.reads {w : World} {base : Nat} {v : Value} {r : List Int} (h : OwnR w base v r) : ∃ A c, v = .slice A r.length c ∧ r.length ≤ c ∧ Kd.C kI w A r.length r := by
  rcases h.1.2 with ⟨rfl, h0⟩ | ⟨g, cap, cur, rfl, _, _, h3, h4, _⟩
  · have : r = [] := List.eq_nil_of_length_eq_zero h0
    subst this
    exact ⟨none, 0, rfl, Nat.le_refl _, Kd.C_nil _ _⟩
  · refine ⟨_, cap, rfl, h3, C_of_cells (by unfold maxLen at h4; omega) (fun j y hj => ?_)⟩
    have := h.1.cells (g := g) rfl j (.int .i64 y) (by
      unfold nums
      rw [List.getElem?_map, hj]; rfl)
    rw [add_plain] at this
    simpa using this
theorem RowsB.below {w w' : World} {base : Nat} {v : Value} {L : List (List Int)} (h : RowsB w base v L) (hb : Below w.heap.size w w') : RowsB w' base v L := by
  obtain ⟨vs, h1, h2, h3⟩ := h
  exact ⟨vs, h1, pw_own_below h2 hb, fun j y r hy hr => ⟨pw_own_below (h3 j y r hy hr).1 hb, (h3 j y r hy hr).2⟩⟩
theorem RowsB.snoc {w w1 : World} {base : Nat} {v v1 y : Value} {L : List (List Int)} {vs : List Value} {r : List Int} (h1 : vs.length = L.length) (h2 : w.ownsRow base 37 1 v L.length vs)
    (h3 : ∀ (j : Nat) y r, vs[j]? = some y → L[j]? = some r → OwnR w base y r) (hy : OwnR w base y r) (ho : w1.ownsRow base 37 1 v1 (vs ++ [y]).length (vs ++ [y])) (hg : w.grownBy w1 v.ownBlock) : RowsB w1 base v1 (L ++ [r]) := by
  have other : ∀ y r, OwnR w base y r → OwnR w1 base y r := fun y r h => ⟨own_other h.1 hg (own_type_ne h.1 h2 (by decide)), h.2⟩
  refine ⟨vs ++ [y], by simp [h1], by rw [show (L ++ [r]).length = (vs ++ [y]).length from by simp [h1]]; exact ho, fun j y' r' hy' hr' => ?_⟩
  rcases Nat.lt_or_ge j L.length with hj | hj
  · rw [List.getElem?_append_left (by omega)] at hy'
    rw [List.getElem?_append_left hj] at hr'
    exact other _ _ (h3 j y' r' hy' hr')
  · have hj2 := (List.getElem?_eq_some_iff.1 hr').1
    simp only [List.length_append, List.length_cons, List.length_nil] at hj2
    obtain rfl : j = L.length := by omega
    simp at hr'
    rw [← h1] at hy'
    simp at hy'
    subst hr' hy'
    exact other _ _ hy
theorem RowsB.reads {w : World} {base : Nat} {v : Value} {L : List (List Int)} (h : RowsB w base v L) : ∃ A c, v = .slice A L.length c ∧ L.length ≤ c ∧ Kd.C kII w A L.length L := by
  obtain ⟨vs, h1, h2, h3⟩ := h
  rcases h2.2 with ⟨rfl, h0⟩ | ⟨g, cap, cur, rfl, _, _, h4, h5, _⟩
  · have : L = [] := List.eq_nil_of_length_eq_zero h0
    subst this
    exact ⟨none, 0, rfl, Nat.le_refl _, Kd.C_nil _ _⟩
  · refine ⟨_, cap, rfl, by omega, CII_of_cells (by unfold maxLen at h5; omega) (fun j r hj => ?_)⟩
    have hjl := (List.getElem?_eq_some_iff.1 hj).1
    obtain ⟨y, hy⟩ : ∃ y, vs[j]? = some y := ⟨_, List.getElem?_eq_getElem (by omega)⟩
    obtain ⟨A, c, rfl, hc, hC⟩ := (h3 j y r hy hj).reads
    have := h2.cells (g := g) rfl j _ hy
    rw [add_plain] at this
    exact ⟨A, c, by simpa using this, hc, hC⟩
/-- Nothing of it turns by what is done to a block of another type. -/
theorem RowsB.moved {w w1 : World} {base : Nat} {v : Value} {L : List (List Int)} (h : RowsB w base v L) (hm : ∀ k : Nat, (∃ cells t, w.heap[k]? = some (.cells cells t (0, 0)) ∧ t ≠ 24) → w1.heap[k]? = w.heap[k]?) : RowsB w1 base v L := by
  have mv : ∀ {e n : Nat} {u : Value} {xs : List Value}, e ≠ 24 → w.ownsRow base e 1 u n xs → w1.ownsRow base e 1 u n xs := by
    rintro e n u xs he ⟨h1, h2⟩
    refine ⟨h1, ?_⟩
    rcases h2 with h2 | ⟨g, cap, cur, rfl, hg, hh, r⟩
    · exact .inl h2
    · exact .inr ⟨g, cap, cur, rfl, hg, (hm g ⟨_, _, hh, he⟩).trans hh, r⟩
  obtain ⟨vs, h1, h2, h3⟩ := h
  exact ⟨vs, h1, mv (by decide) h2, fun j y r hy hr => ⟨mv (by decide) (h3 j y r hy hr).1, (h3 j y r hy hr).2⟩⟩

/-! append of a whole row at a step of a region that draws -/
theorem raw_reps : ∀ (vs : List Value) (P : Value → Prop), (∀ u ∈ vs, u.oneCell' = true) → ∀ (w : World) (base : Nat) (ok : Nat → Prop), Reps ((Kd.raw 1).M w base ok) 1 (vs.map fun u => [u]) vs := by
  intro vs P h w base ok
  refine ⟨by simp, fun j p hj => ?_⟩
  rw [List.getElem?_map] at hj
  obtain ⟨u, hu, rfl⟩ := Option.map_eq_some_iff.1 hj
  have hjl := (List.getElem?_eq_some_iff.1 hu).1
  have e : (vs.drop (j * 1)).take 1 = [u] := by
    rw [Nat.mul_one, List.drop_eq_getElem_cons hjl]
    have := (List.getElem?_eq_some_iff.1 hu).2
    simp [this]
  rw [e]
  refine ⟨rfl, rfl, fun x hx => ?_⟩
  simp at hx; subst hx; exact h _ (List.mem_of_getElem? hu)
theorem reps_raw {vs inner : List Value} {w : World} {base : Nat} {ok : Nat → Prop} (h : Reps ((Kd.raw 1).M w base ok) 1 (vs.map fun u => [u]) inner) : inner = vs := by
  obtain ⟨h1, h2⟩ := h
  simp at h1
  apply List.ext_getElem h1
  intro j hj hj2
  have := (h2 j [vs[j]] (by simp [hj2])).1
  rw [Nat.mul_one, List.drop_eq_getElem_cons hj] at this
  simp only [List.take_succ_cons, List.take_zero] at this
  exact (List.cons.inj this).1
theorem step_append_all {P : Program} {ops : Array Oper} {o : Oper} {a : Act} {Q : Exit → Act → World → Prop} {Kc : Act → World → Prop} {w0 W : World} (base : Nat) (hw : Region.wanted o (yielded ops a.tmps) = true) (s x : Operand) (t e : TypeId) (z : Value) (bytes : Nat)
    (ho : o.op = .call { callee := .builtin .append, args := #[s, x], argTypes := #[t, t] })
    (ht : P.underlying t = some (.slice e)) (hinfo : (P.info? e).map (fun i => (i.zero, i.size, i.bytes)) = some (some z, 1, bytes)) (hz : z.cells.size = 1) (hb0 : 0 < bytes)
    (v : Value) (xs : List Value) (A : Option Addr) (m c : Nat) (ys : List Value) (hs : a.eval s = v) (hx : a.eval x = .slice A m c) (hxs : ∀ u ∈ xs, u.oneCell' = true) (hone : ∀ u ∈ ys, u.oneCell' = true)
    (HO : W.ownsRow base e 1 v xs.length xs) (hlen : ys.length = m) (hm9 : m ≤ 9223372036854775807) (hys : 0 < m → ∃ ad, A = some ad ∧ ∀ j u, ys[j]? = some u → W.cell? (ad.add j) = some u)
    (HB : Below base w0 W) (hbase : base ≤ W.heap.size) (hl : (xs.length + m) * bytes ≤ 140737488355328)
    (h : ∀ v1 w1, w1.ownsRow base e 1 v1 (xs ++ ys).length (xs ++ ys) → Below base w0 w1 → W.grownBy w1 v.ownBlock → (v1.ownBlock = v.ownBlock ∨ ∃ b, v1.ownBlock = some b ∧ W.heap.size ≤ b) → Kc (a.put o.dst v1) w1) :
    if Region.wanted o (yielded ops a.tmps) = true then Oper.wp P o a W Kc Q else Kc (a.put o.dst undef) W := by
  refine Kd.R_append_rows_step (Kd.raw 1) (w0 := w0) base hw s x t e z bytes ho ht hinfo hz (by decide) hb0 v (xs.map fun u => [u]) (ys.map fun u => [u]) A m c (fun _ => True) (fun _ => False) hs hx
    ⟨fun _ _ => trivial, xs, by rw [List.length_map]; exact HO, raw_reps xs (fun _ => True) hxs _ _ _⟩ (Rr := (Kd.raw 1).M W base (fun _ => False)) ?_ (fun _ _ h => h) (fun _ h => h.elim) (fun _ _ => trivial) HB hbase (by rw [List.length_map]; exact hl) ?_
  · refine ⟨by rw [List.length_map]; exact hlen, hm9, fun hp => ?_⟩
    obtain ⟨ad, hA, hc⟩ := hys hp
    refine ⟨ad, hA, fun j p hj => ?_⟩
    rw [List.getElem?_map] at hj
    obtain ⟨u, hu, rfl⟩ := Option.map_eq_some_iff.1 hj
    refine ⟨[u], rfl, ⟨rfl, rfl, fun y hy => ?_⟩, fun i y hi => ?_⟩
    · simp at hy; subst hy; exact hone _ (List.mem_of_getElem? hu)
    · match i, hi with
      | 0, hi =>
        simp only [List.getElem?_cons_zero, Option.some.injEq] at hi
        subst hi
        have e1 : j * (Kd.raw 1).sz + 0 = j := by show j * 1 + 0 = j; omega
        rw [e1]
        exact hc j u hu
  · rintro v1 w1 ⟨_, inner, hown, hr⟩ hb hg hat
    rw [← List.map_append] at hr hown
    obtain rfl := reps_raw hr
    rw [List.length_map] at hown
    exact h v1 w1 hown hb hg hat
end Go.Proofs.Ytbagcbiekpopbaa

namespace Go.Proofs.Ytbagcbiekpopbaa
open Go.RowKit Go.Proofs.YtbagcbiekpopbaaW.PrintWords Go.Proofs.YtbagcbiekpopbaaW.PrintLast
set_option linter.unusedVariables false
set_option linter.unusedSimpArgs false

def boundL (L : List (List Int)) : List (List Int) := (L.take 60).map (List.take 12)
theorem boundL_snoc (L : List (List Int)) (i : Nat) (hi : i < L.length) (h60 : i < 60) : boundL (L.take (i + 1)) = boundL (L.take i) ++ [L[i].take 12] := by
  unfold boundL
  rw [List.take_take, List.take_take, show min 60 i = i from by omega, show min 60 (i + 1) = i + 1 from by omega, List.take_succ_eq_append_getElem hi, List.map_append, List.map_cons, List.map_nil]
theorem boundL_all (L : List (List Int)) (i : Nat) (h : min L.length 60 ≤ i) : boundL (L.take i) = boundL L := by
  unfold boundL
  rw [List.take_take]
  congr 1
  rcases Nat.lt_or_ge L.length 60 with h1 | h1
  · rw [List.take_of_length_le (by omega), List.take_of_length_le (by omega)]
  · congr 1; omega
theorem box_two (w : World) (a b : Obj) : ((w.alloc a).alloc b).heap[w.heap.size]? = some a ∧ ((w.alloc a).alloc b).heap[w.heap.size + 1]? = some b := by
  constructor
  · rw [Below.heap_alloc _ _ _ (by simp)]; exact heap_alloc_new w a
  · have := heap_alloc_new (w.alloc a) b
    rwa [show (w.alloc a).heap.size = w.heap.size + 1 from by simp] at this
theorem own_form {w : World} {base : Nat} {e : TypeId} {v : Value} {n : Nat} {xs : List Value} (h : w.ownsRow base e 1 v n xs) (hv : v.ownBlock ≠ none) : ∃ g cap, v = .slice (some ⟨g, 0, none⟩) n cap := by
  rcases h.2 with ⟨rfl, _⟩ | ⟨g, cap, cur, rfl, _⟩
  · exact absurd rfl hv
  · exact ⟨g, cap, rfl⟩
theorem rows_one {w : World} {base : Nat} {vs : List Value} {L : List (List Int)} (h1 : vs.length = L.length) (h3 : ∀ (j : Nat) y r, vs[j]? = some y → L[j]? = some r → OwnR w base y r) : ∀ u ∈ vs, u.oneCell' = true := by
  intro u hu
  obtain ⟨j, hj⟩ := List.mem_iff_getElem?.1 hu
  have hjl := (List.getElem?_eq_some_iff.1 hj).1
  obtain ⟨A, c, rfl, _⟩ := (h3 j u L[j] hj (List.getElem?_eq_getElem (by omega))).reads
  rfl
theorem ints_at {w : World} {A : Option Addr} {n : Nat} {xs : List Int} (h : Kd.C kI w A n xs) : 0 < n → ∃ ad, A = some ad ∧ ∀ j u, (nums .i64 xs)[j]? = some u → w.cell? (ad.add j) = some u := by
  intro hp
  obtain ⟨ad, e, h2⟩ := h.2.2 hp
  refine ⟨ad, e, fun j u hj => ?_⟩
  unfold nums at hj
  rw [List.getElem?_map] at hj
  obtain ⟨x, hx, rfl⟩ := Option.map_eq_some_iff.1 hj
  obtain ⟨cs, _, hcs, h4⟩ := h2 j x hx
  obtain rfl : cs = [Value.int .i64 x] := hcs
  have := h4 0 _ rfl
  have e1 : j * kI.sz + 0 = j := by show j * 1 + 0 = j; omega
  rwa [e1] at this
set_option maxHeartbeats 4000000 in
set_option maxRecDepth 100000 in
theorem Bound_walk (n : Int) (A : Option Addr) (c : Nat) (L : List (List Int)) (w : World) (hC : Kd.C kII w A L.length L) (hc : L.length ≤ c) :
    Calls Try.prog 8 #[.agg #[.int .i64 n, .slice A L.length c]] w fun e w' => ∃ v, e = .returned (.agg #[.int .i64 n, v]) ∧ RowsB w' w.heap.size v (boundL L) ∧ Below w.heap.size w w' := by
  obtain ⟨m, hm⟩ : ∃ m, L.length = m := ⟨_, rfl⟩
  have hm9 : m ≤ 9223372036854775807 := by rw [← hm]; exact C_max hC
  have HC : Aside0 (Kd.C kII w A m L ∧ L.length = m) := ⟨hm ▸ hC, hm⟩
  rw [hm]
  clear hC hc hm
  go_enter Try.func8, Try.ntmps8
  go_wp2_with fail
  go_loopg [3, 4] 60 (fun gg s3 s4 wr => ∃ (kk : Nat), kk ≤ m ∧ kk ≤ 60 ∧ 60 - kk ≤ gg ∧ s4 = .int .i64 kk ∧ Aside0 (RowsB wr w.heap.size s3 (boundL (L.take kk))) ∧
    Aside0 (wr.heap[w.heap.size]? = some (.cells #[.int .i64 n, .slice A m c] 24 (0, 0)) ∧ wr.heap[w.heap.size + 1]? = some (.cells #[.int .i64 0, .slice none 0 0] 24 (0, 0))) ∧ Aside0 (Below w.heap.size w wr))
  case atStart =>
    have hb := bel2 w (.cells #[.int .i64 n, .slice A m c] 24) (.cells #[.int .i64 0, .slice none 0 0] 24)
    have h2 := box_two w (.cells #[.int .i64 n, .slice A m c] 24) (.cells #[.int .i64 0, .slice none 0 0] 24)
    have hz : w.heap.size + 1 + 1 = ((w.alloc (.cells #[.int .i64 n, .slice A m c] 24)).alloc (.cells #[.int .i64 0, .slice none 0 0] 24)).heap.size := by simp
    rw [hz]
    have hs : w.heap.size + 2 ≤ ((w.alloc (.cells #[.int .i64 n, .slice A m c] 24)).alloc (.cells #[.int .i64 0, .slice none 0 0] 24)).heap.size := by simp
    clear hz
    generalize (w.alloc (.cells #[.int .i64 n, .slice A m c] 24)).alloc (.cells #[.int .i64 0, .slice none 0 0] 24) = W2 at *
    exact ⟨0, by omega, by omega, by omega, rfl, ⟨[], by simp [boundL], by simpa [boundL] using own_weaken (own_empty W2 37) hb.size, fun j y r hy => by simp at hy⟩,
      ⟨by rw [Below.heap_alloc _ _ _ (by omega)]; exact h2.1, by rw [Below.heap_alloc _ _ _ (by omega)]; exact h2.2⟩, ⟨hb.alloc hb.size _⟩⟩
  case round =>
    obtain ⟨kk, h1, h2, h3, rfl, HR, HX, HB⟩ := hrel
    have hc0 := blk_cellA HX.out.1 0
    have hc1 := blk_cellA HX.out.1 1
    by_cases hlt : kk < m ∧ kk < 60
    · have hlt2 : decide ((kk : Int) < (m : Int)) = true := by simpa using hlt.1
      have hlt3 : decide ((kk : Int) < 60) = true := by have := hlt.2; simp; omega
      obtain ⟨b, off, rfl, hbl, hrow⟩ := C_rows HC.out.1 (by omega)
      obtain ⟨Ar, cr, hcell0, hcr, hCr⟩ := hrow kk hlt.1
      have hcell : wr.cell? ⟨b, off + kk, none⟩ = some (.slice Ar L[kk]!.length cr) := (HB.out.cell (p := ⟨b, off + kk, none⟩) hbl).trans hcell0
      have hblr : b < wr.heap.size := Nat.lt_of_lt_of_le hbl HB.out.size
      have hgr : w.heap.size < wr.heap.size := World.block_lt_of_cell? wr ⟨w.heap.size, 1, none⟩ hc1
      have hgr2 : w.heap.size + 1 < wr.heap.size := blk_lt HX.out.2
      obtain ⟨rl, hrl⟩ : ∃ rl, L[kk]!.length = rl := ⟨_, rfl⟩
      obtain ⟨kq, hkq⟩ : ∃ kq : Nat, min rl 12 = kq := ⟨_, rfl⟩
      have hr9 : rl ≤ 9223372036854775807 := by rw [← hrl]; exact C_max hCr
      have hmin : (if (12 : Int) < (rl : Int) then (12 : Int) else (rl : Int)) = (kq : Int) := by split <;> omega
      have hmin2 : min (rl : Int) 12 = (kq : Int) := by omega
      have hkq2 : (kq : Int) ≤ (cr : Int) := by omega
      have hkq3 : kq ≤ 12 := by omega
      have HT : Aside0 ((L[kk]!.take 12).length = kq ∧ Kd.C kI wr Ar kq (L[kk]!.take 12) ∧ boundL (L.take (kk + 1)) = boundL (L.take kk) ++ [L[kk]!.take 12]) := by
        have e1 : (L[kk]!.take 12).length = kq := by rw [List.length_take]; omega
        have e2 : L[kk]!.take 12 = L[kk]!.take kq := by
          rcases Nat.lt_or_ge rl 12 with h | h
          · rw [List.take_of_length_le (by omega), List.take_of_length_le (by omega)]
          · congr 1; omega
        refine ⟨e1, ?_, ?_⟩
        · rw [e2]
          have := Kd.C_below (C_take hCr (show kq ≤ L[kk]!.length by omega)) HB.out
          exact this
        · rw [boundL_snoc L kk (by have := HC.out.2; omega) hlt.2, getElem!_pos L kk (by have := HC.out.2; omega)]
      rw [hrl] at hcell
      clear hcell0 hCr hrow hrl hcr hkq
      generalize L[kk]!.take 12 = rt at *
      obtain ⟨vs, hv1, hv2, hv3⟩ := HR.out
      have HV : Aside0 (vs.length = (boundL (L.take kk)).length ∧ wr.ownsRow w.heap.size 37 1 u3 (boundL (L.take kk)).length vs ∧ ∀ (j : Nat) y r, vs[j]? = some y → (boundL (L.take kk))[j]? = some r → OwnR wr w.heap.size y r) := ⟨⟨hv1, hv2, hv3⟩⟩
      have HL60 : Aside0 ((boundL (L.take kk)).length ≤ 60) := ⟨by unfold boundL; simp; omega⟩
      have HN : Aside0 (0 < kq → ∃ ad, Ar = some ad ∧ ∀ j u, (nums .i64 rt)[j]? = some u → wr.cell? (ad.add j) = some u) := ⟨ints_at HT.out.2.1⟩
      have hvl : vs.length = (boundL (L.take kk)).length := hv1
      clear hv2 hv3 hv1
      have HFar : Aside0 (∀ W w2, Below wr.heap.size wr W → W.grownBy w2 u3.ownBlock → (w2.cell? ⟨w.heap.size, 1, none⟩ = some (.slice (some ⟨b, off, none⟩) m c) ∧ w2.cell? ⟨b, off + kk, none⟩ = some (.slice Ar rl cr)) ∧
          w2.heap[w.heap.size]? = some (.cells #[.int .i64 n, .slice (some ⟨b, off, none⟩) m c] 24 (0, 0)) ∧ w2.heap[w.heap.size + 1]? = some (.cells #[.int .i64 0, .slice none 0 0] 24 (0, 0))) := ⟨fun W w2 hb hg => by
        have n1 := type_ne (cs := []) HV.out.2.1 HX.out.1 (by decide)
        have n2 := type_ne (cs := []) HV.out.2.1 HX.out.2 (by decide)
        have n3 : some b ≠ u3.ownBlock := fun e => absurd (own_base HV.out.2.1 b e.symm) (by omega)
        have hz := hb.size
        refine ⟨⟨?_, ?_⟩, ?_, ?_⟩
        · exact (World.grownBy.cell_far hg ⟨w.heap.size, 1, none⟩ (Nat.lt_of_lt_of_le hgr hz) n1).trans ((hb.cell (p := ⟨w.heap.size, 1, none⟩) hgr).trans hc1)
        · exact (World.grownBy.cell_far hg ⟨b, off + kk, none⟩ (Nat.lt_of_lt_of_le hblr hz) n3).trans ((hb.cell (p := ⟨b, off + kk, none⟩) hblr).trans hcell)
        · exact (hg.block _ (Nat.lt_of_lt_of_le hgr hz) n1).trans ((hb.block _ hgr).trans HX.out.1)
        · exact (hg.block _ (Nat.lt_of_lt_of_le hgr2 hz) n2).trans ((hb.block _ hgr2).trans HX.out.2)⟩
      go_wp2
      go_region_held3 (fun w' => w'.cell? ⟨w.heap.size, 1, none⟩ = some (.slice (some ⟨b, off, none⟩) m c) ∧ w'.cell? ⟨b, off + kk, none⟩ = some (.slice Ar rl cr)) (first | exact hS | go_keep | (go_split_ands; refine ⟨?_, ?_⟩ <;> first | (rw [hB.cell (p := ⟨w.heap.size, 1, none⟩) hgr]; assumption) | (rw [hB.cell (p := ⟨b, off + kk, none⟩) hblr]; assumption))) (first | (refine step_append_all (w0 := wr) wr.heap.size (by rfl) (.tmp 18) (.tmp 31) 37 3 (.int .i64 0) 8 rfl Try.underlying37 infoI rfl (by decide) (.slice (some ⟨wr.heap.size, 0, none⟩) 0 0) [] Ar kq cr (nums .i64 rt) rfl rfl (by simp) (by simp [nums, Value.oneCell']) (own_empty _ _) (by unfold nums; rw [List.length_map]; exact HT.out.1) (by omega) (fun hp => (HN.out hp).imp fun ad h => ⟨h.1, fun j u hj => (Below.cell (w := wr) (B := wr.heap.size) (by (repeat' (first | exact Below.refl _ _ | assumption | refine pw_below_drewN ?_ _ | refine below_drew ?_ | refine below_alloc ?_ _))) (World.block_lt_of_cell? wr _ (h.2 j u hj))).trans (h.2 j u hj)⟩) (by (repeat' (first | exact Below.refl _ _ | assumption | refine pw_below_drewN ?_ _ | refine below_drew ?_ | refine below_alloc ?_ _))) (by simp) (by simp; omega) ?_; intro v1 w1 hown hB hg hat; rw [show ([] ++ nums .i64 rt : List Value).length = kq from (by unfold nums; simp; exact HT.out.1)] at hown; obtain ⟨g1, cap1, rfl⟩ := own_form hown (by rcases hat with h | ⟨b1, h, _⟩ <;> (rw [h]; simp [Value.ownBlock])); have HO1 := Aside0.mk hown; clear hown hg hat) | (refine step_append_all (w0 := w) w.heap.size (by rfl) (.tmp 17) (.tmp 33) 22 37 (.slice none 0 0) 24 rfl Try.underlying22 infoII rfl (by decide) u3 vs _ 1 1 [.slice (some ⟨g1, 0, none⟩) kq cap1] rfl rfl (rows_one HV.out.1 HV.out.2.2) (by simp [Value.oneCell']) (by rw [hvl]; exact pw_own_below HV.out.2.1 (by (repeat' (first | exact Below.refl _ _ | assumption | refine pw_below_drewN ?_ _ | refine below_drew ?_ | refine below_alloc ?_ _)))) (by rfl) (by omega) (fun _ => ⟨_, rfl, World.news_of_block (cs := #[.slice (some ⟨g1, 0, none⟩) kq cap1]) (t := 37) (fr := (0, 0)) (heap_alloc_new _ _)⟩) (HB.out.trans (Below.mono (B := wr.heap.size) (by (repeat' (first | exact Below.refl _ _ | assumption | refine pw_below_drewN ?_ _ | refine below_drew ?_ | refine below_alloc ?_ _))) HB.out.size)) (Nat.le_trans HB.out.size (Below.size (w := wr) (B := wr.heap.size) (by (repeat' (first | exact Below.refl _ _ | assumption | refine pw_below_drewN ?_ _ | refine below_drew ?_ | refine below_alloc ?_ _))))) (by rw [hvl]; have := HL60.out; omega) ?_; intro v2 w2 hown2 hb2 hg2 hat2; have HRN := Aside0.mk (RowsB.snoc HV.out.1 (pw_own_below HV.out.2.1 (by (repeat' (first | exact Below.refl _ _ | assumption | refine pw_below_drewN ?_ _ | refine below_drew ?_ | refine below_alloc ?_ _)))) (fun j y r hy hr => ⟨pw_own_below (HV.out.2.2 j y r hy hr).1 (by (repeat' (first | exact Below.refl _ _ | assumption | refine pw_below_drewN ?_ _ | refine below_drew ?_ | refine below_alloc ?_ _))), (HV.out.2.2 j y r hy hr).2⟩) (r := rt) (show OwnR _ w.heap.size (.slice (some ⟨g1, 0, none⟩) kq cap1) rt from by unfold OwnR; rw [HT.out.1]; exact ⟨pw_own_below (own_weaken HO1.out HB.out.size) (by (repeat' (first | exact Below.refl _ _ | assumption | refine pw_below_drewN ?_ _ | refine below_drew ?_ | refine below_alloc ?_ _))), by simp [Value.ownBlock]⟩) hown2 hg2); have HF2 := Aside0.mk (HFar.out _ _ (by (repeat' (first | exact Below.refl _ _ | assumption | refine pw_below_drewN ?_ _ | refine below_drew ?_ | refine below_alloc ?_ _))) hg2); have hS := HF2.out.1; have HW2 := Aside0.mk hb2; have HB1 := Aside0.mk hB; clear hown2 hb2 hg2 hat2))
      all_goals
        have HRN2 := Aside0.mk (HT.out.2.2 ▸ HRN.out)
        clear HRN hS HB1 HV HN HFar hc0 hc1 hcell
        go_wp2
        go_roundg (60 - kk - 1)
        case measure => omega
        case rel => exact ⟨kk + 1, by omega, by omega, by omega, by go_num, HRN2, ⟨HF2.out.2⟩, HW2⟩
    · have HRF : Aside0 (RowsB wr w.heap.size u3 (boundL L)) := ⟨by
        have := HR.out
        rw [boundL_all L kk (by have := HC.out.2; omega)] at this
        exact this⟩
      obtain ⟨A', c', rfl, _, _⟩ := HRF.out.reads
      have k0 := blk_cellA HX.out.2 0
      have k1 := blk_cellA HX.out.2 1
      have l0 := blk_frozen HX.out.2 0
      have l1 := blk_frozen HX.out.2 1
      have HFin : Aside0 (((wr.setCell ⟨w.heap.size + 1, 0, none⟩ (.int .i64 n)).setCell ⟨w.heap.size + 1, 1, none⟩ (.slice A' (boundL L).length c')).heap[w.heap.size + 1]? = some (.cells #[.int .i64 n, .slice A' (boundL L).length c'] 24 (0, 0)) ∧
          RowsB ((wr.setCell ⟨w.heap.size + 1, 0, none⟩ (.int .i64 n)).setCell ⟨w.heap.size + 1, 1, none⟩ (.slice A' (boundL L).length c')) w.heap.size (.slice A' (boundL L).length c') (boundL L) ∧ Below w.heap.size w ((wr.setCell ⟨w.heap.size + 1, 0, none⟩ (.int .i64 n)).setCell ⟨w.heap.size + 1, 1, none⟩ (.slice A' (boundL L).length c'))) :=
        ⟨set2 HX.out.2 _ _, HRF.out.moved (set2_other HX.out.2 _ _), set2_below HB.out (by omega) _ _⟩
      have e0 : (kk < m ∧ decide ((kk : Int) < (m : Int)) = true ∧ decide ((kk : Int) < 60) = false) ∨ (¬ kk < m ∧ decide ((kk : Int) < (m : Int)) = false) := by
        rcases Nat.lt_or_ge kk m with hkn | hkn
        · left; simp; omega
        · right; simp; omega
      clear HR HRF
      rcases e0 with ⟨e3, e1, e2⟩ | ⟨e3, e1⟩
      all_goals
        go_wp2
        have z0 := blk_cellA HFin.out.1 0
        have z1 := blk_cellA HFin.out.1 1
        refine bodyPost_ret (v := .agg #[.int .i64 n, .slice A' (boundL L).length c']) (by simp [results, Try.results8, go_sem, z0, z1]) rfl ?_
        exact ⟨_, rfl, HFin.out.2.1, HFin.out.2.2⟩
end Go.Proofs.Ytbagcbiekpopbaa

namespace Go.Proofs.Ytbagcbiekpopbaa
open Go.RowKit Go.Proofs.YtbagcbiekpopbaaW.PrintWords Go.Proofs.YtbagcbiekpopbaaW.PrintLast
open Go.Sort (grow cell?_grow heap_grow_old)
set_option linter.unusedVariables false
set_option linter.unusedSimpArgs false

theorem boundL_len (L : List (List Int)) : (boundL L).length ≤ 60 := by unfold boundL; simp; omega
theorem boundL_row {L : List (List Int)} {r : List Int} (h : r ∈ boundL L) : r.length ≤ 12 := by
  unfold boundL at h
  obtain ⟨x, _, rfl⟩ := List.mem_map.1 h
  simp; omega
theorem Bound_any (n : Int) (A : Option Addr) (c : Nat) (L : List (List Int)) (w : World) (hC : Kd.C kII w A L.length L) (hc : L.length ≤ c) :
    Calls Try.prog 8 #[.agg #[.int .i64 n, .slice A L.length c]] w fun e w' => ∃ A' c', e = .returned (.agg #[.int .i64 n, .slice A' (boundL L).length c']) ∧ RowsB w' w.heap.size (.slice A' (boundL L).length c') (boundL L) ∧ Below w.heap.size w w' := by
  refine (Bound_walk n A c L w hC hc).mono ?_
  rintro e w' ⟨v, rfl, hS, hb⟩
  obtain ⟨A', c', rfl, h1, h2⟩ := hS.reads
  exact ⟨A', c', rfl, hS, hb⟩

end Go.Proofs.Ytbagcbiekpopbaa
