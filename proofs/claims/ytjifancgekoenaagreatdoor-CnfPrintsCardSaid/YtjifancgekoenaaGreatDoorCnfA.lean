import Derived.Test.YtjifancgekoenaaGreatDoorProg
import Derived.Test.YtjifancgekoenaaGreatDoorWMore
import Derived.Shelf.SlicesE.IndexFunc
import Derived.Lib.Hide
import Derived.Lib.Builder
import Derived.Test.YtjifancgekoenaaGreatDoorShelf
namespace Go.Proofs.YtjifancgekoenaaGreatDoor
open Go.RowKit Go.Proofs.YtjifancgekoenaaGreatDoorW.PrintWords Go.Proofs.YtjifancgekoenaaGreatDoorW.PrintLast
set_option linter.unusedVariables false
set_option linter.unusedSimpArgs false

/-- cnf.variable -/
def vari (x : Int) : Int := max 0 (if x < 0 then wrap64 (-x) else x)

theorem ret_int {k : IntKind} {a b : Int} (h : a = b) : Ending.returned (.int k a) = .returned (.int k b) := by rw [h]
theorem ret_bool {a b : Bool} (h : a = b) : Ending.returned (.bool a) = .returned (.bool b) := by rw [h]

set_option maxHeartbeats 1000000 in
set_option maxRecDepth 100000 in
theorem variable_any (x : Int) (w : World) : Calls Tryz.prog 36 #[.int .i64 x] w fun e w' => e = .returned (.int .i64 (vari x)) ∧ w = w' := by
  unfold vari
  by_cases h : x < 0
  · rw [if_pos h]
    go_enter Tryz.func36, Tryz.ntmps36
    go_wp2
    go_ret
    exact ⟨rfl, rfl⟩
  · rw [if_neg h]
    go_enter Tryz.func36, Tryz.ntmps36
    go_wp2
    go_ret
    exact ⟨rfl, rfl⟩

def isLit (x : Int) (a : List Bool) : Bool := decide (0 < vari x) && ((decide (vari x ≤ (a.length : Int)) && rdOf false a (vari x - 1)) == decide (0 < x))

theorem C_max {α : Type} {d : Kd α} {w : World} {A : Option Addr} {n : Nat} {xs : List α} (h : d.C w A n xs) : n ≤ 9223372036854775807 := h.2.1

theorem isLit_in {x : Int} {a : List Bool} {v : Int} {b : Bool} (h : vari x = v) (h1 : 0 < v) (h2 : v ≤ (a.length : Int)) (hb : rdOf false a (v - 1) = b) : isLit x a = (b == decide (0 < x)) := by
  simp [isLit, h, h1, h2, hb]
theorem isLit_off {x : Int} {a : List Bool} {v : Int} (h : vari x = v) (h1 : 0 < v) (h2 : ¬ v ≤ (a.length : Int)) : isLit x a = !decide (0 < x) := by
  simp [isLit, h, h1, h2]
theorem isLit_no {x : Int} {a : List Bool} {v : Int} (h : vari x = v) (h1 : ¬ 0 < v) : isLit x a = false := by
  simp [isLit, h, h1]

set_option maxHeartbeats 1000000 in
set_option maxRecDepth 100000 in
theorem is_any (x : Int) (A : Option Addr) (c : Nat) (l : List Bool) (w : World) (h : Kd.C Kd.bool w A l.length l) : Calls Tryz.prog 27 #[.int .i64 x, .slice A l.length c] w fun e w' => e = .returned (.bool (isLit x l)) ∧ ∃ n, w' = w.drewN n := by
  have HV := variable_any x w
  have hm := C_max h
  obtain ⟨v, hv⟩ : ∃ v, vari x = v := ⟨_, rfl⟩
  rw [hv] at HV
  by_cases h1 : 0 < v
  · by_cases h2 : v ≤ (l.length : Int)
    · obtain ⟨ad, rfl, hc⟩ := Kd.at_bool h (v - 1) (by omega) (by omega)
      have e1 : (0 : Int) ≤ v - 1 := by omega
      have e2 : v - 1 < (l.length : Int) := by omega
      obtain ⟨b, hb⟩ : ∃ b, rdOf false l (v - 1) = b := ⟨_, rfl⟩
      rw [hb, show (v - 1).toNat = v.toNat - 1 from by omega] at hc
      rw [isLit_in hv h1 h2 hb]
      clear h hb hv
      go_enter Tryz.func27, Tryz.ntmps27
      go_wp2_with (go_at_call 36; refine (HV).mono ?_; rintro e w' ⟨rfl, rfl⟩)
      go_ret
      exact ⟨rfl, 0, rfl⟩
    · have h3 : (l.length : Int) < v := by omega
      rw [isLit_off hv h1 h2]
      clear h hv
      go_enter Tryz.func27, Tryz.ntmps27
      go_wp2_with (go_at_call 36; refine (HV).mono ?_; rintro e w' ⟨rfl, rfl⟩)
      go_ret
      exact ⟨rfl, 0, rfl⟩
  · rw [isLit_no hv h1]
    clear h hv
    go_enter Tryz.func27, Tryz.ntmps27
    go_wp2_with (go_at_call 36; refine (HV).mono ?_; rintro e w' ⟨rfl, rfl⟩)
    go_ret
    exact ⟨rfl, 0, rfl⟩

theorem spot_none {w : World} {a : Addr} {v : Value} (h : w.cell? a = some v) : a.spot = none := by
  unfold World.cell? at h
  split at h
  · split at h
    · simp at h
    · rename_i hs
      simpa using hs
  · simp at h
theorem add_spot {a : Addr} (h : a.spot = none) (j : Nat) : a.add j = ⟨a.block, a.off + j, none⟩ := by
  unfold Addr.add
  split
  · subst_vars
    cases a
    simp_all
  · rfl
/-- A row of whole numbers that is read: where it lies. -/
theorem C_ints {w : World} {k : IntKind} {A : Option Addr} {xs : List Int} (h : Kd.C (Kd.int k) w A xs.length xs) (hp : 0 < xs.length) : ∃ b off, A = some ⟨b, off, none⟩ ∧ ∀ j, j < xs.length → w.cell? ⟨b, off + j, none⟩ = some (.int k xs[j]!) := by
  obtain ⟨ad, e, hc⟩ := Kd.at_int h 0 (by omega) (by omega)
  have hs : ad.spot = none := by
    have := spot_none hc
    simpa [Addr.add] using this
  refine ⟨ad.block, ad.off, by rw [e]; cases ad; simp_all, fun j hj => ?_⟩
  obtain ⟨ad', e', hc'⟩ := Kd.at_int h (j : Int) (by omega) (by omega)
  obtain rfl : ad = ad' := Option.some.inj (e.symm.trans e')
  rw [add_spot hs] at hc'
  simp only [Int.toNat_natCast] at hc'
  rw [hc']
  simp [rd, List.getD_eq_getElem?_getD, List.getElem!_eq_getElem?_getD]

theorem cell_new (w : World) (cs : Array Value) (t : TypeId) (j : Nat) : (w.alloc (.cells cs t)).cell? ⟨w.heap.size, j, none⟩ = cs[j]? := Lib.cell_of_heap (heap_alloc_new w _) j
/-! the closure of Clause, and Clause -/
set_option maxHeartbeats 1000000 in
set_option maxRecDepth 100000 in
theorem clause_fn (A : Option Addr) (c B : Nat) (l : List Bool) (w : World) (h : Kd.C Kd.bool w A l.length l) (hB : B < w.heap.size) (hc : w.cell? ⟨B, 0, none⟩ = some (.slice A l.length c)) :
    PredAt Tryz.prog 26 #[.pointer (some ⟨B, 0, none⟩)] (Value.int .i64) (fun x => isLit x l) w := by
  intro W x hb
  have hc' := (hb.cell (p := ⟨B, 0, none⟩) hB).trans hc
  have HI := is_any x A c l W (Kd.C_below h hb)
  clear h hc hb
  show FnGives Tryz.prog 26 #[.pointer (some ⟨B, 0, none⟩)] #[.int .i64 x] (.bool (isLit x l)) W
  generalize isLit x l = r at *
  unfold FnGives
  go_enter Tryz.func26, Tryz.ntmps26
  go_wp2_with (go_at_call 27; refine HI.mono ?_; rintro e w' ⟨rfl, n, rfl⟩)
  go_ret
  exact ⟨rfl, n, rfl⟩

def clauseB (l : List Int) (a : List Bool) : Bool := l.any fun x => isLit x a

set_option maxHeartbeats 1000000 in
set_option maxRecDepth 100000 in
theorem Clause_any (A0 : Option Addr) (c0 : Nat) (l0 : List Int) (A1 : Option Addr) (c1 : Nat) (l1 : List Bool) (w : World) (h0 : Kd.C (Kd.int .i64) w A0 l0.length l0) (h1 : Kd.C Kd.bool w A1 l1.length l1) :
    Calls Tryz.prog 10 #[.slice A0 l0.length c0, .slice A1 l1.length c1] w fun e w' => e = .returned (.bool (clauseB l0 l1)) ∧ Below w.heap.size w w' := by
  have eg : ∀ args w, (callFunc 26 args).run Tryz.prog w = .ok (.enter 26 args) w := enters_of Tryz.func26 (by kernel_rfl) rfl
  by_cases hp : 0 < l0.length
  · obtain ⟨b, off, rfl, hc⟩ := C_ints h0 hp
    have hm := C_max h0
    have HC := fun W (hW : PredAt Tryz.prog 26 #[.pointer (some ⟨w.heap.size, 0, none⟩)] (Value.int .i64) (fun x => isLit x l1) W) (hcW : ∀ j, j < l0.length → W.cell? ⟨b, off + j, none⟩ = some (.int .i64 l0[j]!)) =>
      AnyE.slices_ContainsFunc Tryz.contI (Value.int .i64) (fun x => isLit x l1) 26 #[.pointer (some ⟨w.heap.size, 0, none⟩)] eg b off l0.length c0 l0 W hW (Nat.le_refl _) hm hcW
    have hP := clause_fn A1 c1 w.heap.size l1 (w.alloc (.cells #[.slice A1 l1.length c1] 23)) (Kd.C_alloc h1 _) (by simp) (cell_new _ _ _ 0)
    have hcw : ∀ j, j < l0.length → (w.alloc (.cells #[.slice A1 l1.length c1] 23)).cell? ⟨b, off + j, none⟩ = some (.int .i64 l0[j]!) := fun j hj => pw_cell_below ((Below.refl _ w).alloc (Nat.le_refl _) _) (hc j hj)
    have HH := HC _ hP hcw
    change Calls Tryz.prog 25 _ _ _ at HH
    rw [List.take_length] at HH
    clear HC hP hcw hc h0 h1
    unfold clauseB
    generalize (l0.any fun x => isLit x l1) = r at *
    go_enter Tryz.func10, Tryz.ntmps10
    go_wp2_with (go_at_call 25; refine HH.mono ?_; rintro e w' ⟨rfl, n, rfl⟩)
    go_ret
    exact ⟨rfl, pw_below_drewN ((Below.refl _ w).alloc (Nat.le_refl _) _) n⟩
  · obtain rfl : l0 = [] := List.eq_nil_of_length_eq_zero (by omega)
    have HH := fun fv W => AnyE.slices_ContainsFunc_empty Tryz.contI A0 c0 fv W
    change ∀ fv W, Calls Tryz.prog 25 _ _ _ at HH
    clear h0 h1
    go_enter Tryz.func10, Tryz.ntmps10
    go_wp2_with (go_at_call 25; refine (HH _ _).mono ?_; rintro e w' ⟨rfl, rfl⟩)
    go_ret
    exact ⟨rfl, (Below.refl _ w).alloc (Nat.le_refl _) _⟩

end Go.Proofs.YtjifancgekoenaaGreatDoor
