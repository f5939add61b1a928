import Derived.Test.YtdgkbigmdadlaaaGreatDoorProg
import Derived.Test.YtdgkbigmdadlaaaGreatDoorWMore
import Derived.Lib.Hide
import Derived.Lib.Builder
import Derived.Test.YtdgkbigmdadlaaaGreatDoorShelf
import Derived.Test.YtdgkbigmdadlaaaGreatDoorBuild
import Derived.Test.YtdgkbigmdadlaaaGreatDoorAsmB
import Derived.Test.YtdgkbigmdadlaaaGreatDoorRefA
import Derived.WalkSpells
import Derived.Laws.Tables
import Derived.Laws.Rows
import Derived.Deep.WholeRow
import Derived.Shelf.SlSortCmp.QuietGrown
import Derived.Deep.RegionHeld3
import Derived.Deep.RegionLaw
import Derived.Deep.DeepCutAuto
import Derived.Lib.ItoaLen
namespace Go.Proofs.YtdgkbigmdadlaaaGreatDoor
open Go.RowKit Go.Lib Go.Proofs.YtdgkbigmdadlaaaGreatDoorW.PrintWords Go.Proofs.YtdgkbigmdadlaaaGreatDoorW.PrintLast
open Go.Sort (grow cell?_grow heap_grow_old)
set_option linter.unusedVariables false
set_option linter.unusedSimpArgs false

theorem below_drewN {B : Nat} {a w : World} (h : Below B a w) (n : Nat) : Below B a (w.drewN n) := ⟨h.os, h.tape, h.output, h.size, h.block⟩
theorem bel1 (w : World) (a : Obj) : Below w.heap.size w (w.alloc a) := (Below.refl _ _).alloc (Nat.le_refl _) _
theorem bel_drewN (w : World) (n : Nat) : Below w.heap.size w (w.drewN n) := below_drewN (Below.refl _ _) n
theorem below_growX {B : Nat} {w W : World} (h : Below B w W) (hs : B ≤ W.heap.size) (os : Array Obj) : Below B w (grow W os) :=
  h.trans ⟨rfl, rfl, rfl, by simp, fun i hi => heap_grow_old W os (by omega)⟩
theorem below_after {a w1 w2 : World} {B : Nat} (h : Below B a w1) (hb : Below w1.heap.size w1 w2) (hB : B ≤ a.heap.size) : Below B a w2 := h.trans (hb.mono (Nat.le_trans hB h.size))
theorem cell_new (w : World) (cs : Array Value) (t : TypeId) (j : Nat) : (w.alloc (.cells cs t)).cell? ⟨w.heap.size, j, none⟩ = cs[j]? := Lib.cell_of_heap (heap_alloc_new w _) j
def bytesB (l : List UInt8) : ByteArray := ⟨l.toArray⟩
def itoaB (n : Int) : ByteArray := bytesB (Lib.itoa n)
theorem bytesB_size (l : List UInt8) : (bytesB l).size = l.length := by simp [bytesB, ByteArray.size]
theorem toList_bytes (l : List UInt8) : (bytesB l).toList = l := by simp [bytesB]
theorem bytesB_data (l : List UInt8) : (bytesB l).data.toList = l := rfl
theorem bytesB_app (s t : List UInt8) : bytesB s ++ bytesB t = bytesB (s ++ t) := by
  apply ByteArray.ext
  apply Array.ext'
  simp [bytesB]
theorem bytesB_inj {s t : List UInt8} (h : bytesB s = bytesB t) : s = t := by
  have := congrArg (fun b => b.data.toList) h
  exact this
theorem bytesB_take (s : List UInt8) (k : Nat) : (bytesB s).extract 0 k = bytesB (s.take k) := by
  apply ByteArray.ext
  apply Array.ext'
  simp [bytesB, ByteArray.data_extract]

/-- What the package-level variables hold. -/
structure Laid (w : World) : Prop where
  pow : Lib.TabIs Tryz.prog w "internal/strconv.uint64pow10" .u64 Lib.pow10Tab
  maxl : ∃ z, w.cell? ⟨0, 0, none⟩ = some (.int .i64 z)
  syn : ∃ t p, w.cell? ⟨1, 0, none⟩ = some (.iface t p)
  rng : ∃ t p, w.cell? ⟨2, 0, none⟩ = some (.iface t p)
theorem tab_below {P : Program} {n : String} {g : Nat} {k : IntKind} {zs : List Int} {w w' : World} (hg : P.globalNamed n = some g) (h : Lib.TabIs P w n k zs) (hb : Below w.heap.size w w') : Lib.TabIs P w' n k zs := by
  unfold Lib.TabIs World.var? at h ⊢
  rw [hg] at h ⊢
  simp only [Option.bind_some] at h ⊢
  have hlt : g < w.heap.size := by
    rcases Nat.lt_or_ge g w.heap.size with h' | h'
    · exact h'
    · rw [Array.getElem?_eq_none h'] at h; cases h
  rw [hb.block g hlt]
  exact h
theorem gPow : Tryz.prog.globalNamed "internal/strconv.uint64pow10" = some 5 := by kernel_rfl
theorem Laid.below {w w' : World} (h : Laid w) (hb : Below w.heap.size w w') : Laid w' where
  pow := tab_below gPow h.pow hb
  maxl := h.maxl.imp fun _ hz => pw_cell_below hb hz
  syn := h.syn.imp fun _ h => h.imp fun _ hz => pw_cell_below hb hz
  rng := h.rng.imp fun _ h => h.imp fun _ hz => pw_cell_below hb hz
theorem itoaB_size (n : Int) (h0 : -9223372036854775808 ≤ n) (h1 : n ≤ 9223372036854775807) : (itoaB n).size ≤ 21 := by
  unfold itoaB; rw [bytesB_size]; exact Lib.itoa_length_le n h0 h1

/-! the library's functions -/
theorem Itoa_below (n : Int) (h0 : -9223372036854775808 ≤ n) (h1 : n ≤ 9223372036854775807) (w : World) (hL : Laid w) :
    Calls Tryz.prog 34 #[.int .i64 n] w fun e w' => e = .returned (.string (itoaB n)) ∧ Below w.heap.size w w' :=
  (Tryz.strconv_Itoa n h0 h1 w hL.pow).mono fun _ _ ⟨h1, k, os, h2⟩ => ⟨h1, h2 ▸ below_growX (bel_drewN w k) (Nat.le_refl _) os⟩
theorem below_bytesWorld (w : World) (t : ByteArray) : Below w.heap.size w (Lib.bytesWorld w 5 t) := by
  unfold Lib.bytesWorld
  exact Lib.below_freeze ((below_drew (Below.refl _ _)).alloc (Nat.le_refl _) _) (Nat.le_refl _) _
theorem Atoi_any (l : List UInt8) (hl : l.length ≤ 1000000000) (w : World) (hL : Laid w) :
    Calls Tryz.prog 48 #[.string (bytesB l)] w fun e w' => (∃ ev, e = .returned (.tuple #[.int .i64 (atoiV l), ev])) ∧ Below w.heap.size w w' := by
  have hs : (bytesB l).size ≤ 1000000000 := by rw [bytesB_size]; exact hl
  have hd : (bytesB l).data.toList = l := rfl
  unfold atoiV
  rcases h : Lib.atoiAll l with v | _ | _
  · refine (Tryz.strconv_Atoi_ok (bytesB l) (by omega) v (by rw [hd]; exact h) w).mono ?_
    rintro e w' ⟨rfl, h2⟩
    refine ⟨⟨_, rfl⟩, ?_⟩
    rcases h2 with rfl | ⟨t, rfl⟩
    · exact Below.refl _ _
    · exact below_bytesWorld _ _
  · obtain ⟨t, p, hv⟩ := hL.syn
    refine (Tryz.strconv_Atoi_syntax (bytesB l) (by omega) (by rw [hd]; exact h) _ w hv (.inr ⟨_, _, rfl⟩)).mono ?_
    rintro e w' ⟨N, rfl, _, _, hb⟩
    exact ⟨⟨_, rfl⟩, hb⟩
  · obtain ⟨t, p, hv⟩ := hL.rng
    refine (Tryz.strconv_Atoi_range (bytesB l) (by omega) (by rw [hd]; exact h) _ w hv (.inr ⟨_, _, rfl⟩)).mono ?_
    rintro e w' ⟨N, rfl, _, _, hb⟩
    exact ⟨⟨_, rfl⟩, hb⟩
theorem Cut_any (c : UInt8) (l : List UInt8) (hl : l.length ≤ 1000000000) (w : World) (hL : Laid w) :
    Calls Tryz.prog 13 #[.string (bytesB l), .string ⟨#[c]⟩] w fun e w' => e = .returned (.tuple #[.string (bytesB (cutB c l).1), .string (bytesB (cutB c l).2.1), .bool (cutB c l).2.2]) ∧ Below w.heap.size w w' := by
  obtain ⟨m, hm⟩ := hL.maxl
  have h := Tryz.strings_Cut (bytesB l) ⟨#[c]⟩ m w (by rw [bytesB_size]; omega) hm
  have hd : (bytesB l).data.toList = l := rfl
  have he : (ByteArray.mk #[c]).data.toList = [c] := rfl
  rw [hd, he, cutB_eq] at h
  refine h.mono ?_
  rintro e w' ⟨h1, n, rfl⟩
  exact ⟨h1, bel_drewN w n⟩
theorem TrimPrefix_any (l p : List UInt8) (w : World) :
    Calls Tryz.prog 47 #[.string (bytesB l), .string (bytesB p)] w fun e w' => e = .returned (.string (bytesB (Lib.trimPrefix l p))) ∧ w = w' := by
  refine (Tryz.strings_TrimPrefix (bytesB l) (bytesB p) w).mono ?_
  rintro e w' ⟨h1, h2⟩
  exact ⟨h1, h2.symm⟩
theorem TrimSuffix_any (l p : List UInt8) (hl : l.length ≤ 1000000000) (w : World) :
    Calls Tryz.prog 49 #[.string (bytesB l), .string (bytesB p)] w fun e w' => e = .returned (.string (bytesB (Lib.trimSuffix l p))) ∧ w = w' := by
  refine (Tryz.strings_TrimSuffix (bytesB l) (bytesB p) w (by rw [bytesB_size]; omega)).mono ?_
  rintro e w' ⟨h1, h2⟩
  exact ⟨h1, h2.symm⟩

/-! the tables -/
def namesV : Array Value := (nameTab.map fun n => Value.string (bytesB n)).toArray
def kindsV : Array Value := #[.int .u8 85, .int .u32 55, .int .u32 0, .int .u32 0, .int .u8 85, .int .u32 23, .int .u32 0, .int .u32 0, .int .u8 74, .int .u32 111, .int .u32 0, .int .u32 0, .int .u8 73, .int .u32 103, .int .u32 0, .int .u32 0, .int .u8 66, .int .u32 99, .int .u32 0, .int .u32 0, .int .u8 66, .int .u32 99, .int .u32 1, .int .u32 0, .int .u8 66, .int .u32 99, .int .u32 4, .int .u32 0, .int .u8 66, .int .u32 99, .int .u32 5, .int .u32 0, .int .u8 66, .int .u32 99, .int .u32 6, .int .u32 0, .int .u8 66, .int .u32 99, .int .u32 7, .int .u32 0, .int .u8 73, .int .u32 3, .int .u32 0, .int .u32 0, .int .u8 73, .int .u32 3, .int .u32 1, .int .u32 0, .int .u8 73, .int .u32 3, .int .u32 2, .int .u32 0, .int .u8 73, .int .u32 3, .int .u32 4, .int .u32 0, .int .u8 73, .int .u32 3, .int .u32 5, .int .u32 0, .int .u8 83, .int .u32 35, .int .u32 0, .int .u32 0, .int .u8 83, .int .u32 35, .int .u32 1, .int .u32 0, .int .u8 83, .int .u32 35, .int .u32 2, .int .u32 0, .int .u8 73, .int .u32 19, .int .u32 0, .int .u32 0, .int .u8 73, .int .u32 19, .int .u32 2, .int .u32 0, .int .u8 73, .int .u32 19, .int .u32 3, .int .u32 0, .int .u8 73, .int .u32 19, .int .u32 4, .int .u32 0, .int .u8 73, .int .u32 19, .int .u32 6, .int .u32 0, .int .u8 73, .int .u32 19, .int .u32 7, .int .u32 0, .int .u8 72, .int .u32 19, .int .u32 1, .int .u32 0, .int .u8 72, .int .u32 19, .int .u32 5, .int .u32 0, .int .u8 72, .int .u32 19, .int .u32 5, .int .u32 32, .int .u8 82, .int .u32 51, .int .u32 0, .int .u32 0, .int .u8 82, .int .u32 51, .int .u32 0, .int .u32 32, .int .u8 82, .int .u32 51, .int .u32 1, .int .u32 0, .int .u8 82, .int .u32 51, .int .u32 2, .int .u32 0, .int .u8 82, .int .u32 51, .int .u32 3, .int .u32 0, .int .u8 82, .int .u32 51, .int .u32 4, .int .u32 0, .int .u8 82, .int .u32 51, .int .u32 5, .int .u32 0, .int .u8 82, .int .u32 51, .int .u32 5, .int .u32 32, .int .u8 82, .int .u32 51, .int .u32 6, .int .u32 0, .int .u8 82, .int .u32 51, .int .u32 7, .int .u32 0, .int .u8 82, .int .u32 51, .int .u32 0, .int .u32 1, .int .u8 82, .int .u32 51, .int .u32 1, .int .u32 1, .int .u8 82, .int .u32 51, .int .u32 2, .int .u32 1, .int .u8 82, .int .u32 51, .int .u32 3, .int .u32 1, .int .u8 82, .int .u32 51, .int .u32 4, .int .u32 1, .int .u8 82, .int .u32 51, .int .u32 5, .int .u32 1, .int .u8 82, .int .u32 51, .int .u32 6, .int .u32 1, .int .u8 82, .int .u32 51, .int .u32 7, .int .u32 1, .int .u8 69, .int .u32 115, .int .u32 0, .int .u32 0, .int .u8 69, .int .u32 115, .int .u32 0, .int .u32 0]
theorem wpList_build_is {P : Program} {ops : Array Oper} {rest : List Oper} {o : Oper} {a : Act} {w : World} {Q : Exit → Act → World → Prop} (hg : o.guard = none) (t : TypeId) (parts : Array (Nat × Operand)) (ho : o.op = .build t parts)
    (v : Array Value) (hf : P.built t (parts.map fun (i, x) => (i, a.eval x)).toList = some v)
    (h : wpList P ops Q rest (a.put o.dst (.agg v)) w) : wpList P ops Q (o :: rest) a w :=
  wpList_build hg t parts ho (by rw [hf]; rfl) (by rw [hf]; exact h)
theorem names_all : namesV.all (·.oneCell') = true := by kernel_rfl
theorem kinds_all : kindsV.all (·.oneCell') = true := by kernel_rfl
set_option maxHeartbeats 4000000 in
set_option maxRecDepth 100000 in
theorem named_any (w : World) : Calls Tryz.prog 31 #[] w fun e w' => e = .returned (.agg namesV) ∧ Below w.heap.size w w' := by
  go_enter Tryz.func31, Tryz.ntmps31
  go_wp2_with (first | (refine wpList_build_is rfl 60 _ rfl namesV (by kernel_rfl) ?_) | (refine wpList_store_row rfl 60 (.tmp 0) (.tmp 1) rfl w.heap.size namesV rfl rfl 60 _ (heap_alloc_new _ _) (by kernel_rfl) (by kernel_rfl) names_all ?_; rw [World.setRow_alloc_new]))
  refine bodyPost_ret (v := .agg namesV) (results_cell_row (p := 0) (by kernel_rfl) _ _ w.heap.size 60 namesV (0, 0) _ rfl (heap_alloc_new _ _) Tryz.underlying60 rfl (by kernel_rfl)) rfl ⟨rfl, (Below.refl _ _).alloc (Nat.le_refl _) _⟩
/-- A run of operations that build. -/
def runBuilds (P : Program) : List Oper → Act → Option Act
  | [], a => some a
  | o :: l, a => match o.op, o.guard with
    | .build t parts, none => match P.built t (parts.map fun (i, x) => (i, a.eval x)).toList with
      | some v => runBuilds P l (a.put o.dst (.agg v))
      | none => none
    | _, _ => none
theorem wpList_builds {P : Program} {ops : Array Oper} {Q : Exit → Act → World → Prop} {w : World} {rest : List Oper} : ∀ (l : List Oper) (a a' : Act), runBuilds P l a = some a' → wpList P ops Q rest a' w → wpList P ops Q (l ++ rest) a w
  | [], a, a', h, hK => by
    obtain rfl := Option.some.inj h
    exact hK
  | o :: l, a, a', h, hK => by
    unfold runBuilds at h
    split at h
    · rename_i t parts ho hg
      split at h
      · rename_i v hv
        exact wpList_build_is hg t parts ho v hv (wpList_builds l _ a' h hK)
      · cases h
    · cases h
theorem wpList_builds_n {P : Program} {ops : Array Oper} {Q : Exit → Act → World → Prop} {w : World} {L : List Oper} {a : Act} (n : Nat) (h : (runBuilds P (L.take n) a).isSome = true) (hK : wpList P ops Q (L.drop n) ((runBuilds P (L.take n) a).getD a) w) : wpList P ops Q L a w := by
  obtain ⟨a', ha⟩ := Option.isSome_iff_exists.1 h
  rw [ha] at hK
  have := wpList_builds (rest := L.drop n) (ops := ops) (Q := Q) (w := w) _ a a' ha hK
  rwa [List.take_append_drop] at this
set_option maxHeartbeats 4000000 in
set_option maxRecDepth 100000 in
theorem kinds_any (w : World) : Calls Tryz.prog 46 #[] w fun e w' => e = .returned (.agg kindsV) ∧ Below w.heap.size w w' := by
  go_enter Tryz.func46, Tryz.ntmps46
  go_wp2_with (refine wpList_builds_n 48 (by kernel_rfl) ?_; generalize hA : (runBuilds _ _ _).getD _ = a1; (have e0 : a1.eval (.tmp 0) = .pointer (some ⟨w.heap.size, 0, none⟩) := by (rw [← hA]; kernel_rfl)); (have e48 : a1.eval (.tmp 48) = .agg kindsV := by (rw [← hA]; kernel_rfl)); (have er : (a1.put none undef).tmps.getD 0 undef = .pointer (some ⟨w.heap.size, 0, none⟩) := by (rw [← hA]; kernel_rfl)); (have ed : (a1.put none undef).defers = [] := by (rw [← hA]; kernel_rfl)); clear hA; simp only [List.drop]; refine wpList_store_row rfl 73 (.tmp 0) (.tmp 48) rfl w.heap.size kindsV e0 e48 73 _ (heap_alloc_new _ _) (by kernel_rfl) (by kernel_rfl) kinds_all ?_; rw [World.setRow_alloc_new])
  refine bodyPost_ret (v := .agg kindsV) (results_cell_row (p := 0) (by kernel_rfl) _ _ w.heap.size 73 kindsV (0, 0) _ er (heap_alloc_new _ _) Tryz.underlying73 rfl (by kernel_rfl)) ed ⟨rfl, (Below.refl _ _).alloc (Nat.le_refl _) _⟩
theorem index_names (k : Nat) (hk : k < 47) (w : World) : (Instr.index 60 (.agg namesV) (.int .i64 (k : Int))).run Tryz.prog w = .ok (.string (bytesB (nameTab.getD k []))) w :=
  match k, hk with
  | 0, _ => by kernel_rfl
  | 1, _ => by kernel_rfl
  | 2, _ => by kernel_rfl
  | 3, _ => by kernel_rfl
  | 4, _ => by kernel_rfl
  | 5, _ => by kernel_rfl
  | 6, _ => by kernel_rfl
  | 7, _ => by kernel_rfl
  | 8, _ => by kernel_rfl
  | 9, _ => by kernel_rfl
  | 10, _ => by kernel_rfl
  | 11, _ => by kernel_rfl
  | 12, _ => by kernel_rfl
  | 13, _ => by kernel_rfl
  | 14, _ => by kernel_rfl
  | 15, _ => by kernel_rfl
  | 16, _ => by kernel_rfl
  | 17, _ => by kernel_rfl
  | 18, _ => by kernel_rfl
  | 19, _ => by kernel_rfl
  | 20, _ => by kernel_rfl
  | 21, _ => by kernel_rfl
  | 22, _ => by kernel_rfl
  | 23, _ => by kernel_rfl
  | 24, _ => by kernel_rfl
  | 25, _ => by kernel_rfl
  | 26, _ => by kernel_rfl
  | 27, _ => by kernel_rfl
  | 28, _ => by kernel_rfl
  | 29, _ => by kernel_rfl
  | 30, _ => by kernel_rfl
  | 31, _ => by kernel_rfl
  | 32, _ => by kernel_rfl
  | 33, _ => by kernel_rfl
  | 34, _ => by kernel_rfl
  | 35, _ => by kernel_rfl
  | 36, _ => by kernel_rfl
  | 37, _ => by kernel_rfl
  | 38, _ => by kernel_rfl
  | 39, _ => by kernel_rfl
  | 40, _ => by kernel_rfl
  | 41, _ => by kernel_rfl
  | 42, _ => by kernel_rfl
  | 43, _ => by kernel_rfl
  | 44, _ => by kernel_rfl
  | 45, _ => by kernel_rfl
  | 46, _ => by kernel_rfl
  | k + 47, h => absurd h (by omega)
end Go.Proofs.YtdgkbigmdadlaaaGreatDoor
