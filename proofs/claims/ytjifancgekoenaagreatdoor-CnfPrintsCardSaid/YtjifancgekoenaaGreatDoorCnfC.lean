import Derived.Test.YtjifancgekoenaaGreatDoorCnfB
import Derived.Test.YtjifancgekoenaaGreatDoorBuild
import Derived.Shelf.SlSortCmp.QuietGrown
import Derived.Deep.RegionHeld3
import Derived.Deep.DeepCutAuto
import Derived.Lib.ItoaLen
namespace Go.Proofs.YtjifancgekoenaaGreatDoor
open Go.RowKit Go.Lib Go.Proofs.YtjifancgekoenaaGreatDoorW.PrintWords Go.Proofs.YtjifancgekoenaaGreatDoorW.PrintLast
open Go.Sort (grow cell?_grow heap_grow_old)
set_option linter.unusedVariables false
set_option linter.unusedSimpArgs false

/-- What the package-level variables hold. -/
structure Laid (w : World) : Prop where
  pow : Lib.TabIs Tryz.prog w "internal/strconv.uint64pow10" .u64 Lib.pow10Tab
  maxl : ∃ z, w.cell? ⟨1, 0, none⟩ = some (.int .i64 z)
  asp : Lib.TabIs Tryz.prog w "strings.asciiSpace" .u8 Lib.asciiSpaceTab
  white : Lib.WhiteTab 2 w
  syn : ∃ t p, w.cell? ⟨4, 0, none⟩ = some (.iface t p)
  rng : ∃ t p, w.cell? ⟨5, 0, none⟩ = some (.iface t p)
theorem tab_below {P : Program} {n : String} {g : Nat} {k : IntKind} {zs : List Int} {w w' : World} (hg : P.globalNamed n = some g) (h : Lib.TabIs P w n k zs) (hb : Below w.heap.size w w') : Lib.TabIs P w' n k zs := by
  unfold Lib.TabIs World.var? at h ⊢
  rw [hg] at h ⊢
  simp only [Option.bind_some] at h ⊢
  have hlt : g < w.heap.size := by
    rcases Nat.lt_or_ge g w.heap.size with h' | h'
    · exact h'
    · rw [Array.getElem?_eq_none h'] at h; cases h
  rw [hb.block g hlt]
  exact h
theorem gPow : Tryz.prog.globalNamed "internal/strconv.uint64pow10" = some 3 := by kernel_rfl
theorem gAsp : Tryz.prog.globalNamed "strings.asciiSpace" = some 0 := by kernel_rfl
theorem Laid.below {w w' : World} (h : Laid w) (hb : Below w.heap.size w w') : Laid w' where
  pow := tab_below gPow h.pow hb
  maxl := h.maxl.imp fun _ hz => pw_cell_below hb hz
  asp := tab_below gAsp h.asp hb
  white := WhiteTab_below h.white hb
  syn := h.syn.imp fun _ h => h.imp fun _ hz => pw_cell_below hb hz
  rng := h.rng.imp fun _ h => h.imp fun _ hz => pw_cell_below hb hz

theorem below_grow (w : World) (n : Nat) (os : Array Obj) : Below w.heap.size w (grow (w.drewN n) os) := below_grown w n os
def bytesB (l : List UInt8) : ByteArray := ⟨l.toArray⟩
def itoaB (n : Int) : ByteArray := bytesB (Lib.itoa n)
theorem bytesB_size (l : List UInt8) : (bytesB l).size = l.length := by simp [bytesB, ByteArray.size]
theorem itoaB_size (n : Int) (h0 : -9223372036854775808 ≤ n) (h1 : n ≤ 9223372036854775807) : (itoaB n).size ≤ 21 := by
  unfold itoaB; rw [bytesB_size]; exact Lib.itoa_length_le n h0 h1
theorem Itoa_any (n : Int) (h0 : -9223372036854775808 ≤ n) (h1 : n ≤ 9223372036854775807) (w : World) (hL : Laid w) :
    Calls Tryz.prog 30 #[.int .i64 n] w fun e w' => e = .returned (.string (itoaB n)) ∧ ∃ k os, w' = grow (w.drewN k) os :=
  Tryz.strconv_Itoa n h0 h1 w hL.pow
theorem Itoa_below (n : Int) (h0 : -9223372036854775808 ≤ n) (h1 : n ≤ 9223372036854775807) (w : World) (hL : Laid w) :
    Calls Tryz.prog 30 #[.int .i64 n] w fun e w' => e = .returned (.string (itoaB n)) ∧ Below w.heap.size w w' :=
  (Tryz.strconv_Itoa n h0 h1 w hL.pow).mono fun _ _ ⟨h1, k, os, h2⟩ => ⟨h1, h2 ▸ below_grow _ _ _⟩

theorem builder_below {T e : TypeId} {B b : Nat} {p : Value} {bs : List Value} {w w' : World} (h : Lib.BuilderAt T e B b p bs w) (hb : Below w.heap.size w w') : Lib.BuilderAt T e B b p bs w' := by
  obtain ⟨h1, v, h2, h3, h4⟩ := h
  have hlt : b < w.heap.size := by
    rcases Nat.lt_or_ge b w.heap.size with h' | h'
    · exact h'
    · rw [Array.getElem?_eq_none h'] at h2; cases h2
  exact ⟨h1, v, (hb.block b hlt).trans h2, pw_own_below h3 hb, h4⟩
theorem isBuilder_below {T e : TypeId} {B b : Nat} {bs : List Value} {w w' : World} (h : Lib.IsBuilder T e B b bs w) (hb : Below w.heap.size w w') : Lib.IsBuilder T e B b bs w' :=
  h.imp (fun h => builder_below h hb) (fun h => builder_below h hb)
theorem below_growX {B : Nat} {w W : World} (h : Below B w W) (hs : B ≤ W.heap.size) (os : Array Obj) : Below B w (grow W os) :=
  h.trans ⟨rfl, rfl, rfl, by simp, fun i hi => heap_grow_old W os (by omega)⟩
/-- A fresh builder. -/
theorem builder_new (B : Nat) (w : World) (hB : B ≤ w.heap.size) (T e : TypeId) : Lib.IsBuilder T e B w.heap.size [] (w.alloc (.cells #[.pointer none, .slice none 0 0] T)) :=
  .inl ⟨hB, .slice none 0 0, heap_alloc_new w _, own_nil _ _ _ _, by simp [Value.ownBlock]⟩

def headL (n : Int) (m : Int) : List UInt8 := [112, 32, 99, 110, 102, 32] ++ Lib.itoa n ++ [32] ++ Lib.itoa m ++ [10]
def rowL (l : List Int) : List UInt8 := l.flatMap (fun x => Lib.itoa x ++ [32]) ++ [48, 10]
def printL (n : Int) (l : List (List Int)) : List UInt8 := headL n l.length ++ l.flatMap rowL

def Wf (l : List Int) : Prop := ∀ x ∈ l, -9223372036854775808 ≤ x ∧ x ≤ 9223372036854775807
def WfL (l : List (List Int)) : Prop := ∀ x ∈ l, Wf x
def bulk (l : List (List Int)) : Nat := l.length + (l.map List.length).sum

theorem strCells_app (a b : ByteArray) : Lib.strCells (a ++ b) = Lib.strCells a ++ Lib.strCells b := by
  rw [Lib.strCells_eq, Lib.strCells_eq, Lib.strCells_eq, ← Lib.byteCells_append]
  simp
theorem strCells_bytes (l : List UInt8) : Lib.strCells (bytesB l) = Lib.byteCells l := rfl
theorem strCells_itoa (n : Int) : Lib.strCells (itoaB n) = Lib.byteCells (Lib.itoa n) := rfl
theorem cells_head (n m : Int) : ([] : List Value) ++ Lib.strCells ((⟨#[112, 32, 99, 110, 102, 32]⟩ : ByteArray) ++ itoaB n ++ (⟨#[32]⟩ : ByteArray) ++ itoaB m ++ (⟨#[10]⟩ : ByteArray)) = Lib.byteCells (headL n m) := by
  simp only [strCells_app, strCells_itoa, headL, Lib.byteCells_append, List.nil_append]
  rfl
theorem cells_lit (acc : List UInt8) (x : Int) : Lib.byteCells acc ++ Lib.strCells (itoaB x ++ (⟨#[32]⟩ : ByteArray)) = Lib.byteCells (acc ++ (Lib.itoa x ++ [32])) := by
  simp only [strCells_app, strCells_itoa, Lib.byteCells_append]
  rfl
theorem cells_end (acc : List UInt8) : Lib.byteCells acc ++ Lib.strCells (⟨#[48, 10]⟩ : ByteArray) = Lib.byteCells (acc ++ [48, 10]) := by
  simp only [Lib.byteCells_append]
  rfl
/-- How much a row takes, and all rows. -/
theorem litsL_len {r : List Int} (hr : Wf r) : (r.flatMap (fun x => Lib.itoa x ++ [32])).length ≤ 22 * r.length := by
  induction r with
  | nil => simp
  | cons x r ih =>
    have h1 := ih (fun y hy => hr y (List.mem_cons_of_mem _ hy))
    have h2 := hr x List.mem_cons_self
    have h3 := Lib.itoa_length_le x h2.1 h2.2
    simp only [List.flatMap_cons, List.length_append, List.length_cons, List.length_nil] at h1 ⊢
    omega
theorem rowL_len {r : List Int} (hr : Wf r) : (rowL r).length ≤ 22 * r.length + 2 := by
  have := litsL_len hr
  unfold rowL
  rw [List.length_append]
  simp only [List.length_cons, List.length_nil]
  omega
theorem rowsL_len {l : List (List Int)} (hl : WfL l) : (l.flatMap rowL).length ≤ 22 * bulk l := by
  induction l with
  | nil => simp
  | cons r l ih =>
    have h1 := ih (fun y hy => hl y (List.mem_cons_of_mem _ hy))
    have h2 := rowL_len (hl r List.mem_cons_self)
    unfold bulk at h1 ⊢
    simp only [List.flatMap_cons, List.length_append, List.length_cons, List.map_cons, List.sum_cons]
    omega
theorem headL_len {n m : Int} (h0 : -9223372036854775808 ≤ n) (h1 : n ≤ 9223372036854775807) (h2 : -9223372036854775808 ≤ m) (h3 : m ≤ 9223372036854775807) : (headL n m).length ≤ 50 := by
  have a := Lib.itoa_length_le n h0 h1
  have b := Lib.itoa_length_le m h2 h3
  simp only [headL, List.length_append, List.length_cons, List.length_nil]
  omega
def accL (n m : Int) (l : List (List Int)) (k : Nat) : List UInt8 := headL n m ++ (l.take k).flatMap rowL
theorem accL_zero (n m : Int) (l : List (List Int)) : accL n m l 0 = headL n m := by simp [accL]
theorem accL_succ (n m : Int) (l : List (List Int)) (k : Nat) (hk : k < l.length) : accL n m l (k + 1) = accL n m l k ++ (l[k]!.flatMap (fun x => Lib.itoa x ++ [32]) ++ [48, 10]) := by
  unfold accL
  rw [List.take_succ_eq_append_getElem hk, List.flatMap_append, getElem!_pos l k hk]
  simp [rowL]
theorem accL_all (n : Int) (l : List (List Int)) : accL n l.length l l.length = printL n l := by simp [accL, printL]
theorem sum_take_le (l : List Nat) (k : Nat) : (l.take k).sum ≤ l.sum := by
  induction l generalizing k with
  | nil => simp
  | cons a l ih =>
    cases k with
    | zero => simp
    | succ k => have := ih k; simp only [List.take_succ_cons, List.sum_cons]; omega
theorem bulk_take (l : List (List Int)) (k : Nat) : bulk (l.take k) ≤ bulk l := by
  unfold bulk
  rw [List.map_take]
  have := sum_take_le (l.map List.length) k
  have := List.length_take_le k l
  rw [List.length_take]
  omega
theorem accL_len {n m : Int} {l : List (List Int)} (hl : WfL l) (hb : bulk l ≤ 1000000) (h0 : -9223372036854775808 ≤ n) (h1 : n ≤ 9223372036854775807) (h2 : -9223372036854775808 ≤ m) (h3 : m ≤ 9223372036854775807) (k : Nat) : (accL n m l k).length ≤ 23000000 := by
  have a := headL_len h0 h1 h2 h3
  have b := rowsL_len (l := l.take k) (fun y hy => hl y (List.mem_of_mem_take hy))
  have c := bulk_take l k
  unfold accL
  rw [List.length_append]
  omega
theorem row_bulk {l : List (List Int)} {k : Nat} (hk : k < l.length) : l[k]!.length ≤ bulk l := by
  rw [getElem!_pos l k hk]
  unfold bulk
  have : l[k].length ≤ (l.map List.length).sum := by
    have h := List.getElem_mem hk
    generalize l[k] = r at h
    clear hk
    induction l with
    | nil => cases h
    | cons a l ih =>
      simp only [List.map_cons, List.sum_cons]
      rcases List.mem_cons.1 h with rfl | h
      · omega
      · have := ih h; omega
  omega
def litsK (r : List Int) (j : Nat) : List UInt8 := (r.take j).flatMap (fun x => Lib.itoa x ++ [32])
theorem litsK_zero (r : List Int) : litsK r 0 = [] := by simp [litsK]
theorem litsK_succ (r : List Int) (j : Nat) (hj : j < r.length) : litsK r (j + 1) = litsK r j ++ (Lib.itoa r[j]! ++ [32]) := by
  unfold litsK
  rw [List.take_succ_eq_append_getElem hj, List.flatMap_append, getElem!_pos r j hj]
  simp
theorem litsK_all (r : List Int) : litsK r r.length = r.flatMap (fun x => Lib.itoa x ++ [32]) := by simp [litsK]
theorem litsK_len {r : List Int} (hr : Wf r) (j : Nat) : (litsK r j).length ≤ 22 * r.length := by
  have := litsL_len (r := r.take j) (fun y hy => hr y (List.mem_of_mem_take hy))
  have h2 := List.length_take_le' j r
  unfold litsK
  omega

set_option maxHeartbeats 4000000 in
set_option maxRecDepth 100000 in
theorem Print_ok (n : Int) (A : Option Addr) (c : Nat) (l : List (List Int)) (w : World) (hL : Laid w) (hC : Kd.C kII w A l.length l) (hW : WfL l) (hn : 0 ≤ n ∧ n ≤ 1048576) (hb : bulk l ≤ 1000000) (hk : checkI n l = 0) :
    Calls Tryz.prog 14 #[.agg #[.int .i64 n, .slice A l.length c]] w fun e w' => e = .returned (.tuple #[.string (bytesB (printL n l)), .int .i64 0]) ∧ Below w.heap.size w w' := by
  obtain ⟨hn0, hn1⟩ := hn
  have hm : l.length ≤ 1000000 := by unfold bulk at hb; omega
  have HC := fun W (hb : Below w.heap.size w W) => Check_any n A c l W (Kd.C_below hC hb)
  rw [hk] at HC
  have HC0 : Aside0 (Kd.C kII w A l.length l) := ⟨hC⟩
  have HL0 : Aside0 (Laid w) := ⟨hL⟩
  have HW0 : Aside0 (WfL l) := ⟨hW⟩
  have Hb0 : Aside0 (bulk l ≤ 1000000) := ⟨hb⟩
  have HCC : Aside0 (∀ W, Below w.heap.size w W → Calls Tryz.prog 16 #[.agg #[.int .i64 n, .slice A l.length c]] W fun e w' => e = .returned (.int .i64 0) ∧ Below W.heap.size W w') := ⟨HC⟩
  clear HC hC hL hW hb hk
  go_enter Tryz.func14, Tryz.ntmps14
  go_wp2_with (go_at_call 16; refine (HCC.out _ (bel1 _ _)).mono ?_; rintro e w' ⟨rfl, hb⟩)
  have hB0 := (below_then (bel1 w (.cells #[.int .i64 n, .slice A l.length c] 28)) (by simp) hb)
  obtain ⟨D, hD⟩ : ∃ D, D = w'.heap.size := ⟨_, rfl⟩
  obtain ⟨W, hW⟩ : ∃ W, W = w'.alloc (.cells #[.pointer none, .slice none 0 0] 50) := ⟨_, rfl⟩
  have hbw : Below w'.heap.size w' W := hW ▸ bel1 _ _
  have hBW : Below w.heap.size w W := below_then hB0 hB0.size hbw
  have hbox := pw_cell_below hb (cell_new w #[.int .i64 n, .slice A l.length c] 28 0)
  have hbox1 := pw_cell_below hb (cell_new w #[.int .i64 n, .slice A l.length c] 28 1)
  have c0 := pw_cell_below hbw hbox
  have c1 := pw_cell_below hbw hbox1
  have hbu : Lib.IsBuilder 50 5 D D [] W := by rw [hW, hD]; exact builder_new _ _ (Nat.le_refl _) _ _
  have HBU : Aside0 (Lib.IsBuilder 50 5 D D [] W) := ⟨hbu⟩
  have HBW : Aside0 (Below w.heap.size w W) := ⟨hBW⟩
  have hsz : w.heap.size ≤ W.heap.size := hBW.size
  rw [← hW, ← hD]
  have hDl : D < W.heap.size := by rw [hW, hD]; simp
  have hBl : w.heap.size < W.heap.size := by have h1 := hb.size; have h2 := hbw.size; simp at h1; omega
  have hBD : w.heap.size < D := by have h1 := hb.size; simp at h1; omega
  clear hB0 hbw hBW hbox hbox1 hbu hW hb hD
  clear w'
  have hs1 := itoaB_size n (by omega) (by omega)
  have hs2 := itoaB_size (l.length : Int) (by omega) (by omega)
  have f1 : (9223372036854775807 < 6 + (itoaB n).size) = False := eq_false (by omega)
  have f2 : (9223372036854775807 < 6 + (itoaB n).size + 1) = False := eq_false (by omega)
  have f3 : (9223372036854775807 < 6 + (itoaB n).size + 1 + (itoaB (l.length : Int)).size) = False := eq_false (by omega)
  have f4 : (9223372036854775807 < 6 + (itoaB n).size + 1 + (itoaB (l.length : Int)).size + 1) = False := eq_false (by omega)
  go_region_held3 (fun w' => w'.cell? ⟨w.heap.size, 0, none⟩ = some (.int .i64 n) ∧ w'.cell? ⟨w.heap.size, 1, none⟩ = some (.slice A l.length c))
    (first | go_keep | (go_split_ands; refine ⟨?_, ?_⟩ <;> (rw [cell?_grow _ _ _ (by simp; omega)]; simp [*])) | (go_split_ands; refine ⟨?_, ?_⟩ <;> (rw [hb2.cell hBD]; assumption)))
    (first | (go_at_call_of 30 (Value.int .i64 n); refine (Itoa_any n (by omega) (by omega) _ ?_).mono ?_; (refine ((HL0.out.below HBW.out).below ?_); repeat' (first | exact Below.refl _ _ | refine below_growX ?_ (by simp) _ | refine pw_below_drewN ?_ _ | refine below_drew ?_)); rintro e w' ⟨rfl, k1, os1, rfl⟩) | (go_at_call 30; refine (Itoa_any _ (by omega) (by omega) _ ?_).mono ?_; (refine ((HL0.out.below HBW.out).below ?_); repeat' (first | exact Below.refl _ _ | refine below_growX ?_ (by simp) _ | refine pw_below_drewN ?_ _ | refine below_drew ?_)); rintro e w' ⟨rfl, k2, os2, rfl⟩) | (go_at_call 29; refine (Tryz.Builder_WriteString D D [] _ _ ?_ ?_ ?_).mono ?_; (refine isBuilder_below HBU.out ?_; repeat' (first | exact Below.refl _ _ | refine below_growX ?_ (by simp) _ | refine pw_below_drewN ?_ _ | refine below_drew ?_)); (simp [show (ByteArray.mk #[112, 32, 99, 110, 102, 32]).size = 6 from rfl, show (ByteArray.mk #[32]).size = 1 from rfl, show (ByteArray.mk #[10]).size = 1 from rfl]; omega); (simp; omega); rintro e w' ⟨rfl, hb1, hb2⟩))
  rw [cells_head] at hb1
  have HB1 : Aside0 (Lib.BuilderAt 50 5 D D (.pointer (some ⟨D, 0, none⟩)) (Lib.byteCells (accL n l.length l 0)) w') := ⟨by rw [accL_zero]; exact hb1⟩
  have hbx : Below D W w' := by
    refine Below.trans ?_ hb2
    refine Below.mono (B := W.heap.size) ?_ (Nat.le_of_lt hDl)
    repeat' (first | exact Below.refl _ _ | refine below_growX ?_ (by simp) _ | refine pw_below_drewN ?_ _ | refine below_drew ?_)
  have HBX : Aside0 (Below w.heap.size w w') := ⟨HBW.out.trans (hbx.mono (Nat.le_of_lt hBD))⟩
  have hDw : D ≤ w'.heap.size := by have := hbx.size; omega
  have hcc1 : w'.cell? ⟨w.heap.size, 1, none⟩ = some (.slice A l.length c) := (hbx.cell hBD).trans c1
  clear hb1 hb2 hbx c0 c1 hs1 hs2 f1 f2 f3 f4 HBU HBW hsz hDl hBl
  rename_i hHeld
  clear hHeld
  obtain ⟨m, hm'⟩ : ∃ m, l.length = m := ⟨_, rfl⟩
  have HM : Aside0 (l.length = m) := ⟨hm'⟩
  rw [hm'] at HC0 HB1 hm hcc1 ⊢
  clear hm' HCC
  go_wp2
  go_loopg [30] m (fun gg s30 wr => ∃ kk : Nat, kk ≤ m ∧ m - kk ≤ gg ∧ s30 = .int .i64 kk ∧ Aside0 (Lib.BuilderAt 50 5 D D (.pointer (some ⟨D, 0, none⟩)) (Lib.byteCells (accL n m l kk)) wr) ∧ Aside0 (Below w.heap.size w wr) ∧ D ≤ wr.heap.size)
  case atStart => exact ⟨0, Nat.zero_le _, by omega, rfl, HB1, HBX, hDw⟩
  case round =>
    clear HB1 HBX hcc1 hDw
    obtain ⟨kk, hkk, hg, rfl, HB1, HBX, hDw⟩ := hrel
    by_cases hlt : kk < m
    · have hltz : (kk : Int) < (m : Int) := by omega
      obtain ⟨b, off, rfl, hbl, hcs⟩ := C_rows HC0.out (by omega)
      obtain ⟨A1, c1, hc1, hl1, hC1⟩ := hcs kk hlt
      have hcell := (HBX.out.cell (World.block_lt_of_cell? w _ hc1)).trans hc1
      have hacc := accL_len HW0.out Hb0.out (n := n) (m := m) (by omega) (by omega) (by omega) (by omega) kk
      have hrb := row_bulk (l := l) (k := kk) (by have := HM.out; omega)
      have hrw : Wf l[kk]! := HW0.out _ (by have := HM.out; rw [getElem!_pos l kk (by omega)]; exact List.getElem_mem _)
      have hsucc := accL_succ n m l kk (by have := HM.out; omega)
      have hacc1 := accL_len HW0.out Hb0.out (n := n) (m := m) (by omega) (by omega) (by omega) (by omega) (kk + 1)
      generalize accL n m l kk = acc at *
      have hb6 := Hb0.out
      generalize l[kk]! = r at *
      have HS : Aside0 (accL n m l (kk + 1) = acc ++ (r.flatMap (fun x => Lib.itoa x ++ [32]) ++ [48, 10])) := ⟨hsucc⟩
      have HR : Aside0 (Kd.C kI w A1 r.length r) := ⟨hC1⟩
      have HRW : Aside0 (Wf r) := ⟨hrw⟩
      have hrl : r.length ≤ 1000000 := by omega
      clear hcs hc1 hl1 hC1 hbl hsucc hrw hacc1 hb6 hrb
      obtain ⟨q, hq'⟩ : ∃ q, r.length = q := ⟨_, rfl⟩
      have HQ : Aside0 (r.length = q) := ⟨hq'⟩
      rw [hq'] at hcell HR hrl
      clear hq'
      go_wp2
      obtain ⟨wo, rfl⟩ : ∃ wo : World, wo = wr := ⟨_, rfl⟩
      have HB0 : Aside0 (Lib.BuilderAt 50 5 D D (.pointer (some ⟨D, 0, none⟩)) (Lib.byteCells (acc ++ litsK r 0)) wo) := ⟨by rw [litsK_zero, List.append_nil]; exact HB1.out⟩
      go_loopg [36] q (fun gg2 s36 wi => ∃ j : Nat, j ≤ q ∧ q - j ≤ gg2 ∧ s36 = .int .i64 j ∧ Aside0 (Lib.BuilderAt 50 5 D D (.pointer (some ⟨D, 0, none⟩)) (Lib.byteCells (acc ++ litsK r j)) wi) ∧ Aside0 (Below w.heap.size w wi) ∧ D ≤ wi.heap.size)
      case atStart => exact ⟨0, Nat.zero_le _, by omega, rfl, HB0, HBX, hDw⟩
      case round =>
        clear HB0 HB1 HBX hDw
        obtain ⟨j, hj, hg2, rfl, HBi, HXi, hDi⟩ := hrel
        by_cases hjq : j < q
        · have hjqz : (j : Int) < (q : Int) := by omega
          obtain ⟨ad, rfl, hcx⟩ := Kd.at_int (Kd.C_below HR.out HXi.out) (j : Int) (by omega) (by omega)
          have hx : -9223372036854775808 ≤ rd r (j : Int) ∧ rd r (j : Int) ≤ 9223372036854775807 := by
            have h1 := HRW.out
            have h2 := HQ.out
            unfold rd
            rw [List.getD_eq_getElem?_getD, Int.toNat_natCast, List.getElem?_eq_getElem (by omega)]
            exact h1 _ (List.getElem_mem _)
          have hK := litsK_succ r j (by have := HQ.out; omega)
          have hx2 : r[j]! = rd r (j : Int) := by simp [rd, List.getD_eq_getElem?_getD, List.getElem!_eq_getElem?_getD]
          rw [hx2] at hK
          have hkl := litsK_len HRW.out j
          have hq := HQ.out
          generalize rd r (j : Int) = x at *
          have HK : Aside0 (litsK r (j + 1) = litsK r j ++ (Lib.itoa x ++ [32])) := ⟨hK⟩
          simp only [Int.toNat_natCast] at hcx
          have hlen : (Lib.byteCells (acc ++ litsK r j)).length ≤ 45000000 := by rw [Lib.byteCells_length, List.length_append]; omega
          obtain ⟨hx0, hx1⟩ := hx
          have hs := itoaB_size x hx0 hx1
          have f1 : (9223372036854775807 < (itoaB x).size + 1) = False := eq_false (by omega)
          clear hK hx2 hkl hq
          go_wp2_with fail
          refine (Itoa_below x hx0 hx1 _ (HL0.out.below HXi.out)).mono ?_
          rintro e w1 ⟨rfl, hb⟩
          have HB1 : Aside0 (Below wr.heap.size wr w1) := ⟨hb⟩
          have hsz := hb.size
          clear hb
          go_wp2_with fail
          refine (Tryz.Builder_WriteString D D (Lib.byteCells (acc ++ litsK r j)) _ _ (.inr (builder_below HBi.out HB1.out)) ?_ ?_).mono ?_
          · simp [show (ByteArray.mk #[32]).size = 1 from rfl]; omega
          · omega
          rintro e w2 ⟨rfl, hb1, hb2⟩
          have HB2 : Aside0 (Lib.BuilderAt 50 5 D D (.pointer (some ⟨D, 0, none⟩)) (Lib.byteCells (acc ++ litsK r (j + 1))) w2) := ⟨by
            rw [HK.out, ← List.append_assoc, ← cells_lit]; exact hb1⟩
          have HX1 : Below D wr w2 := (HB1.out.mono (by omega)).trans hb2
          have HX2 : Aside0 (Below w.heap.size w w2) := ⟨HXi.out.trans (HX1.mono (by omega))⟩
          have hD2 : D ≤ w2.heap.size := by have := hb2.size; omega
          clear hb1 hb2 HX1
          go_wp2
          go_roundg (q - (j + 1))
          case measure => omega
          case rel => exact ⟨j + 1, by omega, by omega, by go_num, HB2, HX2, hD2⟩
        · have hjqz : ¬ (j : Int) < (q : Int) := by omega
          obtain rfl : j = q := by omega
          have hq := HQ.out
          have hkl := litsK_len HRW.out j
          have hlen : (Lib.byteCells (acc ++ litsK r j)).length ≤ 45000000 := by rw [Lib.byteCells_length, List.length_append]; omega
          clear hq hkl
          go_wp2_with fail
          refine (Tryz.Builder_WriteString D D (Lib.byteCells (acc ++ litsK r j)) _ _ (.inr HBi.out) ?_ ?_).mono ?_
          · simp [show (ByteArray.mk #[48, 10]).size = 2 from rfl]; omega
          · omega
          rintro e w2 ⟨rfl, hb1, hb2⟩
          have HB2 : Aside0 (Lib.BuilderAt 50 5 D D (.pointer (some ⟨D, 0, none⟩)) (Lib.byteCells (accL n m l (kk + 1))) w2) := ⟨by
            rw [HS.out, ← litsK_all, HQ.out, ← List.append_assoc, ← cells_end]; exact hb1⟩
          have HX2 : Aside0 (Below w.heap.size w w2) := ⟨HXi.out.trans (hb2.mono (by omega))⟩
          have hD2 : D ≤ w2.heap.size := by have := hb2.size; omega
          clear hb1 hb2
          go_wp2
          go_roundg (m - (kk + 1))
          case measure => omega
          case rel => exact ⟨kk + 1, by omega, by omega, by go_num, HB2, HX2, hD2⟩
    · have hltz : ¬ (kk : Int) < (m : Int) := by omega
      obtain rfl : kk = m := by omega
      have HE : Aside0 (Lib.BuilderAt 50 5 D D (.pointer (some ⟨D, 0, none⟩)) (Lib.byteCells (printL n l)) wr) := ⟨by
        have h1 := HB1.out; have h2 := HM.out; rw [← accL_all, h2]; exact h1⟩
      clear HB1
      go_wp2_with fail
      refine (Tryz.Builder_String_any D D (printL n l) _ (.inr HE.out) ?_).mono ?_
      · omega
      rintro e w2 ⟨rfl, hb⟩
      go_wp2
      go_ret2
      exact ⟨rfl, HBX.out.trans (hb.mono (by omega))⟩

set_option maxHeartbeats 4000000 in
set_option maxRecDepth 100000 in
theorem Print_err (n : Int) (A : Option Addr) (c : Nat) (l : List (List Int)) (w : World) (hC : Kd.C kII w A l.length l) (e : Int) (hk : checkI n l = e) (he : (e == 0) = false) :
    Calls Tryz.prog 14 #[.agg #[.int .i64 n, .slice A l.length c]] w fun ed w' => ed = .returned (.tuple #[.string (bytesB []), .int .i64 e]) ∧ Below w.heap.size w w' := by
  have HC := fun W (hb : Below w.heap.size w W) => Check_any n A c l W (Kd.C_below hC hb)
  rw [hk] at HC
  have HCC : Aside0 (∀ W, Below w.heap.size w W → Calls Tryz.prog 16 #[.agg #[.int .i64 n, .slice A l.length c]] W fun ed w' => ed = .returned (.int .i64 e) ∧ Below W.heap.size W w') := ⟨HC⟩
  have he2 : (e != 0) = true := by simpa using he
  clear HC hC hk
  go_enter Tryz.func14, Tryz.ntmps14
  go_wp2_with (go_at_call 16; refine (HCC.out _ (bel1 _ _)).mono ?_; rintro ed w' ⟨rfl, hb⟩)
  go_ret2
  exact ⟨rfl, below_then (bel1 _ _) (by simp) hb⟩
end Go.Proofs.YtjifancgekoenaaGreatDoor
