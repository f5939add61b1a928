/- The solver in memory; its small functions walked. -/
import Derived.Test.YtbagcbiekpopbaaG1
import Derived.Maps.OwnOps
import Derived.Maps.Views
import Derived.Test.YtbagcbiekpopbaaG2
import Derived.Maps.AppendAt
import Derived.BigRegion
import Derived.BigQuiet
import Derived.Deep.QuietTactic
import Derived.Deep.RegionHeld3
import Derived.Deep.AppendLies
import Derived.Deep.DeepCutAuto
namespace Go.Proofs.Ytbagcbiekpopbaa
open Go.RowKit Go.Proofs.YtbagcbiekpopbaaW.PrintWords Go.Proofs.YtbagcbiekpopbaaW.PrintLast
open Go.ChangeMaps Go.MapKept
open Go.WideElems (Fit rd rg pl rd_val)
set_option linter.unusedVariables false
set_option linter.unusedSimpArgs false

theorem nodup_sub_length' {α : Type} : ∀ {l m : List α}, l.Nodup → (∀ x ∈ l, x ∈ m) → l.length ≤ m.length
  | [], m, _, _ => Nat.zero_le _
  | a :: l, m, h, hs => by
    rw [List.nodup_cons] at h
    obtain ⟨m1, m2, rfl⟩ := List.append_of_mem (hs a (by simp))
    have h3 := nodup_sub_length' (l := l) (m := m1 ++ m2) h.2 (fun x hx => by
      have := hs x (by simp [hx])
      simp only [List.mem_append, List.mem_cons] at this ⊢
      rcases this with h1 | h1 | h1
      · exact .inl h1
      · subst h1; exact absurd hx h.1
      · exact .inr h1)
    simp only [List.length_append, List.length_cons] at h3 ⊢
    omega
/-- A value told as itself. -/
def rawR (v : Value) : Option (DataW Value × List MemPlace) := some (.held v, [])
/-- Block b is a map by whole numbers that are not too great: at x lies V x, which is z where there is no entry. -/
def MapR (w : World) (b : Nat) (z : Value) (V : Int → Value) : Prop :=
  ∃ es clock, w.heap[b]? = some (.map es clock) ∧ Fit Try.prog 3 rawR es clock ∧ (∀ x ∈ es.toList, ∃ i : Int, i.natAbs < bigN ∧ x.key = .int .i64 i) ∧
    ∀ i : Int, i.natAbs < bigN → (DataW.map ((es.toList.map (rg Try.prog 3 rawR)).foldr DataW.insert [])).atKey (.int .i64 i) (.held z) = .held (V i)
theorem wf_small {i : Int} (h : i.natAbs < bigN) : (Lit.int .i64 i).wf = true := by
  unfold bigN at h
  simp [Lit.wf, IntKind.min, IntKind.max, IntKind.bits, IntKind.signed]
  omega
theorem ikey {i : Int} (h : i.natAbs < bigN) : keyOf Try.prog 3 (.int .i64 i) = some (.int .i64 i) := Maps.keyOf_int_mk Try.underlying3 (wf_small h)
theorem MapR.made (w : World) (z : Value) : MapR (w.alloc (.map #[] 0)) w.heap.size z (fun _ => z) := by
  obtain ⟨es, clock, h1, h2, h3, h4⟩ := World.ownsMap_made w Try.prog 3 rawR
  have he : es = #[] := Array.eq_empty_of_size_eq_zero (by omega)
  subst he
  exact ⟨#[], clock, h1, h2, by simp, fun i _ => rfl⟩
theorem MapR.lt {w : World} {b : Nat} {z : Value} {V : Int → Value} (h : MapR w b z V) : b < w.heap.size := by
  obtain ⟨es, clock, hb, _⟩ := h
  exact (Array.getElem?_eq_some_iff.1 hb).1
theorem MapR.kept {w w' : World} {b : Nat} {z : Value} {V : Int → Value} {row : Option Nat} (h : MapR w b z V) (hg : w.grownBy w' row) (hne : some b ≠ row) : MapR w' b z V := by
  have hlt := h.lt
  obtain ⟨es, clock, hb, r⟩ := h
  exact ⟨es, clock, (hg.block b hlt hne).trans hb, r⟩
theorem MapR.look {w : World} {b : Nat} {z : Value} {V : Int → Value} (h : MapR w b z V) {t e : TypeId} (ht : Try.prog.underlying t = some (.map 3 e)) (hz : (zeroValue e).run Try.prog w = .ok z w) {i : Int} (hi : i.natAbs < bigN) :
    (Instr.lookup t (.map (some b)) (.int .i64 i) false).run Try.prog w = .ok (V i) w := by
  obtain ⟨es, clock, hb, F, hk, hat⟩ := h
  rcases Maps.fit_look false (Maps.int_keyed Try.underlying3) ht hz hb F (ikey hi) with ⟨hrun, _, h2⟩ | ⟨e0, y, _, _, hrun, hR, h2, _⟩
  · have := (h2 (.held z)).symm.trans (hat i hi)
    rw [hrun, ← DataW.held.inj this]; rfl
  · have := (h2 (.held z)).symm.trans (hat i hi)
    unfold rawR at hR
    obtain rfl := Option.some.inj hR
    rw [hrun, ← DataW.held.inj this]; rfl
theorem MapR.store {w : World} {b : Nat} {z : Value} {V : Int → Value} (h : MapR w b z V) {t e : TypeId} (ht : Try.prog.underlying t = some (.map 3 e)) {i : Int} (hi : i.natAbs < bigN) (v : Value) :
    ∃ w', (Instr.mapUpdate t (.map (some b)) (.int .i64 i) v).run Try.prog w = .ok () w' ∧ MapR w' b z (upd V i v) ∧ w.grownBy w' (some b) := by
  obtain ⟨es, clock, hb, F, hk, hat⟩ := h
  have hsize : es.size < maxLen := by
    have h1 : (es.toList.map (·.key)).Nodup := F.stamped.2.2
    have h2 := nodup_sub_length' h1 (m := (List.range (2 * bigN)).map (fun k : Nat => Value.int .i64 ((k : Int) - (bigN : Nat)))) (fun x hx => by
      obtain ⟨y, hy, rfl⟩ := List.mem_map.1 hx
      obtain ⟨j, hj, e⟩ := hk y hy
      rw [e]
      refine List.mem_map.2 ⟨(j + bigN).toNat, List.mem_range.2 ?_, ?_⟩
      · unfold bigN at *; omega
      · refine congrArg (Value.int .i64) ?_
        unfold bigN at *
        omega)
    rw [List.length_map, List.length_map, List.length_range] at h2
    have : es.toList.length = es.size := by simp
    unfold bigN at h2
    unfold maxLen
    omega
  obtain ⟨es', clock', hrun, F', hput, _, _, hwho⟩ := Maps.fit_store (R' := rawR) (Maps.int_keyed Try.underlying3) ht hb F hsize (fun _ _ _ _ hz => hz) (ikey hi) (val := v) rfl
  refine ⟨_, hrun, ⟨es', clock', heap_setBlock_same hb _, F', ?_, ?_⟩, ⟨rfl, rfl, rfl, by simp [setBlock], fun k _ hk => heap_setBlock_other hb _ (fun e => hk (by rw [e]))⟩⟩
  · intro x hx
    rcases hwho x hx with ⟨h1, _⟩ | ⟨h1, _⟩
    · exact hk x h1
    · exact ⟨i, hi, h1⟩
  · intro j hj
    rw [hput]
    have e1 : DataW.map (putKey (.int .i64 i) (DataW.held v) ((es.toList.map (rg Try.prog 3 rawR)).foldr DataW.insert [])) = (DataW.map ((es.toList.map (rg Try.prog 3 rawR)).foldr DataW.insert [])).put (.int .i64 i) (.held v) := (DataW.put_eq _ _ _).symm
    rw [e1]
    unfold upd
    by_cases hji : j = i
    · subst hji
      rw [if_pos rfl]
      exact Maps.atKey_put_same ⟨_, rfl⟩ (k := .int .i64 j) trivial _ _
    · rw [if_neg hji, Maps.atKey_put_other (by intro e; injection e with _ e; exact hji e)]
      exact hat j hj
end Go.Proofs.Ytbagcbiekpopbaa

namespace Go.Proofs.Ytbagcbiekpopbaa
open Go.RowKit Go.Proofs.YtbagcbiekpopbaaW.PrintWords Go.Proofs.YtbagcbiekpopbaaW.PrintLast
set_option linter.unusedVariables false
set_option linter.unusedSimpArgs false

/-- The rows of the solver: its clauses, values, levels, reasons, trail, marks, scores, proof; each clause; what looks at a literal; each clause of the proof. -/
inductive Rw where
  | cl | va | le | re | tr | ma | sc | pf
  | c (i : Nat)
  | w (x : Int)
  | p (i : Nat)
noncomputable instance : DecidableEq Rw := fun _ _ => Classical.propDecidable _
/-- Whose a block is. -/
inductive Tg where
  | free | sol | wm
  | row (t : Rw)
structure Hp where
  own : Nat → Tg
  val : Rw → Value
  wb : Nat

def nats (l : List Nat) : List Value := l.map fun n : Nat => Value.int .i64 (n : Int)
def cellsOf (s : St) (v : Rw → Value) : Rw → List Value
  | .cl => (List.range s.cl.length).map fun i => v (.c i)
  | .va => nums .i64 s.va
  | .le => nats s.le
  | .re => nums .i64 s.re
  | .tr => nums .i64 s.tr
  | .ma => nats s.ma
  | .sc => s.sc.map (Value.float .f64)
  | .pf => (List.range s.pf.length).map fun i => v (.p i)
  | .c i => nums .i64 (s.cl.getD i [])
  | .w x => nats (s.wt x)
  | .p i => nums .i64 (s.pf.getD i [])
def tyOf : Rw → TypeId
  | .cl => 37
  | .pf => 37
  | .sc => 45
  | _ => 3
def solOf (s : St) (h : Hp) : Array Value := #[.int .i64 (s.n : Int), h.val .cl, .map (some h.wb), h.val .va, h.val .le, h.val .re, h.val .tr, h.val .ma, .int .i64 (s.dn : Int), h.val .sc, .float .f64 s.sp, h.val .pf]
abbrev nilS : Value := .slice none 0 0

/-- A row of the solver's. -/
structure RowT (w : World) (B : Nat) (own : Nat → Tg) (t : Rw) (v : Value) (xs : List Value) : Prop where
  row : w.ownsRow B (tyOf t) 1 v xs.length xs
  own : ∀ g, v.ownBlock = some g → own g = .row t

structure Rep (w : World) (B sb : Nat) (s : St) (h : Hp) : Prop where
  sol : w.heap[sb]? = some (.cells (solOf s h) 47 (0, 0))
  osol : h.own sb = .sol
  row : ∀ t, RowT w B h.own t (h.val t) (cellsOf s h.val t)
  map : MapR w h.wb nilS (fun x => h.val (.w x))
  omap : h.own h.wb = .wm
  free : ∀ g, w.heap.size ≤ g → h.own g = .free
  low : ∀ g, g < B → h.own g = .free
  small : s.n < bigN ∧ s.va.length ≤ bigN ∧ s.le.length ≤ bigN

/-- All but the blocks of S stays. -/
structure Turn (w w' : World) (S : Nat → Prop) : Prop where
  os : w'.os = w.os
  tape : w'.tape = w.tape
  output : w'.output = w.output
  size : w.heap.size ≤ w'.heap.size
  block : ∀ k, k < w.heap.size → ¬ S k → w'.heap[k]? = w.heap[k]?
theorem Turn.refl (w : World) (S : Nat → Prop) : Turn w w S := ⟨rfl, rfl, rfl, Nat.le_refl _, fun _ _ _ => rfl⟩
theorem Turn.trans {a b c : World} {S S' : Nat → Prop} (h : Turn a b S) (h' : Turn b c S') : Turn a c (fun k => S k ∨ S' k) :=
  ⟨h'.os.trans h.os, h'.tape.trans h.tape, h'.output.trans h.output, Nat.le_trans h.size h'.size, fun k hk hn => (h'.block k (Nat.lt_of_lt_of_le hk h.size) (fun e => hn (.inr e))).trans (h.block k hk (fun e => hn (.inl e)))⟩
theorem Turn.mono {a b : World} {S S' : Nat → Prop} (h : Turn a b S) (hs : ∀ k, k < a.heap.size → S k → S' k) : Turn a b S' := ⟨h.os, h.tape, h.output, h.size, fun k hk hn => h.block k hk (fun e => hn (hs k hk e))⟩
theorem Turn.grown {a b : World} {row : Option Nat} (h : a.grownBy b row) : Turn a b (fun k => row = some k) := ⟨h.os, h.tape, h.output, h.size, fun k hk hn => h.block k hk (fun e => hn e.symm)⟩
theorem Turn.alloc (w : World) (o : Obj) (S : Nat → Prop) : Turn w (w.alloc o) S := ⟨rfl, rfl, rfl, by simp, fun k hk _ => (World.grownBy_alloc w o none).block k hk (by simp)⟩
theorem Turn.drew (w : World) (n : Nat) (S : Nat → Prop) : Turn w (w.drewN n) S := ⟨rfl, rfl, rfl, Nat.le_refl _, fun _ _ _ => rfl⟩
theorem Turn.set (w : World) (g i : Nat) (v : Value) : Turn w (w.setCell ⟨g, i, none⟩ v) (fun k => k = g) :=
  ⟨rfl, rfl, rfl, by simp, fun k hk hn => by
    have := (Below.refl (k + 1) w)
    show (w.setCell ⟨g, i, none⟩ v).heap[k]? = _
    simp only [World.setCell, Array.getElem?_modify]
    rw [if_neg (fun e => hn e.symm)]⟩
theorem Turn.below {w w' : World} {S : Nat → Prop} {B : Nat} (h : Turn w w' S) (hB : B ≤ w.heap.size) (hS : ∀ k, S k → B ≤ k) : Below B w w' :=
  ⟨h.os, h.tape, h.output, h.size, fun k hk => h.block k (by omega) (fun e => by have := hS k e; omega)⟩
theorem Turn.of_below {w w' : World} (h : Below w.heap.size w w') (S : Nat → Prop) : Turn w w' S := ⟨h.os, h.tape, h.output, h.size, fun k hk _ => h.block k hk⟩

theorem ownsRow_turn {w w' : World} {S : Nat → Prop} {B : Nat} {e : TypeId} {n : Nat} {v : Value} {xs : List Value} (h : w.ownsRow B e 1 v n xs) (ht : Turn w w' S) (hn : ∀ g, v.ownBlock = some g → ¬ S g) : w'.ownsRow B e 1 v n xs := by
  refine ⟨h.1, ?_⟩
  rcases h.2 with h0 | ⟨g, cap, cur, rfl, hb, hg, r⟩
  · exact .inl h0
  · exact .inr ⟨g, cap, cur, rfl, hb, (ht.block g (Array.getElem?_eq_some_iff.1 hg).1 (hn g rfl)).trans hg, r⟩
theorem RowT.turn {w w' : World} {S : Nat → Prop} {B : Nat} {own own' : Nat → Tg} {t : Rw} {v : Value} {xs : List Value} (h : RowT w B own t v xs) (ht : Turn w w' S) (hS : ∀ g, g < w.heap.size → own g = .row t → ¬ S g ∧ own' g = own g) : RowT w' B own' t v xs := by
  have hlt : ∀ g, v.ownBlock = some g → g < w.heap.size := fun g hg => (h.row.lt g hg).2
  exact ⟨ownsRow_turn h.row ht (fun g hg => (hS g (hlt g hg) (h.own g hg)).1), fun g hg => by rw [(hS g (hlt g hg) (h.own g hg)).2]; exact h.own g hg⟩
theorem MapR.turn {w w' : World} {b : Nat} {z : Value} {V : Int → Value} {S : Nat → Prop} (h : MapR w b z V) (ht : Turn w w' S) (hn : ¬ S b) : MapR w' b z V := by
  have hlt := h.lt
  obtain ⟨es, clock, hb, r⟩ := h
  exact ⟨es, clock, (ht.block b hlt hn).trans hb, r⟩

theorem Rep.base {w : World} {B sb : Nat} {s : St} {h : Hp} (R : Rep w B sb s h) : B ≤ w.heap.size ∧ B ≤ sb ∧ sb < w.heap.size := by
  have h1 := (Array.getElem?_eq_some_iff.1 R.sol).1
  have h2 : B ≤ sb := by
    rcases Nat.lt_or_ge sb B with h3 | h3
    · have := R.low sb h3
      rw [R.osol] at this
      cases this
    · exact h3
  omega

/-- Any step: what is turned is free, or the solver's own, or of rows that are told anew. -/
theorem Rep.change {w w' : World} {B sb : Nat} {s s' : St} {h h' : Hp} {S : Nat → Prop} (R : Rep w B sb s h) (ht : Turn w w' S)
    (hown : ∀ g, g < w.heap.size → h.own g ≠ .free → h'.own g = h.own g) (hfree : ∀ g, w'.heap.size ≤ g → h'.own g = .free) (hlow : ∀ g, g < B → h'.own g = .free)
    (hsol : w'.heap[sb]? = some (.cells (solOf s' h') 47 (0, 0)))
    (hrow : ∀ t, (h'.val t = h.val t ∧ cellsOf s' h'.val t = cellsOf s h.val t ∧ ∀ g, g < w.heap.size → S g → h.own g ≠ .row t) ∨ RowT w' B h'.own t (h'.val t) (cellsOf s' h'.val t))
    (hwb : h'.wb = h.wb) (hmap : ((∀ x, h'.val (.w x) = h.val (.w x)) ∧ ¬ S h.wb) ∨ MapR w' h.wb nilS (fun x => h'.val (.w x))) (hn : s'.n = s.n ∧ s'.va.length = s.va.length ∧ s'.le.length = s.le.length) : Rep w' B sb s' h' := by
  have hsb := R.base.2.2
  have hwl := R.map.lt
  refine { sol := hsol, osol := by rw [hown sb hsb (by rw [R.osol]; exact fun e => by cases e)]; exact R.osol, row := fun t => ?_, map := ?_, omap := ?_, free := hfree, low := hlow, small := by rw [hn.1, hn.2.1, hn.2.2]; exact R.small }
  · rcases hrow t with ⟨h1, h2, h3⟩ | h1
    · rw [h1, h2]
      exact (R.row t).turn ht (fun g hg ho => ⟨fun e => h3 g hg e ho, hown g hg (by rw [ho]; exact fun e => by cases e)⟩)
    · exact h1
  · rw [hwb]
    rcases hmap with ⟨h1, h2⟩ | h1
    · have : (fun x => h'.val (.w x)) = fun x => h.val (.w x) := funext h1
      rw [this]
      exact R.map.turn ht h2
    · exact h1
  · rw [hwb, hown h.wb hwl (by rw [R.omap]; exact fun e => by cases e)]
    exact R.omap

/-- What is free may turn, and blocks may be made. -/
theorem Rep.turn {w w' : World} {B sb : Nat} {s : St} {h : Hp} {S : Nat → Prop} (R : Rep w B sb s h) (ht : Turn w w' S) (hS : ∀ g, g < w.heap.size → S g → h.own g = .free) : Rep w' B sb s h := by
  refine R.change ht (fun _ _ _ => rfl) (fun g hg => R.free g (Nat.le_trans ht.size hg)) R.low ?_ (fun t => .inl ⟨rfl, rfl, fun g hg e => by rw [hS g hg e]; exact fun e => by cases e⟩) rfl (.inl ⟨fun _ => rfl, fun e => ?_⟩) ⟨rfl, rfl, rfl⟩
  · rw [ht.block sb R.base.2.2 (fun e => by have := hS sb R.base.2.2 e; rw [R.osol] at this; cases this)]
    exact R.sol
  · have := hS h.wb R.map.lt e
    rw [R.omap] at this
    cases this
theorem Rep.below {w w' : World} {B sb : Nat} {s : St} {h : Hp} (R : Rep w B sb s h) (hb : Below w.heap.size w w') : Rep w' B sb s h := R.turn (Turn.of_below hb (fun _ => False)) (fun _ _ e => e.elim)

/-! ### What is read -/
theorem Rep.cell {w : World} {B sb : Nat} {s : St} {h : Hp} (R : Rep w B sb s h) (k : Nat) : w.cell? ⟨sb, k, none⟩ = (solOf s h)[k]? := blk_cellA R.sol k
theorem Rep.frozen {w : World} {B sb : Nat} {s : St} {h : Hp} (R : Rep w B sb s h) (k : Nat) : w.frozen? ⟨sb, k, none⟩ = false := blk_frozen R.sol k
theorem RowT.form {w : World} {B : Nat} {own : Nat → Tg} {t : Rw} {v : Value} {xs : List Value} (h : RowT w B own t v xs) : ∃ A cap, v = .slice A xs.length cap ∧ xs.length ≤ cap ∧ cap ≤ maxLen ∧ (0 < xs.length → ∃ g, A = some ⟨g, 0, none⟩) := by
  rcases h.row.2 with ⟨rfl, h0⟩ | ⟨g, cap, cur, rfl, _, _, h1, h2, _⟩
  · exact ⟨none, 0, by rw [h0], by omega, by unfold maxLen; omega, fun h => by omega⟩
  · exact ⟨_, cap, rfl, h1, h2, fun _ => ⟨g, rfl⟩⟩
theorem RowT.at {w : World} {B : Nat} {own : Nat → Tg} {t : Rw} {v : Value} {xs : List Value} (h : RowT w B own t v xs) (hp : 0 < xs.length) :
    ∃ g cap, v = .slice (some ⟨g, 0, none⟩) xs.length cap ∧ xs.length ≤ cap ∧ cap ≤ maxLen ∧ own g = .row t ∧ B ≤ g ∧ g < w.heap.size ∧ (∀ i u, xs[i]? = some u → w.cell? ⟨g, i, none⟩ = some u ∧ w.frozen? ⟨g, i, none⟩ = false) := by
  rcases h.row.2 with ⟨rfl, h0⟩ | ⟨g, cap, cur, rfl, hb, hg, h1, h2, _⟩
  · omega
  · refine ⟨g, cap, rfl, h1, h2, h.own g rfl, hb, (Array.getElem?_eq_some_iff.1 hg).1, fun i u hi => ⟨?_, blk_frozen hg i⟩⟩
    have := h.row.cells (g := g) rfl i u hi
    rwa [add_plain] at this
end Go.Proofs.Ytbagcbiekpopbaa

namespace Go.Proofs.Ytbagcbiekpopbaa
open Go.RowKit Go.Proofs.YtbagcbiekpopbaaW.PrintWords Go.Proofs.YtbagcbiekpopbaaW.PrintLast
set_option linter.unusedVariables false
set_option linter.unusedSimpArgs false

theorem svar_nat (k : Nat) (hk : k < bigN) (w : World) : Calls Try.prog 41 #[.int .i64 (k : Int)] w fun e w' => e = .returned (.int .i64 (k : Int)) ∧ w = w' := by
  unfold bigN at hk
  have hm : wrap64 (-(k : Int)) = -(k : Int) := by unfold wrap64; omega
  go_enter Try.func41, Try.ntmps41
  go_wp2
  go_ret
  exact ⟨ret_int (by omega), rfl⟩
theorem svar_neg (k : Nat) (hk : k < bigN) (w : World) : Calls Try.prog 41 #[.int .i64 (-(k : Int))] w fun e w' => e = .returned (.int .i64 (k : Int)) ∧ w = w' := by
  unfold bigN at hk
  have hm : wrap64 (- -(k : Int)) = (k : Int) := by unfold wrap64; omega
  go_enter Try.func41, Try.ntmps41
  go_wp2
  go_ret
  exact ⟨ret_int (by omega), rfl⟩
theorem svar_any (x : Int) (hx : x.natAbs < bigN) (w : World) : Calls Try.prog 41 #[.int .i64 x] w fun e w' => e = .returned (.int .i64 (x.natAbs : Int)) ∧ w = w' := by
  obtain ⟨k, hk⟩ : ∃ k, x.natAbs = k := ⟨_, rfl⟩
  rw [hk] at hx ⊢
  rcases (by omega : x = (k : Int) ∨ x = -(k : Int)) with rfl | rfl
  · exact svar_nat k hx w
  · exact svar_neg k hx w

/-- A cell of one of the rows of whole numbers. -/
theorem Rep.num {w : World} {B sb : Nat} {s : St} {h : Hp} (R : Rep w B sb s h) {t : Rw} {i : Nat} {u : Value} (hi : (cellsOf s h.val t)[i]? = some u) :
    ∃ g cap, h.val t = .slice (some ⟨g, 0, none⟩) (cellsOf s h.val t).length cap ∧ i < (cellsOf s h.val t).length ∧ (cellsOf s h.val t).length ≤ cap ∧ cap ≤ 9223372036854775807 ∧ w.cell? ⟨g, i, none⟩ = some u ∧ w.frozen? ⟨g, i, none⟩ = false ∧ h.own g = .row t ∧ g < w.heap.size := by
  have hl := (List.getElem?_eq_some_iff.1 hi).1
  obtain ⟨g, cap, e, h1, h2, h3, h4, h5, h6⟩ := (R.row t).at (by omega)
  exact ⟨g, cap, e, hl, h1, by unfold maxLen at h2; omega, (h6 i u hi).1, (h6 i u hi).2, h3, h5⟩

set_option maxHeartbeats 1000000 in
set_option maxRecDepth 100000 in
theorem is_any (x v : Int) (w : World) (B sb : Nat) (s : St) (h : Hp) (R : Rep w B sb s h) (hv : s.is x = some v) :
    Calls Try.prog 35 #[.pointer (some ⟨sb, 0, none⟩), .int .i64 x] w fun e w' => e = .returned (.int .i64 v) ∧ w = w' := by
  unfold St.is at hv
  simp only [Option.bind_eq_bind, Option.bind_eq_some_iff] at hv
  obtain ⟨v0, h0, hv⟩ := hv
  have hn : x.natAbs < bigN := Nat.lt_of_lt_of_le (List.getElem?_eq_some_iff.1 h0).1 R.small.2.1
  split at hv
  · rename_i hsm
    have hc := R.cell 3
    obtain ⟨g, cap, e, hi, hcap, hmax, hcell, hfr, _, _⟩ := R.num (t := .va) (i := x.natAbs) (u := .int .i64 v0) (by show (nums .i64 s.va)[x.natAbs]? = _; unfold nums; rw [List.getElem?_map, h0]; rfl)
    change w.cell? ⟨sb, 3, none⟩ = some (h.val .va) at hc
    rw [e] at hc
    generalize (cellsOf s h.val .va).length = n at *
    obtain rfl := Option.some.inj hv
    unfold bigN at hn
    clear hv h0 R e
    by_cases hx : x < 0
    · obtain ⟨k, rfl⟩ : ∃ k : Nat, x = -(k : Int) := ⟨x.natAbs, by omega⟩
      have ek : (-(k : Int)).natAbs = k := by omega
      rw [ek] at hi hcell
      rw [if_pos hx]
      have hm : wrap64 (- -(k : Int)) = (k : Int) := by unfold wrap64; omega
      have hm0 : wrap64 (-v0) = -v0 := by unfold wrap64; omega
      have hi2 : (k : Int) < (n : Int) := by omega
      clear ek hsm hfr
      go_enter Try.func35, Try.ntmps35
      go_wp2
      go_ret
      exact ⟨ret_int hm0, rfl⟩
    · obtain ⟨k, rfl⟩ : ∃ k : Nat, x = (k : Int) := ⟨x.natAbs, by omega⟩
      have ek : (k : Int).natAbs = k := by omega
      rw [ek] at hi hcell
      rw [if_neg hx]
      have hi2 : (k : Int) < (n : Int) := by omega
      clear ek hsm hfr
      go_enter Try.func35, Try.ntmps35
      go_wp2
      go_ret
      exact ⟨rfl, rfl⟩
  · cases hv
end Go.Proofs.Ytbagcbiekpopbaa

namespace Go.Proofs.Ytbagcbiekpopbaa
open Go.RowKit Go.Proofs.YtbagcbiekpopbaaW.PrintWords Go.Proofs.YtbagcbiekpopbaaW.PrintLast
set_option linter.unusedVariables false
set_option linter.unusedSimpArgs false

theorem own_succ {w : World} {B : Nat} {e : TypeId} {size k : Nat} {v : Value} {xs : List Value} (h : w.ownsRow B e size v (k + 1) xs) : ∃ g cap, v = .slice (some ⟨g, 0, none⟩) (k + 1) cap := by
  rcases h.2 with ⟨_, h0⟩ | ⟨g, cap, _, rfl, _⟩
  · omega
  · exact ⟨g, cap, rfl⟩
theorem ownsRow_set {w : World} {B : Nat} {e : TypeId} {g cap n i : Nat} {u : Value} {xs : List Value} (h : w.ownsRow B e 1 (.slice (some ⟨g, 0, none⟩) n cap) n xs) :
    (w.setCell ⟨g, i, none⟩ u).ownsRow B e 1 (.slice (some ⟨g, 0, none⟩) n cap) n (xs.set i u) := by
  obtain ⟨h1, h2⟩ := h
  refine ⟨by rw [List.length_set]; exact h1, .inr ?_⟩
  rcases h2 with ⟨h2, _⟩ | ⟨g', cap', cur, h3, h4, h5, h6, h7, h8, h9⟩
  · cases h2
  · injection h3 with e1 e2 e3
    injection e1 with e1
    injection e1 with e1
    subst e1 e3
    refine ⟨g, cap, cur.setIfInBounds i u, rfl, h4, ?_, h6, h7, by simp [h8], ?_⟩
    · simp only [World.setCell, Array.getElem?_modify, if_pos, h5]
      rfl
    · rw [← h9, Array.toList_setIfInBounds, List.take_set]
theorem Rep.setRow {w : World} {B sb : Nat} {s s' : St} {h : Hp} (R : Rep w B sb s h) {t : Rw} {g n cap i : Nat} {u : Value} (ht : h.val t = .slice (some ⟨g, 0, none⟩) n cap)
    (hc : cellsOf s' h.val t = (cellsOf s h.val t).set i u) (ho : ∀ t', t' ≠ t → cellsOf s' h.val t' = cellsOf s h.val t') (hsol : solOf s' h = solOf s h) (hn : s'.n = s.n ∧ s'.va.length = s.va.length ∧ s'.le.length = s.le.length) :
    Rep (w.setCell ⟨g, i, none⟩ u) B sb s' h ∧ Turn w (w.setCell ⟨g, i, none⟩ u) (fun k => k = g) := by
  have hT := Turn.set w g i u
  have hog : h.own g = .row t := (R.row t).own g (by rw [ht]; rfl)
  refine ⟨R.change hT (fun _ _ _ => rfl) (fun k hk => R.free k (Nat.le_trans hT.size hk)) R.low ?_ (fun t' => ?_) rfl (.inl ⟨fun _ => rfl, fun e => ?_⟩) hn, hT⟩
  · rw [hT.block sb R.base.2.2 (fun e => by have := R.osol; rw [e, hog] at this; cases this), hsol]
    exact R.sol
  · by_cases e : t' = t
    · subst e
      right
      rw [hc]
      have h1 := (R.row t').row
      rw [ht] at h1
      have hlen : (cellsOf s h.val t').length = n := by
        obtain ⟨A, c, e1, _⟩ := (R.row t').form
        rw [ht] at e1
        injection e1 with _ e2 _
        exact e2.symm
      rw [hlen] at h1
      refine ⟨?_, (R.row t').own⟩
      rw [ht, List.length_set, hlen]
      exact ownsRow_set h1
    · left
      refine ⟨rfl, ho t' e, fun k _ hk h2 => ?_⟩
      subst hk
      rw [hog] at h2
      injection h2 with h2
      exact e h2.symm
  · rw [← e, R.omap] at hog
    cases hog

/-- A step of the solver's: what is free stays. -/
structure Stp (w w' : World) (h h' : Hp) : Prop where
  turn : Turn w w' (fun g => h.own g ≠ .free)
  own : ∀ g, g < w.heap.size → h.own g = .free → h'.own g = .free
theorem Stp.refl (w : World) (h : Hp) : Stp w w h h := ⟨Turn.refl _ _, fun _ _ e => e⟩
theorem Stp.trans {a b c : World} {h h' h'' : Hp} (s : Stp a b h h') (s' : Stp b c h' h'') : Stp a c h h'' :=
  ⟨(s.turn.trans s'.turn).mono (fun k hk e => by
    rcases e with e | e
    · exact e
    · exact fun hf => e (s.own k hk hf)), fun g hg e => s'.own g (Nat.lt_of_lt_of_le hg s.turn.size) (s.own g hg e)⟩
theorem Stp.below {w w' : World} {B sb : Nat} {s : St} {h h' : Hp} (t : Stp w w' h h') (R : Rep w B sb s h) : Below B w w' :=
  ⟨t.turn.os, t.turn.tape, t.turn.output, t.turn.size, fun k hk => t.turn.block k (Nat.lt_of_lt_of_le hk R.base.1) (fun e => e (R.low k hk))⟩
theorem Stp.of_below {w w' : World} {h : Hp} (hb : Below w.heap.size w w') : Stp w w' h h := ⟨Turn.of_below hb _, fun _ _ e => e⟩

/-- An append to a row whose header lies in a field of the solver's. -/
noncomputable def Hp.put (h : Hp) (t : Rw) (v : Value) : Hp := { h with val := upd h.val t v, own := match v.ownBlock with | some g => upd h.own g (.row t) | none => h.own }
theorem Hp.put_own {h : Hp} {t : Rw} {v : Value} {g : Nat} (hg : v.ownBlock ≠ some g) : (h.put t v).own g = h.own g := by
  unfold Hp.put
  cases e : v.ownBlock with
  | none => rfl
  | some k =>
    show upd h.own k (.row t) g = h.own g
    unfold upd
    rw [if_neg (fun e2 => hg (by rw [e, e2]))]
theorem Hp.put_self {h : Hp} {t : Rw} {v : Value} {g : Nat} (hg : v.ownBlock = some g) : (h.put t v).own g = .row t := by
  unfold Hp.put
  rw [hg]
  show upd h.own g (.row t) g = .row t
  unfold upd
  rw [if_pos rfl]
theorem Hp.put_val {h : Hp} {t : Rw} {v : Value} (t' : Rw) : (h.put t v).val t' = if t' = t then v else h.val t' := rfl

theorem cells_put {s : St} {h : Hp} {t : Rw} {v : Value} (hc : ∀ i, t ≠ .c i) (hp : ∀ i, t ≠ .p i) (t' : Rw) : cellsOf s (h.put t v).val t' = cellsOf s h.val t' := by
  cases t' <;> try rfl
  · show (List.range s.cl.length).map (fun i => (h.put t v).val (.c i)) = (List.range s.cl.length).map (fun i => h.val (.c i))
    refine List.map_congr_left (fun i _ => ?_)
    rw [Hp.put_val, if_neg (fun e => hc i e.symm)]
  · show (List.range s.pf.length).map (fun i => (h.put t v).val (.p i)) = (List.range s.pf.length).map (fun i => h.val (.p i))
    refine List.map_congr_left (fun i _ => ?_)
    rw [Hp.put_val, if_neg (fun e => hp i e.symm)]
/-- A row gets another value, that lies in its own block or in one that is free; the header's place is told anew. -/
theorem Rep.put {w w' : World} {B sb : Nat} {s s' : St} {h : Hp} (R : Rep w B sb s h) {t : Rw} {v : Value} {S : Nat → Prop} (hT : Turn w w' S)
    (hS : ∀ g, g < w.heap.size → S g → h.own g = .free ∨ h.own g = .sol ∨ h.own g = .row t)
    (hv : ∀ g, v.ownBlock = some g → g < w'.heap.size ∧ B ≤ g ∧ (h.own g = .free ∨ h.own g = .row t))
    (hrow : w'.ownsRow B (tyOf t) 1 v (cellsOf s' (h.put t v).val t).length (cellsOf s' (h.put t v).val t))
    (ho : ∀ t', t' ≠ t → cellsOf s' (h.put t v).val t' = cellsOf s h.val t')
    (hsol : w'.heap[sb]? = some (.cells (solOf s' (h.put t v)) 47 (0, 0))) (hw : ∀ x, t ≠ .w x) (hn : s'.n = s.n ∧ s'.va.length = s.va.length ∧ s'.le.length = s.le.length) : Rep w' B sb s' (h.put t v) := by
  refine R.change hT (fun g hg hf => ?_) (fun g hg => ?_) (fun g hg => ?_) hsol (fun t' => ?_) rfl (.inl ⟨fun x => ?_, fun e => ?_⟩) hn
  · by_cases e : v.ownBlock = some g
    · rw [Hp.put_self e]
      rcases (hv g e).2.2 with h1 | h1
      · exact absurd h1 hf
      · exact h1.symm
    · exact Hp.put_own e
  · rw [Hp.put_own (fun e => by have := (hv g e).1; omega)]
    exact R.free g (Nat.le_trans hT.size hg)
  · rw [Hp.put_own (fun e => by have := (hv g e).2.1; omega)]
    exact R.low g hg
  · by_cases e : t' = t
    · subst e
      right
      have e2 : (h.put t' v).val t' = v := by rw [Hp.put_val, if_pos rfl]
      exact ⟨by rw [e2]; exact hrow, fun g hg => Hp.put_self (by rw [← hg, e2])⟩
    · left
      refine ⟨by rw [Hp.put_val, if_neg e], ho t' e, fun g hg hs h2 => ?_⟩
      rcases hS g hg hs with h3 | h3 | h3
      · rw [h3] at h2; cases h2
      · rw [h3] at h2; cases h2
      · rw [h3] at h2; injection h2 with h2; exact e h2.symm
  · rw [Hp.put_val, if_neg (fun e => hw x e.symm)]
  · rcases hS _ R.map.lt e with h3 | h3 | h3 <;> (rw [R.omap] at h3; cases h3)
theorem Stp.put {w w' : World} {B sb : Nat} {s : St} {h : Hp} (R : Rep w B sb s h) {t : Rw} {v : Value} {S : Nat → Prop} (hT : Turn w w' S)
    (hS : ∀ g, g < w.heap.size → S g → h.own g ≠ .free) (hv : ∀ g, g < w.heap.size → v.ownBlock = some g → h.own g ≠ .free) : Stp w w' h (h.put t v) :=
  ⟨hT.mono hS, fun g hg e => by rw [Hp.put_own (fun e2 => hv g hg e2 e)]; exact e⟩

theorem setSol {w : World} {sb k : Nat} {cs : Array Value} {T : TypeId} {u : Value} (h : w.heap[sb]? = some (.cells cs T (0, 0))) : (w.setCell ⟨sb, k, none⟩ u).heap[sb]? = some (.cells (cs.setIfInBounds k u) T (0, 0)) := by
  simp only [World.setCell, Array.getElem?_modify, if_pos, h]
  rfl
end Go.Proofs.Ytbagcbiekpopbaa

namespace Go.Proofs.Ytbagcbiekpopbaa
open Go.RowKit Go.Proofs.YtbagcbiekpopbaaW.PrintWords Go.Proofs.YtbagcbiekpopbaaW.PrintLast
set_option linter.unusedVariables false
set_option linter.unusedSimpArgs false

theorem Rep.append {w w1 : World} {B sb : Nat} {s s' : St} {h : Hp} (R : Rep w B sb s h) {t : Rw} {v1 : Value} {xs : List Value} {k : Nat} (hg : w.grownBy w1 (h.val t).ownBlock) (hown : w1.ownsRow B (tyOf t) 1 v1 xs.length xs)
    (hat : v1.ownBlock = (h.val t).ownBlock ∨ ∃ b, v1.ownBlock = some b ∧ w.heap.size ≤ b) (hc : cellsOf s' (h.put t v1).val t = xs) (ho : ∀ t', t' ≠ t → cellsOf s' (h.put t v1).val t' = cellsOf s h.val t')
    (hsol : solOf s' (h.put t v1) = (solOf s h).setIfInBounds k v1) (hw : ∀ x, t ≠ .w x) (hn : s'.n = s.n ∧ s'.va.length = s.va.length ∧ s'.le.length = s.le.length) :
    Rep (w1.setCell ⟨sb, k, none⟩ v1) B sb s' (h.put t v1) ∧ Stp w (w1.setCell ⟨sb, k, none⟩ v1) h (h.put t v1) := by
  have hT : Turn w (w1.setCell ⟨sb, k, none⟩ v1) (fun g => (h.val t).ownBlock = some g ∨ g = sb) := (Turn.grown hg).trans (Turn.set w1 sb k v1)
  have hor : ∀ g, (h.val t).ownBlock = some g → h.own g = .row t := (R.row t).own
  have hlt : ∀ g, (h.val t).ownBlock = some g → g < w.heap.size ∧ B ≤ g := fun g e => ⟨((R.row t).row.lt g e).2, ((R.row t).row.lt g e).1⟩
  have hsz : (w1.setCell ⟨sb, k, none⟩ v1).heap.size = w1.heap.size := by simp
  have hsbne : ∀ g, v1.ownBlock = some g → g ≠ sb := by
    intro g e e2
    subst e2
    rcases hat with h1 | ⟨b, h1, h2⟩
    · have := hor g (by rw [← h1]; exact e)
      rw [R.osol] at this
      cases this
    · rw [h1] at e
      injection e with e
      have := R.base.2.2
      omega
  have hsol1 : w1.heap[sb]? = some (.cells (solOf s h) 47 (0, 0)) := by
    rw [hg.block sb R.base.2.2 (fun e => by have := hor sb e.symm; rw [R.osol] at this; cases this)]
    exact R.sol
  refine ⟨R.put hT (fun g hg' e => ?_) (fun g e => ?_) ?_ ho ?_ hw hn, Stp.put R hT (fun g hg' e => ?_) (fun g hg' e => ?_)⟩
  · rcases e with e | e
    · exact .inr (.inr (hor g e))
    · subst e; exact .inr (.inl R.osol)
  · rw [hsz]
    have h1 := hown.lt g e
    refine ⟨h1.2, h1.1, ?_⟩
    rcases hat with h2 | ⟨b, h2, h3⟩
    · exact .inr (hor g (by rw [← h2]; exact e))
    · rw [h2] at e
      injection e with e
      exact .inl (R.free g (by omega))
  · rw [hc]
    exact ownsRow_turn hown (Turn.set w1 sb k v1) (fun g e e2 => hsbne g e e2)
  · rw [hsol]
    exact setSol hsol1
  · rcases e with e | e
    · rw [hor g e]; exact fun e => by cases e
    · rw [e, R.osol]; exact fun e => by cases e
  · rcases hat with h2 | ⟨b, h2, h3⟩
    · rw [hor g (by rw [← h2]; exact e)]; exact fun e => by cases e
    · rw [h2] at e
      injection e with e
      omega
theorem infoF : (Try.prog.info? 45).map (fun i => (i.zero, i.size, i.bytes)) = some (some (.float .f64 0), 1, 8) := by kernel_rfl

/-- Where the rows that 'set' writes lie. -/
structure SetAt (w : World) (sb k gv gl gr nv nl nr cv cl cr L cm : Nat) (A7 : Option Addr) (v0 l0 r0 : Value) : Prop where
  h3 : w.cell? ⟨sb, 3, none⟩ = some (.slice (some ⟨gv, 0, none⟩) nv cv)
  h4 : w.cell? ⟨sb, 4, none⟩ = some (.slice (some ⟨gl, 0, none⟩) nl cl)
  h5 : w.cell? ⟨sb, 5, none⟩ = some (.slice (some ⟨gr, 0, none⟩) nr cr)
  h7 : w.cell? ⟨sb, 7, none⟩ = some (.slice A7 L cm)
  c3 : w.cell? ⟨gv, k, none⟩ = some v0
  c4 : w.cell? ⟨gl, k, none⟩ = some l0
  c5 : w.cell? ⟨gr, k, none⟩ = some r0
  f3 : w.frozen? ⟨gv, k, none⟩ = false
  f4 : w.frozen? ⟨gl, k, none⟩ = false
  f5 : w.frozen? ⟨gr, k, none⟩ = false
  hk : (k : Int) < (nv : Int)
  hk4 : (k : Int) < (nl : Int)
  hk5 : (k : Int) < (nr : Int)
  hcv : nv ≤ cv
  hcl : nl ≤ cl
  hcr : nr ≤ cr
  e1 : gv ≠ gl
  e2 : gv ≠ gr
  e3 : gl ≠ gr
  e4 : sb ≠ gv
  e5 : sb ≠ gl
  e6 : sb ≠ gr

set_option maxHeartbeats 4000000 in
set_option maxRecDepth 100000 in
theorem set_pos (k : Nat) (r : Int) (w W : World) (B sb gv gl gr nv nl nr cv cl cr L cm : Nat) (A7 : Option Addr) (v0 l0 r0 : Value) (F : SetAt w sb k gv gl gr nv nl nr cv cl cr L cm A7 v0 l0 r0) (hk : k < bigN) (s1 : St) (h : Hp)
    (hW : (((w.setCell ⟨gv, k, none⟩ (.int .i64 1)).setCell ⟨gl, k, none⟩ (.int .i64 (L : Int))).setCell ⟨gr, k, none⟩ (.int .i64 r)).drew = W) (R1 : Rep W B sb s1 h) (hl : s1.tr.length < bigN) :
    Calls Try.prog 24 #[.pointer (some ⟨sb, 0, none⟩), .int .i64 (k : Int), .int .i64 r] w fun e w' => e = .returned (.tuple #[]) ∧ ∃ v1 : Value, Rep w' B sb { s1 with tr := s1.tr ++ [(k : Int)] } (h.put .tr v1) ∧ Stp W w' h (h.put .tr v1) := by
  obtain ⟨h3, h4, h5, h7, c3, c4, c5, f3, f4, f5, hk2, hk4, hk5, hcv, hcl, hcr, e1, e2, e3, e4, e5, e6⟩ := F
  have HV := svar_nat k hk w
  have HR := Aside0.mk R1
  clear R1 hk
  have HL := Aside0.mk hl
  clear hl
  go_enter Try.func24, Try.ntmps24
  go_wp2_with (go_at_call 41; refine HV.mono ?_; rintro e w' ⟨rfl, rfl⟩)
  go_region
  clear HV h3 h4 h5 h7 c3 c4 c5 f3 f4 f5
  clear hW
  have hc6 : W.cell? ⟨sb, 6, none⟩ = some (h.val .tr) := HR.out.cell 6
  have hf6 := HR.out.frozen 6
  have hO := (HR.out.row .tr).row
  change W.ownsRow B 3 1 (h.val .tr) (cellsOf s1 h.val .tr).length (nums .i64 s1.tr) at hO
  rw [show (cellsOf s1 h.val .tr).length = s1.tr.length from by simp [cellsOf, nums]] at hO
  have HO := Aside0.mk hO
  have HS : Aside0 (some sb ≠ (h.val .tr).ownBlock) := ⟨fun e => by have := (HR.out.row .tr).own sb e.symm; rw [HR.out.osol] at this; cases this⟩
  clear hO
  generalize hv6 : h.val .tr = v6 at *
  have HV6 := Aside0.mk hv6
  clear hv6
  go_wp2_with (at_builtin; refine print_append_num (w0 := W) B rfl (.tmp 45) (.tmp 47) 37 3 .i64 8 rfl Try.underlying37 infoI (by decide) v6 s1.tr (k : Int) rfl rfl ?aO ?aB ?aS ?aL ?_)
  case aO => exact HO.out
  case aB => exact Below.refl _ _
  case aS => exact HR.out.base.1
  case aL => have := HL.out; unfold bigN at this; omega
  intro v1 w1 hown hb hg hat
  obtain ⟨g1, cap1, rfl⟩ := own_succ (k := s1.tr.length) (by simpa using hown)
  have hc1 : w1.cell? ⟨sb, 6, none⟩ = some v6 := hg.cell hc6 HS.out
  have hf1 : w1.frozen? ⟨sb, 6, none⟩ = false := (World.frozen?_of_block (hg.block sb HR.out.base.2.2 HS.out)).trans hf6
  have HF := Aside0.mk (HR.out.append (t := .tr) (k := 6) (s' := { s1 with tr := s1.tr ++ [(k : Int)] }) (xs := nums .i64 (s1.tr ++ [(k : Int)])) (v1 := .slice (some ⟨g1, 0, none⟩) (s1.tr.length + 1) cap1) (by rw [HV6.out]; exact hg) (by rw [nums_length, List.length_append]; exact hown) (by rw [HV6.out]; exact hat) rfl (fun t' ht => by rw [cells_put (fun i e => by cases e) (fun i e => by cases e)]; cases t' <;> first | rfl | exact absurd rfl ht) (by simp [solOf, Hp.put, upd]) (fun x e => by cases e) ⟨rfl, rfl, rfl⟩)
  clear hown hb hg hat hc6 hf6 HO HS HR
  go_wp2
  go_end0
  exact ⟨rfl, _, HF.out⟩
set_option maxHeartbeats 4000000 in
set_option maxRecDepth 100000 in
theorem set_neg (k : Nat) (r : Int) (w W0 W : World) (B sb gv gl gr nv nl nr cv cl cr L cm : Nat) (A7 : Option Addr) (v0 l0 r0 : Value) (F : SetAt w sb k gv gl gr nv nl nr cv cl cr L cm A7 v0 l0 r0) (hk : k < bigN) (s1 : St) (h : Hp)
    (hW : (((w.setCell ⟨gv, k, none⟩ (.int .i64 1)).setCell ⟨gl, k, none⟩ (.int .i64 (L : Int))).setCell ⟨gr, k, none⟩ (.int .i64 r)).drew = W0) (hW0 : W0.setCell ⟨gv, k, none⟩ (.int .i64 (-1)) = W) (hp : 1 ≤ k) (d3 : W0.cell? ⟨sb, 3, none⟩ = some (.slice (some ⟨gv, 0, none⟩) nv cv)) (d3' : W0.cell? ⟨gv, k, none⟩ = some (.int .i64 1)) (df : W0.frozen? ⟨gv, k, none⟩ = false) (R1 : Rep W B sb s1 h) (hl : s1.tr.length < bigN) :
    Calls Try.prog 24 #[.pointer (some ⟨sb, 0, none⟩), .int .i64 (-(k : Int)), .int .i64 r] w fun e w' => e = .returned (.tuple #[]) ∧ ∃ v1 : Value, Rep w' B sb { s1 with tr := s1.tr ++ [-(k : Int)] } (h.put .tr v1) ∧ Stp W w' h (h.put .tr v1) := by
  obtain ⟨h3, h4, h5, h7, c3, c4, c5, f3, f4, f5, hk2, hk4, hk5, hcv, hcl, hcr, e1, e2, e3, e4, e5, e6⟩ := F
  have HV := svar_neg k hk w
  have hp2 : decide (0 < k) = true := decide_eq_true (by omega)
  have HR := Aside0.mk R1
  clear R1 hk
  have HL := Aside0.mk hl
  clear hl
  go_enter Try.func24, Try.ntmps24
  go_wp2_with (go_at_call 41; refine HV.mono ?_; rintro e w' ⟨rfl, rfl⟩)
  go_region
  clear HV h3 h4 h5 h7 c3 c4 c5 f3 f4 f5
  clear hW
  have hc6 : W.cell? ⟨sb, 6, none⟩ = some (h.val .tr) := HR.out.cell 6
  have hf6 := HR.out.frozen 6
  have hO := (HR.out.row .tr).row
  change W.ownsRow B 3 1 (h.val .tr) (cellsOf s1 h.val .tr).length (nums .i64 s1.tr) at hO
  rw [show (cellsOf s1 h.val .tr).length = s1.tr.length from by simp [cellsOf, nums]] at hO
  have HO := Aside0.mk hO
  have HS : Aside0 (some sb ≠ (h.val .tr).ownBlock) := ⟨fun e => by have := (HR.out.row .tr).own sb e.symm; rw [HR.out.osol] at this; cases this⟩
  clear hO
  generalize hv6 : h.val .tr = v6 at *
  have HV6 := Aside0.mk hv6
  clear hv6
  go_wp2_with (at_builtin; refine print_append_num (w0 := W) B rfl (.tmp 45) (.tmp 47) 37 3 .i64 8 rfl Try.underlying37 infoI (by decide) v6 s1.tr (-(k : Int)) rfl rfl ?aO ?aB ?aS ?aL ?_)
  case aO => exact HO.out
  case aB => exact Below.refl _ _
  case aS => exact HR.out.base.1
  case aL => have := HL.out; unfold bigN at this; omega
  intro v1 w1 hown hb hg hat
  obtain ⟨g1, cap1, rfl⟩ := own_succ (k := s1.tr.length) (by simpa using hown)
  have hc1 : w1.cell? ⟨sb, 6, none⟩ = some v6 := hg.cell hc6 HS.out
  have hf1 : w1.frozen? ⟨sb, 6, none⟩ = false := (World.frozen?_of_block (hg.block sb HR.out.base.2.2 HS.out)).trans hf6
  have HF := Aside0.mk (HR.out.append (t := .tr) (k := 6) (s' := { s1 with tr := s1.tr ++ [-(k : Int)] }) (xs := nums .i64 (s1.tr ++ [-(k : Int)])) (v1 := .slice (some ⟨g1, 0, none⟩) (s1.tr.length + 1) cap1) (by rw [HV6.out]; exact hg) (by rw [nums_length, List.length_append]; exact hown) (by rw [HV6.out]; exact hat) rfl (fun t' ht => by rw [cells_put (fun i e => by cases e) (fun i e => by cases e)]; cases t' <;> first | rfl | exact absurd rfl ht) (by simp [solOf, Hp.put, upd]) (fun x e => by cases e) ⟨rfl, rfl, rfl⟩)
  clear hW0 d3 d3' df
  clear hown hb hg hat hc6 hf6 HO HS HR
  go_wp2
  go_end0
  exact ⟨rfl, _, HF.out⟩

theorem nums_get {l : List Int} {i : Nat} {x : Int} (h : l[i]? = some x) : (nums .i64 l)[i]? = some (.int .i64 x) := by
  unfold nums; rw [List.getElem?_map, h]; rfl
theorem nats_get {l : List Nat} {i : Nat} {x : Nat} (h : l[i]? = some x) : (nats l)[i]? = some (.int .i64 (x : Int)) := by
  unfold nats; rw [List.getElem?_map, h]; rfl
theorem nums_set (l : List Int) (i : Nat) (x : Int) : nums .i64 (l.set i x) = (nums .i64 l).set i (.int .i64 x) := by unfold nums; rw [List.map_set]
theorem nats_set (l : List Nat) (i : Nat) (x : Nat) : nats (l.set i x) = (nats l).set i (.int .i64 (x : Int)) := by unfold nats; rw [List.map_set]
theorem nats_length (l : List Nat) : (nats l).length = l.length := by simp [nats]
theorem tag_ne {w : World} {B sb : Nat} {s : St} {h : Hp} (R : Rep w B sb s h) {t t' : Rw} {g g' : Nat} (ht : h.own g = .row t) (ht' : h.own g' = .row t') (hne : t ≠ t') : g ≠ g' := by
  rintro rfl
  rw [ht] at ht'
  injection ht' with e
  exact hne e
theorem sol_ne {w : World} {B sb : Nat} {s : St} {h : Hp} (R : Rep w B sb s h) {t : Rw} {g : Nat} (ht : h.own g = .row t) : sb ≠ g := by
  rintro rfl
  rw [R.osol] at ht
  cases ht

theorem set_any (x r : Int) (w : World) (B sb : Nat) (s s' : St) (h : Hp) (R : Rep w B sb s h) (hs : s.set x r = some s') :
    Calls Try.prog 24 #[.pointer (some ⟨sb, 0, none⟩), .int .i64 x, .int .i64 r] w fun e w' => e = .returned (.tuple #[]) ∧ ∃ v1 : Value, Rep w' B sb s' (h.put .tr v1) ∧ Stp w w' h (h.put .tr v1) := by
  unfold St.set at hs
  split at hs
  · rename_i hc
    obtain ⟨b1, b2, b3, b4, b5⟩ := hc
    obtain rfl := Option.some.inj hs
    have hx : x.natAbs < bigN := Nat.lt_of_lt_of_le b1 R.small.2.1
    obtain ⟨k, hk⟩ : ∃ k, x.natAbs = k := ⟨_, rfl⟩
    rw [hk] at b1 b2 b3 hx ⊢
    have q3 := nums_get (List.getElem?_eq_getElem b1)
    have q4 := nats_get (List.getElem?_eq_getElem b2)
    have q5 := nums_get (List.getElem?_eq_getElem b3)
    obtain ⟨gv, cv, e3, l3, c3, m3, k3, f3, o3, z3⟩ := R.num (t := .va) q3
    obtain ⟨gl, cl, e4, l4, c4, m4, k4, f4, o4, z4⟩ := R.num (t := .le) q4
    obtain ⟨gr, cr, e5, l5, c5, m5, k5, f5, o5, z5⟩ := R.num (t := .re) q5
    obtain ⟨A7, cm, e7, _⟩ := (R.row .ma).form
    have n1 := tag_ne R o3 o4 (fun e => by cases e)
    have n2 := tag_ne R o3 o5 (fun e => by cases e)
    have n3 := tag_ne R o4 o5 (fun e => by cases e)
    have lm : (cellsOf s h.val .ma).length = s.ma.length := nats_length _
    rw [lm] at e7
    -- the three stores
    obtain ⟨R1, T1⟩ := R.setRow (s' := { s with va := s.va.set k 1 }) (t := .va) (i := k) (u := .int .i64 1) e3 (nums_set _ _ _) (fun t' ht => by cases t' <;> first | rfl | exact absurd rfl ht) rfl ⟨rfl, by simp, by simp⟩
    obtain ⟨R2, T2⟩ := R1.setRow (s' := { s with va := s.va.set k 1, le := s.le.set k s.ma.length }) (t := .le) (i := k) (u := .int .i64 (s.ma.length : Int)) e4 (nats_set _ _ _) (fun t' ht => by cases t' <;> first | rfl | exact absurd rfl ht) rfl ⟨rfl, by simp, by simp⟩
    obtain ⟨R3, T3⟩ := R2.setRow (s' := { s with va := s.va.set k 1, le := s.le.set k s.ma.length, re := s.re.set k r }) (t := .re) (i := k) (u := .int .i64 r) e5 (nums_set _ _ _) (fun t' ht => by cases t' <;> first | rfl | exact absurd rfl ht) rfl ⟨rfl, by simp, by simp⟩
    obtain ⟨W, hW⟩ : ∃ W, (((w.setCell ⟨gv, k, none⟩ (.int .i64 1)).setCell ⟨gl, k, none⟩ (.int .i64 (s.ma.length : Int))).setCell ⟨gr, k, none⟩ (.int .i64 r)).drew = W := ⟨_, rfl⟩
    have R4 : Rep W B sb { s with va := s.va.set k 1, le := s.le.set k s.ma.length, re := s.re.set k r } h := by
      rw [← hW]
      exact R3.turn (Turn.drew _ 1 (fun _ => False)) (fun _ _ e => e.elim)
    have S4 : Stp w W h h := by
      rw [← hW]
      refine ⟨(((T1.trans T2).trans T3).trans (Turn.drew _ 1 (fun _ => False))).mono (fun g _ e => ?_), fun _ _ e => e⟩
      rcases e with ((e | e) | e) | e
      · subst e; rw [o3]; exact fun e => by cases e
      · subst e; rw [o4]; exact fun e => by cases e
      · subst e; rw [o5]; exact fun e => by cases e
      · exact e.elim
    have F : SetAt w sb k gv gl gr (cellsOf s h.val .va).length (cellsOf s h.val .le).length (cellsOf s h.val .re).length cv cl cr s.ma.length cm A7 _ _ _ := ⟨by rw [← e3]; exact R.cell 3, by rw [← e4]; exact R.cell 4, by rw [← e5]; exact R.cell 5, by rw [← e7]; exact R.cell 7, k3, k4, k5, f3, f4, f5, by omega, by omega, by omega, c3, c4, c5, n1, n2, n3, sol_ne R o3, sol_ne R o4, sol_ne R o5⟩
    by_cases hn : x < 0
    · obtain rfl : x = -(k : Int) := by omega
      rw [if_pos hn]
      have q3' : (cellsOf { s with va := s.va.set k 1, le := s.le.set k s.ma.length, re := s.re.set k r } h.val .va)[k]? = some (.int .i64 1) := nums_get (by rw [List.getElem?_set_self b1])
      obtain ⟨gv', cv', e3', l3', c3', m3', k3', f3', o3', z3'⟩ := R4.num (t := .va) q3'
      rw [e3] at e3'
      injection e3' with e8 e9 e10
      injection e8 with e8
      injection e8 with e8
      subst e8
      obtain ⟨R5, T5⟩ := R4.setRow (s' := { s with va := s.va.set k (-1), le := s.le.set k s.ma.length, re := s.re.set k r }) (t := .va) (i := k) (u := .int .i64 (-1)) e3 (by show nums .i64 (s.va.set k (-1)) = (nums .i64 (s.va.set k 1)).set k _; rw [← nums_set, List.set_set]) (fun t' ht => by cases t' <;> first | rfl | exact absurd rfl ht) rfl ⟨rfl, by simp, by simp⟩
      have S5 : Stp W (W.setCell ⟨gv, k, none⟩ (.int .i64 (-1))) h h := ⟨T5.mono (fun g _ e => by subst e; rw [o3]; exact fun e => by cases e), fun _ _ e => e⟩
      refine (set_neg k r w W _ B sb gv gl gr _ _ _ cv cl cr s.ma.length cm A7 _ _ _ F hx _ h hW rfl (by omega) (by rw [← e3]; exact R4.cell 3) k3' f3' R5 b4).mono ?_
      rintro e w' ⟨rfl, v1, h1, h2⟩
      exact ⟨rfl, v1, h1, (S4.trans S5).trans h2⟩
    · obtain rfl : x = (k : Int) := by omega
      rw [if_neg hn]
      refine (set_pos k r w W B sb gv gl gr _ _ _ cv cl cr s.ma.length cm A7 _ _ _ F hx _ h hW R4 b4).mono ?_
      rintro e w' ⟨rfl, v1, h1, h2⟩
      exact ⟨rfl, v1, h1, S4.trans h2⟩
  · cases hs
end Go.Proofs.Ytbagcbiekpopbaa

namespace Go.Proofs.Ytbagcbiekpopbaa
open Go.RowKit Go.Proofs.YtbagcbiekpopbaaW.PrintWords Go.Proofs.YtbagcbiekpopbaaW.PrintLast
set_option linter.unusedVariables false
set_option linter.unusedSimpArgs false

theorem Rep.watch {w w' w2 w3 : World} {B sb : Nat} {s : St} {h : Hp} (R : Rep w B sb s h) {a : Int} {k : Nat} {v1 : Value} (hb : Below w.heap.size w w') (hg : w'.grownBy w2 (h.val (.w a)).ownBlock)
    (hown : w2.ownsRow B 3 1 v1 (nats (s.wt a ++ [k])).length (nats (s.wt a ++ [k]))) (hat : v1.ownBlock = (h.val (.w a)).ownBlock ∨ ∃ b, v1.ownBlock = some b ∧ w'.heap.size ≤ b)
    (hg3 : w2.grownBy w3 (some h.wb)) (hM : MapR w3 h.wb nilS (upd (fun x => h.val (.w x)) a v1)) :
    Rep w3 B sb { s with wt := upd s.wt a (s.wt a ++ [k]) } (h.put (.w a) v1) ∧ Stp w w3 h (h.put (.w a) v1) := by
  have hT : Turn w w3 (fun g => (h.val (.w a)).ownBlock = some g ∨ g = h.wb) := by
    refine (((Turn.of_below hb (fun _ => False)).trans (Turn.grown hg)).trans (Turn.grown hg3)).mono (fun g _ e => ?_)
    rcases e with (e | e) | e
    · exact e.elim
    · exact .inl e
    · injection e with e; exact .inr e.symm
  have hor : ∀ g, (h.val (.w a)).ownBlock = some g → h.own g = .row (.w a) := (R.row (.w a)).own
  have hlt : ∀ g, (h.val (.w a)).ownBlock = some g → g < w.heap.size := fun g e => ((R.row (.w a)).row.lt g e).2
  have hsz2 : w2.heap.size ≤ w3.heap.size := hg3.size
  have hv : ∀ g, v1.ownBlock = some g → g < w3.heap.size ∧ B ≤ g ∧ (h.own g = .row (.w a) ∨ (h.own g = .free ∧ w.heap.size ≤ g)) := by
    intro g e
    have h1 := hown.lt g e
    refine ⟨by omega, h1.1, ?_⟩
    rcases hat with h2 | ⟨b, h2, h3⟩
    · exact .inl (hor g (by rw [← h2]; exact e))
    · rw [h2] at e
      injection e with e
      have := hb.size
      exact .inr ⟨R.free g (by omega), by omega⟩
  have hval : ∀ x, (h.put (.w a) v1).val (.w x) = upd (fun x => h.val (.w x)) a v1 x := fun x => by
    rw [Hp.put_val]
    unfold upd
    by_cases e : x = a
    · subst e; rw [if_pos rfl, if_pos rfl]
    · rw [if_neg e, if_neg (fun h => e (by injection h))]
  have hsol : w3.heap[sb]? = w.heap[sb]? := hT.block sb R.base.2.2 (fun e => by
    rcases e with e | e
    · have := hor sb e; rw [R.osol] at this; cases this
    · have := R.omap; rw [← e, R.osol] at this; cases this)
  refine ⟨R.change hT (fun g hg' hf => ?_) (fun g hg' => ?_) (fun g hg' => ?_) ?_ (fun t' => ?_) rfl (.inr ?_) ⟨rfl, rfl, rfl⟩, hT.mono (fun g hg' e => ?_), fun g hg' e => ?_⟩
  · by_cases e : v1.ownBlock = some g
    · rw [Hp.put_self e]
      rcases (hv g e).2.2 with h1 | ⟨h1, _⟩
      · exact h1.symm
      · exact absurd h1 hf
    · exact Hp.put_own e
  · rw [Hp.put_own (fun e => by have := (hv g e).1; omega)]
    exact R.free g (Nat.le_trans hT.size hg')
  · rw [Hp.put_own (fun e => by have := (hv g e).2.1; omega)]
    exact R.low g hg'
  · rw [hsol, R.sol]
    simp [solOf, Hp.put, upd]
  · by_cases e : t' = .w a
    · subst e
      right
      have e2 : (h.put (.w a) v1).val (.w a) = v1 := by rw [Hp.put_val, if_pos rfl]
      have e3 : cellsOf { s with wt := upd s.wt a (s.wt a ++ [k]) } (h.put (.w a) v1).val (.w a) = nats (s.wt a ++ [k]) := by
        show nats (upd s.wt a (s.wt a ++ [k]) a) = _
        unfold upd; rw [if_pos rfl]
      refine ⟨?_, fun g hg' => Hp.put_self (by rw [← hg', e2])⟩
      rw [e2, e3]
      exact ownsRow_turn hown (Turn.grown hg3) (fun g e e4 => by
        injection e4 with e4
        have := (hv g e).2.2
        rw [← e4, R.omap] at this
        rcases this with h1 | ⟨h1, _⟩ <;> cases h1)
    · left
      refine ⟨by rw [Hp.put_val, if_neg e], ?_, fun g hg' hs h2 => ?_⟩
      · rw [cells_put (fun i e => by cases e) (fun i e => by cases e)]
        cases t' <;> try rfl
        rename_i x
        show nats (upd s.wt a (s.wt a ++ [k]) x) = nats (s.wt x)
        unfold upd
        rw [if_neg (fun e2 => e (by rw [e2]))]
      · rcases hs with hs | hs
        · rw [hor g hs] at h2; injection h2 with h2; exact e h2.symm
        · rw [hs, R.omap] at h2; cases h2
  · rw [show (fun x => (h.put (.w a) v1).val (.w x)) = upd (fun x => h.val (.w x)) a v1 from funext hval]
    exact hM
  · rcases e with e | e
    · rw [hor g e]; exact fun e => by cases e
    · rw [e, R.omap]; exact fun e => by cases e
  · rw [Hp.put_own (fun e2 => ?_)]
    · exact e
    · rcases (hv g e2).2.2 with h1 | ⟨_, h1⟩
      · rw [e] at h1; cases h1
      · omega

/-- A row that was free becomes a clause of the solver's (or of its proof). -/
theorem Rep.adopt {w w' w1 : World} {B sb : Nat} {s s' : St} {h : Hp} (R : Rep w B sb s h) {t c : Rw} {v1 lv : Value} {xs : List Value} {k : Nat} (hb : Below w.heap.size w w') (hg : w'.grownBy w1 (h.val t).ownBlock)
    (hown : w1.ownsRow B (tyOf t) 1 v1 (cellsOf s h.val t ++ [lv]).length (cellsOf s h.val t ++ [lv])) (hat : v1.ownBlock = (h.val t).ownBlock ∨ ∃ b, v1.ownBlock = some b ∧ w'.heap.size ≤ b)
    (hl : w.ownsRow B (tyOf c) 1 lv xs.length xs ∨ (w'.ownsRow B (tyOf c) 1 lv xs.length xs ∧ ∀ g, lv.ownBlock = some g → w.heap.size ≤ g)) (hlf : ∀ g, lv.ownBlock = some g → h.own g = .free)
    (hct : c ≠ t) (hc : cellsOf s' ((h.put c lv).put t v1).val c = xs) (ht : cellsOf s' ((h.put c lv).put t v1).val t = cellsOf s h.val t ++ [lv])
    (ho : ∀ t', t' ≠ t → t' ≠ c → cellsOf s' ((h.put c lv).put t v1).val t' = cellsOf s h.val t')
    (hsol : solOf s' ((h.put c lv).put t v1) = (solOf s h).setIfInBounds k v1) (hw : ∀ x, t ≠ .w x ∧ c ≠ .w x) (hn : s'.n = s.n ∧ s'.va.length = s.va.length ∧ s'.le.length = s.le.length) :
    Rep (w1.setCell ⟨sb, k, none⟩ v1) B sb s' ((h.put c lv).put t v1) ∧ Turn w (w1.setCell ⟨sb, k, none⟩ v1) (fun g => (h.val t).ownBlock = some g ∨ g = sb) ∧ ∀ g, g < w.heap.size → lv.ownBlock ≠ some g → h.own g = .free → ((h.put c lv).put t v1).own g = .free := by
  have hT : Turn w (w1.setCell ⟨sb, k, none⟩ v1) (fun g => (h.val t).ownBlock = some g ∨ g = sb) := by
    refine (((Turn.of_below hb (fun _ => False)).trans (Turn.grown hg)).trans (Turn.set w1 sb k v1)).mono (fun g _ e => ?_)
    rcases e with (e | e) | e
    · exact e.elim
    · exact .inl e
    · exact .inr e
  have hor : ∀ g, (h.val t).ownBlock = some g → h.own g = .row t := (R.row t).own
  have hsz : (w1.setCell ⟨sb, k, none⟩ v1).heap.size = w1.heap.size := by simp
  have hlw : w'.ownsRow B (tyOf c) 1 lv xs.length xs := by
    rcases hl with hl | hl
    · exact ownsRow_turn hl (Turn.of_below hb (fun _ => False)) (fun _ _ e => e)
    · exact hl.1
  have hll : ∀ g, lv.ownBlock = some g → g < w'.heap.size ∧ B ≤ g := fun g e => ⟨(hlw.lt g e).2, (hlw.lt g e).1⟩
  have hv : ∀ g, v1.ownBlock = some g → g < w1.heap.size ∧ B ≤ g ∧ (h.own g = .row t ∨ (h.own g = .free ∧ w'.heap.size ≤ g)) := by
    intro g e
    have h1 := hown.lt g e
    refine ⟨h1.2, h1.1, ?_⟩
    rcases hat with h2 | ⟨b, h2, h3⟩
    · exact .inl (hor g (by rw [← h2]; exact e))
    · rw [h2] at e
      injection e with e
      have := hb.size
      exact .inr ⟨R.free g (by omega), by omega⟩
  have hvl : ∀ g, v1.ownBlock = some g → lv.ownBlock ≠ some g := fun g e e2 => by
    rcases (hv g e).2.2 with h1 | ⟨_, h1⟩
    · rw [hlf g e2] at h1; cases h1
    · have := (hll g e2).1; omega
  have own2 : ∀ g, ((h.put c lv).put t v1).own g = if v1.ownBlock = some g then .row t else if lv.ownBlock = some g then .row c else h.own g := by
    intro g
    by_cases e1 : v1.ownBlock = some g
    · rw [Hp.put_self e1, if_pos e1]
    · rw [Hp.put_own e1, if_neg e1]
      by_cases e2 : lv.ownBlock = some g
      · rw [Hp.put_self e2, if_pos e2]
      · rw [Hp.put_own e2, if_neg e2]
  have val2 : ∀ t', ((h.put c lv).put t v1).val t' = if t' = t then v1 else if t' = c then lv else h.val t' := fun t' => by rw [Hp.put_val, Hp.put_val]
  have hsbne : ∀ g, (v1.ownBlock = some g ∨ lv.ownBlock = some g) → g ≠ sb := by
    rintro g e rfl
    rcases e with e | e
    · rcases (hv g e).2.2 with h1 | ⟨h1, _⟩ <;> (rw [R.osol] at h1; cases h1)
    · have := hlf g e; rw [R.osol] at this; cases this
  have hw1size : w'.heap.size ≤ w1.heap.size := hg.size
  have hwsize := hb.size
  refine ⟨R.change hT (fun g hg' hf => ?_) (fun g hg' => ?_) (fun g hg' => ?_) ?_ (fun t' => ?_) rfl (.inl ⟨fun x => ?_, fun e => ?_⟩) hn, hT, fun g h1 h2 h3 => ?_⟩
  · rw [own2]
    split
    · rename_i e
      rcases (hv g e).2.2 with h1 | ⟨h1, _⟩
      · exact h1.symm
      · exact absurd h1 hf
    · split
      · rename_i e
        exact absurd (hlf g e) hf
      · rfl
  · rw [own2, if_neg (fun e => by have := (hv g e).1; omega), if_neg (fun e => by have := (hll g e).1; omega)]
    exact R.free g (by omega)
  · rw [own2, if_neg (fun e => by have := (hv g e).2.1; omega), if_neg (fun e => by have := (hll g e).2; omega)]
    exact R.low g hg'
  · have hsol1 : w1.heap[sb]? = some (.cells (solOf s h) 47 (0, 0)) := by
      rw [hg.block sb (by have := R.base.2.2; omega) (fun e => by have := hor sb e.symm; rw [R.osol] at this; cases this), hb.block sb R.base.2.2]
      exact R.sol
    rw [hsol]
    exact setSol hsol1
  · by_cases e : t' = t
    · subst e
      right
      have e2 : ((h.put c lv).put t' v1).val t' = v1 := by rw [val2, if_pos rfl]
      refine ⟨?_, fun g hg' => ?_⟩
      · rw [e2, ht]
        exact ownsRow_turn hown (Turn.set w1 sb k v1) (fun g e e3 => hsbne g (.inl e) e3)
      · rw [e2] at hg'
        rw [own2, if_pos hg']
    · by_cases e' : t' = c
      · subst e'
        right
        have e2 : ((h.put t' lv).put t v1).val t' = lv := by rw [val2, if_neg e, if_pos rfl]
        refine ⟨?_, fun g hg' => ?_⟩
        · rw [e2, hc]
          refine ownsRow_turn hlw ((Turn.grown hg).trans (Turn.set w1 sb k v1)) (fun g e3 e4 => ?_)
          rcases e4 with e4 | e4
          · have := hlf g e3; rw [hor g e4] at this; cases this
          · exact hsbne g (.inr e3) e4
        · rw [e2] at hg'
          rw [own2, if_neg (fun e3 => hvl g e3 hg'), if_pos hg']
      · left
        refine ⟨by rw [val2, if_neg e, if_neg e'], ho t' e e', fun g hg' hs h2 => ?_⟩
        rcases hs with hs | hs
        · rw [hor g hs] at h2; injection h2 with h2; exact e h2.symm
        · rw [hs, R.osol] at h2; cases h2
  · rw [val2, if_neg (fun e => (hw x).1 e.symm), if_neg (fun e => (hw x).2 e.symm)]
  · rcases e with e | e
    · have := hor _ e; rw [R.omap] at this; cases this
    · have := R.omap; rw [e, R.osol] at this; cases this
  · rw [own2, if_neg (fun e => ?_), if_neg h2]
    · exact h3
    · rcases (hv g e).2.2 with h4 | ⟨_, h4⟩
      · rw [h3] at h4; cases h4
      · omega
end Go.Proofs.Ytbagcbiekpopbaa

namespace Go.Proofs.Ytbagcbiekpopbaa
open Go.RowKit Go.Proofs.YtbagcbiekpopbaaW.PrintWords Go.Proofs.YtbagcbiekpopbaaW.PrintLast
set_option linter.unusedVariables false
set_option linter.unusedSimpArgs false

theorem Turn.cell {w w' : World} {S : Nat → Prop} (h : Turn w w' S) {g i : Nat} {u : Value} (hc : w.cell? ⟨g, i, none⟩ = some u) (hn : ¬ S g) : w'.cell? ⟨g, i, none⟩ = some u :=
  (World.cell?_of_block (h.block g (World.block_lt_of_cell? w _ hc) hn)).trans hc
/-- What a look-up in a map tells. -/
noncomputable def lookV (b : Nat) (x : Int) (w : World) : Value := match (Instr.lookup 43 (.map (some b)) (.int .i64 x) false).run Try.prog w with | .ok v _ => v | _ => nilS
theorem MapR.lookV {w : World} {b : Nat} {V : Int → Value} (h : MapR w b nilS V) {x : Int} (hx : x.natAbs < bigN) : (Instr.lookup 43 (.map (some b)) (.int .i64 x) false).run Try.prog w = .ok (lookV b x w) w ∧ Ytbagcbiekpopbaa.lookV b x w = V x := by
  have h1 := h.look Try.underlying43 (Try.zeroValue37 _) hx
  have h2 : Ytbagcbiekpopbaa.lookV b x w = V x := by unfold Ytbagcbiekpopbaa.lookV; rw [h1]
  exact ⟨by rw [h2]; exact h1, h2⟩
/-- What is read where a literal's clauses get one more. -/
def WatchS (sb gc j wb : Nat) (x : Int) (u : Value) (w' : World) : Prop := w'.cell? ⟨sb, 2, none⟩ = some (.map (some wb)) ∧ w'.cell? ⟨gc, j, none⟩ = some u ∧ (Instr.lookup 43 (.map (some wb)) (.int .i64 x) false).run Try.prog w' = .ok (lookV wb x w') w'
theorem watch_at {w : World} {B sb : Nat} {s : St} {h : Hp} (R : Rep w B sb s h) {x : Int} (hx : x.natAbs < bigN) {gc j : Nat} {u : Value} (hc : w.cell? ⟨gc, j, none⟩ = some u) (hn : h.own gc ≠ .row (.w x)) (hn2 : gc ≠ h.wb)
    (W' : World) (ht : Turn w W' (fun g => h.own g = .row (.w x) ∨ g = h.wb)) {V : Int → Value} (hm : MapR W' h.wb nilS V) : WatchS sb gc j h.wb x u W' := by
  refine ⟨ht.cell (R.cell 2) (fun e => ?_), ht.cell hc (fun e => ?_), (hm.lookV hx).1⟩
  · rcases e with e | e
    · rw [R.osol] at e; cases e
    · have := R.omap; rw [← e, R.osol] at this; cases this
  · rcases e with e | e
    · exact hn e
    · exact hn2 e
theorem watch_below {w : World} {B sb : Nat} {s : St} {h : Hp} (R : Rep w B sb s h) {x : Int} (hx : x.natAbs < bigN) {gc j : Nat} {u : Value} (hc : w.cell? ⟨gc, j, none⟩ = some u) (hn : h.own gc ≠ .row (.w x)) (hn2 : gc ≠ h.wb)
    (W' : World) (hb : Below w.heap.size w W') : WatchS sb gc j h.wb x u W' ∧ lookV h.wb x W' = h.val (.w x) := by
  have hm := R.map.turn (Turn.of_below hb (fun _ => False)) (fun e => e)
  exact ⟨watch_at R hx hc hn hn2 W' (Turn.of_below hb _) hm, (hm.lookV hx).2⟩
theorem turn_below {w w' : World} (h : Below w.heap.size w w') {S : Nat → Prop} : Turn w w' S := Turn.of_below h S

/-- A literal's clauses get one more: the append at a step of a region that draws; and what the store into the map leaves. -/
theorem step_watch {ops : Array Oper} {o : Oper} {a : Act} {Q : Exit → Act → World → Prop} {Kc : Act → World → Prop} {W1 W : World} {B sb : Nat} {s : St} {h : Hp} (R : Rep W1 B sb s h) (x : Int) (k : Nat) (hx : x.natAbs < bigN) (hl : (s.wt x).length < bigN)
    (hb : Below W1.heap.size W1 W) (hw : Region.wanted o (yielded ops a.tmps) = true) (sl xo : Operand) (ho : o.op = .call { callee := .builtin .append, args := #[sl, xo], argTypes := #[37, 37] })
    (hs : a.eval sl = h.val (.w x)) (g0 : Nat) (hxo : a.eval xo = .slice (some ⟨g0, 0, none⟩) 1 1) (hg0 : W.heap[g0]? = some (.cells #[.int .i64 (k : Int)] 3 (0, 0)))
    (hK : ∀ (g cap : Nat) (w2 w3 : World), (Instr.mapUpdate 43 (.map (some h.wb)) (.int .i64 x) (.slice (some ⟨g, 0, none⟩) ((s.wt x).length + 1) cap)).run Try.prog w2 = .ok () w3 → Turn W1 w2 (fun g => h.own g = .row (.w x) ∨ g = h.wb) → (∃ V, MapR w2 h.wb nilS V) → Turn W1 w3 (fun g => h.own g = .row (.w x) ∨ g = h.wb) → (∃ V, MapR w3 h.wb nilS V) →
      Rep w3 B sb { s with wt := upd s.wt x (s.wt x ++ [k]) } (h.put (.w x) (.slice (some ⟨g, 0, none⟩) ((s.wt x).length + 1) cap)) → Stp W1 w3 h (h.put (.w x) (.slice (some ⟨g, 0, none⟩) ((s.wt x).length + 1) cap)) →
      Kc (a.put o.dst (.slice (some ⟨g, 0, none⟩) ((s.wt x).length + 1) cap)) w2) :
    if Region.wanted o (yielded ops a.tmps) = true then Oper.wp Try.prog o a W Kc Q else Kc (a.put o.dst undef) W := by
  have hBs := R.base.1
  have hrow := (R.row (.w x)).row
  change W1.ownsRow B 3 1 (h.val (.w x)) (nats (s.wt x)).length (nats (s.wt x)) at hrow
  refine step_append_all (w0 := W1) B hw sl xo 37 3 (.int .i64 0) 8 ho Try.underlying37 infoI rfl (by decide) (h.val (.w x)) (nats (s.wt x)) _ 1 1 [.int .i64 (k : Int)] hs hxo (by simp [nats, Value.oneCell']) (by simp [Value.oneCell']) (pw_own_below hrow hb) rfl (by omega)
    (fun _ => ⟨_, rfl, World.news_of_block (cs := #[.int .i64 (k : Int)]) (t := 3) (fr := (0, 0)) hg0⟩) (hb.mono hBs) (Nat.le_trans hBs hb.size) (by rw [nats_length]; unfold bigN at hl; omega) ?_
  intro v1 w2 hown hb1 hg hat
  have e1 : nats (s.wt x) ++ [Value.int .i64 (k : Int)] = nats (s.wt x ++ [k]) := by simp [nats]
  rw [e1] at hown
  obtain ⟨g, cap, rfl⟩ := own_succ (k := (s.wt x).length) (by simpa [nats] using hown)
  have hor := (R.row (.w x)).own
  have hT : Turn W1 w2 (fun g => h.own g = .row (.w x)) := ((Turn.of_below hb (fun _ => False)).trans (Turn.grown hg)).mono (fun g _ e => by
    rcases e with e | e
    · exact e.elim
    · exact hor g e)
  obtain ⟨w3, hrun, hM3, hg3⟩ := (R.map.turn hT (by rw [R.omap]; exact fun e => by cases e)).store Try.underlying43 hx (.slice (some ⟨g, 0, none⟩) ((s.wt x).length + 1) cap)
  obtain ⟨h1, h2⟩ := R.watch hb hg hown hat hg3 hM3
  have hT2 : Turn W1 w2 (fun g => h.own g = .row (.w x) ∨ g = h.wb) := hT.mono (fun _ _ e => .inl e)
  refine hK g cap w2 w3 hrun hT2 ⟨_, R.map.turn hT (by rw [R.omap]; exact fun e => by cases e)⟩ ?_ ⟨_, hM3⟩ h1 h2
  exact (hT2.trans (Turn.grown hg3)).mono (fun g _ e => by
    rcases e with e | e
    · exact e
    · injection e with e; exact .inr e.symm)
theorem range_put (h : Hp) (c : Nat → Rw) (t : Rw) (lv v1 : Value) (k : Nat) (hinj : ∀ i j, c i = c j → i = j) (ht : ∀ i, c i ≠ t) : (List.range (k + 1)).map (fun i => ((h.put (c k) lv).put t v1).val (c i)) = (List.range k).map (fun i => h.val (c i)) ++ [lv] := by
  rw [List.range_succ, List.map_append]
  congr 1
  · refine List.map_congr_left (fun i hi => ?_)
    rw [Hp.put_val, Hp.put_val, if_neg (ht i), if_neg (fun e => by have := hinj _ _ e; rw [List.mem_range] at hi; omega)]
  · simp only [List.map_cons, List.map_nil]
    rw [Hp.put_val, Hp.put_val, if_neg (ht k), if_pos rfl]
theorem Rep.addClause {w w' w1 : World} {B sb : Nat} {s : St} {h : Hp} (R : Rep w B sb s h) {v1 lv : Value} {l : List Int} (hb : Below w.heap.size w w') (hg : w'.grownBy w1 (h.val .cl).ownBlock)
    (hown : w1.ownsRow B 37 1 v1 (cellsOf s h.val .cl ++ [lv]).length (cellsOf s h.val .cl ++ [lv])) (hat : v1.ownBlock = (h.val .cl).ownBlock ∨ ∃ b, v1.ownBlock = some b ∧ w'.heap.size ≤ b)
    (hl : w.ownsRow B 3 1 lv l.length (nums .i64 l)) (hlf : ∀ g, lv.ownBlock = some g → h.own g = .free) :
    Rep (w1.setCell ⟨sb, 1, none⟩ v1) B sb { s with cl := s.cl ++ [l] } ((h.put (.c s.cl.length) lv).put .cl v1) ∧ Turn w (w1.setCell ⟨sb, 1, none⟩ v1) (fun g => (h.val .cl).ownBlock = some g ∨ g = sb) ∧ ∀ g, g < w.heap.size → lv.ownBlock ≠ some g → h.own g = .free → ((h.put (.c s.cl.length) lv).put .cl v1).own g = .free := by
  refine R.adopt (t := .cl) (c := .c s.cl.length) (xs := nums .i64 l) hb hg hown hat (.inl (by rw [nums_length]; exact hl)) hlf (fun e => by cases e) ?_ ?_ (fun t' h1 h2 => ?_) ?_ (fun x => ⟨fun e => (by cases e), fun e => (by cases e)⟩) ⟨rfl, rfl, rfl⟩
  · show nums .i64 ((s.cl ++ [l]).getD s.cl.length []) = _
    simp
  · show (List.range (s.cl ++ [l]).length).map _ = _
    rw [List.length_append]
    exact range_put h Rw.c .cl lv v1 s.cl.length (fun i j e => by injection e) (fun i e => by cases e)
  · cases t' <;> try rfl
    · exact absurd rfl h1
    · show (List.range s.pf.length).map _ = _
      refine List.map_congr_left (fun i hi => ?_)
      rw [Hp.put_val, Hp.put_val, if_neg (fun e => by cases e), if_neg (fun e => by cases e)]
    · rename_i i
      show nums .i64 ((s.cl ++ [l]).getD i []) = nums .i64 (s.cl.getD i [])
      have hne : i ≠ s.cl.length := fun e => h2 (by rw [e])
      rcases Nat.lt_or_ge i s.cl.length with h3 | h3
      · rw [List.getD_eq_getElem?_getD, List.getD_eq_getElem?_getD, List.getElem?_append_left h3]
      · rw [List.getD_eq_getElem?_getD, List.getD_eq_getElem?_getD, List.getElem?_eq_none (by simp; omega), List.getElem?_eq_none (by omega)]
  · simp [solOf, Hp.put, upd]
theorem Rep.addProof {w w' w1 : World} {B sb : Nat} {s : St} {h : Hp} (R : Rep w B sb s h) {v1 lv : Value} {l : List Int} (hb : Below w.heap.size w w') (hg : w'.grownBy w1 (h.val .pf).ownBlock)
    (hown : w1.ownsRow B 37 1 v1 (cellsOf s h.val .pf ++ [lv]).length (cellsOf s h.val .pf ++ [lv])) (hat : v1.ownBlock = (h.val .pf).ownBlock ∨ ∃ b, v1.ownBlock = some b ∧ w'.heap.size ≤ b)
    (hl : w'.ownsRow B 3 1 lv l.length (nums .i64 l)) (hlf : ∀ g, lv.ownBlock = some g → w.heap.size ≤ g) :
    Rep (w1.setCell ⟨sb, 11, none⟩ v1) B sb { s with pf := s.pf ++ [l] } ((h.put (.p s.pf.length) lv).put .pf v1) ∧ Turn w (w1.setCell ⟨sb, 11, none⟩ v1) (fun g => (h.val .pf).ownBlock = some g ∨ g = sb) ∧ ∀ g, g < w.heap.size → lv.ownBlock ≠ some g → h.own g = .free → ((h.put (.p s.pf.length) lv).put .pf v1).own g = .free := by
  refine R.adopt (t := .pf) (c := .p s.pf.length) (xs := nums .i64 l) hb hg hown hat (.inr ⟨by rw [nums_length]; exact hl, hlf⟩) (fun g e => R.free g (hlf g e)) (fun e => by cases e) ?_ ?_ (fun t' h1 h2 => ?_) ?_ (fun x => ⟨fun e => (by cases e), fun e => (by cases e)⟩) ⟨rfl, rfl, rfl⟩
  · show nums .i64 ((s.pf ++ [l]).getD s.pf.length []) = _
    simp
  · show (List.range (s.pf ++ [l]).length).map _ = _
    rw [List.length_append]
    exact range_put h Rw.p .pf lv v1 s.pf.length (fun i j e => by injection e) (fun i e => by cases e)
  · cases t' <;> try rfl
    · show (List.range s.cl.length).map _ = _
      refine List.map_congr_left (fun i hi => ?_)
      rw [Hp.put_val, Hp.put_val, if_neg (fun e => by cases e), if_neg (fun e => by cases e)]
    · exact absurd rfl h1
    · rename_i i
      show nums .i64 ((s.pf ++ [l]).getD i []) = nums .i64 (s.pf.getD i [])
      have hne : i ≠ s.pf.length := fun e => h2 (by rw [e])
      rcases Nat.lt_or_ge i s.pf.length with h3 | h3
      · rw [List.getD_eq_getElem?_getD, List.getD_eq_getElem?_getD, List.getElem?_append_left h3]
      · rw [List.getD_eq_getElem?_getD, List.getD_eq_getElem?_getD, List.getElem?_eq_none (by simp; omega), List.getElem?_eq_none (by omega)]
  · simp [solOf, Hp.put, upd]

set_option maxHeartbeats 4000000 in
set_option maxRecDepth 100000 in
theorem add_any (a b : Int) (r : List Int) (len cap gc : Nat) (w : World) (B sb : Nat) (s s' : St) (k : Nat) (h : Hp) (R : Rep w B sb s h) (hs : s.add (a :: b :: r) = some (s', k))
    (hl : w.ownsRow B 3 1 (.slice (some ⟨gc, 0, none⟩) len cap) len (nums .i64 (a :: b :: r))) (hlf : h.own gc = .free) :
    Calls Try.prog 36 #[.pointer (some ⟨sb, 0, none⟩), .slice (some ⟨gc, 0, none⟩) len cap] w fun e w' => e = .returned (.int .i64 (k : Int)) ∧
      ∃ h', Rep w' B sb s' h' ∧ Turn w w' (fun g => h.own g ≠ .free ∨ g = gc) ∧ (∀ g, g < w.heap.size → g ≠ gc → h.own g = .free → h'.own g = .free) ∧ h'.val (.c k) = .slice (some ⟨gc, 0, none⟩) len cap := by
  unfold St.add at hs
  simp only at hs
  split at hs
  · rename_i hcl
    simp only [Option.bind_eq_bind, Option.bind_eq_some_iff] at hs
    obtain ⟨s1, hs1, s2, hs2, hs⟩ := hs
    obtain ⟨rfl, rfl⟩ := Prod.mk.inj (Option.some.inj hs)
    clear hs
    unfold St.watchOn at hs1 hs2
    split at hs1
    · rename_i ha
      obtain rfl := Option.some.inj hs1
      split at hs2
      · rename_i hb
        obtain rfl := Option.some.inj hs2
        clear hs1 hs2
        simp only at ha hb
        obtain ⟨A1, c1, e1, hc1, hc2, _⟩ := (R.row .cl).form
        have lcl : (cellsOf s h.val .cl).length = s.cl.length := by simp [cellsOf]
        have HO := Aside0.mk (R.row .cl).row
        have HF := Aside0.mk e1
        have hcell1 := R.cell 1
        have hfr1 := R.frozen 1
        change w.cell? ⟨sb, 1, none⟩ = some (h.val .cl) at hcell1
        rw [e1, lcl] at hcell1
        have HR := Aside0.mk R
        have HS : Aside0 (some sb ≠ (h.val .cl).ownBlock) := ⟨fun e => by have := (HR.out.row .cl).own sb e.symm; rw [HR.out.osol] at this; cases this⟩
        have HL := Aside0.mk hl
        have HA := Aside0.mk (And.intro hcl (And.intro ha hb))
        have HLF := Aside0.mk hlf
        have HLC := Aside0.mk lcl
        have hc0 : w.cell? ⟨gc, 0, none⟩ = some (.int .i64 a) := by
          have := hl.cells (g := gc) rfl 0 (.int .i64 a) rfl
          rwa [add_plain] at this
        have hc01 : w.cell? ⟨gc, 1, none⟩ = some (.int .i64 b) := by
          have := hl.cells (g := gc) rfl 1 (.int .i64 b) rfl
          rwa [add_plain] at this
        have HC := Aside0.mk (And.intro hc0 hc01)
        have hlen : 2 ≤ len ∧ len ≤ cap := by
          have := hl.1
          rcases hl.2 with ⟨e, _⟩ | ⟨_, _, _, e, _, _, h5, _⟩
          · cases e
          · injection e with _ e2 e3
            subst e3
            simp [nums] at this
            omega
        obtain ⟨hlen1, hlen2⟩ := hlen
        have hi0 : (0 : Int) < (len : Int) := by omega
        have hi00 : 0 < len := by omega
        have hi1 : (1 : Int) < (len : Int) := by omega
        clear R hl ha hb hcl hlf e1 hc0 hc01 lcl
        go_enter Try.func36, Try.ntmps36
        go_wp2_with (at_builtin; refine print_append (w0 := w) B rfl (.tmp 15) (.tmp 17) 22 37 (.slice none 0 0) 24 rfl Try.underlying22 infoII rfl (by decide) (.slice A1 s.cl.length c1) (cellsOf s h.val .cl) (.slice (some ⟨gc, 0, none⟩) len cap) rfl rfl rfl ?aO ?aB ?aS ?aL ?_)
        case aO => have := HO.out; rw [HF.out, HLC.out] at this; rw [HLC.out]; exact this
        case aB => exact Below.refl _ _
        case aS => exact HR.out.base.1
        case aL => have := HA.out.1; rw [HLC.out]; unfold bigN at this; omega
        intro v1 w1 hown hb1 hg hat
        -- BEHIND
        obtain ⟨g1, cap1, rfl⟩ := own_succ (k := (cellsOf s h.val .cl).length) (by simpa using hown)
        have HX := Aside0.mk (HR.out.addClause (lv := .slice (some ⟨gc, 0, none⟩) len cap) (l := a :: b :: r) (Below.refl _ _) (by rw [HF.out, HLC.out]; exact hg) (by rw [List.length_append]; exact hown) (by rw [HF.out, HLC.out]; exact hat) (by
          have h9 := HL.out
          have h8 := h9.1
          simp only [nums, List.length_map, Nat.mul_one] at h8
          rw [h8]; exact h9) (fun g e => by injection e with e; rw [← e]; exact HLF.out))
        have hx1 : w1.cell? ⟨sb, 1, none⟩ = some (.slice A1 s.cl.length c1) := hg.cell hcell1 (by have := HS.out; rw [HF.out, HLC.out] at this; exact this)
        have hx2 : w1.frozen? ⟨sb, 1, none⟩ = false := (World.frozen?_of_block (hg.block sb HR.out.base.2.2 (by have := HS.out; rw [HF.out, HLC.out] at this; exact this))).trans hfr1
        rw [HLC.out] at HX ⊢
        obtain ⟨W1, hW1⟩ : ∃ W1, w1.setCell ⟨sb, 1, none⟩ (.slice (some ⟨g1, 0, none⟩) (s.cl.length + 1) cap1) = W1 := ⟨_, rfl⟩
        rw [hW1] at HX
        obtain ⟨h1, hh1⟩ : ∃ h1, (h.put (.c s.cl.length) (.slice (some ⟨gc, 0, none⟩) len cap)).put .cl (.slice (some ⟨g1, 0, none⟩) (s.cl.length + 1) cap1) = h1 := ⟨_, rfl⟩
        rw [hh1] at HX
        have HH1 := Aside0.mk hh1
        clear hh1 hown hb1 hg hat hcell1 hfr1
        go_wp2
        clear hx1 hx2 hW1
        have hgc : W1.cell? ⟨gc, 0, none⟩ = some (.int .i64 a) := HX.out.2.1.cell HC.out.1 (fun e => by
          rcases e with e | e
          · have := (HR.out.row .cl).own gc e; rw [HLF.out] at this; cases this
          · have := HR.out.osol; rw [← e, HLF.out] at this; cases this)
        have hgc1 : W1.cell? ⟨gc, 1, none⟩ = some (.int .i64 b) := HX.out.2.1.cell HC.out.2 (fun e => by
          rcases e with e | e
          · have := (HR.out.row .cl).own gc e; rw [HLF.out] at this; cases this
          · have := HR.out.osol; rw [← e, HLF.out] at this; cases this)
        have hog1 : h1.own gc = .row (.c s.cl.length) := by
          have := (HX.out.1.row (.c s.cl.length)).own gc
          rw [← HH1.out] at this ⊢
          exact this (by rw [Hp.put_val, if_neg (fun e => by cases e), Hp.put_val, if_pos rfl]; rfl)
        have HGC := Aside0.mk (And.intro hgc1 hog1)
        have hgw : gc ≠ h1.wb := fun e => by have := HX.out.1.omap; rw [← e, hog1] at this; cases this
        have HK := Aside0.mk (watch_below HX.out.1 (x := a) HA.out.2.1.2 hgc (by rw [hog1]; exact fun e => by cases e) hgw)
        have HK2 := Aside0.mk (fun W' => watch_at HX.out.1 (x := a) HA.out.2.1.2 hgc (by rw [hog1]; exact fun e => by cases e) hgw W')
        clear hgc hgc1 hog1 hgw
        obtain ⟨wb, hwb⟩ : ∃ wb, h1.wb = wb := ⟨_, rfl⟩
        rw [hwb] at HK HK2
        have HWB := Aside0.mk hwb
        clear hwb
        go_region_held3 (fun w' => w'.cell? ⟨sb, 2, none⟩ = some (.map (some wb)) ∧ w'.cell? ⟨gc, 0, none⟩ = some (.int .i64 a) ∧ (Instr.lookup 43 (.map (some wb)) (.int .i64 a) false).run Try.prog w' = .ok (lookV wb a w') w') (first | exact HSk3.out | exact HSk.out | exact (HK.out _ (by (repeat' (first | exact Below.refl _ _ | assumption | refine pw_below_drewN ?_ _ | refine below_drew ?_ | refine below_alloc ?_ _)))).1) (first | (refine step_watch HX.out.1 a s.cl.length HA.out.2.1.2 HA.out.2.1.1 (by (repeat' (first | exact Below.refl _ _ | assumption | refine pw_below_drewN ?_ _ | refine below_drew ?_ | refine below_alloc ?_ _))) (by rfl) (.tmp 35) (.tmp 37) rfl ((HK.out _ (by (repeat' (first | exact Below.refl _ _ | assumption | refine pw_below_drewN ?_ _ | refine below_drew ?_ | refine below_alloc ?_ _)))).2) _ rfl (heap_alloc_new _ _) ?_; intro g2 cap2 w2 w3 hrun hT2 hM2 hT3 hM3 hR3 hS3; rw [HWB.out] at hrun hT2 hM2 hT3 hM3; have HSk := Aside0.mk (HK2.out w2 hT2 hM2.choose_spec); have HSk3 := Aside0.mk (HK2.out w3 hT3 hM3.choose_spec); have HR3 := Aside0.mk (And.intro hR3 (And.intro hS3 hT3)); clear hT2 hM2 hT3 hM3 hR3 hS3))
        all_goals
          clear HSk HSk3 HK HK2 hrun
          have hgc1 : w3.cell? ⟨gc, 1, none⟩ = some (.int .i64 b) := HR3.out.2.2.cell HGC.out.1 (fun e => by
            rcases e with e | e
            · rw [HGC.out.2] at e; cases e
            · have := HX.out.1.omap; rw [HWB.out, ← e, HGC.out.2] at this; cases this)
          have HR4 := Aside0.mk HR3.out.1
          have hog3 : (h1.put (.w a) (.slice (some ⟨g2, 0, none⟩) ((s.wt a).length + 1) cap2)).own gc = .row (.c s.cl.length) := by
            refine (HR4.out.row (.c s.cl.length)).own gc ?_
            rw [Hp.put_val, if_neg (fun e => by cases e), ← HH1.out, Hp.put_val, if_neg (fun e => by cases e), Hp.put_val, if_pos rfl]; rfl
          have HS3 := Aside0.mk HR3.out.2.1
          have HV3 : Aside0 ((h1.put (.w a) (.slice (some ⟨g2, 0, none⟩) ((s.wt a).length + 1) cap2)).val (.c s.cl.length) = .slice (some ⟨gc, 0, none⟩) len cap) := ⟨by rw [Hp.put_val, if_neg (fun e => by cases e), ← HH1.out, Hp.put_val, if_neg (fun e => by cases e), Hp.put_val, if_pos rfl]⟩
          have hwb3 : (h1.put (.w a) (.slice (some ⟨g2, 0, none⟩) ((s.wt a).length + 1) cap2)).wb = wb := HWB.out
          clear HR3
          obtain ⟨h3, hh3⟩ : ∃ h3, h1.put (.w a) (.slice (some ⟨g2, 0, none⟩) ((s.wt a).length + 1) cap2) = h3 := ⟨_, rfl⟩
          rw [hh3] at HR4 hog3 HS3 HV3 hwb3
          have HWB3 := Aside0.mk hwb3
          have hgw : gc ≠ wb := fun e => by have := HR4.out.omap; rw [HWB3.out, ← e, hog3] at this; cases this
          rw [← hwb3] at hgw
          have HK := Aside0.mk (watch_below HR4.out (x := b) HA.out.2.2.2 hgc1 (by rw [hog3]; exact fun e => by cases e) hgw)
          have HK2 := Aside0.mk (fun W' => watch_at HR4.out (x := b) HA.out.2.2.2 hgc1 (by rw [hog3]; exact fun e => by cases e) hgw W')
          rw [hwb3] at HK HK2
          clear hgc1 hog3 hwb3 hh3 hgw
          go_wp2
          go_region_held3 (fun w' => w'.cell? ⟨sb, 2, none⟩ = some (.map (some wb)) ∧ w'.cell? ⟨gc, 1, none⟩ = some (.int .i64 b) ∧ (Instr.lookup 43 (.map (some wb)) (.int .i64 b) false).run Try.prog w' = .ok (lookV wb b w') w') (first | exact HSk3.out | exact HSk.out | exact (HK.out _ (by (repeat' (first | exact Below.refl _ _ | assumption | refine pw_below_drewN ?_ _ | refine below_drew ?_ | refine below_alloc ?_ _)))).1) (first | (refine step_watch HR4.out b s.cl.length HA.out.2.2.2 HA.out.2.2.1 (by (repeat' (first | exact Below.refl _ _ | assumption | refine pw_below_drewN ?_ _ | refine below_drew ?_ | refine below_alloc ?_ _))) (by rfl) (.tmp 53) (.tmp 55) rfl ((HK.out _ (by (repeat' (first | exact Below.refl _ _ | assumption | refine pw_below_drewN ?_ _ | refine below_drew ?_ | refine below_alloc ?_ _)))).2) _ rfl (heap_alloc_new _ _) ?_; intro g4 cap4 w4 w5 hrun hT2 hM2 hT3 hM3 hR3 hS3; rw [HWB3.out] at hrun hT2 hM2 hT3 hM3; have HSk := Aside0.mk (HK2.out w4 hT2 hM2.choose_spec); have HSk3 := Aside0.mk (HK2.out w5 hT3 hM3.choose_spec); have HR5 := Aside0.mk (And.intro hR3 hS3); clear hT2 hM2 hT3 hM3 hR3 hS3))
          all_goals
            clear HSk HSk3 HK HK2 hrun
            go_wp2
            go_ret
            refine ⟨rfl, _, HR5.out.1, ?_, fun g hg hne hf => ?_, ?_⟩
            · refine ((HX.out.2.1.trans HS3.out.turn).trans HR5.out.2.turn).mono (fun g hg e => ?_)
              by_cases hgg : g = gc
              · exact .inr hgg
              · refine .inl (fun hf => ?_)
                have f1 := HX.out.2.2 g hg (fun e => hgg (by injection e with e; exact e.symm)) hf
                have f2 := HS3.out.own g (Nat.lt_of_lt_of_le hg HX.out.2.1.size) f1
                rcases e with (e | e) | e
                · rcases e with e | e
                  · have := (HR.out.row .cl).own g e; rw [hf] at this; cases this
                  · have := HR.out.osol; rw [← e, hf] at this; cases this
                · exact e f1
                · exact e f2
            · have f1 := HX.out.2.2 g hg (fun e => hne (by injection e with e; exact e.symm)) hf
              have f2 := HS3.out.own g (Nat.lt_of_lt_of_le hg HX.out.2.1.size) f1
              exact HR5.out.2.own g (Nat.lt_of_lt_of_le (Nat.lt_of_lt_of_le hg HX.out.2.1.size) HS3.out.turn.size) f2
            · rw [Hp.put_val, if_neg (fun e => by cases e)]
              exact HV3.out
      · cases hs2
    · cases hs1
  · cases hs
end Go.Proofs.Ytbagcbiekpopbaa

namespace Go.Proofs.Ytbagcbiekpopbaa
open Go.RowKit Go.Proofs.YtbagcbiekpopbaaW.PrintWords Go.Proofs.YtbagcbiekpopbaaW.PrintLast
set_option linter.unusedVariables false
set_option linter.unusedSimpArgs false

theorem cl_set_other {s : St} {k : Nat} {l : List Int} (hk : k < s.cl.length) (v : Rw → Value) (t' : Rw) (ht : t' ≠ .c k) : cellsOf { s with cl := s.cl.set k l } v t' = cellsOf s v t' := by
  cases t' <;> try rfl
  · show (List.range (s.cl.set k l).length).map _ = _
    rw [List.length_set]; rfl
  · rename_i i
    show nums .i64 ((s.cl.set k l).getD i []) = nums .i64 (s.cl.getD i [])
    rw [List.getD_eq_getElem?_getD, List.getElem?_set_ne (fun e => ht (by rw [e])), List.getD_eq_getElem?_getD]
theorem cl_set_self {s : St} {k : Nat} {l : List Int} (hk : k < s.cl.length) (v : Rw → Value) : cellsOf { s with cl := s.cl.set k l } v (.c k) = nums .i64 l := by
  show nums .i64 ((s.cl.set k l).getD k []) = _
  rw [List.getD_eq_getElem?_getD, List.getElem?_set_self hk]; rfl
theorem cl_get {s : St} {k : Nat} {l : List Int} (hl : s.cl[k]? = some l) (v : Rw → Value) : cellsOf s v (.c k) = nums .i64 l := by
  show nums .i64 (s.cl.getD k []) = _
  rw [List.getD_eq_getElem?_getD, hl]; rfl
theorem Rep.swap {w : World} {B sb : Nat} {s : St} {h : Hp} (R : Rep w B sb s h) {k i j gc n cap : Nat} {l : List Int} (hl : s.cl[k]? = some l) (hv : h.val (.c k) = .slice (some ⟨gc, 0, none⟩) n cap) {a b : Int} (ha : l.getD i 0 = a) (hb : l.getD j 0 = b) :
    Rep (((w.setCell ⟨gc, i, none⟩ (.int .i64 b)).setCell ⟨gc, j, none⟩ (.int .i64 a)).drew) B sb { s with cl := s.cl.set k (swapAt l i j) } h ∧ Stp w (((w.setCell ⟨gc, i, none⟩ (.int .i64 b)).setCell ⟨gc, j, none⟩ (.int .i64 a)).drew) h h := by
  have hk := (List.getElem?_eq_some_iff.1 hl).1
  obtain ⟨R1, T1⟩ := R.setRow (s' := { s with cl := s.cl.set k (l.set i b) }) (t := .c k) (i := i) (u := .int .i64 b) hv (by rw [cl_set_self hk, cl_get hl, nums_set]) (fun t' ht => cl_set_other hk _ t' ht) rfl ⟨rfl, rfl, rfl⟩
  obtain ⟨R2, T2⟩ := R1.setRow (s' := { s with cl := s.cl.set k (swapAt l i j) }) (t := .c k) (i := j) (u := .int .i64 a) hv (by
    rw [cl_set_self hk, cl_set_self hk, ← nums_set]
    unfold swapAt
    rw [ha, hb]) (fun t' ht => by rw [cl_set_other hk _ t' ht, cl_set_other hk _ t' ht]) rfl ⟨rfl, rfl, rfl⟩
  have og : h.own gc = .row (.c k) := (R.row (.c k)).own gc (by rw [hv]; rfl)
  refine ⟨R2.turn (Turn.drew _ 1 (fun _ => False)) (fun _ _ e => e.elim), ((T1.trans T2).trans (Turn.drew _ 1 (fun _ => False))).mono (fun g _ e => ?_), fun _ _ e => e⟩
  rcases e with (e | e) | e
  · subst e; rw [og]; exact fun e => by cases e
  · subst e; rw [og]; exact fun e => by cases e
  · exact e.elim
/-- Where a clause lies. -/
theorem Rep.clause {w : World} {B sb : Nat} {s : St} {h : Hp} (R : Rep w B sb s h) {k : Nat} {l : List Int} (hl : s.cl[k]? = some l) (hp : 0 < l.length) :
    ∃ gl cl gc cap, h.val .cl = .slice (some ⟨gl, 0, none⟩) s.cl.length cl ∧ s.cl.length ≤ cl ∧ w.cell? ⟨gl, k, none⟩ = some (.slice (some ⟨gc, 0, none⟩) l.length cap) ∧ h.val (.c k) = .slice (some ⟨gc, 0, none⟩) l.length cap ∧ l.length ≤ cap ∧ cap ≤ 9223372036854775807 ∧
      h.own gc = .row (.c k) ∧ gc < w.heap.size ∧ ∀ i x, l[i]? = some x → w.cell? ⟨gc, i, none⟩ = some (.int .i64 x) ∧ w.frozen? ⟨gc, i, none⟩ = false := by
  have hk := (List.getElem?_eq_some_iff.1 hl).1
  have e0 := cl_get hl h.val
  obtain ⟨gc, cap, e1, h1, h2, h3, h4, h5, h6⟩ := (R.row (.c k)).at (by rw [e0, nums_length]; exact hp)
  rw [e0] at e1 h1 h6
  rw [nums_length] at e1 h1
  obtain ⟨gl, cl, e2, g1, g2, g3, g4, g5, g6⟩ := R.num (t := .cl) (i := k) (u := .slice (some ⟨gc, 0, none⟩) l.length cap) (by
    show ((List.range s.cl.length).map _)[k]? = _
    rw [List.getElem?_map, List.getElem?_range hk, ← e1]; rfl)
  have e3 : (cellsOf s h.val .cl).length = s.cl.length := by simp [cellsOf]
  rw [e3] at e2 g2
  exact ⟨gl, cl, gc, cap, e2, g2, g4, e1, h1, by unfold maxLen at h2; omega, h3, h5, fun i x hi => h6 i _ (nums_get hi)⟩
end Go.Proofs.Ytbagcbiekpopbaa

namespace Go.Proofs.Ytbagcbiekpopbaa
open Go.RowKit Go.Proofs.YtbagcbiekpopbaaW.PrintWords Go.Proofs.YtbagcbiekpopbaaW.PrintLast
set_option linter.unusedVariables false
set_option linter.unusedSimpArgs false

theorem set_self {α : Type} {l : List α} {k : Nat} {x : α} (h : l[k]? = some x) : l.set k x = l := by
  apply List.ext_getElem?
  intro j
  rw [List.getElem?_set]
  split
  · rename_i e
    subst e
    rw [if_pos (List.getElem?_eq_some_iff.1 h).1, h]
  · rfl
theorem find_step {s : St} {l : List Int} {j : Nat} {y : Int} {r : Option Nat} (hy : l[j]? = some y) (h : s.find (l.drop j) j = some r) : ∃ v, s.is y = some v ∧ ((0 ≤ v ∧ r = some j) ∨ (v < 0 ∧ s.find (l.drop (j + 1)) (j + 1) = some r)) := by
  obtain ⟨h1, h2⟩ := List.getElem?_eq_some_iff.1 hy
  rw [List.drop_eq_getElem_cons h1, h2] at h
  unfold St.find at h
  simp only [Option.bind_eq_bind, Option.bind_eq_some_iff] at h
  obtain ⟨v, hv, h⟩ := h
  refine ⟨v, hv, ?_⟩
  split at h
  · exact .inl ⟨‹_›, (Option.some.inj h).symm⟩
  · exact .inr ⟨by omega, h⟩
/-- What 'look' leaves. -/
def LookOut (w : World) (B sb : Nat) (h : Hp) (x : Int) (s' : St) (kept ok : Bool) (e : Ending) (w' : World) : Prop :=
  e = .returned (.tuple #[.bool kept, .bool ok]) ∧ ∃ h', Rep w' B sb s' h' ∧ Stp w w' h h' ∧ h'.val (.w x) = h.val (.w x)

set_option maxHeartbeats 4000000 in
set_option maxRecDepth 100000 in
theorem look_any (k : Nat) (x : Int) (w : World) (B sb : Nat) (s s' : St) (kept ok : Bool) (h : Hp) (R : Rep w B sb s h) (hs : s.look k x = some (s', kept, ok)) :
    Calls Try.prog 37 #[.pointer (some ⟨sb, 0, none⟩), .int .i64 (k : Int), .int .i64 x] w (LookOut w B sb h x s' kept ok) := by
  unfold St.look at hs
  simp only [Option.bind_eq_bind, Option.bind_eq_some_iff] at hs
  obtain ⟨l, hl, hs⟩ := hs
  split at hs
  · rename_i hlen
    obtain ⟨hlen1, hlen2⟩ := hlen
    simp only [Option.bind_eq_some_iff] at hs
    obtain ⟨l1, hl1⟩ : ∃ l1, (if l.getD 0 0 = x then swapAt l 0 1 else l) = l1 := ⟨_, rfl⟩
    rw [hl1] at hs
    obtain ⟨a, ha⟩ : ∃ a, l1.getD 0 0 = a := ⟨_, rfl⟩
    rw [ha] at hs
    obtain ⟨v0, hv0, hs⟩ := hs
    obtain ⟨p0, hp0⟩ : ∃ a, l[0]? = some a := ⟨l[0], List.getElem?_eq_getElem (by omega)⟩
    obtain ⟨p1, hp1⟩ : ∃ a, l[1]? = some a := ⟨l[1], List.getElem?_eq_getElem (by omega)⟩
    have d0 : l.getD 0 0 = p0 := by rw [List.getD_eq_getElem?_getD, hp0]; rfl
    have d1 : l.getD 1 0 = p1 := by rw [List.getD_eq_getElem?_getD, hp1]; rfl
    obtain ⟨gl, cl, gc, cap, e1, hcl, hck, hvc, hcap, hcm, hog, hgc, hcells⟩ := R.clause hl (by omega)
    have hc1 := R.cell 1
    change w.cell? ⟨sb, 1, none⟩ = some (h.val .cl) at hc1
    rw [e1] at hc1
    have hk : (k : Int) < (s.cl.length : Int) := by have := (List.getElem?_eq_some_iff.1 hl).1; omega
    have c0 := (hcells 0 p0 hp0).1
    have c1 := (hcells 1 p1 hp1).1
    have f0 := (hcells 0 p0 hp0).2
    have f1 := (hcells 1 p1 hp1).2
    obtain ⟨n, hn⟩ : ∃ n, l.length = n := ⟨_, rfl⟩
    rw [hn] at hck hvc hcap hlen1 hlen2
    have hi0 : (0 : Int) < (n : Int) := by omega
    have hi1 : (1 : Int) < (n : Int) := by omega
    have HR := Aside0.mk R
    have HSW := Aside0.mk (R.swap (i := 0) (j := 1) hl hvc d0 d1)
    have HL1 := Aside0.mk hl1
    have HG := Aside0.mk (And.intro hs (And.intro hv0 ha))
    have HD := Aside0.mk (And.intro d0 (And.intro hvc (And.intro hl hn)))
    obtain ⟨cn, hcn⟩ : ∃ cn, s.cl.length = cn := ⟨_, rfl⟩
    rw [hcn] at hc1 hk hcl
    clear R hl1 hs hv0 ha e1 hcells hog hvc hl hp0 hp1 d0 d1 hcn hn
    go_enter Try.func37, Try.ntmps37
    go_upto_if 21 with fail
    go_cut [] (fun wx => Aside0 (Rep wx B sb { s with cl := s.cl.set k l1 } h ∧ Stp w wx h h))
    case first =>
      by_cases e : p0 = x
      · have e1 : (p0 == x) = true := by simpa using e
        have HF : Aside0 (l1 = swapAt l 0 1) := ⟨by rw [← HL1.out, HD.out.1, if_pos e]⟩
        clear e
        go_wp2
        go_region
        go_wp2_with fail
        go_meet
        exact ⟨by rw [HF.out]; exact HSW.out⟩
      · have e1 : (p0 == x) = false := by simpa using e
        have HF : Aside0 (l1 = l) := ⟨by rw [← HL1.out, HD.out.1, if_neg e]⟩
        clear e
        go_wp2
        go_meet
        exact ⟨by rw [HF.out, set_self HD.out.2.2.1]; exact ⟨HR.out, Stp.refl _ _⟩⟩
    case rest =>
      have HH := hcut
      have hlen3 : l1.length = n := by
        rw [← HL1.out]
        split
        · rw [swapAt_length]; exact HD.out.2.2.2
        · exact HD.out.2.2.2
      clear hcut HR HSW HL1 c0 c1 f0 f1 hc1 hck hk hcl
      have hl1 : ({ s with cl := s.cl.set k l1 } : St).cl[k]? = some l1 := by
        show (s.cl.set k l1)[k]? = some l1
        rw [List.getElem?_set_self (List.getElem?_eq_some_iff.1 HD.out.2.2.1).1]
      obtain ⟨gl', cl', gc', cap', e1', _, _, hvc', _, _, hog', hgc', hcells'⟩ := HH.out.1.clause hl1 (by omega)
      rw [HD.out.2.1] at hvc'
      injection hvc' with e1 e2 e3
      injection e1 with e1
      injection e1 with e1
      subst e1
      have HC := Aside0.mk (And.intro hcells' (And.intro hog' (And.intro hl1 hlen3)))
      have hz0 : l1[0]? = some a := by
        rw [List.getElem?_eq_getElem (by omega), ← HG.out.2.2, List.getD_eq_getElem?_getD, List.getElem?_eq_getElem (by omega)]; rfl
      have hw0 := (hcells' 0 a hz0).1
      have hIs0 := is_any a v0 wc B sb _ h HH.out.1 HG.out.2.1
      obtain ⟨hs, _, _⟩ := HG.out
      obtain ⟨s1, hs1⟩ : ∃ s1, ({ s with cl := s.cl.set k l1 } : St) = s1 := ⟨_, rfl⟩
      rw [hs1] at HH hs
      have HS1 := Aside0.mk hs1
      have HCL1 : Aside0 (s1.cl[k]? = some l1) := ⟨by rw [← hs1]; exact hl1⟩
      have HZ := Aside0.mk hz0
      clear hcells' hog' hl1 hlen3 hz0 e1' e2 e3 hgc HG hs1
      by_cases hp : 0 < v0
      · rw [if_pos hp] at hs
        obtain ⟨rfl, rfl, rfl⟩ := (by simpa using hs : s1 = s' ∧ true = kept ∧ true = ok)
        have hpd : decide (0 < v0) = true := decide_eq_true hp
        clear hs
        go_wp2_with (go_at_call 35; refine hIs0.mono ?_; rintro e w' ⟨rfl, rfl⟩)
        go_ret2
        exact ⟨rfl, h, HH.out.1, HH.out.2, rfl⟩
      · rw [if_neg hp, Option.bind_eq_some_iff] at hs
        obtain ⟨r, hr, hs⟩ := hs
        have HR := Aside0.mk hr
        have HSS := Aside0.mk hs
        have hpd : decide (0 < v0) = false := decide_eq_false hp
        clear hs hr
        go_wp2_with (go_at_call 35; refine hIs0.mono ?_; rintro e w' ⟨rfl, rfl⟩)
        go_loopg [9] n (fun gg s9 wr => ∃ j : Nat, 2 ≤ j ∧ j ≤ n ∧ n - j ≤ gg ∧ s9 = .int .i64 (j : Int) ∧ wr = wc ∧ Aside0 (s1.find (l1.drop j) j = some r))
        case atStart => exact ⟨2, by omega, by omega, by omega, rfl, rfl, ⟨HR.out⟩⟩
        case round =>
          obtain ⟨j, hj1, hj2, hj3, rfl, rfl, HJ⟩ := hrel
          by_cases hlt : j < n
          · have hlt2 : decide ((j : Int) < (n : Int)) = true := by simpa using hlt
            have hlt3 : (j : Int) < (n : Int) := by omega
            obtain ⟨y, hy⟩ : ∃ y, l1[j]? = some y := ⟨l1[j]'(by have := HC.out.2.2.2; omega), List.getElem?_eq_getElem _⟩
            have hwj := (HC.out.1 j y hy).1
            obtain ⟨vy, hvy, hcase⟩ := find_step hy HJ.out
            have hIsy := is_any y vy wr B sb _ h HH.out.1 hvy
            have HY := Aside0.mk (And.intro hy hcase)
            clear hy hcase hvy HJ
            by_cases hv : 0 ≤ vy
            · have hvd : decide (0 ≤ vy) = true := decide_eq_true hv
              obtain rfl : r = some j := by
                rcases HY.out.2 with ⟨_, h1⟩ | ⟨h1, _⟩
                · exact h1
                · omega
              have hs := HSS.out
              simp only at hs
              have hlen3 := HC.out.2.2.2
              have hy2 : (swapAt l1 1 j).getD 1 0 = y := by
                rw [List.getD_eq_getElem?_getD, swapAt_get (by omega) (by omega)]
                rw [if_neg (by omega), if_pos rfl, HY.out.1]; rfl
              rw [hy2] at hs
              split at hs
              · cases hs
              · rename_i hyx
                rw [Option.bind_eq_some_iff] at hs
                obtain ⟨s2, hs2, hs⟩ := hs
                unfold St.watchOn at hs2
                split at hs2
                · rename_i hyb
                  obtain rfl := Option.some.inj hs2
                  obtain ⟨rfl, rfl, rfl⟩ := (by simpa using hs : _ ∧ false = kept ∧ true = ok)
                  clear hs hs2
                  obtain rfl : ({ s with cl := s.cl.set k l1 } : St) = s1 := HS1.out
                  obtain ⟨q1, hq1⟩ : ∃ q, l1[1]? = some q := ⟨l1[1]'(by omega), List.getElem?_eq_getElem _⟩
                  have d1 := (HC.out.1 1 q1 hq1).1
                  have d1f := (HC.out.1 1 q1 hq1).2
                  have hjf := (HC.out.1 j y HY.out.1).2
                  have hne1 : ¬ j = 1 := by omega
                  have hne2 : ¬ 1 = j := by omega
                  have HSW := Aside0.mk (HH.out.1.swap (k := k) (l := l1) (i := 1) (j := j) (gc := gc) (n := n) (cap := cap) HCL1.out HD.out.2.1 (a := q1) (b := y) (by rw [List.getD_eq_getElem?_getD, hq1]; rfl) (by rw [List.getD_eq_getElem?_getD, HY.out.1]; rfl))
                  obtain ⟨W2, hW2⟩ : ∃ W2, ((wr.setCell ⟨gc, 1, none⟩ (.int .i64 y)).setCell ⟨gc, j, none⟩ (.int .i64 q1)).drew = W2 := ⟨_, rfl⟩
                  rw [hW2] at HSW
                  have HYB := Aside0.mk hyb
                  have HYX := Aside0.mk hyx
                  have hcl2 : ({ s with cl := (s.cl.set k l1).set k (swapAt l1 1 j) } : St).cl[k]? = some (swapAt l1 1 j) := by
                    show ((s.cl.set k l1).set k _)[k]? = _
                    rw [List.getElem?_set_self]
                    exact (List.getElem?_eq_some_iff.1 HCL1.out).1
                  obtain ⟨gl2, cl2, gc2, cap2, _, _, _, hv2, _, _, hog2, _, hce2⟩ := HSW.out.1.clause hcl2 (by rw [swapAt_length]; omega)
                  rw [HD.out.2.1] at hv2
                  injection hv2 with e1 e2 e3
                  injection e1 with e1
                  injection e1 with e1
                  subst e1
                  have hg1 : W2.cell? ⟨gc, 1, none⟩ = some (.int .i64 y) := (hce2 1 y (by rw [swapAt_get (by omega) (by omega), if_neg (by omega), if_pos rfl, HY.out.1])).1
                  have HK := Aside0.mk (watch_below HSW.out.1 (x := y) hyb.2 hg1 (by rw [hog2]; exact fun e => by cases e) (fun e => by have := HSW.out.1.omap; rw [← e, hog2] at this; cases this))
                  have HK2 := Aside0.mk (fun W' => watch_at HSW.out.1 (x := y) hyb.2 hg1 (by rw [hog2]; exact fun e => by cases e) (fun e => by have := HSW.out.1.omap; rw [← e, hog2] at this; cases this) W')
                  obtain ⟨wb, hwb⟩ : ∃ wb, h.wb = wb := ⟨_, rfl⟩
                  rw [hwb] at HK HK2
                  have HWB := Aside0.mk hwb
                  have HF : Aside0 ((h.val (.w x)) = h.val (.w x)) := ⟨rfl⟩
                  clear hyb hyx hcl2 hog2 hce2 hg1 hwb e2 e3 hq1 hy2
                  go_wp2_with (go_at_call 35; refine hIsy.mono ?_; rintro e w' ⟨rfl, rfl⟩)
                  go_region
                  clear hW2 d1 d1f hjf hIsy
                  go_wp2_with fail
                  go_region_held3 (fun w' => w'.cell? ⟨sb, 2, none⟩ = some (.map (some wb)) ∧ w'.cell? ⟨gc, 1, none⟩ = some (.int .i64 y) ∧ (Instr.lookup 43 (.map (some wb)) (.int .i64 y) false).run Try.prog w' = .ok (lookV wb y w') w') (first | exact HSk3.out | exact HSk.out | exact (HK.out _ (by (repeat' (first | exact Below.refl _ _ | assumption | refine pw_below_drewN ?_ _ | refine below_drew ?_ | refine below_alloc ?_ _)))).1) (first | (refine step_watch HSW.out.1 y k HYB.out.2 HYB.out.1 (by (repeat' (first | exact Below.refl _ _ | assumption | refine pw_below_drewN ?_ _ | refine below_drew ?_ | refine below_alloc ?_ _))) (by rfl) (.tmp 77) (.tmp 79) rfl ((HK.out _ (by (repeat' (first | exact Below.refl _ _ | assumption | refine pw_below_drewN ?_ _ | refine below_drew ?_ | refine below_alloc ?_ _)))).2) _ rfl (heap_alloc_new _ _) ?_; intro g4 cap4 w4 w5 hrun hT2 hM2 hT3 hM3 hR3 hS3; rw [HWB.out] at hrun hT2 hM2 hT3 hM3; have HSk := Aside0.mk (HK2.out w4 hT2 hM2.choose_spec); have HSk3 := Aside0.mk (HK2.out w5 hT3 hM3.choose_spec); have HR5 := Aside0.mk (And.intro hR3 hS3); clear hT2 hM2 hT3 hM3 hR3 hS3))
                  all_goals
                    clear HSk HSk3 HK HK2 hrun
                    go_wp2
                    go_ret2
                    have HR6 := HR5.out.1
                    simp only [List.set_set] at HR6
                    refine ⟨rfl, _, HR6, (HH.out.2.trans HSW.out.2).trans HR5.out.2, ?_⟩
                    rw [Hp.put_val, if_neg (fun e => HYX.out (by injection e with e; exact e.symm))]
                · cases hs2
            · have hvd : decide (0 ≤ vy) = false := decide_eq_false hv
              have HN : Aside0 (s1.find (l1.drop (j + 1)) (j + 1) = some r) := ⟨by
                rcases HY.out.2 with ⟨h1, _⟩ | ⟨_, h1⟩
                · omega
                · exact h1⟩
              clear HY
              go_wp2_with (go_at_call 35; refine hIsy.mono ?_; rintro e w' ⟨rfl, rfl⟩)
              go_roundg (n - j - 1)
              case measure => omega
              case rel => exact ⟨j + 1, by omega, by omega, by omega, by go_num, rfl, HN⟩
          · have hlt2 : decide ((j : Int) < (n : Int)) = false := by simpa using hlt
            obtain rfl : r = none := by
              have := HJ.out
              rw [List.drop_eq_nil_of_le (by have := HC.out.2.2.2; omega)] at this
              unfold St.find at this
              exact (Option.some.inj this).symm
            have hs := HSS.out
            simp only at hs
            clear HJ HSS
            by_cases hv : v0 < 0
            · have hvd : decide (v0 < 0) = true := decide_eq_true hv
              rw [if_pos hv] at hs
              obtain ⟨rfl, rfl, rfl⟩ := (by simpa using hs : s1 = s' ∧ true = kept ∧ false = ok)
              clear hs
              go_wp2_with (go_at_call 35; refine hIs0.mono ?_; rintro e w' ⟨rfl, rfl⟩)
              go_ret2
              exact ⟨rfl, h, HH.out.1, HH.out.2, rfl⟩
            · have hvd : decide (v0 < 0) = false := decide_eq_false hv
              rw [if_neg hv, Option.bind_eq_some_iff] at hs
              obtain ⟨s2, hs2, hs⟩ := hs
              obtain ⟨rfl, rfl, rfl⟩ := (by simpa using hs : s2 = s' ∧ true = kept ∧ true = ok)
              have hSet := set_any a (k : Int) wr B sb s1 s2 h HH.out.1 hs2
              clear hs hs2
              go_wp2_with (first | (go_at_call 35; refine hIs0.mono ?_; rintro e w' ⟨rfl, rfl⟩) | (go_at_call 24; refine hSet.mono ?_; rintro e w' ⟨rfl, v1, hR2, hS2⟩; have HR2 := Aside0.mk (And.intro hR2 hS2); clear hR2 hS2 hSet))
              go_ret2
              exact ⟨rfl, _, HR2.out.1, HH.out.2.trans HR2.out.2, by rw [Hp.put_val, if_neg (fun e => by cases e)]⟩
  · cases hs
end Go.Proofs.Ytbagcbiekpopbaa

namespace Go.Proofs.Ytbagcbiekpopbaa
open Go.RowKit Go.Proofs.YtbagcbiekpopbaaW.PrintWords Go.Proofs.YtbagcbiekpopbaaW.PrintLast
set_option linter.unusedVariables false
set_option linter.unusedSimpArgs false

theorem look_wt {s s1 : St} {k : Nat} {x : Int} {kept ok : Bool} (h : s.look k x = some (s1, kept, ok)) : s1.wt x = s.wt x := by
  unfold St.look at h
  simp only [Option.bind_eq_bind, Option.bind_eq_some_iff] at h
  obtain ⟨l, hl, h⟩ := h
  split at h
  · generalize (if l.getD 0 0 = x then swapAt l 0 1 else l) = l1 at h
    simp only [Option.bind_eq_some_iff] at h
    obtain ⟨v0, _, h⟩ := h
    split at h
    · obtain ⟨rfl, _⟩ := Prod.mk.inj (Option.some.inj h); rfl
    · rw [Option.bind_eq_some_iff] at h
      obtain ⟨r, _, h⟩ := h
      cases r with
      | some i =>
        simp only at h
        split at h
        · cases h
        · rename_i hyx
          rw [Option.bind_eq_some_iff] at h
          obtain ⟨s2, h2, h⟩ := h
          unfold St.watchOn at h2
          split at h2
          · obtain rfl := Option.some.inj h2
            obtain ⟨rfl, _⟩ := Prod.mk.inj (Option.some.inj h)
            simp only [upd]
            rw [if_neg (fun e => hyx e.symm)]
          · cases h2
      | none =>
        simp only at h
        split at h
        · obtain ⟨rfl, _⟩ := Prod.mk.inj (Option.some.inj h); rfl
        · rw [Option.bind_eq_some_iff] at h
          obtain ⟨s2, h2, h⟩ := h
          unfold St.set at h2
          split at h2
          · obtain rfl := Option.some.inj h2
            obtain ⟨rfl, _⟩ := Prod.mk.inj (Option.some.inj h); rfl
          · cases h2
  · cases h
theorem passes_step {s s' : St} {x : Int} {left ks : List Nat} {k : Nat} {r : Option Nat} (h : s.passes x left (k :: ks) = some (s', r)) :
    ∃ s1 kept ok, s.look k x = some (s1, kept, ok) ∧ ((ok = true ∧ s1.passes x (if kept then left ++ [k] else left) ks = some (s', r)) ∨
      (ok = false ∧ s' = { s1 with wt := upd s1.wt x ((if kept then left ++ [k] else left) ++ ks) } ∧ r = some k)) := by
  unfold St.passes at h
  simp only [Option.bind_eq_bind, Option.bind_eq_some_iff] at h
  obtain ⟨⟨s1, kept, ok⟩, h1, h⟩ := h
  refine ⟨s1, kept, ok, h1, ?_⟩
  simp only at h
  split at h
  · exact .inl ⟨‹_›, h⟩
  · obtain ⟨rfl, rfl⟩ := Prod.mk.inj (Option.some.inj h)
    exact .inr ⟨by simpa using ‹¬ ok = true›, rfl, rfl⟩
theorem spread_step {g : Nat} {s s' : St} {r : Option Nat} (h : St.spread g s = some (s', r)) : ∃ g', g = g' + 1 ∧ ((s.tr[s.dn]? = none ∧ s' = s ∧ r = none) ∨
    ∃ y, s.tr[s.dn]? = some y ∧ (s.wt (-y)).length < bigN ∧ y.natAbs < bigN ∧ ∃ s1 r1, St.passes { s with dn := s.dn + 1 } (-y) [] (s.wt (-y)) = some (s1, r1) ∧
      ((∃ k, r1 = some k ∧ s' = s1 ∧ r = some k) ∨ (r1 = none ∧ St.spread g' s1 = some (s', r)))) := by
  cases g with
  | zero => cases h
  | succ g' =>
    refine ⟨g', rfl, ?_⟩
    unfold St.spread at h
    cases hy : s.tr[s.dn]? with
    | none =>
      rw [hy] at h
      obtain ⟨rfl, rfl⟩ := Prod.mk.inj (Option.some.inj h)
      exact .inl ⟨rfl, rfl, rfl⟩
    | some y =>
      rw [hy] at h
      simp only at h
      split at h
      · rename_i hc
        simp only [Option.bind_eq_bind, Option.bind_eq_some_iff] at h
        obtain ⟨⟨s1, r1⟩, h1, h⟩ := h
        refine .inr ⟨y, rfl, hc.1, hc.2, s1, r1, h1, ?_⟩
        cases r1 with
        | none => exact .inr ⟨rfl, h⟩
        | some k =>
          obtain ⟨rfl, rfl⟩ := Prod.mk.inj (Option.some.inj h)
          exact .inl ⟨k, rfl, rfl, rfl⟩
      · cases h

/-- A free row becomes what looks at a literal. -/
theorem Rep.setWatch {w w3 : World} {B sb : Nat} {s : St} {h : Hp} (R : Rep w B sb s h) {x : Int} {L : List Nat} {v : Value} (hrow : w.ownsRow B 3 1 v L.length (nats L)) (hfree : ∀ g, v.ownBlock = some g → h.own g = .free)
    (hg3 : w.grownBy w3 (some h.wb)) (hM : MapR w3 h.wb nilS (upd (fun x => h.val (.w x)) x v)) :
    Rep w3 B sb { s with wt := upd s.wt x L } (h.put (.w x) v) ∧ Turn w w3 (fun g => g = h.wb) ∧ ∀ g, v.ownBlock ≠ some g → (h.put (.w x) v).own g = h.own g := by
  have hT : Turn w w3 (fun g => g = h.wb) := (Turn.grown hg3).mono (fun g _ e => by injection e with e; exact e.symm)
  have hlt : ∀ g, v.ownBlock = some g → B ≤ g ∧ g < w.heap.size := hrow.lt
  have hval : ∀ y, (h.put (.w x) v).val (.w y) = upd (fun x => h.val (.w x)) x v y := fun y => by
    rw [Hp.put_val]
    unfold upd
    by_cases e : y = x
    · subst e; rw [if_pos rfl, if_pos rfl]
    · rw [if_neg e, if_neg (fun h => e (by injection h))]
  have hsz := hg3.size
  refine ⟨R.change hT (fun g hg' hf => ?_) (fun g hg' => ?_) (fun g hg' => ?_) ?_ (fun t' => ?_) rfl (.inr ?_) ⟨rfl, rfl, rfl⟩, hT, fun g e => Hp.put_own e⟩
  · exact Hp.put_own (fun e => hf (hfree g e))
  · rw [Hp.put_own (fun e => by have := (hlt g e).2; omega)]
    exact R.free g (by omega)
  · rw [Hp.put_own (fun e => by have := (hlt g e).1; omega)]
    exact R.low g hg'
  · rw [hT.block sb R.base.2.2 (fun e => by have := R.omap; rw [← e, R.osol] at this; cases this), R.sol]
    simp [solOf, Hp.put, upd]
  · by_cases e : t' = .w x
    · subst e
      right
      have e2 : (h.put (.w x) v).val (.w x) = v := by rw [Hp.put_val, if_pos rfl]
      have e3 : cellsOf { s with wt := upd s.wt x L } (h.put (.w x) v).val (.w x) = nats L := by
        show nats (upd s.wt x L x) = _
        unfold upd; rw [if_pos rfl]
      refine ⟨?_, fun g hg' => Hp.put_self (by rw [← hg', e2])⟩
      rw [e2, e3, nats_length]
      exact ownsRow_turn hrow hT (fun g e e4 => by have := hfree g e; rw [e4, R.omap] at this; cases this)
    · left
      refine ⟨by rw [Hp.put_val, if_neg e], ?_, fun g hg' hs h2 => ?_⟩
      · rw [cells_put (fun i e => by cases e) (fun i e => by cases e)]
        cases t' <;> try rfl
        rename_i y
        show nats (upd s.wt x L y) = nats (s.wt y)
        unfold upd
        rw [if_neg (fun e2 => e (by rw [e2]))]
      · rw [hs, R.omap] at h2; cases h2
  · rw [show (fun y => (h.put (.w x) v).val (.w y)) = upd (fun x => h.val (.w x)) x v from funext hval]
    exact hM

/-- A field of the solver's that is a number. -/
theorem Rep.setNum {w : World} {B sb : Nat} {s s' : St} {h : Hp} (R : Rep w B sb s h) {k : Nat} {u : Value} (hsol : solOf s' h = (solOf s h).setIfInBounds k u) (hc : ∀ t, cellsOf s' h.val t = cellsOf s h.val t) (hn : s'.n = s.n ∧ s'.va.length = s.va.length ∧ s'.le.length = s.le.length) :
    Rep (w.setCell ⟨sb, k, none⟩ u) B sb s' h ∧ Stp w (w.setCell ⟨sb, k, none⟩ u) h h := by
  have hT := Turn.set w sb k u
  refine ⟨R.change hT (fun _ _ _ => rfl) (fun g hg => R.free g (Nat.le_trans hT.size hg)) R.low ?_ (fun t => .inl ⟨rfl, hc t, fun g _ e h2 => ?_⟩) rfl (.inl ⟨fun _ => rfl, fun e => ?_⟩) hn, hT.mono (fun g _ e => ?_), fun _ _ e => e⟩
  · rw [hsol]
    exact setSol R.sol
  · rw [e, R.osol] at h2; cases h2
  · have := R.omap; rw [e, R.osol] at this; cases this
  · rw [e, R.osol]; exact fun e => by cases e
theorem Rep.drew {w : World} {B sb : Nat} {s : St} {h : Hp} (R : Rep w B sb s h) (n : Nat) : Rep (w.drewN n) B sb s h ∧ Stp w (w.drewN n) h h :=
  ⟨R.turn (Turn.drew _ n (fun _ => False)) (fun _ _ e => e.elim), Turn.drew _ n _, fun _ _ e => e⟩
end Go.Proofs.Ytbagcbiekpopbaa

namespace Go.Proofs.Ytbagcbiekpopbaa
open Go.RowKit Go.Proofs.YtbagcbiekpopbaaW.PrintWords Go.Proofs.YtbagcbiekpopbaaW.PrintLast
set_option linter.unusedVariables false
set_option linter.unusedSimpArgs false

def retOf : Option Nat → Int
  | none => -1
  | some k => (k : Int)
/-- A row of the call's own that is not the solver's. -/
structure Left (w : World) (B0 : Nat) (h : Hp) (v : Value) (L : List Nat) : Prop where
  row : w.ownsRow B0 3 1 v L.length (nats L)
  free : ∀ g, v.ownBlock = some g → h.own g = .free
theorem Left.step {w w' : World} {B0 : Nat} {h h' : Hp} {v : Value} {L : List Nat} (l : Left w B0 h v L) (s : Stp w w' h h') : Left w' B0 h' v L :=
  ⟨ownsRow_turn l.row s.turn (fun g e e2 => e2 (l.free g e)), fun g e => s.own g (l.row.lt g e).2 (l.free g e)⟩
theorem Left.nil (w : World) (B0 : Nat) (h : Hp) : Left w B0 h nilS [] := ⟨World.ownsRow_nil _ _ _ _, fun g e => by cases e⟩
theorem Stp.free {w w2 w3 : World} {h h2 : Hp} {S : Nat → Prop} (s : Stp w w2 h h2) (t : Turn w2 w3 S) (hS : ∀ g, S g → w.heap.size ≤ g) : Stp w w3 h h2 :=
  ⟨(s.turn.trans t).mono (fun g hg e => by
    rcases e with e | e
    · exact e
    · have := hS g e; omega), s.own⟩
/-- Left gets one more, or many. -/
theorem Left.grow {w W w2 w3 : World} {B sb : Nat} {s2 : St} {h h2 : Hp} {v v' : Value} {L L' : List Nat} (R : Rep w2 B sb s2 h2) (S : Stp w w2 h h2) (l : Left w2 w.heap.size h2 v L) (hb : Below w2.heap.size w2 W) (hg : W.grownBy w3 v.ownBlock)
    (hown : w3.ownsRow w.heap.size 3 1 v' L'.length (nats L')) (hat : v'.ownBlock = v.ownBlock ∨ ∃ b, v'.ownBlock = some b ∧ W.heap.size ≤ b) :
    Rep w3 B sb s2 h2 ∧ Stp w w3 h h2 ∧ Left w3 w.heap.size h2 v' L' ∧ Turn w2 w3 (fun g => v.ownBlock = some g) := by
  have hT : Turn w2 w3 (fun g => v.ownBlock = some g) := ((Turn.of_below hb (fun _ => False)).trans (Turn.grown hg)).mono (fun g _ e => by
    rcases e with e | e
    · exact e.elim
    · exact e)
  refine ⟨R.turn hT (fun g _ e => l.free g e), S.free hT (fun g e => (l.row.lt g e).1), ⟨hown, fun g e => ?_⟩, hT⟩
  rcases hat with h1 | ⟨b, h1, h2'⟩
  · exact l.free g (by rw [← h1]; exact e)
  · rw [h1] at e
    injection e with e
    have := hb.size
    exact R.free g (by omega)

/-- What stands at the trail's next place. -/
theorem Rep.next {w : World} {B sb : Nat} {s : St} {h : Hp} (R : Rep w B sb s h) {y : Int} {dn n6 : Nat} (hy : s.tr[s.dn]? = some y) (hd : s.dn = dn) (hn : s.tr.length = n6) :
    w.cell? ⟨sb, 8, none⟩ = some (.int .i64 (dn : Int)) ∧ ∃ g6 c6, w.cell? ⟨sb, 6, none⟩ = some (.slice (some ⟨g6, 0, none⟩) n6 c6) ∧ dn < n6 ∧ n6 ≤ c6 ∧ c6 ≤ 9223372036854775807 ∧ w.cell? ⟨g6, dn, none⟩ = some (.int .i64 y) := by
  subst hd hn
  obtain ⟨g6, c6, e6, h1, h2, h3, h4, _, _, _⟩ := R.num (t := .tr) (i := s.dn) (nums_get hy)
  rw [show (cellsOf s h.val .tr).length = s.tr.length from nums_length _ _] at e6 h1 h2
  exact ⟨R.cell 8, g6, c6, by rw [← e6]; exact R.cell 6, h1, h2, h3, h4⟩
/-- What looks at a literal. -/
theorem Rep.olds {w : World} {B sb : Nat} {s : St} {h : Hp} (R : Rep w B sb s h) {x : Int} (hx : x.natAbs < bigN) {old : List Nat} (ho : s.wt x = old) :
    ∃ A c, h.val (.w x) = .slice A old.length c ∧ old.length ≤ c ∧ c ≤ 9223372036854775807 ∧ w.cell? ⟨sb, 2, none⟩ = some (.map (some h.wb)) ∧ (Instr.lookup 43 (.map (some h.wb)) (.int .i64 x) false).run Try.prog w = .ok (.slice A old.length c) w ∧
      (0 < old.length → ∃ g, A = some ⟨g, 0, none⟩ ∧ ∀ (i k : Nat), old[i]? = some k → w.cell? ⟨g, i, none⟩ = some (.int .i64 (k : Int))) := by
  obtain ⟨A, c, e, h1, h2, h3⟩ := (R.row (.w x)).form
  have el : (cellsOf s h.val (.w x)).length = old.length := by rw [← ho]; exact nats_length _
  rw [el] at e h1 h3
  refine ⟨A, c, e, h1, by unfold maxLen at h2; omega, R.cell 2, by rw [← e]; exact R.map.look Try.underlying43 (Try.zeroValue37 _) hx, fun hp => ?_⟩
  obtain ⟨g, rfl⟩ := h3 hp
  obtain ⟨g', c', e', _, _, _, _, _, h9⟩ := (R.row (.w x)).at (by rw [el]; exact hp)
  rw [e] at e'
  injection e' with e1
  injection e1 with e1
  injection e1 with e1
  subst e1
  exact ⟨g, rfl, fun i k hk => (h9 i _ (by show (nats (s.wt x))[i]? = _; rw [ho]; exact nats_get hk)).1⟩

theorem own_weaken' {w : World} {B B0 : Nat} {e : TypeId} {n : Nat} {v : Value} {xs : List Value} (h : w.ownsRow B0 e 1 v n xs) (hB : B ≤ B0) : w.ownsRow B e 1 v n xs := by
  refine ⟨h.1, ?_⟩
  rcases h.2 with h0 | ⟨g, cap, cur, rfl, hb, r⟩
  · exact .inl h0
  · exact .inr ⟨g, cap, cur, rfl, by omega, r⟩
theorem Left.watch {w W1 w5 : World} {B sb : Nat} {s2 : St} {h h2 : Hp} {v : Value} {L : List Nat} {x : Int} (R : Rep W1 B sb s2 h2) (S : Stp w W1 h h2) (l : Left W1 w.heap.size h2 v L) (hB : B ≤ w.heap.size) (hg5 : W1.grownBy w5 (some h2.wb)) (hM : MapR w5 h2.wb nilS (upd (fun x => h2.val (.w x)) x v)) :
    Rep w5 B sb { s2 with wt := upd s2.wt x L } (h2.put (.w x) v) ∧ Stp w w5 h (h2.put (.w x) v) := by
  obtain ⟨h1, h3, h4⟩ := R.setWatch (own_weaken' l.row hB) l.free hg5 hM
  refine ⟨h1, (S.turn.trans h3).mono (fun g hg e => ?_), fun g hg e => ?_⟩
  · rcases e with e | e
    · exact e
    · intro hf
      have := S.own g hg hf
      rw [e, R.omap] at this
      cases this
  · rw [h4 g (fun e2 => by have := (l.row.lt g e2).1; omega)]
    exact S.own g hg e
/-- The rest of a literal's clauses, behind what was left: the append at a step of a region that draws. -/
theorem step_rest {ops : Array Oper} {o : Oper} {a : Act} {Q : Exit → Act → World → Prop} {Kc : Act → World → Prop} {w W1 W : World} {B sb : Nat} {s2 : St} {h h2 : Hp} {v : Value} {L rest : List Nat} {x : Int} (R : Rep W1 B sb s2 h2) (S : Stp w W1 h h2) (l : Left W1 w.heap.size h2 v L) (hB : B ≤ w.heap.size)
    (hx : x.natAbs < bigN) (hlen : L.length + rest.length ≤ 2 * bigN) (hb : Below W1.heap.size W1 W) (hw : Region.wanted o (yielded ops a.tmps) = true) (sl xo : Operand) (ho : o.op = .call { callee := .builtin .append, args := #[sl, xo], argTypes := #[37, 37] })
    (hs : a.eval sl = v) (A' : Option Addr) (m c' : Nat) (hxo : a.eval xo = .slice A' m c') (hm : rest.length = m) (hread : 0 < m → ∃ ad, A' = some ad ∧ ∀ (j : Nat) u, (nats rest)[j]? = some u → W1.cell? (ad.add j) = some u)
    (hK : ∀ (v4 : Value) (w4 w5 : World), (Instr.mapUpdate 43 (.map (some h2.wb)) (.int .i64 x) v4).run Try.prog w4 = .ok () w5 → w4.cell? ⟨sb, 2, none⟩ = some (.map (some h2.wb)) → w5.cell? ⟨sb, 2, none⟩ = some (.map (some h2.wb)) →
      Rep w5 B sb { s2 with wt := upd s2.wt x (L ++ rest) } (h2.put (.w x) v4) → Stp w w5 h (h2.put (.w x) v4) → Kc (a.put o.dst v4) w4) :
    if Region.wanted o (yielded ops a.tmps) = true then Oper.wp Try.prog o a W Kc Q else Kc (a.put o.dst undef) W := by
  subst hm
  have hsz := S.turn.size
  have hsz2 := hb.size
  refine step_append_all (w0 := W1) w.heap.size hw sl xo 37 3 (.int .i64 0) 8 ho Try.underlying37 infoI rfl (by decide) v (nats L) A' rest.length c' (nats rest) hs hxo (by simp [nats, Value.oneCell']) (by simp [nats, Value.oneCell'])
    (by rw [nats_length]; exact pw_own_below l.row hb) (nats_length _) (by unfold bigN at hlen; omega) (fun hp => ?_) (hb.mono hsz) (by omega) (by rw [nats_length]; unfold bigN at hlen; omega) ?_
  · obtain ⟨ad, e, h9⟩ := hread hp
    exact ⟨ad, e, fun j u hu => (hb.cell (World.block_lt_of_cell? W1 _ (h9 j u hu))).trans (h9 j u hu)⟩
  · intro v4 w4 hown hb4 hg4 hat4
    have e1 : nats L ++ nats rest = nats (L ++ rest) := by simp [nats]
    rw [e1, nats_length] at hown
    obtain ⟨R4, S4, l4, T4⟩ := Left.grow (L' := L ++ rest) R S l hb hg4 hown hat4
    obtain ⟨w5, hrun, hM5, hg5⟩ := R4.map.store Try.underlying43 hx v4
    obtain ⟨R5, S5⟩ := l4.watch R4 S4 hB hg5 hM5
    exact hK v4 w4 w5 hrun (R4.cell 2) (R5.cell 2) R5 S5

def SpreadOut (w : World) (B sb : Nat) (h : Hp) (s' : St) (r : Option Nat) (e : Ending) (w' : World) : Prop :=
  e = .returned (.int .i64 (retOf r)) ∧ ∃ h', Rep w' B sb s' h' ∧ Stp w w' h h'
/-- In the pass over a literal's clauses. -/
structure InPass (w wr : World) (B sb : Nat) (h : Hp) (x : Int) (old : List Nat) (vo : Value) (i : Nat) (v5 : Value) (s1 : St) (r1 : Option Nat) (sc : St) (hc : Hp) (L : List Nat) : Prop where
  rep : Rep wr B sb sc hc
  stp : Stp w wr h hc
  left : Left wr w.heap.size hc v5 L
  len : L.length ≤ i
  run : sc.passes x L (old.drop i) = some (s1, r1)
  val : hc.val (.w x) = vo
  wt : sc.wt x = old

theorem look_kept {s s1 : St} {k : Nat} {x : Int} {kept : Bool} (h : s.look k x = some (s1, kept, false)) : kept = true := by
  unfold St.look at h
  simp only [Option.bind_eq_bind, Option.bind_eq_some_iff] at h
  obtain ⟨l, hl, h⟩ := h
  split at h
  · generalize (if l.getD 0 0 = x then swapAt l 0 1 else l) = l1 at h
    simp only [Option.bind_eq_some_iff] at h
    obtain ⟨v0, _, h⟩ := h
    split at h
    · simp at h
    · rw [Option.bind_eq_some_iff] at h
      obtain ⟨r, _, h⟩ := h
      cases r with
      | some i =>
        simp only at h
        split at h
        · cases h
        · rw [Option.bind_eq_some_iff] at h
          obtain ⟨s2, h2, h⟩ := h
          simp at h
      | none =>
        simp only at h
        split at h
        · simp at h; exact h.2
        · rw [Option.bind_eq_some_iff] at h
          obtain ⟨s2, h2, h⟩ := h
          simp at h
  · cases h
theorem Rep.oldRead {wr : World} {B sb : Nat} {sc : St} {hc : Hp} (R : Rep wr B sb sc hc) {x : Int} {old : List Nat} {Ao : Option Addr} {no co i k : Nat} (hx : x.natAbs < bigN) (hv : hc.val (.w x) = .slice Ao no co) (hw : sc.wt x = old) (hk : old[i]? = some k) :
    ∃ go, Ao = some ⟨go, 0, none⟩ ∧ ∀ (i k : Nat), old[i]? = some k → wr.cell? ⟨go, i, none⟩ = some (.int .i64 (k : Int)) := by
  obtain ⟨A, c, e, _, _, _, _, h9⟩ := R.olds hx hw
  rw [hv] at e
  injection e with e1 e2 e3
  subst e1
  exact h9 (by have := (List.getElem?_eq_some_iff.1 hk).1; omega)

set_option maxHeartbeats 8000000 in
set_option maxRecDepth 100000 in
theorem spread_any (f : Nat) (w : World) (B sb : Nat) (s s' : St) (r : Option Nat) (h : Hp) (R : Rep w B sb s h) (hs : St.spread f s = some (s', r)) :
    Calls Try.prog 20 #[.pointer (some ⟨sb, 0, none⟩)] w (SpreadOut w B sb h s' r) := by
  have HR0 := Aside0.mk (And.intro R hs)
  have HBW := Aside0.mk R.base.1
  clear R hs
  go_enter Try.func20, Try.ntmps20
  go_wp2
  go_loopg [2] f (fun gg s2 wr => s2 = .int .i64 0 ∧ ∃ sc hc, Aside0 (Rep wr B sb sc hc ∧ Stp w wr h hc ∧ St.spread gg sc = some (s', r)))
  case atStart => exact ⟨rfl, s, h, ⟨HR0.out.1, Stp.refl _ _, HR0.out.2⟩⟩
  case round =>
    obtain ⟨rfl, sc, hc, HH⟩ := hrel
    clear HR0
    obtain ⟨g', hgg, hcase⟩ := spread_step HH.out.2.2
    obtain ⟨dn, hdn⟩ : ∃ dn, sc.dn = dn := ⟨_, rfl⟩
    obtain ⟨n6, hn6⟩ : ∃ n6, sc.tr.length = n6 := ⟨_, rfl⟩
    have HDN := Aside0.mk (And.intro hdn hn6)
    have HGG := Aside0.mk hgg
    rcases hcase with ⟨hy, rfl, rfl⟩ | ⟨y, hy, hwl, hyb, s1, r1, hp, hcase⟩
    · have hc8 := HH.out.1.cell 8
      change wr.cell? ⟨sb, 8, none⟩ = some (.int .i64 (s'.dn : Int)) at hc8
      obtain ⟨A6, c6, e6, hc61, hc62, hA6⟩ := (HH.out.1.row .tr).form
      have l6 : (cellsOf s' hc.val .tr).length = s'.tr.length := nums_length _ _
      have hc6 := HH.out.1.cell 6
      change wr.cell? ⟨sb, 6, none⟩ = some (hc.val .tr) at hc6
      rw [e6, l6, hn6] at hc6
      rw [hdn] at hc8
      have hlt4 : decide (dn < n6) = false := by
        have := List.getElem?_eq_none_iff.1 hy
        simp; omega
      clear hy hA6 hc61 hc62 e6 l6 hdn hn6 hgg
      go_wp2
      go_quiet (fail)
      go_wp2
      go_ret
      exact ⟨rfl, hc, (HH.out.1.drew _).1, HH.out.2.1.trans (HH.out.1.drew _).2⟩
    · have HY := Aside0.mk (And.intro hy (And.intro hwl (And.intro hyb (And.intro hp hcase))))
      obtain ⟨hc8, g6, c6, hc6, hlt, hcap6, hmax6, hcy⟩ := HH.out.1.next hy hdn hn6
      have hlt3 : (dn : Int) < (n6 : Int) := by omega
      clear hy hwl hp hcase hdn hn6 hgg
      go_wp2
      go_quiet (fail)
      have HD1 := Aside0.mk (And.intro (HH.out.1.drew nq).1 (HH.out.2.1.trans (HH.out.1.drew nq).2))
      clear hc8 hc6 hcy hlt hlt3 hcap6 hmax6
      generalize wr.drewN nq = wq at *
      obtain ⟨hc8, g6, c6, hc6, hlt, hcap6, hmax6, hcy⟩ := HD1.out.1.next HY.out.1 HDN.out.1 HDN.out.2
      have hlt3 : (dn : Int) < (n6 : Int) := by omega
      have hny : wrap64 (-y) = -y := by unfold bigN at hyb; unfold wrap64; omega
      go_wp2
      go_quiet (fail)
      have HD2 := Aside0.mk (And.intro (HD1.out.1.drew nq).1 (HD1.out.2.trans (HD1.out.1.drew nq).2))
      clear hc8 hc6 hcy hlt3 HD1
      generalize wq.drewN nq = wp at *
      have hc8 := HD2.out.1.cell 8
      change wp.cell? ⟨sb, 8, none⟩ = some (.int .i64 (sc.dn : Int)) at hc8
      rw [HDN.out.1] at hc8
      have hf8 := HD2.out.1.frozen 8
      have hdn9 : (dn : Int) ≤ 9223372036854775806 := by omega
      obtain ⟨W3, hW3⟩ : ∃ W3, wp.setCell ⟨sb, 8, none⟩ (.int .i64 ((dn : Int) + 1)) = W3 := ⟨_, rfl⟩
      have HR3 : Aside0 (Rep W3 B sb { sc with dn := sc.dn + 1 } hc ∧ Stp w W3 h hc) := ⟨by
        obtain ⟨q1, q2⟩ := HD2.out.1.setNum (s' := { sc with dn := sc.dn + 1 }) (k := 8) (u := .int .i64 ((dn : Int) + 1)) (by simp [solOf, HDN.out.1]) (fun t => by cases t <;> rfl) ⟨rfl, rfl, rfl⟩
        rw [hW3] at q1 q2
        exact ⟨q1, HD2.out.2.trans q2⟩⟩
      obtain ⟨x, hx⟩ : ∃ x, -y = x := ⟨_, rfl⟩
      have hxb : x.natAbs < bigN := by rw [← hx, Int.natAbs_neg]; exact hyb
      obtain ⟨old, hold⟩ : ∃ old, sc.wt x = old := ⟨_, rfl⟩
      obtain ⟨Ao, co, eo, hoc, hoc2, hcm, hlk, hels⟩ := HR3.out.1.olds hxb (old := old) hold
      obtain ⟨no, hno⟩ : ∃ no, old.length = no := ⟨_, rfl⟩
      rw [hno] at hlk hoc eo
      have HO := Aside0.mk (And.intro hx (And.intro hxb (And.intro hold (And.intro hno eo))))
      rw [hny, hx]
      clear hny
      have hno9 : no < bigN := by have := HY.out.2.1; rw [hx, hold, hno] at this; exact this
      have HRUN : Aside0 (St.passes { sc with dn := sc.dn + 1 } x [] old = some (s1, r1) ∧ ((∃ k, r1 = some k ∧ s' = s1 ∧ r = some k) ∨ (r1 = none ∧ St.spread g' s1 = some (s', r)))) := ⟨by have := HY.out.2.2.2; rw [hx, hold] at this; exact this⟩
      clear hx hxb hold hno eo hels HY hyb HD2 HH HDN
      unfold bigN at hno9
      go_wp2
      clear hc8 hf8 hW3 hcm hlk
      go_loopg [2, 5, 46] no (fun gg s2 s5 s46 wi => s2 = .int .i64 0 ∧ ∃ (i : Nat) (si : St) (hi : Hp) (L : List Nat), i ≤ no ∧ no - i ≤ gg ∧ s46 = .int .i64 (i : Int) ∧ Aside0 (InPass w wi B sb h x old (.slice Ao no co) i s5 s1 r1 si hi L))
      case atStart =>
        exact ⟨rfl, 0, _, hc, [], by omega, by omega, rfl, ⟨{ rep := HR3.out.1, stp := HR3.out.2, left := Left.nil _ _ _, len := Nat.le_refl _, run := HRUN.out.1, val := HO.out.2.2.2.2, wt := HO.out.2.2.1 }⟩⟩
      case round =>
        obtain ⟨rfl, i, si, hi, L, hi1, hi2, rfl, HI⟩ := hrel
        clear HR3
        by_cases hlt : i < no
        · have hlt2 : decide ((i : Int) < (no : Int)) = true := by simpa using hlt
          have hlt3 : (i : Int) < (no : Int) := by omega
          obtain ⟨k, hk⟩ : ∃ k, old[i]? = some k := ⟨old[i]'(by rw [HO.out.2.2.2.1]; exact hlt), List.getElem?_eq_getElem _⟩
          obtain ⟨go, rfl, hread⟩ := HI.out.rep.oldRead HO.out.2.1 HI.out.val HI.out.wt hk
          have hck := hread i k hk
          have hdrop : old.drop i = k :: old.drop (i + 1) := by
            obtain ⟨q1, q2⟩ := List.getElem?_eq_some_iff.1 hk
            rw [List.drop_eq_getElem_cons q1, q2]
          have hrun := HI.out.run
          rw [hdrop] at hrun
          obtain ⟨s2, kept, ok, hlook, hcase⟩ := passes_step hrun
          have hLk := look_any k x wr B sb si s2 kept ok hi HI.out.rep hlook
          have HK := Aside0.mk (And.intro hk (And.intro hread hlook))
          clear hk hread hdrop hrun
          rcases hcase with ⟨rfl, hrun⟩ | ⟨rfl, hs1, hr1⟩
          · have HRN := Aside0.mk hrun
            clear hrun
            cases kept
            · go_wp2_with fail
              refine hLk.mono ?_
              rintro e w2 ⟨rfl, h2, hR2, hS2, hv2⟩
              have HN : Aside0 (InPass w w2 B sb h x old (.slice (some ⟨go, 0, none⟩) no co) (i + 1) u5 s1 r1 s2 h2 L) := ⟨{ rep := hR2, stp := HI.out.stp.trans hS2, left := HI.out.left.step hS2, len := Nat.le_succ_of_le HI.out.len, run := HRN.out, val := hv2.trans HI.out.val, wt := (look_wt HK.out.2.2).trans HI.out.wt }⟩
              clear hR2 hS2 hv2 hLk hlook HI
              go_wp2
              go_roundg (no - i - 1)
              case measure => omega
              case rel => exact ⟨rfl, i + 1, s2, h2, L, by omega, by omega, by go_num, HN⟩
            · go_wp2_with fail
              refine hLk.mono ?_
              rintro e w2 ⟨rfl, h2, hR2, hS2, hv2⟩
              have HL2 := Aside0.mk (HI.out.left.step hS2)
              have HS2 := Aside0.mk (And.intro hR2 (And.intro (HI.out.stp.trans hS2) (And.intro (hv2.trans HI.out.val) ((look_wt HK.out.2.2).trans HI.out.wt))))
              have HLL := Aside0.mk HI.out.len
              clear hR2 hS2 hv2 hLk hlook HI
              go_wp2_with (at_builtin; refine print_append (w0 := w2) w.heap.size rfl (.tmp 59) (.tmp 61) 37 3 (.int .i64 0) 8 rfl Try.underlying37 infoI rfl (by decide) u5 (nats L) (.int .i64 (k : Int)) rfl rfl rfl ?aO ?aB ?aS ?aL ?_)
              case aO => rw [nats_length]; exact HL2.out.row
              case aB => exact Below.refl _ _
              case aS => exact HS2.out.2.1.turn.size
              case aL => rw [nats_length]; have := HLL.out; omega
              intro v3 w3 hown hb3 hg3 hat3
              have e1 : nats L ++ [Value.int .i64 (k : Int)] = nats (L ++ [k]) := by simp [nats]
              rw [e1, nats_length] at hown
              have HG := Aside0.mk (Left.grow (L' := L ++ [k]) HS2.out.1 HS2.out.2.1 HL2.out (Below.refl _ _) hg3 (by rw [List.length_append]; exact hown) hat3)
              have HN : Aside0 (InPass w w3 B sb h x old (.slice (some ⟨go, 0, none⟩) no co) (i + 1) v3 s1 r1 s2 h2 (L ++ [k])) := ⟨{ rep := HG.out.1, stp := HG.out.2.1, left := HG.out.2.2.1, len := by have := HLL.out; simp; omega, run := HRN.out, val := HS2.out.2.2.1, wt := HS2.out.2.2.2 }⟩
              clear hown hb3 hg3 hat3 HG
              go_wp2
              go_roundg (no - i - 1)
              case measure => omega
              case rel => exact ⟨rfl, i + 1, s2, h2, L ++ [k], by omega, by omega, by go_num, HN⟩
          · obtain rfl := look_kept hlook
            have HRN := Aside0.mk (And.intro hs1 hr1)
            clear hs1 hr1
            go_wp2_with fail
            refine hLk.mono ?_
            rintro e w2 ⟨rfl, h2, hR2, hS2, hv2⟩
            have HL2 := Aside0.mk (HI.out.left.step hS2)
            have HS2 := Aside0.mk (And.intro hR2 (And.intro (HI.out.stp.trans hS2) (And.intro (hv2.trans HI.out.val) ((look_wt HK.out.2.2).trans HI.out.wt))))
            have HLL := Aside0.mk HI.out.len
            clear hR2 hS2 hv2 hLk hlook HI
            go_wp2_with (at_builtin; refine print_append (w0 := w2) w.heap.size rfl (.tmp 59) (.tmp 61) 37 3 (.int .i64 0) 8 rfl Try.underlying37 infoI rfl (by decide) u5 (nats L) (.int .i64 (k : Int)) rfl rfl rfl ?aO ?aB ?aS ?aL ?_)
            case aO => rw [nats_length]; exact HL2.out.row
            case aB => exact Below.refl _ _
            case aS => exact HS2.out.2.1.turn.size
            case aL => rw [nats_length]; have := HLL.out; omega
            intro v3 w3 hown hb3 hg3 hat3
            have e1 : nats L ++ [Value.int .i64 (k : Int)] = nats (L ++ [k]) := by simp [nats]
            rw [e1, nats_length] at hown
            have HG := Aside0.mk (Left.grow (L' := L ++ [k]) HS2.out.1 HS2.out.2.1 HL2.out (Below.refl _ _) hg3 (by rw [List.length_append]; exact hown) hat3)
            clear hown hb3 hg3 hat3 hck
            obtain ⟨go', hgo', hread⟩ := HG.out.1.oldRead HO.out.2.1 HS2.out.2.2.1 HS2.out.2.2.2 HK.out.1
            injection hgo' with hgo'
            injection hgo' with hgo'
            subst hgo'
            have HKM := Aside0.mk (fun W' (hb : Below w3.heap.size w3 W') => (HG.out.1.below hb).cell 2)
            obtain ⟨wb, hwb⟩ : ∃ wb, h2.wb = wb := ⟨_, rfl⟩
            have HKM : Aside0 (∀ W', Below w3.heap.size w3 W' → W'.cell? ⟨sb, 2, none⟩ = some (.map (some wb))) := ⟨fun W' hb => by rw [← hwb]; exact HKM.out W' hb⟩
            have HWB := Aside0.mk hwb
            have HBs : Aside0 (B ≤ w.heap.size) := ⟨HBW.out⟩
            have HLN : Aside0 ((L ++ [k]).length + (old.drop (i + 1)).length ≤ 2 * bigN) := ⟨by have := HLL.out; have := HO.out.2.2.2.1; simp; unfold bigN; omega⟩
            have HRL : Aside0 ((old.drop (i + 1)).length = no - (i + 1)) := ⟨by rw [List.length_drop, HO.out.2.2.2.1]⟩
            have HREADS : Aside0 (∀ (j : Nat) u, (nats (old.drop (i + 1)))[j]? = some u → w3.cell? ⟨go, i + 1 + j, none⟩ = some u) := ⟨fun j u hu => by
              unfold nats at hu
              rw [List.getElem?_map, List.getElem?_drop] at hu
              obtain ⟨k', hk', rfl⟩ := Option.map_eq_some_iff.1 hu
              exact hread (i + 1 + j) k' hk'⟩
            clear hwb hread e1
            have hw1 : IntKind.i64.wrap ((i : Int) + 1) = (i : Int) + 1 := by simp [IntKind.wrap, IntKind.bits, IntKind.signed]; omega
            have hw2 : (0 : Int) ≤ (i : Int) + 1 := by omega
            have hw3 : (i : Int) + 1 ≤ (no : Int) := by omega
            have hw4 : ((i : Int) + 1).toNat = i + 1 := by omega
            by_cases hco : co = i + 1
            · have hz : no - (i + 1) = 0 := by omega
              have HREAD : ∀ (A' : Option Addr), 0 < no - (i + 1) → ∃ ad, A' = some ad ∧ ∀ (j : Nat) u, (nats (old.drop (i + 1)))[j]? = some u → w3.cell? (ad.add j) = some u := fun A' hp => by omega
              have HRD : Aside0 (∀ (A' : Option Addr), 0 < 0 → ∃ ad, A' = some ad ∧ ∀ (j : Nat) u, (nats (old.drop (i + 1)))[j]? = some u → w3.cell? (ad.add j) = some u) := ⟨fun A' hp => by omega⟩
              have HRL0 : Aside0 ((old.drop (i + 1)).length = 0) := ⟨by rw [HRL.out]; exact hz⟩
              clear HREAD hz
              subst hco
              go_wp2_with fail
              go_region_held3 (fun w' => w'.cell? ⟨sb, 2, none⟩ = some (.map (some wb))) (first | exact HSk5.out | exact HSk4.out | exact (HG.out.1.below (by (repeat' (first | exact Below.refl _ _ | assumption | refine pw_below_drewN ?_ _ | refine below_drew ?_ | refine below_alloc ?_ _)))).cell 2 | exact HKM.out _ (by (repeat' (first | exact Below.refl _ _ | assumption | refine pw_below_drewN ?_ _ | refine below_drew ?_ | refine below_alloc ?_ _)))) (first | (refine step_rest HG.out.1 HG.out.2.1 HG.out.2.2.1 HBs.out HO.out.2.1 HLN.out (by (repeat' (first | exact Below.refl _ _ | assumption | refine pw_below_drewN ?_ _ | refine below_drew ?_ | refine below_alloc ?_ _))) (by rfl) (.tmp 70) (.tmp 74) rfl rfl _ _ _ rfl HRL0.out (HRD.out _) ?_; intro v4 w4 w5 hrun hk4 hk5 hR5 hS5; rw [HWB.out] at hrun hk4 hk5; have HSk4 := Aside0.mk hk4; have HSk5 := Aside0.mk hk5; have HR5 := Aside0.mk (And.intro hR5 hS5); clear hk4 hk5 hR5 hS5))
              all_goals
                clear HSk4 HSk5 hrun
                go_wp2
                go_ret
                refine ⟨?_, _, ?_, HR5.out.2⟩
                · rcases HRUN.out.2 with ⟨k', e1, e2, e3⟩ | ⟨e1, _⟩
                  · have e4 := HRN.out.2
                    rw [e1] at e4
                    obtain rfl := Option.some.inj e4
                    rw [e3]; rfl
                  · have e4 := HRN.out.2
                    rw [e1] at e4; cases e4
                · rcases HRUN.out.2 with ⟨k', e1, e2, e3⟩ | ⟨e1, _⟩
                  · rw [e2, HRN.out.1]
                    exact HR5.out.1
                  · have e4 := HRN.out.2
                    rw [e1] at e4; cases e4
            · have HRD : Aside0 (0 < no - (i + 1) → ∃ ad, (some ⟨go, i + 1, none⟩ : Option Addr) = some ad ∧ ∀ (j : Nat) u, (nats (old.drop (i + 1)))[j]? = some u → w3.cell? (ad.add j) = some u) := ⟨fun hp => ⟨_, rfl, fun j u hu => by rw [add_spot rfl]; exact HREADS.out j u hu⟩⟩
              have hco2 : i + 1 < co := by omega
              go_wp2_with fail
              go_region_held3 (fun w' => w'.cell? ⟨sb, 2, none⟩ = some (.map (some wb))) (first | exact HSk5.out | exact HSk4.out | exact (HG.out.1.below (by (repeat' (first | exact Below.refl _ _ | assumption | refine pw_below_drewN ?_ _ | refine below_drew ?_ | refine below_alloc ?_ _)))).cell 2 | exact HKM.out _ (by (repeat' (first | exact Below.refl _ _ | assumption | refine pw_below_drewN ?_ _ | refine below_drew ?_ | refine below_alloc ?_ _)))) (first | (refine step_rest HG.out.1 HG.out.2.1 HG.out.2.2.1 HBs.out HO.out.2.1 HLN.out (by (repeat' (first | exact Below.refl _ _ | assumption | refine pw_below_drewN ?_ _ | refine below_drew ?_ | refine below_alloc ?_ _))) (by rfl) (.tmp 70) (.tmp 74) rfl rfl _ _ _ rfl HRL.out HRD.out ?_; intro v4 w4 w5 hrun hk4 hk5 hR5 hS5; rw [HWB.out] at hrun hk4 hk5; have HSk4 := Aside0.mk hk4; have HSk5 := Aside0.mk hk5; have HR5 := Aside0.mk (And.intro hR5 hS5); clear hk4 hk5 hR5 hS5))
              all_goals
                clear HSk4 HSk5 hrun
                go_wp2
                go_ret
                refine ⟨?_, _, ?_, HR5.out.2⟩
                · rcases HRUN.out.2 with ⟨k', e1, e2, e3⟩ | ⟨e1, _⟩
                  · have e4 := HRN.out.2
                    rw [e1] at e4
                    obtain rfl := Option.some.inj e4
                    rw [e3]; rfl
                  · have e4 := HRN.out.2
                    rw [e1] at e4; cases e4
                · rcases HRUN.out.2 with ⟨k', e1, e2, e3⟩ | ⟨e1, _⟩
                  · rw [e2, HRN.out.1]
                    exact HR5.out.1
                  · have e4 := HRN.out.2
                    rw [e1] at e4; cases e4
        · have hlt2 : decide ((i : Int) < (no : Int)) = false := by simpa using hlt
          obtain rfl : i = no := by omega
          have hrun0 := HI.out.run
          rw [List.drop_eq_nil_of_le (by rw [HO.out.2.2.2.1]; exact Nat.le_refl _)] at hrun0
          unfold St.passes at hrun0
          obtain ⟨hs1, hr1⟩ := Prod.mk.inj (Option.some.inj hrun0)
          have hk2 := HI.out.rep.cell 2
          change wr.cell? ⟨sb, 2, none⟩ = some (.map (some hi.wb)) at hk2
          obtain ⟨w5, hrun, hM5, hg5⟩ := HI.out.rep.map.store Try.underlying43 HO.out.2.1 u5
          have HN := Aside0.mk (HI.out.left.watch HI.out.rep HI.out.stp HBW.out hg5 hM5)
          have HE : Aside0 (St.spread g' s1 = some (s', r)) := ⟨by
            rcases HRUN.out.2 with ⟨k', e1, _⟩ | ⟨_, h⟩
            · rw [← hr1] at e1; cases e1
            · exact h⟩
          have HS1 := Aside0.mk hs1
          clear hrun0 hs1 hr1 hg5 hM5
          go_wp2
          go_roundg g'
          case measure => have := HGG.out; omega
          case rel => exact ⟨rfl, s1, _, ⟨by rw [← HS1.out]; exact HN.out.1, HN.out.2, HE.out⟩⟩
end Go.Proofs.Ytbagcbiekpopbaa
