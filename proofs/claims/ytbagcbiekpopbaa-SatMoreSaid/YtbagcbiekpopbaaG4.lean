/- Scores, undoing, and what learning keeps. -/
import Derived.Test.YtbagcbiekpopbaaG3
import Derived.Laws.FloatArith
import Derived.WalkLawsBesides
import Derived.RangeFuncNested
import Derived.RangeFuncBound
import Derived.RangeFuncCalls
import Derived.RangeFuncLeaves
import Derived.Shelf.Abstract
import Derived.Shelf.RegionOpen
import Derived.WalkKit
import Derived.OwnWalkIn
import Derived.TacticsInMore
import Derived.LoopNIn
import Derived.LoopIn
import Derived.StillTail
import Derived.StillTailTactics
namespace Go.Proofs.Ytbagcbiekpopbaa
open Go.RowKit Go.Proofs.YtbagcbiekpopbaaW.PrintWords Go.Proofs.YtbagcbiekpopbaaW.PrintLast
set_option linter.unusedVariables false
set_option linter.unusedSimpArgs false

def flS : Fl where
  add x y := (floatBits .add .f64 x y).getD 0
  mul x y := (floatBits .mul .f64 x y).getD 0
  gt x y := FloatKind.f64.format.order x y == some .gt

theorem inf_eq : FloatKind.f64.format.infRung = infR := by decide
theorem sw_eq : FloatKind.f64.format.signWeight = 9223372036854775808 := by decide
theorem read_ok {x : Nat} (h : x ≤ infR) : (∃ m e, FloatKind.f64.format.read x = .number false m e) ∨ FloatKind.f64.format.read x = .infinity false := by
  unfold infR at h
  unfold Ieee.Format.read
  rw [sw_eq, inf_eq]
  have h1 : x / 9223372036854775808 = 0 := Nat.div_eq_of_lt (by omega)
  have h2 : x % 9223372036854775808 = x := Nat.mod_eq_of_lt (by omega)
  simp only [h1, h2]
  by_cases h3 : x < FloatKind.f64.format.binade
  · rw [if_pos h3]; exact .inl ⟨_, _, rfl⟩
  · rw [if_neg h3]
    by_cases h4 : x < infR
    · rw [if_pos h4]; exact .inl ⟨_, _, rfl⟩
    · rw [if_neg h4, if_pos (by unfold infR at h4 ⊢; omega)]
      exact .inr rfl
theorem write_num (m : Nat) (e : Int) : FloatKind.f64.format.write (.number false m e) ≤ infR := by
  show FloatKind.f64.format.nearest false m e ≤ infR
  unfold Ieee.Format.nearest
  split
  · show (if false = true then _ else 0) ≤ infR
    simp
  · show (if false = true then _ else min _ _) ≤ infR
    rw [inf_eq]
    simp only [Bool.false_eq_true, if_false]
    exact Nat.min_le_right _ _
theorem write_inf : FloatKind.f64.format.write (.infinity false) ≤ infR := by
  unfold Ieee.Format.write Ieee.Format.word
  simp [inf_eq]
theorem add_fl {x y : Nat} (hx : x ≤ infR) (hy : y ≤ infR) : ∃ r, floatBits .add .f64 x y = some r ∧ r ≤ infR := by
  show ∃ r, FloatKind.f64.format.add x y = some r ∧ r ≤ infR
  unfold Ieee.Format.add
  rcases read_ok hx with ⟨m, e, h1⟩ | h1 <;> rcases read_ok hy with ⟨m', e', h2⟩ | h2 <;> rw [h1, h2]
  · refine ⟨_, rfl, ?_⟩
    have hs : ¬ (Ieee.signed false m (e - min e e').toNat + Ieee.signed false m' (e' - min e e').toNat) < 0 := by
      have hn : ∀ a b, 0 ≤ Ieee.signed false a b := fun a b => by unfold Ieee.signed; simp only [Bool.false_eq_true, if_false]; exact Int.natCast_nonneg _
      have := hn m (e - min e e').toNat
      have := hn m' (e' - min e e').toNat
      omega
    have : (if Ieee.signed false m (e - min e e').toNat + Ieee.signed false m' (e' - min e e').toNat = 0 then (false && false) else decide (Ieee.signed false m (e - min e e').toNat + Ieee.signed false m' (e' - min e e').toNat < 0)) = false := by
      split
      · rfl
      · exact decide_eq_false hs
    simp only [this]
    exact write_num _ _
  · exact ⟨_, rfl, write_inf⟩
  · exact ⟨_, rfl, write_inf⟩
  · exact ⟨_, rfl, write_inf⟩
theorem mul_fl {x y : Nat} (hx : x ≤ infR) {m : Nat} {e : Int} (hy : FloatKind.f64.format.read y = .number false (m + 1) e) : ∃ r, floatBits .mul .f64 x y = some r ∧ r ≤ infR := by
  show ∃ r, FloatKind.f64.format.mul x y = some r ∧ r ≤ infR
  unfold Ieee.Format.mul
  rcases read_ok hx with ⟨m', e', h1⟩ | h1 <;> rw [h1, hy]
  · exact ⟨_, rfl, write_num _ _⟩
  · exact ⟨_, rfl, write_inf⟩
theorem read_small : ∃ m e, FloatKind.f64.format.read 3110860544497550640 = .number false (m + 1) e := ⟨7880401239278895, (-385), by kernel_rfl⟩
theorem read_grow : ∃ m e, FloatKind.f64.format.read 4607407598781385933 = .number false (m + 1) e := ⟨4728779608739020, (-52), by kernel_rfl⟩
theorem mul_small {x : Nat} (hx : x ≤ infR) : floatBits .mul .f64 x 3110860544497550640 = some (flS.mul x 3110860544497550640) ∧ flS.mul x 3110860544497550640 ≤ infR := by
  obtain ⟨m, e, h⟩ := read_small
  obtain ⟨r, h1, h2⟩ := mul_fl hx h
  have h3 : flS.mul x 3110860544497550640 = r := by show (floatBits .mul .f64 x _).getD 0 = r; rw [h1]; rfl
  rw [h3]; exact ⟨h1, h2⟩
theorem mul_grow {x : Nat} (hx : x ≤ infR) : floatBits .mul .f64 x 4607407598781385933 = some (flS.mul x 4607407598781385933) ∧ flS.mul x 4607407598781385933 ≤ infR := by
  obtain ⟨m, e, h⟩ := read_grow
  obtain ⟨r, h1, h2⟩ := mul_fl hx h
  have h3 : flS.mul x 4607407598781385933 = r := by show (floatBits .mul .f64 x _).getD 0 = r; rw [h1]; rfl
  rw [h3]; exact ⟨h1, h2⟩
theorem add_flS {x y : Nat} (hx : x ≤ infR) (hy : y ≤ infR) : floatBits .add .f64 x y = some (flS.add x y) ∧ flS.add x y ≤ infR := by
  obtain ⟨r, h1, h2⟩ := add_fl hx hy
  have h3 : flS.add x y = r := by show (floatBits .add .f64 x y).getD 0 = r; rw [h1]; rfl
  rw [h3]; exact ⟨h1, h2⟩
theorem flS_ok : FlOk flS := ⟨fun x y hx hy => (add_flS hx hy).2, fun x hx => (mul_small hx).2, fun x hx => (mul_grow hx).2⟩
end Go.Proofs.Ytbagcbiekpopbaa

namespace Go.Proofs.Ytbagcbiekpopbaa
open Go.RowKit Go.Proofs.YtbagcbiekpopbaaW.PrintWords Go.Proofs.YtbagcbiekpopbaaW.PrintLast
set_option linter.unusedVariables false
set_option linter.unusedSimpArgs false

theorem fl_get {l : List Nat} {i : Nat} {x : Nat} (h : l[i]? = some x) : (l.map (Value.float .f64))[i]? = some (.float .f64 x) := by rw [List.getElem?_map, h]; rfl
/-- The first i taken times the small number. -/
def scI (l : List Nat) (i : Nat) : List Nat := (l.take i).map (flS.mul · 3110860544497550640) ++ l.drop i
theorem scI_zero (l : List Nat) : scI l 0 = l := by simp [scI]
theorem scI_all (l : List Nat) : scI l l.length = l.map (flS.mul · 3110860544497550640) := by simp [scI]
theorem scI_length (l : List Nat) {i : Nat} (h : i ≤ l.length) : (scI l i).length = l.length := by simp [scI]; omega
theorem scI_get {l : List Nat} {i x : Nat} (h : l[i]? = some x) : (scI l i)[i]? = some x := by
  have hi := (List.getElem?_eq_some_iff.1 h).1
  unfold scI
  rw [List.getElem?_append_right (by simp; omega), List.getElem?_drop]
  simp only [List.length_map, List.length_take]
  rw [show i + (i - min i l.length) = i from by omega, h]
theorem scI_step {l : List Nat} {i x : Nat} (h : l[i]? = some x) : (scI l i).set i (flS.mul x 3110860544497550640) = scI l (i + 1) := by
  obtain ⟨hi, hx⟩ := List.getElem?_eq_some_iff.1 h
  unfold scI
  have e1 : ((l.take i).map (flS.mul · 3110860544497550640)).length = i := by simp; omega
  rw [List.set_append, if_neg (by omega), e1, Nat.sub_self, List.drop_eq_getElem_cons hi, List.set_cons_zero, List.take_succ_eq_append_getElem hi, List.map_append, List.append_assoc, hx]
  rfl
/-- One score is written. -/
theorem Rep.setSc {w : World} {B sb : Nat} {s : St} {h : Hp} (R : Rep w B sb s h) {g n cap i x : Nat} (ht : h.val .sc = .slice (some ⟨g, 0, none⟩) n cap) :
    Rep (w.setCell ⟨g, i, none⟩ (.float .f64 x)) B sb { s with sc := s.sc.set i x } h ∧ Turn w (w.setCell ⟨g, i, none⟩ (.float .f64 x)) (fun k => k = g) :=
  R.setRow (t := .sc) ht (by show (s.sc.set i x).map _ = (s.sc.map _).set i _; rw [List.map_set]) (fun t' h' => by cases t' <;> first | rfl | exact absurd rfl h') rfl ⟨rfl, rfl, rfl⟩

theorem Rep.at {w : World} {B sb : Nat} {s : St} {h : Hp} (R : Rep w B sb s h) {t : Rw} {g n cap i : Nat} {u : Value} (ht : h.val t = .slice (some ⟨g, 0, none⟩) n cap) (hi : (cellsOf s h.val t)[i]? = some u) : w.cell? ⟨g, i, none⟩ = some u ∧ w.frozen? ⟨g, i, none⟩ = false := by
  obtain ⟨g', cap', e, _, _, _, hcell, hfr, _, _⟩ := R.num (t := t) hi
  rw [ht] at e
  injection e with e1 e2 e3
  injection e1 with e1
  injection e1 with e1
  subst e1
  exact ⟨hcell, hfr⟩
theorem run_store_float (P : Program) (w : World) (a : Addr) (m : Mode) (k : FloatKind) (b : Nat) : (store a (.float k b) m).run P w = stored P w a (.float k b) m := run_store P w a _ m rfl
attribute [local go_sem] run_store_float

def BumpOut (w : World) (B sb : Nat) (h : Hp) (s' : St) (e : Ending) (w' : World) : Prop :=
  e = .returned (.tuple #[]) ∧ Rep w' B sb s' h ∧ Turn w w' (fun g => g = sb ∨ h.own g = .row .sc)

set_option maxHeartbeats 8000000 in
set_option maxRecDepth 100000 in
theorem bump_any (v : Nat) (w : World) (B sb : Nat) (s s' : St) (h : Hp) (R : Rep w B sb s h) (hs : s.bump flS v = some s') :
    Calls Try.prog 55 #[.pointer (some ⟨sb, 0, none⟩), .int .i64 (v : Int)] w (BumpOut w B sb h s') := by
  unfold St.bump at hs
  simp only [Option.bind_eq_bind, Option.bind_eq_some_iff] at hs
  obtain ⟨c, hc, hs⟩ := hs
  split at hs
  · rename_i hok
    obtain ⟨hok1, hok2⟩ := hok
    have hall : ∀ x ∈ s.sc, x ≤ infR := fun x hx => by simpa using List.all_eq_true.1 hok1 x hx
    have hcI := hall c (List.mem_iff_getElem?.2 ⟨v, hc⟩)
    obtain ⟨hadd, hrI⟩ := add_flS hcI hok2
    obtain ⟨r, hr⟩ : ∃ r, flS.add c s.sp = r := ⟨_, rfl⟩
    rw [hr] at hs hadd hrI
    obtain ⟨gs, cap, e9, hi, hcap, hmax, hcell, hfr, hog, hgs⟩ := R.num (t := .sc) (fl_get hc)
    have lsc : (cellsOf s h.val .sc).length = s.sc.length := by simp [cellsOf]
    rw [lsc] at e9 hi hcap
    obtain ⟨n, hn⟩ : ∃ n, s.sc.length = n := ⟨_, rfl⟩
    rw [hn] at e9 hi hcap
    have h9 := R.cell 9
    change w.cell? ⟨sb, 9, none⟩ = some (h.val .sc) at h9
    rw [e9] at h9
    have h10 := R.cell 10
    change w.cell? ⟨sb, 10, none⟩ = some (.float .f64 s.sp) at h10
    have hrun : ∀ W : World, (binOp .add 45 (.float .f64 c) (.float .f64 s.sp)).run Try.prog W = .ok (.float .f64 r) W := fun W => run_float_arith W .add 45 .f64 c s.sp r hadd
    have hsb := sol_ne R hog
    have hi2 : (v : Int) < (n : Int) := by omega
    obtain ⟨W1, hW1⟩ : ∃ W1, (w.setCell ⟨gs, v, none⟩ (.float .f64 r)).drew = W1 := ⟨_, rfl⟩
    obtain ⟨R1, T1⟩ := R.setSc (i := v) (x := r) e9
    have HR1 : Aside0 (Rep W1 B sb { s with sc := s.sc.set v r } h ∧ Turn w W1 (fun g => g = sb ∨ h.own g = .row .sc)) := ⟨by
      rw [← hW1]
      refine ⟨(R1.drew 1).1, (T1.trans (Turn.drew _ 1 (fun _ => False))).mono (fun g _ e => ?_)⟩
      rcases e with e | e
      · subst e; exact .inr hog
      · exact e.elim⟩
    have HOG := Aside0.mk hog
    have HS := Aside0.mk (And.intro hs (And.intro e9 (And.intro hn (And.intro hc (And.intro hall (And.intro hrI hok2))))))
    clear R hs hc hok1 hok2 hall hcI hadd hr lsc hn R1 T1 e9 hog hrI
    obtain ⟨sp, hsp⟩ : ∃ sp, s.sp = sp := ⟨_, rfl⟩
    rw [hsp] at h10 hrun
    clear hsp
    obtain ⟨q, hq⟩ : ∃ q, (FloatKind.f64.format.order r 6103021453049119613 == some Ordering.gt) = q := ⟨_, rfl⟩
    have HQ : Aside0 (flS.gt r 6103021453049119613 = q) := ⟨hq⟩
    obtain ⟨s1, hs1⟩ : ∃ s1, { s with sc := s.sc.set v r } = s1 := ⟨_, rfl⟩
    have hs1sc : Aside0 (s1.sc = s.sc.set v r) := ⟨by rw [← hs1]⟩
    have hs1sp : Aside0 (s1.sp = s.sp) := ⟨by rw [← hs1]⟩
    rw [hs1] at HR1
    have h9' := HR1.out.1.cell 9
    change W1.cell? ⟨sb, 9, none⟩ = some (h.val .sc) at h9'
    rw [HS.out.2.1] at h9'
    have hlen1 : s1.sc.length = n := by rw [hs1sc.out, List.length_set]; exact HS.out.2.2.1
    have hget1 : s1.sc[v]? = some r := by
      rw [hs1sc.out, List.getElem?_set_self (by rw [HS.out.2.2.1]; exact hi)]
    have hall1 : ∀ x ∈ s1.sc, x ≤ infR := by
      intro x hx
      rw [hs1sc.out] at hx
      rcases List.mem_or_eq_of_mem_set hx with hx | hx
      · exact HS.out.2.2.2.2.1 x hx
      · rw [hx]; exact HS.out.2.2.2.2.2.1
    have hxc : W1.cell? ⟨gs, v, none⟩ = some (.float .f64 r) := by
      exact (HR1.out.1.at (t := .sc) HS.out.2.1 (fl_get hget1)).1
    have HL := Aside0.mk (And.intro hlen1 (And.intro hget1 hall1))
    have HN := Aside0.mk hs1
    have HSP : Aside0 (s1.sp ≤ infR) := ⟨by rw [hs1sp.out]; exact HS.out.2.2.2.2.2.2⟩
    clear hs1 hlen1 hget1 hall1
    go_enter Try.func55, Try.ntmps55
    go_wp2
    go_region
    clear hW1
    clear hcell h9 h10 hrun hfr
    cases q with
    | false =>
      go_wp2
      go_end0
      have hs := HS.out.1
      rw [if_neg (by rw [HQ.out]; exact Bool.false_ne_true), HN.out] at hs
      cases hs
      exact ⟨rfl, HR1.out.1, HR1.out.2⟩
    | true =>
      go_wp2
      clear hxc hq
      obtain ⟨f, hf⟩ : ∃ f, n + 1 = f := ⟨_, rfl⟩
      have hn62 : (n : Int) ≤ 9223372036854775807 := by omega
      clear h9'
      go_loopg [4, 31] f (fun gg s4 s31 wr => ∃ i : Nat, i ≤ n ∧ n - i < gg ∧ s31 = .int .i64 (i : Int) ∧ Aside0 (Rep wr B sb { s1 with sc := scI s1.sc i } h ∧ Turn w wr (fun g => g = sb ∨ h.own g = .row .sc)))
      case atStart =>
        refine ⟨0, by omega, by omega, rfl, ⟨?_⟩⟩
        rw [scI_zero]
        exact HR1.out
      case round =>
        obtain ⟨i, hi1, hi3, rfl, HH⟩ := hrel
        clear HR1
        have h9 := HH.out.1.cell 9
        change wr.cell? ⟨sb, 9, none⟩ = some (h.val .sc) at h9
        rw [HS.out.2.1] at h9
        by_cases hlt : i < n
        · have hlt2 : decide ((i : Int) < (n : Int)) = true := by simpa using hlt
          have hlt3 : (i : Int) < (n : Int) := by omega
          obtain ⟨x, hx⟩ : ∃ x, s1.sc[i]? = some x := ⟨s1.sc[i]'(by rw [HL.out.1]; exact hlt), List.getElem?_eq_getElem _⟩
          have hxI := HL.out.2.2 x (List.mem_iff_getElem?.2 ⟨i, hx⟩)
          obtain ⟨hmul, -⟩ := mul_small hxI
          obtain ⟨y, hy⟩ : ∃ y, flS.mul x 3110860544497550640 = y := ⟨_, rfl⟩
          rw [hy] at hmul
          obtain ⟨hcell, hfr⟩ := HH.out.1.at (t := .sc) HS.out.2.1 (fl_get (scI_get hx))
          obtain ⟨R2, T2⟩ := HH.out.1.setSc (i := i) (x := y) HS.out.2.1
          have HR2 : Aside0 (Rep (wr.setCell ⟨gs, i, none⟩ (.float .f64 y)) B sb { s1 with sc := scI s1.sc (i + 1) } h ∧ Turn w (wr.setCell ⟨gs, i, none⟩ (.float .f64 y)) (fun g => g = sb ∨ h.own g = .row .sc)) := ⟨by
            refine ⟨?_, (HH.out.2.trans T2).mono (fun g _ e => ?_)⟩
            · rw [← hy] at R2 ⊢
              rw [← scI_step hx]
              exact R2
            · rcases e with e | e
              · exact e
              · subst e
                exact .inr HOG.out⟩
          have hrunm : ∀ W : World, (binOp .mul 45 (.float .f64 x) (.float .f64 3110860544497550640)).run Try.prog W = .ok (.float .f64 y) W := fun W => run_float_arith W .mul 45 .f64 x 3110860544497550640 y hmul
          clear HH hx hxI hmul hy R2 T2
          go_wp2
          go_roundg (n - i)
          case measure => omega
          case rel => exact ⟨i + 1, by omega, by omega, by go_num, HR2⟩
        · have hin : i = n := by omega
          subst hin
          have hlt2 : decide ((i : Int) < (i : Int)) = false := by simp
          have h10 := HH.out.1.cell 10
          change wr.cell? ⟨sb, 10, none⟩ = some (.float .f64 s1.sp) at h10
          have hf10 := HH.out.1.frozen 10
          obtain ⟨hmul, -⟩ := mul_small HSP.out
          obtain ⟨sp1, hsp1⟩ : ∃ sp1, s1.sp = sp1 := ⟨_, rfl⟩
          obtain ⟨y, hy⟩ : ∃ y, flS.mul s1.sp 3110860544497550640 = y := ⟨_, rfl⟩
          rw [hy] at hmul
          rw [hsp1] at hmul h10
          have hrunm : ∀ W : World, (binOp .mul 45 (.float .f64 sp1) (.float .f64 3110860544497550640)).run Try.prog W = .ok (.float .f64 y) W := fun W => run_float_arith W .mul 45 .f64 sp1 3110860544497550640 y hmul
          obtain ⟨R2, S2⟩ := HH.out.1.setNum (k := 10) (u := .float .f64 y) (s' := { s1 with sc := scI s1.sc i, sp := y }) rfl (fun t => by cases t <;> rfl) ⟨rfl, rfl, rfl⟩
          have hs := HS.out.1
          rw [if_pos HQ.out] at hs
          have hfin : s' = { s1 with sc := scI s1.sc i, sp := y } := by
            cases hs
            rw [← hy, hs1sp.out]
            have e1 := scI_all s1.sc
            rw [HL.out.1, hs1sc.out] at e1
            rw [← HN.out]
            exact (congrArg (fun l => ({ s with sc := l, sp := flS.mul s.sp 3110860544497550640 } : St)) e1).symm
          have hT : Turn w (wr.setCell ⟨sb, 10, none⟩ (.float .f64 y)) (fun g => g = sb ∨ h.own g = .row .sc) := (HH.out.2.trans (Turn.set wr sb 10 _)).mono (fun g hg e => by
            rcases e with e | e
            · exact e
            · exact .inl e)
          have HF := Aside0.mk (And.intro hfin (And.intro R2 hT))
          clear hfin R2 hT hs hy hmul S2 hsp1
          go_wp2
          go_end0
          rw [HF.out.1]
          exact ⟨rfl, HF.out.2⟩
  · cases hs
end Go.Proofs.Ytbagcbiekpopbaa

namespace Go.Proofs.Ytbagcbiekpopbaa
open Go.RowKit Go.Proofs.YtbagcbiekpopbaaW.PrintWords Go.Proofs.YtbagcbiekpopbaaW.PrintLast
set_option linter.unusedVariables false
set_option linter.unusedSimpArgs false

theorem below_drewQ {B : Nat} {a w : World} (h : Below B a w) (n : Nat) : Below B a (w.drewN n) := ⟨h.os, h.tape, h.output, h.size, h.block⟩
theorem pick_step {F : Fl} {s : St} {f v best r : Nat} (h : s.pick F (f + 1) v best = some r) : ∃ a c b, s.va[v]? = some a ∧ s.sc[v]? = some c ∧ s.sc[best]? = some b ∧
    ((a = 0 ∧ (best = 0 ∨ F.gt c b = true) ∧ s.pick F f (v + 1) v = some r) ∨ (¬ (a = 0 ∧ (best = 0 ∨ F.gt c b = true)) ∧ s.pick F f (v + 1) best = some r)) := by
  unfold St.pick at h
  simp only [Option.bind_eq_bind, Option.bind_eq_some_iff] at h
  obtain ⟨a, ha, c, hc, b, hb, h⟩ := h
  refine ⟨a, c, b, ha, hc, hb, ?_⟩
  split at h
  · rename_i hg
    exact .inl ⟨hg.1, hg.2, h⟩
  · rename_i hg
    exact .inr ⟨hg, h⟩

set_option maxHeartbeats 8000000 in
set_option maxRecDepth 100000 in
theorem choose_any (w : World) (B sb : Nat) (s : St) (h : Hp) (r : Nat) (R : Rep w B sb s h) (hs : s.choose flS = some r) :
    Calls Try.prog 22 #[.pointer (some ⟨sb, 0, none⟩)] w (fun e w' => e = .returned (.int .i64 (r : Int)) ∧ Below w.heap.size w w') := by
  unfold St.choose at hs
  obtain ⟨n, hn⟩ : ∃ n, s.n = n := ⟨_, rfl⟩
  have hn40 := R.small.1
  rw [hn] at hs hn40
  unfold bigN at hn40
  have HR0 := Aside0.mk (And.intro R (And.intro hs hn))
  clear R hs hn
  go_enter Try.func22, Try.ntmps22
  go_wp2
  go_loopg [3, 4] n (fun gg s3 s4 wr => ∃ v best : Nat, v + gg = n + 1 ∧ s3 = .int .i64 (best : Int) ∧ s4 = .int .i64 (v : Int) ∧ Aside0 (Below w.heap.size w wr ∧ s.pick flS gg v best = some r))
  case atStart => exact ⟨1, 0, by omega, rfl, rfl, ⟨Below.refl _ _, HR0.out.2.1⟩⟩
  case round =>
    obtain ⟨v, best, hv, rfl, rfl, HH⟩ := hrel
    have HRw := Aside0.mk (HR0.out.1.below HH.out.1)
    have h0 := HRw.out.cell 0
    change wr.cell? ⟨sb, 0, none⟩ = some (.int .i64 (s.n : Int)) at h0
    rw [HR0.out.2.2] at h0
    match gk, hv, HH with
    | 0, hv, HH =>
      have hlt : decide ((v : Int) ≤ (n : Int)) = false := by simp; omega
      have hfin := HH.out
      obtain ⟨hbl, hp⟩ := hfin
      unfold St.pick at hp
      have hbr : best = r := by injection hp
      subst hbr
      have HB := Aside0.mk hbl
      clear hbl hp
      go_wp2
      go_ret
      exact ⟨rfl, HB.out⟩
    | g' + 1, hv, HH =>
      have hlt : decide ((v : Int) ≤ (n : Int)) = true := by simp; omega
      obtain ⟨a, c, b, ha, hc, hb, hcase⟩ := pick_step HH.out.2
      have HC := Aside0.mk hcase
      obtain ⟨g3, cap3, e3, hi3, hcap3, hmax3, hcell3, -, -, -⟩ := HRw.out.num (t := .va) (nums_get ha)
      have h3 := HRw.out.cell 3
      change wr.cell? ⟨sb, 3, none⟩ = some (h.val .va) at h3
      rw [e3] at h3
      obtain ⟨g9, cap9, e9, hi9, hcap9, hmax9, hcell9, -, -, -⟩ := HRw.out.num (t := .sc) (fl_get hc)
      have h9 := HRw.out.cell 9
      change wr.cell? ⟨sb, 9, none⟩ = some (h.val .sc) at h9
      rw [e9] at h9
      have hcellb := (HRw.out.at (t := .sc) e9 (fl_get hb)).1
      have hib : best < (cellsOf s h.val .sc).length := (List.getElem?_eq_some_iff.1 (fl_get hb)).1
      obtain ⟨l3, hl3⟩ : ∃ l3, (cellsOf s h.val .va).length = l3 := ⟨_, rfl⟩
      obtain ⟨l9, hl9⟩ : ∃ l9, (cellsOf s h.val .sc).length = l9 := ⟨_, rfl⟩
      rw [hl3] at h3 hi3 hcap3
      rw [hl9] at h9 hi9 hcap9 hib
      have hi3' : (v : Int) < (l3 : Int) := by omega
      have hi9' : (v : Int) < (l9 : Int) := by omega
      have hib' : (best : Int) < (l9 : Int) := by omega
      clear hcase e3 e9 hl3 hl9 ha hc hb
      go_wp2
      by_cases h1 : a = 0
      · subst h1
        by_cases h2 : best = 0
        · subst h2
          go_quiet (fail)
          have HN : Aside0 (Below w.heap.size w (wr.drewN nq) ∧ s.pick flS g' (v + 1) v = some r) := ⟨by
            refine ⟨below_drewQ HH.out.1 _, ?_⟩
            rcases HC.out with ⟨_, _, e⟩ | ⟨e, _⟩
            · exact e
            · exact absurd ⟨rfl, .inl rfl⟩ e⟩
          go_wp2
          go_roundg g'
          case measure => omega
          case rel => exact ⟨v + 1, v, by omega, by go_num, by go_num, HN⟩
        · have h2' : ((best : Int) == 0) = false := by simpa using h2
          obtain ⟨q, hq⟩ : ∃ q, (FloatKind.f64.format.order c b == some Ordering.gt) = q := ⟨_, rfl⟩
          have HQ : Aside0 (flS.gt c b = q) := ⟨hq⟩
          cases q
          · go_quiet (fail)
            have HN : Aside0 (Below w.heap.size w (wr.drewN nq) ∧ s.pick flS g' (v + 1) best = some r) := ⟨by
              refine ⟨below_drewQ HH.out.1 _, ?_⟩
              rcases HC.out with ⟨e1, e2, _⟩ | ⟨_, e⟩
              · exact absurd (And.intro e1 e2) (fun e => by rcases e.2 with e | e; exact h2 e; rw [HQ.out] at e; cases e)
              · exact e⟩
            go_wp2
            go_roundg g'
            case measure => omega
            case rel => exact ⟨v + 1, best, by omega, by go_num, by go_num, HN⟩
          · go_quiet (fail)
            have HN : Aside0 (Below w.heap.size w (wr.drewN nq) ∧ s.pick flS g' (v + 1) v = some r) := ⟨by
              refine ⟨below_drewQ HH.out.1 _, ?_⟩
              rcases HC.out with ⟨_, _, e⟩ | ⟨e, _⟩
              · exact e
              · exact absurd ⟨rfl, .inr HQ.out⟩ e⟩
            go_wp2
            go_roundg g'
            case measure => omega
            case rel => exact ⟨v + 1, v, by omega, by go_num, by go_num, HN⟩
      · have h1' : (a == 0) = false := by simpa using h1
        go_quiet (fail)
        have HN : Aside0 (Below w.heap.size w (wr.drewN nq) ∧ s.pick flS g' (v + 1) best = some r) := ⟨by
          refine ⟨below_drewQ HH.out.1 _, ?_⟩
          rcases HC.out with ⟨e1, e2, _⟩ | ⟨_, e⟩
          · exact absurd (And.intro e1 e2) (fun e => h1 e.1)
          · exact e⟩
        go_wp2
        go_roundg g'
        case measure => omega
        case rel => exact ⟨v + 1, best, by omega, by go_num, by go_num, HN⟩

/-! ### values -/
theorem infoB : (Try.prog.info? 4).map (fun i => (i.zero, i.size, i.bytes)) = some (some (.bool false), 1, 1) := by kernel_rfl
def valsI (s : St) (k : Nat) : List Bool := (List.range k).map fun i => decide (0 < s.va.getD (i + 1) 0)
theorem valsI_len (s : St) (k : Nat) : (valsI s k).length = k := by simp [valsI]
theorem valsI_step (s : St) (k : Nat) {a : Int} (h : s.va[k + 1]? = some a) : valsI s (k + 1) = valsI s k ++ [decide (0 < a)] := by
  unfold valsI
  rw [List.range_succ, List.map_append]
  simp only [List.map_cons, List.map_nil, List.getD_eq_getElem?_getD, h, Option.getD_some]
theorem valsI_all (s : St) : valsI s s.n = s.vals := rfl

set_option maxHeartbeats 8000000 in
set_option maxRecDepth 100000 in
theorem values_any (w : World) (B sb : Nat) (s : St) (h : Hp) (R : Rep w B sb s h) (hs : s.n < s.va.length) :
    Calls Try.prog 23 #[.pointer (some ⟨sb, 0, none⟩)] w (fun e w' => (∃ v1, e = .returned v1 ∧ w'.ownsRow w.heap.size 4 1 v1 s.n (encs Value.bool s.vals)) ∧ Below w.heap.size w w') := by
  obtain ⟨n, hn⟩ : ∃ n, s.n = n := ⟨_, rfl⟩
  have hn40 := R.small.1
  rw [hn] at hs hn40
  unfold bigN at hn40
  have HR0 := Aside0.mk (And.intro R (And.intro hs hn))
  rw [hn]
  clear R hs hn
  go_enter Try.func23, Try.ntmps23
  go_wp2
  go_loopg [3, 4] n (fun gg s3 s4 wr => ∃ v : Nat, v + gg = n ∧ s4 = .int .i64 ((v + 1 : Nat) : Int) ∧ Aside0 (Below w.heap.size w wr ∧ wr.ownsRow w.heap.size 4 1 s3 (valsI s v).length (encs Value.bool (valsI s v))))
  case atStart => exact ⟨0, by omega, rfl, ⟨Below.refl _ _, own_nil _ _ _ _⟩⟩
  case round =>
    obtain ⟨v, hv, rfl, HH⟩ := hrel
    have HRw := Aside0.mk (HR0.out.1.below HH.out.1)
    have h0 := HRw.out.cell 0
    change wr.cell? ⟨sb, 0, none⟩ = some (.int .i64 (s.n : Int)) at h0
    rw [HR0.out.2.2] at h0
    match gk, hv, HH with
    | 0, hv, HH =>
      have hlt : decide (((v + 1 : Nat) : Int) ≤ (n : Int)) = false := by simp; omega
      have hlt2 : decide (v + 1 ≤ n) = false := by simp; omega
      have hvn : v = n := by omega
      subst hvn
      have HF : Aside0 (wr.ownsRow w.heap.size 4 1 u3 v (encs Value.bool s.vals)) := ⟨by
        have h1 := HH.out.2
        rw [valsI_len] at h1
        have h2 := valsI_all s
        rw [HR0.out.2.2] at h2
        rw [h2] at h1
        exact h1⟩
      go_wp2
      go_ret
      exact ⟨⟨_, rfl, HF.out⟩, HH.out.1⟩
    | g' + 1, hv, HH =>
      have hlt : decide (((v + 1 : Nat) : Int) ≤ (n : Int)) = true := by simp; omega
      have hlt2 : decide (v + 1 ≤ n) = true := by simp; omega
      obtain ⟨a, ha⟩ : ∃ a, s.va[v + 1]? = some a := ⟨s.va[v + 1]'(by have := HR0.out.2.1; omega), List.getElem?_eq_getElem _⟩
      obtain ⟨g3, cap3, e3, hi3, hcap3, hmax3, hcell3, -, -, -⟩ := HRw.out.num (t := .va) (nums_get ha)
      have h3 := HRw.out.cell 3
      change wr.cell? ⟨sb, 3, none⟩ = some (h.val .va) at h3
      rw [e3] at h3
      obtain ⟨l3, hl3⟩ : ∃ l3, (cellsOf s h.val .va).length = l3 := ⟨_, rfl⟩
      rw [hl3] at h3 hi3 hcap3
      have hi3' : ((v + 1 : Nat) : Int) < (l3 : Int) := by omega
      have HA := Aside0.mk ha
      have hbel : Below w.heap.size w wr := HH.out.1
      have HBel := Aside0.mk hbel
      clear e3 hl3 ha hbel
      go_wp2_with (at_builtin; refine print_append_of Value.bool (w0 := w) w.heap.size rfl (.tmp 13) (.tmp 22) 26 4 (.bool false) 1 rfl Try.underlying26 infoB rfl (by decide) u3 (valsI s v) (decide (0 < a)) rfl rfl rfl ?aO ?aB ?aS ?aL ?_)
      case aO => exact HH.out.2
      case aB => exact HBel.out
      case aS => exact HBel.out.size
      case aL => rw [valsI_len]; omega
      intro v2 w5 hown hb hg1 hat1
      rw [← valsI_step s v HA.out] at hown
      have HN := Aside0.mk (And.intro hb (show w5.ownsRow w.heap.size 4 1 v2 (valsI s (v + 1)).length (encs Value.bool (valsI s (v + 1))) from by
        rw [valsI_len]; simp only [valsI_len] at hown; exact hown))
      clear hown hb hg1 hat1
      go_wp2
      go_roundg g'
      case measure => omega
      case rel => exact ⟨v + 1, by omega, by go_num, HN⟩
end Go.Proofs.Ytbagcbiekpopbaa

namespace Go.Proofs.Ytbagcbiekpopbaa
open Go.RowKit Go.Proofs.YtbagcbiekpopbaaW.PrintWords Go.Proofs.YtbagcbiekpopbaaW.PrintLast
set_option linter.unusedVariables false
set_option linter.unusedSimpArgs false

theorem ownsRow_cut {w : World} {B : Nat} {e : TypeId} {A : Option Addr} {n c k : Nat} {xs : List Value} (h : w.ownsRow B e 1 (.slice A n c) n xs) (hk : k ≤ n) : w.ownsRow B e 1 (.slice A k c) k (xs.take k) := by
  refine ⟨by rw [List.length_take, h.1]; omega, ?_⟩
  rcases h.2 with ⟨e1, e2⟩ | ⟨g, cap, cur, e1, h4, h5, h6, h7, h8, h9⟩
  · injection e1 with e1 e3 e4
    have : k = 0 := by omega
    exact .inl ⟨by rw [e1, e4, this], this⟩
  · injection e1 with e1 e3 e4
    refine .inr ⟨g, cap, cur, by rw [e1, e4], h4, h5, by omega, h7, h8, ?_⟩
    rw [← h9, List.take_take]
    congr 1
    omega
/-- A row whose header lies in the solver's field f is cut to k. -/
theorem Rep.cut {w : World} {B sb : Nat} {s s' : St} {h : Hp} (R : Rep w B sb s h) {t : Rw} {A : Option Addr} {n c k f : Nat} (ht : h.val t = .slice A n c) (hk : k ≤ n) (hnc : ∀ i, t ≠ .c i) (hnp : ∀ i, t ≠ .p i) (hw : ∀ x, t ≠ .w x)
    (hc : cellsOf s' h.val t = (cellsOf s h.val t).take k) (ho : ∀ t', t' ≠ t → cellsOf s' h.val t' = cellsOf s h.val t') (hself : cellsOf s' (h.put t (.slice A k c)).val t = cellsOf s' h.val t)
    (hsol : solOf s' (h.put t (.slice A k c)) = (solOf s h).setIfInBounds f (.slice A k c)) (hn : s'.n = s.n ∧ s'.va.length = s.va.length ∧ s'.le.length = s.le.length) :
    Rep (w.setCell ⟨sb, f, none⟩ (.slice A k c)) B sb s' (h.put t (.slice A k c)) ∧ Stp w (w.setCell ⟨sb, f, none⟩ (.slice A k c)) h (h.put t (.slice A k c)) := by
  have hT := Turn.set w sb f (.slice A k c)
  have hlen : (cellsOf s h.val t).length = n := by
    obtain ⟨A', c', e1, _⟩ := (R.row t).form
    rw [ht] at e1
    injection e1 with _ e2 _
    exact e2.symm
  have hrow := (R.row t).row
  rw [ht, hlen] at hrow
  have hob : ∀ g, (Value.slice A k c).ownBlock = some g → (h.val t).ownBlock = some g := fun g e => by
    rw [ht]; cases A <;> exact e
  have hor : ∀ g, (Value.slice A k c).ownBlock = some g → h.own g = .row t := fun g e => (R.row t).own g (hob g e)
  refine ⟨R.put hT (fun g hg' e => ?_) (fun g e => ?_) ?_ (fun t' ht' => ?_) ?_ hw hn, Stp.put R hT (fun g hg' e => ?_) (fun g hg' e => ?_)⟩
  · rw [e]; exact .inr (.inl R.osol)
  · have h1 := (R.row t).row.lt g (hob g e)
    refine ⟨Nat.lt_of_lt_of_le h1.2 hT.size, h1.1, .inr (hor g e)⟩
  · rw [hself, hc]
    have h2 : ((cellsOf s h.val t).take k).length = k := by rw [List.length_take, hlen]; omega
    rw [h2]
    exact ownsRow_turn (ownsRow_cut hrow hk) hT (fun g e e2 => by have := hor g e; rw [e2, R.osol] at this; cases this)
  · rw [cells_put hnc hnp]
    exact ho t' ht'
  · rw [hsol]; exact setSol R.sol
  · rw [e, R.osol]; exact fun e => by cases e
  · rw [hor g e]; exact fun e => by cases e

theorem clear_step {x : Int} {xs va va' : List Int} (h : St.clear (x :: xs) va = some va') : x.natAbs < va.length ∧ St.clear xs (va.set x.natAbs 0) = some va' := by
  unfold St.clear at h
  split at h
  · rename_i hl
    exact ⟨hl, h⟩
  · cases h
theorem clear_len {xs : List Int} : ∀ {va va' : List Int}, St.clear xs va = some va' → va'.length = va.length := by
  induction xs with
  | nil => intro va va' h; cases h; rfl
  | cons x xs ih =>
    intro va va' h
    obtain ⟨_, h⟩ := clear_step h
    rw [ih h, List.length_set]

theorem slice_from {A : Option Addr} {n c fr : Nat} (hf : fr ≤ n) (hc : n ≤ c) : ∃ A26 c26, (∀ W : World, (Instr.sliceAt 37 (.slice A n c) (some (.int .i64 (fr : Int))) none none).run Try.prog W = .ok (.slice A26 (n - fr) c26) W) ∧
    n - fr ≤ c26 ∧ (0 < n - fr → ∀ g, A = some ⟨g, 0, none⟩ → A26 = some ⟨g, fr, none⟩) := by
  by_cases e : c = fr
  · refine ⟨A, c - fr, fun W => ?_, by omega, fun h => by omega⟩
    go_simp
  · refine ⟨A.map (fun x => x.add fr), c - fr, fun W => ?_, by omega, fun h g e2 => ?_⟩
    · go_simp
    · rw [e2]; show some (Addr.add ⟨g, 0, none⟩ fr) = _; rw [add_plain]
def UndoOut (w : World) (B sb : Nat) (h : Hp) (s' : St) (e : Ending) (w' : World) : Prop :=
  e = .returned (.tuple #[]) ∧ ∃ h', Rep w' B sb s' h' ∧ Stp w w' h h'

set_option maxHeartbeats 8000000 in
set_option maxRecDepth 100000 in
theorem undo_none (lv : Nat) (w : World) (B sb : Nat) (s : St) (h : Hp) (R : Rep w B sb s h) (hs : s.ma[lv]? = none) (hlv : lv < bigN) :
    Calls Try.prog 40 #[.pointer (some ⟨sb, 0, none⟩), .int .i64 (lv : Int)] w (UndoOut w B sb h s) := by
  obtain ⟨A7, c7, e7, hc71, hc72, -⟩ := (R.row .ma).form
  have l7 : (cellsOf s h.val .ma).length = s.ma.length := nats_length _
  have h7 := R.cell 7
  change w.cell? ⟨sb, 7, none⟩ = some (h.val .ma) at h7
  rw [e7, l7] at h7
  have hle : s.ma.length ≤ lv := List.getElem?_eq_none_iff.1 hs
  obtain ⟨n7, hn7⟩ : ∃ n7, s.ma.length = n7 := ⟨_, rfl⟩
  rw [hn7] at h7 hle
  have hd : decide ((n7 : Int) ≤ (lv : Int)) = true := by simp; omega
  have hd2 : decide (n7 ≤ lv) = true := by simp; omega
  have HR0 := Aside0.mk R
  clear R hs e7 l7 hn7 hc71 hc72
  unfold bigN at hlv
  go_enter Try.func40, Try.ntmps40
  go_wp2
  refine bodyPost_ret (results_none rfl _ _ _) rfl ?_
  exact ⟨rfl, h, HR0.out, Stp.refl _ _⟩

set_option maxHeartbeats 8000000 in
set_option maxRecDepth 100000 in
theorem undo_some (lv fr : Nat) (w : World) (B sb : Nat) (s : St) (va : List Int) (h : Hp) (R : Rep w B sb s h) (hs : s.ma[lv]? = some fr) (hfr : fr ≤ s.tr.length) (hcl : St.clear (s.tr.drop fr) s.va = some va) :
    Calls Try.prog 40 #[.pointer (some ⟨sb, 0, none⟩), .int .i64 (lv : Int)] w (UndoOut w B sb h { s with va := va, tr := s.tr.take fr, ma := s.ma.take lv, dn := fr }) := by
  obtain ⟨g7, c7, e7, hi7, hc7, hm7, hcell7, -, hog7, -⟩ := R.num (t := .ma) (nats_get hs)
  have l7 : (cellsOf s h.val .ma).length = s.ma.length := nats_length _
  have h7 := R.cell 7
  change w.cell? ⟨sb, 7, none⟩ = some (h.val .ma) at h7
  obtain ⟨n7, hn7⟩ : ∃ n7, s.ma.length = n7 := ⟨_, rfl⟩
  rw [l7, hn7] at e7 hi7 hc7
  rw [e7] at h7
  have hd : decide ((n7 : Int) ≤ (lv : Int)) = false := by simp; omega
  have hd2 : decide (n7 ≤ lv) = false := by simp; omega
  have hi7' : (lv : Int) < (n7 : Int) := by omega
  obtain ⟨A6, c6, e6, hc61, hc62, hA6⟩ := (R.row .tr).form
  have l6 : (cellsOf s h.val .tr).length = s.tr.length := nums_length _ _
  have h6 := R.cell 6
  change w.cell? ⟨sb, 6, none⟩ = some (h.val .tr) at h6
  obtain ⟨n6, hn6⟩ : ∃ n6, s.tr.length = n6 := ⟨_, rfl⟩
  rw [l6, hn6] at e6 hc61 hA6
  rw [e6] at h6
  unfold maxLen at hc62
  rw [hn6] at hfr
  have R6 : Aside0 (s.va.length ≤ bigN) := ⟨R.small.2.1⟩
  have HR0 := Aside0.mk (And.intro R (And.intro hcl (And.intro hs (And.intro e6 (And.intro e7 (And.intro hn6 hn7))))))
  clear R hcl hs e6 e7 hn6 hn7 l6 l7 hog7
  obtain ⟨m, hm⟩ : ∃ m, n6 - fr = m := ⟨_, rfl⟩
  have hsm := R6.out
  obtain ⟨A26, c26, hsl, hA26⟩ := slice_from (A := A6) (n := n6) (c := c6) (fr := fr) hfr hc61
  rw [hm] at hsl hA26
  have HA := Aside0.mk (And.intro hA26 hA6)
  have hm2 : (m : Int) ≤ 9223372036854775807 := by omega
  clear hA26 hA6
  go_enter Try.func40, Try.ntmps40
  go_wp2
  go_loopg [6, 28] m (fun gg s6 s28 wr => ∃ i : Nat, i + gg = m ∧ s28 = .int .i64 (i : Int) ∧ Aside0 (∃ va1, Rep wr B sb { s with va := va1 } h ∧ Stp w wr h h ∧ va1.length = s.va.length ∧ St.clear (s.tr.drop (fr + i)) va1 = some va))
  case atStart => exact ⟨0, by omega, rfl, ⟨s.va, HR0.out.1, Stp.refl _ _, rfl, HR0.out.2.1⟩⟩
  case round =>
    obtain ⟨i, hi, rfl, HH⟩ := hrel
    match gk, hi with
    | 0, hi =>
      have hd3 : decide ((i : Int) < (m : Int)) = false := by simp; omega
      have hd4 : decide (i < m) = false := by simp; omega
      obtain ⟨va1, hR1, hS1, hl1, hc1⟩ := HH.out
      have hva : va1 = va := by
        rw [List.drop_of_length_le (by rw [HR0.out.2.2.2.2.2.1]; omega)] at hc1
        injection hc1
      subst hva
      have c6' := hR1.cell 6
      change wr.cell? ⟨sb, 6, none⟩ = some (h.val .tr) at c6'
      rw [HR0.out.2.2.2.1] at c6'
      have c7' := hR1.cell 7
      change wr.cell? ⟨sb, 7, none⟩ = some (h.val .ma) at c7'
      rw [HR0.out.2.2.2.2.1] at c7'
      have c8' := hR1.cell 8
      change wr.cell? ⟨sb, 8, none⟩ = some (.int .i64 (s.dn : Int)) at c8'
      have f6' := hR1.frozen 6
      have f7' := hR1.frozen 7
      have f8' := hR1.frozen 8
      obtain ⟨W, hW⟩ : ∃ W, (((wr.setCell ⟨sb, 6, none⟩ (.slice A6 fr c6)).setCell ⟨sb, 7, none⟩ (.slice (some ⟨g7, 0, none⟩) lv c7)).setCell ⟨sb, 8, none⟩ (.int .i64 (fr : Int))).drew = W := ⟨_, rfl⟩
      have HF : Aside0 (∃ h', Rep W B sb { s with va := va1, tr := s.tr.take fr, ma := s.ma.take lv, dn := fr } h' ∧ Stp w W h h') := ⟨by
        obtain ⟨R2, S2⟩ := hR1.cut (t := .tr) (f := 6) (k := fr) (s' := { s with va := va1, tr := s.tr.take fr }) HR0.out.2.2.2.1 hfr (fun i e => by cases e) (fun i e => by cases e) (fun i e => by cases e)
          (by show nums .i64 (s.tr.take fr) = (nums .i64 s.tr).take fr; unfold nums; rw [List.map_take]) (fun t' h' => by cases t' <;> first | rfl | exact absurd rfl h') (by rw [cells_put (fun i e => by cases e) (fun i e => by cases e)]) (by simp [solOf, Hp.put, upd]) ⟨rfl, rfl, rfl⟩
        obtain ⟨R3, S3⟩ := R2.cut (t := .ma) (f := 7) (k := lv) (n := n7) (c := c7) (A := some ⟨g7, 0, none⟩) (s' := { s with va := va1, tr := s.tr.take fr, ma := s.ma.take lv }) (by rw [Hp.put_val, if_neg (fun e => by cases e)]; exact HR0.out.2.2.2.2.1) (by omega) (fun i e => by cases e) (fun i e => by cases e) (fun i e => by cases e)
          (by show nats (s.ma.take lv) = (nats s.ma).take lv; unfold nats; rw [List.map_take]) (fun t' h' => by cases t' <;> first | rfl | exact absurd rfl h') (by rw [cells_put (fun i e => by cases e) (fun i e => by cases e)]) (by simp [solOf, Hp.put, upd]) ⟨rfl, rfl, rfl⟩
        obtain ⟨R4, S4⟩ := R3.setNum (k := 8) (u := .int .i64 (fr : Int)) (s' := { s with va := va1, tr := s.tr.take fr, ma := s.ma.take lv, dn := fr }) rfl (fun t => by cases t <;> rfl) ⟨rfl, rfl, rfl⟩
        rw [← hW]
        exact ⟨_, (R4.drew 1).1, hS1.trans (S2.trans (S3.trans (S4.trans (R4.drew 1).2)))⟩⟩
      clear hR1 hS1 hl1 hc1 HH
      go_wp2
      go_region
      go_end0
      exact ⟨rfl, HF.out⟩
    | g' + 1, hi =>
      have hd3 : decide ((i : Int) < (m : Int)) = true := by simp; omega
      have hd4 : decide (i < m) = true := by simp; omega
      have hlt3 : (i : Int) < (m : Int) := by omega
      have hlt4 : i < m := by omega
      obtain ⟨g6, hg6⟩ := HA.out.2 (by omega)
      have hA26 := HA.out.1.2 (by omega) g6 hg6
      have hm26 := HA.out.1.1
      obtain ⟨va1, hR1, hS1, hl1, hc1⟩ := HH.out
      obtain ⟨x, hx⟩ : ∃ x, s.tr[fr + i]? = some x := ⟨s.tr[fr + i]'(by rw [HR0.out.2.2.2.2.2.1]; omega), List.getElem?_eq_getElem _⟩
      have hdrop : s.tr.drop (fr + i) = x :: s.tr.drop (fr + (i + 1)) := by
        obtain ⟨q1, q2⟩ := List.getElem?_eq_some_iff.1 hx
        rw [List.drop_eq_getElem_cons q1, q2]
        rfl
      rw [hdrop] at hc1
      obtain ⟨hxl, hc1⟩ := clear_step hc1
      have hcx := (hR1.at (t := .tr) (HR0.out.2.2.2.1.trans (by rw [hg6])) (nums_get hx)).1
      have hxb : x.natAbs < bigN := by omega
      have hV := svar_any x hxb
      obtain ⟨k, hk⟩ : ∃ k, x.natAbs = k := ⟨_, rfl⟩
      rw [hk] at hxl hc1 hV hxb
      obtain ⟨y, hy⟩ : ∃ y, va1[k]? = some y := ⟨va1[k]'hxl, List.getElem?_eq_getElem _⟩
      obtain ⟨g3, cap3, e3, hi3, hcap3, hmax3, hcell3, hfr3, -, -⟩ := hR1.num (t := .va) (nums_get hy)
      have h3 := hR1.cell 3
      change wr.cell? ⟨sb, 3, none⟩ = some (h.val .va) at h3
      rw [e3] at h3
      obtain ⟨l3, hl3⟩ : ∃ l3, (cellsOf { s with va := va1 } h.val .va).length = l3 := ⟨_, rfl⟩
      rw [hl3] at h3 hi3 hcap3
      have hi3' : (k : Int) < (l3 : Int) := by omega
      obtain ⟨W, hW⟩ : ∃ W, (wr.setCell ⟨g3, k, none⟩ (.int .i64 0)).drew = W := ⟨_, rfl⟩
      obtain ⟨R2, T2⟩ := hR1.setRow (t := .va) (i := k) (u := .int .i64 0) (s' := { s with va := va1.set k 0 }) e3 (nums_set _ _ _) (fun t' h' => by cases t' <;> first | rfl | exact absurd rfl h') rfl ⟨rfl, by simp, rfl⟩
      have HN : Aside0 (∃ va1, Rep W B sb { s with va := va1 } h ∧ Stp w W h h ∧ va1.length = s.va.length ∧ St.clear (s.tr.drop (fr + (i + 1))) va1 = some va) := ⟨by
        rw [← hW]
        refine ⟨va1.set k 0, (R2.drew 1).1, ?_, by rw [List.length_set, hl1], hc1⟩
        refine hS1.trans (Stp.trans ⟨T2.mono (fun g _ e => ?_), fun _ _ e => e⟩ (R2.drew 1).2)
        rw [e, (hR1.row .va).own g3 (by rw [e3]; rfl)]
        exact fun e => by cases e⟩
      subst hg6 hA26
      clear hR1 hS1 hl1 hc1 hdrop hx hy hl3 e3 R2 T2 hk HH
      unfold bigN at hxb
      go_wp2
      go_region_law (go_simp; go_at_call 41; refine (hV _).mono ?_; rintro e w' ⟨rfl, rfl⟩)
      all_goals (
        clear h3 hcell3 hfr3 hW
        go_wp2
        go_roundg g'
        case measure => omega
        case rel => exact ⟨i + 1, by omega, by go_num, HN⟩)

theorem undo_any (lv : Nat) (hlv : lv < bigN) (w : World) (B sb : Nat) (s s' : St) (h : Hp) (R : Rep w B sb s h) (hs : s.undo lv = some s') :
    Calls Try.prog 40 #[.pointer (some ⟨sb, 0, none⟩), .int .i64 (lv : Int)] w (UndoOut w B sb h s') := by
  unfold St.undo at hs
  cases hm : s.ma[lv]? with
  | none =>
    rw [hm] at hs
    obtain rfl := Option.some.inj hs
    exact undo_none lv w B sb s h R hm hlv
  | some fr =>
    rw [hm] at hs
    simp only at hs
    split at hs
    · rename_i hf
      simp only [Option.bind_eq_bind, Option.bind_eq_some_iff] at hs
      obtain ⟨va, hva, hs⟩ := hs
      obtain rfl := Option.some.inj hs
      exact undo_some lv fr w B sb s va h R hm hf hva
    · cases hs
end Go.Proofs.Ytbagcbiekpopbaa

namespace Go.Proofs.Ytbagcbiekpopbaa
open Go.RowKit Go.Proofs.YtbagcbiekpopbaaW.PrintWords Go.Proofs.YtbagcbiekpopbaaW.PrintLast
set_option linter.unusedVariables false
set_option linter.unusedSimpArgs false

/-- The fence of a round of the loop l. -/
abbrev rnd (l : Nat) : Fence := Fence.wide.inRound l
theorem rnd_calls {l n : Nat} {P : Program} {f : FuncId} {args : Array Value} {w : World} {R : Ending → World → Prop} (h : Calls P f args w R) : CallsIn (rnd l) n P f args w R := CallsIn.inRound l (callsIn_wide.2 h)
def noDefer (ops : Array Oper) : Bool := ops.all fun o => match o.op with | .defer _ => false | _ => true
theorem noDefer_at {ops : Array Oper} (h : noDefer ops = true) {i : Nat} {o : Oper} (ho : ops[i]? = some o) : ∀ c, o.op ≠ .defer c := by
  intro c e
  have h1 := Array.all_eq_true'.1 h o (Array.mem_of_getElem? ho)
  rw [e] at h1
  cases h1

theorem oper_round {l n : Nat} {P : Program} {o : Oper} {a : Act} {w : World} {K K' : Act → World → Prop} {Q : Exit → Act → World → Prop} (hd : ∀ c, o.op ≠ .defer c) (hQ : ¬ LetsOut Q) (hK : ∀ a w, K a w → K' a w) (h : o.wp P a w K Q) : o.wpIn (rnd l) n P a w K' Q := by
  refine ⟨fun f _ => trivial, ?_⟩
  rw [show (rnd l).round = some l from rfl, Oper.semAt_some l _ _ hd]
  unfold Oper.wp at h
  generalize (execOp a.eval o).run P w = r at h
  cases r with
  | ok x w' =>
    cases x <;> simp only [Oper.upon, Oper.uponIn] at h ⊢ <;>
      first
        | exact hK _ _ h
        | exact h.elim
        | exact ⟨fun e => (by cases e), (rnd_calls h).mono (fun e w'' he => by cases e <;> first | exact hK _ _ he | exact he)⟩
        | exact ⟨fun e => (by cases e), fun c cs hroom => by
            obtain ⟨v, w1, h1, h2⟩ := h c cs
            exact ⟨v, w1, hK _ _ h1, stepsIn_wide.2 h2⟩⟩
  | halt x w' => cases x <;> simp only [Oper.upon, Oper.uponIn] at h ⊢ <;> first | exact h | exact h.elim

theorem op_round {l n : Nat} {P : Program} {ops : Array Oper} {i : Nat} {a : Act} {w : World} {K K' : Act → World → Prop} {Q : Exit → Act → World → Prop} (hd : noDefer ops = true) (hQ : ¬ LetsOut Q) (hK : ∀ a w, K a w → K' a w) (h : wpOp P ops Q i K a w) : wpOpIn (rnd l) n P ops Q i K' a w := by
  unfold wpOp at h
  unfold wpOpIn
  split
  · rename_i ho; simp only [ho] at h; exact hK _ _ h
  · rename_i o ho
    simp only [ho] at h
    split
    · rename_i hw
      simp only [hw, if_true] at h
      rcases h with h | h
      · exact oper_round (noDefer_at hd ho) hQ hK h
      · exact absurd h.2 hQ
    · rename_i hw
      simp only [hw] at h
      exact ⟨fun f _ => trivial, hK _ _ h⟩
theorem any_round {l n : Nat} {P : Program} {md : Region.Mode} {ops : Array Oper} {Q : Exit → Act → World → Prop} (hd : noDefer ops = true) (hQ : ¬ LetsOut Q) : ∀ (fuel : Nat) (listed : Array Bool) (a : Act) (w : World), wpAny P md ops Q fuel listed a w → wpAnyIn (rnd l) n P md ops Q fuel listed a w
  | 0, _, _, _, h => h
  | fuel + 1, listed, a, w, h => ⟨h.1, fun i hi => op_round hd hQ (fun a' w' h' => any_round hd hQ fuel _ a' w' h') (h.2 i hi)⟩

/-- A region whose operations only read. -/
theorem region_quiet_round {l n id : Nat} {P : Program} {Q : Exit → Act → World → Prop} {a : Act} {w : World} {L : List Oper} (hm : P.follows .mixedOrders = true) (hB : Region.lexB .any L.toArray = true) (hd : noDefer L.toArray = true) (hQ : ¬ LetsOut Q)
    (h : wpQuiet P L.toArray (fun w' => ∃ n, w' = w.drewN n) (fun a' => ∀ w', (∃ n, w' = w.drewN n) → Q .normal a' w') L a) : (Code.region id L.toArray true).wpIn (rnd l) n P Q a w := by
  refine wpIn_region_any hm (any_round hd hQ _ _ _ _ ?_)
  simp only [Region.lexB, Bool.and_eq_true] at hB
  refine wpAny_of_quiet (C := fun w' => ∃ n, w' = w.drewN n) (Q := fun a' => ∀ w', (∃ n, w' = w.drewN n) → Q .normal a' w') (fun _ w' hw' h => h w' hw') _ _ _ _ ⟨1, rfl⟩ ?_
  have := wpAnyQ_lex (P := P) (C := fun w' => ∃ n, w' = w.drewN n) (md := .any) hB.1 L 0 (Array.replicate L.toArray.size false) a (by simp) (by simpa using hB.2) h
  simpa using this

/-- A region whose operations read, all but the last n. -/
theorem region_tail_round {l m id : Nat} {P : Program} {Q : Exit → Act → World → Prop} {a : Act} {w : World} {L : List Oper} (n : Nat) (hm : P.follows .mixedOrders = true) (hB : Region.lexTailB .any L.toArray n = true) (hd : noDefer L.toArray = true) (hQ : ¬ LetsOut Q)
    (h : wpStill P L.toArray w.drew (fun a' => wpList P L.toArray Q (L.drop n) a' w.drew) (L.take n) a) : (Code.region id L.toArray true).wpIn (rnd l) m P Q a w := by
  refine wpIn_region_any hm (any_round hd hQ _ _ _ _ ?_)
  simp only [Region.lexTailB, Bool.and_eq_true, decide_eq_true_eq] at hB
  obtain ⟨⟨⟨⟨hsel, hn⟩, hs⟩, hc⟩, hlex⟩ := hB
  have htl : (L.take n).length = n := by simp at hn ⊢; omega
  have hdl : (L.drop n).length = L.toArray.size - n := by simp
  have H := wpAnyL_lex (md := .any) (g := L.toArray.size - n) hsel hs hc hn (L.take n) 0 (Array.replicate L.toArray.size false) a (fun j hj => by
    rw [htl] at hj
    simp [hj]) (by rw [htl]; omega)
    ⟨by simp, fun j oj _ hl => (by rw [getD_replicate_false] at hl; cases hl), fun t _ ht => getD_in (by simpa using ht) (getD_replicate_false _ _)⟩ (by rw [htl]; exact hlex) h
  have H2 := wpAny_of_head (Q' := Q) (g := L.toArray.size - n) (fun listed a' hL => by
    have h3 := wpAny_of_seq (md := .any) (Q' := Q) (L.drop n) n listed a' w.drew (fun j => by simp [List.getElem?_drop]) (by rw [hdl]; exact hL.1) hL.2
    rwa [hdl] at h3) _ _ _ H
  rw [htl, show n + (L.toArray.size - n) = L.toArray.size by omega] at H2
  exact H2
end Go.Proofs.Ytbagcbiekpopbaa

namespace Go.Proofs.Ytbagcbiekpopbaa
open Go.RowKit Go.Shelf Go.Proofs.YtbagcbiekpopbaaW.PrintWords Go.Proofs.YtbagcbiekpopbaaW.PrintLast
set_option linter.unusedVariables false
set_option linter.unusedSimpArgs false

/-- Blocks that a loop over a function turns by itself: made since it began, no cells. -/
def Bk (B : Nat) (W : World) (k : Nat) : Prop := B ≤ k ∧ ∃ o : Obj, W.heap[k]? = some o ∧ o.isCells = false
theorem Turn.putObj {B l : Nat} {W : World} {o : Obj} (o' : Obj) (hB : B ≤ l) (hl : W.heap[l]? = some o) (ho : o.isCells = false) : Turn W (W.putObj l o') (Bk B W) :=
  ⟨rfl, rfl, rfl, by simp, fun k _ hk => World.putObj_heap_other (fun e => hk (by rw [e]; exact ⟨hB, o, hl, ho⟩))⟩
/-- How a round is left: it goes on, or by a jump. -/
def overPost (B id : Nat) (K0 : Nat → Prop) (I Ix : World → Prop) (W : World) : Exit → Act → World → Prop
  | .normal, _, W' => KeepsFrom B W W' ∧ (∀ k, K0 k → W'.heap[k]? = W.heap[k]?) ∧ I W'
  | .exit i, _, W' => i = id ∧ KeepsFrom B W W' ∧ Ix W'
  | _, _, _ => False

theorem over_rangeFunc {α : Type} {P : Program} {n : Nat} {g : Operand} {ps : Array Tmp} {assign body : Code} {Q : Exit → Act → World → Prop} {a : Act} {w : World} {gf : Nat} {lb : Array Value}
    (hg : a.eval g = .func (.func gf) #[] lb) (eg : ∀ args w, (callFunc gf args).run P w = .ok (.enter gf args) w) {encs : α → Array Value} (hps : ∀ x, (encs x).size = ps.size) (xs : List α) (K0 : Nat → Prop) (hK0 : ∀ k, K0 k → k < w.heap.size)
    (hseq : ∀ (l : Nat) (J : List α → World → Prop) (Jx : World → Prop) (W1 : World), (∀ k, K0 k → W1.heap[k]? = w.heap[k]?) →
      (∀ pre x W, J pre W → pre ++ [x] <+: xs → YieldAt Fence.wide (n - 1 - 1) P l (encs x) W fun e W' => (e = .returned (.bool true) ∧ J (pre ++ [x]) W' ∧ ∀ k, K0 k → W'.heap[k]? = W.heap[k]?) ∨ (e = .returned (.bool false) ∧ Jx W')) →
      J [] W1 → CallsIn Fence.wide (n - 1) P gf (#[.func (.yield l) #[] #[]] ++ lb) W1 fun e W' => (∃ v, e = .returned v) ∧ (J xs W' ∨ Jx W'))
    (id : Nat) (I : List α → World → Prop) (Ix : World → Prop) (hI : ∀ s W W', Turn W W' (Bk w.heap.size W) → I s W → I s W') (hIx : ∀ W W', Turn W W' (Bk w.heap.size W) → Ix W → Ix W') (h0 : I [] w) (a1 : α → Act)
    (hassign : ∀ (l : Nat) (x : α) (W : World) (K : Act → World → Prop), K (a1 x) W → assign.wpIn (rnd l) (n - 1 - 1) P (Exit.then K (fun _ _ _ => False)) { tmps := (ps.zip (encs x)).foldl (fun t (p, v) => t.setIfInBounds p v) a.tmps, defers := [] } W)
    (hbody : ∀ (l : Nat) (pre : List α) (x : α) (W : World), I pre W → pre ++ [x] <+: xs → body.wpIn (rnd l) (n - 1 - 1) P (overPost w.heap.size id K0 (I (pre ++ [x])) Ix W) (a1 x) W)
    (hdone : ∀ (D : Nat) (W : World), w.heap.size ≤ D → I xs W → W.heap[D]? = some (.deferred (some [])) → Q .normal { a with defers := { target := .collected D, args := #[] } :: a.defers } W)
    (hstop : ∀ (D : Nat) (W : World), w.heap.size ≤ D → Ix W → W.heap[D]? = some (.deferred (some [])) → (Code.exit id).wpIn Fence.wide n P Q { a with defers := { target := .collected D, args := #[] } :: a.defers } W) :
    (Code.rangeFunc g ps assign body).wpIn Fence.wide n P Q a w := by
  refine wpIn_rangeFunc (fun fn hfn => ?_)
  obtain ⟨D, hD⟩ : ∃ D, w.heap.size = D := ⟨_, rfl⟩
  obtain ⟨rec, hrec⟩ : ∃ rec : LoopState → Option Code → Loop, rec = fun st pe => { state := st, pending := pe, fn, tmps := a.tmps, params := ps, assign, body, defers := D } := ⟨_, rfl⟩
  have hpar : ∀ s p, (rec s p).params = ps ∧ (rec s p).tmps = a.tmps ∧ (rec s p).fn = fn ∧ (rec s p).assign = assign ∧ (rec s p).body = body ∧ (rec s p).state = s ∧ (rec s p).pending = p := fun s p => by rw [hrec]; exact ⟨rfl, rfl, rfl, rfl, rfl, rfl, rfl⟩
  obtain ⟨W1, hW1⟩ : ∃ W1, (w.alloc (.deferred (some []))).alloc (.loop (rec .ready none)) = W1 := ⟨_, rfl⟩
  have hT1 : Turn w W1 (Bk D w) := by
    rw [← hW1]
    exact ((Turn.alloc w _ (fun _ => False)).trans (Turn.alloc _ _ (fun _ => False))).mono (fun g _ e => e.elim (fun e => e.elim) (fun e => e.elim))
  have hL1 : W1.heap[D + 1]? = some (.loop (rec .ready none)) := by
    rw [← hW1, ← hD]; have := World.alloc_heap_new (w.alloc (.deferred (some []))) (.loop (rec .ready none)); rwa [World.size_alloc] at this
  have hK1 : W1.heap[D]? = some (.deferred (some [])) := by
    rw [← hW1, ← hD]; exact (Below.heap_alloc _ _ _ (by simp)).trans (World.alloc_heap_new w _)
  rw [hD] at hI hIx hbody hdone hstop
  have hbk : ∀ {W : World} {st pe}, W.heap[D + 1]? = some (.loop (rec st pe)) → ∀ o', Turn W (W.putObj (D + 1) o') (Bk D W) := fun h o' => Turn.putObj o' (Nat.le_succ _) h rfl
  refine ⟨D + 1, [{ target := .collected D, args := #[] }], W1, { target := .fn (.func gf) lb, args := #[.func (.yield (D + 1)) #[] #[]] }, W1, gf, #[.func (.yield (D + 1)) #[] #[]] ++ lb, W1, ?_, ?_, fun _ _ => trivial, ?_, fun e => (by cases e), ?_⟩
  · rw [← hW1, hrec, ← hD]; exact run_enterLoop_outer _ _ _ _ _
  · simp only [resolve, hg]
    simp [go_sem]
  · simp [invoke, go_sem, eg]
  · refine (hseq (D + 1) (fun pre W => I pre W ∧ W.heap[D + 1]? = some (.loop (rec .ready none)) ∧ W.heap[D]? = some (.deferred (some [])))
      (fun W => Ix W ∧ W.heap[D + 1]? = some (.loop (rec .done (some (.exit id)))) ∧ W.heap[D]? = some (.deferred (some []))) W1 (fun k hk => ?_) ?_ ⟨hI _ _ _ hT1 h0, hL1, hK1⟩).mono ?_
    · have hk := hK0 k hk
      exact hT1.block k hk (fun e => by have := e.1; omega)
    · -- a round
      rintro pre x W ⟨hi, hl, hk⟩ hpre
      have hy := run_yield (P := P) (args := encs x) hl (by rw [(hpar _ _).1]; exact hps x)
      rw [(hpar _ _).1, (hpar _ _).2.1, (hpar _ _).2.2.1, (hpar _ _).2.2.2.1, (hpar _ _).2.2.2.2.1] at hy
      have hbeg := run_beginRound (P := P) hl (by rw [(hpar _ _).2.2.2.2.2.1])
      have eb : { rec .ready none with state := .busy } = rec .busy none := by rw [hrec]
      rw [eb] at hbeg
      obtain ⟨W2, hW2⟩ : ∃ W2, W.putObj (D + 1) (.loop (rec .busy none)) = W2 := ⟨_, rfl⟩
      have hT2 : Turn W W2 (Bk D W) := by rw [← hW2]; exact hbk hl _
      have hl2 : W2.heap[D + 1]? = some (.loop (rec .busy none)) := by rw [← hW2]; exact World.putObj_heap_same (Array.getElem?_eq_some_iff.1 hl).1
      have hk2 : W2.heap[D]? = some (.deferred (some [])) := by rw [← hW2]; exact (World.putObj_heap_other (by omega)).trans hk
      have hKp2 : ∀ k, K0 k → W2.heap[k]? = W.heap[k]? := fun k hk => by rw [← hW2]; exact World.putObj_heap_other (by have := hK0 k hk; omega)
      rw [hW2] at hbeg
      refine ⟨fn, _, assign, body, hy, roundIn_of_wpIn hfn (hassign _ x W _ ⟨W2, hbeg, wpIn_mono (hbody _ pre x W2 (hI _ _ _ hT2 hi) hpre) ?_⟩)⟩
      rintro e a3 W3 hp
      cases e with
      | normal =>
        obtain ⟨hkf, hkp, hi3⟩ := hp
        have hl3 := hkf.same (D + 1) _ (Nat.le_succ _) hl2 rfl
        have hk3 := hkf.same D _ (Nat.le_refl _) hk2 rfl
        have hend := run_endRound (P := P) none hl3
        have ee : ({ rec .busy none with state := if (none : Option Code).isNone then LoopState.ready else .done, pending := none } : Loop) = rec .ready none := by rw [hrec]; rfl
        rw [ee] at hend
        refine ⟨_, _, hend, .inl ⟨rfl, ⟨hI _ _ _ (hbk hl3 _) hi3, World.putObj_heap_same (Array.getElem?_eq_some_iff.1 hl3).1, (World.putObj_heap_other (by omega)).trans hk3⟩, fun k hk => ?_⟩⟩
        rw [World.putObj_heap_other (by have := hK0 k hk; omega), hkp k hk, hKp2 k hk]
      | exit i =>
        obtain ⟨rfl, hkf, hi3⟩ := hp
        have hl3 := hkf.same (D + 1) _ (Nat.le_succ _) hl2 rfl
        have hk3 := hkf.same D _ (Nat.le_refl _) hk2 rfl
        have hend := run_endRound (P := P) (some (.exit i)) hl3
        have ee : ({ rec .busy none with state := if (some (Code.exit i)).isNone then LoopState.ready else .done, pending := some (.exit i) } : Loop) = rec .done (some (.exit i)) := by rw [hrec]; rfl
        rw [ee] at hend
        exact ⟨_, _, hend, .inr ⟨rfl, hIx _ _ (hbk hl3 _) hi3, World.putObj_heap_same (Array.getElem?_eq_some_iff.1 hl3).1, (World.putObj_heap_other (by omega)).trans hk3⟩⟩
      | ret => exact hp.elim
      | goto t => exact hp.elim
      | panic ch => exact hp.elim
      | outgrown => exact hp.elim
    · -- behind the iterator
      rintro e W2 ⟨⟨v, rfl⟩, (⟨hi, hl, hk⟩ | ⟨hi, hl, hk⟩)⟩
      · have hend := run_endLoop (P := P) hl (by rw [(hpar _ _).2.2.2.2.2.1]; exact fun e => by cases e)
        rw [(hpar _ _).2.2.2.2.2.2] at hend
        exact ⟨none, _, hend, hdone D _ (Nat.le_refl _) (hI _ _ _ (hbk hl _) hi) ((World.putObj_heap_other (by omega)).trans hk)⟩
      · have hend := run_endLoop (P := P) hl (by rw [(hpar _ _).2.2.2.2.2.1]; exact fun e => by cases e)
        rw [(hpar _ _).2.2.2.2.2.2] at hend
        exact ⟨some (.exit id), _, hend, hstop D _ (Nat.le_refl _) (hIx _ _ (hbk hl _) hi) ((World.putObj_heap_other (by omega)).trans hk)⟩
end Go.Proofs.Ytbagcbiekpopbaa

namespace Go.Proofs.Ytbagcbiekpopbaa
open Go.RowKit Go.Shelf Go.Proofs.YtbagcbiekpopbaaW.PrintWords Go.Proofs.YtbagcbiekpopbaaW.PrintLast
set_option linter.unusedVariables false
set_option linter.unusedSimpArgs false
attribute [local go_sem] Oper.semAt_some

/-- The first k, from the last on, each with its place. -/
def bw (tr : List Int) : Nat → List (Nat × Int)
  | 0 => []
  | k + 1 => (k, tr.getD k 0) :: bw tr k
theorem bw_snd (tr : List Int) : ∀ k, k ≤ tr.length → (bw tr k).map (·.2) = (tr.take k).reverse
  | 0, _ => by simp [bw]
  | k + 1, h => by
    unfold bw
    rw [List.map_cons, bw_snd tr k (by omega), List.take_succ_eq_append_getElem (by omega), List.reverse_append]
    simp [List.getD_eq_getElem?_getD, List.getElem?_eq_getElem (show k < tr.length by omega)]

set_option maxHeartbeats 1000000 in
theorem backward_any (v : Value) (w : World) (hv : ∃ A n c, v = .slice A n c) : Calls Try.prog 54 #[v] w fun e w' => e = .returned (.func (.func 60) #[] #[.pointer (some ⟨w.heap.size, 0, none⟩)]) ∧ w' = w.alloc (.cells #[v] 37) := by
  obtain ⟨A, n, c, rfl⟩ := hv
  go_enter Try.func54, Try.ntmps54
  go_wp2
  go_ret
  exact ⟨rfl, rfl⟩

set_option maxHeartbeats 4000000 in
set_option maxRecDepth 100000 in
theorem bwd_seq (m Bx : Nat) (A : Option Addr) (n c : Nat) (tr : List Int) (hn : tr.length = n) (hc : n ≤ c) (hcm : c ≤ 9223372036854775807) (K0 : Nat → Prop) (w : World)
    (hbox : w.heap[Bx]? = some (.cells #[.slice A n c] 37 (0, 0))) (hKb : K0 Bx) (hA : 0 < n → ∃ g, A = some ⟨g, 0, none⟩ ∧ K0 g ∧ ∀ i x, tr[i]? = some x → w.cell? ⟨g, i, none⟩ = some (.int .i64 x)) :
    ∀ (l : Nat) (J : List (Nat × Int) → World → Prop) (Jx : World → Prop) (W1 : World), (∀ k, K0 k → W1.heap[k]? = w.heap[k]?) →
      (∀ pre x W, J pre W → pre ++ [x] <+: bw tr n → YieldAt Fence.wide (m - 1) Try.prog l #[.int .i64 (x.1 : Int), .int .i64 x.2] W fun e W' => (e = .returned (.bool true) ∧ J (pre ++ [x]) W' ∧ ∀ k, K0 k → W'.heap[k]? = W.heap[k]?) ∨ (e = .returned (.bool false) ∧ Jx W')) →
      J [] W1 → CallsIn Fence.wide m Try.prog 60 (#[.func (.yield l) #[] #[]] ++ #[.pointer (some ⟨Bx, 0, none⟩)]) W1 fun e W' => (∃ v, e = .returned v) ∧ (J (bw tr n) W' ∨ Jx W') := by
  intro l J Jx W1 hW1 hY h0
  have HK : Aside0 (∀ W : World, (∀ k, K0 k → W.heap[k]? = w.heap[k]?) → W.cell? ⟨Bx, 0, none⟩ = some (.slice A n c) ∧ (0 < n → ∃ g, A = some ⟨g, 0, none⟩ ∧ ∀ i x, tr[i]? = some x → W.cell? ⟨g, i, none⟩ = some (.int .i64 x))) := ⟨fun W hW => by
    refine ⟨?_, fun hp => ?_⟩
    · have := (hW Bx hKb).trans hbox
      simp [World.cell?, this]
    · obtain ⟨g, e, hg, hi⟩ := hA hp
      exact ⟨g, e, fun i x hx => (World.cell?_of_block (hW g hg)).trans (hi i x hx)⟩⟩
  have HY := Aside0.mk hY
  have HN := Aside0.mk hn
  clear hbox hA hY hn
  refine callsIn_of_wp Try.func60 rfl trivial ?_ rfl
  simp only [Try.ntmps60, List.size_toArray, List.length_cons, List.length_nil, Nat.reduceAdd, Nat.reduceSub, Array.replicate_succ, Array.replicate_zero, List.push_toArray, List.append_toArray, List.nil_append, List.cons_append]
  have hb1 := (HK.out W1 hW1).1
  gi_wp2
  clear hb1
  gi_loopw [3] (fun s3 wr => ∃ (k : Nat) (pre : List (Nat × Int)), k ≤ n ∧ s3 = .int .i64 ((k : Int) - 1) ∧ pre ++ bw tr k = bw tr n ∧ Aside0 (J pre wr ∧ ∀ k, K0 k → wr.heap[k]? = w.heap[k]?)) (fun s3 _ => (intOf s3 + 1).toNat)
  case atStart => exact ⟨n, [], Nat.le_refl _, rfl, rfl, ⟨h0, hW1⟩⟩
  case round =>
    obtain ⟨k, pre, hk, rfl, hpre, HH⟩ := hrel
    clear h0 hW1
    match k, hk, hpre, HH with
    | 0, hk, hpre, HH =>
      rw [show (((0 : Nat) : Int) - 1) = -1 from rfl]
      have HP := Aside0.mk hpre
      clear hpre
      gi_wp2
      go_end0
      have hp := HP.out
      unfold bw at hp
      rw [List.append_nil] at hp
      refine ⟨⟨_, rfl⟩, .inl ?_⟩
      have hj := HH.out.1
      rw [hp] at hj
      cases n <;> exact hj
    | k + 1, hk, hpre, HH =>
      rw [show (((k + 1 : Nat) : Int) - 1) = (k : Int) from by omega]
      obtain ⟨hB, hcl⟩ := HK.out wr HH.out.2
      obtain ⟨g, rfl, hci⟩ := hcl (by omega)
      have hx : tr[k]? = some (tr.getD k 0) := by
        rw [List.getD_eq_getElem?_getD, List.getElem?_eq_getElem (by rw [HN.out]; omega)]; rfl
      have hcx := hci k _ hx
      have hlt : (k : Int) < (n : Int) := by omega
      have hge : decide (0 ≤ (k : Int)) = true := by simp
      obtain ⟨fn, tmps, assign, body, hy, hR⟩ := HY.out pre (k, tr.getD k 0) wr HH.out.1 ⟨bw tr k, by rw [List.append_assoc]; exact hpre⟩
      obtain ⟨x, hxe⟩ : ∃ x, tr.getD k 0 = x := ⟨_, rfl⟩
      dsimp only at hy
      rw [hxe] at hy hcx
      have hsub : wrap64 ((k : Int) - 1) = (k : Int) - 1 := by unfold wrap64; omega
      have HP := Aside0.mk hpre
      have HX := Aside0.mk hxe
      clear hci hx hcl hxe hpre
      gi_wp2
      refine ⟨fun e => (by cases e), hR.mono ?_⟩
      rintro e W3 (⟨rfl, hJ3, hk3⟩ | ⟨rfl, hJx3⟩)
      · have HN2 : Aside0 (J (pre ++ [(k, tr.getD k 0)]) W3 ∧ ∀ k, K0 k → W3.heap[k]? = w.heap[k]?) := ⟨hJ3, fun q hq => (hk3 q hq).trans (HH.out.2 q hq)⟩
        clear hR hJ3 hk3 hB hcx hy
        gi_wp2
        go_roundw
        case rel => exact ⟨k, pre ++ [(k, tr.getD k 0)], by omega, rfl, by rw [List.append_assoc]; exact HP.out, HN2⟩
        case measure => simp [intOf]
      · clear hR hB hcx hy
        gi_wp2
        refine bodyPost_ret (results_none rfl _ _ _) rfl ?_
        exact ⟨⟨_, rfl⟩, .inr hJx3⟩
end Go.Proofs.Ytbagcbiekpopbaa

namespace Go.Proofs.Ytbagcbiekpopbaa
open Go.RowKit Go.Shelf Go.Proofs.YtbagcbiekpopbaaW.PrintWords Go.Proofs.YtbagcbiekpopbaaW.PrintLast
set_option linter.unusedVariables false
set_option linter.unusedSimpArgs false

theorem cell_block {W : World} {b : Nat} {v : Value} {T : TypeId} (h : W.heap[b]? = some (.cells #[v] T (0, 0))) : W.cell? ⟨b, 0, none⟩ = some v ∧ W.frozen? ⟨b, 0, none⟩ = false := by
  constructor
  · simp [World.cell?, h]
  · simp [World.frozen?, h]
structure LM (N B sb : Nat) (h : Hp) (W : World) (a : St.Ln) (why : List Int) (v9 : Value) : Prop where
  rep : Rep W B sb a.s h
  free : ∀ g, N ≤ g → h.own g = .free
  size : N + 8 ≤ W.heap.size
  b2 : W.heap[N]? = some (.cells #[.pointer (some ⟨sb, 0, none⟩)] 42 (0, 0))
  mp : ∃ V, MapR W (N + 1) (.bool false) V ∧ ∀ k : Nat, V (k : Int) = .bool (a.seen k)
  b6 : W.heap[N + 2]? = some (.cells #[.map (some (N + 1))] 79 (0, 0))
  b7 : ∃ g c, W.heap[N + 4]? = some (.cells #[.slice (some ⟨g, 0, none⟩) a.out.length c] 37 (0, 0)) ∧ W.ownsRow N 3 1 (.slice (some ⟨g, 0, none⟩) a.out.length c) a.out.length (nums .i64 a.out) ∧ (g = N + 3 ∨ N + 8 ≤ g)
  b8 : W.heap[N + 5]? = some (.cells #[.int .i64 (a.op : Int)] 3 (0, 0))
  b9 : W.heap[N + 6]? = some (.cells #[v9] 37 (0, 0)) ∧ ((v9 = nilS ∧ why = []) ∨ ∃ k, a.s.cl[k]? = some why ∧ v9 = h.val (.c k))
  bx : W.heap[N + 7]? = some (.cells #[h.val .tr] 37 (0, 0))
  on : 0 < a.out.length
  ob : a.op ≤ bigN

theorem blk_lt {W : World} {k : Nat} {o : Obj} (h : W.heap[k]? = some o) : k < W.heap.size := (Array.getElem?_eq_some_iff.1 h).1
theorem turn_at {W W' : World} {S : Nat → Prop} (T : Turn W W' S) {k : Nat} {o : Obj} (h : W.heap[k]? = some o) (hS : ¬ S k) : W'.heap[k]? = some o := (T.block k (blk_lt h) hS).trans h
theorem rowG_lt {W : World} {N : Nat} {e : TypeId} {g n c : Nat} {xs : List Value} (h : W.ownsRow N e 1 (.slice (some ⟨g, 0, none⟩) n c) n xs) : g < W.heap.size ∧ N ≤ g ∧ ∃ o : Obj, W.heap[g]? = some o ∧ o.isCells = true := by
  rcases h.2 with ⟨e1, _⟩ | ⟨g', cap, cur, e1, h4, h5, h6⟩
  · cases e1
  · injection e1 with e1
    injection e1 with e1
    injection e1 with e1
    subst e1
    exact ⟨blk_lt h5, h4, _, h5, rfl⟩

/-- What is none of its blocks may turn. -/
theorem LM.turn {N B sb : Nat} {h : Hp} {W W' : World} {a : St.Ln} {why : List Int} {v9 : Value} {S : Nat → Prop} (L : LM N B sb h W a why v9) (T : Turn W W' S) (hS : ∀ k, S k → N + 8 ≤ k ∧ ¬ ∃ o : Obj, W.heap[k]? = some o ∧ o.isCells = true) : LM N B sb h W' a why v9 := by
  have lo : ∀ j, j < N + 8 → ¬ S j := fun j hj e => by have := (hS j e).1; omega
  obtain ⟨V, hV, hs⟩ := L.mp
  obtain ⟨g, c, h7, ho, hg⟩ := L.b7
  obtain ⟨h9, hw⟩ := L.b9
  refine ⟨L.rep.turn T (fun g _ e => L.free g (by have := (hS g e).1; omega)), L.free, Nat.le_trans L.size T.size, turn_at T L.b2 (lo _ (by omega)), ⟨V, hV.turn T (lo _ (by omega)), hs⟩, turn_at T L.b6 (lo _ (by omega)),
    ⟨g, c, turn_at T h7 (lo _ (by omega)), ownsRow_turn ho T (fun g' e => ?_), hg⟩, turn_at T L.b8 (lo _ (by omega)), ⟨turn_at T h9 (lo _ (by omega)), hw⟩, turn_at T L.bx (lo _ (by omega)), L.on, L.ob⟩
  injection e with e
  subst e
  exact fun e => (hS _ e).2 (rowG_lt ho).2.2
theorem LM.drewN {N B sb : Nat} {h : Hp} {W : World} {a : St.Ln} {why : List Int} {v9 : Value} (L : LM N B sb h W a why v9) (n : Nat) : LM N B sb h (W.drewN n) a why v9 := L.turn (Turn.drew W n (fun _ => False)) (fun _ e => e.elim)
theorem LM.box {N B sb : Nat} {h : Hp} {W : World} {a : St.Ln} {why : List Int} {v9 : Value} (L : LM N B sb h W a why v9) : sb < N ∧ h.wb < N := by
  constructor
  · rcases Nat.lt_or_ge sb N with h1 | h1
    · exact h1
    · have := L.free _ h1; rw [L.rep.osol] at this; cases this
  · rcases Nat.lt_or_ge h.wb N with h1 | h1
    · exact h1
    · have := L.free _ h1; rw [L.rep.omap] at this; cases this

/-- The number of open ones is told anew. -/
theorem set_block {W : World} {b : Nat} {T : TypeId} {v u : Value} (h : W.heap[b]? = some (.cells #[v] T (0, 0))) : (W.setCell ⟨b, 0, none⟩ u).heap[b]? = some (.cells #[u] T (0, 0)) := by
  have := setSol (u := u) (k := 0) h
  simpa using this
theorem LM.setOp {N B sb : Nat} {h : Hp} {W : World} {a : St.Ln} {why : List Int} {v9 : Value} (L : LM N B sb h W a why v9) (op : Nat) (hop : op ≤ bigN) : LM N B sb h (W.setCell ⟨N + 5, 0, none⟩ (.int .i64 (op : Int))) { a with op := op } why v9 := by
  have T := Turn.set W (N + 5) 0 (.int .i64 (op : Int))
  obtain ⟨V, hV, hs⟩ := L.mp
  obtain ⟨g, c, h7, ho, hg⟩ := L.b7
  obtain ⟨h9, hw⟩ := L.b9
  refine ⟨L.rep.turn T (fun g _ e => L.free g (by omega)), L.free, Nat.le_trans L.size T.size, turn_at T L.b2 (by omega), ⟨V, hV.turn T (by omega), hs⟩, turn_at T L.b6 (by omega),
    ⟨g, c, turn_at T h7 (by omega), ownsRow_turn ho T (fun g' e => ?_), hg⟩, set_block L.b8, ⟨turn_at T h9 (by omega), hw⟩, turn_at T L.bx (by omega), L.on, hop⟩
  injection e with e
  subst e
  exact (show ¬ (g = N + 5) by omega)
theorem LM.setWhy {N B sb : Nat} {h : Hp} {W : World} {a : St.Ln} {why why' : List Int} {v9 : Value} (L : LM N B sb h W a why v9) (u : Value) (hu : (u = nilS ∧ why' = []) ∨ ∃ k, a.s.cl[k]? = some why' ∧ u = h.val (.c k)) : LM N B sb h (W.setCell ⟨N + 6, 0, none⟩ u) a why' u := by
  have T := Turn.set W (N + 6) 0 u
  obtain ⟨V, hV, hs⟩ := L.mp
  obtain ⟨g, c, h7, ho, hg⟩ := L.b7
  obtain ⟨h9, hw⟩ := L.b9
  refine ⟨L.rep.turn T (fun g _ e => L.free g (by omega)), L.free, Nat.le_trans L.size T.size, turn_at T L.b2 (by omega), ⟨V, hV.turn T (by omega), hs⟩, turn_at T L.b6 (by omega),
    ⟨g, c, turn_at T h7 (by omega), ownsRow_turn ho T (fun g' e => ?_), hg⟩, turn_at T L.b8 (by omega), ⟨set_block h9, hu⟩, turn_at T L.bx (by omega), L.on, L.ob⟩
  injection e with e
  subst e
  exact (show ¬ (g = N + 6) by omega)
theorem LM.setSeen {N B sb : Nat} {h : Hp} {W W' : World} {a : St.Ln} {why : List Int} {v9 : Value} {V : Int → Value} {k : Nat} (L : LM N B sb h W a why v9) (hV : ∀ k : Nat, V (k : Int) = .bool (a.seen k)) (hM : MapR W' (N + 1) (.bool false) (upd V (k : Int) (.bool true))) (hg : W.grownBy W' (some (N + 1))) :
    LM N B sb h W' { a with seen := upd a.seen k true } why v9 := by
  have T := Turn.grown hg
  obtain ⟨g, c, h7, ho, hg7⟩ := L.b7
  obtain ⟨h9, hw⟩ := L.b9
  have lo : ∀ j, j ≠ N + 1 → ¬ (some (N + 1) = some j) := fun j hj e => by injection e with e; exact hj e.symm
  refine ⟨L.rep.turn T (fun g _ e => L.free g (by injection e with e; omega)), L.free, Nat.le_trans L.size T.size, turn_at T L.b2 (lo _ (by omega)), ⟨_, hM, fun j => ?_⟩, turn_at T L.b6 (lo _ (by omega)),
    ⟨g, c, turn_at T h7 (lo _ (by omega)), ownsRow_turn ho T (fun g' e => ?_), hg7⟩, turn_at T L.b8 (lo _ (by omega)), ⟨turn_at T h9 (lo _ (by omega)), hw⟩, turn_at T L.bx (lo _ (by omega)), L.on, L.ob⟩
  · show (if (j : Int) = (k : Int) then Value.bool true else V (j : Int)) = .bool (if j = k then true else a.seen j)
    by_cases e : j = k
    · subst e; rw [if_pos rfl, if_pos rfl]
    · rw [if_neg (by omega), if_neg e]; exact hV j
  · injection e with e
    subst e
    exact lo g (by omega)
/-- The first of what is learnt is told. -/
theorem LM.setOut {N B sb : Nat} {h : Hp} {W : World} {a : St.Ln} {why : List Int} {v9 : Value} (L : LM N B sb h W a why v9) {g c i : Nat} (hb : W.heap[N + 4]? = some (.cells #[.slice (some ⟨g, 0, none⟩) a.out.length c] 37 (0, 0))) (x : Int) :
    LM N B sb h (W.setCell ⟨g, i, none⟩ (.int .i64 x)) { a with out := a.out.set i x } why v9 := by
  have T := Turn.set W g i (.int .i64 x)
  obtain ⟨V, hV, hs⟩ := L.mp
  obtain ⟨g', c', h7, ho, hg⟩ := L.b7
  rw [hb] at h7
  injection h7 with h7
  injection h7 with h7
  have h8 : Value.slice (some ⟨g, 0, none⟩) a.out.length c = Value.slice (some ⟨g', 0, none⟩) a.out.length c' := by simpa using h7
  injection h8 with e1 e2 e3
  injection e1 with e1
  injection e1 with e1
  subst e1 e3
  obtain ⟨h9, hw⟩ := L.b9
  have hgN := (rowG_lt ho).2.1
  refine ⟨L.rep.turn T (fun k _ e => L.free k (by omega)), L.free, Nat.le_trans L.size T.size, turn_at T L.b2 (by omega), ⟨V, hV.turn T (by omega), hs⟩, turn_at T L.b6 (by omega),
    ⟨g, c, ?_, ?_, hg⟩, turn_at T L.b8 (by omega), ⟨turn_at T h9 (by omega), hw⟩, turn_at T L.bx (by omega), by simpa using L.on, L.ob⟩
  · show (W.setCell ⟨g, i, none⟩ (.int .i64 x)).heap[N + 4]? = some (.cells #[.slice (some ⟨g, 0, none⟩) (a.out.set i x).length c] 37 (0, 0))
    rw [List.length_set]
    exact turn_at T hb (by omega)
  · show (W.setCell ⟨g, i, none⟩ (.int .i64 x)).ownsRow N 3 1 (.slice (some ⟨g, 0, none⟩) (a.out.set i x).length c) (a.out.set i x).length (nums .i64 (a.out.set i x))
    rw [List.length_set, nums_set]
    exact ownsRow_set ho
/-- One more is learnt. -/
theorem LM.addOut {N B sb : Nat} {h : Hp} {W W1 : World} {a : St.Ln} {why : List Int} {v9 : Value} (L : LM N B sb h W a why v9) {g c g' c' : Nat} {x : Int} (hb : W.heap[N + 4]? = some (.cells #[.slice (some ⟨g, 0, none⟩) a.out.length c] 37 (0, 0))) (hg : W.grownBy W1 (some g))
    (hown : W1.ownsRow N 3 1 (.slice (some ⟨g', 0, none⟩) (a.out.length + 1) c') (a.out.length + 1) (nums .i64 (a.out ++ [x]))) (hat : g' = g ∨ W.heap.size ≤ g') :
    LM N B sb h (W1.setCell ⟨N + 4, 0, none⟩ (.slice (some ⟨g', 0, none⟩) (a.out.length + 1) c')) { a with out := a.out ++ [x] } why v9 := by
  have T := (Turn.grown hg).trans (Turn.set W1 (N + 4) 0 (.slice (some ⟨g', 0, none⟩) (a.out.length + 1) c'))
  obtain ⟨V, hV, hs⟩ := L.mp
  obtain ⟨g2, c2, h7, ho, hg7⟩ := L.b7
  rw [hb] at h7
  injection h7 with h7
  injection h7 with h7
  have h8 : Value.slice (some ⟨g, 0, none⟩) a.out.length c = Value.slice (some ⟨g2, 0, none⟩) a.out.length c2 := by simpa using h7
  injection h8 with e1 e2 e3
  injection e1 with e1
  injection e1 with e1
  subst e1 e3
  obtain ⟨h9, hw⟩ := L.b9
  have hgN := (rowG_lt ho).2.1
  have lo : ∀ j, j ≠ g → j ≠ N + 4 → ¬ (some g = some j ∨ j = N + 4) := fun j h1 h2 e => by
    rcases e with e | e
    · injection e with e; exact h1 e.symm
    · exact h2 e
  have hsz := L.size
  refine ⟨L.rep.turn T (fun k _ e => L.free k ?_), L.free, Nat.le_trans L.size T.size, turn_at T L.b2 (lo _ (by omega) (by omega)), ⟨V, hV.turn T (lo _ (by omega) (by omega)), hs⟩, turn_at T L.b6 (lo _ (by omega) (by omega)),
    ⟨g', c', ?_, ?_, ?_⟩, turn_at T L.b8 (lo _ (by omega) (by omega)), ⟨turn_at T h9 (lo _ (by omega) (by omega)), hw⟩, turn_at T L.bx (lo _ (by omega) (by omega)), by simp, L.ob⟩
  · rcases e with e | e
    · injection e with e; omega
    · omega
  · show (W1.setCell ⟨N + 4, 0, none⟩ (.slice (some ⟨g', 0, none⟩) (a.out.length + 1) c')).heap[N + 4]? = some (.cells #[.slice (some ⟨g', 0, none⟩) (a.out ++ [x]).length c'] 37 (0, 0))
    rw [List.length_append]
    exact set_block (turn_at (Turn.grown hg) hb (fun e => by injection e with e; omega))
  · show (W1.setCell ⟨N + 4, 0, none⟩ _).ownsRow N 3 1 (.slice (some ⟨g', 0, none⟩) (a.out ++ [x]).length c') (a.out ++ [x]).length (nums .i64 (a.out ++ [x]))
    rw [List.length_append]
    refine ownsRow_turn hown (Turn.set W1 (N + 4) 0 _) (fun k e => ?_)
    injection e with e
    subst e
    exact (show ¬ (g' = N + 4) by omega)
  · omega
/-- A variable counts more. -/
theorem LM.bump {N B sb : Nat} {h : Hp} {W W' : World} {a : St.Ln} {why : List Int} {v9 : Value} (L : LM N B sb h W a why v9) {s1 : St} (R : Rep W' B sb s1 h) (T : Turn W W' (fun g => g = sb ∨ h.own g = .row .sc)) (hcl : s1.cl = a.s.cl) : LM N B sb h W' { a with s := s1 } why v9 := by
  have lo : ∀ j, N ≤ j → ¬ (j = sb ∨ h.own j = .row .sc) := fun j hj e => by
    rcases e with e | e
    · have := L.box.1; omega
    · rw [L.free j hj] at e; cases e
  obtain ⟨V, hV, hs⟩ := L.mp
  obtain ⟨g, c, h7, ho, hg⟩ := L.b7
  obtain ⟨h9, hw⟩ := L.b9
  refine ⟨R, L.free, Nat.le_trans L.size T.size, turn_at T L.b2 (lo _ (by omega)), ⟨V, hV.turn T (lo _ (by omega)), hs⟩, turn_at T L.b6 (lo _ (by omega)),
    ⟨g, c, turn_at T h7 (lo _ (by omega)), ownsRow_turn ho T (fun g' e => ?_), hg⟩, turn_at T L.b8 (lo _ (by omega)), ⟨turn_at T h9 (lo _ (by omega)), ?_⟩, turn_at T L.bx (lo _ (by omega)), L.on, L.ob⟩
  · injection e with e
    subst e
    exact lo _ (rowG_lt ho).2.1
  · show (v9 = nilS ∧ why = []) ∨ ∃ k, s1.cl[k]? = some why ∧ v9 = h.val (.c k)
    rw [hcl]
    exact hw
/-- The clause at hand. -/
theorem LM.why {N B sb : Nat} {h : Hp} {W : World} {a : St.Ln} {why : List Int} {v9 : Value} (L : LM N B sb h W a why v9) : ∃ A c, v9 = .slice A why.length c ∧ why.length ≤ c ∧ c ≤ 9223372036854775807 := by
  rcases L.b9.2 with ⟨rfl, rfl⟩ | ⟨k, hk, rfl⟩
  · exact ⟨none, 0, rfl, Nat.le_refl _, by omega⟩
  · obtain ⟨A, c, e, h1, h2, _⟩ := (L.rep.row (.c k)).form
    have el : (cellsOf a.s h.val (.c k)).length = why.length := by
      show (nums .i64 (a.s.cl.getD k [])).length = _
      rw [nums_length, List.getD_eq_getElem?_getD, hk]; rfl
    rw [el] at e h1
    exact ⟨A, c, e, h1, by unfold maxLen at h2; omega⟩
theorem LM.whyAt {N B sb : Nat} {h : Hp} {W : World} {a : St.Ln} {why : List Int} {A : Option Addr} {n c : Nat} (L : LM N B sb h W a why (.slice A n c)) {i : Nat} {y : Int} (hy : why[i]? = some y) : ∃ g, A = some ⟨g, 0, none⟩ ∧ W.cell? ⟨g, i, none⟩ = some (.int .i64 y) := by
  rcases L.b9.2 with ⟨_, rfl⟩ | ⟨k, hk, e⟩
  · simp at hy
  · have hc : (cellsOf a.s h.val (.c k))[i]? = some (.int .i64 y) := by
      show (nums .i64 (a.s.cl.getD k []))[i]? = _
      rw [List.getD_eq_getElem?_getD, hk]
      exact nums_get hy
    obtain ⟨g, cap, e2, _, _, _, hcell, _⟩ := L.rep.num (t := .c k) hc
    rw [← e] at e2
    injection e2 with e3 _ _
    exact ⟨g, e3, hcell⟩
theorem bump_cl {F : Fl} {s s1 : St} {v : Nat} (h : s.bump F v = some s1) : s1.cl = s.cl ∧ s1.ma = s.ma ∧ s1.le = s.le := by
  unfold St.bump at h
  simp only [Option.bind_eq_bind, Option.bind_eq_some_iff] at h
  obtain ⟨c, hc, h⟩ := h
  split at h
  · split at h <;> (cases h; exact ⟨rfl, rfl, rfl⟩)
  · cases h
end Go.Proofs.Ytbagcbiekpopbaa

namespace Go.Proofs.Ytbagcbiekpopbaa
open Go.RowKit Go.Shelf Go.Proofs.YtbagcbiekpopbaaW.PrintWords Go.Proofs.YtbagcbiekpopbaaW.PrintLast
set_option linter.unusedVariables false
set_option linter.unusedSimpArgs false

structure LC (w0 : World) (N sb : Nat) (h : Hp) (A6 : Option Addr) : Prop where
  hN : w0.heap.size = N
  lo : sb < N
  free : ∀ g, N ≤ g → h.own g = .free
  tr : ∀ q, A6 = some ⟨q, 0, none⟩ → q < N ∧ q ≠ sb ∧ h.own q ≠ .row .sc
structure LK (w0 W0 : World) (N sb : Nat) (h : Hp) (A6 : Option Addr) (W : World) : Prop where
  tw : Turn w0 W (fun g => g = sb ∨ h.own g = .row .sc)
  kf : KeepsFrom (N + 8) W0 W
  k0 : ∀ q, (q = N + 7 ∨ A6 = some ⟨q, 0, none⟩) → W.heap[q]? = W0.heap[q]?
theorem LK.refl {w0 W0 : World} {N sb : Nat} {h : Hp} {A6 : Option Addr} (tw : Turn w0 W0 (fun g => g = sb ∨ h.own g = .row .sc)) : LK w0 W0 N sb h A6 W0 := ⟨tw, KeepsFrom.refl _ _, fun _ _ => rfl⟩
theorem LK.step {w0 W0 W W' : World} {N sb : Nat} {h : Hp} {A6 : Option Addr} {S : Nat → Prop} (C : LC w0 N sb h A6) (K : LK w0 W0 N sb h A6 W) (hz : N + 8 ≤ W.heap.size) (T : Turn W W' S)
    (hS : ∀ k, S k → (k = sb ∨ h.own k = .row .sc) ∨ (N ≤ k ∧ k ≠ N + 7 ∧ (N + 8 ≤ k → ∃ o : Obj, W.heap[k]? = some o ∧ o.isCells = true))) : LK w0 W0 N sb h A6 W' := by
  refine ⟨(K.tw.trans T).mono (fun k hk e => ?_), ?_, fun q hq => ?_⟩
  · rcases e with e | e
    · exact e
    · rcases hS k e with e | e
      · exact e
      · have := C.hN; omega
  · refine K.kf.trans ⟨T.size, fun k o hB hk ho => turn_at T hk (fun e => ?_)⟩
    rcases hS k e with (e | e) | e
    · have := C.lo; omega
    · rw [C.free k (by omega)] at e; cases e
    · obtain ⟨o', h1, h2⟩ := e.2.2 hB
      rw [hk] at h1
      obtain rfl := Option.some.inj h1
      rw [ho] at h2; cases h2
  · have hql : q < W.heap.size := by
      rcases hq with e | e
      · omega
      · have := (C.tr q e).1; omega
    refine (T.block q hql (fun e => ?_)).trans (K.k0 q hq)
    rcases hq with hq | hq
    · rcases hS q e with (e | e) | e
      · have := C.lo; omega
      · rw [C.free q (by omega)] at e; cases e
      · exact e.2.1 hq
    · obtain ⟨c1, c2, c3⟩ := C.tr q hq
      rcases hS q e with (e | e) | e
      · exact c2 e
      · exact c3 e
      · omega

structure LS (w0 W0 : World) (N B sb : Nat) (h : Hp) (A6 : Option Addr) (W : World) (a : St.Ln) (why : List Int) (v9 : Value) : Prop where
  c : LC w0 N sb h A6
  m : LM N B sb h W a why v9
  k : LK w0 W0 N sb h A6 W

section
variable {w0 W0 : World} {N B sb : Nat} {h : Hp} {A6 : Option Addr} {W : World} {a : St.Ln} {why : List Int} {v9 : Value}
theorem LS.bump (L : LS w0 W0 N B sb h A6 W a why v9) {W' : World} {s1 : St} (R : Rep W' B sb s1 h) (T : Turn W W' (fun g => g = sb ∨ h.own g = .row .sc)) (hcl : s1.cl = a.s.cl) : LS w0 W0 N B sb h A6 W' { a with s := s1 } why v9 :=
  ⟨L.c, L.m.bump R T hcl, L.k.step L.c L.m.size T (fun k e => .inl e)⟩
theorem LS.setOp (L : LS w0 W0 N B sb h A6 W a why v9) (op : Nat) (hop : op ≤ bigN) : LS w0 W0 N B sb h A6 (W.setCell ⟨N + 5, 0, none⟩ (.int .i64 (op : Int))) { a with op := op } why v9 :=
  ⟨L.c, L.m.setOp op hop, L.k.step L.c L.m.size (Turn.set W (N + 5) 0 _) (fun k e => .inr (by omega))⟩
theorem LS.setWhy (L : LS w0 W0 N B sb h A6 W a why v9) (u : Value) {why' : List Int} (hu : (u = nilS ∧ why' = []) ∨ ∃ k, a.s.cl[k]? = some why' ∧ u = h.val (.c k)) : LS w0 W0 N B sb h A6 (W.setCell ⟨N + 6, 0, none⟩ u) a why' u :=
  ⟨L.c, L.m.setWhy u hu, L.k.step L.c L.m.size (Turn.set W (N + 6) 0 _) (fun k e => .inr (by omega))⟩
theorem LS.setSeen (L : LS w0 W0 N B sb h A6 W a why v9) {W' : World} {V : Int → Value} {k : Nat} (hV : ∀ k : Nat, V (k : Int) = .bool (a.seen k)) (hM : MapR W' (N + 1) (.bool false) (upd V (k : Int) (.bool true))) (hg : W.grownBy W' (some (N + 1))) : LS w0 W0 N B sb h A6 W' { a with seen := upd a.seen k true } why v9 :=
  ⟨L.c, L.m.setSeen hV hM hg, L.k.step L.c L.m.size (Turn.grown hg) (fun k e => .inr (by injection e with e; omega))⟩
theorem LS.setOut (L : LS w0 W0 N B sb h A6 W a why v9) {g c i : Nat} (hb : W.heap[N + 4]? = some (.cells #[.slice (some ⟨g, 0, none⟩) a.out.length c] 37 (0, 0))) (ho : W.ownsRow N 3 1 (.slice (some ⟨g, 0, none⟩) a.out.length c) a.out.length (nums .i64 a.out)) (hg : g = N + 3 ∨ N + 8 ≤ g) (x : Int) :
    LS w0 W0 N B sb h A6 (W.setCell ⟨g, i, none⟩ (.int .i64 x)) { a with out := a.out.set i x } why v9 :=
  ⟨L.c, L.m.setOut hb x, L.k.step L.c L.m.size (Turn.set W g i _) (fun k e => .inr ⟨by omega, by omega, fun _ => by rw [e]; exact (rowG_lt ho).2.2⟩)⟩
theorem LS.addOut (L : LS w0 W0 N B sb h A6 W a why v9) {W1 : World} {g c g' c' : Nat} {x : Int} (hb : W.heap[N + 4]? = some (.cells #[.slice (some ⟨g, 0, none⟩) a.out.length c] 37 (0, 0))) (ho : W.ownsRow N 3 1 (.slice (some ⟨g, 0, none⟩) a.out.length c) a.out.length (nums .i64 a.out)) (hg3 : g = N + 3 ∨ N + 8 ≤ g) (hg : W.grownBy W1 (some g))
    (hown : W1.ownsRow N 3 1 (.slice (some ⟨g', 0, none⟩) (a.out.length + 1) c') (a.out.length + 1) (nums .i64 (a.out ++ [x]))) (hat : g' = g ∨ W.heap.size ≤ g') :
    LS w0 W0 N B sb h A6 (W1.setCell ⟨N + 4, 0, none⟩ (.slice (some ⟨g', 0, none⟩) (a.out.length + 1) c')) { a with out := a.out ++ [x] } why v9 := by
  refine ⟨L.c, L.m.addOut hb hg hown hat, L.k.step L.c L.m.size ((Turn.grown hg).trans (Turn.set W1 (N + 4) 0 _)) (fun k e => .inr ?_)⟩
  rcases e with e | e
  · injection e with e
    subst e
    exact ⟨(rowG_lt ho).2.1, by omega, fun _ => (rowG_lt ho).2.2⟩
  · exact ⟨by omega, by omega, fun _ => by omega⟩
theorem LS.drewN (L : LS w0 W0 N B sb h A6 W a why v9) (n : Nat) : LS w0 W0 N B sb h A6 (W.drewN n) a why v9 :=
  ⟨L.c, L.m.drewN n, L.k.step L.c L.m.size (Turn.drew W n (fun _ => False)) (fun _ e => e.elim)⟩
/-- The row of what is learnt. -/
theorem LS.outAt (L : LS w0 W0 N B sb h A6 W a why v9) : ∃ g c, W.cell? ⟨N + 4, 0, none⟩ = some (.slice (some ⟨g, 0, none⟩) a.out.length c) ∧ W.frozen? ⟨N + 4, 0, none⟩ = false ∧ W.heap[N + 4]? = some (.cells #[.slice (some ⟨g, 0, none⟩) a.out.length c] 37 (0, 0)) ∧ W.ownsRow N 3 1 (.slice (some ⟨g, 0, none⟩) a.out.length c) a.out.length (nums .i64 a.out) ∧ (g = N + 3 ∨ N + 8 ≤ g) ∧ a.out.length ≤ c ∧ c ≤ 9223372036854775807 := by
  obtain ⟨g, c, h1, h2, h3⟩ := L.m.b7
  obtain ⟨h4, h5⟩ := cell_block h1
  refine ⟨g, c, h4, h5, h1, h2, h3, ?_⟩
  rcases h2.2 with ⟨e1, _⟩ | ⟨g', cap, cur, e1, _, _, h6, h7, _⟩
  · cases e1
  · injection e1 with _ _ e3
    subst e3
    exact ⟨h6, by unfold maxLen at h7; omega⟩
end
end Go.Proofs.Ytbagcbiekpopbaa
