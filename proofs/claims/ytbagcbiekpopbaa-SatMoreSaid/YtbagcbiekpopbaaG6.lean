/- begin and Solve, walked. -/
import Derived.Test.YtbagcbiekpopbaaG5
import Derived.Test.YtbagcbiekpopbaaG3
import Derived.Orders
import Derived.Laws.MakeOwn
import Derived.StillTail
import Derived.Laws.OwnMore
namespace Go.Proofs.Ytbagcbiekpopbaa
open Go.RowKit Go.Shelf Go.Proofs.YtbagcbiekpopbaaW.PrintWords Go.Proofs.YtbagcbiekpopbaaW.PrintLast
set_option linter.unusedVariables false
set_option linter.unusedSimpArgs false

open Classical in
/-- A clause as 'Plain' gives it. -/
noncomputable def plI (l : List Int) : List Int × Bool := if h : ∃ p, IsPlain l p then (Classical.choose h, oppI (Classical.choose h)) else ([], true)
theorem plI_eq {l p : List Int} (h : IsPlain l p) : plI l = (p, oppI p) := by
  have hex : ∃ p, IsPlain l p := ⟨p, h⟩
  unfold plI
  rw [dif_pos hex, (Classical.choose_spec hex).unique h]

def RowsAt (B : Nat) (w : World) (b off : Nat) (L : List (List Int)) : Prop :=
  ∀ W, Below B w W → ∀ j l, L[j]? = some l → l.length ≤ 1000 ∧ ∃ a c, W.cell? ⟨b, off + j, none⟩ = some (.slice (some a) l.length c) ∧ Kd.C kI W (some a) l.length l

theorem begin_step {s s' : St} {ok b : Bool} {p : List Int} {r : List (List Int × Bool)} (h : St.begin s ((p, b) :: r) = some (s', ok)) :
    (b = false ∧ St.begin s r = some (s', ok)) ∨ (b = true ∧ p = [] ∧ s' = s ∧ ok = false) ∨
    (b = true ∧ ∃ x v, p = [x] ∧ s.is x = some v ∧ ((v < 0 ∧ s' = s ∧ ok = false) ∨ (v = 0 ∧ ∃ s1, s.set x (-1) = some s1 ∧ St.begin s1 r = some (s', ok)) ∨ (0 < v ∧ St.begin s r = some (s', ok)))) ∨
    (b = true ∧ ∃ x y q s1 k, p = x :: y :: q ∧ s.add p = some (s1, k) ∧ St.begin s1 r = some (s', ok)) := by
  unfold St.begin at h
  cases b with
  | false =>
    rw [if_pos rfl] at h
    exact .inl ⟨rfl, h⟩
  | true =>
    rw [if_neg (by decide)] at h
    match p, h with
    | [], h =>
      simp only [Option.some.injEq, Prod.mk.injEq] at h
      exact .inr (.inl ⟨rfl, rfl, h.1.symm, h.2.symm⟩)
    | [x], h =>
      simp only [Option.bind_eq_bind, Option.bind_eq_some_iff] at h
      obtain ⟨v, hv, h⟩ := h
      refine .inr (.inr (.inl ⟨rfl, x, v, rfl, hv, ?_⟩))
      split at h
      · rename_i h1
        simp only [Option.some.injEq, Prod.mk.injEq] at h
        exact .inl ⟨h1, h.1.symm, h.2.symm⟩
      · rename_i h1
        split at h
        · rename_i h2
          simp only [Option.bind_eq_some_iff] at h
          obtain ⟨s1, hs1, h⟩ := h
          exact .inr (.inl ⟨h2, s1, hs1, h⟩)
        · rename_i h2
          exact .inr (.inr ⟨by omega, h⟩)
    | x :: y :: q, h =>
      simp only [Option.bind_eq_bind, Option.bind_eq_some_iff] at h
      obtain ⟨⟨s1, k⟩, hs1, h⟩ := h
      exact .inr (.inr (.inr ⟨rfl, x, y, q, s1, k, rfl, hs1, h⟩))

set_option maxHeartbeats 8000000 in
set_option maxRecDepth 100000 in
theorem begin_any (n0 : Int) (L : List (List Int)) (b off cap m : Nat) (w : World) (B sb : Nat) (s s' : St) (ok : Bool) (h : Hp) (R : Rep w B sb s h) (hs : s.begin (L.map plI) = some (s', ok)) (hrow : RowsAt B w b off L) (hm : L.length = m) (hmc : m ≤ cap) (hcap : cap ≤ 9223372036854775807) :
    Calls Try.prog 19 #[.pointer (some ⟨sb, 0, none⟩), .agg #[.int .i64 n0, .slice (some ⟨b, off, none⟩) m cap]] w (StepOut w B sb h (.bool ok) s') := by
  have HR := Aside0.mk (And.intro R (And.intro hs (And.intro hrow hm)))
  clear R hs hrow hm
  go_enter Try.func19, Try.ntmps19
  go_wp2
  go_loopg [12] m (fun gg s12 wr => ∃ (i : Nat) (si : St) (hi : Hp), i + gg = m ∧ s12 = .int .i64 (i : Int) ∧ Aside0 (Rep wr B sb si hi ∧ Stp w wr h hi ∧ si.begin ((L.drop i).map plI) = some (s', ok)))
  case atStart => exact ⟨0, s, h, by omega, rfl, ⟨HR.out.1.below ((Below.refl _ w).alloc (Nat.le_refl _) _), Stp.of_below ((Below.refl _ w).alloc (Nat.le_refl _) _), HR.out.2.1⟩⟩
  case round =>
    obtain ⟨i, si, hi, hig, rfl, HH⟩ := hrel
    match gk, hig with
    | 0, hig =>
      have hlt : decide ((i : Int) < (m : Int)) = false := by simp; omega
      have hlt2 : decide (i < m) = false := by simp; omega
      obtain ⟨hRi, hSi, hbi⟩ := HH.out
      rw [List.drop_of_length_le (by rw [HR.out.2.2.2]; omega), List.map_nil] at hbi
      unfold St.begin at hbi
      simp only [Option.some.injEq, Prod.mk.injEq] at hbi
      obtain ⟨rfl, rfl⟩ := hbi
      have HF := Aside0.mk (And.intro hRi hSi)
      clear hRi hSi
      go_wp2
      go_ret
      exact ⟨rfl, hi, HF.out.1, HF.out.2⟩
    | g' + 1, hig =>
      have hlt : decide ((i : Int) < (m : Int)) = true := by simp; omega
      have hlt2 : decide (i < m) = true := by simp; omega
      have hlt3 : (i : Int) < (m : Int) := by omega
      obtain ⟨l, hl⟩ : ∃ l, L[i]? = some l := ⟨L[i]'(by rw [HR.out.2.2.2]; omega), List.getElem?_eq_getElem _⟩
      have hdrop : L.drop i = l :: L.drop (i + 1) := by
        obtain ⟨q1, q2⟩ := List.getElem?_eq_some_iff.1 hl
        rw [List.drop_eq_getElem_cons q1, q2]
      obtain ⟨hRi, hSi, hbi⟩ := HH.out
      rw [hdrop, List.map_cons] at hbi
      obtain ⟨hl1000, a, c, hcell, hC⟩ := HR.out.2.2.1 wr (hSi.below HR.out.1) i l hl
      have HP := Plain_any a c l wr hC hl1000
      have HI := Aside0.mk (And.intro hRi (And.intro hSi (And.intro hbi hl1000)))
      clear hRi hSi hbi hdrop hC hl HH hl1000
      go_wp2_with fail
      refine HP.mono ?_
      rintro e w2 ⟨A, c2, p, rfl, hpl, hple, hpc, ⟨a2, ha2⟩, -, hb2, hown2⟩
      clear HP hcell
      obtain ⟨hRi, hSi, hbi, hl1000⟩ := HI.out
      rw [plI_eq hpl] at hbi
      have hR2 := hRi.below hb2
      have hS2 : Stp w w2 h hi := hSi.trans (Stp.of_below hb2)
      obtain ⟨g, rfl⟩ : ∃ g, A = some ⟨g, 0, none⟩ := by
        rcases hown2.2 with ⟨e1, _⟩ | ⟨g, cap', cur, e1, _⟩
        · injection e1 with e1; rw [ha2] at e1; cases e1
        · injection e1 with e1; exact ⟨g, e1⟩
      have HGN : Aside0 (w.heap.size ≤ g) := ⟨Nat.le_trans hSi.turn.size (hown2.lt g rfl).1⟩
      have hgf : hi.own g = .free := hRi.free g (hown2.lt g rfl).1
      have hownB : w2.ownsRow B 3 1 (.slice (some ⟨g, 0, none⟩) p.length c2) p.length (nums .i64 p) := own_weaken' hown2 hRi.base.1
      obtain ⟨q, hq⟩ : ∃ q, oppI p = q := ⟨_, rfl⟩
      rw [hq] at hbi ⊢
      have HI2 := Aside0.mk (And.intro hR2 (And.intro hS2 (And.intro hgf hownB)))
      clear hRi hSi hR2 hS2 hgf ha2 hown2 hpl HI hq
      rcases begin_step hbi with ⟨rfl, hb⟩ | ⟨rfl, rfl, rfl, rfl⟩ | ⟨rfl, x, v, rfl, hv, hcs⟩ | ⟨rfl, x, y, r, s1, k, rfl, hadd, hb⟩
      · have HN : Aside0 (Rep w2 B sb si hi ∧ Stp w w2 h hi ∧ St.begin si ((L.drop (i + 1)).map plI) = some (s', ok)) := ⟨⟨HI2.out.1, HI2.out.2.1, hb⟩⟩
        clear hbi hb
        go_wp2
        go_roundg g'
        case measure => omega
        case rel => exact ⟨i + 1, si, hi, by omega, by go_num, HN⟩
      · clear hbi
        go_wp2
        go_ret
        exact ⟨rfl, hi, HI2.out.1, HI2.out.2.1⟩
      · have hV := is_any x v w2 B sb si hi HI2.out.1 hv
        have hc0 : w2.cell? ⟨g, 0, none⟩ = some (.int .i64 x) := by
          have := HI2.out.2.2.2.cells (g := g) rfl 0 (.int .i64 x) rfl
          rwa [add_plain] at this
        simp only [List.length_cons, List.length_nil, Nat.zero_add] at hpc ⊢
        have HHb := Aside0.mk hbi
        clear hbi
        rcases hcs with ⟨hv0, rfl, rfl⟩ | ⟨rfl, s1, hset, hb⟩ | ⟨hv0, hb⟩
        · have hd : decide (v < 0) = true := by simpa using hv0
          go_wp2_with (go_at_call 35; refine hV.mono ?_; rintro e w' ⟨rfl, rfl⟩)
          go_ret
          exact ⟨rfl, hi, HI2.out.1, HI2.out.2.1⟩
        · have hSet := set_any x (-1) w2 B sb si s1 hi HI2.out.1 hset
          have HB := Aside0.mk hb
          clear hb hset
          go_wp2_with (first
            | (go_at_call 35; refine hV.mono ?_; rintro e w' ⟨rfl, rfl⟩)
            | (go_at_call 24; refine hSet.mono ?_; rintro e w3 ⟨rfl, v3, hR3, hS3⟩; have HN : Aside0 (Rep w3 B sb s1 (hi.put .tr v3) ∧ Stp w w3 h (hi.put .tr v3) ∧ St.begin s1 ((L.drop (i + 1)).map plI) = some (s', ok)) := ⟨⟨hR3, HI2.out.2.1.trans hS3, HB.out⟩⟩; clear hR3 hS3))
          go_roundg g'
          case measure => omega
          case rel => exact ⟨i + 1, s1, _, by omega, by go_num, HN⟩
        · have hd : decide (v < 0) = false := by simp; omega
          have hd2 : (v == 0) = false := by simp; omega
          have HN : Aside0 (Rep w2 B sb si hi ∧ Stp w w2 h hi ∧ St.begin si ((L.drop (i + 1)).map plI) = some (s', ok)) := ⟨⟨HI2.out.1, HI2.out.2.1, hb⟩⟩
          clear hb
          go_wp2_with (go_at_call 35; refine hV.mono ?_; rintro e w' ⟨rfl, rfl⟩)
          go_roundg g'
          case measure => omega
          case rel => exact ⟨i + 1, si, hi, by omega, by go_num, HN⟩
      · have hAdd := add_any x y r (x :: y :: r).length c2 g w2 B sb si s1 k hi HI2.out.1 hadd HI2.out.2.2.2 HI2.out.2.2.1
        obtain ⟨pl, hpl⟩ : ∃ pl, (x :: y :: r).length = pl := ⟨_, rfl⟩
        have hpl2 : 2 ≤ pl := by rw [← hpl]; simp
        rw [hpl] at hAdd hpc ⊢
        have hd0 : ((pl : Int) == 0) = false := by simp; omega
        have hd1 : ((pl : Int) == 1) = false := by simp; omega
        have hd2 : decide ((1 : Int) < (pl : Int)) = true := by simp; omega
        have hd3 : decide (1 < pl) = true := by simp; omega
        have HB := Aside0.mk hb
        clear hbi hb hadd
        go_wp2_with (go_at_call 36; refine hAdd.mono ?_; rintro e w3 ⟨rfl, h3, hR3, hT3, hO3, -⟩; have HN : Aside0 (Rep w3 B sb s1 h3 ∧ Stp w w3 h h3 ∧ St.begin s1 ((L.drop (i + 1)).map plI) = some (s', ok)) := ⟨by
          refine ⟨hR3, ⟨(HI2.out.2.1.turn.trans hT3).mono (fun k hk e e2 => ?_), fun k hk e => ?_⟩, HB.out⟩
          · rcases e with e | e | e
            · exact e e2
            · exact e (HI2.out.2.1.own k hk e2)
            · have := HGN.out; omega
          · exact hO3 k (Nat.lt_of_lt_of_le hk HI2.out.2.1.turn.size) (fun e2 => by have := HGN.out; omega) (HI2.out.2.1.own k hk e)⟩; clear hR3 hT3 hO3)
        go_roundg g'
        case measure => omega
        case rel => exact ⟨i + 1, s1, _, by omega, by go_num, HN⟩
end Go.Proofs.Ytbagcbiekpopbaa

namespace Go.Proofs.Ytbagcbiekpopbaa
open Go.RowKit Go.Proofs.YtbagcbiekpopbaaW.PrintWords Go.Proofs.YtbagcbiekpopbaaW.PrintLast
set_option linter.unusedVariables false
set_option linter.unusedSimpArgs false

theorem any_inv {P : Program} {md : Region.Mode} {ops : Array Oper} {Q : Exit → Act → World → Prop} (Inv : Nat → Array Bool → Act → World → Prop)
    (hend : ∀ fuel listed a w, Inv fuel listed a w → Region.ready md ops listed = [] → Q .normal a w) (hzero : ∀ listed a w, Inv 0 listed a w → Region.ready md ops listed = [])
    (hstep : ∀ fuel listed a w i, Inv (fuel + 1) listed a w → i ∈ Region.ready md ops listed → wpOp P ops Q i (Inv fuel (listed.setIfInBounds i true)) a w) :
    ∀ (fuel : Nat) (listed : Array Bool) (a : Act) (w : World), Inv fuel listed a w → wpAny P md ops Q fuel listed a w
  | 0, listed, a, w, h => ⟨hzero _ _ _ h, hend _ _ _ _ h (hzero _ _ _ h)⟩
  | fuel + 1, listed, a, w, h => ⟨fun h0 => hend _ _ _ _ h h0, fun i hi => wpOp_mono (fun a' w' h' => any_inv Inv hend hzero hstep fuel _ a' w' h') (hstep fuel listed a w i h hi)⟩

/-- How many are not carried out yet. -/
def leftOf (n : Nat) (listed : Array Bool) : Nat := ((List.range n).filter fun i => !(listed.getD i true)).length
theorem filter_drop {p q : Nat → Bool} {i : Nat} : ∀ {L : List Nat}, L.Nodup → i ∈ L → p i = true → (∀ j, q j = (p j && decide (j ≠ i))) → (L.filter q).length + 1 = (L.filter p).length
  | [], _, hi, _, _ => by simp at hi
  | x :: L, hn, hi, hp, hq => by
    rw [List.nodup_cons] at hn
    by_cases e : x = i
    · subst e
      have e1 : L.filter q = L.filter p := List.filter_congr (fun j hj => by
        rw [hq j]
        have : j ≠ x := fun e => hn.1 (by rw [← e]; exact hj)
        simp [this])
      have e2 : q x = false := by rw [hq]; simp
      rw [List.filter_cons_of_neg (by simp [e2]), List.filter_cons_of_pos hp, e1]
      rfl
    · have hi' : i ∈ L := by
        rcases List.mem_cons.1 hi with h | h
        · exact absurd h.symm e
        · exact h
      have ih := filter_drop hn.2 hi' hp hq
      have e2 : q x = p x := by rw [hq]; simp [e]
      cases hx : p x with
      | true => rw [List.filter_cons_of_pos (by rw [e2]; exact hx), List.filter_cons_of_pos hx]; simp only [List.length_cons]; omega
      | false => rw [List.filter_cons_of_neg (by rw [e2, hx]; decide), List.filter_cons_of_neg (by rw [hx]; decide)]; exact ih
theorem leftOf_set {n i : Nat} {listed : Array Bool} (hs : listed.size = n) (hu : listed.getD i true = false) : leftOf n (listed.setIfInBounds i true) + 1 = leftOf n listed := by
  have hi : i < n := by
    rcases Nat.lt_or_ge i listed.size with h | h
    · omega
    · simp [Array.getElem?_eq_none h] at hu
  refine filter_drop List.nodup_range (List.mem_range.2 hi) (by simp [hu]) (fun j => ?_)
  by_cases e : j = i
  · subst e
    have : (listed.setIfInBounds j true).getD j true = true := by
      have hj : j < listed.size := by omega
      simp [Array.getElem?_setIfInBounds, hj]
    simp [this]
  · rw [getD_set_ne true (Ne.symm e)]
    simp [e]
theorem leftOf_zero {n : Nat} {listed : Array Bool} (h : leftOf n listed = 0) {i : Nat} (hi : i < n) : listed.getD i true = true := by
  unfold leftOf at h
  have h1 := List.eq_nil_of_length_eq_zero h
  rw [List.filter_eq_nil_iff] at h1
  have := h1 i (List.mem_range.2 hi)
  simpa using this

def depsB (ops : Array Oper) : Bool := (List.range ops.size).all fun i => match ops[i]? with | some o => o.after.all (fun e => decide (e.on < i)) | none => true
theorem all_listed {md : Region.Mode} {ops : Array Oper} {listed : Array Bool} (hd : depsB ops = true) (hr : Region.ready md ops listed = []) (hs : listed.size = ops.size) : ∀ i, i < ops.size → listed.getD i false = true := by
  intro i
  induction i using Nat.strongRecOn with
  | _ i ih =>
    intro hi
    cases hu : listed.getD i false with
    | true => rfl
    | false =>
      exfalso
      have hm : i ∈ Region.ready md ops listed := by
        refine mem_ready.2 ⟨getD_in (by omega) hu, ops[i], Array.getElem?_eq_getElem hi, fun e he _ => ?_⟩
        have h1 := List.all_eq_true.1 hd i (List.mem_range.2 hi)
        rw [Array.getElem?_eq_getElem hi] at h1
        have h2 := Array.all_eq_true'.1 h1 e he
        have h3 : e.on < i := by simpa using h2
        exact ih e.on h3 (by omega)
      rw [hr] at hm
      cases hm
end Go.Proofs.Ytbagcbiekpopbaa

namespace Go.Proofs.Ytbagcbiekpopbaa
open Go.RowKit Go.Shelf Go.Proofs.YtbagcbiekpopbaaW.PrintWords Go.Proofs.YtbagcbiekpopbaaW.PrintLast
set_option linter.unusedVariables false
set_option linter.unusedSimpArgs false

/-- The activation while the solver is made: what each operation that is carried out has left. -/
def act5 (n m c N : Nat) (budget : Int) (A : Option Addr) (v : Nat → Value) : Act := { tmps := #[.agg #[.int .i64 (n : Int), .slice A m c], .int .i64 budget, .pointer (some ⟨N, 0, none⟩), undef, .int .i64 0, .slice none 0 0, .slice none 0 0, .int .i64 0, .int .i64 0, .int .i64 ((n : Int) + 1), v 13, undef, undef, undef, .agg #[.int .i64 (n : Int), .slice A m c], .int .i64 0, .int .i64 0, .bool false, .bool false, .int .i64 budget, .bool false, .bool false, undef, .pointer (some ⟨N, 0, none⟩), .int .i64 (n : Int), .int .i64 ((n : Int) + 1), v 0, v 1, v 2, v 3, v 4, v 5, v 6, v 7, v 8, v 9, v 10, v 11, v 12, undef, undef, undef, undef, undef, undef, undef, undef, undef, undef, undef, undef, undef, undef, undef, undef, undef, undef, undef, undef, undef, undef, undef, undef, undef, undef, undef, undef, undef, undef, undef, undef, undef, undef, undef, undef, undef, undef, undef, undef, undef, undef, undef, undef, undef, undef, undef, undef, undef, undef, undef, undef], defers := [] }
def ob5 (n k : Nat) : Obj := if k = 2 then .map #[] 0 else if k = 10 then .cells (madeCells #[.float .f64 0] (n + 1)) 45 (0, 0) else .cells (madeCells #[.int .i64 0] (n + 1)) 3 (0, 0)
structure G5 (w0 : World) (N n : Nat) (listed : Array Bool) (v : Nat → Value) (bl : Nat → Nat) (w : World) : Prop where
  size : listed.size = 14
  bel : Below w0.heap.size w0 w
  h0 : listed.getD 0 false = true → v 0 = .pointer (some ⟨N, 0, none⟩)
  h1 : listed.getD 1 false = true → v 1 = .int .i64 (n : Int)
  h3 : ∀ k, k ∈ [3, 5, 7, 9] → listed.getD k false = true → v k = .int .i64 ((n : Int) + 1)
  h2 : listed.getD 2 false = true → v 2 = .map (some (bl 2))
  h4 : ∀ k, k ∈ [4, 6, 8, 10] → listed.getD k false = true → v k = .slice (some ⟨bl k, 0, none⟩) (n + 1) (n + 1)
  ob : ∀ k, k ∈ [2, 4, 6, 8, 10] → listed.getD k false = true → w0.heap.size ≤ bl k ∧ w.heap[bl k]? = some (ob5 n k)
  df : ∀ j k, j ∈ [2, 4, 6, 8, 10] → k ∈ [2, 4, 6, 8, 10] → j ≠ k → listed.getD j false = true → listed.getD k false = true → bl j ≠ bl k
  h11 : listed.getD 11 false = true → v 11 = .agg #[.int .i64 (n : Int), nilS, v 2, v 4, v 6, v 8, nilS, nilS, .int .i64 0, v 10, .float .f64 4607182418800017408, nilS]
  h12 : listed.getD 12 false = true → v 12 = .pointer (some ⟨bl 12, 0, none⟩) ∧ w0.heap.size ≤ bl 12 ∧ w.heap[bl 12]? = some (.cells #[.int .i64 (n : Int), nilS, v 2, v 4, v 6, v 8, nilS, nilS, .int .i64 0, v 10, .float .f64 4607182418800017408, nilS] 47 (0, 0)) ∧ ∀ k, k ∈ [2, 4, 6, 8, 10] → bl k ≠ bl 12
  h13 : listed.getD 13 false = true → v 13 = v 12
  c11 : listed.getD 11 false = true → ∀ k, k ∈ [1, 2, 4, 6, 8, 10] → listed.getD k false = true
  c12 : listed.getD 12 false = true → listed.getD 11 false = true
  c13 : listed.getD 13 false = true → listed.getD 12 false = true

theorem listed_set {listed : Array Bool} {i j : Nat} (hs : listed.size = 14) (hi : i < 14) (h : (listed.setIfInBounds i true).getD j false = true) : j = i ∨ listed.getD j false = true := by
  by_cases e : j = i
  · exact .inl e
  · rw [getD_set_ne false (Ne.symm e)] at h
    exact .inr h
/-- An operation that makes no block and is none of the last three. -/
theorem G5.low {w0 w : World} {N n : Nat} {listed : Array Bool} {v : Nat → Value} {bl : Nat → Nat} (G : G5 w0 N n listed v bl w) {i : Nat} {x : Value} (hi : i ∈ [0, 1, 3, 5, 7, 9]) (hu : listed.getD i false = false)
    (h0 : i = 0 → x = .pointer (some ⟨N, 0, none⟩)) (h1 : i = 1 → x = .int .i64 (n : Int)) (h3 : i ∈ [3, 5, 7, 9] → x = .int .i64 ((n : Int) + 1)) : G5 w0 N n (listed.setIfInBounds i true) (upd v i x) bl w := by
  have hi14 : i < 14 := by simp at hi; omega
  have hne : ∀ j, j ∈ [2, 4, 6, 8, 10, 11, 12, 13] → j ≠ i := fun j hj e => by subst e; simp at hi hj; omega
  have hl : ∀ {j}, (listed.setIfInBounds i true).getD j false = true → j = i ∨ listed.getD j false = true := fun h => listed_set G.size hi14 h
  have hb : ∀ {j}, j ∈ [2, 4, 6, 8, 10, 11, 12, 13] → (listed.setIfInBounds i true).getD j false = true → listed.getD j false = true := fun hj h => (hl h).resolve_left (hne _ hj)
  have hv : ∀ {j}, j ≠ i → upd v i x j = v j := fun h => by unfold upd; rw [if_neg h]
  have hvi : upd v i x i = x := by unfold upd; rw [if_pos rfl]
  have up : ∀ {j}, listed.getD j false = true → (listed.setIfInBounds i true).getD j false = true := fun h => getD_set_true h
  refine ⟨by simp [G.size], G.bel, fun h => ?_, fun h => ?_, fun k hk h => ?_, fun h => ?_, fun k hk h => ?_, fun k hk h => G.ob k hk (hb (by simp at hk ⊢; omega) h), fun j k hj hk hjk h h' => G.df j k hj hk hjk (hb (by simp at hj ⊢; omega) h) (hb (by simp at hk ⊢; omega) h'), fun h => ?_, fun h => ?_, fun h => ?_, fun h k hk => up (G.c11 (hb (by simp) h) k hk), fun h => up (G.c12 (hb (by simp) h)), fun h => up (G.c13 (hb (by simp) h))⟩
  · by_cases e2 : 0 = i
    · subst e2; rw [hvi]; exact h0 rfl
    · rw [hv e2]; exact G.h0 ((hl h).resolve_left e2)
  · by_cases e2 : 1 = i
    · subst e2; rw [hvi]; exact h1 rfl
    · rw [hv e2]; exact G.h1 ((hl h).resolve_left e2)
  · by_cases e2 : k = i
    · subst e2; rw [hvi]; exact h3 hk
    · rw [hv e2]; exact G.h3 k hk ((hl h).resolve_left e2)
  · rw [hv (hne 2 (by simp))]; exact G.h2 (hb (by simp) h)
  · have hk2 : k ∈ [2, 4, 6, 8, 10, 11, 12, 13] := by simp at hk ⊢; omega
    rw [hv (hne k hk2)]; exact G.h4 k hk (hb hk2 h)
  · rw [hv (hne 11 (by simp)), hv (hne 2 (by simp)), hv (hne 4 (by simp)), hv (hne 6 (by simp)), hv (hne 8 (by simp)), hv (hne 10 (by simp))]; exact G.h11 (hb (by simp) h)
  · rw [hv (hne 12 (by simp)), hv (hne 2 (by simp)), hv (hne 4 (by simp)), hv (hne 6 (by simp)), hv (hne 8 (by simp)), hv (hne 10 (by simp))]; exact G.h12 (hb (by simp) h)
  · rw [hv (hne 13 (by simp)), hv (hne 12 (by simp))]; exact G.h13 (hb (by simp) h)

/-- An operation that makes a block. -/
theorem G5.made {w0 w : World} {N n : Nat} {listed : Array Bool} {v : Nat → Value} {bl : Nat → Nat} (G : G5 w0 N n listed v bl w) {i : Nat} {x : Value} (hi : i ∈ [2, 4, 6, 8, 10]) (hu : listed.getD i false = false)
    (h2 : i = 2 → x = .map (some w.heap.size)) (h4 : i ∈ [4, 6, 8, 10] → x = .slice (some ⟨w.heap.size, 0, none⟩) (n + 1) (n + 1)) : G5 w0 N n (listed.setIfInBounds i true) (upd v i x) (upd bl i w.heap.size) (w.alloc (ob5 n i)) := by
  have hi14 : i < 14 := by simp at hi; omega
  have n11 : listed.getD 11 false = false := by
    cases e : listed.getD 11 false with
    | false => rfl
    | true => have := G.c11 e i (by simp at hi ⊢; omega); rw [hu] at this; cases this
  have n12 : listed.getD 12 false = false := by
    cases e : listed.getD 12 false with
    | false => rfl
    | true => have := G.c12 e; rw [n11] at this; cases this
  have n13 : listed.getD 13 false = false := by
    cases e : listed.getD 13 false with
    | false => rfl
    | true => have := G.c13 e; rw [n12] at this; cases this
  have hl : ∀ {j}, (listed.setIfInBounds i true).getD j false = true → j = i ∨ listed.getD j false = true := fun h => listed_set G.size hi14 h
  have hb : ∀ {j}, j ∉ [2, 4, 6, 8, 10] → (listed.setIfInBounds i true).getD j false = true → listed.getD j false = true := fun hj h => (hl h).resolve_left (fun e => hj (by rw [e]; exact hi))
  have hv : ∀ {j}, j ≠ i → upd v i x j = v j := fun h => by unfold upd; rw [if_neg h]
  have hw : ∀ {j}, j ∉ [2, 4, 6, 8, 10] → upd v i x j = v j := fun hj => hv (fun e => hj (by rw [e]; exact hi))
  have hvi : upd v i x i = x := by unfold upd; rw [if_pos rfl]
  have hbi : upd bl i w.heap.size i = w.heap.size := by unfold upd; rw [if_pos rfl]
  have hbn : ∀ {j}, j ≠ i → upd bl i w.heap.size j = bl j := fun h => by unfold upd; rw [if_neg h]
  have hold : ∀ {b o}, w.heap[b]? = some o → (w.alloc (ob5 n i)).heap[b]? = some o := fun h => (Below.heap_alloc _ _ _ (blk_lt h)).trans h
  refine ⟨by simp [G.size], G.bel.alloc G.bel.size _, fun h => ?_, fun h => ?_, fun k hk h => ?_, fun h => ?_, fun k hk h => ?_, fun k hk h => ?_, fun j k hj hk hjk h h' => ?_, fun h => absurd (hb (by simp) h) (by rw [n11]; decide), fun h => absurd (hb (by simp) h) (by rw [n12]; decide), fun h => absurd (hb (by simp) h) (by rw [n13]; decide), fun h => absurd (hb (by simp) h) (by rw [n11]; decide), fun h => absurd (hb (by simp) h) (by rw [n12]; decide), fun h => absurd (hb (by simp) h) (by rw [n13]; decide)⟩
  · rw [hw (by simp)]; exact G.h0 (hb (by simp) h)
  · rw [hw (by simp)]; exact G.h1 (hb (by simp) h)
  · have hk2 : k ∉ [2, 4, 6, 8, 10] := by simp at hk ⊢; omega
    rw [hw hk2]; exact G.h3 k hk (hb hk2 h)
  · by_cases e2 : 2 = i
    · subst e2; rw [hvi, hbi]; exact h2 rfl
    · rw [hv e2, hbn e2]; exact G.h2 ((hl h).resolve_left e2)
  · by_cases e2 : k = i
    · subst e2; rw [hvi, hbi]; exact h4 hk
    · rw [hv e2, hbn e2]; exact G.h4 k hk ((hl h).resolve_left e2)
  · by_cases e2 : k = i
    · subst e2; rw [hbi]; exact ⟨G.bel.size, World.alloc_heap_new _ _⟩
    · rw [hbn e2]
      obtain ⟨q1, q2⟩ := G.ob k hk ((hl h).resolve_left e2)
      exact ⟨q1, hold q2⟩
  · by_cases e1 : j = i
    · subst e1
      have e2 : k ≠ j := fun e => hjk e.symm
      rw [hbi, hbn e2]
      have := blk_lt (G.ob k hk ((hl h').resolve_left e2)).2
      omega
    · by_cases e2 : k = i
      · subst e2
        rw [hbi, hbn e1]
        have := blk_lt (G.ob j hj ((hl h).resolve_left e1)).2
        omega
      · rw [hbn e1, hbn e2]
        exact G.df j k hj hk hjk ((hl h).resolve_left e1) ((hl h').resolve_left e2)

/-- The last three. -/
theorem G5.built {w0 w : World} {N n : Nat} {listed : Array Bool} {v : Nat → Value} {bl : Nat → Nat} (G : G5 w0 N n listed v bl w) {x : Value} (hu : listed.getD 11 false = false) (hd : ∀ k, k ∈ [1, 2, 4, 6, 8, 10] → listed.getD k false = true)
    (hx : x = .agg #[.int .i64 (n : Int), nilS, v 2, v 4, v 6, v 8, nilS, nilS, .int .i64 0, v 10, .float .f64 4607182418800017408, nilS]) : G5 w0 N n (listed.setIfInBounds 11 true) (upd v 11 x) bl w := by
  have n12 : listed.getD 12 false = false := by
    cases e : listed.getD 12 false with
    | false => rfl
    | true => have := G.c12 e; rw [hu] at this; cases this
  have n13 : listed.getD 13 false = false := by
    cases e : listed.getD 13 false with
    | false => rfl
    | true => have := G.c13 e; rw [n12] at this; cases this
  have hb : ∀ {j}, j ≠ 11 → (listed.setIfInBounds 11 true).getD j false = true → listed.getD j false = true := fun hj h => (listed_set G.size (by omega) h).resolve_left hj
  have hv : ∀ {j}, j ≠ 11 → upd v 11 x j = v j := fun h => by unfold upd; rw [if_neg h]
  have up : ∀ {j}, listed.getD j false = true → (listed.setIfInBounds 11 true).getD j false = true := fun h => getD_set_true h
  have ne : ∀ k, k ∈ [2, 3, 4, 5, 6, 7, 8, 9, 10] → k ≠ 11 := fun k hk e => by subst e; simp at hk
  refine ⟨by simp [G.size], G.bel, fun h => ?_, fun h => ?_, fun k hk h => ?_, fun h => ?_, fun k hk h => ?_, fun k hk h => G.ob k hk (hb (ne k (by simp at hk ⊢; omega)) h), fun j k hj hk hjk h h' => G.df j k hj hk hjk (hb (ne j (by simp at hj ⊢; omega)) h) (hb (ne k (by simp at hk ⊢; omega)) h'), fun h => ?_, fun h => absurd (hb (by omega) h) (by rw [n12]; decide), fun h => absurd (hb (by omega) h) (by rw [n13]; decide), fun h k hk => up (hd k hk), fun h => absurd (hb (by omega) h) (by rw [n12]; decide), fun h => absurd (hb (by omega) h) (by rw [n13]; decide)⟩
  · rw [hv (by omega)]; exact G.h0 (hb (by omega) h)
  · rw [hv (by omega)]; exact G.h1 (hb (by omega) h)
  · have := ne k (by simp at hk ⊢; omega)
    rw [hv this]; exact G.h3 k hk (hb this h)
  · rw [hv (by omega)]; exact G.h2 (hb (by omega) h)
  · have := ne k (by simp at hk ⊢; omega)
    rw [hv this]; exact G.h4 k hk (hb this h)
  · rw [hv (j := 2) (by omega), hv (j := 4) (by omega), hv (j := 6) (by omega), hv (j := 8) (by omega), hv (j := 10) (by omega)]
    unfold upd
    rw [if_pos rfl]
    exact hx

theorem G5.boxed {w0 w : World} {N n : Nat} {listed : Array Bool} {v : Nat → Value} {bl : Nat → Nat} (G : G5 w0 N n listed v bl w) (hu : listed.getD 12 false = false) (hd : listed.getD 11 false = true) :
    G5 w0 N n (listed.setIfInBounds 12 true) (upd v 12 (.pointer (some ⟨w.heap.size, 0, none⟩))) (upd bl 12 w.heap.size) (w.alloc (.cells #[.int .i64 (n : Int), nilS, v 2, v 4, v 6, v 8, nilS, nilS, .int .i64 0, v 10, .float .f64 4607182418800017408, nilS] 47)) := by
  have n13 : listed.getD 13 false = false := by
    cases e : listed.getD 13 false with
    | false => rfl
    | true => have := G.c13 e; rw [hu] at this; cases this
  have hb : ∀ {j}, j ≠ 12 → (listed.setIfInBounds 12 true).getD j false = true → listed.getD j false = true := fun hj h => (listed_set G.size (by omega) h).resolve_left hj
  have hv : ∀ {j}, j ≠ 12 → upd v 12 (.pointer (some ⟨w.heap.size, 0, none⟩)) j = v j := fun h => by unfold upd; rw [if_neg h]
  have hbl : ∀ {j}, j ≠ 12 → upd bl 12 w.heap.size j = bl j := fun h => by unfold upd; rw [if_neg h]
  have up : ∀ {j}, listed.getD j false = true → (listed.setIfInBounds 12 true).getD j false = true := fun h => getD_set_true h
  have ne : ∀ k, k ∈ [2, 3, 4, 5, 6, 7, 8, 9, 10] → k ≠ 12 := fun k hk e => by subst e; simp at hk
  have hold : ∀ {b o}, w.heap[b]? = some o → (w.alloc (.cells #[.int .i64 (n : Int), nilS, v 2, v 4, v 6, v 8, nilS, nilS, .int .i64 0, v 10, .float .f64 4607182418800017408, nilS] 47)).heap[b]? = some o := fun h => (Below.heap_alloc _ _ _ (blk_lt h)).trans h
  refine ⟨by simp [G.size], G.bel.alloc G.bel.size _, fun h => ?_, fun h => ?_, fun k hk h => ?_, fun h => ?_, fun k hk h => ?_, fun k hk h => ?_, fun j k hj hk hjk h h' => ?_, fun h => ?_, fun h => ?_, fun h => absurd (hb (by omega) h) (by rw [n13]; decide), fun h k hk => up (G.c11 (hb (by omega) h) k hk), fun h => up hd, fun h => absurd (hb (by omega) h) (by rw [n13]; decide)⟩
  · rw [hv (by omega)]; exact G.h0 (hb (by omega) h)
  · rw [hv (by omega)]; exact G.h1 (hb (by omega) h)
  · have := ne k (by simp at hk ⊢; omega)
    rw [hv this]; exact G.h3 k hk (hb this h)
  · rw [hv (by omega), hbl (by omega)]; exact G.h2 (hb (by omega) h)
  · have := ne k (by simp at hk ⊢; omega)
    rw [hv this, hbl this]; exact G.h4 k hk (hb this h)
  · have := ne k (by simp at hk ⊢; omega)
    rw [hbl this]
    obtain ⟨q1, q2⟩ := G.ob k hk (hb this h)
    exact ⟨q1, hold q2⟩
  · have e1 := ne j (by simp at hj ⊢; omega)
    have e2 := ne k (by simp at hk ⊢; omega)
    rw [hbl e1, hbl e2]
    exact G.df j k hj hk hjk (hb e1 h) (hb e2 h')
  · rw [hv (j := 11) (by omega), hv (j := 2) (by omega), hv (j := 4) (by omega), hv (j := 6) (by omega), hv (j := 8) (by omega), hv (j := 10) (by omega)]
    exact G.h11 (hb (by omega) h)
  · rw [hv (j := 2) (by omega), hv (j := 4) (by omega), hv (j := 6) (by omega), hv (j := 8) (by omega), hv (j := 10) (by omega)]
    have e1 : upd v 12 (.pointer (some ⟨w.heap.size, 0, none⟩)) 12 = .pointer (some ⟨w.heap.size, 0, none⟩) := by unfold upd; rw [if_pos rfl]
    have e2 : upd bl 12 w.heap.size 12 = w.heap.size := by unfold upd; rw [if_pos rfl]
    rw [e1, e2]
    refine ⟨rfl, G.bel.size, World.alloc_heap_new _ _, fun k hk => ?_⟩
    have e3 := ne k (by simp at hk ⊢; omega)
    rw [hbl e3]
    have := blk_lt (G.ob k hk (G.c11 hd k (by simp at hk ⊢; omega))).2
    omega

theorem G5.last {w0 w : World} {N n : Nat} {listed : Array Bool} {v : Nat → Value} {bl : Nat → Nat} (G : G5 w0 N n listed v bl w) (hd : listed.getD 12 false = true) : G5 w0 N n (listed.setIfInBounds 13 true) (upd v 13 (v 12)) bl w := by
  have hb : ∀ {j}, j ≠ 13 → (listed.setIfInBounds 13 true).getD j false = true → listed.getD j false = true := fun hj h => (listed_set G.size (by omega) h).resolve_left hj
  have hv : ∀ {j}, j ≠ 13 → upd v 13 (v 12) j = v j := fun h => by unfold upd; rw [if_neg h]
  have up : ∀ {j}, listed.getD j false = true → (listed.setIfInBounds 13 true).getD j false = true := fun h => getD_set_true h
  have ne : ∀ k, k ∈ [2, 3, 4, 5, 6, 7, 8, 9, 10] → k ≠ 13 := fun k hk e => by subst e; simp at hk
  refine ⟨by simp [G.size], G.bel, fun h => ?_, fun h => ?_, fun k hk h => ?_, fun h => ?_, fun k hk h => ?_, fun k hk h => G.ob k hk (hb (ne k (by simp at hk ⊢; omega)) h), fun j k hj hk hjk h h' => G.df j k hj hk hjk (hb (ne j (by simp at hj ⊢; omega)) h) (hb (ne k (by simp at hk ⊢; omega)) h'), fun h => ?_, fun h => ?_, fun h => ?_, fun h k hk => up (G.c11 (hb (by omega) h) k hk), fun h => up (G.c12 (hb (by omega) h)), fun h => up hd⟩
  · rw [hv (by omega)]; exact G.h0 (hb (by omega) h)
  · rw [hv (by omega)]; exact G.h1 (hb (by omega) h)
  · have := ne k (by simp at hk ⊢; omega)
    rw [hv this]; exact G.h3 k hk (hb this h)
  · rw [hv (by omega)]; exact G.h2 (hb (by omega) h)
  · have := ne k (by simp at hk ⊢; omega)
    rw [hv this]; exact G.h4 k hk (hb this h)
  · rw [hv (j := 11) (by omega), hv (j := 2) (by omega), hv (j := 4) (by omega), hv (j := 6) (by omega), hv (j := 8) (by omega), hv (j := 10) (by omega)]
    exact G.h11 (hb (by omega) h)
  · rw [hv (j := 12) (by omega), hv (j := 2) (by omega), hv (j := 4) (by omega), hv (j := 6) (by omega), hv (j := 8) (by omega), hv (j := 10) (by omega)]
    exact G.h12 (hb (by omega) h)
  · have e1 : upd v 13 (v 12) 13 = v 12 := by unfold upd; rw [if_pos rfl]
    rw [e1, hv (j := 12) (by omega)]
end Go.Proofs.Ytbagcbiekpopbaa

namespace Go.Proofs.Ytbagcbiekpopbaa
open Go.RowKit Go.Shelf Go.Proofs.YtbagcbiekpopbaaW.PrintWords Go.Proofs.YtbagcbiekpopbaaW.PrintLast
set_option linter.unusedVariables false
set_option linter.unusedSimpArgs false

def hp0 (v : Nat → Value) (bl : Nat → Nat) : Hp where
  own g := if g = bl 12 then .sol else if g = bl 2 then .wm else if g = bl 4 then .row .va else if g = bl 6 then .row .le else if g = bl 8 then .row .re else if g = bl 10 then .row .sc else .free
  val t := match t with
    | .va => v 4
    | .le => v 6
    | .re => v 8
    | .sc => v 10
    | _ => nilS
  wb := bl 2

theorem mapR_at {w : World} {b : Nat} (h : w.heap[b]? = some (.map #[] 0)) : MapR w b nilS (fun _ => nilS) := by
  obtain ⟨es, clock, h1, r⟩ := MapR.made w nilS
  rw [World.alloc_heap_new] at h1
  injection h1 with h1
  injection h1 with h1 h2
  subst h1 h2
  exact ⟨#[], 0, h, r⟩
theorem made_own {w : World} {B b n : Nat} {z : Value} {T : TypeId} {xs : List Value} (h : w.heap[b]? = some (.cells (madeCells #[z] (n + 1)) T (0, 0))) (hB : B ≤ b) (hn : n < 1000000) (hx : xs = List.replicate (n + 1) z) : w.ownsRow B T 1 (.slice (some ⟨b, 0, none⟩) (n + 1) (n + 1)) (n + 1) xs := by
  subst hx
  refine ⟨by simp, .inr ⟨b, n + 1, _, rfl, hB, h, Nat.le_refl _, by unfold maxLen; omega, by rw [size_madeCells, Nat.mul_one], ?_⟩⟩
  rw [Nat.mul_one, toList_madeCells_one]
  simp

theorem G5.rep {w0 w : World} {N n : Nat} {listed : Array Bool} {v : Nat → Value} {bl : Nat → Nat} (G : G5 w0 N n listed v bl w) (hl : ∀ i, i < 14 → listed.getD i false = true) (hn : n < 1000000) {B : Nat} (hB : B ≤ w0.heap.size) :
    Rep w B (bl 12) (St.start n) (hp0 v bl) := by
  have o2 := G.ob 2 (by simp) (hl 2 (by omega))
  have o4 := G.ob 4 (by simp) (hl 4 (by omega))
  have o6 := G.ob 6 (by simp) (hl 6 (by omega))
  have o8 := G.ob 8 (by simp) (hl 8 (by omega))
  have o10 := G.ob 10 (by simp) (hl 10 (by omega))
  obtain ⟨-, p12, q12, n12⟩ := G.h12 (hl 12 (by omega))
  have v2 := G.h2 (hl 2 (by omega))
  have v4 := G.h4 4 (by simp) (hl 4 (by omega))
  have v6 := G.h4 6 (by simp) (hl 6 (by omega))
  have v8 := G.h4 8 (by simp) (hl 8 (by omega))
  have v10 := G.h4 10 (by simp) (hl 10 (by omega))
  have d24 := G.df 2 4 (by simp) (by simp) (by omega) (hl 2 (by omega)) (hl 4 (by omega))
  have d26 := G.df 2 6 (by simp) (by simp) (by omega) (hl 2 (by omega)) (hl 6 (by omega))
  have d28 := G.df 2 8 (by simp) (by simp) (by omega) (hl 2 (by omega)) (hl 8 (by omega))
  have d210 := G.df 2 10 (by simp) (by simp) (by omega) (hl 2 (by omega)) (hl 10 (by omega))
  have d46 := G.df 4 6 (by simp) (by simp) (by omega) (hl 4 (by omega)) (hl 6 (by omega))
  have d48 := G.df 4 8 (by simp) (by simp) (by omega) (hl 4 (by omega)) (hl 8 (by omega))
  have d410 := G.df 4 10 (by simp) (by simp) (by omega) (hl 4 (by omega)) (hl 10 (by omega))
  have d68 := G.df 6 8 (by simp) (by simp) (by omega) (hl 6 (by omega)) (hl 8 (by omega))
  have d610 := G.df 6 10 (by simp) (by simp) (by omega) (hl 6 (by omega)) (hl 10 (by omega))
  have d810 := G.df 8 10 (by simp) (by simp) (by omega) (hl 8 (by omega)) (hl 10 (by omega))
  have e2 := n12 2 (by simp)
  have e4 := n12 4 (by simp)
  have e6 := n12 6 (by simp)
  have e8 := n12 8 (by simp)
  have e10 := n12 10 (by simp)
  have z2 := blk_lt o2.2
  have z4 := blk_lt o4.2
  have z6 := blk_lt o6.2
  have z8 := blk_lt o8.2
  have z10 := blk_lt o10.2
  have z12 := blk_lt q12
  have b4 := made_own (B := B) (z := .int .i64 0) (n := n) (xs := List.replicate (n + 1) (.int .i64 0)) o4.2 (by omega) hn rfl
  have b6 := made_own (B := B) (z := .int .i64 0) (n := n) (xs := List.replicate (n + 1) (.int .i64 0)) o6.2 (by omega) hn rfl
  have b8 := made_own (B := B) (z := .int .i64 0) (n := n) (xs := List.replicate (n + 1) (.int .i64 0)) o8.2 (by omega) hn rfl
  have b10 := made_own (B := B) (z := .float .f64 0) (n := n) (xs := List.replicate (n + 1) (.float .f64 0)) o10.2 (by omega) hn rfl
  have hempty : ∀ t, RowT w B (hp0 v bl).own t nilS [] := fun t => ⟨World.ownsRow_nil _ _ _ _, fun g e => by cases e⟩
  refine { sol := ?_, osol := ?_, row := fun t => ?_, map := ?_, omap := ?_, free := fun g hg => ?_, low := fun g hg => ?_, small := ?_ }
  · rw [q12, v2]; rfl
  · simp [hp0]
  · cases t
    case va =>
      have e : cellsOf (St.start n) (hp0 v bl).val .va = List.replicate (n + 1) (.int .i64 0) := by simp [cellsOf, St.start, nums]
      rw [e]
      refine ⟨by show w.ownsRow B 3 1 (v 4) _ _; rw [v4, List.length_replicate]; exact b4, fun g hg => ?_⟩
      have hg' : (v 4).ownBlock = some g := hg
      rw [v4] at hg'
      injection hg' with hg'
      simp only at hg'
      subst hg'
      simp only [hp0]
      rw [if_neg e4, if_neg (fun e => d24 e.symm), if_pos trivial]
    case le =>
      have e : cellsOf (St.start n) (hp0 v bl).val .le = List.replicate (n + 1) (.int .i64 0) := by simp [cellsOf, St.start, nats]
      rw [e]
      refine ⟨by show w.ownsRow B 3 1 (v 6) _ _; rw [v6, List.length_replicate]; exact b6, fun g hg => ?_⟩
      have hg' : (v 6).ownBlock = some g := hg
      rw [v6] at hg'
      injection hg' with hg'
      simp only at hg'
      subst hg'
      simp only [hp0]
      rw [if_neg e6, if_neg (fun e => d26 e.symm), if_neg (fun e => d46 e.symm), if_pos trivial]
    case re =>
      have e : cellsOf (St.start n) (hp0 v bl).val .re = List.replicate (n + 1) (.int .i64 0) := by simp [cellsOf, St.start, nums]
      rw [e]
      refine ⟨by show w.ownsRow B 3 1 (v 8) _ _; rw [v8, List.length_replicate]; exact b8, fun g hg => ?_⟩
      have hg' : (v 8).ownBlock = some g := hg
      rw [v8] at hg'
      injection hg' with hg'
      simp only at hg'
      subst hg'
      simp only [hp0]
      rw [if_neg e8, if_neg (fun e => d28 e.symm), if_neg (fun e => d48 e.symm), if_neg (fun e => d68 e.symm), if_pos trivial]
    case sc =>
      have e : cellsOf (St.start n) (hp0 v bl).val .sc = List.replicate (n + 1) (.float .f64 0) := by simp [cellsOf, St.start]
      rw [e]
      refine ⟨by show w.ownsRow B 45 1 (v 10) _ _; rw [v10, List.length_replicate]; exact b10, fun g hg => ?_⟩
      have hg' : (v 10).ownBlock = some g := hg
      rw [v10] at hg'
      injection hg' with hg'
      simp only at hg'
      subst hg'
      simp only [hp0]
      rw [if_neg e10, if_neg (fun e => d210 e.symm), if_neg (fun e => d410 e.symm), if_neg (fun e => d610 e.symm), if_neg (fun e => d810 e.symm), if_pos trivial]
    all_goals exact hempty _
  · exact mapR_at o2.2
  · simp only [hp0]
    rw [if_neg e2, if_pos trivial]
  · simp only [hp0]
    rw [if_neg (by omega), if_neg (by omega), if_neg (by omega), if_neg (by omega), if_neg (by omega), if_neg (by omega)]
  · simp only [hp0]
    rw [if_neg (by omega), if_neg (by omega), if_neg (by omega), if_neg (by omega), if_neg (by omega), if_neg (by omega)]
  · simp only [St.start, List.length_replicate]
    unfold bigN
    omega
end Go.Proofs.Ytbagcbiekpopbaa

namespace Go.Proofs.Ytbagcbiekpopbaa
open Go.RowKit Go.Shelf Go.Proofs.YtbagcbiekpopbaaW.PrintWords Go.Proofs.YtbagcbiekpopbaaW.PrintLast
set_option linter.unusedVariables false
set_option linter.unusedSimpArgs false

theorem own_ints {w : World} {B n : Nat} {v : Value} {r : List Int} (h : w.ownsRow B 3 1 v n (nums .i64 r)) (hn : n = r.length) : ∃ A c, v = .slice A r.length c ∧ r.length ≤ c ∧ Kd.C kI w A r.length r := by
  subst hn
  rcases h.2 with ⟨rfl, h0⟩ | ⟨g, cap, cur, rfl, _, _, h3, h4, _⟩
  · have : r = [] := List.eq_nil_of_length_eq_zero h0
    subst this
    exact ⟨none, 0, rfl, Nat.le_refl _, Kd.C_nil _ _⟩
  · refine ⟨_, cap, rfl, h3, C_of_cells (by unfold maxLen at h4; omega) (fun j y hj => ?_)⟩
    have := h.cells (g := g) rfl j (.int .i64 y) (nums_get hj)
    rw [add_plain] at this
    simpa using this
theorem own_bools {w : World} {B n : Nat} {v : Value} {r : List Bool} (h : w.ownsRow B 4 1 v n (encs Value.bool r)) (hn : n = r.length) : ∃ A c, v = .slice A r.length c ∧ r.length ≤ c ∧ Kd.C Kd.bool w A r.length r := by
  subst hn
  rcases h.2 with ⟨rfl, h0⟩ | ⟨g, cap, cur, rfl, _, _, h3, h4, _⟩
  · have : r = [] := List.eq_nil_of_length_eq_zero h0
    subst this
    exact ⟨none, 0, rfl, Nat.le_refl _, Kd.C_nil _ _⟩
  · refine ⟨_, cap, rfl, h3, C_of_bools (by unfold maxLen at h4; omega) (fun j y hj => ?_)⟩
    have := h.cells (g := g) rfl j (.bool y) (by unfold encs; rw [List.getElem?_map, hj]; rfl)
    rw [add_plain] at this
    simpa using this
theorem C_zero {α : Type} (d : Kd α) (w : World) (A : Option Addr) : d.C w A 0 [] := ⟨rfl, by omega, fun h => absurd h (by omega)⟩

/-- The proof, and one empty row behind it. -/
theorem Rep.proofRows {w w3 : World} {B sb : Nat} {s : St} {h : Hp} {v3 : Value} (R : Rep w B sb s h) (hB : B ≤ w.heap.size)
    (hown : w3.ownsRow B 37 1 v3 (cellsOf s h.val .pf ++ [Value.slice (some ⟨w.heap.size, 0, none⟩) 0 0]).length (cellsOf s h.val .pf ++ [Value.slice (some ⟨w.heap.size, 0, none⟩) 0 0]))
    (hg : (w.alloc (.cells #[] 3)).grownBy w3 (h.val .pf).ownBlock) : ∃ (A : Option Addr) (c : Nat), v3 = .slice A (s.pf ++ [[]]).length c ∧ (s.pf ++ [[]]).length ≤ c ∧ Kd.C kII w3 A (s.pf ++ [[]]).length (s.pf ++ [[]]) := by
  have hl : (cellsOf s h.val .pf).length = s.pf.length := by simp [cellsOf]
  have hT : Turn w w3 (fun g => (h.val .pf).ownBlock = some g) := ((Turn.alloc w (.cells #[] 3) (fun _ => False)).trans (Turn.grown hg)).mono (fun g _ e => by
    rcases e with e | e
    · exact e.elim
    · exact e)
  rcases hown.2 with ⟨_, h0⟩ | ⟨g, cap, cur, rfl, _, _, h4, h5, _⟩
  · simp at h0
  · have e1 : (cellsOf s h.val .pf ++ [Value.slice (some ⟨w.heap.size, 0, none⟩) 0 0]).length = (s.pf ++ [[]]).length := by simp [hl]
    rw [e1] at h4 hown ⊢
    refine ⟨_, cap, rfl, h4, CII_of_cells (by unfold maxLen at h5; omega) (fun j r hj => ?_)⟩
    have cell : ∀ y, (cellsOf s h.val .pf ++ [Value.slice (some ⟨w.heap.size, 0, none⟩) 0 0])[j]? = some y → w3.cell? ⟨g, 0 + j, none⟩ = some y := fun y hy => by
      have := hown.cells (g := g) rfl j y hy
      rw [add_plain] at this
      simpa using this
    rcases getElem?_snoc hj with h1 | ⟨rfl, rfl⟩
    · have hjl := lt_of_getElem? h1
      have hc : (cellsOf s h.val .pf)[j]? = some (h.val (.p j)) := by
        show ((List.range s.pf.length).map fun i => h.val (.p i))[j]? = _
        rw [List.getElem?_map, List.getElem?_range hjl]
        rfl
      have hr : w.ownsRow B 3 1 (h.val (.p j)) (cellsOf s h.val (.p j)).length (cellsOf s h.val (.p j)) := (R.row (.p j)).row
      have hcc : cellsOf s h.val (.p j) = nums .i64 r := by
        show nums .i64 (s.pf.getD j []) = _
        rw [List.getD_eq_getElem?_getD, h1]
        rfl
      rw [hcc] at hr
      have hr3 := ownsRow_turn hr hT (fun g' e e2 => by
        have h6 := (R.row (.p j)).own g' e
        have h7 := (R.row .pf).own g' e2
        rw [h6] at h7
        cases h7)
      obtain ⟨A, c, e2, h8, h9⟩ := own_ints hr3 (by simp [nums])
      exact ⟨A, c, by rw [← e2]; exact cell _ (by rw [List.getElem?_append_left (by omega)]; exact hc), h8, h9⟩
    · exact ⟨some ⟨w.heap.size, 0, none⟩, 0, cell _ (by rw [← hl]; simp), Nat.le_refl _, C_zero _ _ _⟩

/-- What Solve answers. -/
def AnsOut (w : World) (r : St.Ans) (err : Int) (e : Ending) (w' : World) : Prop :=
  ∃ A1 c1 A2 c2, e = .returned (.tuple #[.int .i64 (r.what : Int), .slice A1 r.vals.length c1, .slice A2 r.pf.length c2, .int .i64 err]) ∧ Kd.C Kd.bool w' A1 r.vals.length r.vals ∧ r.vals.length ≤ c1 ∧ Kd.C kII w' A2 r.pf.length r.pf ∧ r.pf.length ≤ c2 ∧ Below w.heap.size w w'
theorem AnsOut.of_pf {w w' : World} {what : Nat} {pf : List (List Int)} {A : Option Addr} {c : Nat} {err : Int} (hC : Kd.C kII w' A pf.length pf) (hc : pf.length ≤ c) (hb : Below w.heap.size w w') :
    AnsOut w ⟨what, [], pf⟩ err (.returned (.tuple #[.int .i64 (what : Int), .slice none 0 0, .slice A pf.length c, .int .i64 err])) w' := ⟨none, 0, A, c, rfl, Kd.C_nil _ _, Nat.le_refl _, hC, hc, hb⟩
theorem AnsOut.nils {w w' : World} {what : Nat} {err : Int} (hb : Below w.heap.size w w') :
    AnsOut w ⟨what, [], []⟩ err (.returned (.tuple #[.int .i64 (what : Int), .slice none 0 0, .slice none 0 0, .int .i64 err])) w' := ⟨_, 0, _, 0, rfl, Kd.C_nil _ _, Nat.le_refl _, Kd.C_nil _ _, Nat.le_refl _, hb⟩
theorem AnsOut.of_vals {w w' : World} {what : Nat} {vs : List Bool} {A : Option Addr} {c : Nat} {err : Int} (hC : Kd.C Kd.bool w' A vs.length vs) (hc : vs.length ≤ c) (hb : Below w.heap.size w w') :
    AnsOut w ⟨what, vs, []⟩ err (.returned (.tuple #[.int .i64 (what : Int), .slice A vs.length c, .slice none 0 0, .int .i64 err])) w' := ⟨A, c, _, 0, rfl, hC, hc, Kd.C_nil _ _, Nat.le_refl _, hb⟩

theorem run_step {F : Fl} {budget : Int} {f : Nat} {s : St} {c : Nat} {r : St.Ans} (h : St.run F budget f s c = some r) : ∃ g, f = g + 1 ∧ ∃ s1 ko, St.spread (s.n + 2) s = some (s1, ko) ∧
    ((∃ k, ko = some k ∧ budget < (c : Int) + 1 ∧ r = ⟨0, [], []⟩) ∨
     (∃ k, ko = some k ∧ (c : Int) + 1 ≤ budget ∧ k < bigN ∧ ∃ s2, (St.conflict F s1 k = some (s2, true) ∧ St.run F budget g s2 (c + 1) = some r) ∨ (St.conflict F s1 k = some (s2, false) ∧ s2.pf.length < bigN ∧ r = ⟨2, [], s2.pf ++ [[]]⟩)) ∨
     (ko = none ∧ ∃ v, St.choose F s1 = some v ∧ ((v = 0 ∧ s1.n < s1.va.length ∧ r = ⟨1, s1.vals, []⟩) ∨
       (v ≠ 0 ∧ s1.ma.length < bigN ∧ v < bigN ∧ ∃ s2, St.set { s1 with ma := s1.ma ++ [s1.tr.length] } (-(v : Int)) (-1) = some s2 ∧ St.run F budget g s2 c = some r)))) := by
  cases f with
  | zero => cases h
  | succ g =>
    refine ⟨g, rfl, ?_⟩
    unfold St.run at h
    simp only [Option.bind_eq_bind, Option.bind_eq_some_iff] at h
    obtain ⟨⟨s1, ko⟩, hs, h⟩ := h
    refine ⟨s1, ko, hs, ?_⟩
    cases ko with
    | some k =>
      simp only at h
      split at h
      · exact .inl ⟨k, rfl, ‹_›, (Option.some.inj h).symm⟩
      · rename_i hb
        split at h
        · rename_i hk
          simp only [Option.bind_eq_some_iff] at h
          obtain ⟨⟨s2, ok⟩, hc, h⟩ := h
          refine .inr (.inl ⟨k, rfl, by omega, hk, s2, ?_⟩)
          cases ok with
          | true => exact .inl ⟨hc, by simpa using h⟩
          | false =>
            simp only [Bool.false_eq_true, if_false] at h
            split at h
            · exact .inr ⟨hc, ‹_›, (Option.some.inj h).symm⟩
            · cases h
        · cases h
    | none =>
      simp only [Option.bind_eq_some_iff] at h
      obtain ⟨v, hv, h⟩ := h
      refine .inr (.inr ⟨rfl, v, hv, ?_⟩)
      split at h
      · split at h
        · exact .inl ⟨‹_›, ‹_›, (Option.some.inj h).symm⟩
        · cases h
      · rename_i hv0
        split at h
        · rename_i hm
          simp only [Option.bind_eq_some_iff] at h
          obtain ⟨s2, h2, h⟩ := h
          exact .inr ⟨hv0, hm.1, hm.2, s2, h2, h⟩
        · cases h

/-- The whole of it. -/
noncomputable def solveRun (budget : Int) (fuel n : Nat) (L : List (List Int)) : Option St.Ans :=
  match St.begin (St.start n) (L.map plI) with
  | none => none
  | some (s, true) => St.run flS budget fuel s 0
  | some (_, false) => if budget < 1 then some ⟨0, [], []⟩ else some ⟨2, [], [[]]⟩
end Go.Proofs.Ytbagcbiekpopbaa

namespace Go.Proofs.Ytbagcbiekpopbaa
open Go.RowKit Go.Shelf Go.Proofs.YtbagcbiekpopbaaW.PrintWords Go.Proofs.YtbagcbiekpopbaaW.PrintLast
set_option linter.unusedVariables false
set_option linter.unusedSimpArgs false

theorem results_tmp4 {fn : Func} {t u v x : Tmp} (h : fn.results = #[.tmp t, .tmp u, .tmp v, .tmp x]) (tmps : Array Value) (P : Program) (w : World) :
    (results fn tmps).run P w = .ok (.tuple #[tmps.getD t undef, tmps.getD u undef, tmps.getD v undef, tmps.getD x undef]) w := by
  simp [results, h]
theorem emptyProof (w : World) : Kd.C kII ((w.alloc (.cells #[] 3)).alloc (.cells #[.slice (some ⟨w.heap.size, 0, none⟩) 0 0] 37)) (some ⟨w.heap.size + 1, 0, none⟩) 1 [[]] := by
  refine CII_of_cells (xs := [[]]) (by decide) (fun j r hj => ?_)
  match j, hj with
  | 0, hj =>
    have hr : r = [] := by simpa using hj.symm
    subst hr
    exact ⟨some ⟨w.heap.size, 0, none⟩, 0, cell_new2 w _ _ _ 0, Nat.le_refl _, C_zero _ _ _⟩
  | j + 1, hj => simp at hj
/-- Rows as they are handed in: none of them nil. -/
structure RowsN (w : World) (A : Option Addr) (c : Nat) (L : List (List Int)) : Prop where
  C : Kd.C kII w A L.length L
  cap : L.length ≤ c
  max : c ≤ 9223372036854775807
  short : ∀ l ∈ L, l.length ≤ 1000
  rows : 0 < L.length → ∃ b off, A = some ⟨b, off, none⟩ ∧ ∀ (j : Nat) l, L[j]? = some l → ∃ a cc, w.cell? ⟨b, off + j, none⟩ = some (.slice (some a) l.length cc) ∧ Kd.C kI w (some a) l.length l
theorem RowsN.below {w w' : World} {A : Option Addr} {c : Nat} {L : List (List Int)} (h : RowsN w A c L) (hb : Below w.heap.size w w') : RowsN w' A c L where
  C := Kd.C_below h.C hb
  cap := h.cap
  max := h.max
  short := h.short
  rows hp := by
    obtain ⟨b, off, e, h1⟩ := h.rows hp
    refine ⟨b, off, e, fun j l hj => ?_⟩
    obtain ⟨a, cc, h2, h3⟩ := h1 j l hj
    exact ⟨a, cc, (hb.cell (World.block_lt_of_cell? w _ h2)).trans h2, Kd.C_below h3 hb⟩

set_option maxHeartbeats 1000000 in
set_option maxRecDepth 100000 in
theorem begin_zero (n0 : Int) (A : Option Addr) (cap : Nat) (w : World) (B sb : Nat) (s : St) (h : Hp) (R : Rep w B sb s h) :
    Calls Try.prog 19 #[.pointer (some ⟨sb, 0, none⟩), .agg #[.int .i64 n0, .slice A 0 cap]] w (StepOut w B sb h (.bool true) s) := by
  have HR := Aside0.mk R
  clear R
  go_enter Try.func19, Try.ntmps19
  go_wp2
  go_loopg [12] 0 (fun gg s12 wr => s12 = .int .i64 (0 : Int) ∧ Aside0 (Below w.heap.size w wr))
  case atStart => exact ⟨rfl, ⟨(Below.refl _ w).alloc (Nat.le_refl _) _⟩⟩
  case round =>
    obtain ⟨rfl, HB⟩ := hrel
    go_wp2
    go_ret
    exact ⟨rfl, h, HR.out.below HB.out, Stp.of_below HB.out⟩
theorem begin_all (n0 : Int) (L : List (List Int)) (A : Option Addr) (cap m : Nat) (w0 w : World) (B sb : Nat) (s s' : St) (ok : Bool) (h : Hp) (R : Rep w B sb s h) (hs : s.begin (L.map plI) = some (s', ok)) (hrow : RowsN w0 A cap L) (hm : L.length = m) (hb : Below w0.heap.size w0 w) (hB : B = w0.heap.size) :
    Calls Try.prog 19 #[.pointer (some ⟨sb, 0, none⟩), .agg #[.int .i64 n0, .slice A m cap]] w (StepOut w B sb h (.bool ok) s') := by
  subst hB
  by_cases h0 : m = 0
  · subst h0
    obtain rfl : L = [] := List.eq_nil_of_length_eq_zero hm
    have hs' : some (s, true) = some (s', ok) := hs
    obtain ⟨rfl, rfl⟩ := Prod.mk.inj (Option.some.inj hs')
    exact begin_zero n0 A cap w _ sb s h R
  · obtain ⟨b, off, rfl, hr⟩ := hrow.rows (by omega)
    refine begin_any n0 L b off cap m w _ sb s s' ok h R hs (fun W hW j l hj => ⟨hrow.short l (List.mem_of_getElem? hj), ?_⟩) hm (by rw [← hm]; exact hrow.cap) hrow.max
    obtain ⟨a, cc, h2, h3⟩ := hr j l hj
    have hb2 := hb.trans hW
    exact ⟨a, cc, (hb2.cell (World.block_lt_of_cell? w0 _ h2)).trans h2, Kd.C_below h3 hb2⟩

set_option maxHeartbeats 8000000 in
set_option maxRecDepth 100000 in
theorem Solve_run (cnt : Nat) (budget : Int) (A : Option Addr) (c : Nat) (l : List (List Int)) (w : World) (hrow : RowsN w A c l) (hck : checkI cnt l = 0) (hb : 0 ≤ budget) (hb2 : budget ≤ 100000) (hn : cnt < 1000000) (fuel : Nat) (r : St.Ans) (hs : solveRun budget fuel cnt l = some r) :
    Calls Try.prog 9 #[.agg #[.int .i64 (cnt : Int), .slice A l.length c], .int .i64 budget] w (AnsOut w r 0) := by
  have HCk := fun (W : World) (hb : Below w.heap.size w W) => Check_any cnt A c l W (Kd.C_below hrow.C hb)
  rw [hck] at HCk
  obtain ⟨m, hm⟩ : ∃ m, l.length = m := ⟨_, rfl⟩
  rw [hm] at HCk ⊢
  have hbd : decide (budget < 0) = false := by simp; omega
  have HH := Aside0.mk (And.intro hrow (And.intro hs hm))
  clear hrow hck hs hm
  obtain ⟨N, hN⟩ : ∃ N, w.heap.size = N := ⟨_, rfl⟩
  have hb0 : Below w.heap.size w (w.alloc (.cells #[.int .i64 (cnt : Int), .slice A m c] 24)) := (Below.refl _ w).alloc (Nat.le_refl _) _
  have HC0 := HCk _ hb0
  have HX1 : Aside0 (∀ w1, Below (w.alloc (.cells #[.int .i64 (cnt : Int), .slice A m c] 24)).heap.size (w.alloc (.cells #[.int .i64 (cnt : Int), .slice A m c] 24)) w1 → w1.heap[N]? = some (.cells #[.int .i64 (cnt : Int), .slice A m c] 24 (0, 0))) := ⟨fun w1 hb1 => by
    have h1 := World.alloc_heap_new w (.cells #[.int .i64 (cnt : Int), .slice A m c] 24)
    rw [hN] at h1
    exact (hb1.block N (blk_lt h1)).trans h1⟩
  clear HCk
  go_enter Try.func9, Try.ntmps9
  go_wp2_with (go_at_call 17; refine HC0.mono ?_; rintro e w1 ⟨rfl, hb1⟩; have hN1 := HX1.out w1 hb1; have hx0 : w1.cell? ⟨N, 0, none⟩ = some (.int .i64 (cnt : Int)) := (by simp [World.cell?, hN1]); have HB1 := Aside0.mk (And.intro hb1 hN1); clear hb1 hN1)
  have hmm := @run_makeMap Try.prog
  obtain ⟨iI, hiI, hzI, hsI, hbI⟩ := info_parts infoI
  obtain ⟨iF, hiF, hzF, hsF, hbF⟩ := info_parts infoF
  have hmkI : ∀ W : World, (Instr.makeSlice 37 (.int .i64 ((cnt : Int) + 1)) (.int .i64 ((cnt : Int) + 1))).run Try.prog W = .ok (.slice (some ⟨W.heap.size, 0, none⟩) (cnt + 1) (cnt + 1)) (W.alloc (.cells (madeCells #[.int .i64 0] (cnt + 1)) 3)) := fun W => by
    have := run_make (P := Try.prog) W 37 3 iI (.int .i64 0) Try.underlying37 hiI hzI .i64 .i64 ((cnt : Int) + 1) ((cnt : Int) + 1) (by omega) (by omega) (by rw [hbI]; omega) (by omega)
    rw [hsI, Nat.mul_one] at this
    exact this
  have hmkF : ∀ W : World, (Instr.makeSlice 44 (.int .i64 ((cnt : Int) + 1)) (.int .i64 ((cnt : Int) + 1))).run Try.prog W = .ok (.slice (some ⟨W.heap.size, 0, none⟩) (cnt + 1) (cnt + 1)) (W.alloc (.cells (madeCells #[.float .f64 0] (cnt + 1)) 45)) := fun W => by
    have := run_make (P := Try.prog) W 44 45 iF (.float .f64 0) Try.underlying44 hiF hzF .i64 .i64 ((cnt : Int) + 1) ((cnt : Int) + 1) (by omega) (by omega) (by rw [hbF]; omega) (by omega)
    rw [hsF, Nat.mul_one] at this
    exact this
  refine wp_region_any (by kernel_rfl) ?_
  refine any_inv (fun fuel listed a w' => ∃ v bl, a = act5 cnt m c N budget A v ∧ G5 w1 N cnt listed v bl w' ∧ leftOf 14 listed = fuel) ?hend ?hzero ?hstep 14 _ _ _ ?start
  case start =>
    refine ⟨fun _ => undef, fun _ => 0, rfl, ?_, by decide⟩
    have hf : ∀ k, (Array.replicate 14 false).getD k false = false := getD_replicate_false 14
    show G5 w1 N cnt (Array.replicate 14 false) _ _ _
    exact ⟨rfl, ⟨rfl, rfl, rfl, Nat.le_refl _, fun _ _ => rfl⟩, fun e => absurd e (by rw [hf]; decide), fun e => absurd e (by rw [hf]; decide), fun k _ e => absurd e (by rw [hf]; decide), fun e => absurd e (by rw [hf]; decide), fun k _ e => absurd e (by rw [hf]; decide), fun k _ e => absurd e (by rw [hf]; decide), fun j k _ _ _ e => absurd e (by rw [hf]; decide), fun e => absurd e (by rw [hf]; decide), fun e => absurd e (by rw [hf]; decide), fun e => absurd e (by rw [hf]; decide), fun e => absurd e (by rw [hf]; decide), fun e => absurd e (by rw [hf]; decide), fun e => absurd e (by rw [hf]; decide)⟩
  case hzero =>
    rintro listed a w' ⟨v, bl, rfl, G, hl⟩
    unfold Region.ready
    rw [List.filter_eq_nil_iff]
    intro i hi
    have hi2 : i < 14 := by simpa using hi
    have := leftOf_zero hl hi2
    simp [this]
  case hstep =>
    rintro fuel listed a w' i ⟨v, bl, rfl, G, hl⟩ hi
    obtain ⟨hun, o, ho, hall⟩ := mem_ready.1 hi
    have hlt : i < 14 := by have := (Array.getElem?_eq_some_iff.1 ho).1; simpa using this
    unfold wpOp
    simp only [ho]
    have hun2 : listed.getD i false = false := getD_both hun
    match i, hlt with
    | 0, _ =>
      simp at ho
      subst ho
      rw [if_pos (by rfl)]
      left
      unfold act5
      go_simp
      refine ⟨upd v 0 (.pointer (some ⟨N, 0, none⟩)), ⟨rfl, rfl, rfl, rfl, rfl, rfl, rfl, rfl, rfl, rfl, rfl, rfl, rfl, rfl⟩, ⟨bl, G.low (by simp) hun2 (fun e => by first | rfl | cases e) (fun e => by first | rfl | cases e) (fun e => by first | rfl | (simp at e))⟩, ?_⟩
      have := leftOf_set G.size hun
      omega
    | 3, _ =>
      simp at ho
      subst ho
      rw [if_pos (by rfl)]
      left
      unfold act5
      go_simp
      refine ⟨upd v 3 (.int .i64 ((cnt : Int) + 1)), ⟨rfl, rfl, rfl, rfl, rfl, rfl, rfl, rfl, rfl, rfl, rfl, rfl, rfl, rfl⟩, ⟨bl, G.low (by simp) hun2 (fun e => by first | rfl | cases e) (fun e => by first | rfl | cases e) (fun e => by first | rfl | (simp at e))⟩, ?_⟩
      have := leftOf_set G.size hun
      omega
    | 5, _ =>
      simp at ho
      subst ho
      rw [if_pos (by rfl)]
      left
      unfold act5
      go_simp
      refine ⟨upd v 5 (.int .i64 ((cnt : Int) + 1)), ⟨rfl, rfl, rfl, rfl, rfl, rfl, rfl, rfl, rfl, rfl, rfl, rfl, rfl, rfl⟩, ⟨bl, G.low (by simp) hun2 (fun e => by first | rfl | cases e) (fun e => by first | rfl | cases e) (fun e => by first | rfl | (simp at e))⟩, ?_⟩
      have := leftOf_set G.size hun
      omega
    | 7, _ =>
      simp at ho
      subst ho
      rw [if_pos (by rfl)]
      left
      unfold act5
      go_simp
      refine ⟨upd v 7 (.int .i64 ((cnt : Int) + 1)), ⟨rfl, rfl, rfl, rfl, rfl, rfl, rfl, rfl, rfl, rfl, rfl, rfl, rfl, rfl⟩, ⟨bl, G.low (by simp) hun2 (fun e => by first | rfl | cases e) (fun e => by first | rfl | cases e) (fun e => by first | rfl | (simp at e))⟩, ?_⟩
      have := leftOf_set G.size hun
      omega
    | 9, _ =>
      simp at ho
      subst ho
      rw [if_pos (by rfl)]
      left
      unfold act5
      go_simp
      refine ⟨upd v 9 (.int .i64 ((cnt : Int) + 1)), ⟨rfl, rfl, rfl, rfl, rfl, rfl, rfl, rfl, rfl, rfl, rfl, rfl, rfl, rfl⟩, ⟨bl, G.low (by simp) hun2 (fun e => by first | rfl | cases e) (fun e => by first | rfl | cases e) (fun e => by first | rfl | (simp at e))⟩, ?_⟩
      have := leftOf_set G.size hun
      omega
    | 1, _ =>
      simp at ho
      subst ho
      rw [if_pos (by rfl)]
      left
      have d := G.h0 (hall { on := 0, ground := .data } (by simp) rfl)
      have hx : w'.cell? ⟨N, 0, none⟩ = some (.int .i64 (cnt : Int)) := (G.bel.cell (p := ⟨N, 0, none⟩) (World.block_lt_of_cell? w1 _ hx0)).trans hx0
      unfold act5
      rw [d]
      go_simp
      refine ⟨upd v 1 (.int .i64 (cnt : Int)), ⟨rfl, d.symm, rfl, rfl, rfl, rfl, rfl, rfl, rfl, rfl, rfl, rfl, rfl, rfl⟩, ⟨bl, G.low (by simp) hun2 (fun e => by first | rfl | cases e) (fun e => by first | rfl | cases e) (fun e => by first | rfl | (simp at e))⟩, ?_⟩
      have := leftOf_set G.size hun
      omega
    | 2, _ =>
      simp at ho
      subst ho
      rw [if_pos (by rfl)]
      left
      unfold act5
      skip
      go_simp
      refine ⟨upd v 2 (.map (some w'.heap.size)), ⟨rfl, rfl, rfl, rfl, rfl, rfl, rfl, rfl, rfl, rfl, rfl, rfl, rfl, rfl⟩, ⟨upd bl 2 w'.heap.size, G.made (by simp) hun2 (fun e => by first | rfl | cases e) (fun e => by first | rfl | (simp at e))⟩, ?_⟩
      have := leftOf_set G.size hun
      omega
    | 4, _ =>
      simp at ho
      subst ho
      rw [if_pos (by rfl)]
      left
      have d := G.h3 3 (by simp) (hall { on := 3, ground := .data } (by simp) rfl)
      unfold act5
      rw [d]
      go_simp
      refine ⟨upd v 4 (.slice (some ⟨w'.heap.size, 0, none⟩) (cnt + 1) (cnt + 1)), ⟨rfl, rfl, rfl, rfl, d.symm, rfl, rfl, rfl, rfl, rfl, rfl, rfl, rfl, rfl⟩, ⟨upd bl 4 w'.heap.size, G.made (by simp) hun2 (fun e => by first | rfl | cases e) (fun e => by first | rfl | (simp at e))⟩, ?_⟩
      have := leftOf_set G.size hun
      omega
    | 6, _ =>
      simp at ho
      subst ho
      rw [if_pos (by rfl)]
      left
      have d := G.h3 5 (by simp) (hall { on := 5, ground := .data } (by simp) rfl)
      unfold act5
      rw [d]
      go_simp
      refine ⟨upd v 6 (.slice (some ⟨w'.heap.size, 0, none⟩) (cnt + 1) (cnt + 1)), ⟨rfl, rfl, rfl, rfl, rfl, rfl, d.symm, rfl, rfl, rfl, rfl, rfl, rfl, rfl⟩, ⟨upd bl 6 w'.heap.size, G.made (by simp) hun2 (fun e => by first | rfl | cases e) (fun e => by first | rfl | (simp at e))⟩, ?_⟩
      have := leftOf_set G.size hun
      omega
    | 8, _ =>
      simp at ho
      subst ho
      rw [if_pos (by rfl)]
      left
      have d := G.h3 7 (by simp) (hall { on := 7, ground := .data } (by simp) rfl)
      unfold act5
      rw [d]
      go_simp
      refine ⟨upd v 8 (.slice (some ⟨w'.heap.size, 0, none⟩) (cnt + 1) (cnt + 1)), ⟨rfl, rfl, rfl, rfl, rfl, rfl, rfl, rfl, d.symm, rfl, rfl, rfl, rfl, rfl⟩, ⟨upd bl 8 w'.heap.size, G.made (by simp) hun2 (fun e => by first | rfl | cases e) (fun e => by first | rfl | (simp at e))⟩, ?_⟩
      have := leftOf_set G.size hun
      omega
    | 10, _ =>
      simp at ho
      subst ho
      rw [if_pos (by rfl)]
      left
      have d := G.h3 9 (by simp) (hall { on := 9, ground := .data } (by simp) rfl)
      unfold act5
      rw [d]
      go_simp
      refine ⟨upd v 10 (.slice (some ⟨w'.heap.size, 0, none⟩) (cnt + 1) (cnt + 1)), ⟨rfl, rfl, rfl, rfl, rfl, rfl, rfl, rfl, rfl, rfl, d.symm, rfl, rfl, rfl⟩, ⟨upd bl 10 w'.heap.size, G.made (by simp) hun2 (fun e => by first | rfl | cases e) (fun e => by first | rfl | (simp at e))⟩, ?_⟩
      have := leftOf_set G.size hun
      omega
    | 11, _ =>
      simp at ho
      subst ho
      rw [if_pos (by rfl)]
      left
      have d1 := G.h1 (hall { on := 1, ground := .data } (by simp) rfl)
      have d2 := G.h2 (hall { on := 2, ground := .data } (by simp) rfl)
      have d4 := G.h4 4 (by simp) (hall { on := 4, ground := .data } (by simp) rfl)
      have d6 := G.h4 6 (by simp) (hall { on := 6, ground := .data } (by simp) rfl)
      have d8 := G.h4 8 (by simp) (hall { on := 8, ground := .data } (by simp) rfl)
      have d10 := G.h4 10 (by simp) (hall { on := 10, ground := .data } (by simp) rfl)
      unfold act5
      rw [d1, d2, d4, d6, d8, d10]
      go_simp
      refine ⟨upd v 11 (.agg #[.int .i64 (cnt : Int), nilS, v 2, v 4, v 6, v 8, nilS, nilS, .int .i64 0, v 10, .float .f64 4607182418800017408, nilS]), ⟨rfl, rfl, d1.symm, d2.symm, rfl, d4.symm, rfl, d6.symm, rfl, d8.symm, rfl, d10.symm, by rw [d2, d4, d6, d8, d10]; rfl, rfl⟩, ⟨bl, G.built hun2 (fun k hk => ?_) rfl⟩, ?_⟩
      · exact hall { on := k, ground := .data } (by simp at hk ⊢; omega) rfl
      have := leftOf_set G.size hun
      omega
    | 12, _ =>
      simp at ho
      subst ho
      rw [if_pos (by rfl)]
      left
      have d0 := (hall { on := 11, ground := .data } (by simp) rfl)
      have d11 := G.h11 d0
      unfold act5
      rw [d11]
      go_simp
      refine ⟨upd v 12 (.pointer (some ⟨w'.heap.size, 0, none⟩)), ⟨rfl, rfl, rfl, rfl, rfl, rfl, rfl, rfl, rfl, rfl, rfl, rfl, d11.symm, rfl⟩, ⟨upd bl 12 w'.heap.size, G.boxed hun2 d0⟩, ?_⟩
      have := leftOf_set G.size hun
      omega
    | 13, _ =>
      simp at ho
      subst ho
      rw [if_pos (by rfl)]
      left
      have d0 := (hall { on := 12, ground := .data } (by simp) rfl)
      have d12 := (G.h12 d0).1
      unfold act5
      rw [d12]
      go_simp
      refine ⟨upd v 13 (v 12), ⟨d12.symm, rfl, rfl, rfl, rfl, rfl, rfl, rfl, rfl, rfl, rfl, rfl, rfl, d12.symm⟩, ⟨bl, G.last d0⟩, ?_⟩
      have := leftOf_set G.size hun
      omega
    | _ + 14, h => exact absurd h (by omega)
  case hend =>
    rintro fuel2 listed a w2 ⟨v, bl, rfl, G, hl⟩ hr
    have hA := all_listed (by kernel_rfl) hr (by rw [G.size]; rfl)
    have hB : ∀ i, i < 14 → listed.getD i false = true := fun i hi => hA i (by simpa using hi)
    have hw1 : w.heap.size ≤ w1.heap.size := Nat.le_trans (by simp) HB1.out.1.size
    have R0 := G.rep hB hn (B := w.heap.size) hw1
    have e13 : v 13 = .pointer (some ⟨bl 12, 0, none⟩) := by rw [G.h13 (hB 13 (by omega)), (G.h12 (hB 12 (by omega))).1]
    have hbw : Below w.heap.size w w2 := (((bel_alloc w _).trans (HB1.out.1.mono (by simp)))).trans (G.bel.mono hw1)
    have hN2 : w2.heap[N]? = some (.cells #[.int .i64 (cnt : Int), .slice A m c] 24 (0, 0)) := (G.bel.block N (blk_lt HB1.out.2)).trans HB1.out.2
    have k0 := blk_cellA hN2 0
    have k1 := blk_cellA hN2 1
    have l0 := blk_frozen hN2 0
    have l1 := blk_frozen hN2 1
    obtain ⟨sb, hsb⟩ : ∃ sb, bl 12 = sb := ⟨_, rfl⟩
    rw [hsb] at R0 e13
    obtain ⟨h0, hh0⟩ : ∃ h0, hp0 v bl = h0 := ⟨_, rfl⟩
    rw [hh0] at R0
    obtain ⟨hrow, hs, hm⟩ := HH.out
    unfold solveRun at hs
    unfold act5
    rw [e13]
    have HRow := Aside0.mk hrow
    have HB2 := Aside0.mk hbw
    have HM := Aside0.mk hm
    have HR0 := Aside0.mk R0
    clear HX1 HC0 hx0 hmm hmkI hmkF hiI hzI hsI hbI hiF hzF hsF hbF HB1 G hB hA hr hl hN2 e13 hsb hh0 R0 hbw hrow hm HH hw1 hb0
    generalize v 0 = z0, v 1 = z1, v 2 = z2, v 3 = z3, v 4 = z4, v 5 = z5, v 6 = z6, v 7 = z7, v 8 = z8, v 9 = z9, v 10 = z10, v 11 = z11, v 12 = z12
    have hbeg : ∃ s1 ok, St.begin (St.start cnt) (l.map plI) = some (s1, ok) := by
      cases e : St.begin (St.start cnt) (l.map plI) with
      | none => rw [e] at hs; cases hs
      | some p => exact ⟨p.1, p.2, rfl⟩
    obtain ⟨s1, ok, hbeg⟩ := hbeg
    rw [hbeg] at hs
    have HBeg := begin_all (cnt : Int) l A c m w w2 w.heap.size sb _ s1 ok h0 HR0.out hbeg HRow.out HM.out HB2.out rfl
    clear hbeg hN
    have hl2 : (l.length : Int) = (m : Int) := by rw [HM.out]
    rename_i K hK
    refine hK _ _ ?_
    clear hK hl2
    dsimp only
    cases ok with
    | false =>
      have hs2 : (if budget < 1 then some (⟨0, [], []⟩ : St.Ans) else some ⟨2, [], [[]]⟩) = some r := hs
      clear hs
      by_cases h1 : budget < 1
      · have hd : decide (budget < 1) = true := decide_eq_true h1
        rw [if_pos h1] at hs2
        obtain rfl := Option.some.inj hs2
        clear hs2
        go_wp2_with (go_at_call 19; refine HBeg.mono ?_; rintro e w3 ⟨rfl, h3, hR3, hS3⟩; have HB3 := Aside0.mk (hS3.below HR0.out); clear hR3 hS3)
        (try simp only [Exit.inBlock, Exit.then]); refine bodyPost_ret (results_tmp4 rfl _ _ _) rfl ?_
        exact AnsOut.nils (HB2.out.trans HB3.out)
      · have hd : decide (budget < 1) = false := decide_eq_false h1
        rw [if_neg h1] at hs2
        obtain rfl := Option.some.inj hs2
        clear hs2
        go_wp2_with (go_at_call 19; refine HBeg.mono ?_; rintro e w3 ⟨rfl, h3, hR3, hS3⟩; have HB3 := Aside0.mk (hS3.below HR0.out); clear hR3 hS3)
        (try simp only [Exit.inBlock, Exit.then]); refine bodyPost_ret (results_tmp4 rfl _ _ _) rfl ?_
        refine AnsOut.of_pf (pf := [[]]) (emptyProof w3) (by decide) ?_
        exact (HB2.out.trans HB3.out).trans ((bel2 w3 _ _).mono (HB2.out.trans HB3.out).size)
    | true =>
      have hs2 : St.run flS budget fuel s1 0 = some r := hs
      clear hs
      have HS2 := Aside0.mk hs2
      clear hs2
      go_wp2_with (go_at_call 19; refine HBeg.mono ?_; rintro e w3 ⟨rfl, h3, hR3, hS3⟩; have HB3 := Aside0.mk (And.intro hR3 (HB2.out.trans (hS3.below HR0.out))); clear hR3 hS3)
      clear HBeg HR0 HB2 k0 k1 l0 l1
      go_loopg [11, 12, 13] fuel (fun gg s11 s12 s13 wr => ∃ (cc : Nat) (s : St) (h : Hp), s11 = .int .i64 (cc : Int) ∧ (cc : Int) ≤ budget ∧ gg ≤ fuel ∧ Aside0 (Rep wr w.heap.size sb s h ∧ Below w.heap.size w wr ∧ St.run flS budget gg s cc = some r))
      case atStart => exact ⟨0, s1, h3, rfl, hb, Nat.le_refl _, ⟨HB3.out.1, HB3.out.2, HS2.out⟩⟩
      case round =>
        obtain ⟨cc, s, h, rfl, hcc, hgf, HI⟩ := hrel
        clear HB3 HS2
        obtain ⟨g', rfl, s2, ko, hsp, hcase⟩ := run_step HI.out.2.2
        have HSp := spread_any (s.n + 2) wr _ sb s s2 ko h HI.out.1 hsp
        have HC := Aside0.mk hcase
        clear hsp hcase
        rcases HC.out with ⟨k, rfl, h1, rfl⟩ | ⟨k, rfl, h1, hk, s5, hcf⟩ | ⟨rfl, v0, hv0, hcs⟩
        · have HSp' : Calls Try.prog 20 #[.pointer (some ⟨sb, 0, none⟩)] wr (fun e w' => e = .returned (.int .i64 (k : Int)) ∧ ∃ h', Rep w' w.heap.size sb s2 h' ∧ Stp wr w' h h') := HSp
          have hd0 : decide ((0 : Int) ≤ (k : Int)) = true := by simp
          have hd1 : decide (budget < (cc : Int) + 1) = true := decide_eq_true h1
          clear HSp HC
          go_wp2_with (go_at_call 20; refine HSp'.mono ?_; rintro e w4 ⟨rfl, h4, hR4, hS4⟩; have HB4 := Aside0.mk (HI.out.2.1.trans (hS4.below HI.out.1)); clear hR4 hS4)
          (try simp only [Exit.inBlock, Exit.then]); refine bodyPost_ret (results_tmp4 rfl _ _ _) rfl ?_
          exact AnsOut.nils HB4.out
        · have HSp' : Calls Try.prog 20 #[.pointer (some ⟨sb, 0, none⟩)] wr (fun e w' => e = .returned (.int .i64 (k : Int)) ∧ ∃ h', Rep w' w.heap.size sb s2 h' ∧ Stp wr w' h h') := HSp
          have hd0 : decide ((0 : Int) ≤ (k : Int)) = true := by simp
          have hd1 : decide (budget < (cc : Int) + 1) = false := decide_eq_false (by omega)
          clear HSp HC
          rcases hcf with ⟨hcf, hrun⟩ | ⟨hcf, hpf, rfl⟩
          · have HRun := Aside0.mk hrun
            have HCf := fun (w4 : World) (h4 : Hp) (hR4 : Rep w4 w.heap.size sb s2 h4) => conflict_any k hk true w4 _ sb s2 s5 h4 hR4 hcf
            clear hrun hcf
            go_wp2_with (first
              | (go_at_call 20; refine HSp'.mono ?_; rintro e w4 ⟨rfl, h4, hR4, hS4⟩; have HC4 := HCf w4 h4 hR4; have HB4 := Aside0.mk (And.intro hR4 (HI.out.2.1.trans (hS4.below HI.out.1))); clear hR4 hS4)
              | (go_at_call 21; refine HC4.mono ?_; rintro e w5 ⟨rfl, h5, hR5, hS5⟩; have HB5 := Aside0.mk (And.intro hR5 (HB4.out.2.trans (hS5.below HB4.out.1))); clear hR5 hS5))
            go_roundg g'
            case measure => omega
            case rel => exact ⟨cc + 1, s5, h5, by go_num, by omega, by omega, ⟨HB5.out.1, HB5.out.2, HRun.out⟩⟩
          · have HCf := fun (w4 : World) (h4 : Hp) (hR4 : Rep w4 w.heap.size sb s2 h4) => conflict_any k hk false w4 _ sb s2 s5 h4 hR4 hcf
            clear hcf
            go_wp2_with (first
              | (go_at_call 20; refine HSp'.mono ?_; rintro e w4 ⟨rfl, h4, hR4, hS4⟩; have HC4 := HCf w4 h4 hR4; have HB4 := Aside0.mk (And.intro hR4 (HI.out.2.1.trans (hS4.below HI.out.1))); clear hR4 hS4)
              | (go_at_call 21; refine HC4.mono ?_; rintro e w5 ⟨rfl, h5, hR5, hS5⟩; have h11 : w5.cell? ⟨sb, 11, none⟩ = some (h5.val .pf) := hR5.cell 11; have f11 := hR5.frozen 11; have HB5 := Aside0.mk (And.intro hR5 (HB4.out.2.trans (hS5.below HB4.out.1))); clear hR5 hS5)
              | (at_builtin; refine print_append (w0 := w) w.heap.size rfl (.tmp 63) (.tmp 65) 22 37 (.slice none 0 0) 24 rfl Try.underlying22 infoII rfl (by decide) (h5.val .pf) (cellsOf s5 h5.val .pf) (.slice (some ⟨w5.heap.size, 0, none⟩) 0 0) rfl (by show Value.slice (some ⟨w5.heap.size + 1, 0, none⟩) 1 1 = _; simp) rfl ?aO ?aB ?aS ?aL ?_))
            case aO => exact (HB5.out.1.row .pf).row.alloc _
            case aB => exact HB5.out.2.alloc HB5.out.2.size _
            case aS => exact Nat.le_trans HB5.out.2.size (by simp)
            case aL =>
              have : (cellsOf s5 h5.val .pf).length = s5.pf.length := by simp [cellsOf]
              rw [this]
              unfold bigN at hpf
              omega
            intro v6 w6 hown hb6 hg hat
            obtain ⟨A6, c6, rfl, hc6, hC6⟩ := HB5.out.1.proofRows HB5.out.2.size (by simpa using hown) hg
            have HF := Aside0.mk (And.intro hC6 (And.intro hc6 hb6))
            clear hown hb6 hg hat hC6 hc6 h11 f11
            go_wp2
            (try simp only [Exit.inBlock, Exit.then]); refine bodyPost_ret (results_tmp4 rfl _ _ _) rfl ?_
            exact AnsOut.of_pf HF.out.1 HF.out.2.1 HF.out.2.2
        · have HSp' : Calls Try.prog 20 #[.pointer (some ⟨sb, 0, none⟩)] wr (fun e w' => e = .returned (.int .i64 (-1)) ∧ ∃ h', Rep w' w.heap.size sb s2 h' ∧ Stp wr w' h h') := HSp
          clear HSp HC
          have HCh := fun (w4 : World) (h4 : Hp) (hR4 : Rep w4 w.heap.size sb s2 h4) => choose_any w4 _ sb s2 h4 v0 hR4 hv0
          clear hv0
          rcases hcs with ⟨rfl, hva, rfl⟩ | ⟨hne, hma, hvb, s5, hset, hrun⟩
          · have HVl := fun (w4 : World) (h4 : Hp) (hR4 : Rep w4 w.heap.size sb s2 h4) => values_any w4 _ sb s2 h4 hR4 hva
            go_wp2_with (first
              | (go_at_call 20; refine HSp'.mono ?_; rintro e w4 ⟨rfl, h4, hR4, hS4⟩; have HC4 := HCh w4 h4 hR4; have HB4 := Aside0.mk (And.intro hR4 (HI.out.2.1.trans (hS4.below HI.out.1))); clear hR4 hS4)
              | (go_at_call 22; refine HC4.mono ?_; rintro e w5 ⟨rfl, hb5⟩; have HV5 := HVl w5 h4 (HB4.out.1.below hb5); have HB5 := Aside0.mk (HB4.out.2.trans (hb5.mono HB4.out.2.size)); clear hb5)
              | (go_at_call 23; refine HV5.mono ?_; rintro e w6 ⟨⟨v6, rfl, hown6⟩, hb6⟩; have HB6 := Aside0.mk (And.intro hown6 (HB5.out.trans (hb6.mono HB5.out.size))); clear hown6 hb6))
            have hvl : s2.n = s2.vals.length := by simp [St.vals]
            obtain ⟨A6, c6, rfl, hc6, hC6⟩ := own_bools HB6.out.1 hvl
            (try simp only [Exit.inBlock, Exit.then]); refine bodyPost_ret (results_tmp4 rfl _ _ _) rfl ?_
            exact AnsOut.of_vals hC6 hc6 HB6.out.2
          · have hd0 : ((v0 : Int) == 0) = false := by simpa using hne
            have HRun := Aside0.mk (And.intro hset (And.intro hrun hma))
            clear hset hrun hma
            go_wp2_with (first
              | (go_at_call 20; refine HSp'.mono ?_; rintro e w4 ⟨rfl, h4, hR4, hS4⟩; have HC4 := HCh w4 h4 hR4; have HB4 := Aside0.mk (And.intro hR4 (HI.out.2.1.trans (hS4.below HI.out.1))); clear hR4 hS4)
              | (go_at_call 22; refine HC4.mono ?_; rintro e w5 ⟨rfl, hb5⟩; have HB5 := Aside0.mk (And.intro (HB4.out.1.below hb5) (HB4.out.2.trans (hb5.mono HB4.out.2.size))); clear hb5))
            have hR5 := HB5.out.1
            have hsb5 := hR5.base.2.2
            obtain ⟨A7, c7, e7, hc71, hc72, -⟩ := (hR5.row .ma).form
            have l7 : (cellsOf s2 h4.val .ma).length = s2.ma.length := nats_length _
            have h7 := hR5.cell 7
            change w5.cell? ⟨sb, 7, none⟩ = some (h4.val .ma) at h7
            have f7 := hR5.frozen 7
            obtain ⟨A6, c6, e6, hc61, hc62, -⟩ := (hR5.row .tr).form
            have l6 : (cellsOf s2 h4.val .tr).length = s2.tr.length := nums_length _ _
            have h6 := hR5.cell 6
            change w5.cell? ⟨sb, 6, none⟩ = some (h4.val .tr) at h6
            obtain ⟨n6, hn6⟩ : ∃ n6, s2.tr.length = n6 := ⟨_, rfl⟩
            obtain ⟨n7, hn7⟩ : ∃ n7, s2.ma.length = n7 := ⟨_, rfl⟩
            rw [l6, hn6] at e6
            rw [l7, hn7] at e7
            rw [e6] at h6
            rw [e7] at h7
            have h7c : ∀ o, (w5.alloc o).cell? ⟨sb, 7, none⟩ = some (.slice A7 n7 c7) := fun o => (World.cell?_of_block (a := ⟨sb, 7, none⟩) (Below.heap_alloc w5 o sb hsb5)).trans h7
            have h6c : ∀ o, (w5.alloc o).cell? ⟨sb, 6, none⟩ = some (.slice A6 n6 c6) := fun o => (World.cell?_of_block (a := ⟨sb, 6, none⟩) (Below.heap_alloc w5 o sb hsb5)).trans h6
            have f7c : ∀ o, (w5.alloc o).frozen? ⟨sb, 7, none⟩ = false := fun o => (World.frozen?_of_block (a := ⟨sb, 7, none⟩) (Below.heap_alloc w5 o sb hsb5)).trans f7
            have HPO : Aside0 (w5.ownsRow w.heap.size 3 1 (.slice A7 n7 c7) (cellsOf s2 h4.val .ma).length (cellsOf s2 h4.val .ma)) := ⟨by
              have := (hR5.row .ma).row
              rw [e7] at this
              exact this⟩
            have hchain : Aside0 (∀ (X Y : World), Below w5.heap.size w5 X → X.grownBy Y (Value.slice A7 n7 c7).ownBlock → Y.heap[sb]? = w5.heap[sb]?) := ⟨fun X Y hb hg => (hg.block sb (Nat.lt_of_lt_of_le hsb5 hb.size) (fun e => by
              have h1 := (hR5.row .ma).own sb (by rw [e7]; exact e.symm)
              rw [hR5.osol] at h1
              cases h1)).trans (hb.block sb hsb5)⟩
            have HE := Aside0.mk (And.intro e7 (And.intro hn6 (And.intro hn7 (And.intro l7 h6))))
            have hn7b : n7 < 1099511627776 := by have := HRun.out.2.2; unfold bigN at this; omega
            clear e6 e7 hc71 hc72 hc61 hc62 hR5 l6 l7 hn6 hn7 HC4
            go_region_law (first
              | (refine step_append_all (w0 := w) w.heap.size (by rfl) (.tmp 77) (.tmp 83) 37 3 (.int .i64 0) 8 rfl Try.underlying37 infoI rfl (by decide) (.slice A7 n7 c7) (cellsOf s2 h4.val .ma) (some ⟨w5.heap.size, 0, none⟩) 1 1 [.int .i64 (n6 : Int)] rfl rfl (by simp [cellsOf, nats, Value.oneCell']) (by simp [Value.oneCell'])
                  (pw_own_below HPO.out (by (repeat' (first | exact Below.refl _ _ | refine pw_below_drewN ?_ _ | refine below_drew ?_ | refine below_alloc ?_ _)))) rfl (by omega) (fun _ => ⟨_, rfl, World.news_of_block (cs := #[.int .i64 (n6 : Int)]) (t := 3) (fr := (0, 0)) (heap_alloc_new w5 _)⟩)
                  (below_then HB5.out.2 HB5.out.2.size (by (repeat' (first | exact Below.refl _ _ | refine pw_below_drewN ?_ _ | refine below_drew ?_ | refine below_alloc ?_ _)))) (by have := HB5.out.2.size; simp; omega) (by rw [HE.out.2.2.2.1, HE.out.2.2.1]; omega) ?_; intro v6 w6 hown6 hb6 hg6 hat6; obtain ⟨g6, cap6, rfl⟩ := own_succ (k := n7) (by rw [List.length_append, HE.out.2.2.2.1, HE.out.2.2.1] at hown6; exact hown6); have hch := hchain.out _ w6 (by (repeat' (first | exact Below.refl _ _ | refine pw_below_drewN ?_ _ | refine below_drew ?_ | refine below_alloc ?_ _))) hg6; have x1 := (World.cell?_of_block (a := ⟨sb, 7, none⟩) hch).trans h7; have x2 := (World.frozen?_of_block (a := ⟨sb, 7, none⟩) hch).trans f7; have HX := Aside0.mk (And.intro hown6 (And.intro hg6 hat6)); clear hown6 hb6 hg6 hat6 hch))
            all_goals (
              obtain ⟨hown6, hg6, hat6⟩ := HX.out
              have ex : cellsOf s2 h4.val .ma ++ [Value.int .i64 (n6 : Int)] = nats (s2.ma ++ [s2.tr.length]) := by rw [HE.out.2.1]; simp [cellsOf, nats]
              rw [ex] at hown6
              have hRX := HB5.out.1.below (w' := (w5.alloc (.cells #[Value.int .i64 (n6 : Int)] 3)).drew) (by (repeat' (first | exact Below.refl _ _ | refine pw_below_drewN ?_ _ | refine below_drew ?_ | refine below_alloc ?_ _)))
              have hBX := below_then (w2 := (w5.alloc (.cells #[Value.int .i64 (n6 : Int)] 3)).drew) HB5.out.2 HB5.out.2.size (by (repeat' (first | exact Below.refl _ _ | refine pw_below_drewN ?_ _ | refine below_drew ?_ | refine below_alloc ?_ _)))
              obtain ⟨R7, S7⟩ := hRX.append (t := .ma) (k := 7) (s' := { s2 with ma := s2.ma ++ [s2.tr.length] }) (xs := nats (s2.ma ++ [s2.tr.length])) (v1 := .slice (some ⟨g6, 0, none⟩) (n7 + 1) cap6) (by rw [HE.out.1]; exact hg6) hown6 (by rw [HE.out.1]; exact hat6) rfl (fun t' ht => by rw [cells_put (fun i e => by cases e) (fun i e => by cases e)]; cases t' <;> first | rfl | exact absurd rfl ht) (by simp [solOf, Hp.put, upd]) (fun x e => by cases e) ⟨rfl, rfl, rfl⟩
              have hB7 := hBX.trans (S7.below hRX)
              obtain ⟨W7, hW7⟩ : ∃ W, w6.setCell ⟨sb, 7, none⟩ (.slice (some ⟨g6, 0, none⟩) (n7 + 1) cap6) = W := ⟨_, rfl⟩
              rw [hW7] at R7 S7 hB7 ⊢
              have HSet := set_any (-(v0 : Int)) (-1) W7 _ sb _ s5 _ R7 HRun.out.1
              have hwn : wrap64 (-(v0 : Int)) = -(v0 : Int) := by unfold bigN at hvb; unfold wrap64; omega
              have HB7 := Aside0.mk (And.intro R7 hB7)
              clear hown6 hg6 hat6 ex hRX hBX R7 S7 hB7 hW7 x1 x2 HX
              go_wp2_with (go_at_call 24; refine HSet.mono ?_; rintro e w8 ⟨rfl, v8, hR8, hS8⟩; have HB8 := Aside0.mk (And.intro hR8 (HB7.out.2.trans (hS8.below HB7.out.1))); clear hR8 hS8)
              go_roundg g'
              case measure => omega
              case rel => exact ⟨cc, s5, _, by go_num, hcc, by omega, ⟨HB8.out.1, HB8.out.2, HRun.out.2.1⟩⟩)
end Go.Proofs.Ytbagcbiekpopbaa

namespace Go.Proofs.Ytbagcbiekpopbaa
open Go.RowKit Go.Shelf Go.Proofs.YtbagcbiekpopbaaW.PrintWords Go.Proofs.YtbagcbiekpopbaaW.PrintLast
set_option linter.unusedVariables false
set_option linter.unusedSimpArgs false

theorem insert_plain : ∀ (p : List Int), p.Pairwise LtL → ∀ x, ∃ q : List Int, q.Pairwise LtL ∧ ∀ y, y ∈ q ↔ (y = x ∨ y ∈ p)
  | [], _, x => ⟨[x], by simp, fun y => by simp⟩
  | a :: p, h, x => by
    have h' := List.pairwise_cons.1 h
    by_cases h1 : LtL x a
    · refine ⟨x :: a :: p, List.pairwise_cons.2 ⟨fun y hy => ?_, h⟩, fun y => by simp⟩
      rcases List.mem_cons.1 hy with rfl | hy
      · exact h1
      · exact h1.trans (h'.1 y hy)
    · by_cases h2 : LtL a x
      · obtain ⟨q, h3, h4⟩ := insert_plain p h'.2 x
        refine ⟨a :: q, List.pairwise_cons.2 ⟨fun y hy => ?_, h3⟩, fun y => ?_⟩
        · rcases (h4 y).1 hy with rfl | hy
          · exact h2
          · exact h'.1 y hy
        · simp only [List.mem_cons, h4 y]
          constructor
          · rintro (e | e | e)
            · exact .inr (.inl e)
            · exact .inl e
            · exact .inr (.inr e)
          · rintro (e | e | e)
            · exact .inr (.inl e)
            · exact .inl e
            · exact .inr (.inr e)
      · obtain rfl := LtL.tri h1 h2
        exact ⟨x :: p, h, fun y => by simp⟩
theorem plain_exists : ∀ (l : List Int), ∃ p, IsPlain l p
  | [] => ⟨[], fun _ => Iff.rfl, .nil⟩
  | x :: l => by
    obtain ⟨p, h1, h2⟩ := plain_exists l
    obtain ⟨q, h3, h4⟩ := insert_plain p h2 x
    exact ⟨q, fun y => by rw [h4 y, List.mem_cons, h1 y], h3⟩
theorem w64_small {x : Int} (h : x.natAbs ≤ 1000000) : wrap64 (-x) = -x := by unfold wrap64; omega
theorem sizeU_small {x : Int} (h : x.natAbs ≤ 1000000) : sizeU x = (x.natAbs : Int) := by
  have e : ∀ y : Int, IntKind.u64.wrap y = y % 18446744073709551616 := fun y => by
    simp [IntKind.wrap, IntKind.bits, IntKind.signed]
  unfold sizeU
  rw [e, e]
  split <;> omega
theorem opp_pair : ∀ {p : List Int}, oppI p = false → ∃ x ∈ p, wrap64 (-x) ∈ p
  | [], h => by simp [oppI] at h
  | [x], h => by simp [oppI] at h
  | x :: y :: r, h => by
    unfold oppI at h
    by_cases e : y = wrap64 (-x)
    · exact ⟨x, by simp, by rw [← e]; simp⟩
    · rw [if_neg e] at h
      obtain ⟨z, h1, h2⟩ := opp_pair h
      exact ⟨z, List.mem_cons_of_mem _ h1, List.mem_cons_of_mem _ h2⟩
theorem once_of_opp : ∀ {p : List Int}, p.Pairwise LtL → (∀ x ∈ p, x ≠ 0 ∧ x.natAbs ≤ 1000000) → oppI p = true → Once p
  | [], _, _, _ => by simp [Once]
  | x :: r, ho, hs, h => by
    have ho' := List.pairwise_cons.1 ho
    have hx := hs x (by simp)
    have hr : oppI r = true := by
      match r, h with
      | [], _ => rfl
      | z :: r', h =>
        unfold oppI at h
        split at h
        · cases h
        · exact h
    have ih := once_of_opp ho'.2 (fun y hy => hs y (by simp [hy])) hr
    unfold Once at ih ⊢
    rw [List.map_cons, List.nodup_cons]
    refine ⟨fun hm => ?_, ih⟩
    obtain ⟨y, hy, e⟩ := List.mem_map.1 hm
    have hy2 := hs y (by simp [hy])
    have l1 := ho'.1 y hy
    unfold LtL at l1
    rw [sizeU_small hx.2, sizeU_small hy2.2] at l1
    have e1 : y = -x := by omega
    match r, h, hy, ho', hs with
    | z :: r', h, hy, ho', hs =>
      have hz := hs z (by simp)
      have l2 := ho'.1 z (by simp)
      unfold LtL at l2
      rw [sizeU_small hx.2, sizeU_small hz.2] at l2
      rcases List.mem_cons.1 hy with e2 | e2
      · unfold oppI at h
        rw [if_pos (by rw [← e2, e1, w64_small hx.2])] at h
        cases h
      · have l3 := (List.pairwise_cons.1 ho'.2).1 y e2
        unfold LtL at l3
        rw [sizeU_small hz.2, sizeU_small hy2.2] at l3
        omega
theorem plainOf {n : Nat} (hn : n ≤ 1000000) {l : List Int} (hV : ∀ x ∈ l, V n x) : PlainOf l (plI l) := by
  obtain ⟨p, hp⟩ := plain_exists l
  rw [plI_eq hp]
  have hs : ∀ x ∈ p, x ≠ 0 ∧ x.natAbs ≤ 1000000 := fun x hx => by
    have := hV x ((hp.mem x).1 hx)
    unfold V at this
    omega
  refine ⟨hp.mem, fun h => ?_, fun h => once_of_opp hp.ord hs h⟩
  obtain ⟨x, h1, h2⟩ := opp_pair h
  rw [w64_small (hs x h1).2] at h2
  exact ⟨x, (hp.mem x).1 h1, (hp.mem _).1 h2⟩

theorem start_BI {n : Nat} (hn : n < 1000000) (Inp : List (List Int)) : BI n Inp (St.start n) [] := by
  refine ⟨{ nn := rfl, small := hn, lva := by simp [St.start], lle := by simp [St.start], lre := by simp [St.start], lsc := by simp [St.start], lcl := by simp [St.start], tv := by simp [St.start], once := by simp [St.start, Once], va := fun x hx => ?_, sorted := by simp [St.start], mle := by simp [St.start], le := by simp [St.start], re := by simp [St.start], ck := by simp [St.start], w2 := fun k l hk => by simp [St.start] at hk }, fun y => ⟨by simp [St.start], fun k => ⟨fun h => by simp [St.start] at h, fun ⟨l, h, _⟩ => by simp [St.start] at h⟩⟩, rfl, rfl, rfl, fun l hl => by cases hl⟩
  unfold V at hx
  show (List.replicate (n + 1) (0 : Int))[x.natAbs]? = some (litV [] _)
  rw [List.getElem?_replicate, if_pos (by omega)]
  simp [litV]
theorem set_fo {s s' : St} {x r : Int} (h : s.set x r = some s') : s'.sc = s.sc ∧ s'.sp = s.sp := by
  unfold St.set at h
  split at h
  · obtain rfl := Option.some.inj h; exact ⟨rfl, rfl⟩
  · cases h
theorem add_fo {s s' : St} {l : List Int} {k : Nat} (h : s.add l = some (s', k)) : s'.sc = s.sc ∧ s'.sp = s.sp := by
  unfold St.add at h
  match l, h with
  | a :: b :: r, h =>
    simp only at h
    split at h
    · simp only [Option.bind_eq_bind, Option.bind_eq_some_iff] at h
      obtain ⟨s1, hs1, s2, hs2, h⟩ := h
      obtain ⟨rfl, rfl⟩ := Prod.mk.inj (Option.some.inj h)
      unfold St.watchOn at hs1 hs2
      split at hs1
      · obtain rfl := Option.some.inj hs1
        split at hs2
        · obtain rfl := Option.some.inj hs2
          exact ⟨rfl, rfl⟩
        · cases hs2
      · cases hs1
    · cases h
theorem begin_fo : ∀ {ls : List (List Int × Bool)} {s s' : St} {ok : Bool}, St.begin s ls = some (s', ok) → s'.sc = s.sc ∧ s'.sp = s.sp
  | [], s, s', ok, h => by
    unfold St.begin at h
    obtain ⟨rfl, -⟩ := Prod.mk.inj (Option.some.inj h)
    exact ⟨rfl, rfl⟩
  | (p, b) :: r, s, s', ok, h => by
    rcases begin_step h with ⟨_, hb⟩ | ⟨_, _, rfl, _⟩ | ⟨_, x, v, _, hv, hcs⟩ | ⟨_, x, y, r, s1, k, _, hadd, hb⟩
    · exact begin_fo hb
    · exact ⟨rfl, rfl⟩
    · rcases hcs with ⟨_, rfl, _⟩ | ⟨_, s1, hset, hb⟩ | ⟨_, hb⟩
      · exact ⟨rfl, rfl⟩
      · have h1 := begin_fo hb
        have h2 := set_fo hset
        exact ⟨h1.1.trans h2.1, h1.2.trans h2.2⟩
      · exact begin_fo hb
    · have h1 := begin_fo hb
      have h2 := add_fo hadd
      exact ⟨h1.1.trans h2.1, h1.2.trans h2.2⟩

theorem solveRun_ok {n : Nat} {L : List (List Int)} {budget : Int} (hn : n < 1000000) (h0 : 0 ≤ budget) (hb : budget ≤ 100000) (hL : L.length ≤ 1000) (hV : ∀ l ∈ L, ∀ x ∈ l, V n x) {fuel : Nat} (hf : 3 ^ n * (n + 2) + (n + 1) < fuel) :
    ∃ r, solveRun budget fuel n L = some r ∧ AnsOk n L budget r := by
  obtain ⟨s1, b, e, h1, h2⟩ := begin_ok (n := n) (Inp := L) plI (fun l hl => plainOf (by omega) (hV l hl)) hV L [] (St.start n) (fun l hl => hl) (start_BI hn L) (by simp [St.start]; omega)
  have hp3 : 1 ≤ 3 ^ n := Nat.pow_pos (by omega)
  unfold solveRun
  rw [e]
  cases b with
  | false =>
    have hr := h2 rfl
    simp only
    by_cases hb1 : budget < 1
    · rw [if_pos hb1]
      refine ⟨_, rfl, .inl ⟨rfl, rfl, rfl, ?_⟩⟩
      have e3 : ((3 ^ n : Nat) : Int) = (3 : Int) ^ n := by simp
      omega
    · rw [if_neg hb1]
      refine ⟨_, rfl, .inr (.inr ⟨rfl, rfl, ⟨[], rfl⟩, ?_, by simp; omega, fun C hC => ?_⟩)⟩
      · intro i C hi
        match i, hi with
        | 0, hi =>
          obtain rfl : [] = C := by simpa using hi
          simpa using hr
        | i + 1, hi => simp at hi
      · obtain rfl : C = [] := by simpa using hC
        exact ⟨Nat.zero_le _, fun x hx => by cases hx⟩
  | true =>
    obtain ⟨hB, hcl⟩ := h1 rfl
    simp only
    have hfo := begin_fo e
    have hG : Good n L s1 0 := by
      refine { si := ⟨by rw [hB.pf, List.append_nil, hB.dn]; exact hB.inv, hB.wk, by rw [hB.ma]; simp, by rw [hB.dn]; exact Nat.zero_le _⟩, mlt := by rw [hB.ma]; simp, cov := by rw [hB.pf, List.append_nil]; simpa using hB.cov, len := by rw [hB.pf]; rfl, pw := by rw [hB.pf]; exact .nil, each := by rw [hB.pf]; simp, rups := by rw [hB.pf]; intro i C hi; simp at hi, cl := by rw [hB.pf]; simpa [St.start] using hcl, fok := ?_ }
      refine ⟨fun c hc => ?_, ?_⟩
      · rw [hfo.1] at hc
        have : c = 0 := by simpa [St.start] using (List.mem_replicate.1 hc).2
        rw [this]; unfold infR; omega
      · rw [hfo.2]
        show (4607182418800017408 : Nat) ≤ infR
        unfold infR; omega
    refine run_ok flS_ok hb hL hV fuel s1 0 hG ?_
    rw [hB.pf]
    simp only [List.length_nil, Nat.sub_zero]
    omega

noncomputable def solveR (budget n : Int) (L : List (List Int)) : St.Ans :=
  if checkI n L = 0 ∧ 0 ≤ budget then (solveRun budget (3 ^ n.toNat * (n.toNat + 2) + (n.toNat + 1) + 1) n.toNat L).getD ⟨0, [], []⟩ else ⟨0, [], []⟩
end Go.Proofs.Ytbagcbiekpopbaa
