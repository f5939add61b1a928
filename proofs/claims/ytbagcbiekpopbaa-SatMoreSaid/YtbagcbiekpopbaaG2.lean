/- The plain law of the solver. -/
namespace Go.Proofs.Ytbagcbiekpopbaa

/-- What is asked of the floating numbers: their sum, their product, whether one is more. -/
structure Fl where
  add : Nat → Nat → Nat
  mul : Nat → Nat → Nat
  gt : Nat → Nat → Bool

def bigN : Nat := 1099511627776
/-- The word of infinity: what is not above it is a number that is not below 0, or infinity. -/
def infR : Nat := 9218868437227405312

structure St where
  n : Nat
  cl : List (List Int)
  wt : Int → List Nat
  va : List Int
  le : List Nat
  re : List Int
  tr : List Int
  ma : List Nat
  dn : Nat
  sc : List Nat
  sp : Nat
  pf : List (List Int)

def upd {α β : Type} [DecidableEq α] (f : α → β) (a : α) (b : β) : α → β := fun x => if x = a then b else f x
def swapAt (l : List Int) (i j : Nat) : List Int := (l.set i (l.getD j 0)).set j (l.getD i 0)

namespace St

def is (s : St) (x : Int) : Option Int := do
  let v ← s.va[x.natAbs]?
  if v = 0 ∨ v = 1 ∨ v = -1 then some (if x < 0 then -v else v) else none

def set (s : St) (x r : Int) : Option St :=
  if x.natAbs < s.va.length ∧ x.natAbs < s.le.length ∧ x.natAbs < s.re.length ∧ s.tr.length < bigN ∧ s.ma.length < bigN then
    some { s with va := s.va.set x.natAbs (if x < 0 then -1 else 1), le := s.le.set x.natAbs s.ma.length, re := s.re.set x.natAbs r, tr := s.tr ++ [x] }
  else none

def watchOn (s : St) (x : Int) (k : Nat) : Option St :=
  if (s.wt x).length < bigN ∧ x.natAbs < bigN then some { s with wt := upd s.wt x (s.wt x ++ [k]) } else none

def add (s : St) (l : List Int) : Option (St × Nat) :=
  match l with
  | a :: b :: _ =>
    if s.cl.length < bigN then do
      let s1 ← watchOn { s with cl := s.cl ++ [l] } a s.cl.length
      let s2 ← watchOn s1 b s.cl.length
      some (s2, s.cl.length)
    else none
  | _ => none

def find (s : St) : List Int → Nat → Option (Option Nat)
  | [], _ => some none
  | y :: ys, i => do
    let v ← s.is y
    if 0 ≤ v then some (some i) else find s ys (i + 1)

def look (s : St) (k : Nat) (x : Int) : Option (St × Bool × Bool) := do
  let l ← s.cl[k]?
  if 2 ≤ l.length ∧ l.length < bigN then do
    let l1 := if l.getD 0 0 = x then swapAt l 0 1 else l
    let s1 := { s with cl := s.cl.set k l1 }
    let v0 ← s1.is (l1.getD 0 0)
    if 0 < v0 then some (s1, true, true) else do
      match ← s1.find (l1.drop 2) 2 with
      | some i => do
        let l2 := swapAt l1 1 i
        let y := l2.getD 1 0
        if y = x then none else do
          let s2 ← watchOn { s1 with cl := s1.cl.set k l2 } y k
          some (s2, false, true)
      | none =>
        if v0 < 0 then some (s1, true, false) else do
          let s2 ← s1.set (l1.getD 0 0) k
          some (s2, true, true)
  else none

def passes (s : St) (x : Int) (left : List Nat) : List Nat → Option (St × Option Nat)
  | [] => some ({ s with wt := upd s.wt x left }, none)
  | k :: ks => do
    let (s1, kept, ok) ← s.look k x
    let left1 := if kept then left ++ [k] else left
    if ok then passes s1 x left1 ks else some ({ s1 with wt := upd s1.wt x (left1 ++ ks) }, some k)

def spread : Nat → St → Option (St × Option Nat)
  | 0, _ => none
  | f + 1, s =>
    match s.tr[s.dn]? with
    | none => some (s, none)
    | some y => if (s.wt (-y)).length < bigN ∧ y.natAbs < bigN then do
        match ← passes { s with dn := s.dn + 1 } (-y) [] (s.wt (-y)) with
        | (s1, some k) => some (s1, some k)
        | (s1, none) => spread f s1
      else none

def bump (F : Fl) (s : St) (v : Nat) : Option St := do
  let c ← s.sc[v]?
  if s.sc.all (fun c => decide (c ≤ infR)) = true ∧ s.sp ≤ infR then
    if F.gt (F.add c s.sp) 6103021453049119613 then some { s with sc := (s.sc.set v (F.add c s.sp)).map (F.mul · 3110860544497550640), sp := F.mul s.sp 3110860544497550640 }
    else some { s with sc := s.sc.set v (F.add c s.sp) }
  else none

structure Ln where
  s : St
  seen : Nat → Bool
  out : List Int
  op : Nat

def lrnIn (F : Fl) : List Int → Ln → Option Ln
  | [], a => some a
  | y :: ys, a => do
    let v ← a.s.le[y.natAbs]?
    if a.seen y.natAbs = true ∨ v = 0 then lrnIn F ys a else do
      let s1 ← a.s.bump F y.natAbs
      if a.out.length < bigN ∧ a.op < bigN then
        if v = a.s.ma.length then lrnIn F ys { s := s1, seen := upd a.seen y.natAbs true, out := a.out, op := a.op + 1 }
        else lrnIn F ys { s := s1, seen := upd a.seen y.natAbs true, out := a.out ++ [y], op := a.op }
      else none

def lrnOut (F : Fl) : List Int → List Int → Ln → Option Ln
  | [], _, a => some a
  | x :: xs, why, a => do
    let a1 ← lrnIn F why a
    let v ← a1.s.le[x.natAbs]?
    if a1.seen x.natAbs = false ∨ v ≠ a1.s.ma.length then lrnOut F xs [] a1 else
      if a1.op = 0 then none
      else if a1.op = 1 then some { a1 with op := 0, out := a1.out.set 0 (-x) }
      else do
        let r ← a1.s.re[x.natAbs]?
        if 0 ≤ r then do
          let w ← a1.s.cl[r.toNat]?
          lrnOut F xs w { a1 with op := a1.op - 1 }
        else none

def lrnBack (s : St) : Nat → Nat → List Int → Nat → Option (List Int × Nat)
  | 0, _, out, back => some (out, back)
  | f + 1, i, out, back => do
    let y ← out[i]?
    let v ← s.le[y.natAbs]?
    if back < v then lrnBack s f (i + 1) (swapAt out 1 i) v else lrnBack s f (i + 1) out back

def learn (F : Fl) (s : St) (k : Nat) : Option (St × List Int × Nat) := do
  let why ← s.cl[k]?
  let a ← lrnOut F s.tr.reverse why { s := s, seen := fun _ => false, out := [0], op := 0 }
  let (out, back) ← lrnBack a.s (a.out.length - 1) 1 a.out 0
  some (a.s, out, back)

def clear : List Int → List Int → Option (List Int)
  | [], va => some va
  | x :: xs, va => if x.natAbs < va.length then clear xs (va.set x.natAbs 0) else none

def undo (s : St) (lv : Nat) : Option St :=
  match s.ma[lv]? with
  | none => some s
  | some from_ => if from_ ≤ s.tr.length then do
      let va ← clear (s.tr.drop from_) s.va
      some { s with va := va, tr := s.tr.take from_, ma := s.ma.take lv, dn := from_ }
    else none

def pick (F : Fl) (s : St) : Nat → Nat → Nat → Option Nat
  | 0, _, best => some best
  | f + 1, v, best => do
    let a ← s.va[v]?
    let c ← s.sc[v]?
    let b ← s.sc[best]?
    if a = 0 ∧ (best = 0 ∨ F.gt c b = true) then pick F s f (v + 1) v else pick F s f (v + 1) best

def choose (F : Fl) (s : St) : Option Nat := pick F s s.n 1 0

def conflict (F : Fl) (s : St) (k : Nat) : Option (St × Bool) :=
  if s.ma = [] then some (s, false) else do
    let (s1, l, back) ← learn F s k
    if s1.pf.length < bigN ∧ back < bigN ∧ l.length ≤ bigN then do
      let s3 ← undo { s1 with pf := s1.pf ++ [l] } back
      let (s4, r) ← if 1 < l.length then (add s3 l).map (fun p => (p.1, (p.2 : Int))) else some (s3, -1)
      let x ← l[0]?
      let s5 ← set s4 x r
      if s5.sp ≤ infR then some ({ s5 with sp := F.mul s5.sp 4607407598781385933 }, true) else none
    else none

/-- Taking clauses in: each as its literals in order, each once; and whether no two neighbours are opposites. -/
def begin (s : St) : List (List Int × Bool) → Option (St × Bool)
  | [] => some (s, true)
  | (p, ok) :: r =>
    if ok = false then begin s r else
    match p with
    | [] => some (s, false)
    | [x] => do
      let v ← s.is x
      if v < 0 then some (s, false) else
      if v = 0 then do
        let s1 ← s.set x (-1)
        begin s1 r
      else begin s r
    | _ :: _ :: _ => do
      let (s1, _) ← s.add p
      begin s1 r

def vals (s : St) : List Bool := ((List.range s.n).map fun i => decide (0 < s.va.getD (i + 1) 0))

def start (n : Nat) : St := { n := n, cl := [], wt := fun _ => [], va := List.replicate (n + 1) 0, le := List.replicate (n + 1) 0, re := List.replicate (n + 1) 0, tr := [], ma := [], dn := 0, sc := List.replicate (n + 1) 0, sp := 4607182418800017408, pf := [] }

/-- What is answered: 0, 1, 2 (open, yes, no), values, a proof. -/
structure Ans where
  what : Nat
  vals : List Bool
  pf : List (List Int)

def run (F : Fl) (budget : Int) : Nat → St → Nat → Option Ans
  | 0, _, _ => none
  | f + 1, s, c => do
    match ← spread (s.n + 2) s with
    | (s1, some k) =>
      if budget < (c : Int) + 1 then some ⟨0, [], []⟩ else
      if k < bigN then do
        let (s2, ok) ← conflict F s1 k
        if ok then run F budget f s2 (c + 1) else if s2.pf.length < bigN then some ⟨2, [], s2.pf ++ [[]]⟩ else none
      else none
    | (s1, none) => do
      let v ← choose F s1
      if v = 0 then (if s1.n < s1.va.length then some ⟨1, s1.vals, []⟩ else none) else
      if s1.ma.length < bigN ∧ v < bigN then do
        let s2 ← set { s1 with ma := s1.ma ++ [s1.tr.length] } (-(v : Int)) (-1)
        run F budget f s2 c
      else none

end St
end Go.Proofs.Ytbagcbiekpopbaa

namespace Go.Proofs.Ytbagcbiekpopbaa
set_option linter.unusedVariables false
set_option linter.unusedSimpArgs false

def V (n : Nat) (x : Int) : Prop := 1 ≤ x.natAbs ∧ x.natAbs ≤ n
theorem V.neg {n : Nat} {x : Int} (h : V n x) : V n (-x) := by unfold V at *; omega
/-- 1, -1, 0: so, not so, open. -/
def litV (tr : List Int) (x : Int) : Int := if x ∈ tr then 1 else if -x ∈ tr then -1 else 0
/-- How many levels have begun when place i is laid. -/
def lvl (ma : List Nat) (i : Nat) : Nat := (ma.filter (· ≤ i)).length

theorem litV_pos {tr : List Int} {x : Int} : 0 < litV tr x ↔ x ∈ tr := by
  unfold litV; split
  · simp [*]
  · split <;> simp [*]
theorem litV_neg {tr : List Int} {x : Int} : litV tr x < 0 ↔ x ∉ tr ∧ -x ∈ tr := by
  unfold litV; split
  · simp [*]
  · split <;> simp [*]
theorem litV_nonneg {tr : List Int} {x : Int} : 0 ≤ litV tr x ↔ (x ∈ tr ∨ -x ∉ tr) := by
  unfold litV; split
  · simp [*]
  · split <;> simp [*]
theorem litV_zero {tr : List Int} {x : Int} : litV tr x = 0 ↔ x ∉ tr ∧ -x ∉ tr := by
  unfold litV; split
  · simp [*]
  · split <;> simp [*]
theorem litV_small (tr : List Int) (x : Int) : litV tr x = 0 ∨ litV tr x = 1 ∨ litV tr x = -1 := by
  unfold litV; split
  · simp
  · split <;> simp

theorem nodup_sub_length {α : Type} [BEq α] [LawfulBEq α] : ∀ {l m : List α}, l.Nodup → (∀ x ∈ l, x ∈ m) → l.length ≤ m.length
  | [], m, _, _ => Nat.zero_le _
  | a :: l, m, h, hs => by
    rw [List.nodup_cons] at h
    have ha := hs a (by simp)
    have h2 : ∀ x ∈ l, x ∈ m.erase a := fun x hx => (List.mem_erase_of_ne (by rintro rfl; exact h.1 hx)).2 (hs x (by simp [hx]))
    have h3 := nodup_sub_length h.2 h2
    have h4 := List.length_erase_of_mem ha
    have h5 := List.length_pos_of_mem ha
    simp only [List.length_cons]
    omega

/-- No variable twice. -/
def Once (tr : List Int) : Prop := (tr.map Int.natAbs).Nodup
theorem Once.idx {tr : List Int} (h : Once tr) {i j : Nat} {x y : Int} (hi : tr[i]? = some x) (hj : tr[j]? = some y) (e : x.natAbs = y.natAbs) : i = j ∧ x = y := by
  have h1 : (tr.map Int.natAbs)[i]? = some x.natAbs := by rw [List.getElem?_map, hi]; rfl
  have h2 : (tr.map Int.natAbs)[j]? = some x.natAbs := by rw [List.getElem?_map, hj, e]; rfl
  have hl : i < (tr.map Int.natAbs).length := (List.getElem?_eq_some_iff.1 h1).1
  have := (List.getElem?_inj hl h).1 (h1.trans h2.symm)
  subst this
  rw [hi] at hj
  exact ⟨rfl, Option.some.inj hj⟩
theorem Once.not_both {tr : List Int} (h : Once tr) {x : Int} (h1 : x ∈ tr) (h2 : -x ∈ tr) (h0 : x ≠ 0) : False := by
  obtain ⟨i, hi⟩ := List.mem_iff_getElem?.1 h1
  obtain ⟨j, hj⟩ := List.mem_iff_getElem?.1 h2
  have := (h.idx hi hj (by omega)).2
  omega
theorem Once.snoc {tr : List Int} (h : Once tr) {x : Int} (h1 : x ∉ tr) (h2 : -x ∉ tr) : Once (tr ++ [x]) := by
  unfold Once at *
  rw [List.map_append, List.nodup_append]
  refine ⟨h, by simp, ?_⟩
  intro a ha b hb
  simp only [List.map_cons, List.map_nil, List.mem_singleton] at hb
  obtain ⟨y, hy, rfl⟩ := List.mem_map.1 ha
  subst hb
  intro e
  rcases Int.natAbs_eq_natAbs_iff.1 e with e | e
  · exact h1 (e ▸ hy)
  · exact h2 (e ▸ hy)
theorem Once.take {tr : List Int} (h : Once tr) (k : Nat) : Once (tr.take k) := by
  unfold Once at *
  rw [List.map_take]
  exact h.sublist (List.take_sublist _ _)
theorem Once.length_le {tr : List Int} (h : Once tr) {n : Nat} (hv : ∀ x ∈ tr, V n x) : tr.length ≤ n := by
  have h2 : ∀ v ∈ tr.map Int.natAbs, v ∈ (List.range n).map (· + 1) := by
    intro v hv2
    obtain ⟨x, hx, rfl⟩ := List.mem_map.1 hv2
    have := hv x hx
    unfold V at this
    exact List.mem_map.2 ⟨x.natAbs - 1, List.mem_range.2 (by omega), by omega⟩
  simpa using nodup_sub_length h h2

theorem mem_take_of {tr : List Int} {i m : Nat} {x : Int} (h : tr[i]? = some x) (hi : i < m) : x ∈ tr.take m :=
  List.mem_iff_getElem?.2 ⟨i, by rw [List.getElem?_take_of_lt hi]; exact h⟩
theorem of_mem_take {tr : List Int} {m : Nat} {x : Int} (h : x ∈ tr.take m) : ∃ i, i < m ∧ tr[i]? = some x := by
  obtain ⟨i, hi⟩ := List.mem_iff_getElem?.1 h
  rw [List.getElem?_take] at hi
  split at hi
  · exact ⟨i, ‹_›, hi⟩
  · cases hi

theorem lvl_le (ma : List Nat) (i : Nat) : lvl ma i ≤ ma.length := List.length_filter_le _ _
theorem lvl_mono (ma : List Nat) {i j : Nat} (h : i ≤ j) : lvl ma i ≤ lvl ma j := by
  unfold lvl
  rw [← List.countP_eq_length_filter, ← List.countP_eq_length_filter]
  exact List.countP_mono_left (fun x _ hx => by simp at hx ⊢; omega)
theorem lvl_full {ma : List Nat} {i : Nat} (h : ∀ m ∈ ma, m ≤ i) : lvl ma i = ma.length := by
  unfold lvl
  rw [List.filter_eq_self.2 (by simpa using h)]
theorem lvl_snoc (ma : List Nat) (m i : Nat) : lvl (ma ++ [m]) i = lvl ma i + if m ≤ i then 1 else 0 := by
  unfold lvl
  rw [List.filter_append]
  by_cases h : m ≤ i <;> simp [h]
/-- At sorted marks: at most j levels have begun just if place i lies ahead of mark j. -/
theorem lvl_iff : ∀ {ma : List Nat}, ma.Pairwise (· < ·) → ∀ {j m i : Nat}, ma[j]? = some m → (lvl ma i ≤ j ↔ i < m)
  | [], _, j, m, i, h => by simp at h
  | a :: r, hp, j, m, i, h => by
    rw [List.pairwise_cons] at hp
    have e : lvl (a :: r) i = lvl r i + if a ≤ i then 1 else 0 := by
      unfold lvl
      by_cases h : a ≤ i <;> simp [h]
    match j, h with
    | 0, h =>
      obtain rfl : a = m := by simpa using h
      rw [e]
      by_cases ha : a ≤ i
      · simp [ha]
      · have h0 : lvl r i = 0 := by
          unfold lvl
          rw [List.length_eq_zero_iff, List.filter_eq_nil_iff]
          intro b hb
          have := hp.1 b hb
          simp; omega
        simp [ha, h0]; omega
    | j + 1, h =>
      have h' : r[j]? = some m := by simpa using h
      have ih := lvl_iff hp.2 (i := i) h'
      have ham : a < m := hp.1 m (List.mem_iff_getElem?.2 ⟨j, h'⟩)
      rw [e]
      by_cases ha : a ≤ i
      · simp [ha, ih]
      · simp only [ha, if_false, Nat.add_zero]
        have h0 : lvl r i = 0 := by
          unfold lvl
          rw [List.length_eq_zero_iff, List.filter_eq_nil_iff]
          intro b hb
          have := hp.1 b hb
          simp; omega
        omega
theorem lvl_take {ma : List Nat} (hp : ma.Pairwise (· < ·)) {lv m i : Nat} (h : ma[lv]? = some m) (hi : i < m) : lvl (ma.take lv) i = lvl ma i := by
  have h1 := (lvl_iff hp (i := i) h).2 hi
  have e : ma = ma.take lv ++ ma.drop lv := (List.take_append_drop lv ma).symm
  have h2 : lvl ma i = lvl (ma.take lv) i + lvl (ma.drop lv) i := by
    unfold lvl
    rw [← List.length_append, ← List.filter_append, List.take_append_drop]
  have h3 : lvl (ma.drop lv) i = 0 := by
    unfold lvl
    rw [List.length_eq_zero_iff, List.filter_eq_nil_iff]
    intro b hb
    obtain ⟨j, hj⟩ := List.mem_iff_getElem?.1 hb
    rw [List.getElem?_drop] at hj
    have : m ≤ b := by
      rcases Nat.eq_zero_or_pos j with rfl | hj0
      · rw [Nat.add_zero, h] at hj
        have := Option.some.inj hj
        omega
      · obtain ⟨h4, h5⟩ := List.getElem?_eq_some_iff.1 h
        obtain ⟨h6, h7⟩ := List.getElem?_eq_some_iff.1 hj
        have := List.pairwise_iff_getElem.1 hp lv (lv + j) h4 h6 (by omega)
        omega
    simp; omega
  omega

theorem mem_set_of_ne {α : Type} {l : List α} {i : Nat} {a x : α} (h : x ∈ l.set i a) : x = a ∨ x ∈ l := by
  rcases List.mem_or_eq_of_mem_set h with h | h
  · exact .inr h
  · exact .inl h

/-- The same literals. -/
def Same (l l' : List Int) : Prop := ∀ x, x ∈ l ↔ x ∈ l'
theorem Same.refl (l : List Int) : Same l l := fun _ => Iff.rfl
theorem Same.symm {l l' : List Int} (h : Same l l') : Same l' l := fun x => (h x).symm
theorem Same.trans {a b c : List Int} (h : Same a b) (h' : Same b c) : Same a c := fun x => (h x).trans (h' x)

theorem swapAt_length (l : List Int) (i j : Nat) : (swapAt l i j).length = l.length := by simp [swapAt]
theorem swapAt_perm {l : List Int} {i j : Nat} (hi : i < l.length) (hj : j < l.length) : (swapAt l i j).Perm l := by
  unfold swapAt
  rw [List.getD_eq_getElem?_getD, List.getD_eq_getElem?_getD, List.getElem?_eq_getElem hi, List.getElem?_eq_getElem hj]
  simp only [Option.getD_some]
  exact List.set_set_perm hi hj
theorem swapAt_get {l : List Int} {i j : Nat} (hi : i < l.length) (hj : j < l.length) (k : Nat) : (swapAt l i j)[k]? = if k = j then l[i]? else if k = i then l[j]? else l[k]? := by
  unfold swapAt
  rw [List.getD_eq_getElem?_getD, List.getD_eq_getElem?_getD, List.getElem?_eq_getElem hi, List.getElem?_eq_getElem hj]
  simp only [Option.getD_some, List.getElem?_set, List.length_set]
  by_cases h1 : k = j
  · subst h1; simp [hj]
  · rw [if_neg (fun e => h1 e.symm), if_neg h1]
    by_cases h2 : k = i
    · subst h2; simp [hi]
    · rw [if_neg (fun e => h2 e.symm), if_neg h2]
end Go.Proofs.Ytbagcbiekpopbaa

namespace Go.Proofs.Ytbagcbiekpopbaa
set_option linter.unusedVariables false
set_option linter.unusedSimpArgs false

def ClOk (n : Nat) (D : List (List Int)) (l : List Int) : Prop := 2 ≤ l.length ∧ (∀ x ∈ l, V n x) ∧ Once l ∧ ∃ l' ∈ D, Same l' l
def Why (D : List (List Int)) (s : St) (i : Nat) (x r : Int) : Prop :=
  (r = -1 ∧ (i ∈ s.ma ∨ (lvl s.ma i = 0 ∧ ∃ l ∈ D, ∀ y, y ∈ l ↔ y = x))) ∨
  ∃ (k : Nat) (l : List Int), r = (k : Int) ∧ s.cl[k]? = some l ∧ x ∈ l ∧ ∀ y ∈ l, y ≠ x → ∃ j, j < i ∧ s.tr[j]? = some (-y)
def PairOf (l : List Int) (a b : Int) : Prop := l[0]? = some a ∧ l[1]? = some b ∨ l[0]? = some b ∧ l[1]? = some a
def W2l (s : St) (p : Nat) (l : List Int) : Prop := ∀ a b, PairOf l a b → ∀ i, i < p → s.tr[i]? = some (-a) → ∃ j, s.tr[j]? = some b ∧ lvl s.ma j ≤ lvl s.ma i
def W2 (s : St) (p : Nat) : Prop := ∀ (k : Nat) (l : List Int), s.cl[k]? = some l → W2l s p l
def Watches (s : St) (k : Nat) (y : Int) : Prop := ∃ l, s.cl[k]? = some l ∧ (l[0]? = some y ∨ l[1]? = some y)
def WK (s : St) : Prop := ∀ y, (s.wt y).Nodup ∧ ∀ k, k ∈ s.wt y ↔ Watches s k y

structure Inv (n : Nat) (D : List (List Int)) (s : St) (p : Nat) : Prop where
  nn : s.n = n
  small : n < 1000000
  lva : s.va.length = n + 1
  lle : s.le.length = n + 1
  lre : s.re.length = n + 1
  lsc : s.sc.length = n + 1
  lcl : s.cl.length < 1000000
  tv : ∀ x ∈ s.tr, V n x
  once : Once s.tr
  va : ∀ x, V n x → s.va[x.natAbs]? = some (litV s.tr (x.natAbs : Int))
  sorted : s.ma.Pairwise (· < ·)
  mle : ∀ m ∈ s.ma, m ≤ s.tr.length
  le : ∀ (i : Nat) (x : Int), s.tr[i]? = some x → s.le[x.natAbs]? = some (lvl s.ma i)
  re : ∀ (i : Nat) (x : Int), s.tr[i]? = some x → ∃ r, s.re[x.natAbs]? = some r ∧ Why D s i x r
  ck : ∀ (k : Nat) (l : List Int), s.cl[k]? = some l → ClOk n D l
  w2 : W2 s p

theorem V.ne {n : Nat} {x : Int} (h : V n x) : x ≠ 0 := by unfold V at h; omega
theorem Inv.trlen {n : Nat} {D : List (List Int)} {s : St} {p : Nat} (h : Inv n D s p) : s.tr.length ≤ n := h.once.length_le h.tv
theorem pairwise_length : ∀ {ma : List Nat} {N : Nat}, ma.Pairwise (· < ·) → (∀ m ∈ ma, m ≤ N) → ma.length ≤ N + 1 := by
  intro ma N hp hm
  have h1 : ma.Nodup := hp.imp (fun h => Nat.ne_of_lt h)
  have := nodup_sub_length (m := List.range (N + 1)) h1 (fun x hx => List.mem_range.2 (by have := hm x hx; omega))
  simpa using this
theorem Inv.malen {n : Nat} {D : List (List Int)} {s : St} {p : Nat} (h : Inv n D s p) : s.ma.length ≤ n + 1 := by
  have := pairwise_length h.sorted h.mle
  have := h.trlen
  omega

theorem Inv.is {n : Nat} {D : List (List Int)} {s : St} {p : Nat} (h : Inv n D s p) {x : Int} (hx : V n x) : s.is x = some (litV s.tr x) := by
  unfold St.is
  rw [h.va x hx]
  have h1 := litV_small s.tr (x.natAbs : Int)
  simp only [Option.bind_eq_bind, Option.bind_some, if_pos h1, Option.some.injEq]
  by_cases hn : x < 0
  · rw [if_pos hn]
    have e : (x.natAbs : Int) = -x := by omega
    rw [e]
    have nb := fun a b => h.once.not_both (x := x) a b hx.ne
    unfold litV
    rw [Int.neg_neg]
    by_cases a : x ∈ s.tr
    · have b : ¬ -x ∈ s.tr := fun b => nb a b
      simp [a, b]
    · by_cases b : -x ∈ s.tr <;> simp [a, b]
  · rw [if_neg hn]
    have e : (x.natAbs : Int) = x := by omega
    rw [e]

theorem getElem?_snoc_lt {α : Type} {l : List α} {x : α} {i : Nat} (h : i < l.length) : (l ++ [x])[i]? = l[i]? := List.getElem?_append_left h
theorem lt_of_getElem? {α : Type} {l : List α} {i : Nat} {x : α} (h : l[i]? = some x) : i < l.length := (List.getElem?_eq_some_iff.1 h).1
theorem getElem?_snoc {α : Type} {l : List α} {x y : α} {i : Nat} (h : (l ++ [x])[i]? = some y) : l[i]? = some y ∨ (i = l.length ∧ y = x) := by
  rcases Nat.lt_or_ge i l.length with h1 | h1
  · rw [List.getElem?_append_left h1] at h; exact .inl h
  · rw [List.getElem?_append_right h1] at h
    have : i - l.length < 1 := by
      have := lt_of_getElem? h
      simpa using this
    have e : i = l.length := by omega
    subst e
    simp at h
    exact .inr ⟨rfl, h.symm⟩
theorem getElem?_snoc_of {α : Type} {l : List α} {x y : α} {i : Nat} (h : l[i]? = some y) : (l ++ [x])[i]? = some y := by
  rw [getElem?_snoc_lt (lt_of_getElem? h)]; exact h

/-- A literal made so. -/
def St.setd (s : St) (x r : Int) : St := { s with va := s.va.set x.natAbs (if x < 0 then -1 else 1), le := s.le.set x.natAbs s.ma.length, re := s.re.set x.natAbs r, tr := s.tr ++ [x] }
theorem Why.snoc {D : List (List Int)} {s : St} {i : Nat} {x r y ry : Int} (h : Why D s i y ry) : Why D (s.setd x r) i y ry := by
  rcases h with h | ⟨k, l, h1, h2, h3, h4⟩
  · exact .inl h
  · exact .inr ⟨k, l, h1, h2, h3, fun z hz hne => by obtain ⟨j, hj, e⟩ := h4 z hz hne; exact ⟨j, hj, getElem?_snoc_of e⟩⟩
theorem Inv.setd {n : Nat} {D : List (List Int)} {s : St} {p : Nat} (h : Inv n D s p) {x r : Int} (hx : V n x) (h1 : x ∉ s.tr) (h2 : -x ∉ s.tr) (hp : p ≤ s.tr.length) (hr : Why D (s.setd x r) s.tr.length x r) :
    s.set x r = some (s.setd x r) ∧ Inv n D (s.setd x r) p := by
  have hxn : x.natAbs < n + 1 := by unfold V at hx; omega
  have hlen := h.trlen
  have hmal := h.malen
  have hsm := h.small
  have hne : ∀ (i : Nat) (y : Int), s.tr[i]? = some y → y.natAbs ≠ x.natAbs := fun i y hy e => by
    have hm := List.mem_iff_getElem?.2 ⟨i, hy⟩
    rcases Int.natAbs_eq_natAbs_iff.1 e with e | e
    · exact h1 (e ▸ hm)
    · exact h2 (e ▸ hm)
  refine ⟨?_, ?_⟩
  · unfold St.set
    rw [if_pos ⟨by rw [h.lva]; exact hxn, by rw [h.lle]; exact hxn, by rw [h.lre]; exact hxn, by unfold bigN; omega, by unfold bigN; omega⟩]
    rfl
  · refine { nn := h.nn, small := h.small, lva := by simp [St.setd, h.lva], lle := by simp [St.setd, h.lle], lre := by simp [St.setd, h.lre], lsc := h.lsc, lcl := h.lcl, tv := ?_, once := h.once.snoc h1 h2, va := ?_, sorted := h.sorted, mle := ?_, le := ?_, re := ?_, ck := h.ck, w2 := ?_ }
    · intro y hy
      rcases List.mem_append.1 hy with hy | hy
      · exact h.tv y hy
      · simp at hy; subst hy; exact hx
    · intro y hy
      show (s.va.set x.natAbs (if x < 0 then -1 else 1))[y.natAbs]? = some (litV (s.tr ++ [x]) (y.natAbs : Int))
      rw [List.getElem?_set]
      by_cases e : x.natAbs = y.natAbs
      · rw [if_pos e, if_pos (by rw [h.lva]; exact hxn), ← e]
        congr 1
        unfold litV
        by_cases hn : x < 0
        · rw [if_pos hn]
          have e2 : (x.natAbs : Int) = -x := by omega
          rw [e2, Int.neg_neg]
          have h3 : ¬ -x ∈ s.tr ++ [x] := by
            simp only [List.mem_append, List.mem_singleton, not_or]
            exact ⟨h2, by have := hx.ne; omega⟩
          simp [h3]
        · rw [if_neg hn]
          have e2 : (x.natAbs : Int) = x := by omega
          rw [e2]
          simp
      · rw [if_neg e, h.va y hy]
        congr 1
        unfold litV
        have m1 : ∀ z : Int, z.natAbs = y.natAbs → (z ∈ s.tr ++ [x] ↔ z ∈ s.tr) := fun z hz => by
          simp only [List.mem_append, List.mem_singleton, or_iff_left_iff_imp]
          rintro rfl
          exact absurd hz e
        simp only [m1 (y.natAbs : Int) (by omega), m1 (-(y.natAbs : Int)) (by omega)]
    · intro m hm
      have := h.mle m hm
      show m ≤ (s.tr ++ [x]).length
      simp; omega
    · intro i y hy
      show (s.le.set x.natAbs s.ma.length)[y.natAbs]? = some (lvl s.ma i)
      rw [List.getElem?_set]
      rcases getElem?_snoc hy with hy | ⟨rfl, rfl⟩
      · rw [if_neg (fun e => hne i y hy e.symm)]
        exact h.le i y hy
      · rw [if_pos rfl, if_pos (by rw [h.lle]; exact hxn), lvl_full h.mle]
    · intro i y hy
      show ∃ ry, (s.re.set x.natAbs r)[y.natAbs]? = some ry ∧ _
      rw [List.getElem?_set]
      rcases getElem?_snoc hy with hy | ⟨rfl, rfl⟩
      · rw [if_neg (fun e => hne i y hy e.symm)]
        obtain ⟨ry, a, b⟩ := h.re i y hy
        exact ⟨ry, a, b.snoc⟩
      · rw [if_pos rfl, if_pos (by rw [h.lre]; exact hxn)]
        exact ⟨r, rfl, hr⟩
    · intro k l hl a b hab i hi hia
      have hi' : s.tr[i]? = some (-a) := by
        rw [← hia]; exact (getElem?_snoc_lt (by omega)).symm
      obtain ⟨j, hj, hl2⟩ := h.w2 k l hl a b hab i hi hi'
      exact ⟨j, getElem?_snoc_of hj, hl2⟩

/-- Another order of a clause's literals. -/
def St.setcl (s : St) (k : Nat) (l : List Int) : St := { s with cl := s.cl.set k l }
theorem setcl_get {s : St} {k : Nat} {l l1 : List Int} (hk : s.cl[k]? = some l) (j : Nat) : (s.setcl k l1).cl[j]? = if j = k then some l1 else s.cl[j]? := by
  show (s.cl.set k l1)[j]? = _
  rw [List.getElem?_set]
  by_cases e : k = j
  · subst e; simp [lt_of_getElem? hk]
  · rw [if_neg e, if_neg (fun h => e h.symm)]
theorem Once.perm {l l1 : List Int} (h : Once l) (hp : l1.Perm l) : Once l1 := (hp.map Int.natAbs).nodup_iff.2 h
theorem Inv.setcl {n : Nat} {D : List (List Int)} {s : St} {p : Nat} (h : Inv n D s p) {k : Nat} {l l1 : List Int} (hk : s.cl[k]? = some l) (hp : l1.Perm l) (hw : W2l s p l1) : Inv n D (s.setcl k l1) p := by
  have hs : Same l l1 := fun x => (hp.mem_iff).symm
  refine { nn := h.nn, small := h.small, lva := h.lva, lle := h.lle, lre := h.lre, lsc := h.lsc, lcl := by simp [St.setcl, h.lcl], tv := h.tv, once := h.once, va := h.va, sorted := h.sorted, mle := h.mle, le := h.le, re := ?_, ck := ?_, w2 := ?_ }
  · intro i y hy
    obtain ⟨r, hr, hw⟩ := h.re i y hy
    refine ⟨r, hr, ?_⟩
    rcases hw with hw | ⟨k2, l2, e1, e2, e3, e4⟩
    · exact .inl hw
    · refine .inr ⟨k2, if k2 = k then l1 else l2, e1, ?_, ?_, ?_⟩
      · rw [setcl_get hk]; split
        · rfl
        · exact e2
      · split
        · subst ‹k2 = k›; rw [hk] at e2; obtain rfl := Option.some.inj e2; exact (hs _).1 e3
        · exact e3
      · intro z hz
        apply e4 z
        split at hz
        · subst ‹k2 = k›; rw [hk] at e2; obtain rfl := Option.some.inj e2; exact (hs _).2 hz
        · exact hz
  · intro k2 l2 h2
    rw [setcl_get hk] at h2
    split at h2
    · obtain rfl := Option.some.inj h2
      obtain ⟨a, b, c, l', d, e⟩ := h.ck k l hk
      exact ⟨by rw [hp.length_eq]; exact a, fun x hx => b x ((hs x).2 hx), c.perm hp, l', d, e.trans hs⟩
    · exact h.ck k2 l2 h2
  · intro k2 l2 h2
    rw [setcl_get hk] at h2
    split at h2
    · obtain rfl := Option.some.inj h2
      exact hw
    · exact h.w2 k2 l2 h2

theorem find_ok {n : Nat} {D : List (List Int)} {s : St} {p : Nat} (h : Inv n D s p) : ∀ (ys : List Int) (i : Nat), (∀ y ∈ ys, V n y) →
    (s.find ys i = some none ∧ ∀ y ∈ ys, litV s.tr y < 0) ∨ ∃ j y, s.find ys i = some (some (i + j)) ∧ ys[j]? = some y ∧ 0 ≤ litV s.tr y
  | [], i, _ => .inl ⟨rfl, by simp⟩
  | y :: ys, i, hv => by
    have h1 := h.is (hv y (by simp))
    unfold St.find
    rw [h1]
    simp only [Option.bind_eq_bind, Option.bind_some]
    by_cases hp : 0 ≤ litV s.tr y
    · rw [if_pos hp]
      exact .inr ⟨0, y, rfl, rfl, hp⟩
    · rw [if_neg hp]
      rcases find_ok h ys (i + 1) (fun z hz => hv z (by simp [hz])) with ⟨e, e2⟩ | ⟨j, z, e1, e2, e3⟩
      · refine .inl ⟨e, fun z hz => ?_⟩
        rcases List.mem_cons.1 hz with rfl | hz
        · omega
        · exact e2 z hz
      · exact .inr ⟨j + 1, z, by rw [e1]; congr 2; omega, by simpa using e2, e3⟩

/-- What a step of the search leaves as it was. -/
structure Ext (s s' : St) : Prop where
  ma : s'.ma = s.ma
  pf : s'.pf = s.pf
  tr : ∃ t, s'.tr = s.tr ++ t
  cl : ∀ (k : Nat) l, s.cl[k]? = some l → ∃ l', s'.cl[k]? = some l' ∧ Same l l'
  len : s'.cl.length = s.cl.length
  sc : s'.sc = s.sc
  sp : s'.sp = s.sp
theorem Ext.refl (s : St) : Ext s s := ⟨rfl, rfl, ⟨[], by simp⟩, fun k l h => ⟨l, h, Same.refl l⟩, rfl, rfl, rfl⟩
theorem Ext.trans {a b c : St} (h : Ext a b) (h' : Ext b c) : Ext a c := by
  obtain ⟨t, ht⟩ := h.tr
  obtain ⟨t', ht'⟩ := h'.tr
  refine ⟨h'.ma.trans h.ma, h'.pf.trans h.pf, ⟨t ++ t', by rw [ht', ht, List.append_assoc]⟩, fun k l hl => ?_, h'.len.trans h.len, h'.sc.trans h.sc, h'.sp.trans h.sp⟩
  obtain ⟨l1, e1, s1⟩ := h.cl k l hl
  obtain ⟨l2, e2, s2⟩ := h'.cl k l1 e1
  exact ⟨l2, e2, s1.trans s2⟩

structure PI (n : Nat) (D : List (List Int)) (s : St) (x : Int) (d : Nat) (L : List Nat) : Prop where
  inv : Inv n D s d
  here : s.tr[d]? = some (-x)
  cur : ∀ m ∈ s.ma, m ≤ d
  wk : ∀ y, y ≠ x → (s.wt y).Nodup ∧ ∀ k, k ∈ s.wt y ↔ Watches s k y
  nd : L.Nodup
  wx : ∀ k, k ∈ L ↔ Watches s k x
def OtherSo (s : St) (x : Int) (left : List Nat) : Prop := ∀ k ∈ left, ∀ l, s.cl[k]? = some l → ∀ b, PairOf l x b → b ∈ s.tr

theorem pair_swap {l l1 : List Int} (h0 : l1[0]? = l[1]?) (h1 : l1[1]? = l[0]?) {a b : Int} : PairOf l1 a b ↔ PairOf l a b := by
  unfold PairOf
  rw [h0, h1]
  constructor
  · rintro (⟨a, b⟩ | ⟨a, b⟩)
    · exact .inr ⟨b, a⟩
    · exact .inl ⟨b, a⟩
  · rintro (⟨a, b⟩ | ⟨a, b⟩)
    · exact .inr ⟨b, a⟩
    · exact .inl ⟨b, a⟩
theorem Once.two {l : List Int} (h : Once l) {i j : Nat} {a b : Int} (hi : l[i]? = some a) (hj : l[j]? = some b) (hij : i ≠ j) : a.natAbs ≠ b.natAbs := fun e => hij (h.idx hi hj e).1

theorem watchOn_ok {s : St} {y : Int} {k : Nat} (h1 : (s.wt y).length < bigN) (h2 : y.natAbs < bigN) : s.watchOn y k = some { s with wt := upd s.wt y (s.wt y ++ [k]) } := by
  unfold St.watchOn; rw [if_pos ⟨h1, h2⟩]

theorem watch_len {s : St} {N : Nat} (hN : s.cl.length ≤ N) {L : List Nat} {y : Int} (hn : L.Nodup) (h : ∀ k ∈ L, Watches s k y) : L.length ≤ N := by
  have := nodup_sub_length (m := List.range s.cl.length) hn (fun k hk => by obtain ⟨l, hl, _⟩ := h k hk; exact List.mem_range.2 (lt_of_getElem? hl))
  simp at this; omega

/-- What 'look' does. -/
theorem look_ok {n : Nat} {D : List (List Int)} {s : St} {x : Int} {d k : Nat} {left ks : List Nat} (hP : PI n D s x d (left ++ k :: ks)) (hO : OtherSo s x left) :
    ∃ s' kept ok, s.look k x = some (s', kept, ok) ∧ Ext s s' ∧ s'.dn = s.dn ∧
      ((ok = true ∧ PI n D s' x d ((if kept then left ++ [k] else left) ++ ks) ∧ OtherSo s' x (if kept then left ++ [k] else left)) ∨
       (ok = false ∧ kept = true ∧ PI n D s' x d (left ++ k :: ks) ∧ ∃ l, s'.cl[k]? = some l ∧ ∀ y ∈ l, -y ∈ s'.tr)) := by
  obtain ⟨l, hl, hw⟩ := (hP.wx k).1 (by simp)
  obtain ⟨c1, c2, c3, c4⟩ := hP.inv.ck k l hl
  have hxtr : -x ∈ s.tr := List.mem_iff_getElem?.2 ⟨d, hP.here⟩
  have hVx : V n x := by have := (hP.inv.tv _ hxtr).neg; rwa [Int.neg_neg] at this
  have hxn : x ∉ s.tr := fun e => hP.inv.once.not_both e hxtr hVx.ne
  have hlen : l.length ≤ n := c3.length_le c2
  have hsm := hP.inv.small
  obtain ⟨p0, hp0⟩ : ∃ a, l[0]? = some a := ⟨l[0], List.getElem?_eq_getElem (by omega)⟩
  obtain ⟨p1, hp1⟩ : ∃ a, l[1]? = some a := ⟨l[1], List.getElem?_eq_getElem (by omega)⟩
  -- the clause that looks at x in its second place
  obtain ⟨l1, a, hl1, hperm, hl10, hl11, hpr, hax⟩ : ∃ l1 a, (if l.getD 0 0 = x then swapAt l 0 1 else l) = l1 ∧ l1.Perm l ∧ l1[0]? = some a ∧ l1[1]? = some x ∧ (∀ u v, PairOf l1 u v ↔ PairOf l u v) ∧ a.natAbs ≠ x.natAbs := by
    by_cases e : l.getD 0 0 = x
    · have e0 : p0 = x := by rw [List.getD_eq_getElem?_getD, hp0] at e; simpa using e
      subst e0
      refine ⟨swapAt l 0 1, p1, if_pos e, swapAt_perm (by omega) (by omega), ?_, ?_, ?_, c3.two hp1 hp0 (by omega)⟩
      · rw [swapAt_get (by omega) (by omega)]; simp [hp1]
      · rw [swapAt_get (by omega) (by omega)]; simp [hp0]
      · intro u v
        refine pair_swap ?_ ?_
        · rw [swapAt_get (by omega) (by omega)]; simp
        · rw [swapAt_get (by omega) (by omega)]; simp
    · have e0 : p0 ≠ x := by rw [List.getD_eq_getElem?_getD, hp0] at e; simpa using e
      have e1 : p1 = x := by
        rcases hw with hw | hw
        · rw [hp0] at hw; exact absurd (Option.some.inj hw) e0
        · rw [hp1] at hw; exact Option.some.inj hw
      subst e1
      exact ⟨l, p0, if_neg e, List.Perm.refl l, hp0, hp1, fun _ _ => Iff.rfl, c3.two hp0 hp1 (by omega)⟩
  have hl1len : l1.length = l.length := hperm.length_eq
  have hl1v : ∀ y ∈ l1, V n y := fun y hy => c2 y (hperm.mem_iff.1 hy)
  have hl1o : Once l1 := c3.perm hperm
  have haV : V n a := hl1v a (List.mem_iff_getElem?.2 ⟨0, hl10⟩)
  have ha1 : l1.getD 0 0 = a := by rw [List.getD_eq_getElem?_getD, hl10]; rfl
  have hW2l1 : W2l s d l1 := fun u v huv => hP.inv.w2 k l hl u v ((hpr u v).1 huv)
  have hI1 : Inv n D (s.setcl k l1) d := hP.inv.setcl hl hperm hW2l1
  have hE1 : Ext s (s.setcl k l1) := by
    refine ⟨rfl, rfl, ⟨[], by simp [St.setcl]⟩, fun k2 l2 h2 => ?_, by simp [St.setcl], rfl, rfl⟩
    rw [setcl_get hl]
    by_cases e : k2 = k
    · subst e
      rw [hl] at h2
      obtain rfl := Option.some.inj h2
      exact ⟨l1, by simp, fun y => hperm.mem_iff.symm⟩
    · exact ⟨l2, by rw [if_neg e]; exact h2, Same.refl _⟩
  have hWk : ∀ k2 y, Watches (s.setcl k l1) k2 y ↔ Watches s k2 y := by
    intro k2 y
    unfold Watches
    simp only [setcl_get hl]
    by_cases e : k2 = k
    · subst e
      simp only [if_pos, Option.some.injEq, exists_eq_left', hl]
      have q := fun z => hpr y z
      unfold PairOf at q
      rw [hl10, hl11, hp0, hp1] at *
      simp only [Option.some.injEq] at *
      have q1 := q a; have q2 := q x; have q3 := q p0; have q4 := q p1
      constructor
      · rintro (rfl | rfl)
        · rcases q2.1 (.inl ⟨rfl, rfl⟩) with ⟨h, _⟩ | ⟨_, h⟩
          · exact .inl h
          · exact .inr h
        · rcases q1.1 (.inr ⟨rfl, rfl⟩) with ⟨h, _⟩ | ⟨_, h⟩
          · exact .inl h
          · exact .inr h
      · rintro (rfl | rfl)
        · rcases q4.2 (.inl ⟨rfl, rfl⟩) with ⟨h, _⟩ | ⟨_, h⟩
          · exact .inl h
          · exact .inr h
        · rcases q3.2 (.inr ⟨rfl, rfl⟩) with ⟨h, _⟩ | ⟨_, h⟩
          · exact .inl h
          · exact .inr h
    · simp only [if_neg e]
  have hP1 : PI n D (s.setcl k l1) x d (left ++ k :: ks) := ⟨hI1, hP.here, hP.cur, fun y hy => ⟨(hP.wk y hy).1, fun k2 => ((hP.wk y hy).2 k2).trans (hWk k2 y).symm⟩, hP.nd, fun k2 => (hP.wx k2).trans (hWk k2 x).symm⟩
  have hknl : k ∉ left := by
    have := hP.nd
    rw [List.nodup_append] at this
    exact fun h => this.2.2 k h k (by simp) rfl
  have hO1 : OtherSo (s.setcl k l1) x left := by
    intro k2 hk2 l2 h2 b hb
    rw [setcl_get hl, if_neg (by rintro rfl; exact hknl hk2)] at h2
    exact hO k2 hk2 l2 h2 b hb
  have hkcl : (s.setcl k l1).cl[k]? = some l1 := by rw [setcl_get hl, if_pos rfl]
  have hkeep : ∀ (s' : St), s'.cl = (s.setcl k l1).cl → (∀ z ∈ s.tr, z ∈ s'.tr) → a ∈ s'.tr → OtherSo s' x (left ++ [k]) := by
    intro s' hc hm hat k2 hk2 l2 h2 b hb
    rw [hc] at h2
    rcases List.mem_append.1 hk2 with hk2 | hk2
    · exact hm b (hO1 k2 hk2 l2 h2 b hb)
    · simp at hk2
      subst hk2
      rw [hkcl] at h2
      obtain rfl := Option.some.inj h2
      unfold PairOf at hb
      rw [hl10, hl11] at hb
      simp only [Option.some.injEq] at hb
      rcases hb with ⟨h, _⟩ | ⟨h, _⟩
      · exact absurd (congrArg Int.natAbs h) hax
      · subst h; exact hat
  unfold St.look
  rw [hl]
  simp only [Option.bind_eq_bind, Option.bind_some]
  rw [if_pos ⟨c1, by unfold bigN; omega⟩, hl1, ha1]
  change ∃ s' kept ok, (((s.setcl k l1).is a).bind _ = _) ∧ _
  rw [hI1.is haV]
  simp only [Option.bind_some]
  by_cases hv0 : 0 < litV (s.setcl k l1).tr a
  · rw [if_pos hv0]
    refine ⟨_, _, _, rfl, hE1, rfl, .inl ⟨rfl, ?_, ?_⟩⟩
    · simp only [if_true, List.append_assoc, List.cons_append, List.nil_append]
      exact hP1
    · exact hkeep _ rfl (fun _ h => h) (litV_pos.1 hv0)
  · rw [if_neg hv0]
    have hdrop : ∀ y ∈ l1.drop 2, V n y := fun y hy => hl1v y (List.mem_of_mem_drop hy)
    change ∃ s' kept ok, (((s.setcl k l1).find (l1.drop 2) 2).bind _ = _) ∧ _
    rcases find_ok hI1 (l1.drop 2) 2 hdrop with ⟨hf, hall⟩ | ⟨j, y, hf, hj, hy0⟩
    · rw [hf]
      simp only [Option.bind_some]
      have hothers : ∀ y ∈ l1, y ≠ a → ∃ j, j < s.tr.length ∧ s.tr[j]? = some (-y) := by
        intro y hy hya
        have : -y ∈ s.tr := by
          obtain ⟨i, hi⟩ := List.mem_iff_getElem?.1 hy
          match i, hi with
          | 0, hi => rw [hl10] at hi; exact absurd (Option.some.inj hi).symm hya
          | 1, hi => rw [hl11] at hi; obtain rfl := Option.some.inj hi; exact hxtr
          | i + 2, hi =>
            have : y ∈ l1.drop 2 := List.mem_iff_getElem?.2 ⟨i, by rw [List.getElem?_drop, Nat.add_comm]; exact hi⟩
            exact (litV_neg.1 (hall y this)).2
        obtain ⟨j, hj⟩ := List.mem_iff_getElem?.1 this
        exact ⟨j, lt_of_getElem? hj, hj⟩
      by_cases hv1 : litV (s.setcl k l1).tr a < 0
      · rw [if_pos hv1]
        refine ⟨_, _, _, rfl, hE1, rfl, .inr ⟨rfl, rfl, hP1, l1, hkcl, fun y hy => ?_⟩⟩
        by_cases e : y = a
        · subst e; exact (litV_neg.1 hv1).2
        · obtain ⟨j, _, hj⟩ := hothers y hy e
          exact List.mem_iff_getElem?.2 ⟨j, hj⟩
      · rw [if_neg hv1]
        have hz := litV_zero.1 (show litV (s.setcl k l1).tr a = 0 by omega)
        have hd : d ≤ s.tr.length := by have := lt_of_getElem? hP.here; omega
        have hwhy : Why D ((s.setcl k l1).setd a k) (s.setcl k l1).tr.length a k := by
          refine .inr ⟨k, l1, rfl, hkcl, List.mem_iff_getElem?.2 ⟨0, hl10⟩, fun y hy hya => ?_⟩
          obtain ⟨j, hj1, hj2⟩ := hothers y hy hya
          exact ⟨j, hj1, getElem?_snoc_of hj2⟩
        obtain ⟨hset, hI2⟩ := hI1.setd haV hz.1 hz.2 hd hwhy
        change ∃ s' kept ok, (((s.setcl k l1).set a k).bind _ = _) ∧ _
        rw [hset]
        simp only [Option.bind_some]
        refine ⟨_, _, _, rfl, hE1.trans ⟨rfl, rfl, ⟨[a], rfl⟩, fun k2 l2 h2 => ⟨l2, h2, Same.refl _⟩, rfl, rfl, rfl⟩, rfl, .inl ⟨rfl, ?_, ?_⟩⟩
        · simp only [if_true, List.append_assoc, List.cons_append, List.nil_append]
          exact ⟨hI2, getElem?_snoc_of hP.here, hP.cur, hP1.wk, hP1.nd, hP1.wx⟩
        · exact hkeep _ rfl (fun z hz => List.mem_append.2 (.inl hz)) (List.mem_append.2 (.inr (by simp)))
    · rw [hf]
      simp only [Option.bind_some]
      rw [List.getElem?_drop] at hj
      have hjl : 2 + j < l1.length := lt_of_getElem? hj
      have hy' : (swapAt l1 1 (2 + j)).getD 1 0 = y := by
        rw [List.getD_eq_getElem?_getD, swapAt_get (by omega) hjl]
        simp [show ¬ 1 = 2 + j by omega, hj]
      rw [hy']
      have hyx : y.natAbs ≠ x.natAbs := hl1o.two hj hl11 (by omega)
      have hya : y.natAbs ≠ a.natAbs := hl1o.two hj hl10 (by omega)
      rw [if_neg (by rintro rfl; exact hyx rfl)]
      have hVy : V n y := hl1v y (List.mem_iff_getElem?.2 ⟨_, hj⟩)
      have hp2 : (swapAt l1 1 (2 + j)).Perm l1 := swapAt_perm (by omega) hjl
      have h20 : (swapAt l1 1 (2 + j))[0]? = some a := by
        rw [swapAt_get (by omega) hjl]
        simp [show ¬ 0 = 2 + j by omega, hl10]
      have h21 : (swapAt l1 1 (2 + j))[1]? = some y := by
        rw [swapAt_get (by omega) hjl]
        simp [show ¬ 1 = 2 + j by omega, hj]
      have hW22 : W2l (s.setcl k l1) d (swapAt l1 1 (2 + j)) := by
        intro u v huv i hi hiu
        unfold PairOf at huv
        rw [h20, h21] at huv
        simp only [Option.some.injEq] at huv
        rcases huv with ⟨rfl, rfl⟩ | ⟨rfl, rfl⟩
        · obtain ⟨q, hq, _⟩ := hW2l1 a x (.inl ⟨hl10, hl11⟩) i hi hiu
          exact absurd (List.mem_iff_getElem?.2 ⟨q, hq⟩) hxn
        · exfalso
          have hm : -y ∈ s.tr := List.mem_iff_getElem?.2 ⟨i, hiu⟩
          rcases litV_nonneg.1 hy0 with h | h
          · exact hP.inv.once.not_both h hm hVy.ne
          · exact h hm
      have hI2 : Inv n D ((s.setcl k l1).setcl k (swapAt l1 1 (2 + j))) d := hI1.setcl hkcl hp2 hW22
      have hky : k ∉ s.wt y := by
        intro hk
        obtain ⟨l3, e1, e2⟩ := (hWk k y).2 (((hP.wk y (by rintro rfl; exact hyx rfl)).2 k).1 hk)
        rw [hkcl] at e1
        obtain rfl := Option.some.inj e1
        rw [hl10, hl11] at e2
        simp only [Option.some.injEq] at e2
        rcases e2 with e2 | e2
        · exact hya (congrArg Int.natAbs e2.symm)
        · exact hyx (congrArg Int.natAbs e2.symm)
      have hyne : y ≠ x := by rintro rfl; exact hyx rfl
      have hwl : (s.wt y).length < bigN := by
        have := watch_len (s := s) (Nat.le_refl _) (hP.wk y hyne).1 (fun k hk => ((hP.wk y hyne).2 k).1 hk)
        have := hP.inv.lcl
        unfold bigN; omega
      change ∃ s' kept ok, (((((s.setcl k l1).setcl k (swapAt l1 1 (2 + j))).watchOn y k).bind _) = _) ∧ _
      rw [watchOn_ok (s := (s.setcl k l1).setcl k (swapAt l1 1 (2 + j))) hwl (by unfold V at hVy; unfold bigN; omega)]
      simp only [Option.bind_some]
      have hkcl2 : ((s.setcl k l1).setcl k (swapAt l1 1 (2 + j))).cl[k]? = some (swapAt l1 1 (2 + j)) := by rw [setcl_get hkcl, if_pos rfl]
      have hWk2 : ∀ k2 z, k2 ≠ k → (Watches ((s.setcl k l1).setcl k (swapAt l1 1 (2 + j))) k2 z ↔ Watches s k2 z) := fun k2 z hne => by
        rw [← hWk]
        unfold Watches
        simp only [setcl_get hkcl, if_neg hne]
      have hWkk : ∀ z, Watches ((s.setcl k l1).setcl k (swapAt l1 1 (2 + j))) k z ↔ z = a ∨ z = y := fun z => by
        unfold Watches
        rw [hkcl2]
        simp only [Option.some.injEq, exists_eq_left', h20, h21]
        constructor
        · rintro (h | h)
          · exact .inl h.symm
          · exact .inr h.symm
        · rintro (h | h)
          · exact .inl h.symm
          · exact .inr h.symm
      have hWka : ∀ z, Watches s k z ↔ z = a ∨ z = x := fun z => by
        rw [← hWk]
        unfold Watches
        rw [hkcl]
        simp only [Option.some.injEq, exists_eq_left', hl10, hl11]
        constructor
        · rintro (h | h)
          · exact .inl h.symm
          · exact .inr h.symm
        · rintro (h | h)
          · exact .inl h.symm
          · exact .inr h.symm
      have hnd := hP.nd
      rw [List.nodup_append, List.nodup_cons] at hnd
      have hkks : k ∉ ks := hnd.2.1.1
      refine ⟨_, _, _, rfl, ?_, rfl, .inl ⟨rfl, ?_, ?_⟩⟩
      · refine ⟨rfl, rfl, ⟨[], by simp [St.setcl]⟩, fun k2 l2 h2 => ?_, by simp [St.setcl], rfl, rfl⟩
        show ∃ l', ((s.setcl k l1).setcl k (swapAt l1 1 (2 + j))).cl[k2]? = some l' ∧ _
        rw [setcl_get hkcl]
        by_cases e : k2 = k
        · subst e
          rw [hl] at h2
          obtain rfl := Option.some.inj h2
          exact ⟨_, if_pos rfl, fun z => (hp2.trans hperm).mem_iff.symm⟩
        · rw [if_neg e, setcl_get hl, if_neg e]
          exact ⟨l2, h2, Same.refl _⟩
      · simp only [Bool.false_eq_true, if_false]
        refine ⟨⟨hI2.nn, hI2.small, hI2.lva, hI2.lle, hI2.lre, hI2.lsc, hI2.lcl, hI2.tv, hI2.once, hI2.va, hI2.sorted, hI2.mle, hI2.le, hI2.re, hI2.ck, hI2.w2⟩, hP.here, hP.cur, ?_, ?_, ?_⟩
        · intro z hz
          show (upd s.wt y (s.wt y ++ [k]) z).Nodup ∧ ∀ k2, k2 ∈ upd s.wt y (s.wt y ++ [k]) z ↔ Watches ((s.setcl k l1).setcl k (swapAt l1 1 (2 + j))) k2 z
          unfold upd
          by_cases e : z = y
          · subst e
            rw [if_pos rfl]
            refine ⟨?_, fun k2 => ?_⟩
            · rw [List.nodup_append]
              refine ⟨(hP.wk z hz).1, by simp, ?_⟩
              rintro u hu v hv rfl
              simp at hv
              subst hv
              exact hky hu
            · rw [List.mem_append, List.mem_singleton]
              by_cases e2 : k2 = k
              · subst e2
                rw [hWkk]
                simp
              · rw [hWk2 k2 z e2, (hP.wk z hz).2 k2]
                simp [e2]
          · rw [if_neg e]
            refine ⟨(hP.wk z hz).1, fun k2 => ?_⟩
            rw [(hP.wk z hz).2 k2]
            by_cases e2 : k2 = k
            · subst e2
              rw [hWkk, hWka]
              simp [e, hz]
            · exact (hWk2 k2 z e2).symm
        · rw [List.nodup_append]
          exact ⟨hnd.1, hnd.2.1.2, fun u hu v hv => hnd.2.2 u hu v (by simp [hv])⟩
        · intro k2
          show _ ↔ Watches ((s.setcl k l1).setcl k (swapAt l1 1 (2 + j))) k2 x
          by_cases e2 : k2 = k
          · subst e2
            rw [hWkk]
            constructor
            · intro h
              rcases List.mem_append.1 h with h | h
              · exact absurd h hknl
              · exact absurd h hkks
            · rintro (h | h)
              · exact absurd (congrArg Int.natAbs h.symm) hax
              · exact absurd h.symm hyne
          · rw [hWk2 k2 x e2, ← hP.wx k2]
            simp [e2]
      · simp only [Bool.false_eq_true, if_false]
        intro k2 hk2 l2 h2 b hb
        have hne : k2 ≠ k := by rintro rfl; exact hknl hk2
        change ((s.setcl k l1).setcl k (swapAt l1 1 (2 + j))).cl[k2]? = some l2 at h2
        rw [setcl_get hkcl, if_neg hne] at h2
        exact hO1 k2 hk2 l2 h2 b hb
end Go.Proofs.Ytbagcbiekpopbaa

namespace Go.Proofs.Ytbagcbiekpopbaa
set_option linter.unusedVariables false
set_option linter.unusedSimpArgs false

/-- Only what the invariant does not speak of has turned. -/
theorem Inv.other {n : Nat} {D : List (List Int)} {s : St} {p : Nat} (h : Inv n D s p) (wt : Int → List Nat) (dn : Nat) (sp : Nat) (pf : List (List Int)) : Inv n D { s with wt := wt, dn := dn, sp := sp, pf := pf } p :=
  ⟨h.nn, h.small, h.lva, h.lle, h.lre, h.lsc, h.lcl, h.tv, h.once, h.va, h.sorted, h.mle, h.le, h.re, h.ck, h.w2⟩
theorem Inv.less {n : Nat} {D : List (List Int)} {s : St} {p q : Nat} (h : Inv n D s p) (hq : q ≤ p) : Inv n D s q :=
  ⟨h.nn, h.small, h.lva, h.lle, h.lre, h.lsc, h.lcl, h.tv, h.once, h.va, h.sorted, h.mle, h.le, h.re, h.ck, fun k l hl a b hab i hi => h.w2 k l hl a b hab i (by omega)⟩

/-- The clause of a conflict. -/
def Confl (s : St) (k : Nat) : Prop := ∃ l, s.cl[k]? = some l ∧ ∀ y ∈ l, -y ∈ s.tr

theorem passes_ok {n : Nat} {D : List (List Int)} {x : Int} {d : Nat} : ∀ (todo left : List Nat) (s : St), PI n D s x d (left ++ todo) → OtherSo s x left →
    ∃ s' r, s.passes x left todo = some (s', r) ∧ Ext s s' ∧ s'.dn = s.dn ∧ WK s' ∧ (match r with | none => Inv n D s' (d + 1) | some k => Inv n D s' d ∧ Confl s' k)
  | [], left, s, hP, hO => by
    rw [List.append_nil] at hP
    refine ⟨_, _, rfl, ⟨rfl, rfl, ⟨[], by simp⟩, fun k l h => ⟨l, h, Same.refl l⟩, rfl, rfl, rfl⟩, rfl, ?_, ?_⟩
    · intro y
      show (upd s.wt x left y).Nodup ∧ ∀ k, k ∈ upd s.wt x left y ↔ Watches s k y
      unfold upd
      by_cases e : y = x
      · subst e; rw [if_pos rfl]; exact ⟨hP.nd, hP.wx⟩
      · rw [if_neg e]; exact hP.wk y e
    · have h := hP.inv
      refine Inv.other (s := s) ⟨h.nn, h.small, h.lva, h.lle, h.lre, h.lsc, h.lcl, h.tv, h.once, h.va, h.sorted, h.mle, h.le, h.re, h.ck, ?_⟩ _ _ _ _
      intro k l hl a b hab i hi hia
      by_cases e : i < d
      · exact h.w2 k l hl a b hab i e hia
      · obtain rfl : i = d := by omega
        have hax : a = x := by
          have := hP.here.symm.trans hia
          have := Option.some.inj this
          omega
        subst hax
        have hk : k ∈ left := (hP.wx k).2 ⟨l, hl, by rcases hab with ⟨h1, _⟩ | ⟨_, h1⟩; exact .inl h1; exact .inr h1⟩
        obtain ⟨j, hj⟩ := List.mem_iff_getElem?.1 (hO k hk l hl b hab)
        exact ⟨j, hj, by rw [lvl_full hP.cur]; exact lvl_le _ _⟩
  | k :: ks, left, s, hP, hO => by
    obtain ⟨s1, kept, ok, he, hE, hdn, hcase⟩ := look_ok hP hO
    unfold St.passes
    rw [he]
    simp only [Option.bind_eq_bind, Option.bind_some]
    rcases hcase with ⟨rfl, hP1, hO1⟩ | ⟨rfl, rfl, hP1, hc⟩
    · rw [if_pos rfl]
      obtain ⟨s2, r, e2, hE2, hdn2, hw2, h2⟩ := passes_ok ks (if kept then left ++ [k] else left) s1 hP1 hO1
      exact ⟨s2, r, e2, hE.trans hE2, hdn2.trans hdn, hw2, h2⟩
    · simp only [Bool.false_eq_true, if_false, if_true]
      refine ⟨_, _, rfl, hE.trans ⟨rfl, rfl, ⟨[], by simp⟩, fun k l h => ⟨l, h, Same.refl l⟩, rfl, rfl, rfl⟩, hdn, ?_, ?_, ?_⟩
      · intro y
        show (upd s1.wt x (left ++ [k] ++ ks) y).Nodup ∧ ∀ k2, k2 ∈ upd s1.wt x (left ++ [k] ++ ks) y ↔ Watches s1 k2 y
        have e3 : left ++ [k] ++ ks = left ++ k :: ks := by simp
        rw [e3]
        unfold upd
        by_cases e : y = x
        · subst e; rw [if_pos rfl]; exact ⟨hP1.nd, hP1.wx⟩
        · rw [if_neg e]; exact hP1.wk y e
      · exact hP1.inv.other _ _ _ _
      · exact hc

/-- Between two literals of the trail. -/
structure SI (n : Nat) (D : List (List Int)) (s : St) : Prop where
  inv : Inv n D s s.dn
  wk : WK s
  cur : ∀ m ∈ s.ma, m ≤ s.dn
  dle : s.dn ≤ s.tr.length

theorem spread_ok {n : Nat} {D : List (List Int)} : ∀ (f : Nat) (s : St), SI n D s → n - s.dn < f →
    ∃ s' r, St.spread f s = some (s', r) ∧ Ext s s' ∧ WK s' ∧ (match r with
      | none => SI n D s' ∧ s'.dn = s'.tr.length
      | some k => ∃ d, Inv n D s' d ∧ (∀ m ∈ s'.ma, m ≤ d) ∧ d < s'.tr.length ∧ Confl s' k)
  | 0, s, _, hf => by omega
  | f + 1, s, hS, hf => by
    unfold St.spread
    cases hy : s.tr[s.dn]? with
    | none =>
      refine ⟨s, none, rfl, Ext.refl s, hS.wk, hS, ?_⟩
      have := List.getElem?_eq_none_iff.1 hy
      have := hS.dle
      omega
    | some y =>
      have hym : y ∈ s.tr := List.mem_iff_getElem?.2 ⟨_, hy⟩
      have hyV := hS.inv.tv y hym
      have hsm := hS.inv.small
      have hwl : (s.wt (-y)).length < bigN := by
        have := watch_len (s := s) (Nat.le_refl _) (hS.wk (-y)).1 (fun k hk => ((hS.wk (-y)).2 k).1 hk)
        have := hS.inv.lcl
        unfold bigN; omega
      have hyb : y.natAbs < bigN := by unfold V at hyV; unfold bigN; omega
      have hdn := lt_of_getElem? hy
      have htl := hS.inv.trlen
      simp only
      rw [if_pos ⟨hwl, hyb⟩]
      have hP : PI n D { s with dn := s.dn + 1 } (-y) s.dn ([] ++ s.wt (-y)) := by
        refine ⟨hS.inv.other s.wt (s.dn + 1) s.sp s.pf, ?_, hS.cur, fun z _ => hS.wk z, (hS.wk (-y)).1, (hS.wk (-y)).2⟩
        show s.tr[s.dn]? = some (- -y)
        rw [Int.neg_neg]; exact hy
      obtain ⟨s1, r, e1, hE, hdn1, hw1, h1⟩ := passes_ok (s.wt (-y)) [] { s with dn := s.dn + 1 } hP (fun k hk => by cases hk)
      rw [e1]
      simp only [Option.bind_eq_bind, Option.bind_some]
      have hE0 : Ext s s1 := ⟨hE.ma, hE.pf, hE.tr, hE.cl, hE.len, hE.sc, hE.sp⟩
      obtain ⟨t, ht⟩ := hE0.tr
      cases r with
      | some k =>
        refine ⟨s1, some k, rfl, hE0, hw1, s.dn, h1.1, ?_, ?_, h1.2⟩
        · rw [hE0.ma]; exact hS.cur
        · rw [ht]; simp; omega
      | none =>
        have hS1 : SI n D s1 := by
          refine ⟨?_, hw1, ?_, ?_⟩
          · rw [hdn1]; exact h1
          · rw [hE0.ma, hdn1]
            intro m hm
            have := hS.cur m hm
            show m ≤ s.dn + 1
            omega
          · rw [hdn1, ht]
            show s.dn + 1 ≤ _
            simp; omega
        obtain ⟨s2, r2, e2, hE2, hw2, h2⟩ := spread_ok f s1 hS1 (by rw [hdn1]; show n - (s.dn + 1) < f; omega)
        exact ⟨s2, r2, e2, hE0.trans hE2, hw2, h2⟩

/-- Where all was gone over, each clause has a literal that is so, or two that are open: at each level's beginning. -/
theorem closed_at {n : Nat} {D : List (List Int)} {s : St} {p j m : Nat} (h : Inv n D s p) (hm : s.ma[j]? = some m) (hmp : m ≤ p) {k : Nat} {l : List Int} (hl : s.cl[k]? = some l) :
    (∃ x ∈ l, x ∈ s.tr.take m) ∨ ∃ a b, a ∈ l ∧ b ∈ l ∧ a ≠ b ∧ -a ∉ s.tr.take m ∧ -b ∉ s.tr.take m := by
  obtain ⟨c1, c2, c3, c4⟩ := h.ck k l hl
  obtain ⟨a, ha⟩ : ∃ a, l[0]? = some a := ⟨l[0], List.getElem?_eq_getElem (by omega)⟩
  obtain ⟨b, hb⟩ : ∃ b, l[1]? = some b := ⟨l[1], List.getElem?_eq_getElem (by omega)⟩
  have hal : a ∈ l := List.mem_iff_getElem?.2 ⟨0, ha⟩
  have hbl : b ∈ l := List.mem_iff_getElem?.2 ⟨1, hb⟩
  have go : ∀ u v, PairOf l u v → v ∈ l → -u ∈ s.tr.take m → ∃ x ∈ l, x ∈ s.tr.take m := by
    intro u v huv hv hu
    obtain ⟨i, hi, hiu⟩ := of_mem_take hu
    obtain ⟨q, hq, hlv⟩ := h.w2 k l hl u v huv i (by omega) hiu
    refine ⟨v, hv, mem_take_of hq ?_⟩
    have h1 := (lvl_iff h.sorted (i := i) hm).2 hi
    exact (lvl_iff h.sorted hm).1 (by omega)
  by_cases h1 : -a ∈ s.tr.take m
  · exact .inl (go a b (.inl ⟨ha, hb⟩) hbl h1)
  · by_cases h2 : -b ∈ s.tr.take m
    · exact .inl (go b a (.inr ⟨ha, hb⟩) hal h2)
    · exact .inr ⟨a, b, hal, hbl, fun e => by subst e; exact absurd rfl (c3.two ha hb (by omega)), h1, h2⟩
/-- Where all was gone over and there was no conflict, and no variable is open, each clause holds. -/
theorem closed_all {n : Nat} {D : List (List Int)} {s : St} (h : SI n D s) (hd : s.dn = s.tr.length) {k : Nat} {l : List Int} (hl : s.cl[k]? = some l) (ha : ∀ x, V n x → x ∈ s.tr ∨ -x ∈ s.tr) : ∃ x ∈ l, x ∈ s.tr := by
  obtain ⟨c1, c2, c3, c4⟩ := h.inv.ck k l hl
  obtain ⟨a, ha0⟩ : ∃ a, l[0]? = some a := ⟨l[0], List.getElem?_eq_getElem (by omega)⟩
  obtain ⟨b, hb⟩ : ∃ b, l[1]? = some b := ⟨l[1], List.getElem?_eq_getElem (by omega)⟩
  have hal : a ∈ l := List.mem_iff_getElem?.2 ⟨0, ha0⟩
  have hbl : b ∈ l := List.mem_iff_getElem?.2 ⟨1, hb⟩
  rcases ha a (c2 a hal) with h1 | h1
  · exact ⟨a, hal, h1⟩
  · obtain ⟨i, hi⟩ := List.mem_iff_getElem?.1 h1
    have := lt_of_getElem? hi
    obtain ⟨q, hq, _⟩ := h.inv.w2 k l hl a b (.inl ⟨ha0, hb⟩) i (by omega) hi
    exact ⟨b, hbl, List.mem_iff_getElem?.2 ⟨q, hq⟩⟩
end Go.Proofs.Ytbagcbiekpopbaa

namespace Go.Proofs.Ytbagcbiekpopbaa
set_option linter.unusedVariables false
set_option linter.unusedSimpArgs false

/-- What follows by units of clauses, where a clause's literals are not so. -/
inductive UP (D : List (List Int)) (p : List Int) : Int → Prop where
  | neg {y : Int} : y ∈ p → UP D p (-y)
  | unit {l : List Int} {x : Int} : l ∈ D → x ∈ l → (∀ y ∈ l, y ≠ x → UP D p (-y)) → UP D p x
def RUP (D : List (List Int)) (p : List Int) : Prop := ∃ l ∈ D, ∀ y ∈ l, UP D p (-y)

theorem countP_upd {f : Int → Bool} {v : Nat} : ∀ {l : List Int}, Once l → (∀ x ∈ l, x.natAbs = v → f x = false) →
    l.countP (fun x => f x || x.natAbs == v) = l.countP f + if v ∈ l.map Int.natAbs then 1 else 0
  | [], _, _ => by simp
  | x :: l, h, hf => by
    have h2 : x.natAbs ∉ l.map Int.natAbs ∧ Once l := by unfold Once at *; simpa [List.nodup_cons] using h
    rw [List.countP_cons, List.countP_cons, countP_upd h2.2 (fun y hy => hf y (by simp [hy]))]
    by_cases e : x.natAbs = v
    · have h3 := hf x (by simp) e
      subst e
      simp only [h3, h2.1, if_false, beq_self_eq_true, Bool.or_true, if_true, List.map_cons, List.mem_cons, true_or]
      simp
    · have e2 : ¬ v = x.natAbs := fun h => e h.symm
      simp only [List.map_cons, List.mem_cons, e2, false_or]
      have e3 : (x.natAbs == v) = false := by simpa using e
      rw [e3, Bool.or_false]
      omega

/-- The current level's literals ahead of place i. -/
def Q (s : St) (m i : Nat) : List Int := (s.tr.take i).drop m
theorem mem_Q {s : St} {m i : Nat} {x : Int} : x ∈ Q s m i ↔ ∃ j, m ≤ j ∧ j < i ∧ s.tr[j]? = some x := by
  unfold Q
  constructor
  · intro h
    obtain ⟨q, hq⟩ := List.mem_iff_getElem?.1 h
    rw [List.getElem?_drop] at hq
    have := lt_of_getElem? hq
    rw [List.getElem?_take_of_lt (by simp at this; omega)] at hq
    simp at this
    exact ⟨m + q, by omega, by omega, hq⟩
  · rintro ⟨j, h1, h2, h3⟩
    refine List.mem_iff_getElem?.2 ⟨j - m, ?_⟩
    rw [List.getElem?_drop, show m + (j - m) = j from by omega, List.getElem?_take_of_lt h2]
    exact h3
theorem Q_once {s : St} (h : Once s.tr) (m i : Nat) : Once (Q s m i) := by
  have := h.take i
  unfold Once Q at *
  rw [List.map_drop]
  exact this.sublist (List.drop_sublist _ _)
theorem Q_succ {s : St} {m i : Nat} {x : Int} (h : s.tr[i]? = some x) (hm : m ≤ i) : Q s m (i + 1) = Q s m i ++ [x] := by
  unfold Q
  rw [List.take_add_one, h, Option.toList_some, List.drop_append_of_le_length (by have := lt_of_getElem? h; simp; omega)]
theorem Q_none {s : St} {m i : Nat} (hm : i ≤ m) : Q s m i = [] := by
  unfold Q
  rw [List.drop_eq_nil_iff]
  simp; omega

/-- What is asked of the floating numbers: none below 0, none that is no number. -/
structure FlOk (F : Fl) : Prop where
  add : ∀ x y, x ≤ infR → y ≤ infR → F.add x y ≤ infR
  small : ∀ x, x ≤ infR → F.mul x 3110860544497550640 ≤ infR
  grow : ∀ x, x ≤ infR → F.mul x 4607407598781385933 ≤ infR
def FOk (s : St) : Prop := (∀ c ∈ s.sc, c ≤ infR) ∧ s.sp ≤ infR
/-- s with other scores. -/
def BB (s s' : St) : Prop := ∃ c p, s' = { s with sc := c, sp := p } ∧ c.length = s.sc.length ∧ (∀ x ∈ c, x ≤ infR) ∧ p ≤ infR
theorem BB.refl {s : St} (h : FOk s) : BB s s := ⟨s.sc, s.sp, rfl, rfl, h.1, h.2⟩
theorem bump_ok {F : Fl} (HF : FlOk F) {s s' : St} {v : Nat} (h : BB s s') (hv : v < s.sc.length) : ∃ s2, s'.bump F v = some s2 ∧ BB s s2 := by
  obtain ⟨c, p, rfl, hc, h1, h2⟩ := h
  have hv' : v < c.length := by rw [hc]; exact hv
  unfold St.bump
  simp only [Option.bind_eq_bind]
  rw [List.getElem?_eq_getElem hv']
  simp only [Option.bind_some]
  rw [if_pos ⟨by rw [List.all_eq_true]; intro x hx; exact decide_eq_true (h1 x hx), h2⟩]
  have ha := HF.add c[v] p (h1 _ (List.getElem_mem _)) h2
  have h3 : ∀ x ∈ c.set v (F.add c[v] p), x ≤ infR := fun x hx => by
    rcases List.mem_or_eq_of_mem_set hx with h | h
    · exact h1 x h
    · rw [h]; exact ha
  split
  · exact ⟨_, rfl, _, _, rfl, by simp [hc], fun x hx => by
      obtain ⟨y, hy, rfl⟩ := List.mem_map.1 hx
      exact HF.small y (h3 y hy), HF.small p h2⟩
  · exact ⟨_, rfl, _, _, rfl, by simp [hc], h3, h2⟩

def Hd (s : St) (seen : Nat → Bool) (y : Int) : Prop := seen y.natAbs = true ∨ ∃ j, s.tr[j]? = some (-y) ∧ lvl s.ma j = 0

structure LI (s : St) (m i : Nat) (a : St.Ln) : Prop where
  bb : BB s a.s
  snd : ∀ v, a.seen v = true → ∃ j x, s.tr[j]? = some x ∧ x.natAbs = v ∧ 1 ≤ lvl s.ma j
  out : ∃ o t, a.out = o :: t ∧ Once t ∧ (∀ y ∈ t, ∃ j, j < m ∧ s.tr[j]? = some (-y) ∧ 1 ≤ lvl s.ma j ∧ a.seen y.natAbs = true) ∧ ∀ j x, j < m → s.tr[j]? = some x → a.seen x.natAbs = true → -x ∈ t
  op : a.op = (Q s m i).countP (fun x => a.seen x.natAbs)

theorem lrnIn_ok {F : Fl} (HF : FlOk F) {n : Nat} {D : List (List Int)} {s : St} {d m i : Nat} (hI : Inv n D s d) (hm : s.ma[s.ma.length - 1]? = some m) : ∀ (ys : List Int) (a : St.Ln), LI s m i a →
    (∀ y ∈ ys, a.seen y.natAbs = true ∨ ∃ j, j < i ∧ s.tr[j]? = some (-y)) →
    ∃ a', St.lrnIn F ys a = some a' ∧ LI s m i a' ∧ (∀ y ∈ ys, Hd s a'.seen y) ∧ (∀ v, a.seen v = true → a'.seen v = true) ∧ (∀ j x, i ≤ j → s.tr[j]? = some x → a'.seen x.natAbs = true → a.seen x.natAbs = true)
  | [], a, hL, _ => ⟨a, rfl, hL, by simp, fun _ h => h, fun _ _ _ _ h => h⟩
  | y :: ys, a, hL, hw => by
    have hnat : (-y).natAbs = y.natAbs := Int.natAbs_neg y
    have hsm := hI.small
    obtain ⟨c, p, hbb, hc⟩ := hL.bb
    have hle : a.s.le = s.le := by rw [hbb]
    have hma : a.s.ma = s.ma := by rw [hbb]
    have hmal := hI.malen
    have htl := hI.trlen
    have hmpos : 1 ≤ s.ma.length := by have := lt_of_getElem? hm; omega
    have hlast : ∀ j, lvl s.ma j = s.ma.length ↔ m ≤ j := fun j => by
      have := lvl_iff hI.sorted (i := j) hm
      have := lvl_le s.ma j
      omega
    have tail : ∀ a1 : St.Ln, (∀ v, a.seen v = true → a1.seen v = true) → ∀ z ∈ ys, a1.seen z.natAbs = true ∨ ∃ j, j < i ∧ s.tr[j]? = some (-z) := fun a1 hs z hz => by
      rcases hw z (by simp [hz]) with h | h
      · exact .inl (hs _ h)
      · exact .inr h
    obtain ⟨j, x, hj, hx, hxi⟩ : ∃ j x, s.tr[j]? = some x ∧ x.natAbs = y.natAbs ∧ (a.seen y.natAbs = true ∨ (j < i ∧ x = -y)) := by
      rcases hw y (by simp) with h | ⟨j, hj, h⟩
      · obtain ⟨j, x, h1, h2, _⟩ := hL.snd _ h
        exact ⟨j, x, h1, h2, .inl h⟩
      · exact ⟨j, -y, h, hnat, .inr ⟨hj, rfl⟩⟩
    have hlv := hI.le j x hj
    rw [hx] at hlv
    unfold St.lrnIn
    rw [hle, hlv]
    simp only [Option.bind_eq_bind, Option.bind_some]
    by_cases hskip : a.seen y.natAbs = true ∨ lvl s.ma j = 0
    · rw [if_pos hskip]
      obtain ⟨a', e, h1, h2, h3, h4⟩ := lrnIn_ok HF hI hm ys a hL (tail a fun _ h => h)
      refine ⟨a', e, h1, fun z hz => ?_, h3, h4⟩
      rcases List.mem_cons.1 hz with rfl | hz
      · rcases hskip with h | h
        · exact .inl (h3 _ h)
        · rcases hxi with h5 | ⟨_, rfl⟩
          · exact .inl (h3 _ h5)
          · exact .inr ⟨j, hj, h⟩
      · exact h2 z hz
    · rw [if_neg hskip]
      have hns : a.seen y.natAbs = false := by
        cases hb : a.seen y.natAbs
        · rfl
        · exact absurd (.inl hb) hskip
      have hl1 : 1 ≤ lvl s.ma j := by
        rcases Nat.eq_zero_or_pos (lvl s.ma j) with h | h
        · exact absurd (.inr h) hskip
        · exact h
      obtain ⟨hji, rfl⟩ : j < i ∧ x = -y := by
        rcases hxi with h | h
        · rw [hns] at h; cases h
        · exact h
      have hVy : V n y := by
        have := (hI.tv (-y) (List.mem_iff_getElem?.2 ⟨j, hj⟩)).neg
        rwa [Int.neg_neg] at this
      obtain ⟨s1, hb1, hb2⟩ := bump_ok HF hL.bb (v := y.natAbs) (by rw [hI.lsc]; unfold V at hVy; omega)
      rw [hb1]
      simp only [Option.bind_some]
      obtain ⟨o, t, ho, hot, hoy, hoc⟩ := hL.out
      have htlen : t.length ≤ n := hot.length_le (fun z hz => by
        obtain ⟨q, _, hq, _⟩ := hoy z hz
        have := (hI.tv (-z) (List.mem_iff_getElem?.2 ⟨q, hq⟩)).neg
        rwa [Int.neg_neg] at this)
      have hopb : a.op ≤ n := by
        rw [hL.op]
        have h1 := List.countP_le_length (p := fun x : Int => a.seen x.natAbs) (l := Q s m i)
        have : (Q s m i).length ≤ s.tr.length := by unfold Q; simp; omega
        omega
      rw [if_pos ⟨by rw [ho]; unfold bigN; simp; omega, by unfold bigN; omega⟩, hma]
      have hseen : ∀ v, upd a.seen y.natAbs true v = true ↔ (a.seen v = true ∨ v = y.natAbs) := fun v => by
        unfold upd
        by_cases e : v = y.natAbs
        · simp [e]
        · simp [e]
      have hsnd : ∀ v, upd a.seen y.natAbs true v = true → ∃ j x, s.tr[j]? = some x ∧ x.natAbs = v ∧ 1 ≤ lvl s.ma j := by
        intro v hv
        rcases (hseen v).1 hv with h | rfl
        · exact hL.snd v h
        · exact ⟨j, -y, hj, hnat, hl1⟩
      have hmon : ∀ v, a.seen v = true → upd a.seen y.natAbs true v = true := fun v hv => (hseen v).2 (.inl hv)
      have hback : ∀ (q : Nat) (z : Int), i ≤ q → s.tr[q]? = some z → upd a.seen y.natAbs true z.natAbs = true → a.seen z.natAbs = true := by
        intro q z hq hz hs
        rcases (hseen _).1 hs with h | h
        · exact h
        · have := (hI.once.idx hz hj (by rw [h, hnat])).1
          omega
      have hfun : (fun x : Int => upd a.seen y.natAbs true x.natAbs) = fun x : Int => (a.seen x.natAbs || x.natAbs == y.natAbs) := by
        funext x
        rw [Bool.eq_iff_iff, hseen]
        simp
      have hcnt := countP_upd (f := fun x : Int => a.seen x.natAbs) (v := y.natAbs) (Q_once hI.once m i) (fun x _ hx => by show a.seen x.natAbs = false; rw [hx]; exact hns)
      have hmemQ : y.natAbs ∈ (Q s m i).map Int.natAbs ↔ m ≤ j := by
        rw [List.mem_map]
        constructor
        · rintro ⟨z, hz, e⟩
          obtain ⟨q, h1, h2, h3⟩ := mem_Q.1 hz
          have := (hI.once.idx h3 hj (by rw [e, hnat])).1
          omega
        · intro h
          exact ⟨-y, mem_Q.2 ⟨j, h, hji, hj⟩, hnat⟩
      have fin : ∀ a1 : St.Ln, a1.seen = upd a.seen y.natAbs true → LI s m i a1 → ∃ a', St.lrnIn F ys a1 = some a' ∧ LI s m i a' ∧ (∀ z ∈ y :: ys, Hd s a'.seen z) ∧ (∀ v, a.seen v = true → a'.seen v = true) ∧ (∀ j x, i ≤ j → s.tr[j]? = some x → a'.seen x.natAbs = true → a.seen x.natAbs = true) := by
        intro a1 hs1 hL1
        obtain ⟨a', e, h1, h2, h3, h4⟩ := lrnIn_ok HF hI hm ys a1 hL1 (tail a1 (by rw [hs1]; exact hmon))
        refine ⟨a', e, h1, fun z hz => ?_, fun v hv => h3 v (by rw [hs1]; exact hmon v hv), fun q z hq hz hs => hback q z hq hz (by rw [← hs1]; exact h4 q z hq hz hs)⟩
        rcases List.mem_cons.1 hz with rfl | hz
        · exact .inl (h3 _ (by rw [hs1]; exact (hseen _).2 (.inr rfl)))
        · exact h2 z hz
      by_cases hcur : lvl s.ma j = s.ma.length
      · rw [if_pos hcur]
        refine fin _ rfl ⟨hb2, hsnd, ⟨o, t, ho, hot, fun z hz => ?_, fun q x hq hx hs => ?_⟩, ?_⟩
        · obtain ⟨q, h1, h2, h3, h4⟩ := hoy z hz
          exact ⟨q, h1, h2, h3, hmon _ h4⟩
        · rcases (hseen _).1 hs with h | h
          · exact hoc q x hq hx h
          · have := (hI.once.idx hx hj (by rw [h, hnat])).1
            have := (hlast j).1 hcur
            omega
        · show a.op + 1 = _
          rw [hfun, hcnt, if_pos (hmemQ.2 ((hlast j).1 hcur)), hL.op]
      · rw [if_neg hcur]
        have hjm : j < m := by
          rcases Nat.lt_or_ge j m with h | h
          · exact h
          · exact absurd ((hlast j).2 h) hcur
        refine fin _ rfl ⟨hb2, hsnd, ⟨o, t ++ [y], by show a.out ++ [y] = _; rw [ho]; rfl, ?_, fun z hz => ?_, fun q x hq hx hs => ?_⟩, ?_⟩
        · have key : ∀ z ∈ t, z.natAbs ≠ y.natAbs := fun z hz e => by
            obtain ⟨q, h1, h2, h3, h4⟩ := hoy z hz
            rw [e, hns] at h4
            cases h4
          exact hot.snoc (fun h => key y h rfl) (fun h => key (-y) h hnat)
        · rcases List.mem_append.1 hz with hz | hz
          · obtain ⟨q, h1, h2, h3, h4⟩ := hoy z hz
            exact ⟨q, h1, h2, h3, hmon _ h4⟩
          · simp at hz
            subst hz
            exact ⟨j, hjm, hj, hl1, (hseen _).2 (.inr rfl)⟩
        · rcases (hseen _).1 hs with h | h
          · exact List.mem_append.2 (.inl (hoc q x hq hx h))
          · have := (hI.once.idx hx hj (by rw [h, hnat])).2
            subst this
            simp
        · show a.op = _
          rw [hfun, hcnt, if_neg (fun h => by have := hmemQ.1 h; omega), hL.op]
          rfl

/-- What the analysis has resolved. -/
def Res (s : St) (m i : Nat) (why : List Int) (seen : Nat → Bool) : Prop := ∀ (j : Nat) (x : Int), i ≤ j → m ≤ j → s.tr[j]? = some x → seen x.natAbs = true →
  ∃ (k : Nat) (l : List Int), s.cl[k]? = some l ∧ x ∈ l ∧ ∀ y ∈ l, y ≠ x → (∃ q, q < j ∧ s.tr[q]? = some (-y)) ∧ (y ∈ why ∨ Hd s seen y)
structure Fin (s : St) (m : Nat) (a : St.Ln) (x : Int) (i : Nat) (t : List Int) : Prop where
  bb : BB s a.s
  out : a.out = -x :: t
  at_ : s.tr[i]? = some x
  cur : m ≤ i
  seenx : a.seen x.natAbs = true
  ot : Once t
  ty : ∀ y ∈ t, ∃ j, j < m ∧ s.tr[j]? = some (-y) ∧ 1 ≤ lvl s.ma j
  tc : ∀ j z, j < m → s.tr[j]? = some z → a.seen z.natAbs = true → -z ∈ t
  one : ∀ j z, m ≤ j → s.tr[j]? = some z → a.seen z.natAbs = true → i ≤ j
  res : Res s m (i + 1) [] a.seen

theorem lrnOut_ok {F : Fl} (HF : FlOk F) {n : Nat} {D : List (List Int)} {s : St} {d m : Nat} (hI : Inv n D s d) (hm : s.ma[s.ma.length - 1]? = some m) (cf : List Int) : ∀ (i : Nat) (why : List Int) (a : St.Ln), i ≤ s.tr.length → LI s m i a →
    (∀ y ∈ why, a.seen y.natAbs = true ∨ ∃ j, j < i ∧ s.tr[j]? = some (-y)) → Res s m i why a.seen → (∀ y ∈ cf, y ∈ why ∨ Hd s a.seen y) →
    (1 ≤ a.op ∨ ∃ y ∈ why, ∃ j, m ≤ j ∧ j < i ∧ s.tr[j]? = some (-y)) →
    ∃ a' x i' t, St.lrnOut F (s.tr.take i).reverse why a = some a' ∧ Fin s m a' x i' t ∧ ∀ y ∈ cf, Hd s a'.seen y
  | 0, why, a, _, hL, hw, hR, hC, hop => by
    exfalso
    rcases hop with h | ⟨y, _, j, _, h, _⟩
    · have := hL.op
      rw [Q_none (by omega)] at this
      simp at this
      omega
    · omega
  | i + 1, why, a, hi, hL, hw, hR, hC, hop => by
    have hmpos : 1 ≤ s.ma.length := by have := lt_of_getElem? hm; omega
    have hlast : ∀ j, lvl s.ma j = s.ma.length ↔ m ≤ j := fun j => by
      have := lvl_iff hI.sorted (i := j) hm
      have := lvl_le s.ma j
      omega
    obtain ⟨x, hx⟩ : ∃ x, s.tr[i]? = some x := ⟨s.tr[i], List.getElem?_eq_getElem (by omega)⟩
    have erev : (s.tr.take (i + 1)).reverse = x :: (s.tr.take i).reverse := by
      rw [List.take_add_one, hx, Option.toList_some, List.reverse_append]
      rfl
    rw [erev]
    obtain ⟨a1, e1, hL1, hH1, hmon, hnew⟩ := lrnIn_ok HF hI hm why a hL hw
    have hHmon : ∀ y, Hd s a.seen y → Hd s a1.seen y := fun y h => by
      rcases h with h | h
      · exact .inl (hmon _ h)
      · exact .inr h
    have hR1 : Res s m (i + 1) [] a1.seen := by
      intro j z h1 h2 h3 h4
      obtain ⟨k, l, e1, e2, e3⟩ := hR j z h1 h2 h3 (hnew j z h1 h3 h4)
      refine ⟨k, l, e1, e2, fun y hy hne => ⟨(e3 y hy hne).1, .inr ?_⟩⟩
      rcases (e3 y hy hne).2 with h | h
      · exact hH1 y h
      · exact hHmon y h
    have hC1 : ∀ y ∈ cf, Hd s a1.seen y := fun y hy => by
      rcases hC y hy with h | h
      · exact hH1 y h
      · exact hHmon y h
    have hop1 : 1 ≤ a1.op := by
      rw [hL1.op]
      rcases hop with h | ⟨y, hy, j, h1, h2, h3⟩
      · rw [hL.op] at h
        exact Nat.le_trans h (List.countP_mono_left (fun z _ hz => hmon _ hz))
      · rw [Nat.succ_le_iff, List.countP_pos_iff]
        refine ⟨-y, mem_Q.2 ⟨j, h1, h2, h3⟩, ?_⟩
        rw [Int.natAbs_neg]
        rcases hH1 y hy with h | ⟨q, h4, h5⟩
        · exact h
        · have := (hI.once.idx h3 h4 rfl).1
          subst this
          have := (hlast j).2 h1
          omega
    unfold St.lrnOut
    rw [e1]
    simp only [Option.bind_eq_bind, Option.bind_some]
    obtain ⟨c, p, hbb, hc⟩ := hL1.bb
    have hle : a1.s.le = s.le := by rw [hbb]
    have hma : a1.s.ma = s.ma := by rw [hbb]
    have hre : a1.s.re = s.re := by rw [hbb]
    have hcl : a1.s.cl = s.cl := by rw [hbb]
    rw [hle, hI.le i x hx, hma]
    simp only [Option.bind_some]
    by_cases hgo : a1.seen x.natAbs = false ∨ lvl s.ma i ≠ s.ma.length
    · rw [if_pos hgo]
      refine lrnOut_ok HF hI hm cf i [] a1 (by omega) ⟨hL1.bb, hL1.snd, hL1.out, ?_⟩ (by simp) ?_ (fun y hy => .inr (hC1 y hy)) (.inl hop1)
      · rw [hL1.op]
        by_cases hmi : m ≤ i
        · rw [Q_succ hx hmi, List.countP_append]
          have : a1.seen x.natAbs = false := by
            rcases hgo with h | h
            · exact h
            · exact absurd ((hlast i).2 hmi) h
          simp [this]
        · rw [Q_none (by omega), Q_none (by omega)]
      · intro j z h1 h2 h3 h4
        rcases Nat.eq_or_lt_of_le h1 with e | h
        · subst e
          rw [hx] at h3
          obtain rfl := Option.some.inj h3
          rcases hgo with h | h
          · rw [h] at h4; cases h4
          · exact absurd ((hlast _).2 h2) h
        · exact hR1 j z h h2 h3 h4
    · rw [if_neg hgo]
      have hsx : a1.seen x.natAbs = true := by
        cases hb : a1.seen x.natAbs
        · exact absurd (.inl hb) hgo
        · rfl
      have hmi : m ≤ i := (hlast i).1 (Decidable.byContradiction fun h => hgo (.inr h))
      have hopQ : a1.op = (Q s m i).countP (fun z => a1.seen z.natAbs) + 1 := by
        rw [hL1.op, Q_succ hx hmi, List.countP_append]
        simp [hsx]
      rw [if_neg (by omega)]
      obtain ⟨o, t, ho, hot, hoy, hoc⟩ := hL1.out
      by_cases h1 : a1.op = 1
      · rw [if_pos h1]
        have h0 : (Q s m i).countP (fun z => a1.seen z.natAbs) = 0 := by omega
        refine ⟨_, x, i, t, rfl, { bb := hL1.bb, out := by rw [ho]; rfl, at_ := hx, cur := hmi, seenx := hsx, ot := hot, ty := fun y hy => ?_, tc := hoc, one := fun j z h2 h3 h4 => ?_, res := hR1 }, hC1⟩
        · obtain ⟨q, a, b, c, _⟩ := hoy y hy
          exact ⟨q, a, b, c⟩
        · rcases Nat.lt_or_ge j i with h5 | h5
          · have := List.countP_eq_zero.1 h0 z (mem_Q.2 ⟨j, h2, h5, h3⟩)
            exact absurd h4 this
          · exact h5
      · rw [if_neg h1]
        obtain ⟨r, hr, hwhy⟩ := hI.re i x hx
        rw [hre, hr]
        simp only [Option.bind_some]
        rcases hwhy with ⟨rfl, hd | ⟨hd, _⟩⟩ | ⟨k, l, rfl, hl, hxl, hly⟩
        · exfalso
          have : i ≤ m := by
            rcases Nat.lt_or_ge m i with h2 | h2
            · obtain ⟨q, hq⟩ := List.mem_iff_getElem?.1 hd
              have hq1 := lt_of_getElem? hq
              have hq2 := (lvl_iff hI.sorted (i := m) hq).2 h2
              have hq3 := (hlast m).2 (Nat.le_refl _)
              omega
            · exact h2
          rw [Q_none this] at hopQ
          simp at hopQ
          omega
        · have := (hlast i).2 hmi
          omega
        · rw [if_pos (by omega)]
          rw [show ((k : Int)).toNat = k from rfl, hcl, hl]
          simp only [Option.bind_some]
          refine lrnOut_ok HF hI hm cf i l { a1 with op := a1.op - 1 } (by omega) ⟨hL1.bb, hL1.snd, hL1.out, by show a1.op - 1 = _; rw [hopQ]; rfl⟩ (fun y hy => ?_) ?_ (fun y hy => .inr (hC1 y hy)) (.inl (by show 1 ≤ a1.op - 1; omega))
          · by_cases e : y = x
            · subst e; exact .inl hsx
            · exact .inr (hly y hy e)
          · intro j z h2 h3 h4 h5
            rcases Nat.eq_or_lt_of_le h2 with e | h
            · subst e
              rw [hx] at h4
              obtain rfl := Option.some.inj h4
              exact ⟨k, l, hl, hxl, fun y hy hne => ⟨hly y hy hne, .inl hy⟩⟩
            · obtain ⟨k2, l2, e1, e2, e3⟩ := hR1 j z h h3 h4 h5
              refine ⟨k2, l2, e1, e2, fun y hy hne => ⟨(e3 y hy hne).1, ?_⟩⟩
              rcases (e3 y hy hne).2 with h6 | h6
              · cases h6
              · exact .inr h6
end Go.Proofs.Ytbagcbiekpopbaa

namespace Go.Proofs.Ytbagcbiekpopbaa
set_option linter.unusedVariables false
set_option linter.unusedSimpArgs false

theorem lrnBack_ok (s : St) (lv : Int → Nat) : ∀ (f i : Nat) (out : List Int) (back : Nat), i + f = out.length → 1 ≤ i →
    (∀ j y, 1 ≤ j → out[j]? = some y → s.le[y.natAbs]? = some (lv y) ∧ 1 ≤ lv y) → (∀ j y, 1 ≤ j → j < i → out[j]? = some y → lv y ≤ back) → ((i = 1 ∧ back = 0) ∨ ∃ y, out[1]? = some y ∧ lv y = back) →
    ∃ out' back', St.lrnBack s f i out back = some (out', back') ∧ out'.Perm out ∧ out'[0]? = out[0]? ∧ (∀ j y, 1 ≤ j → out'[j]? = some y → lv y ≤ back') ∧ ((out'.length ≤ 1 ∧ back' = 0) ∨ ∃ y, out'[1]? = some y ∧ lv y = back')
  | 0, i, out, back, hl, hi, h1, h2, h3 => by
    refine ⟨out, back, rfl, List.Perm.refl _, rfl, fun j y hj hy => h2 j y hj (by have := lt_of_getElem? hy; omega) hy, ?_⟩
    rcases h3 with ⟨a, b⟩ | h
    · exact .inl ⟨by omega, b⟩
    · exact .inr h
  | f + 1, i, out, back, hl, hi, h1, h2, h3 => by
    obtain ⟨y, hy⟩ : ∃ y, out[i]? = some y := ⟨out[i]'(by omega), List.getElem?_eq_getElem (by omega)⟩
    unfold St.lrnBack
    rw [hy]
    simp only [Option.bind_eq_bind, Option.bind_some]
    rw [(h1 i y hi hy).1]
    simp only [Option.bind_some]
    by_cases hb : back < lv y
    · rw [if_pos hb]
      have hp : (swapAt out 1 i).Perm out := swapAt_perm (by omega) (by omega)
      have hg := fun k => swapAt_get (l := out) (i := 1) (j := i) (by omega) (by omega) k
      have h1' : (swapAt out 1 i)[1]? = some y := by
        rw [hg]
        by_cases e : 1 = i
        · subst e; simp [hy]
        · simp [e, hy]
      obtain ⟨o, b, e1, e2, e3, e4, e5⟩ := lrnBack_ok s lv f (i + 1) (swapAt out 1 i) (lv y) (by rw [swapAt_length]; omega) (by omega)
        (fun j z hj hz => by
          rw [hg] at hz
          split at hz
          · exact h1 1 z (by omega) hz
          · split at hz
            · exact h1 i z hi hz
            · exact h1 j z hj hz)
        (fun j z hj hji hz => by
          rw [hg] at hz
          split at hz
          · by_cases e : 1 = i
            · subst e
              rw [hy] at hz
              obtain rfl := Option.some.inj hz
              exact Nat.le_refl _
            · have := h2 1 z (by omega) (by omega) hz
              omega
          · split at hz
            · rw [hy] at hz
              obtain rfl := Option.some.inj hz
              exact Nat.le_refl _
            · have := h2 j z hj (by omega) hz
              omega) (.inr ⟨y, h1', rfl⟩)
      refine ⟨o, b, e1, e2.trans hp, ?_, e4, e5⟩
      rw [e3, hg]
      simp [show ¬ 0 = i by omega]
    · rw [if_neg hb]
      refine lrnBack_ok s lv f (i + 1) out back (by omega) (by omega) h1 (fun j z hj hji hz => ?_) ?_
      · rcases Nat.lt_or_ge j i with h | h
        · exact h2 j z hj h hz
        · obtain rfl : j = i := by omega
          rw [hy] at hz
          obtain rfl := Option.some.inj hz
          omega
      · rcases h3 with ⟨a, b⟩ | h
        · have := (h1 i y hi hy).2
          omega
        · exact .inr h

/-- All that is so at level 0 follows by units. -/
theorem up_zero {n : Nat} {D : List (List Int)} {s : St} {d : Nat} (hI : Inv n D s d) (p : List Int) : ∀ (i : Nat) (x : Int), s.tr[i]? = some x → (lvl s.ma i = 0) → UP D p x := by
  intro i
  induction i using Nat.strongRecOn with
  | ind i ih =>
    intro x hx h0
    obtain ⟨r, hr, hw⟩ := hI.re i x hx
    rcases hw with ⟨_, hd | ⟨_, l, hl, hlx⟩⟩ | ⟨k, l, _, hl, hxl, hly⟩
    · obtain ⟨q, hq⟩ := List.mem_iff_getElem?.1 hd
      have := (lvl_iff hI.sorted (i := i) hq).1 (by omega)
      omega
    · refine .unit hl ((hlx x).2 rfl) (fun y hy hne => absurd ((hlx y).1 hy) hne)
    · obtain ⟨_, _, _, l', hl', hs⟩ := hI.ck k l hl
      refine .unit hl' ((hs x).2 hxl) (fun y hy hne => ?_)
      obtain ⟨j, hj, hjy⟩ := hly y ((hs y).1 hy) hne
      exact ih j hj (-y) hjy (by have := lvl_mono s.ma (Nat.le_of_lt hj); omega)

theorem Confl.rup0 {n : Nat} {D : List (List Int)} {s : St} {d k : Nat} (hI : Inv n D s d) (hc : Confl s k) (h0 : s.ma = []) : RUP D [] := by
  obtain ⟨l, hl, hall⟩ := hc
  obtain ⟨_, _, _, l', hl', hs⟩ := hI.ck k l hl
  refine ⟨l', hl', fun y hy => ?_⟩
  obtain ⟨j, hj⟩ := List.mem_iff_getElem?.1 (hall y ((hs y).1 hy))
  exact up_zero hI [] j (-y) hj (by rw [h0]; rfl)

/-- What was learnt. -/
structure Learnt (n : Nat) (D : List (List Int)) (s : St) (m : Nat) (C : List Int) (back : Nat) : Prop where
  v : ∀ y ∈ C, V n y ∧ -y ∈ s.tr
  once : Once C
  head : ∃ c i, C[0]? = some c ∧ s.tr[i]? = some (-c) ∧ m ≤ i
  rest : ∀ j y, 1 ≤ j → C[j]? = some y → ∃ q, s.tr[q]? = some (-y) ∧ q < m ∧ lvl s.ma q ≤ back
  back_lt : back < s.ma.length
  second : (C.length ≤ 1 ∧ back = 0) ∨ ∃ y q, C[1]? = some y ∧ s.tr[q]? = some (-y) ∧ lvl s.ma q = back
  rup : RUP D C
  new : ∀ (k : Nat) (l : List Int), s.cl[k]? = some l → ¬ Same l C

theorem UP.more {D D' : List (List Int)} {p : List Int} {x : Int} (h : UP D p x) (hs : ∀ l ∈ D, l ∈ D') : UP D' p x := by
  induction h with
  | neg h => exact .neg h
  | unit h1 h2 _ ih => exact .unit (hs _ h1) h2 ih
theorem UP.same {D : List (List Int)} {p p' : List Int} {x : Int} (h : UP D p x) (hs : Same p p') : UP D p' x := by
  induction h with
  | neg h => exact .neg ((hs _).1 h)
  | unit h1 h2 _ ih => exact .unit h1 h2 ih
theorem RUP.same {D : List (List Int)} {p p' : List Int} (h : RUP D p) (hs : Same p p') : RUP D p' := by
  obtain ⟨l, hl, h⟩ := h
  exact ⟨l, hl, fun y hy => (h y hy).same hs⟩

theorem learn_ok {F : Fl} (HF : FlOk F) {n : Nat} {D : List (List Int)} {s : St} {d k m : Nat} (hI : Inv n D s d) (hFo : FOk s) (hm : s.ma[s.ma.length - 1]? = some m) (hmd : m ≤ d) (hc : Confl s k) :
    ∃ s1 C back, St.learn F s k = some (s1, C, back) ∧ BB s s1 ∧ Learnt n D s m C back := by
  obtain ⟨l, hl, hall⟩ := hc
  have hmpos : 1 ≤ s.ma.length := by have := lt_of_getElem? hm; omega
  have hlast : ∀ j, lvl s.ma j = s.ma.length ↔ m ≤ j := fun j => by
    have := lvl_iff hI.sorted (i := j) hm
    have := lvl_le s.ma j
    omega
  obtain ⟨c1, c2, c3, l0, hl0, hs0⟩ := hI.ck k l hl
  -- a literal of the current level stands in it
  have hcurr : ∃ y ∈ l, ∃ j, m ≤ j ∧ j < s.tr.length ∧ s.tr[j]? = some (-y) := by
    rcases closed_at hI hm hmd hl with ⟨x, hx, hxt⟩ | ⟨a, b, ha, hb, hab, hna, hnb⟩
    · exact absurd (List.mem_of_mem_take hxt) (fun h => hI.once.not_both h (hall x hx) (c2 x hx).ne)
    · obtain ⟨j, hj⟩ := List.mem_iff_getElem?.1 (hall a ha)
      refine ⟨a, ha, j, ?_, lt_of_getElem? hj, hj⟩
      rcases Nat.lt_or_ge j m with h | h
      · exact absurd (mem_take_of hj h) hna
      · exact h
  unfold St.learn
  rw [hl]
  simp only [Option.bind_eq_bind, Option.bind_some]
  have hL0 : LI s m s.tr.length { s := s, seen := fun _ => false, out := [0], op := 0 } := by
    refine ⟨BB.refl hFo, fun v h => (by cases h), ⟨0, [], rfl, by simp [Once], by simp, fun j x _ _ h => (by cases h)⟩, ?_⟩
    simp
  obtain ⟨a', x, i, t, e1, hFi, hH⟩ := lrnOut_ok HF hI hm l s.tr.length l _ (Nat.le_refl _) hL0
    (fun y hy => by
      obtain ⟨j, hj⟩ := List.mem_iff_getElem?.1 (hall y hy)
      exact .inr ⟨j, lt_of_getElem? hj, hj⟩) (fun j x _ _ _ h => by cases h) (fun y hy => .inl hy)
    (.inr (by obtain ⟨y, h1, j, h2, h3, h4⟩ := hcurr; exact ⟨y, h1, j, h2, h3, h4⟩))
  rw [List.take_length] at e1
  rw [e1]
  simp only [Option.bind_some]
  obtain ⟨cc, pp, hbb, hcc⟩ := hFi.bb
  have hle : a'.s.le = s.le := by rw [hbb]
  have hlv : ∀ (q : Nat) (y : Int), s.tr[q]? = some (-y) → s.le[y.natAbs]? = some (s.le.getD y.natAbs 0) ∧ s.le.getD y.natAbs 0 = lvl s.ma q := fun q y hq => by
    have := hI.le q (-y) hq
    rw [Int.natAbs_neg] at this
    rw [List.getD_eq_getElem?_getD, this]
    exact ⟨rfl, rfl⟩
  obtain ⟨C, back, e2, hperm, hC0, hCle, hC1⟩ := lrnBack_ok a'.s (fun y => s.le.getD y.natAbs 0) (a'.out.length - 1) 1 a'.out 0 (by rw [hFi.out]; simp; omega) (Nat.le_refl _)
    (fun j y hj hy => by
      rw [hFi.out] at hy
      obtain ⟨j', rfl⟩ : ∃ j', j = j' + 1 := ⟨j - 1, by omega⟩
      rw [List.getElem?_cons_succ] at hy
      obtain ⟨q, h1, h2, h3⟩ := hFi.ty y (List.mem_iff_getElem?.2 ⟨j', hy⟩)
      rw [hle]
      exact ⟨(hlv q y h2).1, by rw [(hlv q y h2).2]; exact h3⟩) (fun j y h1 h2 _ => by omega) (.inl ⟨rfl, rfl⟩)
  rw [e2]
  simp only [Option.bind_some]
  rw [hFi.out] at hperm hC0
  have hC0' : C[0]? = some (-x) := hC0
  have hxV : V n x := hI.tv x (List.mem_iff_getElem?.2 ⟨i, hFi.at_⟩)
  have hOnce : Once (-x :: t) := by
    unfold Once
    rw [List.map_cons, List.nodup_cons]
    refine ⟨fun h => ?_, hFi.ot⟩
    obtain ⟨y, hy, e⟩ := List.mem_map.1 h
    obtain ⟨q, h1, h2, h3⟩ := hFi.ty y hy
    have := (hI.once.idx h2 hFi.at_ (by rw [Int.natAbs_neg, e, Int.natAbs_neg])).1
    have := hFi.cur
    omega
  have hCO : Once C := hOnce.perm hperm
  have hmem : ∀ y, y ∈ C ↔ (y = -x ∨ y ∈ t) := fun y => by rw [hperm.mem_iff]; simp
  have htail : ∀ (j : Nat) (y : Int), 1 ≤ j → C[j]? = some y → y ∈ t := fun j y hj hy => by
    rcases (hmem y).1 (List.mem_iff_getElem?.2 ⟨j, hy⟩) with h | h
    · subst h
      have := (hCO.idx hy hC0' rfl).1
      omega
    · exact h
  -- by units
  have hzero := up_zero hI C
  have hxUP : UP D C x := by
    have : UP D C (- -x) := .neg ((hmem (-x)).2 (.inl rfl))
    rwa [Int.neg_neg] at this
  have hcur : ∀ (j : Nat) (z : Int), m ≤ j → s.tr[j]? = some z → a'.seen z.natAbs = true → UP D C z := by
    intro j
    induction j using Nat.strongRecOn with
    | ind j ih =>
      intro z hj hz hs
      have hij := hFi.one j z hj hz hs
      rcases Nat.eq_or_lt_of_le hij with e | h
      · subst e
        rw [hFi.at_] at hz
        obtain rfl := Option.some.inj hz
        exact hxUP
      · obtain ⟨k2, l2, hl2, hzl, hrest⟩ := hFi.res j z h hj hz hs
        obtain ⟨_, _, _, l3, hl3, hs3⟩ := hI.ck k2 l2 hl2
        refine .unit hl3 ((hs3 z).2 hzl) (fun y hy hne => ?_)
        obtain ⟨⟨q, hq, hqy⟩, hd⟩ := hrest y ((hs3 y).1 hy) hne
        rcases hd with hd | hd | ⟨q2, h2, h3⟩
        · cases hd
        · rw [← Int.natAbs_neg] at hd
          rcases Nat.lt_or_ge q m with h4 | h4
          · have := hFi.tc q (-y) h4 hqy hd
            rw [Int.neg_neg] at this
            exact .neg ((hmem y).2 (.inr this))
          · exact ih q hq (-y) h4 hqy hd
        · exact hzero q2 (-y) h2 h3
  have hrup : RUP D C := by
    refine ⟨l0, hl0, fun y hy => ?_⟩
    have hyl := (hs0 y).1 hy
    obtain ⟨q, hqy⟩ := List.mem_iff_getElem?.1 (hall y hyl)
    rcases hH y hyl with hd | ⟨q2, h2, h3⟩
    · rw [← Int.natAbs_neg] at hd
      rcases Nat.lt_or_ge q m with h4 | h4
      · have := hFi.tc q (-y) h4 hqy hd
        rw [Int.neg_neg] at this
        exact .neg ((hmem y).2 (.inr this))
      · exact hcur q (-y) h4 hqy hd
    · exact hzero q2 (-y) h2 h3
  refine ⟨a'.s, C, back, rfl, hFi.bb, ?_⟩
  refine { v := fun y hy => ?_, once := hCO, head := ⟨-x, i, hC0', by rw [Int.neg_neg]; exact hFi.at_, hFi.cur⟩, rest := fun j y hj hy => ?_, back_lt := ?_, second := ?_, rup := hrup, new := ?_ }
  · rcases (hmem y).1 hy with rfl | h
    · exact ⟨hxV.neg, by rw [Int.neg_neg]; exact List.mem_iff_getElem?.2 ⟨i, hFi.at_⟩⟩
    · obtain ⟨q, h1, h2, h3⟩ := hFi.ty y h
      have hm2 : -y ∈ s.tr := List.mem_iff_getElem?.2 ⟨q, h2⟩
      have := (hI.tv _ hm2).neg
      rw [Int.neg_neg] at this
      exact ⟨this, hm2⟩
  · obtain ⟨q, h1, h2, h3⟩ := hFi.ty y (htail j y hj hy)
    have := hCle j y hj hy
    rw [(hlv q y h2).2] at this
    exact ⟨q, h2, h1, this⟩
  · rcases hC1 with ⟨_, rfl⟩ | ⟨y, hy, h⟩
    · omega
    · obtain ⟨q, h1, h2, h3⟩ := hFi.ty y (htail 1 y (Nat.le_refl _) hy)
      rw [(hlv q y h2).2] at h
      have := (hlast q).1
      have := lvl_le s.ma q
      omega
  · rcases hC1 with h | ⟨y, hy, h⟩
    · exact .inl h
    · obtain ⟨q, h1, h2, h3⟩ := hFi.ty y (htail 1 y (Nat.le_refl _) hy)
      rw [(hlv q y h2).2] at h
      exact .inr ⟨y, q, hy, h2, h⟩
  · intro k2 l2 hl2 hsame
    have htake : ∀ y ∈ t, -y ∈ s.tr.take m := fun y hy => by
      obtain ⟨q, h1, h2, h3⟩ := hFi.ty y hy
      exact mem_take_of h2 h1
    rcases closed_at hI hm hmd hl2 with ⟨z, hz, hzt⟩ | ⟨u, v, hu, hv, huv, hnu, hnv⟩
    · have hzC := (hsame z).1 hz
      rcases (hmem z).1 hzC with rfl | h
      · have h2 := List.mem_of_mem_take hzt
        exact hI.once.not_both (x := x) (List.mem_iff_getElem?.2 ⟨i, hFi.at_⟩) h2 hxV.ne
      · have h2 := List.mem_of_mem_take (htake z h)
        have h3 := List.mem_of_mem_take hzt
        exact hI.once.not_both h3 h2 (hI.tv z h3).ne
    · have e1 : u = -x := by
        rcases (hmem u).1 ((hsame u).1 hu) with h | h
        · exact h
        · exact absurd (htake u h) hnu
      have e2 : v = -x := by
        rcases (hmem v).1 ((hsame v).1 hv) with h | h
        · exact h
        · exact absurd (htake v h) hnv
      exact huv (e1.trans e2.symm)

theorem mem_take_of_nat {ma : List Nat} {i m x : Nat} (h : ma[i]? = some x) (hi : i < m) : x ∈ ma.take m :=
  List.mem_iff_getElem?.2 ⟨i, by rw [List.getElem?_take_of_lt hi]; exact h⟩
theorem clear_ok : ∀ (xs : List Int) (va : List Int), (∀ x ∈ xs, x.natAbs < va.length) →
    ∃ va', St.clear xs va = some va' ∧ va'.length = va.length ∧ ∀ v, v < va.length → va'[v]? = if v ∈ xs.map Int.natAbs then some 0 else va[v]?
  | [], va, _ => ⟨va, rfl, rfl, by simp⟩
  | x :: xs, va, h => by
    obtain ⟨va', e, h1, h2⟩ := clear_ok xs (va.set x.natAbs 0) (fun y hy => by simpa using h y (by simp [hy]))
    unfold St.clear
    rw [if_pos (h x (by simp)), e]
    refine ⟨va', rfl, by simpa using h1, fun v hv => ?_⟩
    rw [h2 v (by simpa using hv), List.getElem?_set]
    by_cases e1 : v ∈ xs.map Int.natAbs
    · simp [e1]
    · by_cases e2 : x.natAbs = v
      · subst e2
        simp [hv]
      · have e3 : ¬ v = x.natAbs := fun h => e2 h.symm
        simp only [List.map_cons, List.mem_cons, e3, e1, or_self, if_false, e2]

/-- Back to a level. -/
def St.backTo (s : St) (lv f : Nat) (va : List Int) : St := { s with va := va, tr := s.tr.take f, ma := s.ma.take lv, dn := f }
theorem undo_ok {n : Nat} {D : List (List Int)} {s : St} {d lv f : Nat} (hI : Inv n D s d) (hf : s.ma[lv]? = some f) (hfd : f ≤ d) :
    ∃ va, s.undo lv = some (s.backTo lv f va) ∧ Inv n D (s.backTo lv f va) f := by
  have hfl : f ≤ s.tr.length := hI.mle f (List.mem_iff_getElem?.2 ⟨lv, hf⟩)
  obtain ⟨va, e, h1, h2⟩ := clear_ok (s.tr.drop f) s.va (fun x hx => by
    have := hI.tv x (List.mem_of_mem_drop hx)
    unfold V at this
    rw [hI.lva]; omega)
  have hget : ∀ i, i < f → (s.tr.take f)[i]? = s.tr[i]? := fun i hi => List.getElem?_take_of_lt hi
  have hlen : (s.tr.take f).length = f := by simp; omega
  have hof : ∀ {i : Nat} {x : Int}, (s.tr.take f)[i]? = some x → i < f ∧ s.tr[i]? = some x := fun {i x} h => by
    have := lt_of_getElem? h
    rw [hlen] at this
    exact ⟨this, by rw [← hget i this]; exact h⟩
  have hlvl : ∀ i, i < f → lvl (s.ma.take lv) i = lvl s.ma i := fun i hi => lvl_take hI.sorted hf hi
  refine ⟨va, ?_, ?_⟩
  · unfold St.undo
    rw [hf]
    simp only [Option.bind_eq_bind]
    rw [if_pos hfl, e]
    rfl
  · refine { nn := hI.nn, small := hI.small, lva := h1.trans hI.lva, lle := hI.lle, lre := hI.lre, lsc := hI.lsc, lcl := hI.lcl, tv := fun x hx => hI.tv x (List.mem_of_mem_take hx), once := hI.once.take f, va := ?_, sorted := hI.sorted.sublist (List.take_sublist _ _), mle := ?_, le := ?_, re := ?_, ck := hI.ck, w2 := ?_ }
    · intro x hx
      show va[x.natAbs]? = some (litV (s.tr.take f) (x.natAbs : Int))
      rw [h2 x.natAbs (by rw [hI.lva]; unfold V at hx; omega), hI.va x hx]
      have hmt : ∀ z : Int, z ∈ s.tr ↔ z ∈ s.tr.take f ∨ z ∈ s.tr.drop f := fun z => by rw [← List.mem_append, List.take_append_drop]
      have hdisj : ∀ z w : Int, z ∈ s.tr.take f → w ∈ s.tr.drop f → z.natAbs ≠ w.natAbs := fun z w hz hw e => by
        obtain ⟨i, hi, hiz⟩ := of_mem_take hz
        obtain ⟨j, hj⟩ := List.mem_iff_getElem?.1 hw
        rw [List.getElem?_drop] at hj
        have := (hI.once.idx hiz hj e).1
        omega
      by_cases e : x.natAbs ∈ (s.tr.drop f).map Int.natAbs
      · rw [if_pos e]
        obtain ⟨w, hw, ew⟩ := List.mem_map.1 e
        have a1 : (x.natAbs : Int) ∉ s.tr.take f := fun h => hdisj _ _ h hw (by rw [ew]; exact Int.natAbs_natCast _)
        have a2 : -(x.natAbs : Int) ∉ s.tr.take f := fun h => hdisj _ _ h hw (by rw [ew, Int.natAbs_neg]; exact Int.natAbs_natCast _)
        unfold litV
        rw [if_neg a1, if_neg a2]
      · rw [if_neg e]
        have a : ∀ z : Int, z.natAbs = x.natAbs → (z ∈ s.tr ↔ z ∈ s.tr.take f) := fun z hz => by
          rw [hmt]
          constructor
          · rintro (h | h)
            · exact h
            · exact absurd (List.mem_map.2 ⟨z, h, hz⟩) e
          · exact .inl
        unfold litV
        simp only [a (x.natAbs : Int) (Int.natAbs_natCast _), a (-(x.natAbs : Int)) (by rw [Int.natAbs_neg]; exact Int.natAbs_natCast _)]
    · intro m hm
      show m ≤ (s.tr.take f).length
      rw [hlen]
      change m ∈ s.ma.take lv at hm
      obtain ⟨j, hj⟩ := List.mem_iff_getElem?.1 hm
      have hjl : j < lv := by have := lt_of_getElem? hj; simp at this; omega
      have hj' : s.ma[j]? = some m := by rw [← List.getElem?_take_of_lt hjl]; exact hj
      obtain ⟨p1, p2⟩ := List.getElem?_eq_some_iff.1 hj'
      obtain ⟨p3, p4⟩ := List.getElem?_eq_some_iff.1 hf
      have := List.pairwise_iff_getElem.1 hI.sorted j lv p1 p3 hjl
      omega
    · intro i x hx
      obtain ⟨hi, hx'⟩ := hof hx
      show s.le[x.natAbs]? = some (lvl (s.ma.take lv) i)
      rw [hlvl i hi]
      exact hI.le i x hx'
    · intro i x hx
      obtain ⟨hi, hx'⟩ := hof hx
      obtain ⟨r, hr, hw⟩ := hI.re i x hx'
      refine ⟨r, hr, ?_⟩
      rcases hw with ⟨e1, hd | ⟨hd, hu⟩⟩ | ⟨k, l, e1, e2, e3, e4⟩
      · refine .inl ⟨e1, .inl ?_⟩
        obtain ⟨q, hq⟩ := List.mem_iff_getElem?.1 hd
        have hql : q < lv := by
          rcases Nat.lt_or_ge q lv with h | h
          · exact h
          · obtain ⟨p1, p2⟩ := List.getElem?_eq_some_iff.1 hq
            obtain ⟨p3, p4⟩ := List.getElem?_eq_some_iff.1 hf
            rcases Nat.eq_or_lt_of_le h with e | h'
            · subst e; omega
            · have := List.pairwise_iff_getElem.1 hI.sorted lv q p3 p1 h'
              omega
        exact mem_take_of_nat hq hql
      · exact .inl ⟨e1, .inr ⟨(hlvl i hi).trans hd, hu⟩⟩
      · refine .inr ⟨k, l, e1, e2, e3, fun y hy hne => ?_⟩
        obtain ⟨j, hj, hjy⟩ := e4 y hy hne
        exact ⟨j, hj, (hget j (by omega)).trans hjy⟩
    · intro k l hl a b hab i hi hia
      obtain ⟨_, hia'⟩ := hof hia
      obtain ⟨j, hj, hlv⟩ := hI.w2 k l hl a b hab i (by omega) hia'
      have h3 := (lvl_iff hI.sorted (i := i) hf).2 hi
      have h4 := (lvl_iff hI.sorted (i := j) hf).1 (by omega)
      refine ⟨j, (hget j h4).trans hj, ?_⟩
      show lvl (s.ma.take lv) j ≤ lvl (s.ma.take lv) i
      rw [hlvl j h4, hlvl i hi]
      exact hlv
end Go.Proofs.Ytbagcbiekpopbaa

namespace Go.Proofs.Ytbagcbiekpopbaa
set_option linter.unusedVariables false
set_option linter.unusedSimpArgs false

def Taut (l : List Int) : Prop := ∃ x ∈ l, -x ∈ l
/-- Each clause always holds, or holds at level 0, or is looked at. -/
def Cov (D : List (List Int)) (s : St) : Prop := ∀ l ∈ D, Taut l ∨ (∃ (i : Nat) (x : Int), s.tr[i]? = some x ∧ lvl s.ma i = 0 ∧ x ∈ l) ∨ ∃ (k : Nat) (l' : List Int), s.cl[k]? = some l' ∧ Same l' l
theorem Cov.ext {D : List (List Int)} {s s' : St} (h : Cov D s) (he : Ext s s') : Cov D s' := by
  intro l hl
  obtain ⟨t, ht⟩ := he.tr
  rcases h l hl with h | ⟨i, x, h1, h2, h3⟩ | ⟨k, l', h1, h2⟩
  · exact .inl h
  · exact .inr (.inl ⟨i, x, by rw [ht, List.getElem?_append_left (lt_of_getElem? h1)]; exact h1, by rw [he.ma]; exact h2, h3⟩)
  · obtain ⟨l2, e1, e2⟩ := he.cl k l' h1
    exact .inr (.inr ⟨k, l2, e1, e2.symm.trans h2⟩)
theorem Inv.more {n : Nat} {D D' : List (List Int)} {s : St} {p : Nat} (h : Inv n D s p) (hs : ∀ l ∈ D, l ∈ D') : Inv n D' s p :=
  ⟨h.nn, h.small, h.lva, h.lle, h.lre, h.lsc, h.lcl, h.tv, h.once, h.va, h.sorted, h.mle, h.le, fun i x hx => by
    obtain ⟨r, hr, hw⟩ := h.re i x hx
    refine ⟨r, hr, ?_⟩
    rcases hw with ⟨a, b | ⟨b, l, hl, c⟩⟩ | hw
    · exact .inl ⟨a, .inl b⟩
    · exact .inl ⟨a, .inr ⟨b, l, hs l hl, c⟩⟩
    · exact .inr hw, fun k l hl => by
    obtain ⟨a, b, c, l', hl', e⟩ := h.ck k l hl
    exact ⟨a, b, c, l', hs l' hl', e⟩, h.w2⟩
/-- Other scores. -/
theorem Inv.bb {n : Nat} {D : List (List Int)} {s s' : St} {p : Nat} (h : Inv n D s p) (hb : BB s s') : Inv n D s' p := by
  obtain ⟨c, q, rfl, hc⟩ := hb
  exact ⟨h.nn, h.small, h.lva, h.lle, h.lre, hc.1.trans h.lsc, h.lcl, h.tv, h.once, h.va, h.sorted, h.mle, h.le, h.re, h.ck, h.w2⟩
theorem Inv.steps {n : Nat} {D : List (List Int)} {s : St} {p q : Nat} (h : Inv n D s p) (hw : W2 s q) : Inv n D s q :=
  ⟨h.nn, h.small, h.lva, h.lle, h.lre, h.lsc, h.lcl, h.tv, h.once, h.va, h.sorted, h.mle, h.le, h.re, h.ck, hw⟩

/-- A clause more, that looks at its first two. -/
def St.addd (s : St) (l : List Int) (a b : Int) : St :=
  { s with cl := s.cl ++ [l], wt := upd (upd s.wt a (s.wt a ++ [s.cl.length])) b (upd s.wt a (s.wt a ++ [s.cl.length]) b ++ [s.cl.length]) }
theorem snoc_cl {s : St} {l : List Int} {a b : Int} {k : Nat} {l2 : List Int} : (s.addd l a b).cl[k]? = some l2 ↔ (s.cl[k]? = some l2 ∨ (k = s.cl.length ∧ l2 = l)) := by
  show (s.cl ++ [l])[k]? = some l2 ↔ _
  constructor
  · exact getElem?_snoc
  · rintro (h | ⟨rfl, rfl⟩)
    · exact getElem?_snoc_of h
    · simp
theorem add_ok {n : Nat} {D : List (List Int)} {s : St} {p : Nat} (hI : Inv n D s p) (hw : WK s) {l : List Int} (hl : ClOk n D l) (hb : s.cl.length + 1 < 1000000) :
    ∃ a b, l[0]? = some a ∧ l[1]? = some b ∧ s.add l = some (s.addd l a b, s.cl.length) ∧ Inv n D (s.addd l a b) 0 ∧ WK (s.addd l a b) := by
  obtain ⟨c1, c2, c3, c4⟩ := hl
  match l, c1 with
  | a :: b :: r, _ =>
    have hab : a ≠ b := fun e => c3.two (i := 0) (j := 1) rfl rfl (by omega) (by rw [e])
    have haV := c2 a (by simp)
    have hbV := c2 b (by simp)
    have hsm := hI.small
    have hwl : ∀ y, (s.wt y).length ≤ s.cl.length := fun y => watch_len (Nat.le_refl _) (hw y).1 (fun k hk => ((hw y).2 k).1 hk)
    have hnk : ∀ y, s.cl.length ∉ s.wt y := fun y hk => by
      obtain ⟨l2, e, _⟩ := ((hw y).2 _).1 hk
      have := lt_of_getElem? e
      omega
    refine ⟨a, b, rfl, rfl, ?_, ?_, ?_⟩
    · unfold St.add
      simp only
      rw [if_pos (by unfold bigN; omega)]
      rw [watchOn_ok (s := { s with cl := s.cl ++ [a :: b :: r] }) (y := a) (k := s.cl.length) (by have := hwl a; show (s.wt a).length < bigN; unfold bigN; omega) (by unfold V at haV; unfold bigN; omega)]
      simp only [Option.bind_eq_bind, Option.bind_some]
      rw [watchOn_ok (y := b) (k := s.cl.length) (by
        show (upd s.wt a (s.wt a ++ [s.cl.length]) b).length < bigN
        unfold upd
        rw [if_neg (fun e => hab e.symm)]
        have := hwl b
        unfold bigN; omega) (by unfold V at hbV; unfold bigN; omega)]
      rfl
    · refine { nn := hI.nn, small := hI.small, lva := hI.lva, lle := hI.lle, lre := hI.lre, lsc := hI.lsc, lcl := by show (s.cl ++ [_]).length < _; simp; omega, tv := hI.tv, once := hI.once, va := hI.va, sorted := hI.sorted, mle := hI.mle, le := hI.le, re := ?_, ck := ?_, w2 := fun k l _ a b _ i hi => by omega }
      · intro i y hy
        obtain ⟨r2, hr, hw⟩ := hI.re i y hy
        refine ⟨r2, hr, ?_⟩
        rcases hw with hw | ⟨k2, l2, e1, e2, e3, e4⟩
        · exact .inl hw
        · exact .inr ⟨k2, l2, e1, snoc_cl.2 (.inl e2), e3, e4⟩
      · intro k l2 h2
        rcases snoc_cl.1 h2 with h2 | ⟨_, rfl⟩
        · exact hI.ck k l2 h2
        · exact ⟨by simp, c2, c3, c4⟩
    · have hW : ∀ k y, Watches (s.addd (a :: b :: r) a b) k y ↔ (Watches s k y ∨ (k = s.cl.length ∧ (y = a ∨ y = b))) := by
        intro k y
        unfold Watches
        constructor
        · rintro ⟨l2, h1, h2⟩
          rcases snoc_cl.1 h1 with h | ⟨rfl, rfl⟩
          · exact .inl ⟨l2, h, h2⟩
          · refine .inr ⟨rfl, ?_⟩
            rcases h2 with h2 | h2
            · exact .inl (Option.some.inj h2).symm
            · exact .inr (Option.some.inj h2).symm
        · rintro (⟨l2, h1, h2⟩ | ⟨rfl, h⟩)
          · exact ⟨l2, snoc_cl.2 (.inl h1), h2⟩
          · refine ⟨a :: b :: r, snoc_cl.2 (.inr ⟨rfl, rfl⟩), ?_⟩
            rcases h with rfl | rfl
            · exact .inl rfl
            · exact .inr rfl
      have snoc : ∀ y, y = a ∨ y = b → (s.wt y ++ [s.cl.length]).Nodup ∧ ∀ k, k ∈ s.wt y ++ [s.cl.length] ↔ Watches (s.addd (a :: b :: r) a b) k y := by
        intro y hy
        refine ⟨?_, fun k => ?_⟩
        · rw [List.nodup_append]
          refine ⟨(hw y).1, by simp, ?_⟩
          rintro u hu v hv rfl
          simp at hv
          subst hv
          exact hnk y hu
        · rw [hW, List.mem_append, List.mem_singleton, (hw y).2 k]
          simp [hy]
      have hwt : ∀ y, (s.addd (a :: b :: r) a b).wt y = if y = b then s.wt b ++ [s.cl.length] else if y = a then s.wt a ++ [s.cl.length] else s.wt y := by
        intro y
        show upd (upd s.wt a (s.wt a ++ [s.cl.length])) b (upd s.wt a (s.wt a ++ [s.cl.length]) b ++ [s.cl.length]) y = _
        have e : ¬ b = a := fun e => hab e.symm
        simp only [upd, e, if_false]
      intro y
      rw [hwt]
      by_cases e1 : y = b
      · subst e1
        rw [if_pos rfl]
        exact snoc y (.inr rfl)
      · rw [if_neg e1]
        by_cases e2 : y = a
        · subst e2
          rw [if_pos rfl]
          exact snoc y (.inl rfl)
        · rw [if_neg e2]
          refine ⟨(hw y).1, fun k => ?_⟩
          rw [hW, (hw y).2 k]
          simp [e1, e2]

theorem conflict_ok {F : Fl} (HF : FlOk F) {n : Nat} {D : List (List Int)} {s : St} {d k : Nat} (hI : Inv n D s d) (hw : WK s) (hcur : ∀ m ∈ s.ma, m ≤ d) (hmlt : ∀ m ∈ s.ma, m < s.tr.length) (hc : Confl s k) (hcov : Cov D s) (hFo : FOk s)
    (hne : s.ma ≠ []) (hb : s.cl.length + 1 < 1000000) (hpf : s.pf.length < 1000000) :
    ∃ s' C, St.conflict F s k = some (s', true) ∧ SI n (D ++ [C]) s' ∧ s'.pf = s.pf ++ [C] ∧ (∀ m ∈ s'.ma, m < s'.tr.length) ∧ Cov (D ++ [C]) s' ∧ RUP D C ∧ (∀ y ∈ C, V n y) ∧ Once C ∧ C ≠ [] ∧ (∀ l ∈ D, ¬ Same l C) ∧ s'.cl.length ≤ s.cl.length + 1 ∧ FOk s' := by
  have hpos : 1 ≤ s.ma.length := by
    rcases Nat.eq_zero_or_pos s.ma.length with h | h
    · exact absurd (List.eq_nil_of_length_eq_zero h) hne
    · exact h
  obtain ⟨m, hm⟩ : ∃ m, s.ma[s.ma.length - 1]? = some m := ⟨_, List.getElem?_eq_getElem (by omega)⟩
  have hmd := hcur m (List.mem_iff_getElem?.2 ⟨_, hm⟩)
  obtain ⟨s1, C, back, e1, hbb, hL⟩ := learn_ok HF hI hFo hm hmd hc
  obtain ⟨f, hf⟩ : ∃ f, s.ma[back]? = some f := ⟨_, List.getElem?_eq_getElem hL.back_lt⟩
  have hfm : f ≤ m := by
    obtain ⟨p1, p2⟩ := List.getElem?_eq_some_iff.1 hf
    obtain ⟨p3, p4⟩ := List.getElem?_eq_some_iff.1 hm
    rcases Nat.eq_or_lt_of_le (show back ≤ s.ma.length - 1 by omega) with h | h
    · subst h; omega
    · have := List.pairwise_iff_getElem.1 hI.sorted back (s.ma.length - 1) p1 p3 h
      omega
  have hftr : f < s.tr.length := hmlt f (List.mem_iff_getElem?.2 ⟨_, hf⟩)
  obtain ⟨cc, pp, hs1, hcc⟩ := hbb
  have hI1 : Inv n (D ++ [C]) { s1 with pf := s1.pf ++ [C] } d :=
    Inv.more (D := D) (Inv.other (hI.bb ⟨cc, pp, hs1, hcc⟩) _ _ _ _) (fun l hl => List.mem_append.2 (.inl hl))
  have hf1 : ({ s1 with pf := s1.pf ++ [C] } : St).ma[back]? = some f := by rw [hs1]; exact hf
  obtain ⟨va, e2, hI2⟩ := undo_ok hI1 hf1 (by omega)
  -- the learnt clause
  obtain ⟨c0, i0, hC0, hi0, hmi0⟩ := hL.head
  have hc0V : V n c0 := (hL.v c0 (List.mem_iff_getElem?.2 ⟨0, hC0⟩)).1
  have hCpos : 0 < C.length := lt_of_getElem? hC0
  have htr2 : (({ s1 with pf := s1.pf ++ [C] } : St).backTo back f va).tr = s.tr.take f := by rw [hs1]; rfl
  have hma2 : (({ s1 with pf := s1.pf ++ [C] } : St).backTo back f va).ma = s.ma.take back := by rw [hs1]; rfl
  have hcl2 : (({ s1 with pf := s1.pf ++ [C] } : St).backTo back f va).cl = s.cl := by rw [hs1]; rfl
  have hwt2 : (({ s1 with pf := s1.pf ++ [C] } : St).backTo back f va).wt = s.wt := by rw [hs1]; rfl
  have hpf2 : (({ s1 with pf := s1.pf ++ [C] } : St).backTo back f va).pf = s.pf ++ [C] := by rw [hs1]; rfl
  have hdn2 : (({ s1 with pf := s1.pf ++ [C] } : St).backTo back f va).dn = f := rfl
  have htl : (s.tr.take f).length = f := by simp; omega
  have hW2 : WK (({ s1 with pf := s1.pf ++ [C] } : St).backTo back f va) := by
    intro y
    unfold Watches
    rw [hwt2, hcl2]
    exact hw y
  generalize hs2 : ({ s1 with pf := s1.pf ++ [C] } : St).backTo back f va = s2 at *
  have hfalse : ∀ (j : Nat) (y : Int), 1 ≤ j → C[j]? = some y → ∃ q, q < f ∧ s2.tr[q]? = some (-y) ∧ lvl s2.ma q ≤ back := by
    intro j y hj hy
    obtain ⟨q, h1, h2, h3⟩ := hL.rest j y hj hy
    have hqf : q < f := (lvl_iff hI.sorted hf).1 h3
    refine ⟨q, hqf, by rw [htr2, List.getElem?_take_of_lt hqf]; exact h1, ?_⟩
    rw [hma2, lvl_take hI.sorted hf hqf]; exact h3
  have hneg : c0 ∉ s.tr := fun h => hI.once.not_both h (hL.v c0 (List.mem_iff_getElem?.2 ⟨0, hC0⟩)).2 hc0V.ne
  have h1 : c0 ∉ s2.tr := by rw [htr2]; exact fun h => hneg (List.mem_of_mem_take h)
  have h2 : -c0 ∉ s2.tr := by
    rw [htr2]
    intro h
    obtain ⟨q, hq, hqy⟩ := of_mem_take h
    have := (hI.once.idx hqy hi0 rfl).1
    omega
  have hmaf : ∀ m ∈ s2.ma, m < f := by
    intro m hm
    rw [hma2] at hm
    obtain ⟨j, hj⟩ := List.mem_iff_getElem?.1 hm
    have hjl : j < back := by have := lt_of_getElem? hj; simp at this; omega
    have hj' : s.ma[j]? = some m := by rw [← List.getElem?_take_of_lt hjl]; exact hj
    obtain ⟨p1, p2⟩ := List.getElem?_eq_some_iff.1 hj'
    obtain ⟨p3, p4⟩ := List.getElem?_eq_some_iff.1 hf
    have := List.pairwise_iff_getElem.1 hI.sorted j back p1 p3 hjl
    omega
  have htlen2 : s2.tr.length = f := by rw [htr2]; exact htl
  have hmalen2 : s2.ma.length = back := by rw [hma2]; have := hL.back_lt; simp; omega
  have hDC : C ∈ D ++ [C] := List.mem_append.2 (.inr (by simp))
  -- what is left to say of the state behind: for any clauses and watches
  have covD : ∀ (s5 : St) (x : Int), s5.tr = s2.tr ++ [x] → s5.ma = s2.ma → (∀ (k : Nat) l, s.cl[k]? = some l → s5.cl[k]? = some l) → Cov D s5 := by
    intro s5 x ht hma hcl l hl
    rcases hcov l hl with h | ⟨i, z, h1, h2, h3⟩ | ⟨k, l', h1, h2⟩
    · exact .inl h
    · have hif : i < f := (lvl_iff hI.sorted hf).1 (by omega)
      refine .inr (.inl ⟨i, z, ?_, ?_, h3⟩)
      · rw [ht, getElem?_snoc_lt (by rw [htlen2]; exact hif), htr2, List.getElem?_take_of_lt hif]; exact h1
      · rw [hma, hma2, lvl_take hI.sorted hf hif]; exact h2
    · exact .inr (.inr ⟨k, l', hcl k l' h1, h2⟩)
  have covC : ∀ l ∈ D, ¬ Same l C := by
    intro l hl hs
    rcases hcov l hl with ⟨x, hx, hx2⟩ | ⟨i, x, h3, _, h4⟩ | ⟨k, l', h3, h4⟩
    · have h5 := (hs x).1 hx
      have h6 := (hs (-x)).1 hx2
      exact hL.once.not_both h5 h6 (hL.v x h5).1.ne
    · have h5 := (hs x).1 h4
      exact hI.once.not_both (List.mem_iff_getElem?.2 ⟨i, h3⟩) (hL.v x h5).2 (hL.v x h5).1.ne
    · exact hL.new k l' h3 (h4.trans hs)
  have start : St.conflict F s k = (match (if 1 < C.length then (s2.add C).map (fun p => (p.1, (p.2 : Int))) else some (s2, -1)) with
      | none => none
      | some (s4, r) => (s4.set c0 r).bind fun s5 => if s5.sp ≤ infR then some ({ s5 with sp := F.mul s5.sp 4607407598781385933 }, true) else none) := by
    unfold St.conflict
    rw [if_neg hne, e1]
    simp only [Option.bind_eq_bind, Option.bind_some]
    have hb1 : back < bigN := by have := hL.back_lt; have := hI.malen; have := hI.small; unfold bigN; omega
    have hb2 : C.length ≤ bigN := by have := hL.once.length_le (fun y hy => (hL.v y hy).1); have := hI.small; unfold bigN; omega
    rw [if_pos ⟨by rw [hs1]; show s.pf.length < bigN; unfold bigN; omega, hb1, hb2⟩, e2]
    simp only [Option.bind_some]
    by_cases hlen : 1 < C.length
    · rw [if_pos hlen, if_pos hlen]
      cases (s2.add C) with
      | none => rfl
      | some q => simp only [Option.map_some, Option.bind_some, hC0]
    · rw [if_neg hlen, if_neg hlen]
      simp only [hC0, Option.bind_some]
  have hsc2 : s2.sc = cc ∧ s2.sp = pp := by rw [← hs2, hs1]; exact ⟨rfl, rfl⟩
  have hFo2 : ∀ (s5 : St), s5.sc = s2.sc → FOk { s5 with sp := F.mul s2.sp 4607407598781385933 } := fun s5 e => ⟨by show ∀ c ∈ s5.sc, _; rw [e, hsc2.1]; exact hcc.2.1, by show F.mul s2.sp _ ≤ _; rw [hsc2.2]; exact HF.grow _ hcc.2.2⟩
  have hsp2 : s2.sp ≤ infR := by rw [hsc2.2]; exact hcc.2.2
  rw [start]
  by_cases hlen : 1 < C.length
  · rw [if_pos hlen]
    obtain ⟨a, b, ha, hb', e3, hI3, hW3⟩ := add_ok hI2 hW2 (l := C) ⟨by omega, fun y hy => (hL.v y hy).1, hL.once, C, hDC, Same.refl C⟩ (by rw [hcl2]; exact hb)
    obtain rfl : c0 = a := Option.some.inj (hC0.symm.trans ha)
    rw [e3]
    simp only [Option.map_some]
    have hrest : ∀ y ∈ C, y ≠ c0 → ∃ j, j < f ∧ s2.tr[j]? = some (-y) := by
      intro y hy hne2
      obtain ⟨j, hj⟩ := List.mem_iff_getElem?.1 hy
      have hj1 : 1 ≤ j := by
        rcases Nat.eq_zero_or_pos j with rfl | h
        · exact absurd (Option.some.inj (hC0.symm.trans hj)).symm hne2
        · exact h
      obtain ⟨q, q1, q2, _⟩ := hfalse j y hj1 hj
      exact ⟨q, q1, q2⟩
    have hclk : (s2.addd C c0 b).cl[s2.cl.length]? = some C := (snoc_cl (a := c0) (b := b)).2 (.inr ⟨rfl, rfl⟩)
    obtain ⟨e4, hI4⟩ := hI3.setd (x := c0) (r := (s2.cl.length : Int)) hc0V h1 h2 (Nat.zero_le _) (.inr ⟨s2.cl.length, C, rfl, hclk, List.mem_iff_getElem?.2 ⟨0, hC0⟩, fun y hy hne2 => by
      obtain ⟨q, q1, q2⟩ := hrest y hy hne2
      exact ⟨q, by show q < s2.tr.length; omega, getElem?_snoc_of q2⟩⟩)
    rw [e4]
    simp only [Option.bind_some]
    rw [if_pos (show ((s2.addd C c0 b).setd c0 s2.cl.length).sp ≤ infR from hsp2)]
    have hW5 : W2 ((s2.addd C c0 b).setd c0 s2.cl.length) f := by
      intro k2 l2 h3 u v huv i hi hiu
      change (s2.tr ++ [c0])[i]? = some (-u) at hiu
      rw [getElem?_snoc_lt (by omega)] at hiu
      rcases (snoc_cl (a := c0) (b := b)).1 h3 with h3 | ⟨_, rfl⟩
      · obtain ⟨j, hj, hlv⟩ := hI2.w2 k2 l2 h3 u v huv i hi hiu
        exact ⟨j, getElem?_snoc_of hj, hlv⟩
      · unfold PairOf at huv
        rw [hC0, hb'] at huv
        simp only [Option.some.injEq] at huv
        rcases huv with ⟨rfl, rfl⟩ | ⟨rfl, rfl⟩
        · exact absurd (List.mem_iff_getElem?.2 ⟨i, hiu⟩) h2
        · refine ⟨f, ?_, ?_⟩
          · show (s2.tr ++ [c0])[f]? = some c0
            rw [← htlen2]; simp
          · show lvl s2.ma f ≤ lvl s2.ma i
            rw [lvl_full (fun m hm => Nat.le_of_lt (hmaf m hm)), hmalen2]
            rcases hL.second with ⟨h4, _⟩ | ⟨y, q, h4, h5, h6⟩
            · omega
            · obtain rfl : b = y := Option.some.inj (hb'.symm.trans h4)
              rw [htr2, List.getElem?_take_of_lt hi] at hiu
              obtain rfl := (hI.once.idx hiu h5 rfl).1
              rw [hma2, lvl_take hI.sorted hf hi, h6]
              exact Nat.le_refl _
    refine ⟨_, C, rfl, ⟨by rw [show ({ (s2.addd C c0 b).setd c0 ↑s2.cl.length with sp := F.mul ((s2.addd C c0 b).setd c0 ↑s2.cl.length).sp 4607407598781385933 } : St).dn = s2.dn from rfl, hdn2]; exact (hI4.steps hW5).other _ _ _ _, ?_, ?_, ?_⟩, hpf2, ?_, ?_, hL.rup, fun y hy => (hL.v y hy).1, hL.once, List.ne_nil_of_length_pos hCpos, covC, ?_, ?_⟩
    · exact hW3
    · intro m hm; exact Nat.le_of_lt (by rw [show ({ (s2.addd C c0 b).setd c0 ↑s2.cl.length with sp := F.mul ((s2.addd C c0 b).setd c0 ↑s2.cl.length).sp 4607407598781385933 } : St).dn = s2.dn from rfl, hdn2]; exact hmaf m hm)
    · show s2.dn ≤ (s2.tr ++ [c0]).length
      rw [hdn2]; simp; omega
    · intro m hm
      show m < (s2.tr ++ [c0]).length
      have := hmaf m hm
      simp; omega
    · intro l hl
      rcases List.mem_append.1 hl with hl | hl
      · exact covD ((s2.addd C c0 b).setd c0 s2.cl.length) c0 rfl rfl (fun k l h => (snoc_cl (a := c0) (b := b)).2 (.inl (by rw [hcl2]; exact h))) l hl
      · simp at hl
        subst hl
        exact .inr (.inr ⟨s2.cl.length, l, hclk, Same.refl l⟩)
    · show (s2.cl ++ [C]).length ≤ _
      rw [hcl2]; simp
    · exact hFo2 ((s2.addd C c0 b).setd c0 s2.cl.length) rfl
  · rw [if_neg hlen]
    simp only
    have hback : back = 0 := by
      rcases hL.second with ⟨_, h⟩ | ⟨y, q, h, _⟩
      · exact h
      · have := lt_of_getElem? h
        omega
    subst hback
    have hma0 : s2.ma = [] := by rw [hma2]; simp
    have hCc : ∀ y, y ∈ C ↔ y = c0 := by
      intro y
      constructor
      · intro h
        obtain ⟨j, hj⟩ := List.mem_iff_getElem?.1 h
        have := lt_of_getElem? hj
        obtain rfl : j = 0 := by omega
        exact (Option.some.inj (hC0.symm.trans hj)).symm
      · rintro rfl; exact List.mem_iff_getElem?.2 ⟨0, hC0⟩
    obtain ⟨e4, hI4⟩ := hI2.setd (x := c0) (r := -1) hc0V h1 h2 (by omega) (.inl ⟨rfl, .inr ⟨by show lvl s2.ma _ = 0; rw [hma0]; rfl, C, hDC, hCc⟩⟩)
    rw [e4]
    simp only [Option.bind_some]
    rw [if_pos (show (s2.setd c0 (-1)).sp ≤ infR from hsp2)]
    refine ⟨_, C, rfl, ⟨by rw [show ({ s2.setd c0 (-1) with sp := F.mul (s2.setd c0 (-1)).sp 4607407598781385933 } : St).dn = s2.dn from rfl, hdn2]; exact hI4.other _ _ _ _, hW2, ?_, ?_⟩, hpf2, ?_, ?_, hL.rup, fun y hy => (hL.v y hy).1, hL.once, List.ne_nil_of_length_pos hCpos, covC, ?_, ?_⟩
    · intro m hm
      change m ∈ s2.ma at hm
      rw [hma0] at hm
      cases hm
    · show s2.dn ≤ (s2.tr ++ [c0]).length
      rw [hdn2]; simp; omega
    · intro m hm
      change m ∈ s2.ma at hm
      rw [hma0] at hm
      cases hm
    · intro l hl
      rcases List.mem_append.1 hl with hl | hl
      · exact covD (s2.setd c0 (-1)) c0 rfl rfl (fun k l h => by show s2.cl[k]? = _; rw [hcl2]; exact h) l hl
      · simp at hl
        subst hl
        refine .inr (.inl ⟨f, c0, ?_, ?_, (hCc c0).2 rfl⟩)
        · show (s2.tr ++ [c0])[f]? = some c0
          rw [← htlen2]; simp
        · show lvl s2.ma f = 0
          rw [hma0]; rfl
    · show s2.cl.length ≤ _
      rw [hcl2]; omega
    · exact hFo2 (s2.setd c0 (-1)) rfl
end Go.Proofs.Ytbagcbiekpopbaa

namespace Go.Proofs.Ytbagcbiekpopbaa
set_option linter.unusedVariables false
set_option linter.unusedSimpArgs false

theorem pick_ok (F : Fl) {n : Nat} {D : List (List Int)} {s : St} {p : Nat} (hI : Inv n D s p) : ∀ (f v best : Nat), v + f = n + 1 → 1 ≤ v →
    ((best = 0 ∧ ∀ u : Nat, 1 ≤ u → u < v → litV s.tr (u : Int) ≠ 0) ∨ (1 ≤ best ∧ best ≤ n ∧ litV s.tr (best : Int) = 0)) →
    ∃ r, St.pick F s f v best = some r ∧ ((r = 0 ∧ ∀ u : Nat, 1 ≤ u → u ≤ n → litV s.tr (u : Int) ≠ 0) ∨ (1 ≤ r ∧ r ≤ n ∧ litV s.tr (r : Int) = 0))
  | 0, v, best, hv, h1, hb => by
    refine ⟨best, rfl, ?_⟩
    rcases hb with ⟨h2, h3⟩ | h
    · exact .inl ⟨h2, fun u hu hn => h3 u hu (by omega)⟩
    · exact .inr h
  | f + 1, v, best, hv, h1, hb => by
    have hva := hI.va (v : Int) (by unfold V; omega)
    rw [Int.natAbs_natCast] at hva
    have hbest : best ≤ n := by rcases hb with ⟨h, _⟩ | ⟨_, h, _⟩ <;> omega
    unfold St.pick
    rw [hva, List.getElem?_eq_getElem (show v < s.sc.length by rw [hI.lsc]; omega), List.getElem?_eq_getElem (show best < s.sc.length by rw [hI.lsc]; omega)]
    simp only [Option.bind_eq_bind, Option.bind_some]
    split
    · rename_i hc
      exact pick_ok F hI f (v + 1) v (by omega) (by omega) (.inr ⟨h1, by omega, hc.1⟩)
    · rename_i hc
      refine pick_ok F hI f (v + 1) best (by omega) (by omega) ?_
      rcases hb with ⟨h2, h3⟩ | h
      · refine .inl ⟨h2, fun u hu huv => ?_⟩
        rcases Nat.lt_or_ge u v with h | h
        · exact h3 u hu h
        · obtain rfl : u = v := by omega
          exact fun e => hc ⟨e, .inl h2⟩
      · exact .inr h

theorem decide_ok {n : Nat} {D : List (List Int)} {s : St} {v : Nat} (hS : SI n D s) (hd : s.dn = s.tr.length) (hm : ∀ m ∈ s.ma, m < s.tr.length) (hc : Cov D s) (h1 : 1 ≤ v) (h2 : v ≤ n) (h0 : litV s.tr (v : Int) = 0) :
    ∃ s2, St.set { s with ma := s.ma ++ [s.tr.length] } (-(v : Int)) (-1) = some s2 ∧ SI n D s2 ∧ (∀ m ∈ s2.ma, m < s2.tr.length) ∧ Cov D s2 ∧ s2.pf = s.pf ∧ s2.cl = s.cl ∧ s2.tr.length = s.tr.length + 1 ∧ s2.sc = s.sc ∧ s2.sp = s.sp := by
  have hI := hS.inv
  obtain ⟨n1, n2⟩ := litV_zero.1 h0
  have hlv : ∀ i, i < s.tr.length → lvl (s.ma ++ [s.tr.length]) i = lvl s.ma i := fun i hi => by
    rw [lvl_snoc, if_neg (by omega), Nat.add_zero]
  have hI1 : Inv n D { s with ma := s.ma ++ [s.tr.length] } s.dn := by
    refine { nn := hI.nn, small := hI.small, lva := hI.lva, lle := hI.lle, lre := hI.lre, lsc := hI.lsc, lcl := hI.lcl, tv := hI.tv, once := hI.once, va := hI.va, sorted := ?_, mle := ?_, le := ?_, re := ?_, ck := hI.ck, w2 := ?_ }
    · show (s.ma ++ [s.tr.length]).Pairwise (· < ·)
      rw [List.pairwise_append]
      refine ⟨hI.sorted, by simp, fun a ha b hb => ?_⟩
      simp at hb
      subst hb
      exact hm a ha
    · intro m hm'
      rcases List.mem_append.1 hm' with h | h
      · exact hI.mle m h
      · simp at h; subst h; exact Nat.le_refl _
    · intro i x hx
      rw [hI.le i x hx]
      show some (lvl s.ma i) = some (lvl (s.ma ++ [s.tr.length]) i)
      rw [hlv i (lt_of_getElem? hx)]
    · intro i x hx
      obtain ⟨r, hr, hw⟩ := hI.re i x hx
      refine ⟨r, hr, ?_⟩
      rcases hw with ⟨a, b | ⟨b, c⟩⟩ | hw
      · exact .inl ⟨a, .inl (List.mem_append.2 (.inl b))⟩
      · refine .inl ⟨a, .inr ⟨?_, c⟩⟩
        show lvl (s.ma ++ [s.tr.length]) i = 0
        rw [hlv i (lt_of_getElem? hx)]; exact b
      · exact .inr hw
    · intro k l hl a b hab i hi hia
      obtain ⟨j, hj, h⟩ := hI.w2 k l hl a b hab i hi hia
      refine ⟨j, hj, ?_⟩
      show lvl (s.ma ++ [s.tr.length]) j ≤ lvl (s.ma ++ [s.tr.length]) i
      rw [hlv j (lt_of_getElem? hj), hlv i (lt_of_getElem? hia)]
      exact h
  obtain ⟨e, hI2⟩ := hI1.setd (x := -(v : Int)) (r := -1) (by unfold V; omega) n2 (by rw [Int.neg_neg]; exact n1) hS.dle (.inl ⟨rfl, .inl (by show s.tr.length ∈ s.ma ++ [s.tr.length]; simp)⟩)
  refine ⟨_, e, ⟨hI2, hS.wk, ?_, ?_⟩, ?_, ?_, rfl, rfl, ?_, rfl, rfl⟩
  · intro m hm'
    show m ≤ s.dn
    rcases List.mem_append.1 hm' with h | h
    · exact hS.cur m h
    · simp at h; omega
  · show s.dn ≤ (s.tr ++ [_]).length
    simp; omega
  · intro m hm'
    show m < (s.tr ++ [_]).length
    rcases List.mem_append.1 hm' with h | h
    · have := hm m h; simp; omega
    · simp at h; simp; omega
  · intro l hl
    rcases hc l hl with h | ⟨i, x, h3, h4, h5⟩ | h
    · exact .inl h
    · refine .inr (.inl ⟨i, x, getElem?_snoc_of h3, ?_, h5⟩)
      show lvl (s.ma ++ [s.tr.length]) i = 0
      rw [hlv i (lt_of_getElem? h3)]; exact h4
    · exact .inr (.inr h)
  · show (s.tr ++ [_]).length = _
    simp

/-- A clause's literals, each once, and whether no two are opposites. -/
def PlainOf (l : List Int) (p : List Int × Bool) : Prop := Same p.1 l ∧ (p.2 = false → Taut l) ∧ (p.2 = true → Once p.1)

structure BI (n : Nat) (Inp : List (List Int)) (s : St) (done : List (List Int)) : Prop where
  inv : Inv n Inp s 0
  wk : WK s
  ma : s.ma = []
  dn : s.dn = 0
  pf : s.pf = []
  cov : Cov done s
theorem begin_ok {n : Nat} {Inp : List (List Int)} (pl : List Int → List Int × Bool) (hpl : ∀ l ∈ Inp, PlainOf l (pl l)) (hV : ∀ l ∈ Inp, ∀ x ∈ l, V n x) : ∀ (ls done : List (List Int)) (s : St), (∀ l ∈ ls, l ∈ Inp) → BI n Inp s done → s.cl.length + ls.length < 1000000 →
    ∃ s' b, St.begin s (ls.map pl) = some (s', b) ∧ (b = true → BI n Inp s' (done ++ ls) ∧ s'.cl.length ≤ s.cl.length + ls.length) ∧ (b = false → RUP Inp [])
  | [], done, s, _, hB, _ => ⟨s, true, rfl, fun _ => ⟨by rw [List.append_nil]; exact hB, by simp⟩, fun h => by cases h⟩
  | l :: ls, done, s, hin, hB, hlen => by
    have hl := hin l (by simp)
    obtain ⟨hs, ht, ho⟩ := hpl l hl
    have hin' : ∀ l ∈ ls, l ∈ Inp := fun z hz => hin z (by simp [hz])
    simp only [List.length_cons] at hlen
    have lv0 : ∀ (s : St) (i : Nat), s.ma = [] → lvl s.ma i = 0 := fun s i h => by rw [h]; rfl
    have step : ∀ s1, BI n Inp s1 (done ++ [l]) → s1.cl.length ≤ s.cl.length + 1 → ∃ s' b, St.begin s1 (ls.map pl) = some (s', b) ∧ (b = true → BI n Inp s' (done ++ l :: ls) ∧ s'.cl.length ≤ s.cl.length + (l :: ls).length) ∧ (b = false → RUP Inp []) := by
      intro s1 hB1 hc1
      obtain ⟨s', b, e, h1, h2⟩ := begin_ok pl hpl hV ls (done ++ [l]) s1 hin' hB1 (by omega)
      refine ⟨s', b, e, fun hb => ?_, h2⟩
      obtain ⟨h3, h4⟩ := h1 hb
      rw [List.append_assoc] at h3
      exact ⟨h3, by simp only [List.length_cons]; omega⟩
    have cov1 : ∀ s1 : St, Cov done s1 → (Taut l ∨ (∃ (i : Nat) (x : Int), s1.tr[i]? = some x ∧ lvl s1.ma i = 0 ∧ x ∈ l) ∨ ∃ (k : Nat) (l' : List Int), s1.cl[k]? = some l' ∧ Same l' l) → Cov (done ++ [l]) s1 := by
      intro s1 h1 h2 z hz
      rcases List.mem_append.1 hz with h | h
      · exact h1 z h
      · simp at h; subst h; exact h2
    rw [List.map_cons]
    generalize hp : pl l = q at hs ht ho
    obtain ⟨p, ok⟩ := q
    simp only at hs ht ho
    unfold St.begin
    by_cases hok : ok = false
    · rw [if_pos hok]
      exact step s ⟨hB.inv, hB.wk, hB.ma, hB.dn, hB.pf, cov1 s hB.cov (.inl (ht hok))⟩ (by omega)
    · rw [if_neg hok]
      have hpo := ho (by cases ok <;> simp_all)
      have hpV : ∀ x ∈ p, V n x := fun x hx => hV l hl x ((hs x).1 hx)
      match p, hs, hpo, hpV with
      | [], hs, hpo, hpV =>
        refine ⟨s, false, rfl, fun h => (by cases h), fun _ => ⟨l, hl, fun y hy => ?_⟩⟩
        have := (hs y).2 hy
        cases this
      | [x], hs, hpo, hpV =>
        have hxV := hpV x (by simp)
        have hlx : ∀ y, y ∈ l ↔ y = x := fun y => by rw [← hs y]; simp
        simp only [Option.bind_eq_bind]
        rw [hB.inv.is hxV]
        simp only [Option.bind_some]
        by_cases h1 : litV s.tr x < 0
        · rw [if_pos h1]
          refine ⟨s, false, rfl, fun h => (by cases h), fun _ => ⟨l, hl, fun y hy => ?_⟩⟩
          obtain rfl := (hlx y).1 hy
          obtain ⟨j, hj⟩ := List.mem_iff_getElem?.1 (litV_neg.1 h1).2
          exact up_zero hB.inv [] j (-y) hj (lv0 s j hB.ma)
        · rw [if_neg h1]
          by_cases h2 : litV s.tr x = 0
          · rw [if_pos h2]
            obtain ⟨n1, n2⟩ := litV_zero.1 h2
            obtain ⟨e, hI2⟩ := hB.inv.setd (r := -1) hxV n1 n2 (Nat.zero_le _) (.inl ⟨rfl, .inr ⟨lv0 (s.setd x (-1)) _ hB.ma, l, hl, hlx⟩⟩)
            rw [e]
            simp only [Option.bind_some]
            have he : Ext s (s.setd x (-1)) := ⟨rfl, rfl, ⟨[x], rfl⟩, fun k l h => ⟨l, h, Same.refl l⟩, rfl, rfl, rfl⟩
            refine step _ ⟨hI2, hB.wk, hB.ma, hB.dn, hB.pf, cov1 _ (hB.cov.ext he) (.inr (.inl ⟨s.tr.length, x, ?_, lv0 (s.setd x (-1)) _ hB.ma, (hlx x).2 rfl⟩))⟩ (by show s.cl.length ≤ _; omega)
            show (s.tr ++ [x])[s.tr.length]? = some x
            simp
          · rw [if_neg h2]
            have h3 : x ∈ s.tr := litV_pos.1 (by have := litV_small s.tr x; omega)
            obtain ⟨j, hj⟩ := List.mem_iff_getElem?.1 h3
            exact step s ⟨hB.inv, hB.wk, hB.ma, hB.dn, hB.pf, cov1 s hB.cov (.inr (.inl ⟨j, x, hj, lv0 s j hB.ma, (hlx x).2 rfl⟩))⟩ (by omega)
      | a :: b :: r, hs, hpo, hpV =>
        simp only [Option.bind_eq_bind]
        obtain ⟨a', b', _, _, e, hI2, hW2⟩ := add_ok hB.inv hB.wk (l := a :: b :: r) ⟨by simp, hpV, hpo, l, hl, fun x => (hs x).symm⟩ (by omega)
        rw [e]
        simp only [Option.bind_some]
        have hcl : ∀ (k : Nat) (z : List Int), s.cl[k]? = some z → (s.addd (a :: b :: r) a' b').cl[k]? = some z := fun k z h => snoc_cl.2 (.inl h)
        refine step _ ⟨hI2, hW2, hB.ma, hB.dn, hB.pf, cov1 _ ?_ (.inr (.inr ⟨s.cl.length, a :: b :: r, snoc_cl.2 (.inr ⟨rfl, rfl⟩), hs⟩))⟩ (by show (s.cl ++ [_]).length ≤ _; simp)
        intro z hz
        rcases hB.cov z hz with h | h | ⟨k, l', h1, h2⟩
        · exact .inl h
        · exact .inr (.inl h)
        · exact .inr (.inr ⟨k, l', hcl k l' h1, h2⟩)

/-! ### How many conflicts -/
def dig (C : List Int) (v : Nat) : Nat := if (v : Int) ∈ C then 1 else if -(v : Int) ∈ C then 2 else 0
def code (C : List Int) : Nat → Nat
  | 0 => 0
  | n + 1 => code C n * 3 + dig C (n + 1)
theorem dig_lt (C : List Int) (v : Nat) : dig C v < 3 := by
  unfold dig
  split
  · omega
  · split <;> omega
theorem code_lt (C : List Int) : ∀ n, code C n < 3 ^ n
  | 0 => by simp [code]
  | n + 1 => by
    have := code_lt C n
    have := dig_lt C (n + 1)
    simp only [code, Nat.pow_succ]
    omega
theorem code_inj {C C' : List Int} : ∀ {n : Nat}, code C n = code C' n → ∀ v, 1 ≤ v → v ≤ n → dig C v = dig C' v
  | 0, _, v, h1, h2 => by omega
  | n + 1, h, v, h1, h2 => by
    have a := dig_lt C (n + 1)
    have b := dig_lt C' (n + 1)
    simp only [code] at h
    rcases Nat.eq_or_lt_of_le h2 with e | h3
    · subst e; omega
    · exact code_inj (n := n) (by omega) v h1 (by omega)
theorem same_of_code {n : Nat} {C C' : List Int} (h : code C n = code C' n) (hC : ∀ x ∈ C, V n x) (hC' : ∀ x ∈ C', V n x) (o : Once C) (o' : Once C') : Same C C' := by
  have key : ∀ (A B : List Int), (∀ x ∈ A, V n x) → Once A → code A n = code B n → ∀ x ∈ A, x ∈ B := by
    intro A B hA oA h x hx
    have hv := hA x hx
    have hn := hv
    unfold V at hn
    have hd := code_inj h x.natAbs hn.1 hn.2
    unfold dig at hd
    rcases Int.natAbs_eq x with e | e
    · rw [← e] at hd
      rw [if_pos hx] at hd
      split at hd
      · assumption
      · split at hd <;> omega
    · have e2 : -((x.natAbs : Nat) : Int) = x := by omega
      have e3 : ((x.natAbs : Nat) : Int) = -x := by omega
      rw [e2, e3] at hd
      rw [if_neg (fun h => oA.not_both hx h hv.ne), if_pos hx] at hd
      split at hd
      · omega
      · split at hd
        · assumption
        · omega
  exact fun x => ⟨key C C' hC o h x, key C' C hC' o' h.symm x⟩
theorem code_nil : ∀ n, code [] n = 0
  | 0 => rfl
  | n + 1 => by simp [code, code_nil n, dig]
theorem count_le {n : Nat} {pf : List (List Int)} (hp : pf.Pairwise (fun a b => ¬ Same a b)) (hv : ∀ C ∈ pf, (∀ x ∈ C, V n x) ∧ Once C ∧ C ≠ []) : pf.length + 1 ≤ 3 ^ n := by
  have h1 : (0 :: pf.map (fun C => code C n)).Nodup := by
    rw [List.nodup_cons]
    constructor
    · intro h
      obtain ⟨C, hC, e⟩ := List.mem_map.1 h
      obtain ⟨a, b, c⟩ := hv C hC
      have := same_of_code (C := C) (C' := []) (n := n) (by rw [e, code_nil]) a (by simp) b (by simp [Once])
      match C, c with
      | x :: r, _ => have := (this x).1 (by simp); cases this
    · unfold List.Nodup
      rw [List.pairwise_map]
      refine hp.imp_of_mem ?_
      intro a b ha hb hab e
      exact hab (same_of_code e (hv a ha).1 (hv b hb).1 (hv a ha).2.1 (hv b hb).2.1)
  have h2 := nodup_sub_length (m := List.range (3 ^ n)) h1 (fun x hx => by
    rw [List.mem_range]
    rcases List.mem_cons.1 hx with rfl | h
    · exact Nat.pow_pos (by omega)
    · obtain ⟨C, hC, rfl⟩ := List.mem_map.1 h
      exact code_lt C n)
  simpa using h2

/-! ### The run -/
def RUPs (Inp pf : List (List Int)) : Prop := ∀ (i : Nat) (C : List Int), pf[i]? = some C → RUP (Inp ++ pf.take i) C
theorem RUPs.snoc {Inp pf : List (List Int)} {C : List Int} (h : RUPs Inp pf) (hC : RUP (Inp ++ pf) C) : RUPs Inp (pf ++ [C]) := by
  intro i C' hi
  rcases getElem?_snoc hi with h1 | ⟨rfl, rfl⟩
  · have := lt_of_getElem? h1
    rw [List.take_append_of_le_length (by omega)]
    exact h i C' h1
  · rw [List.take_left']
    · exact hC
    · rfl

structure Good (n : Nat) (Inp : List (List Int)) (s : St) (c : Nat) : Prop where
  si : SI n (Inp ++ s.pf) s
  mlt : ∀ m ∈ s.ma, m < s.tr.length
  cov : Cov (Inp ++ s.pf) s
  len : c = s.pf.length
  pw : s.pf.Pairwise (fun a b => ¬ Same a b)
  each : ∀ C ∈ s.pf, (∀ x ∈ C, V n x) ∧ Once C ∧ C ≠ []
  rups : RUPs Inp s.pf
  cl : s.cl.length ≤ Inp.length + s.pf.length
  fok : FOk s

/-- Under values a literal is so. -/
def soV (a : List Bool) (x : Int) : Prop := a[x.natAbs - 1]? = some (decide (0 < x))
def AnsOk (n : Nat) (Inp : List (List Int)) (budget : Int) (r : St.Ans) : Prop :=
  (r.what = 0 ∧ r.vals = [] ∧ r.pf = [] ∧ budget < 3 ^ n) ∨
  (r.what = 1 ∧ r.vals.length = n ∧ r.pf = [] ∧ ∀ l ∈ Inp, ∃ x ∈ l, soV r.vals x) ∨
  (r.what = 2 ∧ r.vals = [] ∧ (∃ q, r.pf = q ++ [[]]) ∧ RUPs Inp r.pf ∧ (r.pf.length : Int) ≤ budget ∧ ∀ C ∈ r.pf, C.length ≤ n ∧ ∀ x ∈ C, V n x)

theorem vals_ok {n : Nat} {D : List (List Int)} {s : St} {p : Nat} (hI : Inv n D s p) {x : Int} (hx : V n x) (ht : x ∈ s.tr) : soV s.vals x := by
  unfold soV St.vals
  have hx' := hx
  unfold V at hx'
  rw [List.getElem?_map, hI.nn, List.getElem?_range (by omega)]
  simp only [Option.map_some, Option.some.injEq, decide_eq_decide]
  rw [show x.natAbs - 1 + 1 = x.natAbs from by omega, List.getD_eq_getElem?_getD, hI.va x hx]
  simp only [Option.getD_some]
  rw [litV_pos]
  have nb := fun a b => hI.once.not_both (x := x) a b hx.ne
  rcases Int.natAbs_eq x with e | e
  · rw [← e]
    constructor
    · intro _; omega
    · intro _; exact ht
  · have e3 : ((x.natAbs : Nat) : Int) = -x := by omega
    rw [e3]
    constructor
    · intro h; exact (nb ht h).elim
    · intro h; omega

theorem run_ok {F : Fl} (HF : FlOk F) {n : Nat} {Inp : List (List Int)} {budget : Int} (hb : budget ≤ 100000) (hInp : Inp.length ≤ 1000) (hTaut : ∀ l ∈ Inp, ∀ x ∈ l, V n x) : ∀ (f : Nat) (s : St) (c : Nat), Good n Inp s c → (3 ^ n - s.pf.length) * (n + 2) + (n + 1 - s.tr.length) < f →
    ∃ r, St.run F budget f s c = some r ∧ AnsOk n Inp budget r
  | 0, s, c, _, hf => by omega
  | f + 1, s, c, hG, hf => by
    have hcnt := count_le hG.pw hG.each
    have hn := hG.si.inv.nn
    obtain ⟨s1, r, e1, hE, hW, h1⟩ := spread_ok (s.n + 2) s hG.si (by omega)
    unfold St.run
    rw [e1]
    simp only [Option.bind_eq_bind, Option.bind_some]
    have hpf1 := hE.pf
    have hma1 := hE.ma
    obtain ⟨t, ht⟩ := hE.tr
    have htl : s.tr.length ≤ s1.tr.length := by rw [ht]; simp
    have hmlt1 : ∀ m ∈ s1.ma, m < s1.tr.length := fun m hm => by
      rw [hma1] at hm
      have := hG.mlt m hm
      omega
    have hcov1 : Cov (Inp ++ s.pf) s1 := hG.cov.ext hE
    have hfo1 : FOk s1 := ⟨by rw [hE.sc]; exact hG.fok.1, by rw [hE.sp]; exact hG.fok.2⟩
    cases r with
    | some k =>
      obtain ⟨d, hI, hcur, hdl, hC⟩ := h1
      simp only
      by_cases hbud : budget < (c : Int) + 1
      · rw [if_pos hbud]
        refine ⟨_, rfl, .inl ⟨rfl, rfl, rfl, ?_⟩⟩
        have := hG.len
        have h3 : (c : Int) + 1 ≤ ((3 ^ n : Nat) : Int) := by omega
        have e3 : ((3 ^ n : Nat) : Int) = (3 : Int) ^ n := by simp
        omega
      · rw [if_neg hbud]
        have hkb : k < bigN := by
          obtain ⟨lk, hlk, _⟩ := hC
          have h1 := lt_of_getElem? hlk
          have h2 := hE.len
          have h3 := hG.cl
          have h4 := hG.len
          unfold bigN
          omega
        rw [if_pos hkb]
        by_cases hma : s1.ma = []
        · unfold St.conflict
          rw [if_pos hma]
          have hpb : s1.pf.length < bigN := by have := hG.len; rw [hpf1]; unfold bigN; omega
          simp only [Option.bind_some, Bool.false_eq_true, if_false]
          rw [if_pos hpb]
          have hr0 := Confl.rup0 hI hC hma
          refine ⟨_, rfl, .inr (.inr ⟨rfl, rfl, ⟨s1.pf, rfl⟩, ?_, ?_, ?_⟩)⟩
          · rw [hpf1]; exact hG.rups.snoc hr0
          · have := hG.len
            rw [hpf1]; simp; omega
          · intro C hC2
            rw [hpf1] at hC2
            rcases List.mem_append.1 hC2 with h | h
            · exact ⟨(hG.each C h).2.1.length_le (hG.each C h).1, (hG.each C h).1⟩
            · simp at h; subst h; exact ⟨Nat.zero_le _, fun x hx => by cases hx⟩
        · have hlen := hG.len
          obtain ⟨s2, C, e2, hS2, hp2, hm2, hc2, hr2, hv2, ho2, hne2, hnew2, hcl2, hfo2⟩ := conflict_ok HF hI hW hcur hmlt1 hC hcov1 hfo1 hma (by rw [hE.len]; have := hG.cl; omega) (by rw [hpf1]; omega)
          rw [e2]
          simp only [Option.bind_some, if_true]
          have hp2' : s2.pf = s.pf ++ [C] := by rw [hp2, hpf1]
          have hG2 : Good n Inp s2 (c + 1) := by
            refine { si := by rw [hp2', ← List.append_assoc]; exact hS2, mlt := hm2, cov := by rw [hp2', ← List.append_assoc]; exact hc2, len := by rw [hp2']; simp; omega, pw := ?_, each := ?_, rups := by rw [hp2']; exact hG.rups.snoc hr2, cl := by rw [hp2']; have := hE.len; have := hG.cl; simp; omega, fok := hfo2 }
            · rw [hp2', List.pairwise_append]
              refine ⟨hG.pw, by simp, fun a ha b hb => ?_⟩
              simp at hb
              subst hb
              exact hnew2 a (List.mem_append.2 (.inr ha))
            · intro C' hC'
              rw [hp2'] at hC'
              rcases List.mem_append.1 hC' with h | h
              · exact hG.each C' h
              · simp at h; subst h; exact ⟨hv2, ho2, hne2⟩
          refine run_ok HF hb hInp hTaut f s2 (c + 1) hG2 ?_
          have h5 : s2.pf.length = s.pf.length + 1 := by rw [hp2']; simp
          rw [h5]
          have h6 : (3 ^ n - s.pf.length) * (n + 2) = (3 ^ n - (s.pf.length + 1)) * (n + 2) + (n + 2) := by
            rw [show 3 ^ n - s.pf.length = (3 ^ n - (s.pf.length + 1)) + 1 from by omega, Nat.add_mul, Nat.one_mul]
          omega
    | none =>
      obtain ⟨hS1, hd1⟩ := h1
      simp only
      obtain ⟨v, e2, hv⟩ := pick_ok F hS1.inv n 1 0 (by omega) (Nat.le_refl _) (.inl ⟨rfl, fun u h1 h2 => by omega⟩)
      have hn1 : s1.n = n := hS1.inv.nn
      have e2' : St.pick F s1 s1.n 1 0 = some v := by rw [hn1]; exact e2
      unfold St.choose
      rw [e2']
      simp only [Option.bind_some]
      rcases hv with ⟨rfl, hall⟩ | ⟨h2, h3, h4⟩
      · rw [if_pos rfl, if_pos (by rw [hn1, hS1.inv.lva]; omega)]
        have hfull : ∀ x, V n x → x ∈ s1.tr ∨ -x ∈ s1.tr := by
          intro x hx
          unfold V at hx
          have h5 := fun h => hall x.natAbs hx.1 hx.2 (litV_zero.2 h)
          rcases Int.natAbs_eq x with e | e
          · rw [← e] at h5
            by_cases h6 : x ∈ s1.tr
            · exact .inl h6
            · by_cases h7 : -x ∈ s1.tr
              · exact .inr h7
              · exact absurd ⟨h6, h7⟩ h5
          · have e3 : ((x.natAbs : Nat) : Int) = -x := by omega
            rw [e3, Int.neg_neg] at h5
            by_cases h6 : x ∈ s1.tr
            · exact .inl h6
            · by_cases h7 : -x ∈ s1.tr
              · exact .inr h7
              · exact absurd ⟨h7, h6⟩ h5
        refine ⟨_, rfl, .inr (.inl ⟨rfl, ?_, rfl, fun l hl => ?_⟩)⟩
        · show s1.vals.length = n
          unfold St.vals
          rw [List.length_map, List.length_range, hn1]
        · have hlD : l ∈ Inp ++ s.pf := List.mem_append.2 (.inl hl)
          rcases hcov1 l hlD with ⟨x, hx, hx2⟩ | ⟨i, x, h5, _, h6⟩ | ⟨k, l', h5, h6⟩
          · rcases hfull x (hTaut l hl x hx) with h | h
            · exact ⟨x, hx, vals_ok hS1.inv (hTaut l hl x hx) h⟩
            · exact ⟨-x, hx2, vals_ok hS1.inv (hTaut l hl x hx).neg h⟩
          · exact ⟨x, h6, vals_ok hS1.inv (hTaut l hl x h6) (List.mem_iff_getElem?.2 ⟨i, h5⟩)⟩
          · obtain ⟨x, hx, hxt⟩ := closed_all hS1 hd1 h5 hfull
            have hxl := (h6 x).1 hx
            exact ⟨x, hxl, vals_ok hS1.inv (hTaut l hl x hxl) hxt⟩
      · rw [if_neg (by omega)]
        have hmal := hS1.inv.malen
        have hsm := hS1.inv.small
        rw [if_pos ⟨by unfold bigN; omega, by unfold bigN; omega⟩]
        obtain ⟨s2, e3, hS2, hm2, hc2, hp2, hcl2, htl2, hsc2, hsp2⟩ := decide_ok (by rw [← hpf1] at hS1; exact hS1) hd1 hmlt1 (by rw [hpf1]; exact hcov1) h2 h3 h4
        rw [e3]
        simp only [Option.bind_some]
        have hp2' : s2.pf = s.pf := by rw [hp2, hpf1]
        have hG2 : Good n Inp s2 c := by
          refine { si := by rw [hp2', ← hpf1]; exact hS2, mlt := hm2, cov := by rw [hp2', ← hpf1]; exact hc2, len := by rw [hp2']; exact hG.len, pw := by rw [hp2']; exact hG.pw, each := by rw [hp2']; exact hG.each, rups := by rw [hp2']; exact hG.rups, cl := by rw [hp2', hcl2, hE.len]; exact hG.cl, fok := ⟨by rw [hsc2]; exact hfo1.1, by rw [hsp2]; exact hfo1.2⟩ }
        refine run_ok HF hb hInp hTaut f s2 c hG2 ?_
        have h7 := hS2.inv.trlen
        rw [hp2']
        omega
end Go.Proofs.Ytbagcbiekpopbaa
