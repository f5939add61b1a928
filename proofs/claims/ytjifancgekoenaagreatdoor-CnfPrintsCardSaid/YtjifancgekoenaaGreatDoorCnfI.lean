import Derived.Test.YtjifancgekoenaaGreatDoorCnfH
namespace Go.Proofs.YtjifancgekoenaaGreatDoor
open Go.RowKit Go.Proofs.YtjifancgekoenaaGreatDoorW.PrintWords Go.Proofs.YtjifancgekoenaaGreatDoorW.PrintLast
open Go.Sort (grow cell?_grow heap_grow_old)
set_option linter.unusedVariables false
set_option linter.unusedSimpArgs false

theorem putRow_below {α : Type} [Inhabited α] {B : Nat} {a w : World} (h : Below B a w) (enc : α → Value) (blk off : Nat) (d : Array α) (hb : B ≤ blk) : Below B a (Go.Sort.putRow enc w blk off d) :=
  ⟨h.os, h.tape, h.output, by rw [Go.Sort.size_putRow]; exact h.size, fun k hk => by
    rw [← h.block k hk]
    show (w.heap.modify blk _)[k]? = _
    rw [Array.getElem?_modify, if_neg (by omega)]⟩
theorem ahead_below {B : Nat} {a w : World} (h : Below B a w) (n : Nat) : Below B a (Go.Sort.ahead w n) := ⟨h.os, h.tape, h.output, h.size, h.block⟩
theorem grow_below {B : Nat} {a w : World} (h : Below B a w) (hB : B ≤ w.heap.size) (os : Array Obj) : Below B a (grow w os) :=
  ⟨h.os, h.tape, h.output, by rw [Go.Sort.size_grow]; have := h.size; omega, fun k hk => by rw [heap_grow_old w os (by omega)]; exact h.block k hk⟩
theorem sortWorld_below {B : Nat} {a w : World} (h : Below B a w) (hB : B ≤ w.heap.size) {α : Type} [Inhabited α] (enc : α → Value) (blk off n : Nat) (d : Array α) (os : Array Obj) (hb : B ≤ blk) : Below B a (sortWorld enc w blk off n d os) :=
  grow_below (putRow_below (ahead_below h n) enc blk off d hb) (by rw [Go.Sort.size_putRow]; exact hB) os

theorem plain_lays (blk off size : Nat) (w : World) : CmpLays1 Tryz.prog 44 #[] (Value.int .i64) litC blk off size w := fun m os dk hs x y => plain_cmp x y _

def PlainOut (w w' : World) (l : List Int) (e : Ending) : Prop := ∃ (A : Option Addr) (c : Nat) (p : List Int), e = .returned (.tuple #[.slice A p.length c, .bool (oppI p)]) ∧ IsPlain l p ∧ p.length ≤ l.length ∧ p.length ≤ c ∧ (∃ a, A = some a) ∧ Kd.C kI w' A p.length p ∧ Below w.heap.size w w'

theorem clone_at (a : Addr) (c : Nat) (l : List Int) (w : World) (hC : Kd.C kI w (some a) l.length l) (hl : l.length ≤ 1000) :
    Calls Tryz.prog 42 #[.slice (some a) l.length c] w fun e w' => ∃ g cap cur, e = .returned (.slice (some ⟨g, 0, none⟩) l.length cap) ∧ w.heap.size ≤ g ∧ l.length ≤ cap ∧ w'.heap[g]? = some (.cells cur 3 (0, 0)) ∧ cur.toList.take l.length = l.map (Value.int .i64) ∧ Below w.heap.size w w' := by
  have fin : ∀ (n : Nat) (zs : List Int), n = zs.length → ∀ (e : Ending) (w' : World), (∃ v', e = .returned v' ∧ w'.ownsRow w.heap.size 3 1 v' n (zs.map (Value.int .i64)) ∧ v' ≠ .slice none 0 0 ∧ Below w.heap.size w w') → ∃ g cap cur, e = .returned (.slice (some ⟨g, 0, none⟩) zs.length cap) ∧ w.heap.size ≤ g ∧ zs.length ≤ cap ∧ w'.heap[g]? = some (.cells cur 3 (0, 0)) ∧ cur.toList.take zs.length = zs.map (Value.int .i64) ∧ Below w.heap.size w w' := by
    rintro n zs rfl e w' ⟨v', rfl, ho, hne, hb⟩
    rcases ho.2 with ⟨h1, _⟩ | ⟨g, cap, cur, h1, h2, h3, h4, h5, h6, h7⟩
    · exact absurd h1 hne
    · subst h1
      exact ⟨g, cap, cur, rfl, h2, h4, h3, by simpa using h7, hb⟩
  by_cases h0 : l.length = 0
  · have : l = [] := List.eq_nil_of_length_eq_zero h0
    subst this
    exact (Tryz.slices_Clone_int_zero a c w).mono fun e w' h => fin 0 [] rfl e w' h
  · obtain ⟨b, off, e, hcell⟩ := C_ints hC (by omega)
    obtain rfl := Option.some.inj e
    refine (Tryz.slices_Clone_int b off l.length c l w (Nat.le_refl _) (by omega) (fun j hj => ?_)).mono fun e w' h => fin l.length l rfl e w' (by simpa using h)
    rw [hcell j hj]
    simp [List.getD_eq_getElem?_getD, List.getElem!_eq_getElem?_getD]
    
set_option maxHeartbeats 4000000 in
set_option maxRecDepth 100000 in
theorem Plain_any (a : Addr) (c : Nat) (l : List Int) (w : World) (hC : Kd.C kI w (some a) l.length l) (hl : l.length ≤ 1000) :
    Calls Tryz.prog 23 #[.slice (some a) l.length c] w fun e w' => PlainOut w w' l e := by
  have H1 := clone_at a c l w hC hl
  have eg : ∀ args w, (callFunc 44 args).run Tryz.prog w = .ok (.enter 44 args) w := enters_of Tryz.func44 (by kernel_rfl) rfl
  obtain ⟨n, hn⟩ : ∃ n, l.length = n := ⟨_, rfl⟩
  have HN : Aside0 (l.length = n) := ⟨hn⟩
  have HLN : Aside0 (l.length ≤ 1000) := ⟨hl⟩
  clear hC hl
  rw [hn] at H1 ⊢
  clear hn
  go_enter Tryz.func23, Tryz.ntmps23
  go_wp2_with fail
  refine H1.mono ?_
  rintro e w1 ⟨g, cap, cur, rfl, hg, hcap, hblk, hcur, hb1⟩
  clear H1
  have hgl : g < w1.heap.size := by
    rcases Nat.lt_or_ge g w1.heap.size with h | h
    · exact h
    · rw [Array.getElem?_eq_none h] at hblk; cases hblk
  have hH : Go.Sort.Holds (Value.int .i64) w1 g 0 l.toArray := by
    intro j hj
    have hj' : j < l.length := by simpa using hj
    refine ⟨?_, blk_frozen hblk _⟩
    rw [blk_cellA hblk]
    have := congrArg (fun x => x[j]?) hcur
    simp only [List.getElem?_map, Nat.zero_add] at this ⊢
    rw [List.getElem?_take_of_lt (by rw [← HN.out]; exact hj')] at this
    rw [← Array.getElem?_toList, this]
    simp [List.getElem?_eq_getElem hj', getElem!_pos l.toArray j hj]
  have H2 := Any.slices_SortFunc Tryz.sortL (Value.int .i64) (fun _ => rfl) litC swo_lit 44 #[] g 0 cap l.toArray w1 eg (plain_lays _ _ _ _) hH hgl (by have := HLN.out; simp; omega)
  have hsz : l.toArray.size = n := by simpa using HN.out
  have HK : Aside0 (w.heap.size ≤ g ∧ n ≤ cap ∧ Below w.heap.size w w1 ∧ g < w1.heap.size ∧ Go.Sort.Holds (Value.int .i64) w1 g 0 l.toArray) := ⟨hg, hcap, hb1, hgl, hH⟩
  rw [hsz] at H2
  change Calls Tryz.prog 43 _ _ _ at H2
  clear hg hcap hb1 hgl hH hblk hcur hsz eg
  go_wp2_with fail
  refine H2.mono ?_
  rintro e w2 ⟨rfl, d, m, os, hp, hs, rfl⟩
  clear H2
  have hpl : d.size = n ∧ IsPlain l (Lib.compact d.toList) := by
    have := sorted_plain l d (by rw [show l.toArray.size = n from by simpa using HN.out]; exact hp) (by rw [show l.toArray.size = n from by simpa using HN.out]; exact hs)
    exact ⟨this.1.trans HN.out, this.2⟩
  clear hp hs
  have hlenT : d.toList.length = n := by simpa using hpl.1
  have hkn : (Lib.compact d.toList).length ≤ n := by
    rw [← hlenT]; unfold Lib.compact Lib.compactUpTo
    rw [List.length_map]
    exact Nat.le_trans (List.length_filter_le _ _) (by simp)
  have hH2 : Go.Sort.Holds (Value.int .i64) (sortWorld (Value.int .i64) w1 g 0 m d os) g 0 d := by
    obtain ⟨h1, h2, h3, h4, h5⟩ := HK.out
    have hs : SW (Value.int .i64) w1 g 0 d (sortWorld (Value.int .i64) w1 g 0 m d os) := ⟨m, os, rfl⟩
    exact hs.holds h4 h5 (by simp [hpl.1, HN.out])
  have hb2 : Below w.heap.size w (sortWorld (Value.int .i64) w1 g 0 m d os) := by
    obtain ⟨h1, h2, h3, h4, h5⟩ := HK.out
    exact sortWorld_below h3 h3.size _ _ _ _ _ _ h1
  obtain ⟨w2, hw2⟩ : ∃ w2, sortWorld (Value.int .i64) w1 g 0 m d os = w2 := ⟨_, rfl⟩
  rw [hw2] at hH2 hb2 ⊢
  clear hw2
  have H3 := Tryz.slices_Compact_int g 0 cap d.toList w2 (by simpa using hH2) (by have := HLN.out; have := HN.out; omega) (by have := HK.out.2.1; omega)
  have H3' : Calls Tryz.prog 49 #[.slice (some ⟨g, 0, none⟩) d.toList.length cap] w2 fun e w3 => e = .returned (.slice (some ⟨g, 0, none⟩) (Lib.compact d.toList).length cap) ∧ Below w.heap.size w w3 ∧ ∀ j : Nat, j < (Lib.compact d.toList).length → w3.cell? ⟨g, 0 + j, none⟩ = some (.int .i64 (Lib.compact d.toList)[j]!) := by
    refine H3.mono ?_
    rintro e w3 ⟨h1, q, rfl⟩
    refine ⟨h1, putRow_below (ahead_below hb2 q) _ _ _ _ HK.out.1, fun j hj => ?_⟩
    have hsz : (Lib.compact d.toList ++ List.replicate (d.toList.length - (Lib.compact d.toList).length) 0).toArray.size = d.size := by simp; simp at hlenT; omega
    have := (Go.Sort.holds_putRow (Value.int .i64) (Go.Sort.ahead w2 q) g 0 d (Lib.compact d.toList ++ List.replicate (d.toList.length - (Lib.compact d.toList).length) 0).toArray (Go.Sort.holds_ahead _ _ _ _ _ _ hH2) hsz j (by rw [hsz]; omega)).1
    rw [this]
    congr 2
    rw [getElem!_pos _ j (by rw [hsz]; omega), getElem!_pos _ j hj]
    simp [List.getElem_append_left hj]
  rw [hlenT] at H3'
  clear H3 hb2 hH2
  have hpl2 := hpl.2
  clear hpl hlenT
  generalize Lib.compact d.toList = p at *
  clear d m os
  obtain ⟨k, hk⟩ : ∃ k, p.length = k := ⟨_, rfl⟩
  have HP : Aside0 (p.length = k ∧ IsPlain l p ∧ k ≤ n ∧ k ≤ 1000 ∧ k ≤ cap) := ⟨hk, hpl2, by omega, by have := HLN.out; have := HN.out; omega, by have := HK.out.2.1; omega⟩
  rw [hk] at H3' hkn
  clear hk hpl2
  go_wp2_with fail
  refine H3'.mono ?_
  rintro e w3 ⟨rfl, hb3, hc3⟩
  have HB : Aside0 (Below w.heap.size w w3 ∧ ∀ j : Nat, j < k → w3.cell? ⟨g, 0 + j, none⟩ = some (.int .i64 p[j]!)) := ⟨hb3, hc3⟩
  have hk9 : k ≤ 1000 := HP.out.2.2.2.1
  have HR : Aside0 (∀ (q : Nat), PlainOut w (w3.drewN q) l (.returned (.tuple #[.slice (some ⟨g, 0, none⟩) k cap, .bool (oppI p)]))) := ⟨fun q => by
    obtain ⟨h1, h2, h3, h4, h5⟩ := HP.out
    subst h1
    refine ⟨some ⟨g, 0, none⟩, cap, p, rfl, h2, by rw [HN.out]; exact h3, h5, ⟨_, rfl⟩, ?_, ⟨hb3.os, hb3.tape, hb3.output, hb3.size, hb3.block⟩⟩
    refine C_of_cells (by omega) (fun j x hj => ?_)
    have hjl := (List.getElem?_eq_some_iff.1 hj).1
    show w3.cell? _ = _
    rw [hc3 j hjl, List.getElem!_eq_getElem?_getD, hj]; rfl⟩
  clear H3' hb3 hc3 hkn HK
  go_wp2
  go_loopg [5] k (fun gg s5 wr => ∃ (kk q : Nat), 1 ≤ kk ∧ kk ≤ k + 1 ∧ k + 1 - kk ≤ gg ∧ s5 = .int .i64 kk ∧ wr = w3.drewN q ∧ Aside0 (oppI p = oppI (p.drop (kk - 1))))
  case atStart => exact ⟨1, 0, by omega, by omega, by omega, rfl, rfl, ⟨rfl⟩⟩
  case round =>
    obtain ⟨kk, q, h1, h2, h3, rfl, rfl, HO⟩ := hrel
    by_cases hlt : kk < k
    · have hlt2 : decide ((kk : Int) < (k : Int)) = true := by simpa using hlt
      have hc1 := HB.out.2 kk hlt
      have hc0 := HB.out.2 (kk - 1) (by omega)
      rw [Nat.zero_add] at hc1 hc0
      have hwr : IntKind.i64.wrap ((kk : Int) - 1) = ((kk - 1 : Nat) : Int) := by simp [IntKind.wrap, IntKind.bits, IntKind.signed]; omega
      have HST : Aside0 (oppI (p.drop (kk - 1)) = if p[kk]! = wrap64 (-p[kk - 1]!) then false else oppI (p.drop kk)) := ⟨by
        have := oppI_step (p := p) (k := kk - 1) (by rw [HP.out.1]; omega)
        rw [show kk - 1 + 1 = kk from by omega] at this
        exact this⟩
      generalize p[kk]! = x1 at *
      generalize p[kk - 1]! = x0 at *
      by_cases hx : x1 = wrap64 (-x0)
      · have hx1 : (x1 == wrap64 (-x0)) = true := by simpa using hx
        have HF : Aside0 (oppI p = false) := ⟨by rw [HO.out, HST.out, if_pos hx]⟩
        clear hx
        go_wp2
        go_quiet (fail)
        go_wp2
        go_ret2
        rw [← HF.out, World.drewN_drewN]
        exact HR.out _
      · have hx1 : (x1 == wrap64 (-x0)) = false := by simpa using hx
        have HF : Aside0 (oppI p = oppI (p.drop kk)) := ⟨by rw [HO.out, HST.out, if_neg hx]⟩
        clear hx
        go_wp2
        go_quiet (fail)
        go_wp2
        go_roundg (k - kk)
        case measure => omega
        case rel => exact ⟨kk + 1, q + nq, by omega, by omega, by omega, by go_num, by simp [World.drewN_drewN], ⟨by rw [HF.out, Nat.add_sub_cancel]⟩⟩
    · have hlt2 : decide ((kk : Int) < (k : Int)) = false := by simpa using hlt
      have HF : Aside0 (oppI p = true) := ⟨by rw [HO.out]; exact oppI_end (by rw [HP.out.1]; omega)⟩
      go_wp2
      go_ret2
      rw [← HF.out]
      exact HR.out _
end Go.Proofs.YtjifancgekoenaaGreatDoor
