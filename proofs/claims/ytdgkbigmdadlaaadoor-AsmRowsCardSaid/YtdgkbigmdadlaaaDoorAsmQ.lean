import Derived.Test.YtdgkbigmdadlaaaDoorAsmP
namespace Go.Proofs.YtdgkbigmdadlaaaDoor
open Go.RowKit Go.Lib Go.Proofs.YtdgkbigmdadlaaaDoorW.PrintWords Go.Proofs.YtdgkbigmdadlaaaDoorW.PrintLast
attribute [local go_sem high] eqA23
set_option linter.unusedVariables false
set_option linter.unusedSimpArgs false

def cnt10 (l : List UInt8) : Nat := l.countP (· == 10)
theorem cnt10_none {l : List UInt8} (h : (10 : UInt8) ∉ l) : cnt10 l = 0 := by
  unfold cnt10
  rw [List.countP_eq_zero]
  intro a ha
  simp
  rintro rfl
  exact h ha
theorem cnt10_app (a b : List UInt8) : cnt10 (a ++ b) = cnt10 a + cnt10 b := by unfold cnt10; rw [List.countP_append]
theorem cnt10_lines : ∀ (L : List I5), L.all rightI = true → cnt10 (L.flatMap lineI) = L.length
  | [], _ => rfl
  | x :: L, h => by
    rw [List.all_cons, Bool.and_eq_true] at h
    rw [List.flatMap_cons, cnt10_app, cnt10_lines L h.2]
    unfold lineI
    rw [cnt10_app, cnt10_none (text_no10 h.1)]
    simp [cnt10]
    omega
theorem cnt_le (l : List UInt8) : cnt10 l ≤ l.length := List.countP_le_length
theorem byteB_get (s : List UInt8) (k : Nat) (h : k < (bytesB s).size) : (bytesB s)[k] = s[k]! := by
  have hk : k < s.length := by rw [bytesB_size] at h; exact h
  rw [getElem!_pos s k hk]
  show (bytesB s).data[k] = s[k]
  simp [bytesB]
theorem cnt_step (s : List UInt8) (k : Nat) (h : k < s.length) : cnt10 (s.take (k + 1)) = cnt10 (s.take k) + if s[k]! = 10 then 1 else 0 := by
  rw [List.take_succ_eq_append_getElem h, cnt10_app, getElem!_pos s k h]
  congr 1
  unfold cnt10
  by_cases h2 : s[k] = 10 <;> simp [h2]
theorem byte_is (b : UInt8) : (((b.toNat : Int) == 10) = true ↔ b = 10) := by
  constructor
  · intro h
    have : (b.toNat : Int) = 10 := by simpa using h
    exact UInt8.toNat_inj.1 (show b.toNat = 10 by omega)
  · rintro rfl; rfl
/-- A line behind lines. -/
theorem readA_odd {L : List I5} (h : L.all rightI = true) {odd : List UInt8} (ho : (10 : UInt8) ∉ odd) :
    (readA (L.flatMap lineI ++ (odd ++ [10])) = (L ++ [(parseA odd).1], 0) ∧ (parseA odd).2 = 0) ∨ (readA (L.flatMap lineI ++ (odd ++ [10])) = ([], 50) ∧ (parseA odd).2 = 50) := by
  obtain ⟨d, hd⟩ : ∃ d, (L.flatMap lineI ++ (odd ++ [10])).length = d := ⟨_, rfl⟩
  have hm := readF_more (L.flatMap lineI ++ (odd ++ [10])) d ((d + 2) + L.length) (by omega) (by omega)
  have h3 := readF_lines L (d + 2) (odd ++ [10]) h
  have hc : cutB 10 (odd ++ [10]) = (odd, [], true) := cutB_app 10 odd [] ho
  have h4 : readF (d + 2) (odd ++ [10]) = if (parseA odd).2 = 0 then some [(parseA odd).1] else none := by
    conv => lhs; unfold readF
    rw [if_neg (by simp), hc]
    simp only
    by_cases e : (parseA odd).2 = 0
    · rw [if_pos ⟨trivial, e⟩, if_pos e]; simp [readF]
    · rw [if_neg (fun h => e h.2), if_neg e]
  unfold readA
  rw [hd, hm, h3, h4]
  rcases parseI_cases odd (tryA odd) with ⟨h5, _, _⟩ | h5
  · left
    have h6 : parseA odd = (tryA odd, 0) := h5
    rw [h6]
    simp
  · right
    have h6 : parseA odd = (zeroI, 50) := h5
    rw [h6]
    simp
theorem cat_odd (a b : List UInt8) : (bytesB a ++ bytesB b) ++ (⟨#[10]⟩ : ByteArray) = bytesB (a ++ (b ++ [10])) := by
  rw [bytesB_app]
  refine (bytesB_app _ [10]).trans ?_
  congr 1
  simp
set_option maxHeartbeats 4000000 in
set_option maxRecDepth 100000 in
theorem AsmRows_any (A : Option Addr) (c : Nat) (L : List I5) (odd : List UInt8) (w : World) (hA : RowI w A L) (hc : L.length ≤ c) (hs : odd.length ≤ 9223372036854775807) (hL : Laid w) :
    Calls Tryd.prog 8 #[.slice A L.length c, .string (bytesB odd)] w fun e w' => e = .returned (.bool true) ∧ Below w.heap.size w w' := by
  have HL := Aside0.mk hL
  have HX := Aside0.mk (fun (W : World) hL => fixed_any W hL)
  obtain ⟨k1, hk1⟩ : ∃ k : Nat, min L.length 30 = k := ⟨_, rfl⟩
  obtain ⟨k2, hk2⟩ : ∃ k : Nat, min odd.length 40 = k := ⟨_, rfl⟩
  have hA2 := Aside0.mk (hA.take k1)
  have e1 : (L.take k1).length = k1 := by rw [List.length_take]; omega
  have hm1 : (if (30 : Int) < (L.length : Int) then (30 : Int) else (L.length : Int)) = (k1 : Int) := by split <;> omega
  have hm2 : min (L.length : Int) 30 = (k1 : Int) := by omega
  have hm3 : (if (40 : Int) < (odd.length : Int) then (40 : Int) else (odd.length : Int)) = (k2 : Int) := by split <;> omega
  have hm4 : min (odd.length : Int) 40 = (k2 : Int) := by omega
  have hsz0 : (bytesB odd).size = odd.length := bytesB_size odd
  have HT : Aside0 ((bytesB odd).extract 0 k2 = bytesB (odd.take k2) ∧ (odd.take k2).length = k2) := ⟨bytesB_take _ _, by rw [List.length_take]; omega⟩
  have g1 : (k1 : Int) ≤ (c : Int) := by omega
  have g2 : (k2 : Int) ≤ (odd.length : Int) := by omega
  have g3 : k1 ≤ 30 := by omega
  have g4 : k2 ≤ 40 := by omega
  have gm1 := hA.max
  have HE := Aside0.mk e1
  have HLa : Aside0 (∀ W, Below w.heap.size w W → Calls Tryd.prog 17 #[.slice A k1 c] W fun e w' => e = .returned (.tuple #[.string (bytesB (linesT (L.take k1))), .int .i64 (linesE (L.take k1))]) ∧ Below W.heap.size W w') := ⟨fun W h => by
    have := Lines_any A c (L.take k1) (by omega) W (hA2.out.below h) (hL.below h)
    rw [e1] at this
    exact this⟩
  unfold linesT linesE at HLa
  clear hA hc hL hk1 hk2 e1
  generalize L.take k1 = P at *
  generalize L.length = n1 at *
  go_enter Tryd.func8, Tryd.ntmps8
  go_wp2_with fail
  rw [HT.out.1]
  have HOl := Aside0.mk HT.out.2
  clear HT hm1 hm2 hm3 hm4
  generalize odd.take k2 = od at *
  refine (HLa.out _ (Below.refl _ _)).mono ?_
  cases hq : P.all rightI with
  | false =>
    simp only [Bool.false_eq_true, if_false]
    clear hq
    have hE : (bytesB []).toList.isEmpty = true := by simp [bytesB]
    rintro e w1 ⟨rfl, hb⟩
    have HX1 := Aside0.mk hb
    clear hb HLa
    go_wp2_with fail
    refine (HX.out _ (HL.out.below HX1.out)).mono ?_
    rintro e w7 ⟨rfl, hb⟩
    have hfin := below_after HX1.out hb (Nat.le_refl _)
    go_wp2_with fail
    go_ret
    exact ⟨rfl, hfin⟩
  | true =>
    simp only [if_true]
    have hl1 := lines_len P hq
    have hcn := cnt10_lines P hq
    have HOdd := Aside0.mk (fun (h : (10 : UInt8) ∉ od) => readA_odd hq h)
    have HRd : Aside0 (∀ W, Laid W → Calls Tryd.prog 18 #[.string (bytesB (P.flatMap lineI ++ (od ++ [10])))] W fun e w' => ∃ v, e = .returned (.tuple #[v, .int .i64 (readA (P.flatMap lineI ++ (od ++ [10]))).2]) ∧ OwnI w' W.heap.size v (readA (P.flatMap lineI ++ (od ++ [10]))).1 ∧ Below W.heap.size W w') :=
      ⟨fun W h => Read_any (P.flatMap lineI ++ (od ++ [10])) (by simp only [List.length_append, List.length_cons, List.length_nil]; have := HE.out; have := HOl.out; omega) W h⟩
    have HPs := Aside0.mk (fun (W : World) hL => Parse_any od (by have := HOl.out; omega) W hL)
    clear hq
    obtain ⟨S, hS⟩ : ∃ S, P.flatMap lineI = S := ⟨_, rfl⟩
    rw [hS] at hl1 hcn HOdd HRd ⊢
    clear hS
    have HSl : Aside0 (S.length ≤ 5000 ∧ cnt10 S = k1) := ⟨by have := HE.out; omega, by rw [hcn]; exact HE.out⟩
    clear hl1 hcn
    generalize hRA : readA (S ++ (od ++ [10])) = ra at *
    clear hRA
    obtain ⟨Lm, er2⟩ := ra
    generalize hPA : parseA od = pa at *
    clear hPA
    obtain ⟨x, er1⟩ := pa
    simp only at HOdd HRd HPs
    rintro e w1 ⟨rfl, hb⟩
    have HX1 := Aside0.mk hb
    clear hb HLa
    have hl9 : (S.length : Int) ≤ 5000 := by have := HSl.out.1; omega
    have hsz : (bytesB S).size = S.length := bytesB_size S
    have hol : od.length = k2 := HOl.out
    go_wp2_with fail
    go_loopg [7, 8] S.length (fun gg s7 s8 wr => ∃ kk : Nat, kk ≤ S.length ∧ S.length - kk ≤ gg ∧ s7 = .int .i64 (cnt10 (S.take kk)) ∧ s8 = .int .i64 kk ∧ wr = w1)
    case atStart => exact ⟨0, by omega, by omega, rfl, rfl, rfl⟩
    case round =>
      obtain ⟨kk, h1, h2, rfl, rfl, rfl⟩ := hrel
      by_cases hlt : kk < S.length
      · have hlt2 : decide ((kk : Int) < (S.length : Int)) = true := by simpa using hlt
        have HK : Aside0 (cnt10 (S.take (kk + 1)) = cnt10 (S.take kk) + (if S[kk]! = 10 then 1 else 0) ∧ cnt10 (S.take kk) ≤ 5000) := ⟨cnt_step S kk hlt, by have := cnt_le (S.take kk); rw [List.length_take] at this; omega⟩
        have hlt3 : kk < (bytesB S).size := by rw [hsz]; exact hlt
        have HG : Aside0 ((bytesB S)[kk] = S[kk]!) := ⟨byteB_get S kk hlt3⟩
        go_wp2
        all_goals
          rename_i hb
          first
            | (have hb2 : S[kk]! = 10 := by rw [← HG.out]; exact (byte_is _).1 hb
               have HK2 : Aside0 (cnt10 (S.take (kk + 1)) = cnt10 (S.take kk) + 1) := ⟨by rw [HK.out.1, if_pos hb2]⟩
               go_roundg (S.length - kk - 1)
               case measure => omega
               case rel => exact ⟨kk + 1, by omega, by omega, by rw [HK2.out]; have := HK.out.2; simp [wrap64]; omega, by go_num, rfl⟩)
            | (have hb2 : ¬ S[kk]! = 10 := by rw [← HG.out]; intro e; rw [(byte_is _).2 e] at hb; cases hb
               have HK2 : Aside0 (cnt10 (S.take (kk + 1)) = cnt10 (S.take kk)) := ⟨by rw [HK.out.1, if_neg hb2]; rfl⟩
               go_roundg (S.length - kk - 1)
               case measure => omega
               case rel => exact ⟨kk + 1, by omega, by omega, by rw [HK2.out], by go_num, rfl⟩)
      · have hlt2 : decide ((kk : Int) < (S.length : Int)) = false := by simpa using hlt
        obtain rfl : kk = S.length := by omega
        have hcnt : cnt10 (S.take S.length) = k1 := by rw [List.take_length]; exact HSl.out.2
        rw [hcnt]
        clear hcnt
        clear hl9
        go_wp2_with fail
        refine (HPs.out _ (HL.out.below HX1.out)).mono ?_
        rintro e w2 ⟨rfl, hb⟩
        have HX2 := Aside0.mk (below_after (below_after HX1.out hb (Nat.le_refl _)) (bel1 w2 (.cells #[.int .i64 x.op, .int .i64 x.rd, .int .i64 x.a, .int .i64 x.b, .int .i64 x.n] 23)) (Nat.le_refl _))
        clear hb HX1 HPs
        have hs1 : (bytesB S).size ≤ 5000 := by rw [hsz]; exact HSl.out.1
        have hs2 : (bytesB od).size ≤ 40 := by rw [bytesB_size, hol]; exact g4
        have hso : (bytesB od).size = od.length := bytesB_size od
        have HCat := Aside0.mk (cat_odd S od)
        have f1 : (9223372036854775807 < (bytesB S).size + (bytesB od).size) = False := eq_false (by omega)
        have f2 : (9223372036854775807 < (bytesB S).size + (bytesB od).size + 1) = False := eq_false (by omega)
        clear hsz hso
        go_wp2_with fail
        rw [HCat.out]
        refine (HRd.out _ (HL.out.below HX2.out)).mono ?_
        rintro e w3 ⟨v, rfl, ho, hb⟩
        have HX3 := Aside0.mk (below_after HX2.out hb (Nat.le_refl _))
        have HO3 := Aside0.mk ho
        clear hb ho HX2 HRd f1 f2 hs1 hs2
        have hso : (bytesB od).size = od.length := bytesB_size od
        have hod9 : od.length ≤ 40 := by omega
        go_wp2_with fail
        go_loopg [13] od.length (fun gg s13 wr => ∃ kk : Nat, kk ≤ od.length ∧ od.length - kk ≤ gg ∧ s13 = .int .i64 kk ∧ Aside0 ((10 : UInt8) ∉ od.take kk) ∧ wr = w3)
        case atStart => exact ⟨0, by omega, by omega, rfl, ⟨by simp⟩, rfl⟩
        case round =>
          obtain ⟨kk, h1, h2, rfl, HNo, rfl⟩ := hrel
          by_cases hlt : kk < od.length
          · have hlt2 : decide ((kk : Int) < (od.length : Int)) = true := by simpa using hlt
            have hlt3 : kk < (bytesB od).size := by rw [hso]; exact hlt
            have HG : Aside0 ((bytesB od)[kk] = od[kk]!) := ⟨byteB_get od kk hlt3⟩
            have HStep : Aside0 (od.take (kk + 1) = od.take kk ++ [od[kk]!]) := ⟨by rw [List.take_succ_eq_append_getElem hlt, getElem!_pos od kk hlt]⟩
            by_cases h10 : od[kk]! = 10
            · have hb : (((bytesB od)[kk].toNat : Int) == 10) = true := by rw [HG.out]; exact (byte_is _).2 h10
              clear h10
              go_wp2_with fail
              refine (HX.out _ (HL.out.below HX3.out)).mono ?_
              rintro e w7 ⟨rfl, hb⟩
              have hfin := below_after HX3.out hb (Nat.le_refl _)
              go_wp2_with fail
              go_ret
              exact ⟨rfl, hfin⟩
            · have hb : (((bytesB od)[kk].toNat : Int) == 10) = false := by
                cases hbb : (((bytesB od)[kk].toNat : Int) == 10) with
                | false => rfl
                | true => exact absurd (by rw [← HG.out]; exact (byte_is _).1 hbb) h10
              have HNo2 : Aside0 ((10 : UInt8) ∉ od.take (kk + 1)) := ⟨by
                rw [HStep.out]
                simp only [List.mem_append, List.mem_cons, List.not_mem_nil, or_false, not_or]
                exact ⟨HNo.out, fun e => h10 e.symm⟩⟩
              clear h10
              go_wp2_with fail
              go_roundg (od.length - kk - 1)
              case measure => omega
              case rel => exact ⟨kk + 1, by omega, by omega, by go_num, HNo2, rfl⟩
          · have hlt2 : decide ((kk : Int) < (od.length : Int)) = false := by simpa using hlt
            have hno : (10 : UInt8) ∉ od := by
              have := HNo.out
              rwa [List.take_of_length_le (by omega)] at this
            have hcs := HOdd.out hno
            simp only [Prod.mk.injEq] at hcs
            clear hno HNo HOdd
            have HCS := Aside0.mk hcs
            clear hcs
            rcases HCS.out with ⟨⟨rfl, rfl⟩, rfl⟩ | ⟨⟨rfl, rfl⟩, rfl⟩
            · obtain ⟨A3, c3, rfl, hc3, hR3⟩ := HO3.out.reads
              have e4 : (P ++ [x]).length = k1 + 1 := by rw [List.length_append, HE.out]; rfl
              have HR3 : Aside0 (RowI wr A3 P) := ⟨by
                have := hR3.take k1
                rwa [List.take_left' HE.out] at this⟩
              have HSm := Aside0.mk (Same_any A3 A c3 c P P wr HR3.out (hA2.out.below HX3.out) (by have := HE.out; omega) (by have := HE.out; omega) (by have := HE.out; omega))
              rw [show decide (P = P) = true from by simp, HE.out] at HSm
              rw [e4] at hc3
              rw [e4]
              clear e4 hR3
              have g5 : (k1 : Int) ≤ (c3 : Int) := by omega
              go_wp2_with fail
              refine HSm.out.mono ?_
              rintro e w6 ⟨rfl, ⟨q, rfl⟩⟩
              have HX6 := Aside0.mk (pw_below_drewN HX3.out q)
              clear HSm
              go_wp2_with fail
              refine (HX.out _ (HL.out.below HX6.out)).mono ?_
              rintro e w7 ⟨rfl, hb⟩
              have hfin := below_after HX6.out hb (Nat.le_refl _)
              go_wp2_with fail
              go_ret
              exact ⟨rfl, hfin⟩
            · go_wp2_with fail
              refine (HX.out _ (HL.out.below HX3.out)).mono ?_
              rintro e w7 ⟨rfl, hb⟩
              have hfin := below_after HX3.out hb (Nat.le_refl _)
              go_wp2_with fail
              go_ret
              exact ⟨rfl, hfin⟩
end Go.Proofs.YtdgkbigmdadlaaaDoor
