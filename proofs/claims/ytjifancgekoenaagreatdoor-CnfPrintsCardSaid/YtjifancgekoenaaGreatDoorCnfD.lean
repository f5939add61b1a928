import Derived.Test.YtjifancgekoenaaGreatDoorCnfC
import Derived.Shelf.Strings.FieldsAny
namespace Go.Proofs.YtjifancgekoenaaGreatDoor
open Go.RowKit Go.Proofs.YtjifancgekoenaaGreatDoorW.PrintWords Go.Proofs.YtjifancgekoenaaGreatDoorW.PrintLast
set_option linter.unusedVariables false
set_option linter.unusedSimpArgs false

theorem infoI : (Tryz.prog.info? 3).map (fun i => (i.zero, i.size, i.bytes)) = some (some (.int .i64 0), 1, 8) := by kernel_rfl
theorem infoII : (Tryz.prog.info? 22).map (fun i => (i.zero, i.size, i.bytes)) = some (some (.slice none 0 0), 1, 24) := by kernel_rfl

/-- What strconv.Atoi tells of a text, its error aside. -/
def atoiV (l : List UInt8) : Int := match Lib.atoiAll l with
  | .ok v => v
  | .range => Lib.atoiSat l
  | _ => 0
theorem below_bytesWorld (w : World) (t : ByteArray) : Below w.heap.size w (Lib.bytesWorld w 5 t) := by
  unfold Lib.bytesWorld
  exact Lib.below_freeze ((below_drew (Below.refl _ _)).alloc (Nat.le_refl _) _) (Nat.le_refl _) _
theorem Atoi_any (l : List UInt8) (hl : l.length ≤ 1000000000) (w : World) (hL : Laid w) :
    Calls Tryz.prog 55 #[.string (bytesB l)] w fun e w' => (∃ ev, e = .returned (.tuple #[.int .i64 (atoiV l), ev])) ∧ Below w.heap.size w w' := by
  have hs : (bytesB l).size ≤ 1000000000 := by rw [bytesB_size]; exact hl
  have hd : (bytesB l).data.toList = l := rfl
  unfold atoiV
  rcases h : Lib.atoiAll l with v | _ | _
  · refine (Tryz.strconv_Atoi_ok (bytesB l) (by omega) v (by rw [hd]; exact h) w).mono ?_
    rintro e w' ⟨rfl, h2⟩
    refine ⟨⟨_, rfl⟩, ?_⟩
    rcases h2 with rfl | ⟨t, rfl⟩
    · exact Below.refl _ _
    · exact below_bytesWorld _ _
  · obtain ⟨t, p, hv⟩ := hL.syn
    refine (Tryz.strconv_Atoi_syntax (bytesB l) (by omega) (by rw [hd]; exact h) _ w hv (.inr ⟨_, _, rfl⟩)).mono ?_
    rintro e w' ⟨N, rfl, _, _, hb⟩
    exact ⟨⟨_, rfl⟩, hb⟩
  · obtain ⟨t, p, hv⟩ := hL.rng
    refine (Tryz.strconv_Atoi_range (bytesB l) (by omega) (by rw [hd]; exact h) _ w hv (.inr ⟨_, _, rfl⟩)).mono ?_
    rintro e w' ⟨N, rfl, _, _, hb⟩
    exact ⟨⟨_, rfl⟩, hb⟩

theorem fieldsGo_len (f : Nat) : ∀ cur l, (∀ x ∈ Lib.fieldsGoD f cur l, x.length ≤ cur.length + l.length) ∧ (Lib.fieldsGoD f cur l).length ≤ f + 1 := by
  induction f with
  | zero =>
    intro cur l
    unfold Lib.fieldsGoD
    split
    · simp
    · refine ⟨fun x hx => ?_, by simp⟩
      rw [List.mem_singleton.1 hx]; omega
  | succ f ih =>
    intro cur l
    unfold Lib.fieldsGoD
    split
    · split
      · simp
      · refine ⟨fun x hx => ?_, by simp⟩
        rw [List.mem_singleton.1 hx]; omega
    · split
      · obtain ⟨h1, h2⟩ := ih [] (l.drop (Lib.decodeL l).2)
        refine ⟨fun x hx => ?_, ?_⟩
        · rcases List.mem_append.1 hx with hx | hx
          · split at hx
            · cases hx
            · rw [List.mem_singleton.1 hx]; omega
          · have := h1 x hx
            simp only [List.length_nil, List.length_drop] at this
            omega
        · rw [List.length_append]
          split <;> simp only [List.length_nil, List.length_cons] <;> omega
      · obtain ⟨h1, h2⟩ := ih (cur ++ l.take (Lib.decodeL l).2) (l.drop (Lib.decodeL l).2)
        refine ⟨fun x hx => ?_, by omega⟩
        have := h1 x hx
        simp only [List.length_append, List.length_drop, List.length_take] at this
        omega
theorem fieldsD_len {l : List UInt8} : (∀ x ∈ Lib.fieldsD l, x.length ≤ l.length) ∧ (Lib.fieldsD l).length ≤ l.length + 2 := by
  obtain ⟨h1, h2⟩ := fieldsGo_len (l.length + 1) [] l
  exact ⟨fun x hx => by have := h1 x hx; simpa using this, by unfold Lib.fieldsD; omega⟩

/-- cnf.numbers -/
def numsV (l : List UInt8) : List Int := (Lib.fieldsD l).map atoiV

set_option maxHeartbeats 4000000 in
set_option maxRecDepth 100000 in
theorem numbers_any (l : List UInt8) (hl : l.length ≤ 1000000) (w : World) (hL : Laid w) :
    Calls Tryz.prog 33 #[.string (bytesB l)] w fun e w' => ∃ v, e = .returned v ∧ Kd.R kI 3 w' w.heap.size (fun _ => True) v (numsV l) ∧ Below w.heap.size w w' := by
  have HF := Tryz.strings_Fields_any (bytesB l) w (by rw [bytesB_size]; omega) hL.asp hL.white
  have hd : (bytesB l).data.toList = l := rfl
  rw [hd] at HF
  obtain ⟨hf1, hf2⟩ := fieldsD_len (l := l)
  obtain ⟨fs, hfs⟩ : ∃ fs, Lib.fieldsD l = fs := ⟨_, rfl⟩
  unfold numsV
  rw [hfs] at HF hf1 hf2 ⊢
  have HF1 : Aside0 (∀ x ∈ fs, x.length ≤ l.length) := ⟨hf1⟩
  have HL0 : Aside0 (Laid w) := ⟨hL⟩
  clear hf1 hd hfs hL
  obtain ⟨m, hm⟩ : ∃ m, fs.length = m := ⟨_, rfl⟩
  have HM : Aside0 (fs.length = m) := ⟨hm⟩
  rw [hm] at HF hf2
  clear hm
  go_enter Tryz.func33, Tryz.ntmps33
  go_wp2_with (go_at_call 54; refine HF.mono ?_; rintro e w' ⟨A, rfl, hA, hown, hb⟩)
  have HO : Aside0 (w'.ownsRow w.heap.size 9 1 (.slice (some ⟨A, 0, none⟩) m m) m (fs.map fun x => Value.string ⟨x.toArray⟩)) := ⟨hown⟩
  have HB : Aside0 (Below w.heap.size w w') := ⟨hb⟩
  have hsz := hb.size
  clear hown hb HF
  obtain ⟨W0, rfl⟩ : ∃ W0, W0 = w' := ⟨_, rfl⟩
  go_loopg [3, 11] m (fun gg s3 s11 wr => ∃ kk : Nat, kk ≤ m ∧ m - kk ≤ gg ∧ s11 = .int .i64 kk ∧ Aside0 (wr.ownsRow W0.heap.size 3 1 s3 kk (nums .i64 ((fs.take kk).map atoiV))) ∧ Aside0 (Below W0.heap.size W0 wr) ∧ W0.heap.size ≤ wr.heap.size)
  case atStart => exact ⟨0, Nat.zero_le _, by omega, rfl, ⟨own_nil _ _ _ _⟩, ⟨Below.refl _ _⟩, Nat.le_refl _⟩
  case round =>
    obtain ⟨kk, hkk, hg, rfl, HO3, HBr, hsr⟩ := hrel
    by_cases hlt : kk < m
    · have hltz : (kk : Int) < (m : Int) := by omega
      have hlen := HM.out
      have hcell : wr.cell? ⟨A, kk, none⟩ = some (.string (bytesB fs[kk]!)) := by
        have h1 := (pw_own_below HO.out HBr.out).cells (g := A) rfl kk (.string (bytesB fs[kk]!)) (by
          rw [List.getElem?_map, List.getElem?_eq_getElem (by omega), getElem!_pos fs kk (by omega)]; rfl)
        rwa [add_plain] at h1
      have hxl := HF1.out fs[kk]! (by rw [getElem!_pos fs kk (by omega)]; exact List.getElem_mem _)
      have HS : Aside0 ((fs.take (kk + 1)).map atoiV = (fs.take kk).map atoiV ++ [atoiV fs[kk]!]) := ⟨by
        rw [List.take_succ_eq_append_getElem (by omega), List.map_append, getElem!_pos fs kk (by omega)]; rfl⟩
      have hkl : ((fs.take kk).map atoiV).length = kk := by rw [List.length_map, List.length_take]; omega
      have HK : Aside0 (((fs.take kk).map atoiV).length = kk) := ⟨hkl⟩
      generalize fs[kk]! = x at *
      have HA := fun W (hL : Laid W) => Atoi_any x (by omega) W hL
      have HAA : Aside0 (∀ W, Laid W → Calls Tryz.prog 55 #[.string (bytesB x)] W fun e w' => (∃ ev, e = .returned (.tuple #[.int .i64 (atoiV x), ev])) ∧ Below W.heap.size W w') := ⟨HA⟩
      clear hlen hkl HA
      generalize (fs.take kk).map atoiV = acc at *
      generalize bytesB x = xb at *
      generalize atoiV x = xv at *
      go_wp2_with fail
      refine (HAA.out _ (HL0.out.below (HB.out.trans (HBr.out.mono hsz)))).mono ?_
      rintro e w1 ⟨⟨ev, rfl⟩, hb1⟩
      have HB1 : Aside0 (Below wr.heap.size wr w1) := ⟨hb1⟩
      have hs1 := hb1.size
      clear hb1
      go_wp2_with (at_builtin; refine print_append_num (w0 := W0) W0.heap.size rfl (.tmp 20) (.tmp 22) 22 3 .i64 8 rfl Tryz.underlying22 infoI (by decide) u3 acc xv rfl rfl ?aO ?aB ?aS ?aL ?_)
      case aO => rw [HK.out]; exact pw_own_below HO3.out HB1.out
      case aB => exact below_then HBr.out hsr HB1.out
      case aS => omega
      case aL => rw [HK.out]; omega
      intro v1 w2 ho hb2 hg2 _
      have HO2 : Aside0 (w2.ownsRow W0.heap.size 3 1 v1 (kk + 1) (nums .i64 ((fs.take (kk + 1)).map atoiV))) := ⟨by
        have h1 := HK.out
        have h2 : (acc ++ [xv]).length = kk + 1 := by rw [List.length_append, h1]; rfl
        rw [HS.out, ← h2]
        simpa using ho⟩
      have HB2 : Aside0 (Below W0.heap.size W0 w2) := ⟨hb2⟩
      have hs2 : W0.heap.size ≤ w2.heap.size := hb2.size
      clear ho hb2 hg2
      go_wp2
      go_roundg (m - (kk + 1))
      case measure => omega
      case rel => exact ⟨kk + 1, by omega, by omega, by go_num, HO2, HB2, hs2⟩
    · have hltz : ¬ (kk : Int) < (m : Int) := by omega
      obtain rfl : kk = m := by omega
      have HE : Aside0 (wr.ownsRow w.heap.size 3 1 u3 kk (nums .i64 (fs.map atoiV))) := ⟨by
        have h1 := HO3.out
        have h2 := HM.out
        rw [List.take_of_length_le (by omega)] at h1
        exact own_weaken h1 hsz⟩
      clear HO3
      go_wp2
      go_ret
      refine ⟨u3, rfl, Kd.R_of_own (h1 := fun _ => rfl) ?_ (fun _ _ => trivial), HB.out.trans (HBr.out.mono hsz)⟩
      rw [List.length_map, HM.out]; exact HE.out
end Go.Proofs.YtjifancgekoenaaGreatDoor
