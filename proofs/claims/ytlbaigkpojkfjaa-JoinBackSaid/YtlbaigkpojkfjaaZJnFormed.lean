/- The walk of tuple.Formed. -/
import Derived.Test.YtlbaigkpojkfjaaK14
set_option linter.unusedVariables false
namespace Go.Proofs.Ytlbaigkpojkfjaa.Fl
open Go.RowKit

@[go_sem] theorem idx_ord0 (o0 o1 o2 o3 o4 : Int) (w : World) : (Instr.index 48 (.agg #[.int .i64 o0, .int .i64 o1, .int .i64 o2, .int .i64 o3, .int .i64 o4]) (.int .i64 0)).run Try.prog w = .ok (.int .i64 o0) w := by kernel_rfl
@[go_sem] theorem idx_ord1 (o0 o1 o2 o3 o4 : Int) (w : World) : (Instr.index 48 (.agg #[.int .i64 o0, .int .i64 o1, .int .i64 o2, .int .i64 o3, .int .i64 o4]) (.int .i64 1)).run Try.prog w = .ok (.int .i64 o1) w := by kernel_rfl
@[go_sem] theorem idx_ord2 (o0 o1 o2 o3 o4 : Int) (w : World) : (Instr.index 48 (.agg #[.int .i64 o0, .int .i64 o1, .int .i64 o2, .int .i64 o3, .int .i64 o4]) (.int .i64 2)).run Try.prog w = .ok (.int .i64 o2) w := by kernel_rfl
@[go_sem] theorem idx_ord3 (o0 o1 o2 o3 o4 : Int) (w : World) : (Instr.index 48 (.agg #[.int .i64 o0, .int .i64 o1, .int .i64 o2, .int .i64 o3, .int .i64 o4]) (.int .i64 3)).run Try.prog w = .ok (.int .i64 o3) w := by kernel_rfl
@[go_sem] theorem idx_ord4 (o0 o1 o2 o3 o4 : Int) (w : World) : (Instr.index 48 (.agg #[.int .i64 o0, .int .i64 o1, .int .i64 o2, .int .i64 o3, .int .i64 o4]) (.int .i64 4)).run Try.prog w = .ok (.int .i64 o4) w := by kernel_rfl
/-- As tuple.Formed goes: whether a 0 was met, which columns were met, what is left. -/
def fgo : Bool → List Bool → List Int → Bool
  | _, _, [] => true
  | ov, sn, k :: ks => if (ov = true ∧ k ≠ 0) ∨ k < -5 ∨ 5 < k then false else if k = 0 then fgo true sn ks else if sn.getD k.natAbs false = true then false else fgo ov (sn.set k.natAbs true) ks
def formedO (o : List Int) : Bool := fgo false [false, false, false, false, false, false] o
def bcells (sn : List Bool) : Array Value := (sn.map Value.bool).toArray
theorem bcells_set (sn : List Bool) (m : Nat) (b : Bool) : bcells (sn.set m b) = (bcells sn).setIfInBounds m (.bool b) := by
  unfold bcells
  rw [List.map_set]
  simp
def FormLoop (o : List Int) (w : World) (sb : Nat) (ov iv : Value) (wr : World) : Prop :=
  ∃ (i : Nat) (b : Bool) (sn : List Bool), iv = .int .i64 (i : Int) ∧ ov = .bool b ∧ i ≤ 5 ∧ sn.length = 6 ∧ fgo b sn (o.drop i) = formedO o ∧ Blk wr sb 129 (bcells sn) ∧ Below w.heap.size w wr

set_option maxRecDepth 100000 in
set_option maxHeartbeats 4000000 in
theorem formed_any (o0 o1 o2 o3 o4 : Int) (w : World) : Calls Try.prog 44 #[.agg #[.int .i64 o0, .int .i64 o1, .int .i64 o2, .int .i64 o3, .int .i64 o4]] w (fun e w' => e = .returned (.bool (formedO [o0, o1, o2, o3, o4])) ∧ Below w.heap.size w w') := by
  go_enter Try.func44, Try.ntmps44
  go_wp2_with fail
  have hS := Blk.new (w.alloc (.cells #[.int .i64 o0, .int .i64 o1, .int .i64 o2, .int .i64 o3, .int .i64 o4] 48)) 129 #[.bool false, .bool false, .bool false, .bool false, .bool false, .bool false]
  rw [show (w.alloc (.cells #[.int .i64 o0, .int .i64 o1, .int .i64 o2, .int .i64 o3, .int .i64 o4] 48)).heap.size = w.heap.size + 1 from by simp] at hS
  have hbl : Below w.heap.size w ((w.alloc (.cells #[.int .i64 o0, .int .i64 o1, .int .i64 o2, .int .i64 o3, .int .i64 o4] 48)).alloc (.cells #[.bool false, .bool false, .bool false, .bool false, .bool false, .bool false] 129)) := ((Below.refl _ _).alloc (Nat.le_refl _) _).alloc (by simp) _
  generalize ((w.alloc (.cells #[.int .i64 o0, .int .i64 o1, .int .i64 o2, .int .i64 o3, .int .i64 o4] 48)).alloc (.cells #[.bool false, .bool false, .bool false, .bool false, .bool false, .bool false] 129)) = w1 at *
  go_loopw [4, 8] (fun ov iv wr => FormLoop [o0, o1, o2, o3, o4] w (w.heap.size + 1) ov iv wr) (fun _ iv _ => 5 - (intOf iv).toNat)
  case atStart => exact ⟨0, false, _, rfl, rfl, by omega, rfl, rfl, hS, hbl⟩
  case round =>
    obtain ⟨i, b, sn, rfl, rfl, hi, hsn, hf, hB, hbw⟩ := hrel
    have HSN := Lib.hid hsn
    have HB := Lib.hid hB
    have HBW := Lib.hid hbw
    clear hsn hB hbw hS hbl
    obtain rfl | rfl | rfl | rfl | rfl | rfl : i = 0 ∨ i = 1 ∨ i = 2 ∨ i = 3 ∨ i = 4 ∨ i = 5 := by omega
    · have hd : ([o0, o1, o2, o3, o4] : List Int).drop 0 = o0 :: ([o0, o1, o2, o3, o4] : List Int).drop 1 := rfl
      rw [hd] at hf
      have HF := Lib.hid hf
      clear hf hd
      rw [show ((0 : Nat) : Int) = 0 from rfl]
      by_cases hbad : (b = true ∧ o0 ≠ 0) ∨ o0 < -5 ∨ 5 < o0
      · have hfin : formedO [o0, o1, o2, o3, o4] = false := by
          rw [← HF.out]; unfold fgo; rw [if_pos hbad]
        have HFIN := Lib.hid hfin
        clear hfin HF
        have key : ∀ b' : Bool, b' = b → b = b' := fun _ h => h.symm
        by_cases ho : b = true ∧ o0 ≠ 0
        · obtain ⟨rfl, hz⟩ := ho
          clear hbad key
          go_wp2_with fail
          go_ret
          exact ⟨by rw [HFIN.out]; rfl, HBW.out⟩
        · by_cases hlo : o0 < -5
          · have hz : o0 ≠ 0 := by omega
            have hb : b = false := by
              cases b with
              | false => rfl
              | true => exact absurd ⟨rfl, hz⟩ ho
            subst hb
            clear hbad key ho
            go_wp2_with fail
            go_ret
            exact ⟨by rw [HFIN.out]; rfl, HBW.out⟩
          · have hhi : 5 < o0 := by rcases hbad with h | h | h; exact absurd h ho; exact absurd h hlo; exact h
            have hz : o0 ≠ 0 := by omega
            have hb : b = false := by
              cases b with
              | false => rfl
              | true => exact absurd ⟨rfl, hz⟩ ho
            subst hb
            clear hbad key ho
            go_wp2_with fail
            go_ret
            exact ⟨by rw [HFIN.out]; rfl, HBW.out⟩
      · by_cases hz : o0 = 0
        · subst hz
          clear hbad
          cases b
          all_goals
            go_wp2_with fail
            exact ⟨⟨1, true, sn, rfl, rfl, by omega, HSN.out, (by rw [← HF.out]; (conv => rhs; unfold fgo); simp; try rfl), HB.out, HBW.out⟩, by simp [intOf]⟩
        · have hb : b = false := by
            cases b with
            | false => rfl
            | true => exact absurd (.inl ⟨rfl, hz⟩) hbad
          subst hb
          by_cases hp : 0 < o0
          · obtain ⟨m, rfl⟩ := Int.eq_ofNat_of_zero_le (show 0 ≤ o0 by omega)
            have m1 : 1 ≤ m := by omega
            have m5 : m ≤ 5 := by omega
            obtain ⟨sm, hsm⟩ : ∃ sm, sm = sn.getD m false := ⟨_, rfl⟩
            have c0 : wr.cell? ⟨w.heap.size + 1, m, none⟩ = some (.bool sm) := by
              rw [HB.out.cell]
              have hl := HSN.out
              simp [bcells, hsm, List.getD_eq_getElem?_getD, show m < sn.length by omega]
            have f0 := HB.out.frozen m
            have hstep : fgo false sn ((m : Int) :: ([(m : Int), o1, o2, o3, o4] : List Int).drop 1) = if sm = true then false else fgo false (sn.set m true) (([(m : Int), o1, o2, o3, o4] : List Int).drop 1) := by
              conv => lhs; unfold fgo
              rw [if_neg (by rintro (⟨h, _⟩ | h | h); exact Bool.noConfusion h; omega; omega), if_neg (by omega), hsm]
              simp
            have k1 : ¬ (m : Int) < -(m : Int) := by omega
            have k2 : (0 : Int) ≤ (m : Int) := by omega
            have k3 : (m : Int) < 6 := by omega
            have k4 : ¬ (m : Int) < -5 := by omega
            have k5 : ¬ (5 : Int) < (m : Int) := by omega
            have k6 : ((m : Int) == 0) = false := by simp; omega
            have k7 : IntKind.i64.wrap (-(m : Int)) = -(m : Int) := by rw [IntKind.wrap_i64]; omega
            have HST := Lib.hid hstep
            clear hbad hz hp hstep hsm
            cases sm with
            | true =>
              have hfin : formedO [(m : Int), o1, o2, o3, o4] = false := by rw [← HF.out, HST.out]; rfl
              have HFIN := Lib.hid hfin
              clear hfin
              go_wp2_with fail
              go_ret
              exact ⟨by rw [HFIN.out]; rfl, HBW.out⟩
            | false =>
              have hfin : fgo false (sn.set m true) (([(m : Int), o1, o2, o3, o4] : List Int).drop 1) = formedO [(m : Int), o1, o2, o3, o4] := by rw [← HF.out, HST.out]; rfl
              have HFIN := Lib.hid hfin
              clear hfin
              go_wp2_with fail
              exact ⟨⟨1, false, sn.set m true, rfl, rfl, by omega, by rw [List.length_set]; exact HSN.out, HFIN.out, by rw [bcells_set]; exact HB.out.set_ m (.bool true), HBW.out.setCell (show w.heap.size ≤ w.heap.size + 1 by omega) _⟩, by simp [intOf]⟩
          · obtain ⟨m, rfl⟩ : ∃ m : Nat, o0 = -(m : Int) := ⟨o0.natAbs, by omega⟩
            have m1 : 1 ≤ m := by omega
            have m5 : m ≤ 5 := by omega
            obtain ⟨sm, hsm⟩ : ∃ sm, sm = sn.getD m false := ⟨_, rfl⟩
            have c0 : wr.cell? ⟨w.heap.size + 1, m, none⟩ = some (.bool sm) := by
              rw [HB.out.cell]
              have hl := HSN.out
              simp [bcells, hsm, List.getD_eq_getElem?_getD, show m < sn.length by omega]
            have f0 := HB.out.frozen m
            have hstep : fgo false sn ((-(m : Int)) :: ([(-(m : Int)), o1, o2, o3, o4] : List Int).drop 1) = if sm = true then false else fgo false (sn.set m true) (([(-(m : Int)), o1, o2, o3, o4] : List Int).drop 1) := by
              conv => lhs; unfold fgo
              rw [if_neg (by rintro (⟨h, _⟩ | h | h); exact Bool.noConfusion h; omega; omega), if_neg (by omega), hsm]
              simp
            have k1 : -(m : Int) < (m : Int) := by omega
            have k2 : (0 : Int) ≤ (m : Int) := by omega
            have k3 : (m : Int) < 6 := by omega
            have k4 : ¬ -(m : Int) < -5 := by omega
            have k5 : ¬ (5 : Int) < -(m : Int) := by omega
            have k6 : (-(m : Int) == 0) = false := by simp; omega
            have k6' : ((m : Int) == 0) = false := by simp; omega
            have k7 : IntKind.i64.wrap (m : Int) = (m : Int) := by rw [IntKind.wrap_i64]; omega
            have HST := Lib.hid hstep
            clear hbad hz hp hstep hsm
            cases sm with
            | true =>
              have hfin : formedO [(-(m : Int)), o1, o2, o3, o4] = false := by rw [← HF.out, HST.out]; rfl
              have HFIN := Lib.hid hfin
              clear hfin
              go_wp2_with fail
              go_ret
              exact ⟨by rw [HFIN.out]; rfl, HBW.out⟩
            | false =>
              have hfin : fgo false (sn.set m true) (([(-(m : Int)), o1, o2, o3, o4] : List Int).drop 1) = formedO [(-(m : Int)), o1, o2, o3, o4] := by rw [← HF.out, HST.out]; rfl
              have HFIN := Lib.hid hfin
              clear hfin
              go_wp2_with fail
              exact ⟨⟨1, false, sn.set m true, rfl, rfl, by omega, by rw [List.length_set]; exact HSN.out, HFIN.out, by rw [bcells_set]; exact HB.out.set_ m (.bool true), HBW.out.setCell (show w.heap.size ≤ w.heap.size + 1 by omega) _⟩, by simp [intOf]⟩
    · have hd : ([o0, o1, o2, o3, o4] : List Int).drop 1 = o1 :: ([o0, o1, o2, o3, o4] : List Int).drop 2 := rfl
      rw [hd] at hf
      have HF := Lib.hid hf
      clear hf hd
      rw [show ((1 : Nat) : Int) = 1 from rfl]
      by_cases hbad : (b = true ∧ o1 ≠ 0) ∨ o1 < -5 ∨ 5 < o1
      · have hfin : formedO [o0, o1, o2, o3, o4] = false := by
          rw [← HF.out]; unfold fgo; rw [if_pos hbad]
        have HFIN := Lib.hid hfin
        clear hfin HF
        have key : ∀ b' : Bool, b' = b → b = b' := fun _ h => h.symm
        by_cases ho : b = true ∧ o1 ≠ 0
        · obtain ⟨rfl, hz⟩ := ho
          clear hbad key
          go_wp2_with fail
          go_ret
          exact ⟨by rw [HFIN.out]; rfl, HBW.out⟩
        · by_cases hlo : o1 < -5
          · have hz : o1 ≠ 0 := by omega
            have hb : b = false := by
              cases b with
              | false => rfl
              | true => exact absurd ⟨rfl, hz⟩ ho
            subst hb
            clear hbad key ho
            go_wp2_with fail
            go_ret
            exact ⟨by rw [HFIN.out]; rfl, HBW.out⟩
          · have hhi : 5 < o1 := by rcases hbad with h | h | h; exact absurd h ho; exact absurd h hlo; exact h
            have hz : o1 ≠ 0 := by omega
            have hb : b = false := by
              cases b with
              | false => rfl
              | true => exact absurd ⟨rfl, hz⟩ ho
            subst hb
            clear hbad key ho
            go_wp2_with fail
            go_ret
            exact ⟨by rw [HFIN.out]; rfl, HBW.out⟩
      · by_cases hz : o1 = 0
        · subst hz
          clear hbad
          cases b
          all_goals
            go_wp2_with fail
            exact ⟨⟨2, true, sn, rfl, rfl, by omega, HSN.out, (by rw [← HF.out]; (conv => rhs; unfold fgo); simp; try rfl), HB.out, HBW.out⟩, by simp [intOf]⟩
        · have hb : b = false := by
            cases b with
            | false => rfl
            | true => exact absurd (.inl ⟨rfl, hz⟩) hbad
          subst hb
          by_cases hp : 0 < o1
          · obtain ⟨m, rfl⟩ := Int.eq_ofNat_of_zero_le (show 0 ≤ o1 by omega)
            have m1 : 1 ≤ m := by omega
            have m5 : m ≤ 5 := by omega
            obtain ⟨sm, hsm⟩ : ∃ sm, sm = sn.getD m false := ⟨_, rfl⟩
            have c0 : wr.cell? ⟨w.heap.size + 1, m, none⟩ = some (.bool sm) := by
              rw [HB.out.cell]
              have hl := HSN.out
              simp [bcells, hsm, List.getD_eq_getElem?_getD, show m < sn.length by omega]
            have f0 := HB.out.frozen m
            have hstep : fgo false sn ((m : Int) :: ([o0, (m : Int), o2, o3, o4] : List Int).drop 2) = if sm = true then false else fgo false (sn.set m true) (([o0, (m : Int), o2, o3, o4] : List Int).drop 2) := by
              conv => lhs; unfold fgo
              rw [if_neg (by rintro (⟨h, _⟩ | h | h); exact Bool.noConfusion h; omega; omega), if_neg (by omega), hsm]
              simp
            have k1 : ¬ (m : Int) < -(m : Int) := by omega
            have k2 : (0 : Int) ≤ (m : Int) := by omega
            have k3 : (m : Int) < 6 := by omega
            have k4 : ¬ (m : Int) < -5 := by omega
            have k5 : ¬ (5 : Int) < (m : Int) := by omega
            have k6 : ((m : Int) == 0) = false := by simp; omega
            have k7 : IntKind.i64.wrap (-(m : Int)) = -(m : Int) := by rw [IntKind.wrap_i64]; omega
            have HST := Lib.hid hstep
            clear hbad hz hp hstep hsm
            cases sm with
            | true =>
              have hfin : formedO [o0, (m : Int), o2, o3, o4] = false := by rw [← HF.out, HST.out]; rfl
              have HFIN := Lib.hid hfin
              clear hfin
              go_wp2_with fail
              go_ret
              exact ⟨by rw [HFIN.out]; rfl, HBW.out⟩
            | false =>
              have hfin : fgo false (sn.set m true) (([o0, (m : Int), o2, o3, o4] : List Int).drop 2) = formedO [o0, (m : Int), o2, o3, o4] := by rw [← HF.out, HST.out]; rfl
              have HFIN := Lib.hid hfin
              clear hfin
              go_wp2_with fail
              exact ⟨⟨2, false, sn.set m true, rfl, rfl, by omega, by rw [List.length_set]; exact HSN.out, HFIN.out, by rw [bcells_set]; exact HB.out.set_ m (.bool true), HBW.out.setCell (show w.heap.size ≤ w.heap.size + 1 by omega) _⟩, by simp [intOf]⟩
          · obtain ⟨m, rfl⟩ : ∃ m : Nat, o1 = -(m : Int) := ⟨o1.natAbs, by omega⟩
            have m1 : 1 ≤ m := by omega
            have m5 : m ≤ 5 := by omega
            obtain ⟨sm, hsm⟩ : ∃ sm, sm = sn.getD m false := ⟨_, rfl⟩
            have c0 : wr.cell? ⟨w.heap.size + 1, m, none⟩ = some (.bool sm) := by
              rw [HB.out.cell]
              have hl := HSN.out
              simp [bcells, hsm, List.getD_eq_getElem?_getD, show m < sn.length by omega]
            have f0 := HB.out.frozen m
            have hstep : fgo false sn ((-(m : Int)) :: ([o0, (-(m : Int)), o2, o3, o4] : List Int).drop 2) = if sm = true then false else fgo false (sn.set m true) (([o0, (-(m : Int)), o2, o3, o4] : List Int).drop 2) := by
              conv => lhs; unfold fgo
              rw [if_neg (by rintro (⟨h, _⟩ | h | h); exact Bool.noConfusion h; omega; omega), if_neg (by omega), hsm]
              simp
            have k1 : -(m : Int) < (m : Int) := by omega
            have k2 : (0 : Int) ≤ (m : Int) := by omega
            have k3 : (m : Int) < 6 := by omega
            have k4 : ¬ -(m : Int) < -5 := by omega
            have k5 : ¬ (5 : Int) < -(m : Int) := by omega
            have k6 : (-(m : Int) == 0) = false := by simp; omega
            have k6' : ((m : Int) == 0) = false := by simp; omega
            have k7 : IntKind.i64.wrap (m : Int) = (m : Int) := by rw [IntKind.wrap_i64]; omega
            have HST := Lib.hid hstep
            clear hbad hz hp hstep hsm
            cases sm with
            | true =>
              have hfin : formedO [o0, (-(m : Int)), o2, o3, o4] = false := by rw [← HF.out, HST.out]; rfl
              have HFIN := Lib.hid hfin
              clear hfin
              go_wp2_with fail
              go_ret
              exact ⟨by rw [HFIN.out]; rfl, HBW.out⟩
            | false =>
              have hfin : fgo false (sn.set m true) (([o0, (-(m : Int)), o2, o3, o4] : List Int).drop 2) = formedO [o0, (-(m : Int)), o2, o3, o4] := by rw [← HF.out, HST.out]; rfl
              have HFIN := Lib.hid hfin
              clear hfin
              go_wp2_with fail
              exact ⟨⟨2, false, sn.set m true, rfl, rfl, by omega, by rw [List.length_set]; exact HSN.out, HFIN.out, by rw [bcells_set]; exact HB.out.set_ m (.bool true), HBW.out.setCell (show w.heap.size ≤ w.heap.size + 1 by omega) _⟩, by simp [intOf]⟩
    · have hd : ([o0, o1, o2, o3, o4] : List Int).drop 2 = o2 :: ([o0, o1, o2, o3, o4] : List Int).drop 3 := rfl
      rw [hd] at hf
      have HF := Lib.hid hf
      clear hf hd
      rw [show ((2 : Nat) : Int) = 2 from rfl]
      by_cases hbad : (b = true ∧ o2 ≠ 0) ∨ o2 < -5 ∨ 5 < o2
      · have hfin : formedO [o0, o1, o2, o3, o4] = false := by
          rw [← HF.out]; unfold fgo; rw [if_pos hbad]
        have HFIN := Lib.hid hfin
        clear hfin HF
        have key : ∀ b' : Bool, b' = b → b = b' := fun _ h => h.symm
        by_cases ho : b = true ∧ o2 ≠ 0
        · obtain ⟨rfl, hz⟩ := ho
          clear hbad key
          go_wp2_with fail
          go_ret
          exact ⟨by rw [HFIN.out]; rfl, HBW.out⟩
        · by_cases hlo : o2 < -5
          · have hz : o2 ≠ 0 := by omega
            have hb : b = false := by
              cases b with
              | false => rfl
              | true => exact absurd ⟨rfl, hz⟩ ho
            subst hb
            clear hbad key ho
            go_wp2_with fail
            go_ret
            exact ⟨by rw [HFIN.out]; rfl, HBW.out⟩
          · have hhi : 5 < o2 := by rcases hbad with h | h | h; exact absurd h ho; exact absurd h hlo; exact h
            have hz : o2 ≠ 0 := by omega
            have hb : b = false := by
              cases b with
              | false => rfl
              | true => exact absurd ⟨rfl, hz⟩ ho
            subst hb
            clear hbad key ho
            go_wp2_with fail
            go_ret
            exact ⟨by rw [HFIN.out]; rfl, HBW.out⟩
      · by_cases hz : o2 = 0
        · subst hz
          clear hbad
          cases b
          all_goals
            go_wp2_with fail
            exact ⟨⟨3, true, sn, rfl, rfl, by omega, HSN.out, (by rw [← HF.out]; (conv => rhs; unfold fgo); simp; try rfl), HB.out, HBW.out⟩, by simp [intOf]⟩
        · have hb : b = false := by
            cases b with
            | false => rfl
            | true => exact absurd (.inl ⟨rfl, hz⟩) hbad
          subst hb
          by_cases hp : 0 < o2
          · obtain ⟨m, rfl⟩ := Int.eq_ofNat_of_zero_le (show 0 ≤ o2 by omega)
            have m1 : 1 ≤ m := by omega
            have m5 : m ≤ 5 := by omega
            obtain ⟨sm, hsm⟩ : ∃ sm, sm = sn.getD m false := ⟨_, rfl⟩
            have c0 : wr.cell? ⟨w.heap.size + 1, m, none⟩ = some (.bool sm) := by
              rw [HB.out.cell]
              have hl := HSN.out
              simp [bcells, hsm, List.getD_eq_getElem?_getD, show m < sn.length by omega]
            have f0 := HB.out.frozen m
            have hstep : fgo false sn ((m : Int) :: ([o0, o1, (m : Int), o3, o4] : List Int).drop 3) = if sm = true then false else fgo false (sn.set m true) (([o0, o1, (m : Int), o3, o4] : List Int).drop 3) := by
              conv => lhs; unfold fgo
              rw [if_neg (by rintro (⟨h, _⟩ | h | h); exact Bool.noConfusion h; omega; omega), if_neg (by omega), hsm]
              simp
            have k1 : ¬ (m : Int) < -(m : Int) := by omega
            have k2 : (0 : Int) ≤ (m : Int) := by omega
            have k3 : (m : Int) < 6 := by omega
            have k4 : ¬ (m : Int) < -5 := by omega
            have k5 : ¬ (5 : Int) < (m : Int) := by omega
            have k6 : ((m : Int) == 0) = false := by simp; omega
            have k7 : IntKind.i64.wrap (-(m : Int)) = -(m : Int) := by rw [IntKind.wrap_i64]; omega
            have HST := Lib.hid hstep
            clear hbad hz hp hstep hsm
            cases sm with
            | true =>
              have hfin : formedO [o0, o1, (m : Int), o3, o4] = false := by rw [← HF.out, HST.out]; rfl
              have HFIN := Lib.hid hfin
              clear hfin
              go_wp2_with fail
              go_ret
              exact ⟨by rw [HFIN.out]; rfl, HBW.out⟩
            | false =>
              have hfin : fgo false (sn.set m true) (([o0, o1, (m : Int), o3, o4] : List Int).drop 3) = formedO [o0, o1, (m : Int), o3, o4] := by rw [← HF.out, HST.out]; rfl
              have HFIN := Lib.hid hfin
              clear hfin
              go_wp2_with fail
              exact ⟨⟨3, false, sn.set m true, rfl, rfl, by omega, by rw [List.length_set]; exact HSN.out, HFIN.out, by rw [bcells_set]; exact HB.out.set_ m (.bool true), HBW.out.setCell (show w.heap.size ≤ w.heap.size + 1 by omega) _⟩, by simp [intOf]⟩
          · obtain ⟨m, rfl⟩ : ∃ m : Nat, o2 = -(m : Int) := ⟨o2.natAbs, by omega⟩
            have m1 : 1 ≤ m := by omega
            have m5 : m ≤ 5 := by omega
            obtain ⟨sm, hsm⟩ : ∃ sm, sm = sn.getD m false := ⟨_, rfl⟩
            have c0 : wr.cell? ⟨w.heap.size + 1, m, none⟩ = some (.bool sm) := by
              rw [HB.out.cell]
              have hl := HSN.out
              simp [bcells, hsm, List.getD_eq_getElem?_getD, show m < sn.length by omega]
            have f0 := HB.out.frozen m
            have hstep : fgo false sn ((-(m : Int)) :: ([o0, o1, (-(m : Int)), o3, o4] : List Int).drop 3) = if sm = true then false else fgo false (sn.set m true) (([o0, o1, (-(m : Int)), o3, o4] : List Int).drop 3) := by
              conv => lhs; unfold fgo
              rw [if_neg (by rintro (⟨h, _⟩ | h | h); exact Bool.noConfusion h; omega; omega), if_neg (by omega), hsm]
              simp
            have k1 : -(m : Int) < (m : Int) := by omega
            have k2 : (0 : Int) ≤ (m : Int) := by omega
            have k3 : (m : Int) < 6 := by omega
            have k4 : ¬ -(m : Int) < -5 := by omega
            have k5 : ¬ (5 : Int) < -(m : Int) := by omega
            have k6 : (-(m : Int) == 0) = false := by simp; omega
            have k6' : ((m : Int) == 0) = false := by simp; omega
            have k7 : IntKind.i64.wrap (m : Int) = (m : Int) := by rw [IntKind.wrap_i64]; omega
            have HST := Lib.hid hstep
            clear hbad hz hp hstep hsm
            cases sm with
            | true =>
              have hfin : formedO [o0, o1, (-(m : Int)), o3, o4] = false := by rw [← HF.out, HST.out]; rfl
              have HFIN := Lib.hid hfin
              clear hfin
              go_wp2_with fail
              go_ret
              exact ⟨by rw [HFIN.out]; rfl, HBW.out⟩
            | false =>
              have hfin : fgo false (sn.set m true) (([o0, o1, (-(m : Int)), o3, o4] : List Int).drop 3) = formedO [o0, o1, (-(m : Int)), o3, o4] := by rw [← HF.out, HST.out]; rfl
              have HFIN := Lib.hid hfin
              clear hfin
              go_wp2_with fail
              exact ⟨⟨3, false, sn.set m true, rfl, rfl, by omega, by rw [List.length_set]; exact HSN.out, HFIN.out, by rw [bcells_set]; exact HB.out.set_ m (.bool true), HBW.out.setCell (show w.heap.size ≤ w.heap.size + 1 by omega) _⟩, by simp [intOf]⟩
    · have hd : ([o0, o1, o2, o3, o4] : List Int).drop 3 = o3 :: ([o0, o1, o2, o3, o4] : List Int).drop 4 := rfl
      rw [hd] at hf
      have HF := Lib.hid hf
      clear hf hd
      rw [show ((3 : Nat) : Int) = 3 from rfl]
      by_cases hbad : (b = true ∧ o3 ≠ 0) ∨ o3 < -5 ∨ 5 < o3
      · have hfin : formedO [o0, o1, o2, o3, o4] = false := by
          rw [← HF.out]; unfold fgo; rw [if_pos hbad]
        have HFIN := Lib.hid hfin
        clear hfin HF
        have key : ∀ b' : Bool, b' = b → b = b' := fun _ h => h.symm
        by_cases ho : b = true ∧ o3 ≠ 0
        · obtain ⟨rfl, hz⟩ := ho
          clear hbad key
          go_wp2_with fail
          go_ret
          exact ⟨by rw [HFIN.out]; rfl, HBW.out⟩
        · by_cases hlo : o3 < -5
          · have hz : o3 ≠ 0 := by omega
            have hb : b = false := by
              cases b with
              | false => rfl
              | true => exact absurd ⟨rfl, hz⟩ ho
            subst hb
            clear hbad key ho
            go_wp2_with fail
            go_ret
            exact ⟨by rw [HFIN.out]; rfl, HBW.out⟩
          · have hhi : 5 < o3 := by rcases hbad with h | h | h; exact absurd h ho; exact absurd h hlo; exact h
            have hz : o3 ≠ 0 := by omega
            have hb : b = false := by
              cases b with
              | false => rfl
              | true => exact absurd ⟨rfl, hz⟩ ho
            subst hb
            clear hbad key ho
            go_wp2_with fail
            go_ret
            exact ⟨by rw [HFIN.out]; rfl, HBW.out⟩
      · by_cases hz : o3 = 0
        · subst hz
          clear hbad
          cases b
          all_goals
            go_wp2_with fail
            exact ⟨⟨4, true, sn, rfl, rfl, by omega, HSN.out, (by rw [← HF.out]; (conv => rhs; unfold fgo); simp; try rfl), HB.out, HBW.out⟩, by simp [intOf]⟩
        · have hb : b = false := by
            cases b with
            | false => rfl
            | true => exact absurd (.inl ⟨rfl, hz⟩) hbad
          subst hb
          by_cases hp : 0 < o3
          · obtain ⟨m, rfl⟩ := Int.eq_ofNat_of_zero_le (show 0 ≤ o3 by omega)
            have m1 : 1 ≤ m := by omega
            have m5 : m ≤ 5 := by omega
            obtain ⟨sm, hsm⟩ : ∃ sm, sm = sn.getD m false := ⟨_, rfl⟩
            have c0 : wr.cell? ⟨w.heap.size + 1, m, none⟩ = some (.bool sm) := by
              rw [HB.out.cell]
              have hl := HSN.out
              simp [bcells, hsm, List.getD_eq_getElem?_getD, show m < sn.length by omega]
            have f0 := HB.out.frozen m
            have hstep : fgo false sn ((m : Int) :: ([o0, o1, o2, (m : Int), o4] : List Int).drop 4) = if sm = true then false else fgo false (sn.set m true) (([o0, o1, o2, (m : Int), o4] : List Int).drop 4) := by
              conv => lhs; unfold fgo
              rw [if_neg (by rintro (⟨h, _⟩ | h | h); exact Bool.noConfusion h; omega; omega), if_neg (by omega), hsm]
              simp
            have k1 : ¬ (m : Int) < -(m : Int) := by omega
            have k2 : (0 : Int) ≤ (m : Int) := by omega
            have k3 : (m : Int) < 6 := by omega
            have k4 : ¬ (m : Int) < -5 := by omega
            have k5 : ¬ (5 : Int) < (m : Int) := by omega
            have k6 : ((m : Int) == 0) = false := by simp; omega
            have k7 : IntKind.i64.wrap (-(m : Int)) = -(m : Int) := by rw [IntKind.wrap_i64]; omega
            have HST := Lib.hid hstep
            clear hbad hz hp hstep hsm
            cases sm with
            | true =>
              have hfin : formedO [o0, o1, o2, (m : Int), o4] = false := by rw [← HF.out, HST.out]; rfl
              have HFIN := Lib.hid hfin
              clear hfin
              go_wp2_with fail
              go_ret
              exact ⟨by rw [HFIN.out]; rfl, HBW.out⟩
            | false =>
              have hfin : fgo false (sn.set m true) (([o0, o1, o2, (m : Int), o4] : List Int).drop 4) = formedO [o0, o1, o2, (m : Int), o4] := by rw [← HF.out, HST.out]; rfl
              have HFIN := Lib.hid hfin
              clear hfin
              go_wp2_with fail
              exact ⟨⟨4, false, sn.set m true, rfl, rfl, by omega, by rw [List.length_set]; exact HSN.out, HFIN.out, by rw [bcells_set]; exact HB.out.set_ m (.bool true), HBW.out.setCell (show w.heap.size ≤ w.heap.size + 1 by omega) _⟩, by simp [intOf]⟩
          · obtain ⟨m, rfl⟩ : ∃ m : Nat, o3 = -(m : Int) := ⟨o3.natAbs, by omega⟩
            have m1 : 1 ≤ m := by omega
            have m5 : m ≤ 5 := by omega
            obtain ⟨sm, hsm⟩ : ∃ sm, sm = sn.getD m false := ⟨_, rfl⟩
            have c0 : wr.cell? ⟨w.heap.size + 1, m, none⟩ = some (.bool sm) := by
              rw [HB.out.cell]
              have hl := HSN.out
              simp [bcells, hsm, List.getD_eq_getElem?_getD, show m < sn.length by omega]
            have f0 := HB.out.frozen m
            have hstep : fgo false sn ((-(m : Int)) :: ([o0, o1, o2, (-(m : Int)), o4] : List Int).drop 4) = if sm = true then false else fgo false (sn.set m true) (([o0, o1, o2, (-(m : Int)), o4] : List Int).drop 4) := by
              conv => lhs; unfold fgo
              rw [if_neg (by rintro (⟨h, _⟩ | h | h); exact Bool.noConfusion h; omega; omega), if_neg (by omega), hsm]
              simp
            have k1 : -(m : Int) < (m : Int) := by omega
            have k2 : (0 : Int) ≤ (m : Int) := by omega
            have k3 : (m : Int) < 6 := by omega
            have k4 : ¬ -(m : Int) < -5 := by omega
            have k5 : ¬ (5 : Int) < -(m : Int) := by omega
            have k6 : (-(m : Int) == 0) = false := by simp; omega
            have k6' : ((m : Int) == 0) = false := by simp; omega
            have k7 : IntKind.i64.wrap (m : Int) = (m : Int) := by rw [IntKind.wrap_i64]; omega
            have HST := Lib.hid hstep
            clear hbad hz hp hstep hsm
            cases sm with
            | true =>
              have hfin : formedO [o0, o1, o2, (-(m : Int)), o4] = false := by rw [← HF.out, HST.out]; rfl
              have HFIN := Lib.hid hfin
              clear hfin
              go_wp2_with fail
              go_ret
              exact ⟨by rw [HFIN.out]; rfl, HBW.out⟩
            | false =>
              have hfin : fgo false (sn.set m true) (([o0, o1, o2, (-(m : Int)), o4] : List Int).drop 4) = formedO [o0, o1, o2, (-(m : Int)), o4] := by rw [← HF.out, HST.out]; rfl
              have HFIN := Lib.hid hfin
              clear hfin
              go_wp2_with fail
              exact ⟨⟨4, false, sn.set m true, rfl, rfl, by omega, by rw [List.length_set]; exact HSN.out, HFIN.out, by rw [bcells_set]; exact HB.out.set_ m (.bool true), HBW.out.setCell (show w.heap.size ≤ w.heap.size + 1 by omega) _⟩, by simp [intOf]⟩
    · have hd : ([o0, o1, o2, o3, o4] : List Int).drop 4 = o4 :: ([o0, o1, o2, o3, o4] : List Int).drop 5 := rfl
      rw [hd] at hf
      have HF := Lib.hid hf
      clear hf hd
      rw [show ((4 : Nat) : Int) = 4 from rfl]
      by_cases hbad : (b = true ∧ o4 ≠ 0) ∨ o4 < -5 ∨ 5 < o4
      · have hfin : formedO [o0, o1, o2, o3, o4] = false := by
          rw [← HF.out]; unfold fgo; rw [if_pos hbad]
        have HFIN := Lib.hid hfin
        clear hfin HF
        have key : ∀ b' : Bool, b' = b → b = b' := fun _ h => h.symm
        by_cases ho : b = true ∧ o4 ≠ 0
        · obtain ⟨rfl, hz⟩ := ho
          clear hbad key
          go_wp2_with fail
          go_ret
          exact ⟨by rw [HFIN.out]; rfl, HBW.out⟩
        · by_cases hlo : o4 < -5
          · have hz : o4 ≠ 0 := by omega
            have hb : b = false := by
              cases b with
              | false => rfl
              | true => exact absurd ⟨rfl, hz⟩ ho
            subst hb
            clear hbad key ho
            go_wp2_with fail
            go_ret
            exact ⟨by rw [HFIN.out]; rfl, HBW.out⟩
          · have hhi : 5 < o4 := by rcases hbad with h | h | h; exact absurd h ho; exact absurd h hlo; exact h
            have hz : o4 ≠ 0 := by omega
            have hb : b = false := by
              cases b with
              | false => rfl
              | true => exact absurd ⟨rfl, hz⟩ ho
            subst hb
            clear hbad key ho
            go_wp2_with fail
            go_ret
            exact ⟨by rw [HFIN.out]; rfl, HBW.out⟩
      · by_cases hz : o4 = 0
        · subst hz
          clear hbad
          cases b
          all_goals
            go_wp2_with fail
            exact ⟨⟨5, true, sn, rfl, rfl, by omega, HSN.out, (by rw [← HF.out]; (conv => rhs; unfold fgo); simp; try rfl), HB.out, HBW.out⟩, by simp [intOf]⟩
        · have hb : b = false := by
            cases b with
            | false => rfl
            | true => exact absurd (.inl ⟨rfl, hz⟩) hbad
          subst hb
          by_cases hp : 0 < o4
          · obtain ⟨m, rfl⟩ := Int.eq_ofNat_of_zero_le (show 0 ≤ o4 by omega)
            have m1 : 1 ≤ m := by omega
            have m5 : m ≤ 5 := by omega
            obtain ⟨sm, hsm⟩ : ∃ sm, sm = sn.getD m false := ⟨_, rfl⟩
            have c0 : wr.cell? ⟨w.heap.size + 1, m, none⟩ = some (.bool sm) := by
              rw [HB.out.cell]
              have hl := HSN.out
              simp [bcells, hsm, List.getD_eq_getElem?_getD, show m < sn.length by omega]
            have f0 := HB.out.frozen m
            have hstep : fgo false sn ((m : Int) :: ([o0, o1, o2, o3, (m : Int)] : List Int).drop 5) = if sm = true then false else fgo false (sn.set m true) (([o0, o1, o2, o3, (m : Int)] : List Int).drop 5) := by
              conv => lhs; unfold fgo
              rw [if_neg (by rintro (⟨h, _⟩ | h | h); exact Bool.noConfusion h; omega; omega), if_neg (by omega), hsm]
              simp
            have k1 : ¬ (m : Int) < -(m : Int) := by omega
            have k2 : (0 : Int) ≤ (m : Int) := by omega
            have k3 : (m : Int) < 6 := by omega
            have k4 : ¬ (m : Int) < -5 := by omega
            have k5 : ¬ (5 : Int) < (m : Int) := by omega
            have k6 : ((m : Int) == 0) = false := by simp; omega
            have k7 : IntKind.i64.wrap (-(m : Int)) = -(m : Int) := by rw [IntKind.wrap_i64]; omega
            have HST := Lib.hid hstep
            clear hbad hz hp hstep hsm
            cases sm with
            | true =>
              have hfin : formedO [o0, o1, o2, o3, (m : Int)] = false := by rw [← HF.out, HST.out]; rfl
              have HFIN := Lib.hid hfin
              clear hfin
              go_wp2_with fail
              go_ret
              exact ⟨by rw [HFIN.out]; rfl, HBW.out⟩
            | false =>
              have hfin : fgo false (sn.set m true) (([o0, o1, o2, o3, (m : Int)] : List Int).drop 5) = formedO [o0, o1, o2, o3, (m : Int)] := by rw [← HF.out, HST.out]; rfl
              have HFIN := Lib.hid hfin
              clear hfin
              go_wp2_with fail
              exact ⟨⟨5, false, sn.set m true, rfl, rfl, by omega, by rw [List.length_set]; exact HSN.out, HFIN.out, by rw [bcells_set]; exact HB.out.set_ m (.bool true), HBW.out.setCell (show w.heap.size ≤ w.heap.size + 1 by omega) _⟩, by simp [intOf]⟩
          · obtain ⟨m, rfl⟩ : ∃ m : Nat, o4 = -(m : Int) := ⟨o4.natAbs, by omega⟩
            have m1 : 1 ≤ m := by omega
            have m5 : m ≤ 5 := by omega
            obtain ⟨sm, hsm⟩ : ∃ sm, sm = sn.getD m false := ⟨_, rfl⟩
            have c0 : wr.cell? ⟨w.heap.size + 1, m, none⟩ = some (.bool sm) := by
              rw [HB.out.cell]
              have hl := HSN.out
              simp [bcells, hsm, List.getD_eq_getElem?_getD, show m < sn.length by omega]
            have f0 := HB.out.frozen m
            have hstep : fgo false sn ((-(m : Int)) :: ([o0, o1, o2, o3, (-(m : Int))] : List Int).drop 5) = if sm = true then false else fgo false (sn.set m true) (([o0, o1, o2, o3, (-(m : Int))] : List Int).drop 5) := by
              conv => lhs; unfold fgo
              rw [if_neg (by rintro (⟨h, _⟩ | h | h); exact Bool.noConfusion h; omega; omega), if_neg (by omega), hsm]
              simp
            have k1 : -(m : Int) < (m : Int) := by omega
            have k2 : (0 : Int) ≤ (m : Int) := by omega
            have k3 : (m : Int) < 6 := by omega
            have k4 : ¬ -(m : Int) < -5 := by omega
            have k5 : ¬ (5 : Int) < -(m : Int) := by omega
            have k6 : (-(m : Int) == 0) = false := by simp; omega
            have k6' : ((m : Int) == 0) = false := by simp; omega
            have k7 : IntKind.i64.wrap (m : Int) = (m : Int) := by rw [IntKind.wrap_i64]; omega
            have HST := Lib.hid hstep
            clear hbad hz hp hstep hsm
            cases sm with
            | true =>
              have hfin : formedO [o0, o1, o2, o3, (-(m : Int))] = false := by rw [← HF.out, HST.out]; rfl
              have HFIN := Lib.hid hfin
              clear hfin
              go_wp2_with fail
              go_ret
              exact ⟨by rw [HFIN.out]; rfl, HBW.out⟩
            | false =>
              have hfin : fgo false (sn.set m true) (([o0, o1, o2, o3, (-(m : Int))] : List Int).drop 5) = formedO [o0, o1, o2, o3, (-(m : Int))] := by rw [← HF.out, HST.out]; rfl
              have HFIN := Lib.hid hfin
              clear hfin
              go_wp2_with fail
              exact ⟨⟨5, false, sn.set m true, rfl, rfl, by omega, by rw [List.length_set]; exact HSN.out, HFIN.out, by rw [bcells_set]; exact HB.out.set_ m (.bool true), HBW.out.setCell (show w.heap.size ≤ w.heap.size + 1 by omega) _⟩, by simp [intOf]⟩
    · rw [show ((5 : Nat) : Int) = 5 from rfl]
      have hfin : formedO [o0, o1, o2, o3, o4] = true := by rw [← hf]; rfl
      have HFIN := Lib.hid hfin
      clear hfin
      go_wp2_with fail
      go_ret
      exact ⟨by rw [HFIN.out]; rfl, HBW.out⟩

end Go.Proofs.Ytlbaigkpojkfjaa.Fl
