/- The reference of chapter 7: of each block whether it is taken. -/
import Derived.Test.YtodjibhnmibedaaSpLeast
set_option linter.unusedVariables false
namespace Go.Proofs.Ytodjibhnmibedaa.Sp
open Go.RowKit

def setT (T : List Bool) (k : Nat) : Nat → Bool → List Bool
  | 0, _ => T
  | n + 1, b => (setT T k n b).set (k + n) b
theorem setT_length (T : List Bool) (k : Nat) (b : Bool) : ∀ n, (setT T k n b).length = T.length
  | 0 => rfl
  | n + 1 => by rw [setT, List.length_set]; exact setT_length T k b n
theorem setT_get (T : List Bool) (k : Nat) (b : Bool) : ∀ n, k + n ≤ T.length → ∀ i, i < T.length → (setT T k n b).getD i false = if k ≤ i ∧ i < k + n then b else T.getD i false
  | 0, _, i, _ => by rw [if_neg (by omega)]; rfl
  | n + 1, h, i, hi => by
    have ih := setT_get T k b n (by omega) i hi
    have hl := setT_length T k b n
    rw [setT]
    by_cases he : i = k + n
    · subst he
      rw [if_pos (by omega), List.getD_eq_getElem?_getD, List.getElem?_set_self (by omega)]; rfl
    · rw [List.getD_eq_getElem?_getD, List.getElem?_set_ne (by omega), ← List.getD_eq_getElem?_getD, ih]
      by_cases h1 : k ≤ i ∧ i < k + n
      · rw [if_pos h1, if_pos (by omega)]
      · rw [if_neg h1, if_neg (by omega)]
def bools (T : List Bool) : Array Value := (T.map Value.bool).toArray
theorem bools_get (T : List Bool) {i : Nat} (h : i < T.length) : (bools T)[i]? = some (.bool (T.getD i false)) := by
  simp [bools, h]
theorem bools_set (T : List Bool) (i : Nat) (b : Bool) : (bools T).setIfInBounds i (.bool b) = bools (T.set i b) := by
  simp [bools, List.map_set]

structure RfAt (w : World) (q tb F : Nat) (T : List Bool) : Prop where
  blk : Blk w q 93 #[.int .i64 (F : Int), .slice (some ⟨tb, 0, none⟩) T.length T.length]
  row : Blk w tb 4 (bools T)
  F_le : F ≤ 1000000
  T_le : T.length ≤ 1000000
theorem RfAt.ne_ {w : World} {q tb F : Nat} {T : List Bool} (h : RfAt w q tb F T) : q ≠ tb := h.blk.ne_ h.row (by decide)
theorem RfAt.chg {w w' : World} {q tb F : Nat} {T : List Bool} {S : Nat → Prop} (h : RfAt w q tb F T) (hc : Chg S w w') (h1 : ¬ S q) (h2 : ¬ S tb) : RfAt w' q tb F T := ⟨h.blk.chg hc h1, h.row.chg hc h2, h.F_le, h.T_le⟩
theorem RfAt.set_ {w : World} {q tb F : Nat} {T : List Bool} (h : RfAt w q tb F T) (i : Nat) (b : Bool) : RfAt (w.setCell ⟨tb, i, none⟩ (.bool b)) q tb F (T.set i b) := by
  have hr := h.row.set_ i (.bool b)
  rw [bools_set] at hr
  refine ⟨?_, hr, h.F_le, by rw [List.length_set]; exact h.T_le⟩
  rw [List.length_set]
  exact h.blk.far (fun e => h.ne_ e) _

def placeI (F : Nat) (first : Int) : Int := if (F : Int) ≤ first ∧ first ≤ 3000000 then first - F else -1
def allB (T : List Bool) (k n : Int) (b : Bool) : Bool := decide (1 ≤ n ∧ 0 ≤ k ∧ k ≤ T.length ∧ n ≤ T.length - k ∧ ∀ i, i < T.length → k ≤ (i : Int) → (i : Int) < k + n → T.getD i false = b)
def AllTold (w : World) (b : Bool) (e : Ending) (w' : World) : Prop := e = .returned (.bool b) ∧ w = w'
def SetTold (w : World) (q tb F : Nat) (T : List Bool) (e : Ending) (w' : World) : Prop := e = .returned (.tuple #[]) ∧ RfAt w' q tb F T ∧ Chg (fun k => k = tb) w w'

set_option maxRecDepth 100000 in
set_option maxHeartbeats 1000000 in
theorem rplace_any (q tb F : Nat) (T : List Bool) (first : Int) (w : World) (h : RfAt w q tb F T) :
    Calls Try.prog 50 #[.pointer (some ⟨q, 0, none⟩), .int .i64 first] w fun e w' => e = .returned (.int .i64 (placeI F first)) ∧ w = w' := by
  unfold placeI
  have c0 : w.cell? ⟨q, 0, none⟩ = some (.int .i64 (F : Int)) := h.blk.cell 0
  have hF := h.F_le
  clear h
  by_cases h1 : first < (F : Int)
  · rw [if_neg (by omega)]
    go_enter Try.func50, Try.ntmps50
    go_wp2_with fail
    go_ret
    exact ⟨rfl, rfl⟩
  · by_cases h2 : 3000000 < first
    · rw [if_neg (by omega)]
      go_enter Try.func50, Try.ntmps50
      go_wp2_with fail
      go_ret
      exact ⟨rfl, rfl⟩
    · rw [if_pos (by omega)]
      have t1 : IntKind.i64.wrap (first - F) = first - F := by rw [IntKind.wrap_i64]; omega
      go_enter Try.func50, Try.ntmps50
      go_wp2_with fail
      go_ret
      exact ⟨rfl, rfl⟩

def AllLoop (T : List Bool) (k m : Nat) (b : Bool) (w : World) (iv : Value) (wr : World) : Prop := ∃ j : Nat, iv = .int .i64 (j : Int) ∧ k ≤ j ∧ j ≤ k + m ∧ (∀ i, k ≤ i → i < j → T.getD i false = b) ∧ w = wr

set_option maxRecDepth 100000 in
set_option maxHeartbeats 1000000 in
theorem rall_any (q tb F : Nat) (T : List Bool) (k n : Int) (b : Bool) (w : World) (h : RfAt w q tb F T) :
    Calls Try.prog 48 #[.pointer (some ⟨q, 0, none⟩), .int .i64 k, .int .i64 n, .bool b] w (AllTold w (allB T k n b)) := by
  have c1 : w.cell? ⟨q, 1, none⟩ = some (.slice (some ⟨tb, 0, none⟩) T.length T.length) := h.blk.cell 1
  have hT := h.T_le
  have HX := Lib.hid h
  have key : ∀ x, allB T k n b = x → ∀ e w', e = .returned (.bool x) ∧ w = w' → AllTold w (allB T k n b) e w' := fun x hx e w' h => by rw [hx]; exact h
  have KEY := Lib.hid key
  clear h key
  by_cases h1 : 1 ≤ n
  · by_cases h2 : 0 ≤ k
    · by_cases h3 : k ≤ (T.length : Int)
      · by_cases h4 : n ≤ (T.length : Int) - k
        · obtain ⟨kn, rfl⟩ := Int.eq_ofNat_of_zero_le h2
          obtain ⟨m, rfl⟩ := Int.eq_ofNat_of_zero_le (show 0 ≤ n by omega)
          have t1 : IntKind.i64.wrap ((T.length : Int) - (kn : Int)) = (T.length : Int) - (kn : Int) := by rw [IntKind.wrap_i64]; omega
          have t2 : IntKind.i64.wrap ((kn : Int) + (m : Int)) = (kn : Int) + (m : Int) := by rw [IntKind.wrap_i64]; omega
          go_enter Try.func48, Try.ntmps48
          go_wp2_with fail
          go_loopw [9] (fun iv wr => AllLoop T kn m b w iv wr) (fun iv _ => kn + m - (intOf iv).toNat)
          case atStart => exact ⟨kn, rfl, by omega, by omega, (fun i h5 h6 => by omega), rfl⟩
          case round =>
            obtain ⟨j, rfl, h5, h6, h7, rfl⟩ := hrel
            have H7 := Lib.hid h7
            clear h7
            by_cases hlt : (j : Int) < (kn : Int) + m
            · have hj0 : (0 : Int) ≤ (j : Int) := by omega
              have hjl : (j : Int) < (T.length : Int) := by omega
              have c2 : w.cell? ⟨tb, j, none⟩ = some (.bool (T.getD j false)) := by rw [HX.out.row.cell, bools_get _ (by omega)]
              obtain ⟨x, hx⟩ : ∃ x, x = T.getD j false := ⟨_, rfl⟩
              rw [← hx] at c2
              have HXX := Lib.hid hx
              clear hx
              have hx2 : x = b ∨ x = !b := by cases x <;> cases b <;> simp
              rcases hx2 with rfl | rfl
              · cases x
                all_goals
                  have HN := Lib.hid HXX.out.symm
                  clear HXX
                  go_wp2_with fail
                  go_roundw
                  case rel => exact ⟨j + 1, by go_num, by omega, by omega, (fun i h8 h9 => by
                    rcases Nat.lt_succ_iff_lt_or_eq.1 h9 with h | h
                    · exact H7.out i h8 h
                    · subst h; exact HN.out), rfl⟩
                  case measure => simp [intOf]; omega
              · cases b
                all_goals
                  have HN := Lib.hid HXX.out.symm
                  simp only [Bool.not_true, Bool.not_false] at c2
                  clear HXX
                  go_wp2_with fail
                  go_ret
                  exact KEY.out false (by
                    unfold allB
                    rw [decide_eq_false_iff_not]
                    exact fun hh => absurd (HN.out.symm.trans (hh.2.2.2.2 j (by omega) (by omega) (by omega))) (by simp)) _ _ ⟨rfl, rfl⟩
            · obtain rfl : j = kn + m := by omega
              go_wp2_with fail
              go_ret
              exact KEY.out true (by
                unfold allB
                rw [decide_eq_true_eq]
                exact ⟨by omega, by omega, by omega, by omega, fun i _ h8 h9 => H7.out i (by omega) (by omega)⟩) _ _ ⟨rfl, rfl⟩
        · have t1 : IntKind.i64.wrap ((T.length : Int) - k) = (T.length : Int) - k := by rw [IntKind.wrap_i64]; omega
          go_enter Try.func48, Try.ntmps48
          go_wp2_with fail
          go_ret
          exact KEY.out false (by unfold allB; rw [decide_eq_false_iff_not]; exact fun hh => by have := hh.2.2.2.1; omega) _ _ ⟨rfl, rfl⟩
      · go_enter Try.func48, Try.ntmps48
        go_wp2_with fail
        go_ret
        exact KEY.out false (by unfold allB; rw [decide_eq_false_iff_not]; exact fun hh => by have := hh.2.2.1; omega) _ _ ⟨rfl, rfl⟩
    · go_enter Try.func48, Try.ntmps48
      go_wp2_with fail
      go_ret
      exact KEY.out false (by unfold allB; rw [decide_eq_false_iff_not]; exact fun hh => by have := hh.2.1; omega) _ _ ⟨rfl, rfl⟩
  · go_enter Try.func48, Try.ntmps48
    go_wp2_with fail
    go_ret
    exact KEY.out false (by unfold allB; rw [decide_eq_false_iff_not]; exact fun hh => by have := hh.1; omega) _ _ ⟨rfl, rfl⟩

def SetLoop (w : World) (q tb F : Nat) (T : List Bool) (k m : Nat) (b : Bool) (iv : Value) (wr : World) : Prop := ∃ d : Nat, iv = .int .i64 ((k + d : Nat) : Int) ∧ d ≤ m ∧ RfAt wr q tb F (setT T k d b) ∧ Chg (fun j => j = tb) w wr

set_option maxRecDepth 100000 in
set_option maxHeartbeats 1000000 in
theorem rset_any (q tb F : Nat) (T : List Bool) (k m : Nat) (b : Bool) (w : World) (h : RfAt w q tb F T) (hk : k + m ≤ T.length) :
    Calls Try.prog 49 #[.pointer (some ⟨q, 0, none⟩), .int .i64 (k : Int), .int .i64 (m : Int), .bool b] w (SetTold w q tb F (setT T k m b)) := by
  have hT := h.T_le
  have HX := Lib.hid h
  clear h
  have t2 : IntKind.i64.wrap ((k : Int) + (m : Int)) = (k : Int) + (m : Int) := by rw [IntKind.wrap_i64]; omega
  go_enter Try.func49, Try.ntmps49
  go_wp2_with fail
  go_loopw [8] (fun iv wr => SetLoop w q tb F T k m b iv wr) (fun iv _ => k + m - (intOf iv).toNat)
  case atStart => exact ⟨0, rfl, by omega, HX.out, Chg.refl _ _⟩
  case round =>
    clear HX
    obtain ⟨d, rfl, hd, hr, hc⟩ := hrel
    have c1 : wr.cell? ⟨q, 1, none⟩ = some (.slice (some ⟨tb, 0, none⟩) T.length T.length) := by rw [hr.blk.cell 1, setT_length]; rfl
    have hl := setT_length T k b d
    have HC := Lib.hid hc
    by_cases hlt : ((k + d : Nat) : Int) < (k : Int) + m
    · have c2 : wr.cell? ⟨tb, k + d, none⟩ = some (.bool ((setT T k d b).getD (k + d) false)) := by rw [hr.row.cell, bools_get _ (by omega)]
      have e2 := hr.row.frozen (k + d)
      have hj0 : (0 : Int) ≤ ((k + d : Nat) : Int) := by omega
      have hjl : ((k + d : Nat) : Int) < (T.length : Int) := by omega
      have HS := Lib.hid (hr.set_ (k + d) b)
      clear hr hc hl
      generalize (setT T k d b).getD (k + d) false = x at *
      generalize hj : k + d = j at *
      have HJ := Lib.hid hj
      clear hj
      go_wp2_with fail
      go_roundw
      case rel => exact ⟨d + 1, by have := HJ.out; rw [show k + (d + 1) = j + 1 from by omega]; go_num, by have := HJ.out; omega, by rw [setT, HJ.out]; exact HS.out, HC.out.setCell _ _ (fun _ => rfl)⟩
      case measure => simp [intOf]; omega
    · obtain rfl : d = m := by omega
      have HR := Lib.hid hr
      clear hr hc hl
      generalize hj : k + d = j at *
      have HJ := Lib.hid hj
      clear hj
      go_wp2_with fail
      go_end0
      exact ⟨rfl, HR.out, HC.out⟩

end Go.Proofs.Ytodjibhnmibedaa.Sp
