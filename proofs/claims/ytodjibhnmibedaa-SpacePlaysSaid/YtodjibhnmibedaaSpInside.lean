/- The walk of inside. -/
import Derived.Test.YtodjibhnmibedaaSpSearch
set_option linter.unusedVariables false
namespace Go.Proofs.Ytodjibhnmibedaa.Sp
open Go.RowKit

def insideB (F B : Nat) (first n : Int) : Bool := decide (1 ≤ n ∧ (F : Int) ≤ first ∧ first ≤ F + B ∧ n ≤ F + B - first)
def Told (w : World) (b : Bool) (e : Ending) (w' : World) : Prop := e = .returned (.bool b) ∧ Below w.heap.size w w'

set_option maxRecDepth 100000 in
set_option maxHeartbeats 1000000 in
theorem inside_any (s F B : Nat) (v : Value) (L : List Ext) (base : Nat) (first n : Int) (w : World) (h : SpAt w s F B v L base) :
    Calls Try.prog 44 #[.pointer (some ⟨s, 0, none⟩), .int .i64 first, .int .i64 n] w (Told w (insideB F B first n)) := by
  have c0 : w.cell? ⟨s, 0, none⟩ = some (.int .i64 (F : Int)) := h.blk.cell 0
  have c1 : w.cell? ⟨s, 1, none⟩ = some (.int .i64 (B : Int)) := h.blk.cell 1
  have hF := h.F_le
  have hB := h.B_le
  have HS := Lib.hid h
  have HC := Lib.hid (fun W (hb : Below w.heap.size w W) => (⟨(h.below hb).blk.cell 0, (h.below hb).blk.cell 1⟩ : W.cell? ⟨s, 0, none⟩ = some (.int .i64 (F : Int)) ∧ W.cell? ⟨s, 1, none⟩ = some (.int .i64 (B : Int))))
  clear h
  have key : ∀ b, insideB F B first n = b → ∀ e w', e = .returned (.bool b) ∧ Below w.heap.size w w' → Told w (insideB F B first n) e w' := fun b hb e w' h => by rw [hb]; exact h
  have KEY := Lib.hid key
  clear key
  by_cases h1 : 1 ≤ n
  · by_cases h2 : (F : Int) ≤ first
    · by_cases h3 : first ≤ (F : Int) + B
      · have t1 : IntKind.i64.wrap ((F : Int) + B - first) = (F : Int) + B - first := by rw [IntKind.wrap_i64]; omega
        go_enter Try.func44, Try.ntmps44
        go_wp2_with fail
        refine (end_any (F : Int) (B : Int) w ⟨by omega, by omega⟩ ⟨by omega, by omega⟩).mono ?_
        rintro e w1 ⟨rfl, hb1⟩
        obtain ⟨d0, d1⟩ := HC.out _ hb1
        have HB1 := Lib.hid hb1
        clear hb1
        go_wp2_with fail
        refine (end_any (F : Int) (B : Int) w1 ⟨by omega, by omega⟩ ⟨by omega, by omega⟩).mono ?_
        rintro e w2 ⟨rfl, hb2⟩
        have HB2 := Lib.hid (HB1.out.trans (hb2.mono HB1.out.size))
        clear hb2
        go_wp2_with fail
        go_ret
        exact KEY.out (decide (n ≤ (F : Int) + B - first)) (by unfold insideB; exact decide_eq_decide.2 ⟨fun h => h.2.2.2, fun h => ⟨h1, h2, h3, h⟩⟩) _ _ ⟨rfl, HB2.out⟩
      · go_enter Try.func44, Try.ntmps44
        go_wp2_with fail
        refine (end_any (F : Int) (B : Int) w ⟨by omega, by omega⟩ ⟨by omega, by omega⟩).mono ?_
        rintro e w1 ⟨rfl, hb1⟩
        have HB1 := Lib.hid hb1
        clear hb1
        go_wp2_with fail
        go_ret
        exact KEY.out false (by unfold insideB; rw [decide_eq_false_iff_not]; exact by omega) _ _ ⟨rfl, HB1.out⟩
    · go_enter Try.func44, Try.ntmps44
      go_wp2_with fail
      go_ret
      exact KEY.out false (by unfold insideB; rw [decide_eq_false_iff_not]; exact by omega) _ _ ⟨rfl, Below.refl _ _⟩
  · go_enter Try.func44, Try.ntmps44
    go_wp2_with fail
    go_ret
    exact KEY.out false (by unfold insideB; rw [decide_eq_false_iff_not]; exact by omega) _ _ ⟨rfl, Below.refl _ _⟩

end Go.Proofs.Ytodjibhnmibedaa.Sp
