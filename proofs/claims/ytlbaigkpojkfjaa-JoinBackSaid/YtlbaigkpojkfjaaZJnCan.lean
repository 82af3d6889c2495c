/- The walk of join.can; a closed reader's Close behind a defer. -/
import Derived.Test.YtlbaigkpojkfjaaZJnKeep2
set_option linter.unusedVariables false
namespace Go.Proofs.Ytlbaigkpojkfjaa.Fl
open Go.RowKit

theorem below_drewN {B : Nat} {w w' : World} (h : Below B w w') (n : Nat) : Below B w (w'.drewN n) := ⟨h.os, h.tape, h.output, h.size, h.block⟩
section
variable {w w' : World} {O : Nat → Prop} {K : Key} {W : Wk} {x : Nat} {X : Rd} {u : FrameMode}
set_option maxRecDepth 100000 in
set_option maxHeartbeats 2000000 in
theorem can_nil (first blocks width count : Int) (w : World) : Calls Try.prog 47 #[.pointer none, .agg (fvals first blocks width count)] w (fun e w' => e = .returned (.bool false) ∧ Below w.heap.size w w') := by
  have hF := Blk.new w 29 (fvals first blocks width count)
  have hbl : Below w.heap.size w (w.alloc (.cells (fvals first blocks width count) 29)) := (Below.refl _ _).alloc (Nat.le_refl _) _
  have HB := Lib.hid hbl
  have HF := Lib.hid hF
  have HH := Lib.hid (fun w => holds_nil width w)
  unfold fvals at *
  clear hbl hF
  go_enter Try.func47, Try.ntmps47
  go_wp2_with fail
  generalize w.alloc (.cells #[.int .i64 first, .int .i64 blocks, .int .i64 width, .int .i64 count] 29) = w1 at *
  have k2 : w1.cell? ⟨w.heap.size, 2, none⟩ = some (.int .i64 width) := HF.out.cell 2
  go_wp2_with fail
  refine (HH.out w1).mono ?_
  rintro e w2 ⟨rfl, rfl⟩
  go_wp2_with fail
  go_quiet (fail)
  go_wp2_with fail
  go_ret
  exact ⟨rfl, below_drewN HB.out _⟩

set_option maxRecDepth 100000 in
set_option maxHeartbeats 2000000 in
theorem can_any (first blocks width count : Int) (hI : WkI w O K W) (hct : -9223372036854775808 ≤ count) (b : Bool) (hb : b = true ↔ CanBe W.D.size blocks width count) : Calls Try.prog 47 #[P K.wk, .agg (fvals first blocks width count)] w (fun e w' => e = .returned (.bool b) ∧ Below w.heap.size w w') := by
  obtain ⟨s8, s256⟩ := hI.size
  obtain ⟨b1, b2, b3, b4⟩ := holds_bd (width := width) s8 s256
  have hF := Blk.new w 29 (fvals first blocks width count)
  have hbl : Below w.heap.size w (w.alloc (.cells (fvals first blocks width count) 29)) := (Below.refl _ _).alloc (Nat.le_refl _) _
  have HB := Lib.hid hbl
  have HF := Lib.hid hF
  have HH := Lib.hid (holds_any (hI.below hbl) width)
  have HCB : Hid (b = true ↔ (holds W.D.size width ≠ 0 ∧ 0 ≤ count ∧ count ≤ 100000000 ∧ blocks = (count + holds W.D.size width - 1) / holds W.D.size width)) := Lib.hid (by
    rw [hb]
    unfold CanBe blocksOf
    constructor
    · rintro ⟨h1, h2, h3, h4, h5⟩
      exact ⟨by have := b3 h1 h2; omega, h3, h4, h5⟩
    · rintro ⟨h1, h3, h4, h5⟩
      obtain ⟨h6, h7⟩ := b4 h1
      exact ⟨h6, h7, h3, h4, h5⟩)
  unfold fvals at *
  clear hbl hF hI b3 b4 hb
  generalize holds W.D.size width = n at *
  go_enter Try.func47, Try.ntmps47
  go_wp2_with fail
  generalize w.alloc (.cells #[.int .i64 first, .int .i64 blocks, .int .i64 width, .int .i64 count] 29) = w1 at *
  have k1 : w1.cell? ⟨w.heap.size, 1, none⟩ = some (.int .i64 blocks) := HF.out.cell 1
  have k2 : w1.cell? ⟨w.heap.size, 2, none⟩ = some (.int .i64 width) := HF.out.cell 2
  have k3 : w1.cell? ⟨w.heap.size, 3, none⟩ = some (.int .i64 count) := HF.out.cell 3
  go_wp2_with fail
  refine HH.out.mono ?_
  rintro e w2 ⟨rfl, rfl⟩
  go_wp2_with fail
  by_cases q1 : 0 < n
  · have d1 : decide (0 < n) = true := by simpa using q1
    by_cases q2 : 0 ≤ count
    · have d2 : decide (0 ≤ count) = true := by simpa using q2
      by_cases q3 : count ≤ 100000000
      · have d3 : decide (count ≤ 100000000) = true := by simpa using q3
        have q0 : n ≠ 0 := by omega
        have e1 : IntKind.i64.wrap (count + n) = count + n := by rw [IntKind.wrap_i64]; omega
        have e2 : IntKind.i64.wrap (count + n - 1) = count + n - 1 := by rw [IntKind.wrap_i64]; omega
        have e3 : (count + n - 1).tdiv n = (count + n - 1) / n := Int.tdiv_eq_ediv_of_nonneg (by omega)
        have e5 : 0 ≤ (count + n - 1) / n := Int.ediv_nonneg (by omega) (by omega)
        have e6 : (count + n - 1) / n ≤ count + n - 1 := Int.ediv_le_self _ (by omega)
        have e4 : IntKind.i64.wrap ((count + n - 1) / n) = (count + n - 1) / n := by rw [IntKind.wrap_i64]; omega
        have HBV : Hid (b = (blocks == (count + n - 1) / n)) := Lib.hid (by
          have := HCB.out
          by_cases hq : blocks = (count + n - 1) / n
          · rw [this.2 ⟨q0, q2, q3, hq⟩, hq]; simp
          · have : b = false := by
              cases hbb : b with
              | false => rfl
              | true => exact absurd (this.1 hbb).2.2.2 hq
            rw [this]; symm; simpa using hq)
        clear e5 e6 HCB
        go_quiet (fail)
        go_wp2_with fail
        go_ret
        exact ⟨by rw [HBV.out]; first | rfl | simp, below_drewN HB.out _⟩
      · have d3 : decide (count ≤ 100000000) = false := by simpa using q3
        have hbv : b = false := by
          cases hbb : b with
          | false => rfl
          | true => exact absurd (HCB.out.1 hbb).2.2.1 q3
        subst hbv
        go_quiet (fail)
        go_wp2_with fail
        go_ret
        exact ⟨rfl, below_drewN HB.out _⟩
    · have d2 : decide (0 ≤ count) = false := by simpa using q2
      have hbv : b = false := by
        cases hbb : b with
        | false => rfl
        | true => exact absurd (HCB.out.1 hbb).2.1 q2
      subst hbv
      go_quiet (fail)
      go_wp2_with fail
      go_ret
      exact ⟨rfl, below_drewN HB.out _⟩
  · have d1 : decide (0 < n) = false := by simpa using q1
    have hbv : b = false := by
      cases hbb : b with
      | false => rfl
      | true => exact absurd (HCB.out.1 hbb).1 (by omega)
    subst hbv
    go_quiet (fail)
    go_wp2_with fail
    go_ret
    exact ⟨rfl, below_drewN HB.out _⟩
end

end Go.Proofs.Ytlbaigkpojkfjaa.Fl
