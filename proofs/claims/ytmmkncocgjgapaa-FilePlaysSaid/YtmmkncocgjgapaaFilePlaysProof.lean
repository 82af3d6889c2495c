/- FilePlays: of every input the law returns true, and each argument reads as it read. The walk is ZFpPlays's. -/
import Derived.Test.YtmmkncocgjgapaaZFpPlays
import Derived.Carry
namespace Go.Proofs.Ytmmkncocgjgapaa.filePlays
open Go.ChangeShapes Go.WideShapes Go.ChangeAt Go.RowKit
open Go.ChangeMaps (open_string shut_string)
set_option linter.unusedVariables false

theorem own : ownKnob Try.prog.godebug = none := by kernel_rfl
theorem laidOut : laidOutB Try.prog = true := by kernel_rfl

set_option maxRecDepth 100000 in
theorem lifted (os : Os) (started : os.Started) (H : Type) (enc : TypeId × Value → H) :
    ReturnsInHanded {} Try.checked os 4 .any (Rows.filePlaysSpec.pre6 enc Try.prog Try.f4 Rows.filePlaysRow.domain false) (Rows.filePlaysSpec.post enc Try.prog Try.f4 false true false false) := by
  refine returnsInHanded_of_change (C := Try.checked) own started (by kernel_rfl) Try.func4
    (ChangeSpec.witness6 (enc := enc) (C := Try.checked) false ⟨#[], #[.agg #[.int .i64 0, .int .i64 0, .int .i64 0], .slice none 0 0], []⟩ 8 (by kernel_rfl) (by kernel_rfl) (by kernel_rfl) (by kernel_rfl)) ?_
  intro W base args ds gs before hval0 hW hcnd _
  have hval : ∀ (j : Nat) t v, Try.f4.params[j]? = some t → args[j]? = some v → Value.okWide Try.prog W .any base t v := hval0
  have hW' := hW
  obtain ⟨p, q, hA0, hV, rfl, hfz, hnd⟩ := hW
  have hA : DataW.TrodAll enc Try.prog W 0 (fun _ => true) true Try.f4.params.toList args.toList ds p := hA0
  rw [Try.params4] at hA hval
  obtain ⟨v0, vs0, d0, ds0, p0, q0, hargs, rfl, rfl, h0, r0⟩ := trodAll_cons hA
  obtain ⟨v1, vs1, d1, ds1, p1, q1, rfl, rfl, rfl, h1, r1⟩ := trodAll_cons r0
  obtain ⟨rfl, rfl, rfl⟩ := trodAll_nil r1
  obtain rfl : args = #[v0, v1] := by cases args; simp_all
  obtain ⟨rfl, rfl⟩ := trodVars_none hV
  have k0 := h0
  have lt0 : ∀ x ∈ p0, x.block < W.heap.size := by obtain ⟨m, hm⟩ := k0; exact DataW.trod_lt m _ _ _ hm
  obtain ⟨cs0, rfl, hsz0⟩ := okWide_struct Try.underlying28 (hval 0 28 v0 rfl rfl)
  obtain ⟨l0, hl0⟩ : ∃ l, (rdPair 1 2 (rdInt .i64) (rdPair 1 1 (rdInt .i64) (rdInt .i64))) W cs0.toList l := by obtain ⟨fuel, hf⟩ := h0; exact (opens_struct3 (m0 := 1) (m1 := 1) (m2 := 1) (n0 := 2) Try.underlying28 (by kernel_rfl) rfl (by kernel_rfl) rfl (opens_int Try.underlying3) (by kernel_rfl) rfl (opens_int Try.underlying3) (by kernel_rfl) rfl (opens_int Try.underlying3)) W fuel _ _ hf
  have k1 := h1
  have lt1 : ∀ x ∈ p1, x.block < W.heap.size := by obtain ⟨m, hm⟩ := k1; exact DataW.trod_lt m _ _ _ hm
  obtain ⟨a1, n1, c1, rfl⟩ := okWide_slice Try.underlying52 (hval 1 52 v1 rfl rfl)
  obtain ⟨l1, hl1⟩ : ∃ l, (rdSlice 9 (rdPair 1 8 (rdInt .i64) (rdPair 1 7 (rdInt .i64) (rdPair 1 6 (rdInt .i64) (rdPair 1 5 (rdInt .i64) (rdArr 5 1 (rdInt .i64))))))) W [.slice a1 n1 c1] l := by obtain ⟨fuel, hf⟩ := h1; exact (opens_slice Try.underlying52 (by kernel_rfl) (opens_struct5 (m0 := 1) (m1 := 1) (m2 := 1) (m3 := 1) (m4 := 5) (n0 := 8) (n1 := 7) (n2 := 6) Try.underlying63 (by kernel_rfl) rfl rfl rfl (by kernel_rfl) rfl (opens_int Try.underlying3) (by kernel_rfl) rfl (opens_int Try.underlying3) (by kernel_rfl) rfl (opens_int Try.underlying3) (by kernel_rfl) rfl (opens_int Try.underlying3) (by kernel_rfl) rfl (opens_arr Try.underlying45 (by kernel_rfl) (by kernel_rfl) (opens_int Try.underlying2)))) W fuel _ _ hf
  clear hA0 hval0
  refine (Fp.FilePlays_law cs0 l0 hl0 a1 n1 c1 l1 hl1).mono fun e W' ⟨he, bel⟩ => ?_
  subst he
  exact ⟨_, rfl, _, _, _, [], _, [], hW', trodAll_mk1 (shut_bool Try.underlying4 _), (trodAll_cons_mk (Below.trod laidOut (by kernel_rfl) (of_decide_eq_true (by kernel_rfl)) k0 bel lt0) (trodAll_cons_mk (Below.trod laidOut (by kernel_rfl) (of_decide_eq_true (by kernel_rfl)) k1 bel lt1) trodAll_mk0)), rfl, bel.frame _, fun h => by cases h⟩

/-- The statement. -/
theorem proved : Rows.FilePlaysSaid :=
  OpenClaim.holds_of_wide 4 Try.f4 rfl rfl rfl rfl rfl rfl rfl ⟨rfl, rfl, rfl, rfl, rfl⟩ rfl rfl rfl rfl rfl (by kernel_rfl) Try.func4 (by kernel_rfl)
    (of_decide_eq_true (by kernel_rfl)) (by unfold Func.isWrapper; first | (rw [if_pos (by decide +kernel)]; kernel_rfl) | (rw [if_neg (by decide +kernel)]; exact ⟨rfl, rfl⟩))
    (fun os started H enc _ => lifted os started H enc)
end Go.Proofs.Ytmmkncocgjgapaa.filePlays
