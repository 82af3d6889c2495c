/- ManifestCuts: of every input the law returns true, and each argument reads as it read. The walk is ZMfCutsL's. -/
import Derived.Test.YtmmkncocgjgapaaDoorZMfCutsL
import Derived.Carry
import Derived.Test.YtmmkncocgjgapaaDoorCards
import Derived.Test.YtmmkncocgjgapaaDoorTie
import Derived.Lay
import Derived.LaidOnce
import Derived.SevenTiedAt
namespace Go.Proofs.YtmmkncocgjgapaaDoor.manifestCuts
open Go.ChangeShapes Go.WideShapes Go.ChangeAt Go.RowKit
open Go.ChangeMaps (open_string shut_string)
set_option linter.unusedVariables false

theorem own : ownKnob Tryd.prog.godebug = none := by kernel_rfl
theorem laidOut : laidOutB Tryd.prog = true := by kernel_rfl

set_option maxRecDepth 100000 in
theorem lifted (os : Os) (started : os.Started) (H : Type) (enc : TypeId × Value → H) :
    ReturnsInHanded {} Tryd.checked os 6 .any (fun w args => (Rows.manifestCutsSpec.pre enc Tryd.prog Tryd.f6 [] false w args ∧ laidMetH Tryd.prog Rows.manifestCutsRow.laid w) ∧ sizedMet enc Tryd.prog Tryd.f6 (OpenSpec.ofChange Rows.manifestCutsSpec) false w args) (Rows.manifestCutsSpec.post enc Tryd.prog Tryd.f6 false true false false) := by
  refine returnsInHanded_of_change_and (C := Tryd.checked) (X := (fun w _ => laidMetH Tryd.prog Rows.manifestCutsRow.laid w)) (fun _ _ _ hh h => h.of_heap hh) own started (by kernel_rfl) Tryd.func6
    (ChangeSpec.witness_shaped (enc := enc) (C := Tryd.checked) (os := os) (X := (fun w _ => laidMetH Tryd.prog Rows.manifestCutsRow.laid w)) false (World.laidAll Tryd.prog os Rows.manifestCutsRow.laid) #[.int .u8 0, .slice none 0 0] 8 (World.laidAll_os _ _ _)
      (World.shaped_of_ZipB (by kernel_rfl) (by kernel_rfl)) (by kernel_rfl) (by kernel_rfl) (by kernel_rfl)
      (by rw [MakeChecks.laidMetH_plain _ _ _ (by kernel_rfl)]; exact laidMet_laidAll _ (by kernel_rfl) (by kernel_rfl))) ?_
  intro W base args ds gs before hval0 hW _ _ hL _
  have hval : ∀ (j : Nat) t v, Tryd.f6.params[j]? = some t → args[j]? = some v → Value.okWide Tryd.prog W .any base t v := hval0
  have hW' := hW
  obtain ⟨p, q, hA0, hV, rfl, hfz, hnd⟩ := hW
  have hA : DataW.TrodAll enc Tryd.prog W 0 (fun _ => true) true Tryd.f6.params.toList args.toList ds p := hA0
  rw [Tryd.params6] at hA hval
  obtain ⟨v0, vs0, d0, ds0, p0, q0, hargs, rfl, rfl, h0, r0⟩ := trodAll_cons hA
  obtain ⟨v1, vs1, d1, ds1, p1, q1, rfl, rfl, rfl, h1, r1⟩ := trodAll_cons r0
  obtain ⟨rfl, rfl, rfl⟩ := trodAll_nil r1
  obtain rfl : args = #[v0, v1] := by cases args; simp_all
  obtain ⟨rfl, rfl⟩ := trodVars_none hV
  have k0 := h0
  have lt0 : ∀ x ∈ p0, x.block < W.heap.size := by obtain ⟨m, hm⟩ := k0; exact DataW.trod_lt m _ _ _ hm
  obtain ⟨x0, rfl, rfl, rfl, wx0⟩ := open_int Tryd.underlying5 (hval 0 5 v0 rfl rfl) h0
  have k1 := h1
  have lt1 : ∀ x ∈ p1, x.block < W.heap.size := by obtain ⟨m, hm⟩ := k1; exact DataW.trod_lt m _ _ _ hm
  obtain ⟨a1, n1, c1, rfl⟩ := okWide_slice Tryd.underlying46 (hval 1 46 v1 rfl rfl)
  obtain ⟨l1, hl1⟩ : ∃ l, (rdSlice 4 (rdPair 1 3 (rdSlice 5 (rdPair 1 4 rdStr (rdPair 1 3 (rdInt .i64) (rdPair 1 2 (rdInt .i64) (rdPair 1 1 (rdInt .i64) (rdInt .i64)))))) (rdPair 1 2 (rdInt .u8) (rdPair 1 1 (rdSlice 1 rdBool) rdBool)))) W [.slice a1 n1 c1] l := by obtain ⟨fuel, hf⟩ := h1; exact (opens_slice Tryd.underlying46 (by kernel_rfl) (opens_struct4 (m0 := 1) (m1 := 1) (m2 := 1) (m3 := 1) (n0 := 3) (n1 := 2) Tryd.underlying49 (by kernel_rfl) rfl rfl (by kernel_rfl) rfl (opens_slice Tryd.underlying22 (by kernel_rfl) (opens_struct5 (m0 := 1) (m1 := 1) (m2 := 1) (m3 := 1) (m4 := 1) (n0 := 4) (n1 := 3) (n2 := 2) Tryd.underlying54 (by kernel_rfl) rfl rfl rfl (by kernel_rfl) rfl (opens_str Tryd.underlying9) (by kernel_rfl) rfl (opens_int Tryd.underlying3) (by kernel_rfl) rfl (opens_int Tryd.underlying3) (by kernel_rfl) rfl (opens_int Tryd.underlying3) (by kernel_rfl) rfl (opens_int Tryd.underlying3))) (by kernel_rfl) rfl (opens_int Tryd.underlying5) (by kernel_rfl) rfl (opens_slice Tryd.underlying47 (by kernel_rfl) (opens_bool Tryd.underlying4)) (by kernel_rfl) rfl (opens_bool Tryd.underlying4))) W fuel _ _ hf
  clear hA0 hval0
  refine (Mf.ManifestCuts_law x0 wx0 a1 n1 c1 l1 hl1).mono fun e W' ⟨he, bel⟩ => ?_
  subst he
  exact ⟨_, rfl, _, _, _, [], _, [], hW', trodAll_mk1 (shut_bool Tryd.underlying4 _), (trodAll_cons_mk (Below.trod laidOut (by kernel_rfl) (of_decide_eq_true (by kernel_rfl)) k0 bel lt0) (trodAll_cons_mk (Below.trod laidOut (by kernel_rfl) (of_decide_eq_true (by kernel_rfl)) k1 bel lt1) trodAll_mk0)), rfl, bel.frame _, fun h => by cases h⟩

theorem row_holds : Rows.ManifestCutsSaid :=
  OpenClaim.holds_of_wide 6 Tryd.f6 rfl rfl rfl rfl rfl rfl rfl ⟨rfl, rfl, rfl, rfl, rfl⟩ rfl rfl rfl rfl rfl (by kernel_rfl) Tryd.func6 (by kernel_rfl)
    (of_decide_eq_true (by kernel_rfl)) (by unfold Func.isWrapper; first | (rw [if_pos (by decide +kernel)]; kernel_rfl) | (rw [if_neg (by decide +kernel)]; exact ⟨rfl, rfl⟩))
    (fun os started H enc _ => lifted os started H enc)
/-- The statement. -/
theorem proved : Rows.ManifestCutsCardSaid :=
  Claim7.holds_tied_plain_at .later [] [.data, .pinned] true (true, "aa8f8fe5b291d7a16f5b29f70008eac8bbeeef6d79a1a6408e1a6f5faee67ee8") true row_holds (fun _ h => by cases h) (by kernel_rfl) (fun _ h => by cases h) manifestCuts_row_tie rfl ⟨rfl, rfl⟩ (by kernel_rfl) rfl
    (fun f fn hf hfn => by
      obtain rfl : f = 6 := Option.some.inj ((show Tryd.prog.funcNamed "abutment/abutmentlaw09.ManifestCuts" = some 6 by kernel_rfl).symm.trans hf) |>.symm
      obtain rfl : fn = Tryd.f6 := (Option.some.inj (Tryd.func6.symm.trans hfn)).symm
      exact ⟨by kernel_rfl, fun j t ht => by
        rw [Tryd.params6] at ht
        have hm : t ∈ [5, 46] := by simpa using Array.mem_of_getElem? ht
        have hall : ([5, 46].all fun u => !Tryd.prog.wantsStandIn u) = true := by kernel_rfl
        exact (show Tryd.prog.wantsStandIn t = false by simpa using List.all_eq_true.1 hall t hm)⟩)
    (by kernel_rfl)
end Go.Proofs.YtmmkncocgjgapaaDoor.manifestCuts
