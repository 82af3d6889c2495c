/- The walk of the law ManifestForms. -/
import Derived.Test.YtmmkncocgjgapaaDoorK3
import Derived.Test.YtmmkncocgjgapaaDoorK5
import Derived.Test.YtmmkncocgjgapaaDoorK7
set_option linter.unusedVariables false
namespace Go.Proofs.YtmmkncocgjgapaaDoor.Mf
open Go.RowKit Dev

theorem slots_same (n : Int) : ∃ r : Int, (∀ w, Calls Tryd.prog 12 #[.int .i64 n] w (fun e w' => e = .returned (.int .i64 r) ∧ w = w')) ∧ ∀ w, Calls Tryd.prog 13 #[.int .i64 n] w (fun e w' => e = .returned (.int .i64 r) ∧ w = w') := by
  by_cases h : n < 8 ∨ 256 < n
  · exact ⟨0, fun w => slot_no n w h, fun w => refslot_no n w h⟩
  · obtain ⟨m, rfl⟩ : ∃ m : Nat, n = (m : Int) := ⟨n.toNat, by omega⟩
    exact ⟨_, fun w => slot_ok m w (by omega) (by omega), fun w => refslot_ok m w (by omega) (by omega)⟩
set_option maxRecDepth 100000 in
set_option maxHeartbeats 1000000 in
theorem ManifestForms_law {w : World} (a : Option Addr) (n c : Nat) (l : List (ByteArray × Int × Int × Int × Int)) (hl : rdSlice 5 RdEnt w [.slice a n c] l) (size : Int) (hs : (Lit.int .i64 size).wf = true) :
    Calls Tryd.prog 3 #[.slice a n c, .int .i64 size] w (fun e w' => e = .returned (.bool true) ∧ Below w.heap.size w w') := by
  obtain ⟨L, -, hn, hnc, hcm, hr, hsz⟩ := ents_of hl
  obtain ⟨r, hs1, hs2⟩ := slots_same size
  have HN := Lib.hid (And.intro hn (And.intro hnc hcm))
  have HSZ := Lib.hid hsz
  have HS1 := Lib.hid hs1
  have HS2 := Lib.hid hs2
  have HR := Lib.hid hr
  have HAW := Lib.hid (fun w => awake_any w)
  clear hl hs hn hnc hcm hr hsz hs1 hs2
  go_enter Tryd.func3, Tryd.ntmps3
  go_wp2_with fail
  refine (HAW.out _).mono ?_
  rintro e w2 ⟨rfl, hb⟩
  have HB := Lib.hid hb
  have HF := Lib.hid (few_all L a n c w2 (HR.out.below hb) HN.out.1 (by have := HN.out; unfold maxLen at this; omega) HSZ.out)
  clear hb
  go_wp2_with fail
  refine HF.out.mono ?_
  rintro e w3 ⟨b, rfl, hbt, rfl⟩
  cases b with
  | false =>
    clear hbt HF
    go_wp2_with fail
    refine (HAW.out _).mono ?_
    rintro e w3 ⟨rfl, hb3⟩
    have HB3 := Lib.hid (HB.out.trans (hb3.mono HB.out.size))
    clear hb3
    go_wp2_with fail
    go_ret
    exact ⟨rfl, HB3.out⟩
  | true =>
    obtain ⟨h20, hnm⟩ := hbt rfl
    have HX := Lib.hid (And.intro h20 hnm)
    have HFM := Lib.hid (formed_any L a n c w2 (HR.out.below HB.out) HN.out.1 (by have := HN.out; omega) HSZ.out)
    clear hbt HF h20 hnm
    go_wp2_with fail
    refine HFM.out.mono ?_
    rintro e w4 ⟨rfl, hb4⟩
    have HB4 := Lib.hid (HB.out.trans (hb4.mono HB.out.size))
    have HPL := Lib.hid (plain_any L a n c w4 (HR.out.below (HB.out.trans (hb4.mono HB.out.size))) HN.out.1 (by have := HX.out.1; have := HN.out.1; omega))
    clear hb4 HFM HB
    go_wp2_with fail
    refine HPL.out.mono ?_
    rintro e w5 ⟨v, rfl, hov, hb5⟩
    obtain ⟨va, vc, rfl, hrow, -, -, -⟩ := own_ents hov
    have HB5 := Lib.hid (HB4.out.trans (hb5.mono HB4.out.size))
    have HRF := Lib.hid (refformed_any L va n vc w5 hrow HN.out.1 (by have := HX.out.1; have := HN.out.1; omega) (fun j hj => by have := HX.out.2 j hj; omega))
    clear hb5 HPL HB4 hov hrow
    go_wp2_with fail
    refine HRF.out.mono ?_
    rintro e w6 ⟨rfl, hb6⟩
    have HB6 := Lib.hid (HB5.out.trans (hb6.mono HB5.out.size))
    clear hb6 HRF HB5
    generalize formedM L = fm at *
    go_wp2_with fail
    refine (HS1.out _).mono ?_
    rintro e w7 ⟨rfl, rfl⟩
    go_wp2_with fail
    refine (HS2.out _).mono ?_
    rintro e w8 ⟨rfl, rfl⟩
    go_wp2_with fail
    go_ret
    exact ⟨rfl, HB6.out⟩

end Go.Proofs.YtmmkncocgjgapaaDoor.Mf
