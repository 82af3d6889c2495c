/- The law JoinNil. -/
import Derived.Test.YtlbaigkpojkfjaaZJnNilC
set_option linter.unusedVariables false
namespace Go.Proofs.Ytlbaigkpojkfjaa
open Go.RowKit
theorem opens_struct4 {H : Type} {enc : TypeId × Value → H} {P : Program} {t : TypeId} {f0 f1 f2 f3 : Field} {A B C D : Type} {R : Rd A} {S : Rd B} {T : Rd C} {U : Rd D} {m0 m1 m2 m3 n0 n1 : Nat} (ht : P.underlying t = some (.struct #[f0, f1, f2, f3])) (hc : P.cellsOf t = m0 + n0)
    (s0 : n0 = m1 + n1) (s1 : n1 = m2 + m3)
    (h0 : P.cellsOf f0.type = m0) (o0 : f0.offset = 0) (r0 : Opens enc P f0.type R) (h1 : P.cellsOf f1.type = m1) (o1 : f1.offset = m0) (r1 : Opens enc P f1.type S) (h2 : P.cellsOf f2.type = m2) (o2 : f2.offset = m0 + m1) (r2 : Opens enc P f2.type T)
    (h3 : P.cellsOf f3.type = m3) (o3 : f3.offset = m0 + m1 + m2) (r3 : Opens enc P f3.type U) :
    Opens enc P t (rdPair m0 n0 R (rdPair m1 n1 S (rdPair m2 m3 T U))) := fun w _ cs _ h => by
  obtain ⟨xs, n, _, rfl, hl, hlen, hf⟩ := DataW.trod_struct ht h
  match xs, hlen with
  | [y0, y1, y2, y3], _ =>
    have a0 := hf 0 f0 rfl
    have a1 := hf 1 f1 rfl
    have a2 := hf 2 f2 rfl
    have a3 := hf 3 f3 rfl
    simp only [List.getElem?_cons_zero, List.getElem?_cons_succ] at a0 a1 a2 a3
    rw [o0, h0, List.drop_zero] at a0
    rw [o1, h1] at a1
    rw [o2, h2] at a2
    rw [o3, h3, List.take_of_length_le (by rw [List.length_drop]; omega)] at a3
    obtain ⟨d0, e0⟩ := r0 _ _ _ _ a0
    obtain ⟨d1, e1⟩ := r1 _ _ _ _ a1
    obtain ⟨d2, e2⟩ := r2 _ _ _ _ a2
    obtain ⟨d3, e3⟩ := r3 _ _ _ _ a3
    exact ⟨(d0, d1, d2, d3), hl.trans hc, e0, by rw [List.length_drop]; omega, e1, by rw [List.length_drop, List.length_drop]; omega, by rw [List.drop_drop]; exact e2, by rw [List.drop_drop, List.drop_drop, show m0 + m1 + m2 = m0 + (m1 + m2) from by omega] at *; exact e3⟩
end Go.Proofs.Ytlbaigkpojkfjaa
namespace Go.Proofs.Ytlbaigkpojkfjaa.Fl
open Go.RowKit

set_option maxRecDepth 100000 in
set_option maxHeartbeats 8000000 in
theorem JoinNil_walk {w : World} (first blocks width count k from_ : Int) (hct : -9223372036854775808 ≤ count) :
    Calls Try.prog 6 #[.agg #[.int .i64 first, .int .i64 blocks, .int .i64 width, .int .i64 count], .int .i64 k, .int .i64 from_] w (fun e w' => e = .returned (.bool true) ∧ Below w.heap.size w w') := by
  have hbl : Below w.heap.size w (w.alloc (.cells #[.int .i64 first, .int .i64 blocks, .int .i64 width, .int .i64 count] 29)) := (Below.refl _ _).alloc (Nat.le_refl _) _
  have HB := Lib.hid hbl
  have HF := Lib.hid (Blk.new w 29 #[.int .i64 first, .int .i64 blocks, .int .i64 width, .int .i64 count])
  have HCT := Lib.hid hct
  clear hbl hct
  go_enter Try.func6, Try.ntmps6
  go_wp2_with fail
  generalize w.alloc (.cells #[.int .i64 first, .int .i64 blocks, .int .i64 width, .int .i64 count] 29) = w1 at *
  refine (awake13_any w1).mono ?_
  rintro e w2 ⟨rfl, hb2⟩
  have HB2 := Lib.hid (HB.out.trans (hb2.mono HB.out.size))
  have HF2 := Lib.hid (HF.out.below hb2 HF.out.lt)
  clear hb2 HB HF
  have k0 : w2.cell? ⟨w.heap.size, 0, none⟩ = some (.int .i64 first) := HF2.out.cell 0
  have k1 : w2.cell? ⟨w.heap.size, 1, none⟩ = some (.int .i64 blocks) := HF2.out.cell 1
  have k2 : w2.cell? ⟨w.heap.size, 2, none⟩ = some (.int .i64 width) := HF2.out.cell 2
  have k3 : w2.cell? ⟨w.heap.size, 3, none⟩ = some (.int .i64 count) := HF2.out.cell 3
  have HN := Lib.hid (fun w => look_nil (first := first) (blocks := blocks) (width := width) (count := count) (k := k) w)
  go_wp2_with fail
  refine (HN.out _).mono ?_
  rintro e w3 ⟨rfl, hb⟩
  have hb' : Below w2.heap.size w2 (w3.alloc (.cells #[.int .i64 0, .int .i64 0, .int .i64 0, .int .i64 0] 29)) := hb.trans (((Below.refl _ _).alloc (Nat.le_refl _) _).mono hb.size)
  have HB4 := Lib.hid (HB2.out.trans (hb'.mono HB2.out.size))
  have HF4 := Lib.hid (HF2.out.below hb' HF2.out.lt)
  unfold noFile
  clear hb hb' HB2 HF2 HN k0 k1 k2 k3
  go_upto_region 4 with (fail)
  generalize w3.alloc (.cells #[.int .i64 0, .int .i64 0, .int .i64 0, .int .i64 0] 29) = w4 at *
  have k0 : w4.cell? ⟨w.heap.size, 0, none⟩ = some (.int .i64 first) := HF4.out.cell 0
  have k1 : w4.cell? ⟨w.heap.size, 1, none⟩ = some (.int .i64 blocks) := HF4.out.cell 1
  have k2 : w4.cell? ⟨w.heap.size, 2, none⟩ = some (.int .i64 width) := HF4.out.cell 2
  have k3 : w4.cell? ⟨w.heap.size, 3, none⟩ = some (.int .i64 count) := HF4.out.cell 3
  have HN := Lib.hid (fun w => cut_nil (first := first) (blocks := blocks) (width := width) (count := count) w)
  go_wp2_with fail
  refine (HN.out _).mono ?_
  rintro e w5 ⟨rfl, hb⟩
  have hb' : Below w4.heap.size w4 (w5.alloc (.cells #[.int .i64 0, .int .i64 0, .int .i64 0, .int .i64 0] 29)) := hb.trans (((Below.refl _ _).alloc (Nat.le_refl _) _).mono hb.size)
  have HB6 := Lib.hid (HB4.out.trans (hb'.mono HB4.out.size))
  have HF6 := Lib.hid (HF4.out.below hb' HF4.out.lt)
  unfold noFile
  clear hb hb' HB4 HF4 HN k0 k1 k2 k3
  go_upto_region 5 with (fail)
  generalize w5.alloc (.cells #[.int .i64 0, .int .i64 0, .int .i64 0, .int .i64 0] 29) = w6 at *
  have k0 : w6.cell? ⟨w.heap.size, 0, none⟩ = some (.int .i64 first) := HF6.out.cell 0
  have k1 : w6.cell? ⟨w.heap.size, 1, none⟩ = some (.int .i64 blocks) := HF6.out.cell 1
  have k2 : w6.cell? ⟨w.heap.size, 2, none⟩ = some (.int .i64 width) := HF6.out.cell 2
  have k3 : w6.cell? ⟨w.heap.size, 3, none⟩ = some (.int .i64 count) := HF6.out.cell 3
  have HN := Lib.hid (fun w => number_nil (first := first) (blocks := blocks) (width := width) (count := count) (from_ := from_) w)
  go_wp2_with fail
  refine (HN.out _).mono ?_
  rintro e w7 ⟨rfl, hb⟩
  have hb' : Below w6.heap.size w6 (w7.alloc (.cells #[.int .i64 0, .int .i64 0, .int .i64 0, .int .i64 0] 29)) := hb.trans (((Below.refl _ _).alloc (Nat.le_refl _) _).mono hb.size)
  have HB8 := Lib.hid (HB6.out.trans (hb'.mono HB6.out.size))
  have HF8 := Lib.hid (HF6.out.below hb' HF6.out.lt)
  unfold noFile
  clear hb hb' HB6 HF6 HN k0 k1 k2 k3
  go_upto_region 6 with (fail)
  generalize w7.alloc (.cells #[.int .i64 0, .int .i64 0, .int .i64 0, .int .i64 0] 29) = w8 at *
  have k0 : w8.cell? ⟨w.heap.size, 0, none⟩ = some (.int .i64 first) := HF8.out.cell 0
  have k1 : w8.cell? ⟨w.heap.size, 1, none⟩ = some (.int .i64 blocks) := HF8.out.cell 1
  have k2 : w8.cell? ⟨w.heap.size, 2, none⟩ = some (.int .i64 width) := HF8.out.cell 2
  have k3 : w8.cell? ⟨w.heap.size, 3, none⟩ = some (.int .i64 count) := HF8.out.cell 3
  have HN := Lib.hid (fun w => keep_nil (first := first) (blocks := blocks) (width := width) (count := count) (col := k) (lo := from_) (hi := from_) w)
  go_wp2_with fail
  refine (HN.out _).mono ?_
  rintro e w9 ⟨rfl, hb⟩
  have hb' : Below w8.heap.size w8 (w9.alloc (.cells #[.int .i64 0, .int .i64 0, .int .i64 0, .int .i64 0] 29)) := hb.trans (((Below.refl _ _).alloc (Nat.le_refl _) _).mono hb.size)
  have HB10 := Lib.hid (HB8.out.trans (hb'.mono HB8.out.size))
  have HF10 := Lib.hid (HF8.out.below hb' HF8.out.lt)
  unfold noFile
  clear hb hb' HB8 HF8 HN k0 k1 k2 k3
  go_upto_region 7 with (fail)
  generalize w9.alloc (.cells #[.int .i64 0, .int .i64 0, .int .i64 0, .int .i64 0] 29) = w10 at *
  go_wp2_with fail
  refine (work13_ok w10).mono ?_
  rintro e w11 ⟨K, rfl, hI, hK, hb⟩
  have HB11 := Lib.hid (HB10.out.trans (hb.mono HB10.out.size))
  have HF11 := Lib.hid (HF10.out.below hb HF10.out.lt)
  have hlf := HF10.out.lt
  have HI11 := Lib.hid hI
  have hbase : w.heap.size < K.base := by rw [hK]; exact hlf
  have HK := Lib.hid hK
  clear hb hI hK HB10 HF10
  have f1 := HF11.out.frozen 1
  have k1 : w11.cell? ⟨w.heap.size, 1, none⟩ = some (.int .i64 blocks) := HF11.out.cell 1
  have hch : Chg (fun q => q = w.heap.size) w11 (w11.setCell ⟨w.heap.size, 1, none⟩ (.int .i64 4000000)) := (Chg.refl (fun q => q = w.heap.size) w11).setCell ⟨w.heap.size, 1, none⟩ (.int .i64 4000000) (fun _ => rfl)
  have HI12 := Lib.hid (HI11.out.aside hch (fun q hq => by
    obtain rfl : q = w.heap.size := hq
    exact ⟨_, _, HF11.out, by decide, by decide, by decide, by decide, by decide, by decide, by decide, fun h => absurd h (by decide)⟩))
  have HF12 := Lib.hid (HF11.out.set_ 1 (.int .i64 4000000))
  have HB12 := Lib.hid (HB11.out.setCell (p := ⟨w.heap.size, 1, none⟩) (Nat.le_refl _) (.int .i64 4000000))
  have HO12 : Hid (∀ g, (w11.setCell ⟨w.heap.size, 1, none⟩ (.int .i64 4000000)).heap.size ≤ g → O0 K g) := Lib.hid (fun g hg => by
    unfold O0
    have h1 := HI11.out.out
    have h2 := hch.size
    have h3 := HI11.out.box.lt
    omega)
  rw [show (#[.int .i64 first, .int .i64 blocks, .int .i64 width, .int .i64 count] : Array Value).setIfInBounds 1 (.int .i64 4000000) = #[.int .i64 first, .int .i64 4000000, .int .i64 width, .int .i64 count] from rfl] at HF12
  clear hch
  go_upto_region 9 with (fail)
  generalize w11.setCell ⟨w.heap.size, 1, none⟩ (.int .i64 4000000) = w12 at *
  clear f1 k1 HI11 HF11 HB11
  have k0 : w12.cell? ⟨w.heap.size, 0, none⟩ = some (.int .i64 first) := HF12.out.cell 0
  have k1 : w12.cell? ⟨w.heap.size, 1, none⟩ = some (.int .i64 4000000) := HF12.out.cell 1
  have k2 : w12.cell? ⟨w.heap.size, 2, none⟩ = some (.int .i64 width) := HF12.out.cell 2
  have k3 : w12.cell? ⟨w.heap.size, 3, none⟩ = some (.int .i64 count) := HF12.out.cell 3
  have HL := Lib.hid (look_big (first := first) (width := width) (count := count) HI12.out HO12.out (⟨rfl, sure_fresh 12 5000, rfl, rfl, rfl⟩ : BigF (wk0 12 5000 60)) HCT.out)
  go_wp2_with fail
  refine HL.out.mono ?_
  rintro e w13 ⟨a, b, c, d, er1, W1, O1, rfl, hI13, hO13, ht13, hBF, her1⟩
  have hF13 := HI12.out.blk ht13 HF12.out (by decide) (by decide) (by decide) (by decide) (by decide) (fun h => h)
  have hB13 := HB12.out.trans (Chg.below_of ht13 HB12.out.size (fun k hk hf => HI12.out.under (E := fun _ => False) (by omega) (fun h => h) hf))
  have hbn : Below w13.heap.size w13 (w13.alloc (.cells #[.int .i64 a, .int .i64 b, .int .i64 c, .int .i64 d] 29)) := (Below.refl _ _).alloc (Nat.le_refl _) _
  have HI14 := Lib.hid (hI13.below hbn)
  have HF14 := Lib.hid (hF13.below hbn hF13.lt)
  have HB14 := Lib.hid (hB13.trans (hbn.mono hB13.size))
  have HP14 := Lib.hid (And.intro hBF her1)
  have HO14 := Lib.hid (fun g (hg : (w13.alloc (.cells #[.int .i64 a, .int .i64 b, .int .i64 c, .int .i64 d] 29)).heap.size ≤ g) => hO13 g (by have := hbn.size; omega))
  clear hI13 hO13 ht13 hBF her1 hF13 hB13 hbn k0 k1 k2 k3 HL HI12 HF12 HB12 HO12
  go_upto_region 10 with (fail)
  generalize w13.alloc (.cells #[.int .i64 a, .int .i64 b, .int .i64 c, .int .i64 d] 29) = w14 at *
  have k0 : w14.cell? ⟨w.heap.size, 0, none⟩ = some (.int .i64 first) := HF14.out.cell 0
  have k1 : w14.cell? ⟨w.heap.size, 1, none⟩ = some (.int .i64 4000000) := HF14.out.cell 1
  have k2 : w14.cell? ⟨w.heap.size, 2, none⟩ = some (.int .i64 width) := HF14.out.cell 2
  have k3 : w14.cell? ⟨w.heap.size, 3, none⟩ = some (.int .i64 count) := HF14.out.cell 3
  have HL := Lib.hid (keep_big (first := first) (width := width) (count := count) HI14.out HO14.out HP14.out.1 HCT.out)
  go_wp2_with fail
  refine HL.out.mono ?_
  rintro e w15 ⟨a2, b2, c2, d2, er2, W2, O2, rfl, hI15, hO15, ht15, hBF2, her2⟩
  have hF15 := HI14.out.blk ht15 HF14.out (by decide) (by decide) (by decide) (by decide) (by decide) (fun h => h)
  have hB15 := HB14.out.trans (Chg.below_of ht15 HB14.out.size (fun k hk hf => HI14.out.under (E := fun _ => False) (by omega) (fun h => h) hf))
  have hbn : Below w15.heap.size w15 (w15.alloc (.cells #[.int .i64 a2, .int .i64 b2, .int .i64 c2, .int .i64 d2] 29)) := (Below.refl _ _).alloc (Nat.le_refl _) _
  have HF16 := Lib.hid (hF15.below hbn hF15.lt)
  have HB16 := Lib.hid (hB15.trans (hbn.mono hB15.size))
  have HER := Lib.hid her2
  clear hI15 hO15 ht15 hBF2 her2 hF15 hB15 hbn k0 k1 k2 k3 HL HI14 HF14 HB14 HO14
  go_upto_region 11 with (fail)
  generalize w15.alloc (.cells #[.int .i64 a2, .int .i64 b2, .int .i64 c2, .int .i64 d2] 29) = w16 at *
  have k3 : w16.cell? ⟨w.heap.size, 3, none⟩ = some (.int .i64 count) := HF16.out.cell 3
  by_cases hbig : 4000000 < count
  · by_cases h1 : er1 = 1
    · by_cases h2 : er2 = 1
      · subst h1 h2
        go_wp2_with fail
        go_ret
        exact ⟨rfl, HB16.out⟩
      · have h2b : (er2 == 1) = false := by simpa using h2
        subst h1
        go_wp2_with fail
        go_ret
        exact ⟨rfl, HB16.out⟩
    · have h1b : (er1 == 1) = false := by simpa using h1
      by_cases h2 : er2 = 1
      · subst h2
        go_wp2_with fail
        go_ret
        exact ⟨rfl, HB16.out⟩
      · have h2b : (er2 == 1) = false := by simpa using h2
        go_wp2_with fail
        go_ret
        exact ⟨rfl, HB16.out⟩
  · obtain rfl : er1 = 1 := HP14.out.2.resolve_right hbig
    obtain rfl : er2 = 1 := HER.out.resolve_right hbig
    go_wp2_with fail
    go_ret
    exact ⟨rfl, HB16.out⟩

theorem file_open13 {w : World} {cs : Array Value} {f : Int × Int × Int × Int} (h : rdPair 1 3 (rdInt .i64) (rdPair 1 2 (rdInt .i64) (rdPair 1 1 (rdInt .i64) (rdInt .i64))) w cs.toList f) : cs = #[.int .i64 f.1, .int .i64 f.2.1, .int .i64 f.2.2.1, .int .i64 f.2.2.2] ∧ (Lit.int .i64 f.2.2.2).wf = true ∧ (Lit.int .i64 f.2.2.1).wf = true ∧ (Lit.int .i64 f.2.1).wf = true ∧ (Lit.int .i64 f.1).wf = true := by
  obtain ⟨hl, ⟨h1, w1⟩, _, ⟨h2, w2⟩, _, ⟨h3, w3⟩, h4, w4⟩ := h
  obtain ⟨cs⟩ := cs
  match cs, hl with
  | [a, b, c, d], _ =>
    simp at h1 h2 h3 h4
    subst h1 h2 h3 h4
    exact ⟨rfl, w4, w3, w2, w1⟩
theorem JoinNil_law {w : World} (cs : Array Value) (f : Int × Int × Int × Int) (h : rdPair 1 3 (rdInt .i64) (rdPair 1 2 (rdInt .i64) (rdPair 1 1 (rdInt .i64) (rdInt .i64))) w cs.toList f) (k : Int) (hk : (Lit.int .i64 k).wf = true) (from_ : Int) (hf : (Lit.int .i64 from_).wf = true) :
    Calls Try.prog 6 #[.agg cs, .int .i64 k, .int .i64 from_] w fun e w' => e = .returned (.bool true) ∧ Below w.heap.size w w' := by
  obtain ⟨rfl, hw⟩ := file_open13 h
  exact JoinNil_walk _ _ _ _ k from_ (by have := u_bounds.2.2.2.2 hw.1; omega)

end Go.Proofs.Ytlbaigkpojkfjaa.Fl
