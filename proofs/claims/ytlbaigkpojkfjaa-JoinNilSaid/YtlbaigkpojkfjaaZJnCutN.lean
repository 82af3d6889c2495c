/- join.Cut without a work, of one column. -/
import Derived.Test.YtlbaigkpojkfjaaZJnNilP
set_option linter.unusedVariables false
namespace Go.Proofs.Ytlbaigkpojkfjaa.Fl
open Go.RowKit

def CutNLoop (w w1 : World) (nv iv : Value) (wr : World) : Prop := ∃ i : Nat, iv = .int .i64 (i : Int) ∧ nv = .int .i64 ((if i = 0 then 0 else 1 : Nat) : Int) ∧ i ≤ 5 ∧ Below w1.heap.size w1 wr
section
variable {w w' : World}
set_option maxRecDepth 100000 in
set_option maxHeartbeats 4000000 in
theorem cut_nil {first blocks width count : Int} (w : World) : Calls Try.prog 21 #[.pointer none, .agg #[.int .i64 first, .int .i64 blocks, .int .i64 width, .int .i64 count], .agg #[.int .i64 1, .int .i64 0, .int .i64 0, .int .i64 0, .int .i64 0]] w (NoMade w 1) := by
  have hF := ((Blk.new w 29 #[.int .i64 first, .int .i64 blocks, .int .i64 width, .int .i64 count]).alloc (.cells #[.int .i64 1, .int .i64 0, .int .i64 0, .int .i64 0, .int .i64 0] 48)).alloc (.cells #[.int .i64 0, .int .i64 0, .int .i64 0, .int .i64 0] 29)
  have hO := (Blk.new (w.alloc (.cells #[.int .i64 first, .int .i64 blocks, .int .i64 width, .int .i64 count] 29)) 48 #[.int .i64 1, .int .i64 0, .int .i64 0, .int .i64 0, .int .i64 0]).alloc (.cells #[.int .i64 0, .int .i64 0, .int .i64 0, .int .i64 0] 29)
  have hR := Blk.new ((w.alloc (.cells #[.int .i64 first, .int .i64 blocks, .int .i64 width, .int .i64 count] 29)).alloc (.cells #[.int .i64 1, .int .i64 0, .int .i64 0, .int .i64 0, .int .i64 0] 48)) 29 #[.int .i64 0, .int .i64 0, .int .i64 0, .int .i64 0]
  rw [show (w.alloc (.cells #[.int .i64 first, .int .i64 blocks, .int .i64 width, .int .i64 count] 29)).heap.size = w.heap.size + 1 from by simp] at hO
  rw [show ((w.alloc (.cells #[.int .i64 first, .int .i64 blocks, .int .i64 width, .int .i64 count] 29)).alloc (.cells #[.int .i64 1, .int .i64 0, .int .i64 0, .int .i64 0, .int .i64 0] 48)).heap.size = w.heap.size + 1 + 1 from by simp] at hR
  have hbl : Below w.heap.size w (((w.alloc (.cells #[.int .i64 first, .int .i64 blocks, .int .i64 width, .int .i64 count] 29)).alloc (.cells #[.int .i64 1, .int .i64 0, .int .i64 0, .int .i64 0, .int .i64 0] 48)).alloc (.cells #[.int .i64 0, .int .i64 0, .int .i64 0, .int .i64 0] 29)) := (((Below.refl _ _).alloc (Nat.le_refl _) _).alloc (by simp) _).alloc (by simp; omega) _
  have HF := Lib.hid hF
  have HO := Lib.hid hO
  have HR := Lib.hid hR
  have HB := Lib.hid hbl
  have HCOL := Lib.hid (fun x W' => column_any first blocks width count x W')
  have HE := Lib.hid (fun w bs => each_nil (F := .func 45) (first := first) (blocks := blocks) (width := width) (count := count) (wM := 1) (bs := bs) w)
  unfold NoMade at *
  unfold noFile at *
  clear hF hO hR hbl
  go_enter Try.func21, Try.ntmps21
  go_wp2_with fail
  generalize (((w.alloc (.cells #[.int .i64 first, .int .i64 blocks, .int .i64 width, .int .i64 count] 29)).alloc (.cells #[.int .i64 1, .int .i64 0, .int .i64 0, .int .i64 0, .int .i64 0] 48)).alloc (.cells #[.int .i64 0, .int .i64 0, .int .i64 0, .int .i64 0] 29)) = w1 at *
  have k0 : w1.cell? ⟨w.heap.size + 1, 0, none⟩ = some (.int .i64 1) := HO.out.cell 0
  have k1 : w1.cell? ⟨w.heap.size + 1, 1, none⟩ = some (.int .i64 0) := HO.out.cell 1
  have k2 : w1.cell? ⟨w.heap.size + 1, 2, none⟩ = some (.int .i64 0) := HO.out.cell 2
  have k3 : w1.cell? ⟨w.heap.size + 1, 3, none⟩ = some (.int .i64 0) := HO.out.cell 3
  have k4 : w1.cell? ⟨w.heap.size + 1, 4, none⟩ = some (.int .i64 0) := HO.out.cell 4
  go_wp2_with fail
  clear k0 k1 k2 k3 k4
  go_loopw [8, 12] (fun nv iv wr => CutNLoop w w1 nv iv wr) (fun _ iv _ => 5 - (intOf iv).toNat)
  case atStart => exact ⟨0, rfl, rfl, by omega, Below.refl _ _⟩
  case round =>
    obtain ⟨i, rfl, rfl, hi, hbr⟩ := hrel
    have HBR := Lib.hid hbr
    have hFr := HF.out.below hbr HF.out.lt
    have c0 : wr.cell? ⟨w.heap.size, 0, none⟩ = some (.int .i64 first) := hFr.cell 0
    have c1 : wr.cell? ⟨w.heap.size, 1, none⟩ = some (.int .i64 blocks) := hFr.cell 1
    have c2 : wr.cell? ⟨w.heap.size, 2, none⟩ = some (.int .i64 width) := hFr.cell 2
    have c3 : wr.cell? ⟨w.heap.size, 3, none⟩ = some (.int .i64 count) := hFr.cell 3
    clear hbr hFr
    obtain rfl | hi1 | rfl : i = 0 ∨ (1 ≤ i ∧ i ≤ 4) ∨ i = 5 := by omega
    · rw [show ((0 : Nat) : Int) = 0 from rfl]
      have HC := HCOL.out 0 wr
      by_cases hw : 0 < width
      · rw [show decide ((0 : Int) ≤ 0 ∧ (0 : Int) < width ∧ (0 : Int) < 5) = true from by simpa using hw] at HC
        replace HC := Lib.hid HC
        clear hw
        go_wp2_with fail
        refine HC.out.mono ?_
        rintro e w2 ⟨rfl, hb2⟩
        have HB2 := Lib.hid (HBR.out.trans (hb2.mono HBR.out.size))
        clear hb2 c0 c1 c2 c3 HC
        go_wp2_with fail
        exact ⟨⟨1, rfl, rfl, by omega, HB2.out⟩, by simp [intOf]⟩
      · rw [show decide ((0 : Int) ≤ 0 ∧ (0 : Int) < width ∧ (0 : Int) < 5) = false from by rw [decide_eq_false_iff_not]; omega] at HC
        replace HC := Lib.hid HC
        clear hw
        go_wp2_with fail
        refine HC.out.mono ?_
        rintro e w2 ⟨rfl, hb2⟩
        have HB2 := Lib.hid (HBR.out.trans (hb2.mono HBR.out.size))
        clear hb2 c0 c1 c2 c3 HC
        have hRr := HR.out.below HB2.out HR.out.lt
        have z0 : w2.cell? ⟨w.heap.size + 1 + 1, 0, none⟩ = some (.int .i64 0) := hRr.cell 0
        have f0 := hRr.frozen 0
        have z1 : w2.cell? ⟨w.heap.size + 1 + 1, 1, none⟩ = some (.int .i64 0) := hRr.cell 1
        have f1 := hRr.frozen 1
        have z2 : w2.cell? ⟨w.heap.size + 1 + 1, 2, none⟩ = some (.int .i64 0) := hRr.cell 2
        have f2 := hRr.frozen 2
        have z3 : w2.cell? ⟨w.heap.size + 1 + 1, 3, none⟩ = some (.int .i64 0) := hRr.cell 3
        have f3 := hRr.frozen 3
        have HZ := Lib.hid ((((hRr.set_ 0 (.int .i64 0)).set_ 1 (.int .i64 0)).set_ 2 (.int .i64 0)).set_ 3 (.int .i64 0))
        have HBB := Lib.hid (((((HB.out.trans (HB2.out.mono HB.out.size)).setCell (p := ⟨w.heap.size + 1 + 1, 0, none⟩) (show w.heap.size ≤ w.heap.size + 1 + 1 by omega) (.int .i64 0)).setCell (p := ⟨w.heap.size + 1 + 1, 1, none⟩) (show w.heap.size ≤ w.heap.size + 1 + 1 by omega) (.int .i64 0)).setCell (p := ⟨w.heap.size + 1 + 1, 2, none⟩) (show w.heap.size ≤ w.heap.size + 1 + 1 by omega) (.int .i64 0)).setCell (p := ⟨w.heap.size + 1 + 1, 3, none⟩) (show w.heap.size ≤ w.heap.size + 1 + 1 by omega) (.int .i64 0))
        clear hRr
        go_wp2_with fail
        generalize ((((w2.setCell ⟨w.heap.size + 1 + 1, 0, none⟩ (.int .i64 0)).setCell ⟨w.heap.size + 1 + 1, 1, none⟩ (.int .i64 0)).setCell ⟨w.heap.size + 1 + 1, 2, none⟩ (.int .i64 0)).setCell ⟨w.heap.size + 1 + 1, 3, none⟩ (.int .i64 0)) = w9 at *
        have s0 : w9.cell? ⟨w.heap.size + 1 + 1, 0, none⟩ = some (.int .i64 0) := HZ.out.cell 0
        have s1 : w9.cell? ⟨w.heap.size + 1 + 1, 1, none⟩ = some (.int .i64 0) := HZ.out.cell 1
        have s2 : w9.cell? ⟨w.heap.size + 1 + 1, 2, none⟩ = some (.int .i64 0) := HZ.out.cell 2
        have s3 : w9.cell? ⟨w.heap.size + 1 + 1, 3, none⟩ = some (.int .i64 0) := HZ.out.cell 3
        refine bodyPost_ret (v := .tuple #[.agg #[.int .i64 0, .int .i64 0, .int .i64 0, .int .i64 0], .int .i64 1]) (by simp [results, Try.results21, go_sem, s0, s1, s2, s3]; try rfl) rfl ?_
        exact ⟨rfl, HBB.out⟩
    · have HC := HCOL.out (-1) wr
      rw [show decide ((0 : Int) ≤ -1 ∧ (-1 : Int) < width ∧ (-1 : Int) < 5) = false from by rw [decide_eq_false_iff_not]; omega] at HC
      replace HC := Lib.hid HC
      have hi0 : i ≠ 0 := by omega
      rw [if_neg hi0]
      clear hi0
      obtain rfl | rfl | rfl | rfl : i = 1 ∨ i = 2 ∨ i = 3 ∨ i = 4 := by omega
      all_goals
        clear hi1 hi
        go_wp2_with fail
        refine HC.out.mono ?_
        rintro e w2 ⟨rfl, hb2⟩
        have HB2 := Lib.hid (HBR.out.trans (hb2.mono HBR.out.size))
        clear hb2 c0 c1 c2 c3 HC
        go_wp2_with fail
        first
          | exact ⟨⟨2, rfl, rfl, by omega, HB2.out⟩, by simp [intOf]⟩
          | exact ⟨⟨3, rfl, rfl, by omega, HB2.out⟩, by simp [intOf]⟩
          | exact ⟨⟨4, rfl, rfl, by omega, HB2.out⟩, by simp [intOf]⟩
          | exact ⟨⟨5, rfl, rfl, by omega, HB2.out⟩, by simp [intOf]⟩
    · rw [show ((5 : Nat) : Int) = 5 from rfl, show ((if 5 = 0 then 0 else 1 : Nat) : Int) = 1 from rfl]
      have hOr := HO.out.below HBR.out HO.out.lt
      have k0 : wr.cell? ⟨w.heap.size + 1, 0, none⟩ = some (.int .i64 1) := hOr.cell 0
      have k1 : wr.cell? ⟨w.heap.size + 1, 1, none⟩ = some (.int .i64 0) := hOr.cell 1
      have k2 : wr.cell? ⟨w.heap.size + 1, 2, none⟩ = some (.int .i64 0) := hOr.cell 2
      have k3 : wr.cell? ⟨w.heap.size + 1, 3, none⟩ = some (.int .i64 0) := hOr.cell 3
      have k4 : wr.cell? ⟨w.heap.size + 1, 4, none⟩ = some (.int .i64 0) := hOr.cell 4
      have HFO := formed_any 1 0 0 0 0 wr
      rw [show formedO [1, 0, 0, 0, 0] = true from by decide] at HFO
      replace HFO := Lib.hid HFO
      clear hOr
      go_wp2_with fail
      refine HFO.out.mono ?_
      rintro e w3 ⟨rfl, hb3⟩
      have HB3 := Lib.hid (HBR.out.trans (hb3.mono HBR.out.size))
      have hF3 := HF.out.below HB3.out HF.out.lt
      have hO3 := HO.out.below HB3.out HO.out.lt
      clear hb3 c0 c1 c2 c3 k0 k1 k2 k3 k4 HFO
      have c0 : w3.cell? ⟨w.heap.size, 0, none⟩ = some (.int .i64 first) := hF3.cell 0
      have c1 : w3.cell? ⟨w.heap.size, 1, none⟩ = some (.int .i64 blocks) := hF3.cell 1
      have c2 : w3.cell? ⟨w.heap.size, 2, none⟩ = some (.int .i64 width) := hF3.cell 2
      have c3 : w3.cell? ⟨w.heap.size, 3, none⟩ = some (.int .i64 count) := hF3.cell 3
      have k0 : w3.cell? ⟨w.heap.size + 1, 0, none⟩ = some (.int .i64 1) := hO3.cell 0
      have k1 : w3.cell? ⟨w.heap.size + 1, 1, none⟩ = some (.int .i64 0) := hO3.cell 1
      have k2 : w3.cell? ⟨w.heap.size + 1, 2, none⟩ = some (.int .i64 0) := hO3.cell 2
      have k3 : w3.cell? ⟨w.heap.size + 1, 3, none⟩ = some (.int .i64 0) := hO3.cell 3
      have k4 : w3.cell? ⟨w.heap.size + 1, 4, none⟩ = some (.int .i64 0) := hO3.cell 4
      clear hF3 hO3
      go_wp2_with fail
      refine (HE.out w3 _).mono ?_
      rintro e w2 ⟨rfl, hb2⟩
      have HB2 := Lib.hid (HB3.out.trans (hb2.mono HB3.out.size))
      clear hb2 c0 c1 c2 c3 k0 k1 k2 k3 k4 HE
      have hRr := HR.out.below HB2.out HR.out.lt
      have z0 : w2.cell? ⟨w.heap.size + 1 + 1, 0, none⟩ = some (.int .i64 0) := hRr.cell 0
      have f0 := hRr.frozen 0
      have z1 : w2.cell? ⟨w.heap.size + 1 + 1, 1, none⟩ = some (.int .i64 0) := hRr.cell 1
      have f1 := hRr.frozen 1
      have z2 : w2.cell? ⟨w.heap.size + 1 + 1, 2, none⟩ = some (.int .i64 0) := hRr.cell 2
      have f2 := hRr.frozen 2
      have z3 : w2.cell? ⟨w.heap.size + 1 + 1, 3, none⟩ = some (.int .i64 0) := hRr.cell 3
      have f3 := hRr.frozen 3
      have HZ := Lib.hid ((((hRr.set_ 0 (.int .i64 0)).set_ 1 (.int .i64 0)).set_ 2 (.int .i64 0)).set_ 3 (.int .i64 0))
      have HBB := Lib.hid (((((HB.out.trans (HB2.out.mono HB.out.size)).setCell (p := ⟨w.heap.size + 1 + 1, 0, none⟩) (show w.heap.size ≤ w.heap.size + 1 + 1 by omega) (.int .i64 0)).setCell (p := ⟨w.heap.size + 1 + 1, 1, none⟩) (show w.heap.size ≤ w.heap.size + 1 + 1 by omega) (.int .i64 0)).setCell (p := ⟨w.heap.size + 1 + 1, 2, none⟩) (show w.heap.size ≤ w.heap.size + 1 + 1 by omega) (.int .i64 0)).setCell (p := ⟨w.heap.size + 1 + 1, 3, none⟩) (show w.heap.size ≤ w.heap.size + 1 + 1 by omega) (.int .i64 0))
      clear hRr
      go_wp2_with fail
      generalize ((((w2.setCell ⟨w.heap.size + 1 + 1, 0, none⟩ (.int .i64 0)).setCell ⟨w.heap.size + 1 + 1, 1, none⟩ (.int .i64 0)).setCell ⟨w.heap.size + 1 + 1, 2, none⟩ (.int .i64 0)).setCell ⟨w.heap.size + 1 + 1, 3, none⟩ (.int .i64 0)) = w9 at *
      have s0 : w9.cell? ⟨w.heap.size + 1 + 1, 0, none⟩ = some (.int .i64 0) := HZ.out.cell 0
      have s1 : w9.cell? ⟨w.heap.size + 1 + 1, 1, none⟩ = some (.int .i64 0) := HZ.out.cell 1
      have s2 : w9.cell? ⟨w.heap.size + 1 + 1, 2, none⟩ = some (.int .i64 0) := HZ.out.cell 2
      have s3 : w9.cell? ⟨w.heap.size + 1 + 1, 3, none⟩ = some (.int .i64 0) := HZ.out.cell 3
      refine bodyPost_ret (v := .tuple #[.agg #[.int .i64 0, .int .i64 0, .int .i64 0, .int .i64 0], .int .i64 1]) (by simp [results, Try.results21, go_sem, s0, s1, s2, s3]; try rfl) rfl ?_
      exact ⟨rfl, HBB.out⟩
end

end Go.Proofs.Ytlbaigkpojkfjaa.Fl
