/- join's functions without a work. -/
import Derived.Test.YtlbaigkpojkfjaaZJnCan
import Derived.Test.YtlbaigkpojkfjaaZJnCutC
set_option linter.unusedVariables false
namespace Go.Proofs.Ytlbaigkpojkfjaa.Fl
open Go.RowKit

/-- Nothing is made. -/
def NoMade (w : World) (er : Int) (e : Ending) (w' : World) : Prop := e = .returned (.tuple #[.agg noFile, .int .i64 er]) ∧ Below w.heap.size w w'

section
variable {w w' : World}
set_option maxRecDepth 100000 in
set_option maxHeartbeats 2000000 in
theorem each_none {F : Fn} {first blocks width count wM : Int} {bs : Array Value} {rv : Value} (w : World) (hN : ∀ w1, Below w.heap.size w w1 → Calls Try.prog 38 #[rv, .agg (fvals first blocks width count)] w1 (OpenNo w1 1)) : Calls Try.prog 32 #[rv, .agg #[.int .i64 first, .int .i64 blocks, .int .i64 width, .int .i64 count], .int .i64 wM, .func F bs #[]] w (NoMade w 1) := by
  have hZ := Blk.new (w.alloc (.cells #[.int .i64 first, .int .i64 blocks, .int .i64 width, .int .i64 count] 29)) 29 noFile
  rw [show (w.alloc (.cells #[.int .i64 first, .int .i64 blocks, .int .i64 width, .int .i64 count] 29)).heap.size = w.heap.size + 1 from by simp] at hZ
  have hF := (Blk.new w 29 #[.int .i64 first, .int .i64 blocks, .int .i64 width, .int .i64 count]).alloc (.cells noFile 29)
  have hbl : Below w.heap.size w ((w.alloc (.cells #[.int .i64 first, .int .i64 blocks, .int .i64 width, .int .i64 count] 29)).alloc (.cells noFile 29)) := ((Below.refl _ _).alloc (Nat.le_refl _) _).alloc (by simp) _
  have HZ := Lib.hid hZ
  have HF := Lib.hid hF
  have HBL := Lib.hid hbl
  unfold fvals at hN
  have HN := Lib.hid hN
  unfold NoMade
  unfold noFile at *
  clear hZ hF hbl hN
  go_enter_defers Try.func32, Try.ntmps32
  go_wp2_with fail
  generalize ((w.alloc (.cells #[.int .i64 first, .int .i64 blocks, .int .i64 width, .int .i64 count] 29)).alloc (.cells #[.int .i64 0, .int .i64 0, .int .i64 0, .int .i64 0] 29)) = w9 at *
  have k0 : w9.cell? ⟨w.heap.size, 0, none⟩ = some (.int .i64 first) := HF.out.cell 0
  have k1 : w9.cell? ⟨w.heap.size, 1, none⟩ = some (.int .i64 blocks) := HF.out.cell 1
  have k2 : w9.cell? ⟨w.heap.size, 2, none⟩ = some (.int .i64 width) := HF.out.cell 2
  have k3 : w9.cell? ⟨w.heap.size, 3, none⟩ = some (.int .i64 count) := HF.out.cell 3
  go_wp2_with fail
  refine (HN.out w9 HBL.out).mono ?_
  rintro e w2 ⟨rfl, hb2⟩
  have hR2 := HZ.out.below hb2 HZ.out.lt
  have HB2 := Lib.hid (HBL.out.trans (hb2.mono HBL.out.size))
  have p0 : w2.cell? ⟨w.heap.size + 1, 0, none⟩ = some (.int .i64 0) := hR2.cell 0
  have p1 : w2.cell? ⟨w.heap.size + 1, 1, none⟩ = some (.int .i64 0) := hR2.cell 1
  have p2 : w2.cell? ⟨w.heap.size + 1, 2, none⟩ = some (.int .i64 0) := hR2.cell 2
  have p3 : w2.cell? ⟨w.heap.size + 1, 3, none⟩ = some (.int .i64 0) := hR2.cell 3
  have g0 := hR2.frozen 0
  have g1 := hR2.frozen 1
  have g2 := hR2.frozen 2
  have g3 := hR2.frozen 3
  have HR3 := Lib.hid ((((hR2.set_ 0 (.int .i64 0)).set_ 1 (.int .i64 0)).set_ 2 (.int .i64 0)).set_ 3 (.int .i64 0))
  have HB3 := Lib.hid ((((HB2.out.setCell (p := ⟨w.heap.size + 1, 0, none⟩) (by simp) (.int .i64 0)).setCell (p := ⟨w.heap.size + 1, 1, none⟩) (by simp) (.int .i64 0)).setCell (p := ⟨w.heap.size + 1, 2, none⟩) (by simp) (.int .i64 0)).setCell (p := ⟨w.heap.size + 1, 3, none⟩) (by simp) (.int .i64 0))
  clear hR2 hb2
  go_wp2_with fail
  generalize ((((w2.setCell ⟨w.heap.size + 1, 0, none⟩ (.int .i64 0)).setCell ⟨w.heap.size + 1, 1, none⟩ (.int .i64 0)).setCell ⟨w.heap.size + 1, 2, none⟩ (.int .i64 0)).setCell ⟨w.heap.size + 1, 3, none⟩ (.int .i64 0)) = w3 at *
  have s0 : w3.cell? ⟨w.heap.size + 1, 0, none⟩ = some (.int .i64 0) := HR3.out.cell 0
  have s1 : w3.cell? ⟨w.heap.size + 1, 1, none⟩ = some (.int .i64 0) := HR3.out.cell 1
  have s2 : w3.cell? ⟨w.heap.size + 1, 2, none⟩ = some (.int .i64 0) := HR3.out.cell 2
  have s3 : w3.cell? ⟨w.heap.size + 1, 3, none⟩ = some (.int .i64 0) := HR3.out.cell 3
  refine ⟨.tuple #[.agg #[.int .i64 0, .int .i64 0, .int .i64 0, .int .i64 0], .int .i64 1], by simp [results, Try.results32, go_sem, s0, s1, s2, s3], ?_⟩
  exact ⟨rfl, HB3.out⟩

theorem each_nil {F : Fn} {first blocks width count wM : Int} {bs : Array Value} (w : World) : Calls Try.prog 32 #[.pointer none, .agg #[.int .i64 first, .int .i64 blocks, .int .i64 width, .int .i64 count], .int .i64 wM, .func F bs #[]] w (NoMade w 1) :=
  each_none w (fun w1 _ => open_nil first blocks width count w1)

set_option maxRecDepth 100000 in
set_option maxHeartbeats 2000000 in
theorem keep_none {first blocks width count col lo hi : Int} {rv : Value} (w : World) (hE : ∀ w1, Below w.heap.size w w1 → Calls Try.prog 32 #[rv, .agg #[.int .i64 first, .int .i64 blocks, .int .i64 width, .int .i64 count], .int .i64 width, .func (.func 42) #[.agg #[.int .i64 col, .int .i64 lo, .int .i64 hi]] #[]] w1 (NoMade w1 1)) : Calls Try.prog 18 #[rv, .agg #[.int .i64 first, .int .i64 blocks, .int .i64 width, .int .i64 count], .int .i64 col, .int .i64 lo, .int .i64 hi] w (NoMade w 1) := by
  by_cases hw : 0 ≤ col ∧ col < width ∧ col < 5
  · have hZ := Blk.new (w.alloc (.cells #[.int .i64 first, .int .i64 blocks, .int .i64 width, .int .i64 count] 29)) 29 noFile
    rw [show (w.alloc (.cells #[.int .i64 first, .int .i64 blocks, .int .i64 width, .int .i64 count] 29)).heap.size = w.heap.size + 1 from by simp] at hZ
    have hF := (Blk.new w 29 #[.int .i64 first, .int .i64 blocks, .int .i64 width, .int .i64 count]).alloc (.cells noFile 29)
    have hbl : Below w.heap.size w ((w.alloc (.cells #[.int .i64 first, .int .i64 blocks, .int .i64 width, .int .i64 count] 29)).alloc (.cells noFile 29)) := ((Below.refl _ _).alloc (Nat.le_refl _) _).alloc (by simp) _
    have HC := Lib.hid (column_any first blocks width count col)
    rw [show decide (0 ≤ col ∧ col < width ∧ col < 5) = true from by simpa using hw] at HC
    have HZ := Lib.hid hZ
    have HF := Lib.hid hF
    have HBL := Lib.hid hbl
    have HE := Lib.hid hE
    unfold NoMade at *
    unfold noFile at *
    clear hZ hbl hF hw hE
    go_enter Try.func18, Try.ntmps18
    go_wp2_with fail
    generalize ((w.alloc (.cells #[.int .i64 first, .int .i64 blocks, .int .i64 width, .int .i64 count] 29)).alloc (.cells #[.int .i64 0, .int .i64 0, .int .i64 0, .int .i64 0] 29)) = w9 at *
    have k0 : w9.cell? ⟨w.heap.size, 0, none⟩ = some (.int .i64 first) := HF.out.cell 0
    have k1 : w9.cell? ⟨w.heap.size, 1, none⟩ = some (.int .i64 blocks) := HF.out.cell 1
    have k2 : w9.cell? ⟨w.heap.size, 2, none⟩ = some (.int .i64 width) := HF.out.cell 2
    have k3 : w9.cell? ⟨w.heap.size, 3, none⟩ = some (.int .i64 count) := HF.out.cell 3
    go_wp2_with fail
    refine (HC.out w9).mono ?_
    rintro e w1 ⟨rfl, hb1⟩
    have HZ1 := Lib.hid (HZ.out.below hb1 HZ.out.lt)
    have HB1 := Lib.hid (HBL.out.trans (hb1.mono HBL.out.size))
    have hF1 := HF.out.below hb1 HF.out.lt
    have k0' : w1.cell? ⟨w.heap.size, 0, none⟩ = some (.int .i64 first) := hF1.cell 0
    have k1' : w1.cell? ⟨w.heap.size, 1, none⟩ = some (.int .i64 blocks) := hF1.cell 1
    have k2' : w1.cell? ⟨w.heap.size, 2, none⟩ = some (.int .i64 width) := hF1.cell 2
    have k3' : w1.cell? ⟨w.heap.size, 3, none⟩ = some (.int .i64 count) := hF1.cell 3
    clear hF1 hb1 k0 k1 k2 k3 HC
    go_wp2_with fail
    refine (HE.out w1 HB1.out).mono ?_
    rintro e w2 ⟨rfl, hb2⟩
    have hR2 := HZ1.out.below hb2 HZ1.out.lt
    have HB2 := Lib.hid (HB1.out.trans (hb2.mono HB1.out.size))
    have p0 : w2.cell? ⟨w.heap.size + 1, 0, none⟩ = some (.int .i64 0) := hR2.cell 0
    have p1 : w2.cell? ⟨w.heap.size + 1, 1, none⟩ = some (.int .i64 0) := hR2.cell 1
    have p2 : w2.cell? ⟨w.heap.size + 1, 2, none⟩ = some (.int .i64 0) := hR2.cell 2
    have p3 : w2.cell? ⟨w.heap.size + 1, 3, none⟩ = some (.int .i64 0) := hR2.cell 3
    have g0 := hR2.frozen 0
    have g1 := hR2.frozen 1
    have g2 := hR2.frozen 2
    have g3 := hR2.frozen 3
    have HR3 := Lib.hid ((((hR2.set_ 0 (.int .i64 0)).set_ 1 (.int .i64 0)).set_ 2 (.int .i64 0)).set_ 3 (.int .i64 0))
    have HB3 := Lib.hid ((((HB2.out.setCell (p := ⟨w.heap.size + 1, 0, none⟩) (by simp) (.int .i64 0)).setCell (p := ⟨w.heap.size + 1, 1, none⟩) (by simp) (.int .i64 0)).setCell (p := ⟨w.heap.size + 1, 2, none⟩) (by simp) (.int .i64 0)).setCell (p := ⟨w.heap.size + 1, 3, none⟩) (by simp) (.int .i64 0))
    clear hR2 hb2
    go_wp2_with fail
    generalize ((((w2.setCell ⟨w.heap.size + 1, 0, none⟩ (.int .i64 0)).setCell ⟨w.heap.size + 1, 1, none⟩ (.int .i64 0)).setCell ⟨w.heap.size + 1, 2, none⟩ (.int .i64 0)).setCell ⟨w.heap.size + 1, 3, none⟩ (.int .i64 0)) = w3 at *
    have s0 : w3.cell? ⟨w.heap.size + 1, 0, none⟩ = some (.int .i64 0) := HR3.out.cell 0
    have s1 : w3.cell? ⟨w.heap.size + 1, 1, none⟩ = some (.int .i64 0) := HR3.out.cell 1
    have s2 : w3.cell? ⟨w.heap.size + 1, 2, none⟩ = some (.int .i64 0) := HR3.out.cell 2
    have s3 : w3.cell? ⟨w.heap.size + 1, 3, none⟩ = some (.int .i64 0) := HR3.out.cell 3
    refine bodyPost_ret (v := .tuple #[.agg #[.int .i64 0, .int .i64 0, .int .i64 0, .int .i64 0], .int .i64 1]) (by simp [results, Try.results18, go_sem, s0, s1, s2, s3]; try rfl) rfl ?_
    exact ⟨rfl, HB3.out⟩
  · exact keep_arg hw

theorem keep_nil {first blocks width count col lo hi : Int} (w : World) : Calls Try.prog 18 #[.pointer none, .agg #[.int .i64 first, .int .i64 blocks, .int .i64 width, .int .i64 count], .int .i64 col, .int .i64 lo, .int .i64 hi] w (NoMade w 1) :=
  keep_none w (fun w1 _ => each_nil w1)

set_option maxRecDepth 100000 in
set_option maxHeartbeats 2000000 in
theorem number_nil {first blocks width count from_ : Int} (w : World) : Calls Try.prog 12 #[.pointer none, .agg #[.int .i64 first, .int .i64 blocks, .int .i64 width, .int .i64 count], .int .i64 from_] w (NoMade w 1) := by
  by_cases hw : width < 1 ∨ 5 ≤ width
  · exact number_arg (p := 0) hw
  · have h1 : 1 ≤ width := by omega
    have h4 : width ≤ 4 := by omega
    have hbl : Below w.heap.size w (((w.alloc (.cells #[.int .i64 first, .int .i64 blocks, .int .i64 width, .int .i64 count] 29)).alloc (.cells noFile 29)).alloc (.cells #[.int .i64 width, .int .i64 from_] 74)) := (((Below.refl _ _).alloc (Nat.le_refl _) _).alloc (by simp) _).alloc (by simp; omega) _
    have hZ := (Blk.new (w.alloc (.cells #[.int .i64 first, .int .i64 blocks, .int .i64 width, .int .i64 count] 29)) 29 noFile).alloc (.cells #[.int .i64 width, .int .i64 from_] 74)
    rw [show (w.alloc (.cells #[.int .i64 first, .int .i64 blocks, .int .i64 width, .int .i64 count] 29)).heap.size = w.heap.size + 1 from by simp] at hZ
    have HBL := Lib.hid hbl
    have HZ := Lib.hid hZ
    have HE := Lib.hid (fun w bs => each_nil (F := .func 33) (first := first) (blocks := blocks) (width := width) (count := count) (wM := width + 1) (bs := bs) w)
    unfold NoMade at *
    unfold noFile at *
    clear hbl hZ hw
    go_enter Try.func12, Try.ntmps12
    go_wp2_with fail
    generalize (((w.alloc (.cells #[.int .i64 first, .int .i64 blocks, .int .i64 width, .int .i64 count] 29)).alloc (.cells #[.int .i64 0, .int .i64 0, .int .i64 0, .int .i64 0] 29)).alloc (.cells #[.int .i64 width, .int .i64 from_] 74)) = w1 at *
    refine (HE.out w1 _).mono ?_
    rintro e w2 ⟨rfl, hb2⟩
    have hR2 := HZ.out.below hb2 HZ.out.lt
    have HB2 := Lib.hid (HBL.out.trans (hb2.mono HBL.out.size))
    have p0 : w2.cell? ⟨w.heap.size + 1, 0, none⟩ = some (.int .i64 0) := hR2.cell 0
    have p1 : w2.cell? ⟨w.heap.size + 1, 1, none⟩ = some (.int .i64 0) := hR2.cell 1
    have p2 : w2.cell? ⟨w.heap.size + 1, 2, none⟩ = some (.int .i64 0) := hR2.cell 2
    have p3 : w2.cell? ⟨w.heap.size + 1, 3, none⟩ = some (.int .i64 0) := hR2.cell 3
    have g0 := hR2.frozen 0
    have g1 := hR2.frozen 1
    have g2 := hR2.frozen 2
    have g3 := hR2.frozen 3
    have HR3 := Lib.hid ((((hR2.set_ 0 (.int .i64 0)).set_ 1 (.int .i64 0)).set_ 2 (.int .i64 0)).set_ 3 (.int .i64 0))
    have HB3 := Lib.hid ((((HB2.out.setCell (p := ⟨w.heap.size + 1, 0, none⟩) (by simp) (.int .i64 0)).setCell (p := ⟨w.heap.size + 1, 1, none⟩) (by simp) (.int .i64 0)).setCell (p := ⟨w.heap.size + 1, 2, none⟩) (by simp) (.int .i64 0)).setCell (p := ⟨w.heap.size + 1, 3, none⟩) (by simp) (.int .i64 0))
    clear hR2 hb2
    go_wp2_with fail
    generalize ((((w2.setCell ⟨w.heap.size + 1, 0, none⟩ (.int .i64 0)).setCell ⟨w.heap.size + 1, 1, none⟩ (.int .i64 0)).setCell ⟨w.heap.size + 1, 2, none⟩ (.int .i64 0)).setCell ⟨w.heap.size + 1, 3, none⟩ (.int .i64 0)) = w3 at *
    have s0 : w3.cell? ⟨w.heap.size + 1, 0, none⟩ = some (.int .i64 0) := HR3.out.cell 0
    have s1 : w3.cell? ⟨w.heap.size + 1, 1, none⟩ = some (.int .i64 0) := HR3.out.cell 1
    have s2 : w3.cell? ⟨w.heap.size + 1, 2, none⟩ = some (.int .i64 0) := HR3.out.cell 2
    have s3 : w3.cell? ⟨w.heap.size + 1, 3, none⟩ = some (.int .i64 0) := HR3.out.cell 3
    refine bodyPost_ret (v := .tuple #[.agg #[.int .i64 0, .int .i64 0, .int .i64 0, .int .i64 0], .int .i64 1]) (by simp [results, Try.results12, go_sem, s0, s1, s2, s3]; try rfl) rfl ?_
    exact ⟨rfl, HB3.out⟩
end

end Go.Proofs.Ytlbaigkpojkfjaa.Fl
