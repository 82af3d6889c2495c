/- Texts of mine, packed: JnCount, JnPass, FlLaw, TupEq, FlRefs, FlAwake, JnFine, JnNumber, JnLaw. -/
import Derived.Test.YtlbaigkpojkfjaaK2
import Derived.Test.YtlbaigkpojkfjaaK6
import Derived.Test.YtlbaigkpojkfjaaK11
import Derived.Test.YtlbaigkpojkfjaaK12
import Derived.Laws.StructEq
set_option linter.unusedVariables false

/- The walk of the counter's count. -/
namespace Go.Proofs.Ytlbaigkpojkfjaa.Fl
open Go.RowKit

section
variable {w w' : World} {O : Nat → Prop} {K : Key} {W : Wk}

set_option maxRecDepth 100000 in
set_option maxHeartbeats 2000000 in
theorem count_any {c at_ : Nat} {num v0 v1 v2 v3 v4 : Int} (hb : Blk w c 74 #[.int .i64 (at_ : Int), .int .i64 num]) (hat : at_ < 5) (hlo : -9223372036854775808 ≤ num) (hhi : num < 9223372036854775807) : Calls Try.prog 33 #[P c, .agg #[.int .i64 v0, .int .i64 v1, .int .i64 v2, .int .i64 v3, .int .i64 v4]] w (fun e w' => e = .returned (.tuple #[.agg ((#[.int .i64 v0, .int .i64 v1, .int .i64 v2, .int .i64 v3, .int .i64 v4] : Array Value).setIfInBounds at_ (.int .i64 num)), .bool true, .int .i64 0]) ∧ Blk w' c 74 #[.int .i64 (at_ : Int), .int .i64 (num + 1)] ∧ Chg (fun q => q = c) w w') := by
  have hT := Blk.new w 57 #[.int .i64 v0, .int .i64 v1, .int .i64 v2, .int .i64 v3, .int .i64 v4]
  have hB := hb.alloc (.cells #[.int .i64 v0, .int .i64 v1, .int .i64 v2, .int .i64 v3, .int .i64 v4] 57)
  have c0 : (w.alloc (.cells #[.int .i64 v0, .int .i64 v1, .int .i64 v2, .int .i64 v3, .int .i64 v4] 57)).cell? ⟨c, 0, none⟩ = some (.int .i64 (at_ : Int)) := hB.cell 0
  have c1 : (w.alloc (.cells #[.int .i64 v0, .int .i64 v1, .int .i64 v2, .int .i64 v3, .int .i64 v4] 57)).cell? ⟨c, 1, none⟩ = some (.int .i64 num) := hB.cell 1
  go_enter Try.func33, Try.ntmps33
  go_wp2_with fail
  have hT2 := hT.alloc (.cells #[.int .i64 0, .int .i64 0, .int .i64 0, .int .i64 0, .int .i64 0] 57)
  have hZ2 := Blk.new (w.alloc (.cells #[.int .i64 v0, .int .i64 v1, .int .i64 v2, .int .i64 v3, .int .i64 v4] 57)) 57 #[.int .i64 0, .int .i64 0, .int .i64 0, .int .i64 0, .int .i64 0]
  rw [show (w.alloc (.cells #[.int .i64 v0, .int .i64 v1, .int .i64 v2, .int .i64 v3, .int .i64 v4] 57)).heap.size = w.heap.size + 1 from by simp] at hZ2
  have hbl : Below w.heap.size w ((w.alloc (.cells #[.int .i64 v0, .int .i64 v1, .int .i64 v2, .int .i64 v3, .int .i64 v4] 57)).alloc (.cells #[.int .i64 0, .int .i64 0, .int .i64 0, .int .i64 0, .int .i64 0] 57)) := ((Below.refl _ _).alloc (Nat.le_refl _) _).alloc (by simp) _
  have hB2 := hB.alloc (.cells #[.int .i64 0, .int .i64 0, .int .i64 0, .int .i64 0, .int .i64 0] 57)
  generalize ((w.alloc (.cells #[.int .i64 v0, .int .i64 v1, .int .i64 v2, .int .i64 v3, .int .i64 v4] 57)).alloc (.cells #[.int .i64 0, .int .i64 0, .int .i64 0, .int .i64 0, .int .i64 0] 57)) = w1 at *
  clear c0 c1 hB hT
  have c0 : w1.cell? ⟨c, 0, none⟩ = some (.int .i64 (at_ : Int)) := hB2.cell 0
  have c1 : w1.cell? ⟨c, 1, none⟩ = some (.int .i64 num) := hB2.cell 1
  have hTd : Blk w1.drew w.heap.size 57 #[.int .i64 v0, .int .i64 v1, .int .i64 v2, .int .i64 v3, .int .i64 v4] := hT2
  have hBd : Blk w1.drew c 74 #[.int .i64 (at_ : Int), .int .i64 num] := hB2
  have d0 : w1.drew.cell? ⟨c, 0, none⟩ = some (.int .i64 (at_ : Int)) := hB2.cell 0
  have d1 : w1.drew.cell? ⟨c, 1, none⟩ = some (.int .i64 num) := hB2.cell 1
  have t0 : w1.drew.cell? ⟨w.heap.size, 0, none⟩ = some (.int .i64 v0) := hTd.cell 0
  have t1 : w1.drew.cell? ⟨w.heap.size, 1, none⟩ = some (.int .i64 v1) := hTd.cell 1
  have t2 : w1.drew.cell? ⟨w.heap.size, 2, none⟩ = some (.int .i64 v2) := hTd.cell 2
  have t3 : w1.drew.cell? ⟨w.heap.size, 3, none⟩ = some (.int .i64 v3) := hTd.cell 3
  have t4 : w1.drew.cell? ⟨w.heap.size, 4, none⟩ = some (.int .i64 v4) := hTd.cell 4
  have f0 := hTd.frozen 0
  have f1 := hTd.frozen 1
  have f2 := hTd.frozen 2
  have f3 := hTd.frozen 3
  have f4 := hTd.frozen 4
  have fc0 := hBd.frozen 0
  have fc1 := hBd.frozen 1
  have r0 : w1.cell? ⟨w.heap.size, 0, none⟩ = some (.int .i64 v0) := hT2.cell 0
  have q0 := hT2.frozen 0
  have r1 : w1.cell? ⟨w.heap.size, 1, none⟩ = some (.int .i64 v1) := hT2.cell 1
  have q1 := hT2.frozen 1
  have r2 : w1.cell? ⟨w.heap.size, 2, none⟩ = some (.int .i64 v2) := hT2.cell 2
  have q2 := hT2.frozen 2
  have r3 : w1.cell? ⟨w.heap.size, 3, none⟩ = some (.int .i64 v3) := hT2.cell 3
  have q3 := hT2.frozen 3
  have r4 : w1.cell? ⟨w.heap.size, 4, none⟩ = some (.int .i64 v4) := hT2.cell 4
  have q4 := hT2.frozen 4
  have qc0 := hB2.frozen 0
  have qc1 := hB2.frozen 1
  have z0 : w1.cell? ⟨w.heap.size + 1, 0, none⟩ = some (.int .i64 0) := hZ2.cell 0
  have y0 := hZ2.frozen 0
  have z1 : w1.cell? ⟨w.heap.size + 1, 1, none⟩ = some (.int .i64 0) := hZ2.cell 1
  have y1 := hZ2.frozen 1
  have z2 : w1.cell? ⟨w.heap.size + 1, 2, none⟩ = some (.int .i64 0) := hZ2.cell 2
  have y2 := hZ2.frozen 2
  have z3 : w1.cell? ⟨w.heap.size + 1, 3, none⟩ = some (.int .i64 0) := hZ2.cell 3
  have y3 := hZ2.frozen 3
  have z4 : w1.cell? ⟨w.heap.size + 1, 4, none⟩ = some (.int .i64 0) := hZ2.cell 4
  have y4 := hZ2.frozen 4
  have hnz : c ≠ w.heap.size + 1 := by have := hb.lt; omega
  have hnz' : w.heap.size + 1 ≠ c := Ne.symm hnz
  have HZ2 := Lib.hid hZ2
  have HBL := Lib.hid hbl
  have HB2 := Lib.hid hB2
  have HQ : Hid ((w.heap.size < w.heap.size → w.heap.size = c) ∧ (c < w.heap.size → c = c) ∧ (w.heap.size + 1 < w.heap.size → w.heap.size + 1 = c)) := Lib.hid ⟨fun h => by omega, fun h => rfl, fun h => by omega⟩
  have HNZ : Hid (c ≠ w.heap.size ∧ w.heap.size + 1 ≠ c) := Lib.hid ⟨by have := hb.lt; omega, hnz'⟩
  have hne : c ≠ w.heap.size := by have := hb.lt; omega
  have hne' : w.heap.size ≠ c := Ne.symm hne
  have HTD := Lib.hid hTd
  have HBD := Lib.hid hBd
  have HNE := Lib.hid hne
  clear hTd hBd hT2 hB2 hZ2 hbl hb
  obtain rfl | rfl | rfl | rfl | rfl : at_ = 0 ∨ at_ = 1 ∨ at_ = 2 ∨ at_ = 3 ∨ at_ = 4 := by omega
  · go_still_tail 9, (by kernel_rfl)
    change wpList _ _ _ _ _ w1.drew
    go_wp2_with fail
    have hZ9 := ((((((((HZ2.out.far (p := ⟨w.heap.size, 0, none⟩) (by simp) (.int .i64 num)).far (p := ⟨c, 1, none⟩) HNZ.out.2 (.int .i64 (num + 1))).set_ 0 (.int .i64 num)).set_ 1 (.int .i64 v1)).set_ 2 (.int .i64 v2)).set_ 3 (.int .i64 v3)).set_ 4 (.int .i64 v4))).drew
    have hB9 := (((((((HB2.out.far (p := ⟨w.heap.size, 0, none⟩) HNZ.out.1 (.int .i64 num)).set_ 1 (.int .i64 (num + 1))).far (p := ⟨w.heap.size + 1, 0, none⟩) HNZ.out.2.symm (.int .i64 num)).far (p := ⟨w.heap.size + 1, 1, none⟩) HNZ.out.2.symm (.int .i64 v1)).far (p := ⟨w.heap.size + 1, 2, none⟩) HNZ.out.2.symm (.int .i64 v2)).far (p := ⟨w.heap.size + 1, 3, none⟩) HNZ.out.2.symm (.int .i64 v3)).far (p := ⟨w.heap.size + 1, 4, none⟩) HNZ.out.2.symm (.int .i64 v4)).drew
    have hT9 := ((((((((Chg.of_below' (S := fun q => q = c) HBL.out).setCell ⟨w.heap.size, 0, none⟩ (.int .i64 num) HQ.out.1).setCell ⟨c, 1, none⟩ (.int .i64 (num + 1)) (fun _ => rfl)).setCell ⟨w.heap.size + 1, 0, none⟩ (.int .i64 num) HQ.out.2.2).setCell ⟨w.heap.size + 1, 1, none⟩ (.int .i64 v1) HQ.out.2.2).setCell ⟨w.heap.size + 1, 2, none⟩ (.int .i64 v2) HQ.out.2.2).setCell ⟨w.heap.size + 1, 3, none⟩ (.int .i64 v3) HQ.out.2.2).setCell ⟨w.heap.size + 1, 4, none⟩ (.int .i64 v4) HQ.out.2.2).drew
    generalize (((((((w1.setCell ⟨w.heap.size, 0, none⟩ (.int .i64 num)).setCell ⟨c, 1, none⟩ (.int .i64 (num + 1))).setCell ⟨w.heap.size + 1, 0, none⟩ (.int .i64 num)).setCell ⟨w.heap.size + 1, 1, none⟩ (.int .i64 v1)).setCell ⟨w.heap.size + 1, 2, none⟩ (.int .i64 v2)).setCell ⟨w.heap.size + 1, 3, none⟩ (.int .i64 v3)).setCell ⟨w.heap.size + 1, 4, none⟩ (.int .i64 v4)).drew = w9 at *
    have s0 : w9.cell? ⟨w.heap.size + 1, 0, none⟩ = some (.int .i64 num) := hZ9.cell 0
    have s1 : w9.cell? ⟨w.heap.size + 1, 1, none⟩ = some (.int .i64 v1) := hZ9.cell 1
    have s2 : w9.cell? ⟨w.heap.size + 1, 2, none⟩ = some (.int .i64 v2) := hZ9.cell 2
    have s3 : w9.cell? ⟨w.heap.size + 1, 3, none⟩ = some (.int .i64 v3) := hZ9.cell 3
    have s4 : w9.cell? ⟨w.heap.size + 1, 4, none⟩ = some (.int .i64 v4) := hZ9.cell 4
    refine bodyPost_ret (v := .tuple #[.agg #[.int .i64 num, .int .i64 v1, .int .i64 v2, .int .i64 v3, .int .i64 v4], .bool true, .int .i64 0]) (by simp [results, Try.results33, go_sem, s0, s1, s2, s3, s4]; try rfl) rfl ?_
    exact ⟨rfl, hB9, hT9⟩
  · go_still_tail 9, (by kernel_rfl)
    change wpList _ _ _ _ _ w1.drew
    go_wp2_with fail
    have hZ9 := ((((((((HZ2.out.far (p := ⟨w.heap.size, 1, none⟩) (by simp) (.int .i64 num)).far (p := ⟨c, 1, none⟩) HNZ.out.2 (.int .i64 (num + 1))).set_ 0 (.int .i64 v0)).set_ 1 (.int .i64 num)).set_ 2 (.int .i64 v2)).set_ 3 (.int .i64 v3)).set_ 4 (.int .i64 v4))).drew
    have hB9 := (((((((HB2.out.far (p := ⟨w.heap.size, 1, none⟩) HNZ.out.1 (.int .i64 num)).set_ 1 (.int .i64 (num + 1))).far (p := ⟨w.heap.size + 1, 0, none⟩) HNZ.out.2.symm (.int .i64 v0)).far (p := ⟨w.heap.size + 1, 1, none⟩) HNZ.out.2.symm (.int .i64 num)).far (p := ⟨w.heap.size + 1, 2, none⟩) HNZ.out.2.symm (.int .i64 v2)).far (p := ⟨w.heap.size + 1, 3, none⟩) HNZ.out.2.symm (.int .i64 v3)).far (p := ⟨w.heap.size + 1, 4, none⟩) HNZ.out.2.symm (.int .i64 v4)).drew
    have hT9 := ((((((((Chg.of_below' (S := fun q => q = c) HBL.out).setCell ⟨w.heap.size, 1, none⟩ (.int .i64 num) HQ.out.1).setCell ⟨c, 1, none⟩ (.int .i64 (num + 1)) (fun _ => rfl)).setCell ⟨w.heap.size + 1, 0, none⟩ (.int .i64 v0) HQ.out.2.2).setCell ⟨w.heap.size + 1, 1, none⟩ (.int .i64 num) HQ.out.2.2).setCell ⟨w.heap.size + 1, 2, none⟩ (.int .i64 v2) HQ.out.2.2).setCell ⟨w.heap.size + 1, 3, none⟩ (.int .i64 v3) HQ.out.2.2).setCell ⟨w.heap.size + 1, 4, none⟩ (.int .i64 v4) HQ.out.2.2).drew
    generalize (((((((w1.setCell ⟨w.heap.size, 1, none⟩ (.int .i64 num)).setCell ⟨c, 1, none⟩ (.int .i64 (num + 1))).setCell ⟨w.heap.size + 1, 0, none⟩ (.int .i64 v0)).setCell ⟨w.heap.size + 1, 1, none⟩ (.int .i64 num)).setCell ⟨w.heap.size + 1, 2, none⟩ (.int .i64 v2)).setCell ⟨w.heap.size + 1, 3, none⟩ (.int .i64 v3)).setCell ⟨w.heap.size + 1, 4, none⟩ (.int .i64 v4)).drew = w9 at *
    have s0 : w9.cell? ⟨w.heap.size + 1, 0, none⟩ = some (.int .i64 v0) := hZ9.cell 0
    have s1 : w9.cell? ⟨w.heap.size + 1, 1, none⟩ = some (.int .i64 num) := hZ9.cell 1
    have s2 : w9.cell? ⟨w.heap.size + 1, 2, none⟩ = some (.int .i64 v2) := hZ9.cell 2
    have s3 : w9.cell? ⟨w.heap.size + 1, 3, none⟩ = some (.int .i64 v3) := hZ9.cell 3
    have s4 : w9.cell? ⟨w.heap.size + 1, 4, none⟩ = some (.int .i64 v4) := hZ9.cell 4
    refine bodyPost_ret (v := .tuple #[.agg #[.int .i64 v0, .int .i64 num, .int .i64 v2, .int .i64 v3, .int .i64 v4], .bool true, .int .i64 0]) (by simp [results, Try.results33, go_sem, s0, s1, s2, s3, s4]; try rfl) rfl ?_
    exact ⟨rfl, hB9, hT9⟩
  · go_still_tail 9, (by kernel_rfl)
    change wpList _ _ _ _ _ w1.drew
    go_wp2_with fail
    have hZ9 := ((((((((HZ2.out.far (p := ⟨w.heap.size, 2, none⟩) (by simp) (.int .i64 num)).far (p := ⟨c, 1, none⟩) HNZ.out.2 (.int .i64 (num + 1))).set_ 0 (.int .i64 v0)).set_ 1 (.int .i64 v1)).set_ 2 (.int .i64 num)).set_ 3 (.int .i64 v3)).set_ 4 (.int .i64 v4))).drew
    have hB9 := (((((((HB2.out.far (p := ⟨w.heap.size, 2, none⟩) HNZ.out.1 (.int .i64 num)).set_ 1 (.int .i64 (num + 1))).far (p := ⟨w.heap.size + 1, 0, none⟩) HNZ.out.2.symm (.int .i64 v0)).far (p := ⟨w.heap.size + 1, 1, none⟩) HNZ.out.2.symm (.int .i64 v1)).far (p := ⟨w.heap.size + 1, 2, none⟩) HNZ.out.2.symm (.int .i64 num)).far (p := ⟨w.heap.size + 1, 3, none⟩) HNZ.out.2.symm (.int .i64 v3)).far (p := ⟨w.heap.size + 1, 4, none⟩) HNZ.out.2.symm (.int .i64 v4)).drew
    have hT9 := ((((((((Chg.of_below' (S := fun q => q = c) HBL.out).setCell ⟨w.heap.size, 2, none⟩ (.int .i64 num) HQ.out.1).setCell ⟨c, 1, none⟩ (.int .i64 (num + 1)) (fun _ => rfl)).setCell ⟨w.heap.size + 1, 0, none⟩ (.int .i64 v0) HQ.out.2.2).setCell ⟨w.heap.size + 1, 1, none⟩ (.int .i64 v1) HQ.out.2.2).setCell ⟨w.heap.size + 1, 2, none⟩ (.int .i64 num) HQ.out.2.2).setCell ⟨w.heap.size + 1, 3, none⟩ (.int .i64 v3) HQ.out.2.2).setCell ⟨w.heap.size + 1, 4, none⟩ (.int .i64 v4) HQ.out.2.2).drew
    generalize (((((((w1.setCell ⟨w.heap.size, 2, none⟩ (.int .i64 num)).setCell ⟨c, 1, none⟩ (.int .i64 (num + 1))).setCell ⟨w.heap.size + 1, 0, none⟩ (.int .i64 v0)).setCell ⟨w.heap.size + 1, 1, none⟩ (.int .i64 v1)).setCell ⟨w.heap.size + 1, 2, none⟩ (.int .i64 num)).setCell ⟨w.heap.size + 1, 3, none⟩ (.int .i64 v3)).setCell ⟨w.heap.size + 1, 4, none⟩ (.int .i64 v4)).drew = w9 at *
    have s0 : w9.cell? ⟨w.heap.size + 1, 0, none⟩ = some (.int .i64 v0) := hZ9.cell 0
    have s1 : w9.cell? ⟨w.heap.size + 1, 1, none⟩ = some (.int .i64 v1) := hZ9.cell 1
    have s2 : w9.cell? ⟨w.heap.size + 1, 2, none⟩ = some (.int .i64 num) := hZ9.cell 2
    have s3 : w9.cell? ⟨w.heap.size + 1, 3, none⟩ = some (.int .i64 v3) := hZ9.cell 3
    have s4 : w9.cell? ⟨w.heap.size + 1, 4, none⟩ = some (.int .i64 v4) := hZ9.cell 4
    refine bodyPost_ret (v := .tuple #[.agg #[.int .i64 v0, .int .i64 v1, .int .i64 num, .int .i64 v3, .int .i64 v4], .bool true, .int .i64 0]) (by simp [results, Try.results33, go_sem, s0, s1, s2, s3, s4]; try rfl) rfl ?_
    exact ⟨rfl, hB9, hT9⟩
  · go_still_tail 9, (by kernel_rfl)
    change wpList _ _ _ _ _ w1.drew
    go_wp2_with fail
    have hZ9 := ((((((((HZ2.out.far (p := ⟨w.heap.size, 3, none⟩) (by simp) (.int .i64 num)).far (p := ⟨c, 1, none⟩) HNZ.out.2 (.int .i64 (num + 1))).set_ 0 (.int .i64 v0)).set_ 1 (.int .i64 v1)).set_ 2 (.int .i64 v2)).set_ 3 (.int .i64 num)).set_ 4 (.int .i64 v4))).drew
    have hB9 := (((((((HB2.out.far (p := ⟨w.heap.size, 3, none⟩) HNZ.out.1 (.int .i64 num)).set_ 1 (.int .i64 (num + 1))).far (p := ⟨w.heap.size + 1, 0, none⟩) HNZ.out.2.symm (.int .i64 v0)).far (p := ⟨w.heap.size + 1, 1, none⟩) HNZ.out.2.symm (.int .i64 v1)).far (p := ⟨w.heap.size + 1, 2, none⟩) HNZ.out.2.symm (.int .i64 v2)).far (p := ⟨w.heap.size + 1, 3, none⟩) HNZ.out.2.symm (.int .i64 num)).far (p := ⟨w.heap.size + 1, 4, none⟩) HNZ.out.2.symm (.int .i64 v4)).drew
    have hT9 := ((((((((Chg.of_below' (S := fun q => q = c) HBL.out).setCell ⟨w.heap.size, 3, none⟩ (.int .i64 num) HQ.out.1).setCell ⟨c, 1, none⟩ (.int .i64 (num + 1)) (fun _ => rfl)).setCell ⟨w.heap.size + 1, 0, none⟩ (.int .i64 v0) HQ.out.2.2).setCell ⟨w.heap.size + 1, 1, none⟩ (.int .i64 v1) HQ.out.2.2).setCell ⟨w.heap.size + 1, 2, none⟩ (.int .i64 v2) HQ.out.2.2).setCell ⟨w.heap.size + 1, 3, none⟩ (.int .i64 num) HQ.out.2.2).setCell ⟨w.heap.size + 1, 4, none⟩ (.int .i64 v4) HQ.out.2.2).drew
    generalize (((((((w1.setCell ⟨w.heap.size, 3, none⟩ (.int .i64 num)).setCell ⟨c, 1, none⟩ (.int .i64 (num + 1))).setCell ⟨w.heap.size + 1, 0, none⟩ (.int .i64 v0)).setCell ⟨w.heap.size + 1, 1, none⟩ (.int .i64 v1)).setCell ⟨w.heap.size + 1, 2, none⟩ (.int .i64 v2)).setCell ⟨w.heap.size + 1, 3, none⟩ (.int .i64 num)).setCell ⟨w.heap.size + 1, 4, none⟩ (.int .i64 v4)).drew = w9 at *
    have s0 : w9.cell? ⟨w.heap.size + 1, 0, none⟩ = some (.int .i64 v0) := hZ9.cell 0
    have s1 : w9.cell? ⟨w.heap.size + 1, 1, none⟩ = some (.int .i64 v1) := hZ9.cell 1
    have s2 : w9.cell? ⟨w.heap.size + 1, 2, none⟩ = some (.int .i64 v2) := hZ9.cell 2
    have s3 : w9.cell? ⟨w.heap.size + 1, 3, none⟩ = some (.int .i64 num) := hZ9.cell 3
    have s4 : w9.cell? ⟨w.heap.size + 1, 4, none⟩ = some (.int .i64 v4) := hZ9.cell 4
    refine bodyPost_ret (v := .tuple #[.agg #[.int .i64 v0, .int .i64 v1, .int .i64 v2, .int .i64 num, .int .i64 v4], .bool true, .int .i64 0]) (by simp [results, Try.results33, go_sem, s0, s1, s2, s3, s4]; try rfl) rfl ?_
    exact ⟨rfl, hB9, hT9⟩
  · go_still_tail 9, (by kernel_rfl)
    change wpList _ _ _ _ _ w1.drew
    go_wp2_with fail
    have hZ9 := ((((((((HZ2.out.far (p := ⟨w.heap.size, 4, none⟩) (by simp) (.int .i64 num)).far (p := ⟨c, 1, none⟩) HNZ.out.2 (.int .i64 (num + 1))).set_ 0 (.int .i64 v0)).set_ 1 (.int .i64 v1)).set_ 2 (.int .i64 v2)).set_ 3 (.int .i64 v3)).set_ 4 (.int .i64 num))).drew
    have hB9 := (((((((HB2.out.far (p := ⟨w.heap.size, 4, none⟩) HNZ.out.1 (.int .i64 num)).set_ 1 (.int .i64 (num + 1))).far (p := ⟨w.heap.size + 1, 0, none⟩) HNZ.out.2.symm (.int .i64 v0)).far (p := ⟨w.heap.size + 1, 1, none⟩) HNZ.out.2.symm (.int .i64 v1)).far (p := ⟨w.heap.size + 1, 2, none⟩) HNZ.out.2.symm (.int .i64 v2)).far (p := ⟨w.heap.size + 1, 3, none⟩) HNZ.out.2.symm (.int .i64 v3)).far (p := ⟨w.heap.size + 1, 4, none⟩) HNZ.out.2.symm (.int .i64 num)).drew
    have hT9 := ((((((((Chg.of_below' (S := fun q => q = c) HBL.out).setCell ⟨w.heap.size, 4, none⟩ (.int .i64 num) HQ.out.1).setCell ⟨c, 1, none⟩ (.int .i64 (num + 1)) (fun _ => rfl)).setCell ⟨w.heap.size + 1, 0, none⟩ (.int .i64 v0) HQ.out.2.2).setCell ⟨w.heap.size + 1, 1, none⟩ (.int .i64 v1) HQ.out.2.2).setCell ⟨w.heap.size + 1, 2, none⟩ (.int .i64 v2) HQ.out.2.2).setCell ⟨w.heap.size + 1, 3, none⟩ (.int .i64 v3) HQ.out.2.2).setCell ⟨w.heap.size + 1, 4, none⟩ (.int .i64 num) HQ.out.2.2).drew
    generalize (((((((w1.setCell ⟨w.heap.size, 4, none⟩ (.int .i64 num)).setCell ⟨c, 1, none⟩ (.int .i64 (num + 1))).setCell ⟨w.heap.size + 1, 0, none⟩ (.int .i64 v0)).setCell ⟨w.heap.size + 1, 1, none⟩ (.int .i64 v1)).setCell ⟨w.heap.size + 1, 2, none⟩ (.int .i64 v2)).setCell ⟨w.heap.size + 1, 3, none⟩ (.int .i64 v3)).setCell ⟨w.heap.size + 1, 4, none⟩ (.int .i64 num)).drew = w9 at *
    have s0 : w9.cell? ⟨w.heap.size + 1, 0, none⟩ = some (.int .i64 v0) := hZ9.cell 0
    have s1 : w9.cell? ⟨w.heap.size + 1, 1, none⟩ = some (.int .i64 v1) := hZ9.cell 1
    have s2 : w9.cell? ⟨w.heap.size + 1, 2, none⟩ = some (.int .i64 v2) := hZ9.cell 2
    have s3 : w9.cell? ⟨w.heap.size + 1, 3, none⟩ = some (.int .i64 v3) := hZ9.cell 3
    have s4 : w9.cell? ⟨w.heap.size + 1, 4, none⟩ = some (.int .i64 num) := hZ9.cell 4
    refine bodyPost_ret (v := .tuple #[.agg #[.int .i64 v0, .int .i64 v1, .int .i64 v2, .int .i64 v3, .int .i64 num], .bool true, .int .i64 0]) (by simp [results, Try.results33, go_sem, s0, s1, s2, s3, s4]; try rfl) rfl ?_
    exact ⟨rfl, hB9, hT9⟩

/-- The counter as a maker. -/
theorem count_maker {c at_ : Nat} {from_ : Int} {l : List Tup} (hat : at_ < 5) (h5 : ∀ t ∈ l, t.length = 5) (hlo : -9223372036854775808 ≤ from_) (hhi : from_ + l.length < 9223372036854775807) :
    Maker 33 (P c) K (fun q => q = c) (fun k w => Blk w c 74 #[.int .i64 (at_ : Int), .int .i64 (from_ + (k : Int))]) l (fun k => (l.getD k []).set at_ (BitVec.ofInt 64 (from_ + (k : Int)))) (fun _ => true) where
  call := by
    intro k hk w O W hI hJ
    have h5k : l[k].length = 5 := h5 _ (List.getElem_mem hk)
    have hg : l.getD k [] = l[k] := by simp [hk]
    obtain ⟨a, b, c', d, e, hl⟩ : ∃ a b c d e : BitVec 64, l[k] = [a, b, c, d, e] := by
      match l[k], h5k with
      | [a, b, c, d, e], _ => exact ⟨_, _, _, _, _, rfl⟩
    have hv : (BitVec.ofInt 64 (from_ + (k : Int))).toInt = from_ + (k : Int) := by
      rw [BitVec.toInt_ofInt]
      simp only [Int.bmod_def]
      omega
    simp only [hg]
    rw [hl]
    refine (count_any hJ hat (by omega) (by omega)).mono ?_
    rintro e w' ⟨rfl, hB, hC⟩
    refine ⟨?_, hI.aside hC (fun q hq => ?_), ?_, Chg.mono hC (fun q _ hq => .inr (.inr (.inr (.inr (.inr (.inr (.inr (.inr hq))))))))⟩
    · obtain rfl | rfl | rfl | rfl | rfl : at_ = 0 ∨ at_ = 1 ∨ at_ = 2 ∨ at_ = 3 ∨ at_ = 4 := by omega
      all_goals simp [icells, hv]
    · subst hq
      exact ⟨_, _, hJ, by decide, by decide, by decide, by decide, by decide, by decide, by decide, fun h => absurd h (by decide)⟩
    · rw [show from_ + ((k + 1 : Nat) : Int) = from_ + (k : Int) + 1 from by omega]
      exact hB
  stay := fun k w w' O W E hJ hI ht hE => hI.blk ht hJ (by decide) (by decide) (by decide) (by decide) (by decide) (hE c rfl)
  five := by
    intro k hk
    have hg : l.getD k [] = l[k] := by simp [hk]
    show ((l.getD k []).set at_ _).length = 5
    rw [List.length_set, hg]
    exact h5 _ (List.getElem_mem hk)
  enter := fun args w => rfl
end

end Go.Proofs.Ytlbaigkpojkfjaa.Fl

/- What each returns, passed on through a result of one's own. -/
namespace Go.Proofs.Ytlbaigkpojkfjaa.Fl
open Go.RowKit

section
variable {w w' : World} {O : Nat → Prop} {K : Key} {W : Wk}

theorem each_pass {w1 w2 : World} {Ej : Nat → Prop} {wM bound rb : Nat} {out : List Tup} {JE : Nat → World → (Nat → Prop) → Wk → Prop} {h0 : Nat} {Why : Int → Prop} {e : Ending} (hS : Stays K Ej JE) (hI : WkI w1 O K W) (hR : Blk w1 rb 29 noFile) (hrb : w.heap.size ≤ rb) (hej : ∀ q, Ej q → w.heap.size ≤ q) (hnr : ¬ Ej rb) (hb : Below w.heap.size w w1) (h : EachC w1 O K W Ej wM bound out JE h0 Why e w2) :
    ∃ a b c d er : Int, e = .returned (.tuple #[.agg #[.int .i64 a, .int .i64 b, .int .i64 c, .int .i64 d], .int .i64 er]) ∧ Blk w2 rb 29 noFile ∧ Blk (four w2 rb (.int .i64 a) (.int .i64 b) (.int .i64 c) (.int .i64 d)) rb 29 #[.int .i64 a, .int .i64 b, .int .i64 c, .int .i64 d] ∧ EachC w O K W (fun _ => False) wM bound out JE h0 Why e (four w2 rb (.int .i64 a) (.int .i64 b) (.int .i64 c) (.int .i64 d)) := by
  obtain ⟨W', O', hO, hI2, ht, hh⟩ := h
  have hR2 := hI.blk ht hR (by decide) (by decide) (by decide) (by decide) (by decide) hnr
  have key : ∀ a b c d, WkI (four w2 rb a b c d) O' K W' ∧ Blk (four w2 rb a b c d) rb 29 #[a, b, c, d] ∧ Turn K (fun _ => False) w (four w2 rb a b c d) ∧ Okin w (four w2 rb a b c d) O O' ∧ ∀ h', JE h' w2 O' W' → JE h' (four w2 rb a b c d) O' W' := by
    intro a b c d
    obtain ⟨h1, h2, h3⟩ := four_store hI2 hR2 a b c d
    have hT : Turn K (fun q => w.heap.size ≤ q) w (four w2 rb a b c d) := ((Turn.below hb).trans (ht.mono hej)).trans (h3.mono (fun q e => by rw [e]; exact hrb))
    refine ⟨h1, h2, turn_fresh2 hT (fun q hq => .inl hq), ?_, fun h' hj => hS.same hj hI2 h3 (fun g hg e => hnr (by rw [← e]; exact hg)) (fun _ _ h => h)⟩
    exact ⟨fun g hg => hO.1 g (by have := h3.size; omega), fun g hg h => hO.2 g (by have := hb.size; omega) h⟩
  rcases hh with ⟨first, rfl, hok, hj⟩ | ⟨er, h', her, rfl, hno, hj⟩
  · obtain ⟨k1, k2, k3, k4, k5⟩ := key (.int .i64 (first : Int)) (.int .i64 (nB W.D.size wM out.length : Int)) (.int .i64 (wM : Int)) (.int .i64 (out.length : Int))
    exact ⟨_, _, _, _, 0, rfl, hR2, k2, W', O', k4, k1, k3, .inl ⟨first, rfl, hok, k5 _ hj⟩⟩
  · obtain ⟨k1, k2, k3, k4, k5⟩ := key (.int .i64 0) (.int .i64 0) (.int .i64 0) (.int .i64 0)
    exact ⟨_, _, _, _, er, rfl, hR2, k2, W', O', k4, k1, k3, .inr ⟨er, h', her, rfl, hno, k5 _ hj⟩⟩
end

end Go.Proofs.Ytlbaigkpojkfjaa.Fl

/- Chapter 10's laws: the work that they make, the references, what the laws ask of a work. -/
namespace Go.Proofs.Ytlbaigkpojkfjaa.Fl
open Go.RowKit

theorem Turn.belowB {w0 w w' : World} {O : Nat → Prop} {K : Key} {W : Wk} {E : Nat → Prop} (hI : WkI w O K W) (hK : K.base = w0.heap.size) (hE : ∀ k, E k → w0.heap.size ≤ k) (hb : Below w0.heap.size w0 w) (ht : Turn K E w w') : Below w0.heap.size w0 w' :=
  hb.trans (Chg.below_of ht hb.size (fun k hk hf => hI.under (E := E) (by omega) (fun h => by have := hE k h; omega) hf))

def O0 (K : Key) (g : Nat) : Prop := K.base ≤ g
def wk0 (size blocks : Nat) (room : Int) : Wk := ⟨Dev.fresh size blocks, ⟨room.toNat, 0, 0, []⟩, blocks, Sp.wholeL 0 blocks⟩
def WorkOk (w : World) (S B : Nat) (room : Int) (e : Ending) (w' : World) : Prop :=
  ∃ K, e = .returned (.tuple #[P K.wk, .bool true]) ∧ WkI w' (O0 K) K (wk0 S B room) ∧ K.base = w.heap.size ∧ Below w.heap.size w w'
/-- file.New of three that there are. -/
theorem newfile_any (d a s : Nat) (w : World) : Calls Try.prog 27 #[P d, P a, P s] w fun e w' => e = .returned (P w.heap.size) ∧ w' = w.alloc (.cells #[P d, P a, P s] 97) := by
  go_enter Try.func27, Try.ntmps27
  go_wp2_with fail
  go_ret
  exact ⟨rfl, rfl⟩

/-- The parts of a work, made one behind another. -/
theorem work_parts {w w2 w5 : World} {S B : Nat} {room : Int} {d rl rn a r s g : Nat} {v : Value} (hd : Dev.At w2 (fun g => w.heap.size ≤ g) d rl rn (.slice none 0 0) (Dev.fresh S B)) (hb2 : Below w.heap.size w w2) (hb5 : Below w2.heap.size w2 w5)
    (ha : Arena.At w5 a r ⟨room.toNat, 0, 0, []⟩) (hs : Sp.SpAt w5 s 0 B v (Sp.wholeL 0 B) w2.heap.size) (hg : Blk w5 g 97 #[P d, P a, P s]) (q1 : w2.heap.size ≤ r) (q2 : w2.heap.size ≤ a) (q3 : w2.heap.size ≤ s) (q4 : w2.heap.size ≤ g) (q5 : w.heap.size ≤ d) (q6 : w.heap.size ≤ rl) (q7 : w.heap.size ≤ rn) (hB : B ≤ 5000) :
    WkI w5 (O0 ⟨g, d, rl, rn, a, r, s, w.heap.size⟩) ⟨g, d, rl, rn, a, r, s, w.heap.size⟩ (wk0 S B room) := by
  have hz := hb2.size
  have hl := hd.lasts.lt
  have hn := hd.now.lt
  refine ⟨hg, ⟨_, (hd.below hb5)⟩, ha, ⟨v, hs.base_le hz⟩, Sp.whole_inv 0 B, ⟨by show r ≠ rl; omega, by show r ≠ rn; omega⟩, by show B ≤ 900000; omega, ⟨?_, ?_, ?_, ?_, ?_, ?_, ?_⟩, fun g hg => hg⟩
  all_goals first | (show w.heap.size ≤ g; omega) | (show w.heap.size ≤ d; omega) | (show w.heap.size ≤ rl; omega) | (show w.heap.size ≤ rn; omega) | (show w.heap.size ≤ a; omega) | (show w.heap.size ≤ r; omega) | (show w.heap.size ≤ s; omega)

theorem devnew_any (S B : Int) (w : World) : Calls Try.prog 26 #[.int .i64 S, .int .i64 B] w fun e w' =>
    (Dev.NewFits S B ∧ e = .returned (.tuple #[.pointer (some ⟨w.heap.size + 2, 0, none⟩), .int .i64 0]) ∧ (∀ O, Dev.At w' O (w.heap.size + 2) w.heap.size (w.heap.size + 1) (.slice none 0 0) (Dev.fresh S.toNat B.toNat)) ∧ Below w.heap.size w w' ∧ w'.heap.size = w.heap.size + 3) ∨
    (¬ Dev.NewFits S B ∧ e = .returned (.tuple #[.pointer none, .int .i64 1]) ∧ w = w') := by
  by_cases h : Dev.NewFits S B
  · obtain ⟨h1, h2, h3, h4⟩ := h
    obtain ⟨s, rfl⟩ := Int.eq_ofNat_of_zero_le (show 0 ≤ S by omega)
    obtain ⟨b, rfl⟩ := Int.eq_ofNat_of_zero_le h3
    refine (Dev.new_ok s b w (by omega) (by omega) (by omega)).mono ?_
    rintro e w' ⟨r1, r2, r3, r4⟩
    exact .inl ⟨⟨h1, h2, h3, h4⟩, r1, r2, r3, r4⟩
  · exact (Dev.new_no S B w h).mono fun e w' ⟨r1, r2⟩ => .inr ⟨h, r1, r2⟩

end Go.Proofs.Ytlbaigkpojkfjaa.Fl

/- Two tuples compared. -/
namespace Go.Proofs.Ytlbaigkpojkfjaa.Fl
open Go.RowKit
theorem part_int (xs : Array Value) (i : Nat) (v : Value) (w : World) (h : xs[i]? = some v) : (part 2 xs i).run Try.prog w = .ok v w := by
  have hag : (isAgg 2).run Try.prog w = .ok false w := by kernel_rfl
  simp [part, h, hag]
set_option maxRecDepth 10000 in
@[go_sem] theorem tup_eq (w : World) (a0 a1 a2 a3 a4 b0 b1 b2 b3 b4 : Int) : (Op.equalIn 10000 57 (.agg #[.int .i64 a0, .int .i64 a1, .int .i64 a2, .int .i64 a3, .int .i64 a4]) (.agg #[.int .i64 b0, .int .i64 b1, .int .i64 b2, .int .i64 b3, .int .i64 b4])).run Try.prog w =
    .ok (a0 == b0 && (a1 == b1 && (a2 == b2 && (a3 == b3 && a4 == b4)))) w := by
  have hi := fun (w : World) (a b : Int) => run_equalIn_int (P := Try.prog) w 9998 2 .i64 .i64 a b Try.underlying2
  have hsz : ∀ w, (sizeOf 2).run Try.prog w = .ok 1 w := fun w => by kernel_rfl
  rw [show (10000 : Nat) = 9998 + 1 + 1 from rfl]
  conv => lhs; unfold Op.equalIn
  simp only [Sem.run_bind, run_underlying Try.underlying57, Result.andThen_ok, hsz]
  rw [Std.Legacy.Range.forIn_eq_forIn_range']
  have hr : List.range' (Std.Legacy.Range.start [:5]) (Std.Legacy.Range.size [:5]) (Std.Legacy.Range.step [:5]) = [0, 1, 2, 3, 4] := rfl
  rw [hr]
  simp only [List.forIn_cons, List.forIn_nil, Sem.run_bind, Nat.mul_one]
  rw [part_int _ 0 (.int .i64 a0) _ rfl]
  simp only [Result.andThen_ok]
  rw [part_int _ 0 (.int .i64 b0) _ rfl]
  simp only [Result.andThen_ok]
  rw [hi]
  cases h0 : a0 == b0
  · simp
  simp only [Result.andThen_ok, Bool.not_true, Bool.false_eq_true, if_false, Sem.run_pure, Sem.run_bind]
  rw [part_int _ 1 (.int .i64 a1) _ rfl]
  simp only [Result.andThen_ok]
  rw [part_int _ 1 (.int .i64 b1) _ rfl]
  simp only [Result.andThen_ok]
  rw [hi]
  cases h1 : a1 == b1
  · simp
  simp only [Result.andThen_ok, Bool.not_true, Bool.false_eq_true, if_false, Sem.run_pure, Sem.run_bind]
  rw [part_int _ 2 (.int .i64 a2) _ rfl]
  simp only [Result.andThen_ok]
  rw [part_int _ 2 (.int .i64 b2) _ rfl]
  simp only [Result.andThen_ok]
  rw [hi]
  cases h2 : a2 == b2
  · simp
  simp only [Result.andThen_ok, Bool.not_true, Bool.false_eq_true, if_false, Sem.run_pure, Sem.run_bind]
  rw [part_int _ 3 (.int .i64 a3) _ rfl]
  simp only [Result.andThen_ok]
  rw [part_int _ 3 (.int .i64 b3) _ rfl]
  simp only [Result.andThen_ok]
  rw [hi]
  cases h3 : a3 == b3
  · simp
  simp only [Result.andThen_ok, Bool.not_true, Bool.false_eq_true, if_false, Sem.run_pure, Sem.run_bind]
  rw [part_int _ 4 (.int .i64 a4) _ rfl]
  simp only [Result.andThen_ok]
  rw [part_int _ 4 (.int .i64 b4) _ rfl]
  simp only [Result.andThen_ok]
  rw [hi]
  cases h4 : a4 == b4
  · simp
  simp
end Go.Proofs.Ytlbaigkpojkfjaa.Fl

/- The references of chapter 10. -/
namespace Go.Proofs.Ytlbaigkpojkfjaa.Fl
open Go.RowKit

theorem tps_own {w : World} {K : Key} {base : Nat} {v : Value} {l : List Tup} (ho : w.ownsRow base 57 5 v l.length (flatT l)) (h5 : ∀ t ∈ l, t.length = 5) : ∃ a c, v = .slice a l.length c ∧ Tps K w a l ∧ l.length ≤ c ∧ c ≤ maxLen := by
  rcases ho.2 with ⟨rfl, h0⟩ | ⟨g, cap, cur, rfl, hb, hh, h1, h2, h3, h4⟩
  · exact ⟨none, 0, by rw [h0], .inl (List.eq_nil_of_length_eq_zero h0), by omega, by unfold maxLen; omega⟩
  · refine ⟨_, cap, rfl, Tps.of_blk (rest := cur.toList.drop (l.length * 5)) ?_ h5, h1, h2⟩
    rw [← h4, List.take_append_drop]
    exact hh

def HoldsLoop (S wN : Nat) (w : World) (nv : Value) (wr : World) : Prop := ∃ n : Nat, nv = .int .i64 (n : Int) ∧ n ≤ hN S wN ∧ w = wr
def BlocksLoop (n : Nat) (w : World) (kv : Value) (wr : World) : Prop := ∃ k : Nat, kv = .int .i64 (k : Int) ∧ k ≤ n ∧ w = wr
/-- A tuple's columns from the width on are 0. -/
def fitsB (wN : Nat) (t : Tup) : Bool := Crc.zeroW (t.drop wN)
def FitLoop (wN : Nat) (t : Tup) (w1 : World) (iv : Value) (wr : World) : Prop := ∃ i : Nat, iv = .int .i64 (i : Int) ∧ i ≤ 5 ∧ (∀ j (hj : j < t.length), wN ≤ j → j < i → t[j] = 0#64) ∧ w1 = wr
theorem fitsB_iff {wN : Nat} {t : Tup} : fitsB wN t = true ↔ ∀ j (hj : j < t.length), wN ≤ j → t[j] = 0#64 := by
  unfold fitsB Crc.zeroW
  rw [List.all_eq_true]
  constructor
  · intro h j hj hw
    have := h t[j] (List.mem_drop_iff_getElem.2 ⟨j - wN, by omega, by congr 1; omega⟩)
    simpa using this
  · intro h x hx
    obtain ⟨i, hi, rfl⟩ := List.mem_drop_iff_getElem.1 hx
    simpa using h (wN + i) (by omega) (by omega)
set_option maxRecDepth 100000 in
set_option maxHeartbeats 1000000 in
theorem reffits_any (wN : Nat) (t : Tup) (ht : t.length = 5) (w : World) (h5 : wN ≤ 5) : Calls Try.prog 53 #[.agg (icells t).toArray, .int .i64 (wN : Int)] w fun e w' => e = .returned (.bool (fitsB wN t)) ∧ Below w.heap.size w w' := by
  have hbl : Below w.heap.size w (w.alloc (.cells (icells t).toArray 57)) := (Below.refl _ _).alloc (Nat.le_refl _) _
  have hF := Blk.new w 57 (icells t).toArray
  have HB := Lib.hid hbl
  have hz : w.heap.size < (w.alloc (.cells (icells t).toArray 57)).heap.size := hF.lt
  have hcd : ∀ i (hi : i < t.length), (icells t).toArray[i]? = some (.int .i64 t[i].toInt) := fun i hi => by rw [List.getElem?_toArray]; exact icells_get t i hi
  obtain ⟨u0, u1, u2, u3, u4, hu⟩ : ∃ u0 u1 u2 u3 u4 : Value, (icells t).toArray = #[u0, u1, u2, u3, u4] := by
    match t, ht with
    | [a, b, c, d, e], _ => exact ⟨_, _, _, _, _, rfl⟩
  rw [hu] at HB hF hz hcd ⊢
  have HCD := Lib.hid hcd
  have HF := Lib.hid hF
  clear hbl hF hcd hu
  go_enter Try.func53, Try.ntmps53
  go_wp2_with fail
  generalize w.alloc (.cells #[u0, u1, u2, u3, u4] 57) = w1 at *
  go_loopw [5] (fun iv wr => FitLoop wN t w1 iv wr) (fun iv _ => 5 - (intOf iv).toNat)
  case atStart => exact ⟨0, rfl, by omega, fun j _ _ h => absurd h (by omega), rfl⟩
  case round =>
    obtain ⟨i, rfl, hi, hlow, rfl⟩ := hrel
    have HLOW := Lib.hid hlow
    clear hlow
    by_cases hlt : i < 5
    · have hil : i < t.length := by omega
      have hcell : w1.cell? ⟨w.heap.size, i, none⟩ = some (.int .i64 (t[i]'hil).toInt) := (HF.out.cell i).trans (HCD.out i hil)
      obtain ⟨x, hx⟩ : ∃ x, x = t[i]'hil := ⟨_, rfl⟩
      rw [← hx] at hcell
      have HX := Lib.hid hx
      clear hx
      by_cases hw : (wN : Int) ≤ (i : Int)
      · by_cases h0 : x = 0#64
        · have h0' : (x.toInt != 0) = false := by rw [h0]; rfl
          have HN : Hid (∀ j (hj : j < t.length), wN ≤ j → j < i + 1 → t[j] = 0#64) := Lib.hid (fun j hj hwj hji => by
            rcases Nat.lt_succ_iff_lt_or_eq.1 hji with h | h
            · exact HLOW.out j hj hwj h
            · subst h; rw [← HX.out, h0])
          clear h0
          go_wp2_with fail
          go_roundw
          case rel => exact ⟨i + 1, by go_num, by omega, HN.out, rfl⟩
          case measure => simp [intOf]; omega
        · have h0' : (x.toInt != 0) = true := by rw [bne_iff_ne]; exact fun h => h0 ((toInt_zero x).1 h)
          have HF0 : Hid (fitsB wN t = false) := Lib.hid (by
            cases h : fitsB wN t with
            | false => rfl
            | true => exact absurd (HX.out.trans (fitsB_iff.1 h i hil (by omega))) h0)
          clear h0
          go_wp2_with fail
          go_ret
          exact ⟨by rw [HF0.out]; rfl, HB.out⟩
      · have HN : Hid (∀ j (hj : j < t.length), wN ≤ j → j < i + 1 → t[j] = 0#64) := Lib.hid (fun j hj hwj hji => by
          rcases Nat.lt_succ_iff_lt_or_eq.1 hji with h | h
          · exact HLOW.out j hj hwj h
          · omega)
        go_wp2_with fail
        go_roundw
        case rel => exact ⟨i + 1, by go_num, by omega, HN.out, rfl⟩
        case measure => simp [intOf]; omega
    · obtain rfl : i = 5 := by omega
      have HF1 : Hid (fitsB wN t = true) := Lib.hid (fitsB_iff.2 (fun j hj hw => HLOW.out j hj hw (by omega)))
      go_wp2_with fail
      go_ret
      exact ⟨by rw [HF1.out]; rfl, HB.out⟩

def allB (wN : Nat) (l : List Tup) : Bool := l.all (fitsB wN)
theorem allB_iff {wN : Nat} {l : List Tup} (h5 : ∀ t ∈ l, t.length = 5) : allB wN l = true ↔ FitsW wN l := by
  unfold allB
  rw [List.all_eq_true]
  exact ⟨fun h t ht => ⟨h5 t ht, h t ht⟩, fun h t ht => (h t ht).2⟩
def AllLoop (wN : Nat) (K : Key) (w : World) (a : Option Addr) (l : List Tup) (iv : Value) (wr : World) : Prop := ∃ i : Nat, iv = .int .i64 (i : Int) ∧ i ≤ l.length ∧ allB wN (l.take i) = true ∧ Tps K wr a l ∧ Below w.heap.size w wr
set_option maxRecDepth 100000 in
set_option maxHeartbeats 1000000 in
theorem refall_any {K : Key} (wN : Nat) (l : List Tup) (a : Option Addr) (c : Nat) (w : World) (h5 : wN ≤ 5) (hl : Tps K w a l) (ht5 : ∀ t ∈ l, t.length = 5) (hn : l.length ≤ 1000000) : Calls Try.prog 31 #[.slice a l.length c, .int .i64 (wN : Int)] w fun e w' => e = .returned (.bool (allB wN l)) ∧ Below w.heap.size w w' := by
  have HT := Lib.hid ht5
  have HL := Lib.hid hl
  clear ht5 hl
  go_enter Try.func31, Try.ntmps31
  go_wp2_with fail
  go_loopw [5] (fun iv wr => AllLoop wN K w a l iv wr) (fun iv _ => l.length - (intOf iv).toNat)
  case atStart => exact ⟨0, rfl, Nat.zero_le _, rfl, HL.out, Below.refl _ _⟩
  case round =>
    obtain ⟨i, rfl, hi, hall, hlr, hbr⟩ := hrel
    have HALL := Lib.hid hall
    have HLR := Lib.hid hlr
    have HBR := Lib.hid hbr
    clear hall hlr hbr HL
    by_cases hlt : i < l.length
    · have hki : (i : Int) < (l.length : Int) := by omega
      obtain ⟨g, off, rfl, c0, c1, c2, c3, c4, hli, y0, y1, y2, y3, y4⟩ := HLR.out.cells HT.out hlt
      have HFT := Lib.hid (reffits_any wN l[i] (HT.out _ (List.getElem_mem hlt)) wr h5)
      have hstep : allB wN (l.take (i + 1)) = fitsB wN l[i] := by
        rw [List.take_succ_eq_append_getElem hlt]
        have := HALL.out
        unfold allB at this ⊢
        rw [List.all_append, this]
        simp
      have hbad : fitsB wN l[i] = false → allB wN l = false := fun h => by
        cases hh : allB wN l with
        | false => rfl
        | true =>
          unfold allB at hh
          rw [List.all_eq_true] at hh
          rw [hh _ (List.getElem_mem hlt)] at h
          cases h
      have HST := Lib.hid hstep
      have HBAD := Lib.hid hbad
      clear hstep hbad
      generalize hfb : fitsB wN l[i] = fb at *
      rw [hli, show (icells [c0, c1, c2, c3, c4]).toArray = #[.int .i64 c0.toInt, .int .i64 c1.toInt, .int .i64 c2.toInt, .int .i64 c3.toInt, .int .i64 c4.toInt] from rfl] at HFT
      clear hli hfb
      go_wp2_with fail
      refine HFT.out.mono ?_
      rintro e w2 ⟨rfl, hb2⟩
      have HB2 := Lib.hid (HBR.out.trans (hb2.mono HBR.out.size))
      have HL2 := Lib.hid (HLR.out.below hb2)
      clear hb2
      cases fb with
      | true =>
        go_wp2_with fail
        go_roundw
        case rel => exact ⟨i + 1, by go_num, by omega, HST.out, HL2.out, HB2.out⟩
        case measure => simp [intOf]; omega
      | false =>
        go_wp2_with fail
        go_ret
        exact ⟨by rw [HBAD.out trivial]; rfl, HB2.out⟩
    · obtain rfl : i = l.length := by omega
      have hall2 := HALL.out
      rw [List.take_length] at hall2
      have HA := Lib.hid hall2
      clear hall2
      go_wp2_with fail
      go_ret
      exact ⟨by rw [HA.out]; rfl, HBR.out⟩

def SameLoop (n : Nat) (w : World) (iv : Value) (wr : World) : Prop := ∃ i : Nat, iv = .int .i64 (i : Int) ∧ i ≤ n ∧ ∃ m, wr = w.drewN m
theorem Tps.drewN {K : Key} {w : World} {a : Option Addr} {l : List Tup} (h : Tps K w a l) (m : Nat) : Tps K (w.drewN m) a l := h
set_option maxRecDepth 100000 in
set_option maxHeartbeats 1000000 in
/-- Two lists that are the same. -/
theorem refsame_yes {K : Key} (l : List Tup) (a b : Option Addr) (c d : Nat) (w : World) (hl : Tps K w a l) (hm : Tps K w b l) (ht5 : ∀ t ∈ l, t.length = 5) (hn : l.length ≤ 1000000) : Calls Try.prog 16 #[.slice a l.length c, .slice b l.length d] w fun e w' => e = .returned (.bool true) ∧ ∃ m, w' = w.drewN m := by
  have HT := Lib.hid ht5
  have HL := Lib.hid hl
  have HM := Lib.hid hm
  clear ht5 hl hm
  go_enter Try.func16, Try.ntmps16
  go_wp2_with fail
  go_loopw [5] (fun iv wr => SameLoop l.length w iv wr) (fun iv _ => l.length - (intOf iv).toNat)
  case atStart => exact ⟨0, rfl, Nat.zero_le _, 0, rfl⟩
  case round =>
    obtain ⟨i, rfl, hi, m, rfl⟩ := hrel
    by_cases hlt : i < l.length
    · have hki : (i : Int) < (l.length : Int) := by omega
      have hi0 : (0 : Int) ≤ (i : Int) := by omega
      obtain ⟨g, off, rfl, c0, c1, c2, c3, c4, hli, y0, y1, y2, y3, y4⟩ := (HL.out.drewN (m + 1)).cells HT.out hlt
      obtain ⟨g', off', rfl, d0, d1, d2, d3, d4, hli', z0, z1, z2, z3, z4⟩ := (HM.out.drewN (m + 1)).cells HT.out hlt
      rw [hli] at hli'
      injection hli' with e0 hli'
      injection hli' with e1 hli'
      injection hli' with e2 hli'
      injection hli' with e3 hli'
      injection hli' with e4 hli'
      subst e0 e1 e2 e3 e4
      generalize c0.toInt = x0 at *
      generalize c1.toInt = x1 at *
      generalize c2.toInt = x2 at *
      generalize c3.toInt = x3 at *
      generalize c4.toInt = x4 at *
      clear hli hli'
      go_wp2_with fail
      refine wp_reads (by kernel_rfl) (by kernel_rfl) ?_
      repeat (refine sg_step (fun K2 hK => ?_); go_simp; refine hK.out _ ?_; clear hK K2)
      refine sg_nil ?_
      go_wp2_with fail
      go_roundw
      case rel => exact ⟨i + 1, by go_num, by omega, m + 1, rfl⟩
      case measure => simp [intOf]; omega
    · obtain rfl : i = l.length := by omega
      go_wp2_with fail
      go_ret
      exact ⟨rfl, m, rfl⟩

end Go.Proofs.Ytlbaigkpojkfjaa.Fl

/- What wakes chapter 10's laws; tuples as a law's argument; small things that laws ask of a work. -/
namespace Go.Proofs.Ytlbaigkpojkfjaa.Fl
open Go.RowKit

theorem sure_fresh (S B : Nat) : Sure (Dev.fresh S B) := ⟨rfl, rfl⟩
theorem room_whole {B n : Nat} (h : n ≤ B) : Sp.Room (Sp.wholeL 0 B) 0 n := fun b _ h2 => by
  unfold Sp.wholeL
  rw [if_neg (by omega)]
  exact ⟨(0, B), List.mem_singleton.2 rfl, by unfold Sp.In; simp only; omega⟩
theorem sum_whole (B : Nat) : Sp.sumX (Sp.wholeL 0 B) = B := by
  unfold Sp.wholeL
  split
  · rename_i h; rw [h]; rfl
  · simp [Sp.sumX]
theorem LaidNo.not {W W' : Wk} {wN : Nat} {l : List Tup} {er : Int} (h : LaidNo W wN l er W') (hf : FitsW wN l) (hfa : W.D.fault = -1) (hr : ∃ p, Sp.Room W.L p (nB W.D.size wN l.length)) : False := by
  rcases h.why with ⟨_, _, h⟩ | ⟨_, h, _⟩ | ⟨_, h⟩
  · obtain ⟨p, hp⟩ := hr
    exact h p hp
  · exact h hf
  · exact h hfa
theorem laid_first {L' : List Sp.Ext} {B n first : Nat} (h : Took (Sp.wholeL 0 B) B n first L') (hn : n ≤ B) : first = 0 := by
  rcases Nat.eq_zero_or_pos n with h0 | h0
  · exact (h.zero h0).1
  · rcases Nat.eq_zero_or_pos first with hf | hf
    · exact hf
    · exact absurd (room_whole hn) (h.least h0 0 hf)

section
variable {w w' : World} {O : Nat → Prop} {K : Key} {W : Wk}
theorem spfree_w (hI : WkI w O K W) : Calls Try.prog 37 #[P K.s] w fun e w' => e = .returned (.int .i64 (Sp.sumX W.L : Int)) ∧ Below w.heap.size w w' := by
  obtain ⟨v, hs⟩ := hI.spc
  have hl := hI.inv.len
  have hB := hI.small
  exact Sp.free_any K.s 0 W.B v W.L K.base w hs (by omega)
theorem used_w (hI : WkI w O K W) : Calls Try.prog 35 #[P K.a] w fun e w' => e = .returned (.int .i64 (W.A.used : Int)) ∧ w = w' := Arena.used_any K.a K.r W.A w hI.arn
end

/-- Tuples that came in as a law's argument. -/
theorem tups_of {w : World} {a : Option Addr} {n c : Nat} {l : List (List Int)} (h : rdSlice 5 (rdArr 5 1 (rdInt .i64)) w [.slice a n c] l) :
    ∃ lt : List Tup, lt.length = n ∧ (∀ t ∈ lt, t.length = 5) ∧ n ≤ maxLen ∧ (a = none → n = 0 ∧ c = 0) ∧ ∀ K : Key, w.heap.size ≤ K.base → Tps K w a lt := by
  obtain ⟨a', n', c', e, hl, hn, hc, h0, hr⟩ := h
  simp only [List.cons.injEq, Value.slice.injEq, and_true] at e
  obtain ⟨rfl, rfl, rfl⟩ := e
  have key : ∀ i (hi : i < l.length), ∃ x, a = some x ∧ (∀ j, j < 5 → w.cell? ((x.add (i * 5)).add j) = (icells (l[i].map (BitVec.ofInt 64)))[j]?) ∧ l[i].length = 5 := by
    intro i hi
    obtain ⟨x, es, hx, hes, hj, he1, he2, he3⟩ := hr i hi
    refine ⟨x, hx, fun j hj5 => ?_, he2⟩
    have h3 := he3 j (by omega)
    rw [hj j hj5]
    obtain ⟨h4, h5⟩ := h3
    have hj' : j < es.length := by omega
    rw [Nat.mul_one, List.drop_eq_getElem_cons hj', List.take_succ_cons, List.take_zero] at h4
    have h6 : es[j] = .int .i64 (l[i][j]'(by omega)) := by injection h4
    rw [List.getElem?_eq_getElem hj', h6]
    have hb := u_bounds.2.2.2.2 h5
    have hw : (BitVec.ofInt 64 (l[i][j]'(by omega))).toInt = l[i][j]'(by omega) := by
      rw [BitVec.toInt_ofInt]
      exact Int.bmod_eq_of_le (by omega) (by omega)
    simp only [icells, List.map_map, List.getElem?_map, List.getElem?_eq_getElem (show j < l[i].length by omega), Option.map_some, Function.comp]
    rw [hw]
  refine ⟨l.map (List.map (BitVec.ofInt 64)), by simp [hl], fun t ht => ?_, by omega, fun e => by have := h0 e; omega, fun K hK => ?_⟩
  · obtain ⟨x, hx, rfl⟩ := List.mem_map.1 ht
    obtain ⟨i, hi, rfl⟩ := List.getElem_of_mem hx
    obtain ⟨_, _, _, h5⟩ := key i hi
    simpa using h5
  · rcases Nat.eq_zero_or_pos l.length with hz | hz
    · exact .inl (by rw [List.eq_nil_of_length_eq_zero hz]; rfl)
    · obtain ⟨x, rfl, hx, h5⟩ := key 0 hz
      obtain ⟨b, off, spot⟩ := x
      have h00 := hx 0 (by omega)
      rw [show ((⟨b, off, spot⟩ : Addr).add (0 * 5)).add 0 = ⟨b, off, spot⟩ from by simp [Addr.add], icells_get _ 0 (by simp [h5])] at h00
      have hs := (cell_lt h00)
      simp only at hs
      obtain ⟨hs1, rfl⟩ := hs
      refine .inr ⟨b, off, rfl, hs1, .inr (by omega), fun k hk j hj => ?_⟩
      rw [List.length_map] at hk
      obtain ⟨x, hx', hc', _⟩ := key k hk
      injection hx' with hx'
      subst hx'
      have := hc' j hj
      rw [add_none, add_none] at this
      rw [this]
      simp

end Go.Proofs.Ytlbaigkpojkfjaa.Fl

/- What chapter 13's laws keep of their work, in plain words. -/
namespace Go.Proofs.Ytlbaigkpojkfjaa.Fl
open Go.RowKit

/-- Nothing is granted, all blocks from c on are free, the power doesn't fail. -/
structure Fine (W : Wk) (c a : Nat) : Prop where
  size : W.D.size = 12
  blocks : W.D.blocks = 5000
  sure : Sure W.D
  used : W.A.used = 0
  room : W.A.room = 60
  B : W.B = 5000
  free : ∀ b, c ≤ b → b < 5000 → Sp.Fr W.L b
  acts : W.D.acts ≤ a
/-- A file that a work of blocks of 12 words holds. -/
structure Held (W : Wk) (first wN : Nat) (l : List Tup) : Prop where
  fits : FitsW wN l
  lies : Lies W.D wN first (nB 12 wN l.length) l
  held : ∀ j, j < nB 12 wN l.length → ¬ Sp.Fr W.L (first + j)
  fit : first + nB 12 wN l.length ≤ 5000
  wid : 1 ≤ wN ∧ wN ≤ 5
  few : l.length ≤ 200
/-- Behind a step all files are still there; n blocks more are taken. -/
structure After (W W' : Wk) (n : Nat) : Prop where
  keep : ∀ f v m, Held W f v m → Held W' f v m
  sum : Sp.sumX W'.L + n = Sp.sumX W.L
  fault : W.D.fault = -1 → W'.D.fault = -1
theorem After.trans {W W1 W2 : Wk} {n m : Nat} (h : After W W1 n) (h' : After W1 W2 m) : After W W2 (n + m) :=
  ⟨fun f v l hl => h'.keep f v l (h.keep f v l hl), by have := h.sum; have := h'.sum; omega, fun hf => h'.fault (h.fault hf)⟩
theorem After.refl (W : Wk) : After W W 0 := ⟨fun _ _ _ h => h, rfl, id⟩
theorem Held.stay {W W' : Wk} {first wN : Nat} {l : List Tup} (h : Held W first wN l) (hs : W'.D.size = W.D.size) (hfr : ∀ b, Sp.Fr W'.L b → Sp.Fr W.L b) (hn : ∀ i : Int, (∀ b : Nat, Sp.Fr W.L b → i ≠ (b : Int)) → W'.D.now i = W.D.now i) : Held W' first wN l :=
  ⟨h.fits, h.lies.stay hs (fun j hj => hn _ (fun b hb e => h.held j hj (by rw [show first + j = b from by omega]; exact hb))), fun j hj hf => h.held j hj (hfr _ hf), h.fit, h.wid, h.few⟩
theorem nB_few {wN : Nat} {l : List Tup} (h1 : 1 ≤ wN) (h5 : wN ≤ 5) (h : l.length ≤ 200) : nB 12 wN l.length ≤ 200 :=
  Nat.le_trans (nB_le (size := 12) (hN_pos (by omega) h1 h5)) h
theorem Fine.room_ {W : Wk} {c a n : Nat} (h : Fine W c a) (hn : c + n ≤ 5000) : Sp.Room W.L c n := fun b h1 h2 => h.free b h1 (by omega)
/-- A file is laid. -/
theorem fine_laid {W W' : Wk} {c a first wN : Nat} {l : List Tup} (hF : Fine W c a) (hinv : Sp.Inv 0 W.B W.L) (hok : LaidOk W wN l first W') (h1 : 1 ≤ wN) (h5 : wN ≤ 5) (hf : l.length ≤ 200) (hc : c + 200 ≤ 5000) :
    Fine W' (c + 200) (a + 200) ∧ Held W' first wN l ∧ After W W' (nB 12 wN l.length) := by
  have hsp := hok.took.spec hinv
  rw [hF.size] at hsp
  have hnb := nB_few h1 h5 hf
  have hfc : first ≤ c := by
    rcases Nat.eq_zero_or_pos (nB 12 wN l.length) with h0 | h0
    · rw [(hsp.zero h0).1]; exact Nat.zero_le _
    · rcases Nat.lt_or_ge c first with h | h
      · exact absurd (hF.room_ (n := nB 12 wN l.length) (by omega)) (hsp.least h0 c h)
      · exact h
  have hli := hok.lies
  have hgo := hok.goes
  rw [hF.size] at hli hgo
  have hsz : W'.D.size = 12 := hgo.size.trans hF.size
  refine ⟨⟨hsz, hgo.blocks.trans hF.blocks, hgo.sure hF.sure, by rw [hok.arn]; exact hF.used, by rw [hok.arn]; exact hF.room, hok.B.trans hF.B, fun b hb1 hb2 => (hsp.fr b).2 ⟨hF.free b (by omega) hb2, by omega⟩, ?_⟩,
    ⟨hok.fits, hli, fun j hj hfr => ((hsp.fr _).1 hfr).2 ⟨by omega, by omega⟩, by omega, ⟨h1, h5⟩, hf⟩, ⟨fun f v m hm => hm.stay hgo.size (fun b hb => ((hsp.fr b).1 hb).1) (fun i hi => ?_), ?_, hgo.fault⟩⟩
  · have := hgo.acts
    have := hF.acts
    omega
  · exact hok.now i (fun j hj e => hi _ (hsp.room (first + j) (by omega) (by rw [hF.size] at hj; omega)) e)
  · have := TookN.sum hinv hsp
    omega

/-- What join's functions give, of a work that is fine. -/
def EachF (w : World) (O : Nat → Prop) (K : Key) (W : Wk) (c a wM : Nat) (out : List Tup) (JE : Nat → World → (Nat → Prop) → Wk → Prop) (h0 : Nat) (Why : Int → Prop) (e : Ending) (w' : World) : Prop :=
  ∃ W' O', Okin w w' O O' ∧ WkI w' O' K W' ∧ Turn K (fun _ => False) w w' ∧
    ((∃ first, e = .returned (.tuple #[.agg (fcells first (nB 12 wM out.length) wM out.length), .int .i64 0]) ∧ Fine W' (c + 200) (a + 2000000) ∧ Held W' first wM out ∧ After W W' (nB 12 wM out.length)) ∨
     (∃ er, er ≠ 0 ∧ ((er = 6 ∧ W.D.fault ≠ -1) ∨ Why er) ∧ e = .returned (.tuple #[.agg noFile, .int .i64 er]) ∧ Fine W' c (a + 2000000) ∧ After W W' 0))
theorem fine_each {w w' : World} {O : Nat → Prop} {K : Key} {W : Wk} {c a wM bound : Nat} {out : List Tup} {Why : Int → Prop} {e : Ending} (hF : Fine W c a) (hinv : Sp.Inv 0 W.B W.L) (h : EachC w O K W (fun _ => False) wM bound out JE0 0 Why e w') (h1 : 1 ≤ wM) (h5 : wM ≤ 5) (hb : bound ≤ 200) (hob : out.length ≤ bound) (hfit : FitsW wM out) (hc : c + 200 ≤ 5000) :
    EachF w O K W c a wM out JE0 0 Why e w' := by
  obtain ⟨W', O', ho, hI, ht, hh⟩ := h
  refine ⟨W', O', ho, hI, ht, ?_⟩
  have hbn : nB 12 wM bound ≤ 200 := Nat.le_trans (nB_le (size := 12) (hN_pos (by omega) h1 h5)) hb
  have hnb : nB 12 wM out.length ≤ 200 := nB_few h1 h5 (by omega)
  rcases hh with ⟨first, rfl, hok, _⟩ | ⟨er, h', her, rfl, hno, hj⟩
  · have hle := hok.least c (by rw [hF.size]; exact hF.room_ (by omega))
    have hfr := hok.fr
    have hrm := hok.room
    have hft := hok.fit
    have hli := hok.lies
    rw [hF.size] at hfr hrm hft hli ⊢
    rw [hF.B] at hft
    refine .inl ⟨first, rfl, ⟨hok.size.trans hF.size, hok.blocks.trans hF.blocks, hok.sure, hok.used.trans hF.used, hok.aroom.trans hF.room, hok.B.trans hF.B, fun b hb1 hb2 => (hfr b).2 ⟨hF.free b (by omega) hb2, by omega⟩, by have := hok.acts; have := hF.acts; omega⟩,
      ⟨hfit, hli, fun j hj hf => ((hfr _).1 hf).2 ⟨by omega, by omega⟩, hft, ⟨h1, h5⟩, by omega⟩, ⟨fun f v m hm => hm.stay hok.size (fun b hb => ((hfr b).1 hb).1) hok.now, ?_, hok.fault⟩⟩
    exact Sp.sumX_cut hinv hok.inv (by rw [hF.B]; exact hft) hfr (fun b hb1 hb2 => hrm b hb1 hb2)
  · obtain rfl : h' = 0 := hj
    refine .inr ⟨er, her, ?_, rfl, ⟨hno.size.trans hF.size, hno.blocks.trans hF.blocks, hno.sure, by have := hno.used; have := hF.used; omega, hno.aroom.trans hF.room, hno.B.trans hF.B, fun b hb1 hb2 => by rw [hno.L]; exact hF.free b hb1 hb2, by have := hno.acts; have := hF.acts; omega⟩, ⟨fun f v m hm => hm.stay hno.size (fun b hb => by rw [← hno.L]; exact hb) hno.now, by rw [hno.L]; rfl, hno.fault⟩⟩
    rcases hno.why with ⟨_, _, hr⟩ | h | h
    · rw [hF.size] at hr
      exact absurd (hF.room_ (n := nB 12 wM bound) (by omega)) (hr c)
    · exact .inl h
    · exact .inr h

theorem made_fits {wM : Nat} {mk : Nat → Tup} {kp : Nat → Bool} {n : Nat} (h : ∀ k, k < n → kp k = true → FitsW wM [mk k]) : FitsW wM (made mk kp n) := fun t ht => by
  unfold made at ht
  obtain ⟨k, hk, rfl⟩ := List.mem_map.1 ht
  obtain ⟨h1, h2⟩ := List.mem_filter.1 hk
  exact h k (List.mem_range.1 h1) h2 _ (List.mem_singleton.2 rfl)

end Go.Proofs.Ytlbaigkpojkfjaa.Fl

/- The walk of join.Number. -/
namespace Go.Proofs.Ytlbaigkpojkfjaa.Fl
open Go.RowKit

section
variable {w w' : World} {O : Nat → Prop} {K : Key} {W : Wk}

set_option maxRecDepth 100000 in
set_option maxHeartbeats 2000000 in
theorem number_arg {p first blocks width count from_ : Int} {rv : Value} (hw : width < 1 ∨ 5 ≤ width) : Calls Try.prog 12 #[rv, .agg #[.int .i64 first, .int .i64 blocks, .int .i64 width, .int .i64 count], .int .i64 from_] w (fun e w' => e = .returned (.tuple #[.agg noFile, .int .i64 1]) ∧ Below w.heap.size w w') := by
  have hZ := Blk.new (w.alloc (.cells #[.int .i64 first, .int .i64 blocks, .int .i64 width, .int .i64 count] 29)) 29 noFile
  rw [show (w.alloc (.cells #[.int .i64 first, .int .i64 blocks, .int .i64 width, .int .i64 count] 29)).heap.size = w.heap.size + 1 from by simp] at hZ
  have hbl : Below w.heap.size w ((w.alloc (.cells #[.int .i64 first, .int .i64 blocks, .int .i64 width, .int .i64 count] 29)).alloc (.cells noFile 29)) := ((Below.refl _ _).alloc (Nat.le_refl _) _).alloc (by simp) _
  have HZ := Lib.hid hZ
  have HBL := Lib.hid hbl
  unfold noFile at *
  clear hZ hbl
  go_enter Try.func12, Try.ntmps12
  go_wp2_with fail
  all_goals
    generalize ((w.alloc (.cells #[.int .i64 first, .int .i64 blocks, .int .i64 width, .int .i64 count] 29)).alloc (.cells #[.int .i64 0, .int .i64 0, .int .i64 0, .int .i64 0] 29)) = w9 at *
    have s0 : w9.cell? ⟨w.heap.size + 1, 0, none⟩ = some (.int .i64 0) := HZ.out.cell 0
    have s1 : w9.cell? ⟨w.heap.size + 1, 1, none⟩ = some (.int .i64 0) := HZ.out.cell 1
    have s2 : w9.cell? ⟨w.heap.size + 1, 2, none⟩ = some (.int .i64 0) := HZ.out.cell 2
    have s3 : w9.cell? ⟨w.heap.size + 1, 3, none⟩ = some (.int .i64 0) := HZ.out.cell 3
    refine bodyPost_ret (v := .tuple #[.agg #[.int .i64 0, .int .i64 0, .int .i64 0, .int .i64 0], .int .i64 1]) (by simp [results, Try.results12, go_sem, s0, s1, s2, s3]; try rfl) rfl ?_
    exact ⟨rfl, HBL.out⟩
set_option maxRecDepth 100000 in
set_option maxHeartbeats 2000000 in
theorem number_go {first blocks width count from_ : Int} {rv : Value} {wM bound : Nat} {out : Nat → List Tup} (hI : WkI w O K W) (h1 : 1 ≤ width) (h4 : width ≤ 4)
    (hE : ∀ w1, Below w.heap.size w w1 → ∀ c, w.heap.size ≤ c → Blk w1 c 74 #[.int .i64 width, .int .i64 from_] → Calls Try.prog 32 #[rv, .agg #[.int .i64 first, .int .i64 blocks, .int .i64 width, .int .i64 count], .int .i64 (width + 1), .func (.func 33) #[P c] #[]] w1 (EachC w1 O K W (fun q => q = c) wM bound (out c) JE0 0 (fun _ => False))) : Calls Try.prog 12 #[rv, .agg #[.int .i64 first, .int .i64 blocks, .int .i64 width, .int .i64 count], .int .i64 from_] w (fun e w' => ∃ c, EachC w O K W (fun _ => False) wM bound (out c) JE0 0 (fun _ => False) e w') := by
  have hbl : Below w.heap.size w (((w.alloc (.cells #[.int .i64 first, .int .i64 blocks, .int .i64 width, .int .i64 count] 29)).alloc (.cells noFile 29)).alloc (.cells #[.int .i64 width, .int .i64 from_] 74)) := (((Below.refl _ _).alloc (Nat.le_refl _) _).alloc (by simp) _).alloc (by simp; omega) _
  have hZ := (Blk.new (w.alloc (.cells #[.int .i64 first, .int .i64 blocks, .int .i64 width, .int .i64 count] 29)) 29 noFile).alloc (.cells #[.int .i64 width, .int .i64 from_] 74)
  rw [show (w.alloc (.cells #[.int .i64 first, .int .i64 blocks, .int .i64 width, .int .i64 count] 29)).heap.size = w.heap.size + 1 from by simp] at hZ
  have hC := Blk.new ((w.alloc (.cells #[.int .i64 first, .int .i64 blocks, .int .i64 width, .int .i64 count] 29)).alloc (.cells noFile 29)) 74 #[.int .i64 width, .int .i64 from_]
  rw [show ((w.alloc (.cells #[.int .i64 first, .int .i64 blocks, .int .i64 width, .int .i64 count] 29)).alloc (.cells noFile 29)).heap.size = w.heap.size + 1 + 1 from by simp] at hC
  have HBL := Lib.hid hbl
  have HZ := Lib.hid hZ
  have HC := Lib.hid hC
  have HE := Lib.hid (hE _ hbl _ (by omega) hC)
  have HI := Lib.hid (hI.below hbl)
  unfold noFile at *
  clear hbl hE hZ hC hI
  go_enter Try.func12, Try.ntmps12
  go_wp2_with fail
  generalize (((w.alloc (.cells #[.int .i64 first, .int .i64 blocks, .int .i64 width, .int .i64 count] 29)).alloc (.cells #[.int .i64 0, .int .i64 0, .int .i64 0, .int .i64 0] 29)).alloc (.cells #[.int .i64 width, .int .i64 from_] 74)) = w1 at *
  refine HE.out.mono ?_
  rintro e w2 hh
  obtain ⟨a, b, c, d, er, rfl, hR2, hR3, hEC⟩ := each_pass (stays0 K _) HI.out HZ.out (by omega) (fun q hq => by rw [hq]; omega) (by omega) HBL.out hh
  have HR3 := Lib.hid hR3
  have HEC := Lib.hid hEC
  have g0 := hR2.frozen 0
  have g1 := hR2.frozen 1
  have g2 := hR2.frozen 2
  have g3 := hR2.frozen 3
  have p0 : w2.cell? ⟨w.heap.size + 1, 0, none⟩ = some (.int .i64 0) := hR2.cell 0
  have p1 : w2.cell? ⟨w.heap.size + 1, 1, none⟩ = some (.int .i64 0) := hR2.cell 1
  have p2 : w2.cell? ⟨w.heap.size + 1, 2, none⟩ = some (.int .i64 0) := hR2.cell 2
  have p3 : w2.cell? ⟨w.heap.size + 1, 3, none⟩ = some (.int .i64 0) := hR2.cell 3
  unfold four at HR3 HEC
  clear hh hR2 hR3 hEC
  go_wp2_with fail
  generalize ((((w2.setCell ⟨w.heap.size + 1, 0, none⟩ (.int .i64 a)).setCell ⟨w.heap.size + 1, 1, none⟩ (.int .i64 b)).setCell ⟨w.heap.size + 1, 2, none⟩ (.int .i64 c)).setCell ⟨w.heap.size + 1, 3, none⟩ (.int .i64 d)) = w3 at *
  have s0 : w3.cell? ⟨w.heap.size + 1, 0, none⟩ = some (.int .i64 a) := HR3.out.cell 0
  have s1 : w3.cell? ⟨w.heap.size + 1, 1, none⟩ = some (.int .i64 b) := HR3.out.cell 1
  have s2 : w3.cell? ⟨w.heap.size + 1, 2, none⟩ = some (.int .i64 c) := HR3.out.cell 2
  have s3 : w3.cell? ⟨w.heap.size + 1, 3, none⟩ = some (.int .i64 d) := HR3.out.cell 3
  refine bodyPost_ret (v := .tuple #[.agg #[.int .i64 a, .int .i64 b, .int .i64 c, .int .i64 d], .int .i64 er]) (by simp [results, Try.results12, go_sem, s0, s1, s2, s3]; try rfl) rfl ?_
  exact ⟨_, HEC.out⟩
end

end Go.Proofs.Ytlbaigkpojkfjaa.Fl

/- Chapter 13's laws: the work that they make, how they lay tables, what they ask of a work in the end. -/
namespace Go.Proofs.Ytlbaigkpojkfjaa.Fl
open Go.RowKit

set_option maxRecDepth 100000 in
set_option maxHeartbeats 4000000 in
theorem work13_ok (w : World) : Calls Try.prog 9 #[] w (fun e w' => ∃ K, e = .returned (P K.wk) ∧ WkI w' (O0 K) K (wk0 12 5000 60) ∧ K.base = w.heap.size ∧ Below w.heap.size w w') := by
  have HN := Lib.hid (Dev.new_ok 12 5000 w (by omega) (by omega) (by omega))
  rw [show ((12 : Nat) : Int) = 12 from rfl, show ((5000 : Nat) : Int) = 5000 from rfl] at HN
  go_enter Try.func9, Try.ntmps9
  go_wp2_with fail
  refine HN.out.mono ?_
  rintro e w2 ⟨rfl, hd, hb2, hs2⟩
  have HD := Lib.hid (hd (fun g => w.heap.size ≤ g))
  have HB2 := Lib.hid hb2
  have hz2 := hb2.size
  have CA := Lib.hid (fun W' (h : Below w2.heap.size w2 W') => (Arena.new_any 60 W' (by omega) (by omega)).mono (fun e w3 he => (⟨W'.heap.size + 1, W'.heap.size, he.1, by have := h.size; omega, by have := h.size; omega, he.2.1, h.trans (he.2.2.mono h.size), he.2.2⟩ : ∃ a r, e = Ending.returned (P a) ∧ w2.heap.size ≤ a ∧ w2.heap.size ≤ r ∧ Arena.At w3 a r ⟨(60 : Int).toNat, 0, 0, []⟩ ∧ Below w2.heap.size w2 w3 ∧ Below W'.heap.size W' w3)))
  have CS := Lib.hid (fun W' (h : Below w2.heap.size w2 W') => (Sp.new_ok 0 5000 W' (by omega) (by omega)).mono (fun e w3 ⟨s, v, h1, h2, h3, h4⟩ => (⟨s, v, h1, by have := h.size; omega, h3.base_le h.size, h.trans (h4.mono h.size), h4⟩ : ∃ s v, e = Ending.returned (P s) ∧ w2.heap.size ≤ s ∧ Sp.SpAt w3 s 0 5000 v (Sp.wholeL 0 5000) w2.heap.size ∧ Below w2.heap.size w2 w3 ∧ Below W'.heap.size W' w3)))
  have CN := Lib.hid (fun W' (h : Below w2.heap.size w2 W') (d a s : Nat) => (newfile_any d a s W').mono (fun e w3 he => (⟨W'.heap.size, he.1, h.size, by rw [he.2]; exact Blk.new W' _ _, by rw [he.2]; exact h.trans (((Below.refl _ _).alloc (Nat.le_refl _) _).mono h.size), by rw [he.2]; exact (Below.refl _ _).alloc (Nat.le_refl _) _⟩ : ∃ g, e = Ending.returned (P g) ∧ w2.heap.size ≤ g ∧ Blk w3 g 97 #[P d, P a, P s] ∧ Below w2.heap.size w2 w3 ∧ Below W'.heap.size W' w3)))
  rw [show ((0 : Nat) : Int) = 0 from rfl, show ((5000 : Nat) : Int) = 5000 from rfl] at CS
  clear hd hb2 HN
  go_wp2_with fail
  refine (CA.out _ (Below.refl _ _)).mono ?_
  rintro e wa ⟨a, r, rfl, qa1, qa2, hA, hba, hba'⟩
  go_wp2_with fail
  refine (CS.out _ hba).mono ?_
  rintro e ws ⟨s, v, rfl, qs, hS, hbs, hbs'⟩
  go_wp2_with fail
  refine (CN.out _ hbs _ _ _).mono ?_
  rintro e wn ⟨g, rfl, qg, hG, hbn, hbn'⟩
  go_wp2_with fail
  go_ret
  refine ⟨⟨g, w.heap.size + 2, w.heap.size, w.heap.size + 1, a, r, s, w.heap.size⟩, rfl, ?_, rfl, HB2.out.trans (hbn.mono HB2.out.size)⟩
  exact work_parts (v := v) HD.out HB2.out hbn (hA.chg (Chg.of_below' (S := fun _ => False) (hbs'.trans (hbn'.mono hbs'.size))) (fun h => h) (fun h => h) (fun _ _ h => h.elim)) (hS.below hbn') hG qa2 qa1 qs qg (by omega) (by omega) (by omega) (by omega)
theorem fine0 : Fine (wk0 12 5000 60) 0 0 :=
  ⟨rfl, rfl, sure_fresh 12 5000, rfl, rfl, rfl, fun b _ h2 => room_whole (B := 5000) (n := 5000) (Nat.le_refl _) b (Nat.zero_le _) (by omega), Nat.le_refl _⟩
theorem sum0 : Sp.sumX (wk0 12 5000 60).L = 5000 := sum_whole 5000

set_option maxRecDepth 100000 in
set_option maxHeartbeats 1000000 in
theorem width13_any (x wN : Nat) (v : Value) (w : World) (hx : wN = 1 + x % 5) (hb : x < 256) : Calls Try.prog 13 #[.agg #[.int .u8 (x : Int), v]] w (fun e w' => e = .returned (.int .i64 (wN : Int)) ∧ Below w.heap.size w w') := by
  have hbl : Below w.heap.size w (w.alloc (.cells #[.int .u8 (x : Int), v] 24)) := (Below.refl _ _).alloc (Nat.le_refl _) _
  have hF := Blk.new w 24 #[.int .u8 (x : Int), v]
  have HB := Lib.hid hbl
  have HF := Lib.hid hF
  clear hbl hF
  go_enter Try.func13, Try.ntmps13
  go_wp2_with fail
  generalize w.alloc (.cells #[.int .u8 (x : Int), v] 24) = w1 at *
  have k0 : w1.cell? ⟨w.heap.size, 0, none⟩ = some (.int .u8 (x : Int)) := HF.out.cell 0
  have y4 : IntKind.i64.wrap ((x : Int) % 5) = (x : Int) % 5 := by rw [IntKind.wrap_i64]; omega
  have y6 : IntKind.i64.wrap (1 + IntKind.i64.wrap ((x : Int).tmod 5)) = (wN : Int) := by
    rw [Int.tmod_eq_emod_of_nonneg (by omega), y4, IntKind.wrap_i64]; omega
  have HE := Lib.hid (show 1 + (x : Int) % 5 = (wN : Int) by omega)
  clear hx
  go_wp2_with fail
  go_ret
  first | exact ⟨rfl, HB.out⟩ | exact ⟨by rw [HE.out]; rfl, HB.out⟩

end Go.Proofs.Ytlbaigkpojkfjaa.Fl
