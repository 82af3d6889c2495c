/- The walk of the keeper's keep. -/
import Derived.Test.YtlbaigkpojkfjaaK14
import Derived.Test.YtlbaigkpojkfjaaZReg3
set_option linter.unusedVariables false
namespace Go.Proofs.Ytlbaigkpojkfjaa.Fl
open Go.RowKit

theorem yg_skip {P : Program} {ops : Array Oper} {F : World → Prop} {L : Act → Prop} {i : Nat} {is : List Nat} {a : Act} (oi : Oper) (hi : ops[i]? = some oi) (hw : Region.wanted oi (yielded ops a.tmps) = false) (h : Yg (YF P ops F L is (a.put oi.dst undef))) : Yg (YF P ops F L (i :: is) a) :=
  ⟨oi, undef, hi, .inr ⟨hw, rfl⟩, h.out⟩
section
variable {w w' : World} {O : Nat → Prop} {K : Key} {W : Wk}

set_option maxRecDepth 100000 in
set_option maxHeartbeats 2000000 in
theorem keep_one {col : Nat} {lo hi v0 v1 v2 v3 v4 v : Int} {b : Bool} (hat : col < 5) (hv : (#[.int .i64 v0, .int .i64 v1, .int .i64 v2, .int .i64 v3, .int .i64 v4] : Array Value)[col]? = some (.int .i64 v)) (hb : b = (decide (lo ≤ v) && decide (v ≤ hi))) : Calls Try.prog 42 #[.agg #[.int .i64 (col : Int), .int .i64 lo, .int .i64 hi], .agg #[.int .i64 v0, .int .i64 v1, .int .i64 v2, .int .i64 v3, .int .i64 v4]] w (fun e w' => e = .returned (.tuple #[.agg #[.int .i64 v0, .int .i64 v1, .int .i64 v2, .int .i64 v3, .int .i64 v4], .bool b, .int .i64 0]) ∧ Below w.heap.size w w') := by
  have hT := (Blk.new (w.alloc (.cells #[.int .i64 (col : Int), .int .i64 lo, .int .i64 hi] 86)) 57 #[.int .i64 v0, .int .i64 v1, .int .i64 v2, .int .i64 v3, .int .i64 v4]).alloc (.cells #[.int .i64 0, .int .i64 0, .int .i64 0, .int .i64 0, .int .i64 0] 57)
  have hk := ((Blk.new w 86 #[.int .i64 (col : Int), .int .i64 lo, .int .i64 hi]).alloc (.cells #[.int .i64 v0, .int .i64 v1, .int .i64 v2, .int .i64 v3, .int .i64 v4] 57)).alloc (.cells #[.int .i64 0, .int .i64 0, .int .i64 0, .int .i64 0, .int .i64 0] 57)
  have hZ := Blk.new ((w.alloc (.cells #[.int .i64 (col : Int), .int .i64 lo, .int .i64 hi] 86)).alloc (.cells #[.int .i64 v0, .int .i64 v1, .int .i64 v2, .int .i64 v3, .int .i64 v4] 57)) 57 #[.int .i64 0, .int .i64 0, .int .i64 0, .int .i64 0, .int .i64 0]
  have hbl : Below w.heap.size w (((w.alloc (.cells #[.int .i64 (col : Int), .int .i64 lo, .int .i64 hi] 86)).alloc (.cells #[.int .i64 v0, .int .i64 v1, .int .i64 v2, .int .i64 v3, .int .i64 v4] 57)).alloc (.cells #[.int .i64 0, .int .i64 0, .int .i64 0, .int .i64 0, .int .i64 0] 57)) := (((Below.refl _ _).alloc (Nat.le_refl _) _).alloc (by simp) _).alloc (by simp; omega) _
  rw [show (w.alloc (.cells #[.int .i64 (col : Int), .int .i64 lo, .int .i64 hi] 86)).heap.size = w.heap.size + 1 from by simp] at hT
  rw [show ((w.alloc (.cells #[.int .i64 (col : Int), .int .i64 lo, .int .i64 hi] 86)).alloc (.cells #[.int .i64 v0, .int .i64 v1, .int .i64 v2, .int .i64 v3, .int .i64 v4] 57)).heap.size = w.heap.size + 1 + 1 from by simp] at hZ
  have HT := Lib.hid hT
  have HK := Lib.hid hk
  have HZ := Lib.hid hZ
  have HBL := Lib.hid hbl
  have HV := Lib.hid hv
  clear hT hk hZ hbl hv
  go_enter Try.func42, Try.ntmps42
  go_wp2_with fail
  generalize (((w.alloc (.cells #[.int .i64 (col : Int), .int .i64 lo, .int .i64 hi] 86)).alloc (.cells #[.int .i64 v0, .int .i64 v1, .int .i64 v2, .int .i64 v3, .int .i64 v4] 57)).alloc (.cells #[.int .i64 0, .int .i64 0, .int .i64 0, .int .i64 0, .int .i64 0] 57)) = w1 at *
  have hTd : Blk w1 (w.heap.size + 1) 57 #[.int .i64 v0, .int .i64 v1, .int .i64 v2, .int .i64 v3, .int .i64 v4] := HT.out
  have hKd : Blk w1 w.heap.size 86 #[.int .i64 (col : Int), .int .i64 lo, .int .i64 hi] := HK.out
  have hZd : Blk w1 (w.heap.size + 1 + 1) 57 #[.int .i64 0, .int .i64 0, .int .i64 0, .int .i64 0, .int .i64 0] := HZ.out
  have hbz : Below w.heap.size w w1 := HBL.out
  clear HT HK HZ HBL
  generalize hkb : w.heap.size = kb at *
  have g0 : w1.frozen? ⟨kb + 1 + 1, 0, none⟩ = false := hZd.frozen 0
  have g1 : w1.frozen? ⟨kb + 1 + 1, 1, none⟩ = false := hZd.frozen 1
  have g2 : w1.frozen? ⟨kb + 1 + 1, 2, none⟩ = false := hZd.frozen 2
  have g3 : w1.frozen? ⟨kb + 1 + 1, 3, none⟩ = false := hZd.frozen 3
  have g4 : w1.frozen? ⟨kb + 1 + 1, 4, none⟩ = false := hZd.frozen 4
  have z0 : w1.cell? ⟨kb + 1 + 1, 0, none⟩ = some (.int .i64 0) := hZd.cell 0
  have z1 : w1.cell? ⟨kb + 1 + 1, 1, none⟩ = some (.int .i64 0) := hZd.cell 1
  have z2 : w1.cell? ⟨kb + 1 + 1, 2, none⟩ = some (.int .i64 0) := hZd.cell 2
  have z3 : w1.cell? ⟨kb + 1 + 1, 3, none⟩ = some (.int .i64 0) := hZd.cell 3
  have z4 : w1.cell? ⟨kb + 1 + 1, 4, none⟩ = some (.int .i64 0) := hZd.cell 4
  have i0 : (0 : Int) ≤ (col : Int) := by omega
  have i1 : (col : Int) < 5 := by omega
  have hrd : ∀ w', (Blk w' kb 86 #[.int .i64 (col : Int), .int .i64 lo, .int .i64 hi] ∧ Blk w' (kb + 1) 57 #[.int .i64 v0, .int .i64 v1, .int .i64 v2, .int .i64 v3, .int .i64 v4]) → w'.cell? ⟨kb, 0, none⟩ = some (.int .i64 (col : Int)) ∧ w'.cell? ⟨kb, 1, none⟩ = some (.int .i64 lo) ∧ w'.cell? ⟨kb, 2, none⟩ = some (.int .i64 hi) ∧ w'.cell? ⟨kb + 1, col, none⟩ = some (.int .i64 v) ∧ w'.cell? ⟨kb + 1, 0, none⟩ = some (.int .i64 v0) ∧ w'.cell? ⟨kb + 1, 1, none⟩ = some (.int .i64 v1) ∧ w'.cell? ⟨kb + 1, 2, none⟩ = some (.int .i64 v2) ∧ w'.cell? ⟨kb + 1, 3, none⟩ = some (.int .i64 v3) ∧ w'.cell? ⟨kb + 1, 4, none⟩ = some (.int .i64 v4) := fun w' h => ⟨h.1.cell 0, h.1.cell 1, h.1.cell 2, (h.2.cell col).trans HV.out, h.2.cell 0, h.2.cell 1, h.2.cell 2, h.2.cell 3, h.2.cell 4⟩
  refine yg_begin (fun w' => Blk w' kb 86 #[.int .i64 (col : Int), .int .i64 lo, .int .i64 hi] ∧ Blk w' (kb + 1) 57 #[.int .i64 v0, .int .i64 v1, .int .i64 v2, .int .i64 v3, .int .i64 v4]) [0, 1, 2, 3, 4, 5, 6, 7, 8, 9, 10, 11, 12, 13, 14, 15, 16] [17, 18, 19] (by kernel_rfl) (by kernel_rfl) (fun _ _ d _ _ h => by cases d <;> exact h) ⟨hKd, hTd⟩ ?_
  refine yg_read _ (.agg #[.int .i64 v0, .int .i64 v1, .int .i64 v2, .int .i64 v3, .int .i64 v4]) rfl rfl (fun w' hF => by obtain ⟨k0, k1, k2, kc, u0, u1, u2, u3, u4⟩ := hrd _ hF; simp [execOp, Act.eval, go_sem, u0, u1, u2, u3, u4]) ?_
  refine yg_read _ (.pointer (some ⟨kb, 0, none⟩)) rfl rfl (fun w' hF => by simp [execOp, Act.eval, go_sem]) ?_
  refine yg_read _ (.int .i64 (col : Int)) rfl rfl (fun w' hF => by obtain ⟨k0, k1, k2, kc, u0, u1, u2, u3, u4⟩ := hrd _ hF; simp [execOp, Act.eval, go_sem, k0]) ?_
  refine yg_read _ (.pointer (some ⟨kb + 1, col, none⟩)) rfl rfl (fun w' hF => by simp [execOp, Act.eval, go_sem, i0, i1]) ?_
  refine yg_read _ (.int .i64 v) rfl rfl (fun w' hF => by obtain ⟨k0, k1, k2, kc, u0, u1, u2, u3, u4⟩ := hrd _ hF; simp [execOp, Act.eval, go_sem, kc]) ?_
  refine yg_read _ (.pointer (some ⟨kb, 1, none⟩)) rfl rfl (fun w' hF => by simp [execOp, Act.eval, go_sem]) ?_
  refine yg_read _ (.int .i64 lo) rfl rfl (fun w' hF => by obtain ⟨k0, k1, k2, kc, u0, u1, u2, u3, u4⟩ := hrd _ hF; simp [execOp, Act.eval, go_sem, k1]) ?_
  have hKd' : Blk w1.drew kb 86 #[.int .i64 (col : Int), .int .i64 lo, .int .i64 hi] := hKd
  have hTd' : Blk w1.drew (kb + 1) 57 #[.int .i64 v0, .int .i64 v1, .int .i64 v2, .int .i64 v3, .int .i64 v4] := hTd
  have hZd' : Blk w1.drew (kb + 1 + 1) 57 #[.int .i64 0, .int .i64 0, .int .i64 0, .int .i64 0, .int .i64 0] := hZd
  have hKs : Blk (((((w1.setCell ⟨kb + 1 + 1, 0, none⟩ (.int .i64 v0)).setCell ⟨kb + 1 + 1, 1, none⟩ (.int .i64 v1)).setCell ⟨kb + 1 + 1, 2, none⟩ (.int .i64 v2)).setCell ⟨kb + 1 + 1, 3, none⟩ (.int .i64 v3)).setCell ⟨kb + 1 + 1, 4, none⟩ (.int .i64 v4)).drew kb 86 #[.int .i64 (col : Int), .int .i64 lo, .int .i64 hi] := (((((hKd.far (p := ⟨kb + 1 + 1, 0, none⟩) (show kb ≠ kb + 1 + 1 by omega) (.int .i64 v0)).far (p := ⟨kb + 1 + 1, 1, none⟩) (show kb ≠ kb + 1 + 1 by omega) (.int .i64 v1)).far (p := ⟨kb + 1 + 1, 2, none⟩) (show kb ≠ kb + 1 + 1 by omega) (.int .i64 v2)).far (p := ⟨kb + 1 + 1, 3, none⟩) (show kb ≠ kb + 1 + 1 by omega) (.int .i64 v3)).far (p := ⟨kb + 1 + 1, 4, none⟩) (show kb ≠ kb + 1 + 1 by omega) (.int .i64 v4))
  have hTs : Blk (((((w1.setCell ⟨kb + 1 + 1, 0, none⟩ (.int .i64 v0)).setCell ⟨kb + 1 + 1, 1, none⟩ (.int .i64 v1)).setCell ⟨kb + 1 + 1, 2, none⟩ (.int .i64 v2)).setCell ⟨kb + 1 + 1, 3, none⟩ (.int .i64 v3)).setCell ⟨kb + 1 + 1, 4, none⟩ (.int .i64 v4)).drew (kb + 1) 57 #[.int .i64 v0, .int .i64 v1, .int .i64 v2, .int .i64 v3, .int .i64 v4] := (((((hTd.far (p := ⟨kb + 1 + 1, 0, none⟩) (show kb + 1 ≠ kb + 1 + 1 by omega) (.int .i64 v0)).far (p := ⟨kb + 1 + 1, 1, none⟩) (show kb + 1 ≠ kb + 1 + 1 by omega) (.int .i64 v1)).far (p := ⟨kb + 1 + 1, 2, none⟩) (show kb + 1 ≠ kb + 1 + 1 by omega) (.int .i64 v2)).far (p := ⟨kb + 1 + 1, 3, none⟩) (show kb + 1 ≠ kb + 1 + 1 by omega) (.int .i64 v3)).far (p := ⟨kb + 1 + 1, 4, none⟩) (show kb + 1 ≠ kb + 1 + 1 by omega) (.int .i64 v4))
  have hzz : Blk (((((w1.setCell ⟨kb + 1 + 1, 0, none⟩ (.int .i64 v0)).setCell ⟨kb + 1 + 1, 1, none⟩ (.int .i64 v1)).setCell ⟨kb + 1 + 1, 2, none⟩ (.int .i64 v2)).setCell ⟨kb + 1 + 1, 3, none⟩ (.int .i64 v3)).setCell ⟨kb + 1 + 1, 4, none⟩ (.int .i64 v4)).drew (kb + 1 + 1) 57 #[.int .i64 v0, .int .i64 v1, .int .i64 v2, .int .i64 v3, .int .i64 v4] := (((((hZd.set_ 0 (.int .i64 v0)).set_ 1 (.int .i64 v1)).set_ 2 (.int .i64 v2)).set_ 3 (.int .i64 v3)).set_ 4 (.int .i64 v4))
  have hbb := (((((hbz.setCell (p := ⟨kb + 1 + 1, 0, none⟩) (show kb ≤ kb + 1 + 1 by omega) (.int .i64 v0)).setCell (p := ⟨kb + 1 + 1, 1, none⟩) (show kb ≤ kb + 1 + 1 by omega) (.int .i64 v1)).setCell (p := ⟨kb + 1 + 1, 2, none⟩) (show kb ≤ kb + 1 + 1 by omega) (.int .i64 v2)).setCell (p := ⟨kb + 1 + 1, 3, none⟩) (show kb ≤ kb + 1 + 1 by omega) (.int .i64 v3)).setCell (p := ⟨kb + 1 + 1, 4, none⟩) (show kb ≤ kb + 1 + 1 by omega) (.int .i64 v4)).drew
  by_cases hlo : lo ≤ v
  · have e1 : decide (lo ≤ v) = true := by simpa using hlo
    refine yg_read _ (.bool true) rfl rfl (fun w' hF => by simp [execOp, Act.eval, go_sem, hlo]) ?_
    refine yg_read _ (.bool true) rfl rfl (fun w' hF => by obtain ⟨k0, k1, k2, kc, u0, u1, u2, u3, u4⟩ := hrd _ hF; simp [execOp, Act.eval, go_sem]) ?_
    refine yg_read _ (.pointer (some ⟨kb, 0, none⟩)) rfl (by kernel_rfl) (fun w' hF => by obtain ⟨k0, k1, k2, kc, u0, u1, u2, u3, u4⟩ := hrd _ hF; simp [execOp, Act.eval, go_sem]) ?_
    refine yg_read _ (.int .i64 (col : Int)) rfl (by kernel_rfl) (fun w' hF => by obtain ⟨k0, k1, k2, kc, u0, u1, u2, u3, u4⟩ := hrd _ hF; simp [execOp, Act.eval, go_sem, k0]) ?_
    refine yg_read _ (.pointer (some ⟨kb + 1, col, none⟩)) rfl (by kernel_rfl) (fun w' hF => by obtain ⟨k0, k1, k2, kc, u0, u1, u2, u3, u4⟩ := hrd _ hF; simp [execOp, Act.eval, go_sem, i0, i1]) ?_
    refine yg_read _ (.int .i64 v) rfl (by kernel_rfl) (fun w' hF => by obtain ⟨k0, k1, k2, kc, u0, u1, u2, u3, u4⟩ := hrd _ hF; simp [execOp, Act.eval, go_sem, kc]) ?_
    refine yg_read _ (.pointer (some ⟨kb, 2, none⟩)) rfl (by kernel_rfl) (fun w' hF => by obtain ⟨k0, k1, k2, kc, u0, u1, u2, u3, u4⟩ := hrd _ hF; simp [execOp, Act.eval, go_sem]) ?_
    refine yg_read _ (.int .i64 hi) rfl (by kernel_rfl) (fun w' hF => by obtain ⟨k0, k1, k2, kc, u0, u1, u2, u3, u4⟩ := hrd _ hF; simp [execOp, Act.eval, go_sem, k2]) ?_
    refine yg_read _ (.bool (decide (v ≤ hi))) rfl (by kernel_rfl) (fun w' hF => by obtain ⟨k0, k1, k2, kc, u0, u1, u2, u3, u4⟩ := hrd _ hF; simp [execOp, Act.eval, go_sem]) ?_
    refine yg_read _ (.bool (decide (v ≤ hi))) rfl rfl (fun w' hF => by obtain ⟨k0, k1, k2, kc, u0, u1, u2, u3, u4⟩ := hrd _ hF; simp [execOp, Act.eval, go_sem]) ?_
    refine yg_end ?_
    refine sf_step _ rfl (fun K8 hK8 => ?_)
    go_simp
    refine hK8.out _ _ (fun _ => ⟨hKs, hTs⟩) ?_
    clear hK8 K8
    clear g0 g1 g2 g3 g4 z0 z1 z2 z3 z4 hrd hKd hTd hZd hKd' hTd' hZd' hbz
    generalize (((((w1.setCell ⟨kb + 1 + 1, 0, none⟩ (.int .i64 v0)).setCell ⟨kb + 1 + 1, 1, none⟩ (.int .i64 v1)).setCell ⟨kb + 1 + 1, 2, none⟩ (.int .i64 v2)).setCell ⟨kb + 1 + 1, 3, none⟩ (.int .i64 v3)).setCell ⟨kb + 1 + 1, 4, none⟩ (.int .i64 v4)).drew = w9 at *
    refine sf_step _ rfl (fun K8 hK8 => ?_)
    go_simp
    refine hK8.out _ _ (fun _ => ⟨hKs, hTs⟩) ?_
    clear hK8 K8
    refine sf_step _ rfl (fun K8 hK8 => ?_)
    go_simp
    refine hK8.out _ _ (fun h => absurd rfl h) ?_
    clear hK8 K8
    refine sf_end ?_
    have s0 : w9.cell? ⟨kb + 1 + 1, 0, none⟩ = some (.int .i64 v0) := hzz.cell 0
    have s1 : w9.cell? ⟨kb + 1 + 1, 1, none⟩ = some (.int .i64 v1) := hzz.cell 1
    have s2 : w9.cell? ⟨kb + 1 + 1, 2, none⟩ = some (.int .i64 v2) := hzz.cell 2
    have s3 : w9.cell? ⟨kb + 1 + 1, 3, none⟩ = some (.int .i64 v3) := hzz.cell 3
    have s4 : w9.cell? ⟨kb + 1 + 1, 4, none⟩ = some (.int .i64 v4) := hzz.cell 4
    go_wp2_with fail
    refine bodyPost_ret (v := .tuple #[.agg #[.int .i64 v0, .int .i64 v1, .int .i64 v2, .int .i64 v3, .int .i64 v4], .bool (decide (v ≤ hi)), .int .i64 0]) (by simp [results, Try.results42, go_sem, s0, s1, s2, s3, s4]; try rfl) rfl ?_
    exact ⟨by rw [hb, e1, Bool.true_and], by rw [hkb]; exact hbb⟩
  · have e1 : decide (lo ≤ v) = false := by simpa using hlo
    refine yg_read _ (.bool false) rfl rfl (fun w' hF => by simp [execOp, Act.eval, go_sem]; omega) ?_
    refine yg_read _ (.bool false) rfl rfl (fun w' hF => by obtain ⟨k0, k1, k2, kc, u0, u1, u2, u3, u4⟩ := hrd _ hF; simp [execOp, Act.eval, go_sem]) ?_
    refine yg_skip _ rfl (by kernel_rfl) ?_
    refine yg_skip _ rfl (by kernel_rfl) ?_
    refine yg_skip _ rfl (by kernel_rfl) ?_
    refine yg_skip _ rfl (by kernel_rfl) ?_
    refine yg_skip _ rfl (by kernel_rfl) ?_
    refine yg_skip _ rfl (by kernel_rfl) ?_
    refine yg_skip _ rfl (by kernel_rfl) ?_
    refine yg_read _ (.bool false) rfl rfl (fun w' hF => by simp [execOp, Act.eval, go_sem]) ?_
    refine yg_end ?_
    refine sf_step _ rfl (fun K8 hK8 => ?_)
    go_simp
    refine hK8.out _ _ (fun _ => ⟨hKs, hTs⟩) ?_
    clear hK8 K8
    clear g0 g1 g2 g3 g4 z0 z1 z2 z3 z4 hrd hKd hTd hZd hKd' hTd' hZd' hbz
    generalize (((((w1.setCell ⟨kb + 1 + 1, 0, none⟩ (.int .i64 v0)).setCell ⟨kb + 1 + 1, 1, none⟩ (.int .i64 v1)).setCell ⟨kb + 1 + 1, 2, none⟩ (.int .i64 v2)).setCell ⟨kb + 1 + 1, 3, none⟩ (.int .i64 v3)).setCell ⟨kb + 1 + 1, 4, none⟩ (.int .i64 v4)).drew = w9 at *
    refine sf_step _ rfl (fun K8 hK8 => ?_)
    go_simp
    refine hK8.out _ _ (fun _ => ⟨hKs, hTs⟩) ?_
    clear hK8 K8
    refine sf_step _ rfl (fun K8 hK8 => ?_)
    go_simp
    refine hK8.out _ _ (fun h => absurd rfl h) ?_
    clear hK8 K8
    refine sf_end ?_
    have s0 : w9.cell? ⟨kb + 1 + 1, 0, none⟩ = some (.int .i64 v0) := hzz.cell 0
    have s1 : w9.cell? ⟨kb + 1 + 1, 1, none⟩ = some (.int .i64 v1) := hzz.cell 1
    have s2 : w9.cell? ⟨kb + 1 + 1, 2, none⟩ = some (.int .i64 v2) := hzz.cell 2
    have s3 : w9.cell? ⟨kb + 1 + 1, 3, none⟩ = some (.int .i64 v3) := hzz.cell 3
    have s4 : w9.cell? ⟨kb + 1 + 1, 4, none⟩ = some (.int .i64 v4) := hzz.cell 4
    go_wp2_with fail
    refine bodyPost_ret (v := .tuple #[.agg #[.int .i64 v0, .int .i64 v1, .int .i64 v2, .int .i64 v3, .int .i64 v4], .bool false, .int .i64 0]) (by simp [results, Try.results42, go_sem, s0, s1, s2, s3, s4]; try rfl) rfl ?_
    exact ⟨by first | rfl | (rw [hb, e1, Bool.false_and]) | simp [hb, e1], by first | exact hbb | (rw [hkb]; exact hbb)⟩
end

end Go.Proofs.Ytlbaigkpojkfjaa.Fl
