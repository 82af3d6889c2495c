/- join.Look as a whole. -/
import Derived.Test.YtlbaigkpojkfjaaZJnCan
import Derived.Test.YtlbaigkpojkfjaaZJnLookM
import Derived.Test.YtlbaigkpojkfjaaZJnFull
set_option linter.unusedVariables false
namespace Go.Proofs.Ytlbaigkpojkfjaa.Fl
open Go.RowKit

section
variable {w w' : World} {O : Nat → Prop} {K : Key} {W : Wk}

set_option maxRecDepth 100000 in
set_option maxHeartbeats 2000000 in
/-- A column that isn't there. -/
theorem lookf_arg {af ab aw ac bf bb bw bc key val dst : Int} {rv : Value} (hw : ¬ (0 ≤ key ∧ key < aw ∧ key < 5)) :
    Calls Try.prog 23 #[rv, .agg #[.int .i64 af, .int .i64 ab, .int .i64 aw, .int .i64 ac], .int .i64 key, .agg #[.int .i64 bf, .int .i64 bb, .int .i64 bw, .int .i64 bc], .int .i64 val, .int .i64 dst] w (fun e w' => e = .returned (.tuple #[.agg noFile, .int .i64 1]) ∧ Below w.heap.size w w') := by
  have hA := ((Blk.new w 29 #[.int .i64 af, .int .i64 ab, .int .i64 aw, .int .i64 ac]).alloc (.cells #[.int .i64 bf, .int .i64 bb, .int .i64 bw, .int .i64 bc] 29)).alloc (.cells #[.int .i64 0, .int .i64 0, .int .i64 0, .int .i64 0] 29)
  have hBf := (Blk.new (w.alloc (.cells #[.int .i64 af, .int .i64 ab, .int .i64 aw, .int .i64 ac] 29)) 29 #[.int .i64 bf, .int .i64 bb, .int .i64 bw, .int .i64 bc]).alloc (.cells #[.int .i64 0, .int .i64 0, .int .i64 0, .int .i64 0] 29)
  have hZ := Blk.new ((w.alloc (.cells #[.int .i64 af, .int .i64 ab, .int .i64 aw, .int .i64 ac] 29)).alloc (.cells #[.int .i64 bf, .int .i64 bb, .int .i64 bw, .int .i64 bc] 29)) 29 #[.int .i64 0, .int .i64 0, .int .i64 0, .int .i64 0]
  have hbl : Below w.heap.size w (((w.alloc (.cells #[.int .i64 af, .int .i64 ab, .int .i64 aw, .int .i64 ac] 29)).alloc (.cells #[.int .i64 bf, .int .i64 bb, .int .i64 bw, .int .i64 bc] 29)).alloc (.cells #[.int .i64 0, .int .i64 0, .int .i64 0, .int .i64 0] 29)) := (((Below.refl _ _).alloc (Nat.le_refl _) _).alloc (by simp) _).alloc (by simp; omega) _
  rw [show (w.alloc (.cells #[.int .i64 af, .int .i64 ab, .int .i64 aw, .int .i64 ac] 29)).heap.size = w.heap.size + 1 from by simp] at hBf
  rw [show ((w.alloc (.cells #[.int .i64 af, .int .i64 ab, .int .i64 aw, .int .i64 ac] 29)).alloc (.cells #[.int .i64 bf, .int .i64 bb, .int .i64 bw, .int .i64 bc] 29)).heap.size = w.heap.size + 1 + 1 from by simp] at hZ
  have HA := Lib.hid hA
  have HBF := Lib.hid hBf
  have HZ := Lib.hid hZ
  have HBL := Lib.hid hbl
  have HC := Lib.hid (fun w => column_any af ab aw ac key w)
  rw [show decide (0 ≤ key ∧ key < aw ∧ key < 5) = false from by simpa using hw] at HC
  unfold noFile
  clear hA hBf hZ hbl hw
  go_enter Try.func23, Try.ntmps23
  go_upto_region 1 with (fail)
  generalize (((w.alloc (.cells #[.int .i64 af, .int .i64 ab, .int .i64 aw, .int .i64 ac] 29)).alloc (.cells #[.int .i64 bf, .int .i64 bb, .int .i64 bw, .int .i64 bc] 29)).alloc (.cells #[.int .i64 0, .int .i64 0, .int .i64 0, .int .i64 0] 29)) = w1 at *
  have k0 : w1.cell? ⟨w.heap.size, 0, none⟩ = some (.int .i64 af) := HA.out.cell 0
  have k1 : w1.cell? ⟨w.heap.size, 1, none⟩ = some (.int .i64 ab) := HA.out.cell 1
  have k2 : w1.cell? ⟨w.heap.size, 2, none⟩ = some (.int .i64 aw) := HA.out.cell 2
  have k3 : w1.cell? ⟨w.heap.size, 3, none⟩ = some (.int .i64 ac) := HA.out.cell 3
  go_wp2_with fail
  refine (HC.out w1).mono ?_
  rintro e w2 ⟨rfl, hb2⟩
  have HBn := Lib.hid hb2
  clear hb2 k0 k1 k2 k3 HC
  have hRr := HZ.out.below HBn.out HZ.out.lt
  have z0 : w2.cell? ⟨w.heap.size + 1 + 1, 0, none⟩ = some (.int .i64 0) := hRr.cell 0
  have v0 := hRr.frozen 0
  have z1 : w2.cell? ⟨w.heap.size + 1 + 1, 1, none⟩ = some (.int .i64 0) := hRr.cell 1
  have v1 := hRr.frozen 1
  have z2 : w2.cell? ⟨w.heap.size + 1 + 1, 2, none⟩ = some (.int .i64 0) := hRr.cell 2
  have v2 := hRr.frozen 2
  have z3 : w2.cell? ⟨w.heap.size + 1 + 1, 3, none⟩ = some (.int .i64 0) := hRr.cell 3
  have v3 := hRr.frozen 3
  have HR9 := Lib.hid ((((hRr.set_ 0 (.int .i64 0)).set_ 1 (.int .i64 0)).set_ 2 (.int .i64 0)).set_ 3 (.int .i64 0))
  have HB9 := Lib.hid (((((HBL.out.trans (HBn.out.mono HBL.out.size)).setCell (p := ⟨w.heap.size + 1 + 1, 0, none⟩) (show w.heap.size ≤ w.heap.size + 1 + 1 by omega) (.int .i64 0)).setCell (p := ⟨w.heap.size + 1 + 1, 1, none⟩) (show w.heap.size ≤ w.heap.size + 1 + 1 by omega) (.int .i64 0)).setCell (p := ⟨w.heap.size + 1 + 1, 2, none⟩) (show w.heap.size ≤ w.heap.size + 1 + 1 by omega) (.int .i64 0)).setCell (p := ⟨w.heap.size + 1 + 1, 3, none⟩) (show w.heap.size ≤ w.heap.size + 1 + 1 by omega) (.int .i64 0))
  clear hRr
  go_wp2_with fail
  generalize ((((w2.setCell ⟨w.heap.size + 1 + 1, 0, none⟩ (.int .i64 0)).setCell ⟨w.heap.size + 1 + 1, 1, none⟩ (.int .i64 0)).setCell ⟨w.heap.size + 1 + 1, 2, none⟩ (.int .i64 0)).setCell ⟨w.heap.size + 1 + 1, 3, none⟩ (.int .i64 0)) = w9 at *
  have s0 : w9.cell? ⟨w.heap.size + 1 + 1, 0, none⟩ = some (.int .i64 0) := HR9.out.cell 0
  have s1 : w9.cell? ⟨w.heap.size + 1 + 1, 1, none⟩ = some (.int .i64 0) := HR9.out.cell 1
  have s2 : w9.cell? ⟨w.heap.size + 1 + 1, 2, none⟩ = some (.int .i64 0) := HR9.out.cell 2
  have s3 : w9.cell? ⟨w.heap.size + 1 + 1, 3, none⟩ = some (.int .i64 0) := HR9.out.cell 3
  refine bodyPost_ret (v := .tuple #[.agg #[.int .i64 0, .int .i64 0, .int .i64 0, .int .i64 0], .int .i64 1]) (by simp [results, Try.results23, go_sem, s0, s1, s2, s3]; try rfl) rfl ?_
  exact ⟨rfl, HB9.out⟩

set_option maxRecDepth 100000 in
set_option maxHeartbeats 2000000 in
/-- A file that can't be. -/
theorem lookf_cant {af ab aw ac bf bb bw bc key val dst : Int} {rv : Value} (hka : 0 ≤ key ∧ key < aw ∧ key < 5) (hvb : 0 ≤ val ∧ val < bw ∧ val < 5) (hd0 : 0 ≤ dst) (hd5 : dst < 5)
    (hcan : ∀ w1, Below w.heap.size w w1 → Calls Try.prog 47 #[rv, .agg (fvals af ab aw ac)] w1 (fun e w' => e = .returned (.bool false) ∧ Below w1.heap.size w1 w')) :
    Calls Try.prog 23 #[rv, .agg #[.int .i64 af, .int .i64 ab, .int .i64 aw, .int .i64 ac], .int .i64 key, .agg #[.int .i64 bf, .int .i64 bb, .int .i64 bw, .int .i64 bc], .int .i64 val, .int .i64 dst] w (fun e w' => e = .returned (.tuple #[.agg noFile, .int .i64 1]) ∧ Below w.heap.size w w') := by
  have hA := ((Blk.new w 29 #[.int .i64 af, .int .i64 ab, .int .i64 aw, .int .i64 ac]).alloc (.cells #[.int .i64 bf, .int .i64 bb, .int .i64 bw, .int .i64 bc] 29)).alloc (.cells #[.int .i64 0, .int .i64 0, .int .i64 0, .int .i64 0] 29)
  have hBf := (Blk.new (w.alloc (.cells #[.int .i64 af, .int .i64 ab, .int .i64 aw, .int .i64 ac] 29)) 29 #[.int .i64 bf, .int .i64 bb, .int .i64 bw, .int .i64 bc]).alloc (.cells #[.int .i64 0, .int .i64 0, .int .i64 0, .int .i64 0] 29)
  have hZ := Blk.new ((w.alloc (.cells #[.int .i64 af, .int .i64 ab, .int .i64 aw, .int .i64 ac] 29)).alloc (.cells #[.int .i64 bf, .int .i64 bb, .int .i64 bw, .int .i64 bc] 29)) 29 #[.int .i64 0, .int .i64 0, .int .i64 0, .int .i64 0]
  have hbl : Below w.heap.size w (((w.alloc (.cells #[.int .i64 af, .int .i64 ab, .int .i64 aw, .int .i64 ac] 29)).alloc (.cells #[.int .i64 bf, .int .i64 bb, .int .i64 bw, .int .i64 bc] 29)).alloc (.cells #[.int .i64 0, .int .i64 0, .int .i64 0, .int .i64 0] 29)) := (((Below.refl _ _).alloc (Nat.le_refl _) _).alloc (by simp) _).alloc (by simp; omega) _
  rw [show (w.alloc (.cells #[.int .i64 af, .int .i64 ab, .int .i64 aw, .int .i64 ac] 29)).heap.size = w.heap.size + 1 from by simp] at hBf
  rw [show ((w.alloc (.cells #[.int .i64 af, .int .i64 ab, .int .i64 aw, .int .i64 ac] 29)).alloc (.cells #[.int .i64 bf, .int .i64 bb, .int .i64 bw, .int .i64 bc] 29)).heap.size = w.heap.size + 1 + 1 from by simp] at hZ
  have HA := Lib.hid hA
  have HBF := Lib.hid hBf
  have HZ := Lib.hid hZ
  have HBL := Lib.hid hbl
  have HC := Lib.hid (fun w => column_any af ab aw ac key w)
  rw [show decide (0 ≤ key ∧ key < aw ∧ key < 5) = true from by simpa using hka] at HC
  have HC2 := Lib.hid (fun w => column_any bf bb bw bc val w)
  rw [show decide (0 ≤ val ∧ val < bw ∧ val < 5) = true from by simpa using hvb] at HC2
  unfold fvals at hcan
  have HCAN := Lib.hid hcan
  unfold noFile
  clear hA hBf hZ hbl hka hvb hcan
  go_enter Try.func23, Try.ntmps23
  go_upto_region 1 with (fail)
  generalize (((w.alloc (.cells #[.int .i64 af, .int .i64 ab, .int .i64 aw, .int .i64 ac] 29)).alloc (.cells #[.int .i64 bf, .int .i64 bb, .int .i64 bw, .int .i64 bc] 29)).alloc (.cells #[.int .i64 0, .int .i64 0, .int .i64 0, .int .i64 0] 29)) = w1 at *
  have k0 : w1.cell? ⟨w.heap.size, 0, none⟩ = some (.int .i64 af) := HA.out.cell 0
  have k1 : w1.cell? ⟨w.heap.size, 1, none⟩ = some (.int .i64 ab) := HA.out.cell 1
  have k2 : w1.cell? ⟨w.heap.size, 2, none⟩ = some (.int .i64 aw) := HA.out.cell 2
  have k3 : w1.cell? ⟨w.heap.size, 3, none⟩ = some (.int .i64 ac) := HA.out.cell 3
  go_wp2_with fail
  refine (HC.out w1).mono ?_
  rintro e w2 ⟨rfl, hb2⟩
  have HB2 := Lib.hid hb2
  have hBf2 := HBF.out.below hb2 HBF.out.lt
  have j0 : w2.cell? ⟨w.heap.size + 1, 0, none⟩ = some (.int .i64 bf) := hBf2.cell 0
  have j1 : w2.cell? ⟨w.heap.size + 1, 1, none⟩ = some (.int .i64 bb) := hBf2.cell 1
  have j2 : w2.cell? ⟨w.heap.size + 1, 2, none⟩ = some (.int .i64 bw) := hBf2.cell 2
  have j3 : w2.cell? ⟨w.heap.size + 1, 3, none⟩ = some (.int .i64 bc) := hBf2.cell 3
  clear hb2 hBf2 k0 k1 k2 k3 HC
  go_wp2_with fail
  refine (HC2.out w2).mono ?_
  rintro e w3 ⟨rfl, hb3⟩
  have HB3 := Lib.hid (HB2.out.trans (hb3.mono HB2.out.size))
  have hA3 := HA.out.below HB3.out HA.out.lt
  have k0 : w3.cell? ⟨w.heap.size, 0, none⟩ = some (.int .i64 af) := hA3.cell 0
  have k1 : w3.cell? ⟨w.heap.size, 1, none⟩ = some (.int .i64 ab) := hA3.cell 1
  have k2 : w3.cell? ⟨w.heap.size, 2, none⟩ = some (.int .i64 aw) := hA3.cell 2
  have k3 : w3.cell? ⟨w.heap.size, 3, none⟩ = some (.int .i64 ac) := hA3.cell 3
  clear hb3 hA3 j0 j1 j2 j3 HC2
  have HCC := Lib.hid (HCAN.out w3 (HBL.out.trans (HB3.out.mono HBL.out.size)))
  go_wp2_with fail
  refine HCC.out.mono ?_
  rintro e w4 ⟨rfl, hb4⟩
  have HBn := Lib.hid (HB3.out.trans (hb4.mono HB3.out.size))
  clear hb4 k0 k1 k2 k3 HCC
  have hRr := HZ.out.below HBn.out HZ.out.lt
  have z0 : w4.cell? ⟨w.heap.size + 1 + 1, 0, none⟩ = some (.int .i64 0) := hRr.cell 0
  have v0 := hRr.frozen 0
  have z1 : w4.cell? ⟨w.heap.size + 1 + 1, 1, none⟩ = some (.int .i64 0) := hRr.cell 1
  have v1 := hRr.frozen 1
  have z2 : w4.cell? ⟨w.heap.size + 1 + 1, 2, none⟩ = some (.int .i64 0) := hRr.cell 2
  have v2 := hRr.frozen 2
  have z3 : w4.cell? ⟨w.heap.size + 1 + 1, 3, none⟩ = some (.int .i64 0) := hRr.cell 3
  have v3 := hRr.frozen 3
  have HR9 := Lib.hid ((((hRr.set_ 0 (.int .i64 0)).set_ 1 (.int .i64 0)).set_ 2 (.int .i64 0)).set_ 3 (.int .i64 0))
  have HB9 := Lib.hid (((((HBL.out.trans (HBn.out.mono HBL.out.size)).setCell (p := ⟨w.heap.size + 1 + 1, 0, none⟩) (show w.heap.size ≤ w.heap.size + 1 + 1 by omega) (.int .i64 0)).setCell (p := ⟨w.heap.size + 1 + 1, 1, none⟩) (show w.heap.size ≤ w.heap.size + 1 + 1 by omega) (.int .i64 0)).setCell (p := ⟨w.heap.size + 1 + 1, 2, none⟩) (show w.heap.size ≤ w.heap.size + 1 + 1 by omega) (.int .i64 0)).setCell (p := ⟨w.heap.size + 1 + 1, 3, none⟩) (show w.heap.size ≤ w.heap.size + 1 + 1 by omega) (.int .i64 0))
  clear hRr
  go_wp2_with fail
  generalize ((((w4.setCell ⟨w.heap.size + 1 + 1, 0, none⟩ (.int .i64 0)).setCell ⟨w.heap.size + 1 + 1, 1, none⟩ (.int .i64 0)).setCell ⟨w.heap.size + 1 + 1, 2, none⟩ (.int .i64 0)).setCell ⟨w.heap.size + 1 + 1, 3, none⟩ (.int .i64 0)) = w9 at *
  have s0 : w9.cell? ⟨w.heap.size + 1 + 1, 0, none⟩ = some (.int .i64 0) := HR9.out.cell 0
  have s1 : w9.cell? ⟨w.heap.size + 1 + 1, 1, none⟩ = some (.int .i64 0) := HR9.out.cell 1
  have s2 : w9.cell? ⟨w.heap.size + 1 + 1, 2, none⟩ = some (.int .i64 0) := HR9.out.cell 2
  have s3 : w9.cell? ⟨w.heap.size + 1 + 1, 3, none⟩ = some (.int .i64 0) := HR9.out.cell 3
  refine bodyPost_ret (v := .tuple #[.agg #[.int .i64 0, .int .i64 0, .int .i64 0, .int .i64 0], .int .i64 1]) (by simp [results, Try.results23, go_sem, s0, s1, s2, s3]; try rfl) rfl ?_
  exact ⟨rfl, HB9.out⟩

set_option maxRecDepth 100000 in
set_option maxHeartbeats 4000000 in
/-- Two files that can be. -/
theorem lookf_go {af bf : Int} {ab aw ac bb bw bc key val dst wM bound : Nat} {Why : Int → Prop} {out : List Tup} (hI : WkI w O K W) (hka : key < aw ∧ key < 5) (hvb : val < bw ∧ val < 5) (hd5 : dst < 5) (hwM : wM = max aw (dst + 1)) (haw : aw ≤ 5)
    (hca : CanBe W.D.size ab aw ac) (hcb : CanBe W.D.size bb bw bc) (hn : W.D.size ≤ W.A.room - W.A.used) (hO : ∀ g, w.heap.size ≤ g → O g)
    (hE : ∀ w1 lb xb b d, w.heap.size ≤ lb → w.heap.size ≤ xb → w.heap.size ≤ b → w.heap.size ≤ d → w.heap.size ≤ w1.heap.size → WkI w1 (but O d) K { W with A := W.A.grant W.D.size b } → (∀ g, w1.heap.size ≤ g → but O d g) →
      RdAt w1 (but O d) K { W with A := W.A.grant W.D.size b } xb ⟨bf, bb, bw, bc, b, d, 0, 0, 0, 0, false, zeros W.D.size⟩ → Blk w1 lb 95 (lcells xb key val dst Lk.init) →
      Calls Try.prog 32 #[P K.wk, .agg #[.int .i64 af, .int .i64 (ab : Int), .int .i64 (aw : Int), .int .i64 (ac : Int)], .int .i64 (wM : Int), .func (.func 48) #[P lb] #[]] w1 (EachC w1 (but O d) K { W with A := W.A.grant W.D.size b } (EjL lb xb b d) wM bound out (JEL K W.D.size xb b d) W.D.size Why)) :
    Calls Try.prog 23 #[P K.wk, .agg #[.int .i64 af, .int .i64 (ab : Int), .int .i64 (aw : Int), .int .i64 (ac : Int)], .int .i64 (key : Int), .agg #[.int .i64 bf, .int .i64 (bb : Int), .int .i64 (bw : Int), .int .i64 (bc : Int)], .int .i64 (val : Int), .int .i64 (dst : Int)] w (EachC w O K W (fun _ => False) wM bound out JE0 0 Why) := by
  have hA := ((Blk.new w 29 #[.int .i64 af, .int .i64 (ab : Int), .int .i64 (aw : Int), .int .i64 (ac : Int)]).alloc (.cells #[.int .i64 bf, .int .i64 (bb : Int), .int .i64 (bw : Int), .int .i64 (bc : Int)] 29)).alloc (.cells #[.int .i64 0, .int .i64 0, .int .i64 0, .int .i64 0] 29)
  have hBf := (Blk.new (w.alloc (.cells #[.int .i64 af, .int .i64 (ab : Int), .int .i64 (aw : Int), .int .i64 (ac : Int)] 29)) 29 #[.int .i64 bf, .int .i64 (bb : Int), .int .i64 (bw : Int), .int .i64 (bc : Int)]).alloc (.cells #[.int .i64 0, .int .i64 0, .int .i64 0, .int .i64 0] 29)
  have hZ := Blk.new ((w.alloc (.cells #[.int .i64 af, .int .i64 (ab : Int), .int .i64 (aw : Int), .int .i64 (ac : Int)] 29)).alloc (.cells #[.int .i64 bf, .int .i64 (bb : Int), .int .i64 (bw : Int), .int .i64 (bc : Int)] 29)) 29 #[.int .i64 0, .int .i64 0, .int .i64 0, .int .i64 0]
  have hbl : Below w.heap.size w (((w.alloc (.cells #[.int .i64 af, .int .i64 (ab : Int), .int .i64 (aw : Int), .int .i64 (ac : Int)] 29)).alloc (.cells #[.int .i64 bf, .int .i64 (bb : Int), .int .i64 (bw : Int), .int .i64 (bc : Int)] 29)).alloc (.cells #[.int .i64 0, .int .i64 0, .int .i64 0, .int .i64 0] 29)) := (((Below.refl _ _).alloc (Nat.le_refl _) _).alloc (by simp) _).alloc (by simp; omega) _
  rw [show (w.alloc (.cells #[.int .i64 af, .int .i64 (ab : Int), .int .i64 (aw : Int), .int .i64 (ac : Int)] 29)).heap.size = w.heap.size + 1 from by simp] at hBf
  rw [show ((w.alloc (.cells #[.int .i64 af, .int .i64 (ab : Int), .int .i64 (aw : Int), .int .i64 (ac : Int)] 29)).alloc (.cells #[.int .i64 bf, .int .i64 (bb : Int), .int .i64 (bw : Int), .int .i64 (bc : Int)] 29)).heap.size = w.heap.size + 1 + 1 from by simp] at hZ
  have HA := Lib.hid hA
  have HBF := Lib.hid hBf
  have HZ := Lib.hid hZ
  have HBL := Lib.hid hbl
  have HC := Lib.hid (fun w => column_any af ab aw ac key w)
  rw [show decide ((0 : Int) ≤ (key : Int) ∧ (key : Int) < (aw : Int) ∧ (key : Int) < 5) = true from by rw [decide_eq_true_eq]; omega] at HC
  have HC2 := Lib.hid (fun w => column_any bf bb bw bc val w)
  rw [show decide ((0 : Int) ≤ (val : Int) ∧ (val : Int) < (bw : Int) ∧ (val : Int) < 5) = true from by rw [decide_eq_true_eq]; omega] at HC2
  have HI := Lib.hid (hI.below hbl)
  have HI0 := Lib.hid hI
  have HE := Lib.hid hE
  have HH := Lib.hid (And.intro hwM (And.intro hca (And.intro hcb (And.intro hn hO))))
  have hd0 : (0 : Int) ≤ (dst : Int) := by omega
  have hd5' : (dst : Int) < 5 := by omega
  clear hA hBf hZ hbl hka hvb hI hE hwM hca hcb hn hO
  go_enter_defers Try.func23, Try.ntmps23
  go_upto_region 1 with (fail)
  generalize (((w.alloc (.cells #[.int .i64 af, .int .i64 (ab : Int), .int .i64 (aw : Int), .int .i64 (ac : Int)] 29)).alloc (.cells #[.int .i64 bf, .int .i64 (bb : Int), .int .i64 (bw : Int), .int .i64 (bc : Int)] 29)).alloc (.cells #[.int .i64 0, .int .i64 0, .int .i64 0, .int .i64 0] 29)) = w1 at *
  have k0 : w1.cell? ⟨w.heap.size, 0, none⟩ = some (.int .i64 af) := HA.out.cell 0
  have k1 : w1.cell? ⟨w.heap.size, 1, none⟩ = some (.int .i64 (ab : Int)) := HA.out.cell 1
  have k2 : w1.cell? ⟨w.heap.size, 2, none⟩ = some (.int .i64 (aw : Int)) := HA.out.cell 2
  have k3 : w1.cell? ⟨w.heap.size, 3, none⟩ = some (.int .i64 (ac : Int)) := HA.out.cell 3
  go_wp2_with fail
  refine (HC.out w1).mono ?_
  rintro e w2 ⟨rfl, hb2⟩
  have HB2 := Lib.hid hb2
  have hBf2 := HBF.out.below hb2 HBF.out.lt
  have j0 : w2.cell? ⟨w.heap.size + 1, 0, none⟩ = some (.int .i64 bf) := hBf2.cell 0
  have j1 : w2.cell? ⟨w.heap.size + 1, 1, none⟩ = some (.int .i64 (bb : Int)) := hBf2.cell 1
  have j2 : w2.cell? ⟨w.heap.size + 1, 2, none⟩ = some (.int .i64 (bw : Int)) := hBf2.cell 2
  have j3 : w2.cell? ⟨w.heap.size + 1, 3, none⟩ = some (.int .i64 (bc : Int)) := hBf2.cell 3
  clear hb2 hBf2 k0 k1 k2 k3 HC
  go_wp2_with fail
  refine (HC2.out w2).mono ?_
  rintro e w3 ⟨rfl, hb3⟩
  have HB3 := Lib.hid (HB2.out.trans (hb3.mono HB2.out.size))
  have hA3 := HA.out.below HB3.out HA.out.lt
  have k0 : w3.cell? ⟨w.heap.size, 0, none⟩ = some (.int .i64 af) := hA3.cell 0
  have k1 : w3.cell? ⟨w.heap.size, 1, none⟩ = some (.int .i64 (ab : Int)) := hA3.cell 1
  have k2 : w3.cell? ⟨w.heap.size, 2, none⟩ = some (.int .i64 (aw : Int)) := hA3.cell 2
  have k3 : w3.cell? ⟨w.heap.size, 3, none⟩ = some (.int .i64 (ac : Int)) := hA3.cell 3
  have HCC := Lib.hid (can_any af ab aw ac (HI.out.below HB3.out) (by omega) true ⟨fun _ => HH.out.2.1, fun _ => rfl⟩)
  unfold fvals at HCC
  clear hb3 hA3 j0 j1 j2 j3 HC2
  go_wp2_with fail
  refine HCC.out.mono ?_
  rintro e w4 ⟨rfl, hb4⟩
  have HB4 := Lib.hid (HB3.out.trans (hb4.mono HB3.out.size))
  have hBf4 := HBF.out.below HB4.out HBF.out.lt
  have j0 : w4.cell? ⟨w.heap.size + 1, 0, none⟩ = some (.int .i64 bf) := hBf4.cell 0
  have j1 : w4.cell? ⟨w.heap.size + 1, 1, none⟩ = some (.int .i64 (bb : Int)) := hBf4.cell 1
  have j2 : w4.cell? ⟨w.heap.size + 1, 2, none⟩ = some (.int .i64 (bw : Int)) := hBf4.cell 2
  have j3 : w4.cell? ⟨w.heap.size + 1, 3, none⟩ = some (.int .i64 (bc : Int)) := hBf4.cell 3
  have HOP := Lib.hid (open_ok bf bb bw bc (HI.out.below HB4.out) HH.out.2.2.1 HH.out.2.2.2.1)
  have HI4 := Lib.hid (HI.out.below HB4.out)
  have HA4 := Lib.hid (HA.out.below HB4.out HA.out.lt)
  have HZ4 := Lib.hid (HZ.out.below HB4.out HZ.out.lt)
  have HZ9 : Hid (w.heap.size + 1 + 1 < w4.heap.size) := Lib.hid HZ4.out.lt
  have HBL4 := Lib.hid (HBL.out.trans (HB4.out.mono HBL.out.size))
  unfold fvals at HOP
  clear hb4 hBf4 k0 k1 k2 k3 HCC HA HZ HBF HI HB4 HB3 HB2 HBL
  go_wp2_with fail
  refine HOP.out.mono ?_
  rintro e w5 ⟨x, b, d, rfl, hI5, hX5, q1, q2, q3, ht5⟩
  obtain ⟨hwM, hca, hcb, hn, hO⟩ := HH.out
  have hs5 := ht5.size
  have hA5 := HI4.out.blk ht5 HA4.out (by decide) (by decide) (by decide) (by decide) (by decide) (fun h => h)
  have hZ5 := HI4.out.blk ht5 HZ4.out (by decide) (by decide) (by decide) (by decide) (by decide) (fun h => h)
  have hb6 : Below w5.heap.size w5 (w5.alloc (.cells (lcells x key val dst Lk.init) 95)) := (Below.refl _ _).alloc (Nat.le_refl _) _
  have hL6 := Blk.new w5 95 (lcells x key val dst Lk.init)
  have HA6 := Lib.hid (hA5.below hb6 hA5.lt)
  have HZ6 := Lib.hid (hZ5.below hb6 hZ5.lt)
  have HL6 := Lib.hid hL6
  have HI6 := Lib.hid (hI5.below hb6)
  have HX6 := Lib.hid (hX5.turn' (O' := but O d) (W' := { W with A := W.A.grant W.D.size b }) hI5 (Turn.below (E := fun _ => False) hb6) (fun h => h) (fun _ h => h) (fun _ h => h) (fun _ _ h => h) rfl (fun _ h _ => h))
  have HT6 := Lib.hid (((Turn.below (K := K) (E := fun q => w.heap.size ≤ q) HBL4.out).trans (ht5.mono (fun _ h => h.elim))).trans (Turn.below hb6))
  have HS := Lib.hid (And.intro q1 (And.intro q2 (And.intro q3 (And.intro hs5 (And.intro HBL4.out.size hb6.size)))))
  rw [show lcells x key val dst Lk.init = #[.func (.func 40) #[P x] #[], .int .i64 0, .int .i64 0, .int .i64 0, .int .i64 0, .int .i64 0, .bool false, .bool false, .int .i64 (key : Int), .int .i64 (val : Int), .int .i64 (dst : Int), .int .i64 0, .bool false] from rfl] at HA6 HZ6 HL6 HI6 HX6 HT6 HS
  clear hA5 hZ5 hb6 hL6 hI5 hX5 ht5 hwM hca hcb hn hO q1 q2 q3 hs5 HOP HA4 HZ4 HI4 HBL4
  go_upto_region 8 with (fail)
  generalize hw6 : w5.alloc (.cells #[.func (.func 40) #[P x] #[], .int .i64 0, .int .i64 0, .int .i64 0, .int .i64 0, .int .i64 0, .bool false, .bool false, .int .i64 (key : Int), .int .i64 (val : Int), .int .i64 (dst : Int), .int .i64 0, .bool false] 95) = w6 at *
  have hs6 : w6.heap.size = w5.heap.size + 1 := by rw [← hw6]; simp
  clear hw6
  generalize hlb : w5.heap.size = lb at *
  obtain ⟨q1, q2, q3, qs5, qs4, qs6⟩ := HS.out
  obtain ⟨hwM, hca, hcb, hn, hO⟩ := HH.out
  have hsw : w.heap.size + 1 + 1 < w4.heap.size := HZ9.out
  have hlbx : lb < w6.heap.size := by omega
  have HEE := Lib.hid (HE.out w6 lb x b d (by omega) (by omega) (by omega) (by omega) (by omega) HI6.out (fun g hg => ⟨hO g (by omega), by have := (HX6.out.live rfl).row.lt; have h2 : d < w6.heap.size := this; omega⟩) HX6.out (show Blk w6 lb 95 (lcells x key val dst Lk.init) from HL6.out))
  have k0 : w6.cell? ⟨w.heap.size, 0, none⟩ = some (.int .i64 af) := HA6.out.cell 0
  have k1 : w6.cell? ⟨w.heap.size, 1, none⟩ = some (.int .i64 (ab : Int)) := HA6.out.cell 1
  have k2 : w6.cell? ⟨w.heap.size, 2, none⟩ = some (.int .i64 (aw : Int)) := HA6.out.cell 2
  have k3 : w6.cell? ⟨w.heap.size, 3, none⟩ = some (.int .i64 (ac : Int)) := HA6.out.cell 3
  have e1 : IntKind.i64.wrap ((dst : Int) + 1) = (dst : Int) + 1 := by rw [IntKind.wrap_i64]; omega
  by_cases hmx : (aw : Int) < (dst : Int) + 1
  · have hwv : (wM : Int) = (dst : Int) + 1 := by omega
    rw [hwv] at HEE
    have HWV := Lib.hid hwv
    clear hwv hwM hca hcb hn hO
    go_wp2_with fail
    refine HEE.out.mono ?_
    rintro e w7 ⟨W', O', ho, hI7, ht7, hh⟩
    have hrj : ¬ EjL lb x b d (w.heap.size + 1 + 1) := fun h => by
      rcases h with e | e | e | e <;> omega
    have hej : ∀ q, EjL lb x b d q → w.heap.size ≤ q := fun q h => by
      rcases h with e | e | e | e <;> omega
    rcases hh with ⟨first, rfl, hok, hj⟩ | ⟨er, h', her, rfl, hno, hj⟩
    · obtain ⟨hjn, ⟨_, X7, hX7, hc7⟩ | ⟨h0, _⟩⟩ := hj
      · have hj := hjn
        have hZ7 := HI6.out.blk ht7 HZ6.out (by decide) (by decide) (by decide) (by decide) (by decide) hrj
        have z0 : w7.cell? ⟨w.heap.size + 1 + 1, 0, none⟩ = some (.int .i64 0) := hZ7.cell 0
        have v0 := hZ7.frozen 0
        have z1 : w7.cell? ⟨w.heap.size + 1 + 1, 1, none⟩ = some (.int .i64 0) := hZ7.cell 1
        have v1 := hZ7.frozen 1
        have z2 : w7.cell? ⟨w.heap.size + 1 + 1, 2, none⟩ = some (.int .i64 0) := hZ7.cell 2
        have v2 := hZ7.frozen 2
        have z3 : w7.cell? ⟨w.heap.size + 1 + 1, 3, none⟩ = some (.int .i64 0) := hZ7.cell 3
        have v3 := hZ7.frozen 3
        obtain ⟨hI8, hZ8, ht8⟩ := four_store hI7 hZ7 (.int .i64 (first : Int)) (.int .i64 (nB W.D.size wM out.length : Int)) (.int .i64 (wM : Int)) (.int .i64 (out.length : Int))
        have hX8 := hX7.turn' (O' := O') (W' := W') hI7 ht8 (fun e => hX7.blk.ne_ hZ7 (by decide) e) (fun hc e => (hX7.live hc).blk.ne_ hZ7 (by decide) e) (fun hc e => (hX7.live hc).row.ne_ hZ7 (by decide) e) (fun _ _ h => h) rfl (fun _ h _ => h)
        have HI8 := Lib.hid hI8
        have HZ8 := Lib.hid hZ8
        have HX8 := Lib.hid hX8
        have HT8 := Lib.hid ((HT6.out.trans (ht7.mono hej)).trans (ht8.mono (fun q e => show w.heap.size ≤ q by rw [e]; omega)))
        have HP := Lib.hid (And.intro ho (And.intro hj (And.intro hc7 hok)))
        unfold four at HI8 HZ8 HX8 HT8
        have hrx := HX8.out.blk.lt
        clear hX8 hI8 hZ8 ht8 ho hj hc7 hok hI7 hX7 ht7 hZ7 hrj hej HEE
        unfold fcells
        go_wp2_with fail
        generalize ((((w7.setCell ⟨w.heap.size + 1 + 1, 0, none⟩ (.int .i64 (first : Int))).setCell ⟨w.heap.size + 1 + 1, 1, none⟩ (.int .i64 (nB W.D.size wM out.length : Int))).setCell ⟨w.heap.size + 1 + 1, 2, none⟩ (.int .i64 (wM : Int))).setCell ⟨w.heap.size + 1 + 1, 3, none⟩ (.int .i64 (out.length : Int))) = w8 at *
        refine ⟨(fun h => by cases h), _, _, _, _, rfl, rfl, (rclose_d HI8.out HX8.out HP.out.2.2.1.1).mono ?_⟩
        rintro e u' w9 ⟨rfl, rfl, hI9, hX9, ht9⟩
        obtain ⟨ho, hj, ⟨hc7, hb7, hd7⟩, hok⟩ := HP.out
        have hl8 := HX8.out.live hc7
        rw [hb7, hd7] at hl8
        have hnb := HZ8.out.ne_ hl8.blk (by decide)
        have hnd := HZ8.out.ne_ hl8.row (by decide)
        have hnx := HZ8.out.ne_ HX8.out.blk (by decide)
        have hZ9 := HI8.out.blk ht9 HZ8.out (by decide) (by decide) (by decide) (by decide) (by decide) (fun h => by
          rcases h with e | e | e
          · exact hnx e
          · exact hnb (e.trans hb7)
          · exact hnd (e.trans hd7))
        have hT9 := HT8.out.trans (ht9.mono (fun q e => show w.heap.size ≤ q by
          rcases e with e | e | e
          · rw [e]; omega
          · rw [e, hb7]; omega
          · rw [e, hd7]; omega))
        have hsz9 := ht9.size
        have s0 : w9.cell? ⟨w.heap.size + 1 + 1, 0, none⟩ = some (.int .i64 (first : Int)) := hZ9.cell 0
        have s1 : w9.cell? ⟨w.heap.size + 1 + 1, 1, none⟩ = some (.int .i64 (nB W.D.size wM out.length : Int)) := hZ9.cell 1
        have s2 : w9.cell? ⟨w.heap.size + 1 + 1, 2, none⟩ = some (.int .i64 (wM : Int)) := hZ9.cell 2
        have s3 : w9.cell? ⟨w.heap.size + 1 + 1, 3, none⟩ = some (.int .i64 (out.length : Int)) := hZ9.cell 3
        refine ⟨.tuple #[.agg #[.int .i64 (first : Int), .int .i64 (nB W.D.size wM out.length : Int), .int .i64 (wM : Int), .int .i64 (out.length : Int)], .int .i64 0], by simp [results, Try.results23, go_sem, s0, s1, s2, s3], ?_⟩
        have hs8 := HT8.out.size
        refine ⟨{ W' with A := W'.A.release X7.buf W'.D.size }, Fl.onto w9 O', ⟨fun g hg => .inr hg, fun g hg h => ?_⟩, hI9.onto, turn_fresh hT9 (fun _ h => h), ?_⟩
        · rcases h with h | h
          · exact (ho.2 g (by omega) h).1
          · have := hT9.size; omega
        · refine .inl ⟨first, rfl, ⟨hok.B, hok.inv, hok.fr, hok.room, hok.fit, hok.least, ?_, hok.aroom, hok.size, hok.blocks, hok.sure, hok.fault, hok.lies, hok.now, hok.acts⟩, rfl⟩
          have h1 := hok.used
          have h2 := hok.size
          show W'.A.used - W'.D.size = W.A.used
          have h3 : W'.A.used = W.A.used + W.D.size := h1
          have h4 : W'.D.size = W.D.size := h2
          omega
      · have h1 := HI6.out.size.1
        have h2 : W.D.size = 0 := h0
        have h3 : 8 ≤ W.D.size := h1
        omega
    · obtain ⟨hjn, ⟨hh0, X7, hX7, hc7⟩ | ⟨hh0, X7, hX7, hc7⟩⟩ := hj
      · have hj := hh0
        have hZ7 := HI6.out.blk ht7 HZ6.out (by decide) (by decide) (by decide) (by decide) (by decide) hrj
        have z0 : w7.cell? ⟨w.heap.size + 1 + 1, 0, none⟩ = some (.int .i64 0) := hZ7.cell 0
        have v0 := hZ7.frozen 0
        have z1 : w7.cell? ⟨w.heap.size + 1 + 1, 1, none⟩ = some (.int .i64 0) := hZ7.cell 1
        have v1 := hZ7.frozen 1
        have z2 : w7.cell? ⟨w.heap.size + 1 + 1, 2, none⟩ = some (.int .i64 0) := hZ7.cell 2
        have v2 := hZ7.frozen 2
        have z3 : w7.cell? ⟨w.heap.size + 1 + 1, 3, none⟩ = some (.int .i64 0) := hZ7.cell 3
        have v3 := hZ7.frozen 3
        obtain ⟨hI8, hZ8, ht8⟩ := four_store hI7 hZ7 (.int .i64 0) (.int .i64 0) (.int .i64 0) (.int .i64 0)
        have hX8 := hX7.turn' (O' := O') (W' := W') hI7 ht8 (fun e => hX7.blk.ne_ hZ7 (by decide) e) (fun hc e => (hX7.live hc).blk.ne_ hZ7 (by decide) e) (fun hc e => (hX7.live hc).row.ne_ hZ7 (by decide) e) (fun _ _ h => h) rfl (fun _ h _ => h)
        have HI8 := Lib.hid hI8
        have HZ8 := Lib.hid hZ8
        have HX8 := Lib.hid hX8
        have HT8 := Lib.hid ((HT6.out.trans (ht7.mono hej)).trans (ht8.mono (fun q e => show w.heap.size ≤ q by rw [e]; omega)))
        have HP := Lib.hid (And.intro ho (And.intro hj (And.intro hc7 (And.intro her hno))))
        unfold four at HI8 HZ8 HX8 HT8
        have hrx := HX8.out.blk.lt
        clear hX8 hI8 hZ8 ht8 ho hj hc7 her hno hI7 hX7 ht7 hZ7 hrj hej HEE
        unfold noFile
        go_wp2_with fail
        generalize ((((w7.setCell ⟨w.heap.size + 1 + 1, 0, none⟩ (.int .i64 0)).setCell ⟨w.heap.size + 1 + 1, 1, none⟩ (.int .i64 0)).setCell ⟨w.heap.size + 1 + 1, 2, none⟩ (.int .i64 0)).setCell ⟨w.heap.size + 1 + 1, 3, none⟩ (.int .i64 0)) = w8 at *
        refine ⟨(fun h => by cases h), _, _, _, _, rfl, rfl, (rclose_d HI8.out HX8.out HP.out.2.2.1.1).mono ?_⟩
        rintro e u' w9 ⟨rfl, rfl, hI9, hX9, ht9⟩
        obtain ⟨ho, hj, ⟨hc7, hb7, hd7⟩, her, hno⟩ := HP.out
        have hl8 := HX8.out.live hc7
        rw [hb7, hd7] at hl8
        have hnb := HZ8.out.ne_ hl8.blk (by decide)
        have hnd := HZ8.out.ne_ hl8.row (by decide)
        have hnx := HZ8.out.ne_ HX8.out.blk (by decide)
        have hZ9 := HI8.out.blk ht9 HZ8.out (by decide) (by decide) (by decide) (by decide) (by decide) (fun h => by
          rcases h with e | e | e
          · exact hnx e
          · exact hnb (e.trans hb7)
          · exact hnd (e.trans hd7))
        have hT9 := HT8.out.trans (ht9.mono (fun q e => show w.heap.size ≤ q by
          rcases e with e | e | e
          · rw [e]; omega
          · rw [e, hb7]; omega
          · rw [e, hd7]; omega))
        have hsz9 := ht9.size
        have s0 : w9.cell? ⟨w.heap.size + 1 + 1, 0, none⟩ = some (.int .i64 0) := hZ9.cell 0
        have s1 : w9.cell? ⟨w.heap.size + 1 + 1, 1, none⟩ = some (.int .i64 0) := hZ9.cell 1
        have s2 : w9.cell? ⟨w.heap.size + 1 + 1, 2, none⟩ = some (.int .i64 0) := hZ9.cell 2
        have s3 : w9.cell? ⟨w.heap.size + 1 + 1, 3, none⟩ = some (.int .i64 0) := hZ9.cell 3
        refine ⟨.tuple #[.agg #[.int .i64 0, .int .i64 0, .int .i64 0, .int .i64 0], .int .i64 er], by simp [results, Try.results23, go_sem, s0, s1, s2, s3], ?_⟩
        have hs8 := HT8.out.size
        refine ⟨{ W' with A := W'.A.release X7.buf W'.D.size }, Fl.onto w9 O', ⟨fun g hg => .inr hg, fun g hg h => ?_⟩, hI9.onto, turn_fresh hT9 (fun _ h => h), ?_⟩
        · rcases h with h | h
          · exact (ho.2 g (by omega) h).1
          · have := hT9.size; omega
        · refine .inr ⟨er, 0, her, rfl, ⟨hno.why, hno.B, hno.L, ?_, hno.aroom, hno.size, hno.blocks, hno.sure, hno.fault, hno.now, hno.acts⟩, rfl⟩
          have h1 := hno.used
          have h2 := hno.size
          show W'.A.used - W'.D.size + 0 = W.A.used + 0
          have h3 : W'.A.used + W.D.size = W.A.used + W.D.size + h' := h1
          have h4 : W'.D.size = W.D.size := h2
          omega
      · have hj := hh0
        have hZ7 := HI6.out.blk ht7 HZ6.out (by decide) (by decide) (by decide) (by decide) (by decide) hrj
        have z0 : w7.cell? ⟨w.heap.size + 1 + 1, 0, none⟩ = some (.int .i64 0) := hZ7.cell 0
        have v0 := hZ7.frozen 0
        have z1 : w7.cell? ⟨w.heap.size + 1 + 1, 1, none⟩ = some (.int .i64 0) := hZ7.cell 1
        have v1 := hZ7.frozen 1
        have z2 : w7.cell? ⟨w.heap.size + 1 + 1, 2, none⟩ = some (.int .i64 0) := hZ7.cell 2
        have v2 := hZ7.frozen 2
        have z3 : w7.cell? ⟨w.heap.size + 1 + 1, 3, none⟩ = some (.int .i64 0) := hZ7.cell 3
        have v3 := hZ7.frozen 3
        obtain ⟨hI8, hZ8, ht8⟩ := four_store hI7 hZ7 (.int .i64 0) (.int .i64 0) (.int .i64 0) (.int .i64 0)
        have hX8 := hX7.turn' (O' := O') (W' := W') hI7 ht8 (fun e => hX7.blk.ne_ hZ7 (by decide) e) (fun hc e => (hX7.live hc).blk.ne_ hZ7 (by decide) e) (fun hc e => (hX7.live hc).row.ne_ hZ7 (by decide) e) (fun _ _ h => h) rfl (fun _ h _ => h)
        have HI8 := Lib.hid hI8
        have HZ8 := Lib.hid hZ8
        have HX8 := Lib.hid hX8
        have HT8 := Lib.hid ((HT6.out.trans (ht7.mono hej)).trans (ht8.mono (fun q e => show w.heap.size ≤ q by rw [e]; omega)))
        have HP := Lib.hid (And.intro ho (And.intro hj (And.intro hc7 (And.intro her hno))))
        unfold four at HI8 HZ8 HX8 HT8
        have hrx := HX8.out.blk.lt
        clear hX8 hI8 hZ8 ht8 ho hj hc7 her hno hI7 hX7 ht7 hZ7 hrj hej HEE
        unfold noFile
        go_wp2_with fail
        generalize ((((w7.setCell ⟨w.heap.size + 1 + 1, 0, none⟩ (.int .i64 0)).setCell ⟨w.heap.size + 1 + 1, 1, none⟩ (.int .i64 0)).setCell ⟨w.heap.size + 1 + 1, 2, none⟩ (.int .i64 0)).setCell ⟨w.heap.size + 1 + 1, 3, none⟩ (.int .i64 0)) = w8 at *
        refine ⟨(fun h => by cases h), _, _, _, _, rfl, rfl, (rclose_closed_d HX8.out.blk (by show some (Value.bool X7.closed) = some (Value.bool true); rw [HP.out.2.2.1])).mono ?_⟩
        rintro e u' w9 ⟨rfl, rfl, rfl⟩
        obtain ⟨ho, hj, hc7, her, hno⟩ := HP.out
        have hZ9 := HZ8.out
        have hT9 := HT8.out
        have s0 : w8.cell? ⟨w.heap.size + 1 + 1, 0, none⟩ = some (.int .i64 0) := hZ9.cell 0
        have s1 : w8.cell? ⟨w.heap.size + 1 + 1, 1, none⟩ = some (.int .i64 0) := hZ9.cell 1
        have s2 : w8.cell? ⟨w.heap.size + 1 + 1, 2, none⟩ = some (.int .i64 0) := hZ9.cell 2
        have s3 : w8.cell? ⟨w.heap.size + 1 + 1, 3, none⟩ = some (.int .i64 0) := hZ9.cell 3
        refine ⟨.tuple #[.agg #[.int .i64 0, .int .i64 0, .int .i64 0, .int .i64 0], .int .i64 er], by simp [results, Try.results23, go_sem, s0, s1, s2, s3], ?_⟩
        have hs8 := HT8.out.size
        refine ⟨W', Fl.onto w8 O', ⟨fun g hg => .inr hg, fun g hg h => ?_⟩, HI8.out.onto, turn_fresh hT9 (fun _ h => h), ?_⟩
        · rcases h with h | h
          · exact (ho.2 g (by omega) h).1
          · have := hT9.size; omega
        · refine .inr ⟨er, 0, her, rfl, ⟨hno.why, hno.B, hno.L, ?_, hno.aroom, hno.size, hno.blocks, hno.sure, hno.fault, hno.now, hno.acts⟩, rfl⟩
          have h1 := hno.used
          have h2 := hno.size
          show W'.A.used + 0 = W.A.used + 0
          have h3 : W'.A.used + W.D.size = W.A.used + W.D.size + h' := h1
          omega
  · have hwv : (wM : Int) = (aw : Int) := by omega
    rw [hwv] at HEE
    have HWV := Lib.hid hwv
    clear hwv hwM hca hcb hn hO
    go_wp2_with fail
    refine HEE.out.mono ?_
    rintro e w7 ⟨W', O', ho, hI7, ht7, hh⟩
    have hrj : ¬ EjL lb x b d (w.heap.size + 1 + 1) := fun h => by
      rcases h with e | e | e | e <;> omega
    have hej : ∀ q, EjL lb x b d q → w.heap.size ≤ q := fun q h => by
      rcases h with e | e | e | e <;> omega
    rcases hh with ⟨first, rfl, hok, hj⟩ | ⟨er, h', her, rfl, hno, hj⟩
    · obtain ⟨hjn, ⟨_, X7, hX7, hc7⟩ | ⟨h0, _⟩⟩ := hj
      · have hj := hjn
        have hZ7 := HI6.out.blk ht7 HZ6.out (by decide) (by decide) (by decide) (by decide) (by decide) hrj
        have z0 : w7.cell? ⟨w.heap.size + 1 + 1, 0, none⟩ = some (.int .i64 0) := hZ7.cell 0
        have v0 := hZ7.frozen 0
        have z1 : w7.cell? ⟨w.heap.size + 1 + 1, 1, none⟩ = some (.int .i64 0) := hZ7.cell 1
        have v1 := hZ7.frozen 1
        have z2 : w7.cell? ⟨w.heap.size + 1 + 1, 2, none⟩ = some (.int .i64 0) := hZ7.cell 2
        have v2 := hZ7.frozen 2
        have z3 : w7.cell? ⟨w.heap.size + 1 + 1, 3, none⟩ = some (.int .i64 0) := hZ7.cell 3
        have v3 := hZ7.frozen 3
        obtain ⟨hI8, hZ8, ht8⟩ := four_store hI7 hZ7 (.int .i64 (first : Int)) (.int .i64 (nB W.D.size wM out.length : Int)) (.int .i64 (wM : Int)) (.int .i64 (out.length : Int))
        have hX8 := hX7.turn' (O' := O') (W' := W') hI7 ht8 (fun e => hX7.blk.ne_ hZ7 (by decide) e) (fun hc e => (hX7.live hc).blk.ne_ hZ7 (by decide) e) (fun hc e => (hX7.live hc).row.ne_ hZ7 (by decide) e) (fun _ _ h => h) rfl (fun _ h _ => h)
        have HI8 := Lib.hid hI8
        have HZ8 := Lib.hid hZ8
        have HX8 := Lib.hid hX8
        have HT8 := Lib.hid ((HT6.out.trans (ht7.mono hej)).trans (ht8.mono (fun q e => show w.heap.size ≤ q by rw [e]; omega)))
        have HP := Lib.hid (And.intro ho (And.intro hj (And.intro hc7 hok)))
        unfold four at HI8 HZ8 HX8 HT8
        have hrx := HX8.out.blk.lt
        clear hX8 hI8 hZ8 ht8 ho hj hc7 hok hI7 hX7 ht7 hZ7 hrj hej HEE
        unfold fcells
        go_wp2_with fail
        generalize ((((w7.setCell ⟨w.heap.size + 1 + 1, 0, none⟩ (.int .i64 (first : Int))).setCell ⟨w.heap.size + 1 + 1, 1, none⟩ (.int .i64 (nB W.D.size wM out.length : Int))).setCell ⟨w.heap.size + 1 + 1, 2, none⟩ (.int .i64 (wM : Int))).setCell ⟨w.heap.size + 1 + 1, 3, none⟩ (.int .i64 (out.length : Int))) = w8 at *
        refine ⟨(fun h => by cases h), _, _, _, _, rfl, rfl, (rclose_d HI8.out HX8.out HP.out.2.2.1.1).mono ?_⟩
        rintro e u' w9 ⟨rfl, rfl, hI9, hX9, ht9⟩
        obtain ⟨ho, hj, ⟨hc7, hb7, hd7⟩, hok⟩ := HP.out
        have hl8 := HX8.out.live hc7
        rw [hb7, hd7] at hl8
        have hnb := HZ8.out.ne_ hl8.blk (by decide)
        have hnd := HZ8.out.ne_ hl8.row (by decide)
        have hnx := HZ8.out.ne_ HX8.out.blk (by decide)
        have hZ9 := HI8.out.blk ht9 HZ8.out (by decide) (by decide) (by decide) (by decide) (by decide) (fun h => by
          rcases h with e | e | e
          · exact hnx e
          · exact hnb (e.trans hb7)
          · exact hnd (e.trans hd7))
        have hT9 := HT8.out.trans (ht9.mono (fun q e => show w.heap.size ≤ q by
          rcases e with e | e | e
          · rw [e]; omega
          · rw [e, hb7]; omega
          · rw [e, hd7]; omega))
        have hsz9 := ht9.size
        have s0 : w9.cell? ⟨w.heap.size + 1 + 1, 0, none⟩ = some (.int .i64 (first : Int)) := hZ9.cell 0
        have s1 : w9.cell? ⟨w.heap.size + 1 + 1, 1, none⟩ = some (.int .i64 (nB W.D.size wM out.length : Int)) := hZ9.cell 1
        have s2 : w9.cell? ⟨w.heap.size + 1 + 1, 2, none⟩ = some (.int .i64 (wM : Int)) := hZ9.cell 2
        have s3 : w9.cell? ⟨w.heap.size + 1 + 1, 3, none⟩ = some (.int .i64 (out.length : Int)) := hZ9.cell 3
        refine ⟨.tuple #[.agg #[.int .i64 (first : Int), .int .i64 (nB W.D.size wM out.length : Int), .int .i64 (wM : Int), .int .i64 (out.length : Int)], .int .i64 0], by simp [results, Try.results23, go_sem, s0, s1, s2, s3], ?_⟩
        have hs8 := HT8.out.size
        refine ⟨{ W' with A := W'.A.release X7.buf W'.D.size }, Fl.onto w9 O', ⟨fun g hg => .inr hg, fun g hg h => ?_⟩, hI9.onto, turn_fresh hT9 (fun _ h => h), ?_⟩
        · rcases h with h | h
          · exact (ho.2 g (by omega) h).1
          · have := hT9.size; omega
        · refine .inl ⟨first, rfl, ⟨hok.B, hok.inv, hok.fr, hok.room, hok.fit, hok.least, ?_, hok.aroom, hok.size, hok.blocks, hok.sure, hok.fault, hok.lies, hok.now, hok.acts⟩, rfl⟩
          have h1 := hok.used
          have h2 := hok.size
          show W'.A.used - W'.D.size = W.A.used
          have h3 : W'.A.used = W.A.used + W.D.size := h1
          have h4 : W'.D.size = W.D.size := h2
          omega
      · have h1 := HI6.out.size.1
        have h2 : W.D.size = 0 := h0
        have h3 : 8 ≤ W.D.size := h1
        omega
    · obtain ⟨hjn, ⟨hh0, X7, hX7, hc7⟩ | ⟨hh0, X7, hX7, hc7⟩⟩ := hj
      · have hj := hh0
        have hZ7 := HI6.out.blk ht7 HZ6.out (by decide) (by decide) (by decide) (by decide) (by decide) hrj
        have z0 : w7.cell? ⟨w.heap.size + 1 + 1, 0, none⟩ = some (.int .i64 0) := hZ7.cell 0
        have v0 := hZ7.frozen 0
        have z1 : w7.cell? ⟨w.heap.size + 1 + 1, 1, none⟩ = some (.int .i64 0) := hZ7.cell 1
        have v1 := hZ7.frozen 1
        have z2 : w7.cell? ⟨w.heap.size + 1 + 1, 2, none⟩ = some (.int .i64 0) := hZ7.cell 2
        have v2 := hZ7.frozen 2
        have z3 : w7.cell? ⟨w.heap.size + 1 + 1, 3, none⟩ = some (.int .i64 0) := hZ7.cell 3
        have v3 := hZ7.frozen 3
        obtain ⟨hI8, hZ8, ht8⟩ := four_store hI7 hZ7 (.int .i64 0) (.int .i64 0) (.int .i64 0) (.int .i64 0)
        have hX8 := hX7.turn' (O' := O') (W' := W') hI7 ht8 (fun e => hX7.blk.ne_ hZ7 (by decide) e) (fun hc e => (hX7.live hc).blk.ne_ hZ7 (by decide) e) (fun hc e => (hX7.live hc).row.ne_ hZ7 (by decide) e) (fun _ _ h => h) rfl (fun _ h _ => h)
        have HI8 := Lib.hid hI8
        have HZ8 := Lib.hid hZ8
        have HX8 := Lib.hid hX8
        have HT8 := Lib.hid ((HT6.out.trans (ht7.mono hej)).trans (ht8.mono (fun q e => show w.heap.size ≤ q by rw [e]; omega)))
        have HP := Lib.hid (And.intro ho (And.intro hj (And.intro hc7 (And.intro her hno))))
        unfold four at HI8 HZ8 HX8 HT8
        have hrx := HX8.out.blk.lt
        clear hX8 hI8 hZ8 ht8 ho hj hc7 her hno hI7 hX7 ht7 hZ7 hrj hej HEE
        unfold noFile
        go_wp2_with fail
        generalize ((((w7.setCell ⟨w.heap.size + 1 + 1, 0, none⟩ (.int .i64 0)).setCell ⟨w.heap.size + 1 + 1, 1, none⟩ (.int .i64 0)).setCell ⟨w.heap.size + 1 + 1, 2, none⟩ (.int .i64 0)).setCell ⟨w.heap.size + 1 + 1, 3, none⟩ (.int .i64 0)) = w8 at *
        refine ⟨(fun h => by cases h), _, _, _, _, rfl, rfl, (rclose_d HI8.out HX8.out HP.out.2.2.1.1).mono ?_⟩
        rintro e u' w9 ⟨rfl, rfl, hI9, hX9, ht9⟩
        obtain ⟨ho, hj, ⟨hc7, hb7, hd7⟩, her, hno⟩ := HP.out
        have hl8 := HX8.out.live hc7
        rw [hb7, hd7] at hl8
        have hnb := HZ8.out.ne_ hl8.blk (by decide)
        have hnd := HZ8.out.ne_ hl8.row (by decide)
        have hnx := HZ8.out.ne_ HX8.out.blk (by decide)
        have hZ9 := HI8.out.blk ht9 HZ8.out (by decide) (by decide) (by decide) (by decide) (by decide) (fun h => by
          rcases h with e | e | e
          · exact hnx e
          · exact hnb (e.trans hb7)
          · exact hnd (e.trans hd7))
        have hT9 := HT8.out.trans (ht9.mono (fun q e => show w.heap.size ≤ q by
          rcases e with e | e | e
          · rw [e]; omega
          · rw [e, hb7]; omega
          · rw [e, hd7]; omega))
        have hsz9 := ht9.size
        have s0 : w9.cell? ⟨w.heap.size + 1 + 1, 0, none⟩ = some (.int .i64 0) := hZ9.cell 0
        have s1 : w9.cell? ⟨w.heap.size + 1 + 1, 1, none⟩ = some (.int .i64 0) := hZ9.cell 1
        have s2 : w9.cell? ⟨w.heap.size + 1 + 1, 2, none⟩ = some (.int .i64 0) := hZ9.cell 2
        have s3 : w9.cell? ⟨w.heap.size + 1 + 1, 3, none⟩ = some (.int .i64 0) := hZ9.cell 3
        refine ⟨.tuple #[.agg #[.int .i64 0, .int .i64 0, .int .i64 0, .int .i64 0], .int .i64 er], by simp [results, Try.results23, go_sem, s0, s1, s2, s3], ?_⟩
        have hs8 := HT8.out.size
        refine ⟨{ W' with A := W'.A.release X7.buf W'.D.size }, Fl.onto w9 O', ⟨fun g hg => .inr hg, fun g hg h => ?_⟩, hI9.onto, turn_fresh hT9 (fun _ h => h), ?_⟩
        · rcases h with h | h
          · exact (ho.2 g (by omega) h).1
          · have := hT9.size; omega
        · refine .inr ⟨er, 0, her, rfl, ⟨hno.why, hno.B, hno.L, ?_, hno.aroom, hno.size, hno.blocks, hno.sure, hno.fault, hno.now, hno.acts⟩, rfl⟩
          have h1 := hno.used
          have h2 := hno.size
          show W'.A.used - W'.D.size + 0 = W.A.used + 0
          have h3 : W'.A.used + W.D.size = W.A.used + W.D.size + h' := h1
          have h4 : W'.D.size = W.D.size := h2
          omega
      · have hj := hh0
        have hZ7 := HI6.out.blk ht7 HZ6.out (by decide) (by decide) (by decide) (by decide) (by decide) hrj
        have z0 : w7.cell? ⟨w.heap.size + 1 + 1, 0, none⟩ = some (.int .i64 0) := hZ7.cell 0
        have v0 := hZ7.frozen 0
        have z1 : w7.cell? ⟨w.heap.size + 1 + 1, 1, none⟩ = some (.int .i64 0) := hZ7.cell 1
        have v1 := hZ7.frozen 1
        have z2 : w7.cell? ⟨w.heap.size + 1 + 1, 2, none⟩ = some (.int .i64 0) := hZ7.cell 2
        have v2 := hZ7.frozen 2
        have z3 : w7.cell? ⟨w.heap.size + 1 + 1, 3, none⟩ = some (.int .i64 0) := hZ7.cell 3
        have v3 := hZ7.frozen 3
        obtain ⟨hI8, hZ8, ht8⟩ := four_store hI7 hZ7 (.int .i64 0) (.int .i64 0) (.int .i64 0) (.int .i64 0)
        have hX8 := hX7.turn' (O' := O') (W' := W') hI7 ht8 (fun e => hX7.blk.ne_ hZ7 (by decide) e) (fun hc e => (hX7.live hc).blk.ne_ hZ7 (by decide) e) (fun hc e => (hX7.live hc).row.ne_ hZ7 (by decide) e) (fun _ _ h => h) rfl (fun _ h _ => h)
        have HI8 := Lib.hid hI8
        have HZ8 := Lib.hid hZ8
        have HX8 := Lib.hid hX8
        have HT8 := Lib.hid ((HT6.out.trans (ht7.mono hej)).trans (ht8.mono (fun q e => show w.heap.size ≤ q by rw [e]; omega)))
        have HP := Lib.hid (And.intro ho (And.intro hj (And.intro hc7 (And.intro her hno))))
        unfold four at HI8 HZ8 HX8 HT8
        have hrx := HX8.out.blk.lt
        clear hX8 hI8 hZ8 ht8 ho hj hc7 her hno hI7 hX7 ht7 hZ7 hrj hej HEE
        unfold noFile
        go_wp2_with fail
        generalize ((((w7.setCell ⟨w.heap.size + 1 + 1, 0, none⟩ (.int .i64 0)).setCell ⟨w.heap.size + 1 + 1, 1, none⟩ (.int .i64 0)).setCell ⟨w.heap.size + 1 + 1, 2, none⟩ (.int .i64 0)).setCell ⟨w.heap.size + 1 + 1, 3, none⟩ (.int .i64 0)) = w8 at *
        refine ⟨(fun h => by cases h), _, _, _, _, rfl, rfl, (rclose_closed_d HX8.out.blk (by show some (Value.bool X7.closed) = some (Value.bool true); rw [HP.out.2.2.1])).mono ?_⟩
        rintro e u' w9 ⟨rfl, rfl, rfl⟩
        obtain ⟨ho, hj, hc7, her, hno⟩ := HP.out
        have hZ9 := HZ8.out
        have hT9 := HT8.out
        have s0 : w8.cell? ⟨w.heap.size + 1 + 1, 0, none⟩ = some (.int .i64 0) := hZ9.cell 0
        have s1 : w8.cell? ⟨w.heap.size + 1 + 1, 1, none⟩ = some (.int .i64 0) := hZ9.cell 1
        have s2 : w8.cell? ⟨w.heap.size + 1 + 1, 2, none⟩ = some (.int .i64 0) := hZ9.cell 2
        have s3 : w8.cell? ⟨w.heap.size + 1 + 1, 3, none⟩ = some (.int .i64 0) := hZ9.cell 3
        refine ⟨.tuple #[.agg #[.int .i64 0, .int .i64 0, .int .i64 0, .int .i64 0], .int .i64 er], by simp [results, Try.results23, go_sem, s0, s1, s2, s3], ?_⟩
        have hs8 := HT8.out.size
        refine ⟨W', Fl.onto w8 O', ⟨fun g hg => .inr hg, fun g hg h => ?_⟩, HI8.out.onto, turn_fresh hT9 (fun _ h => h), ?_⟩
        · rcases h with h | h
          · exact (ho.2 g (by omega) h).1
          · have := hT9.size; omega
        · refine .inr ⟨er, 0, her, rfl, ⟨hno.why, hno.B, hno.L, ?_, hno.aroom, hno.size, hno.blocks, hno.sure, hno.fault, hno.now, hno.acts⟩, rfl⟩
          have h1 := hno.used
          have h2 := hno.size
          show W'.A.used + 0 = W.A.used + 0
          have h3 : W'.A.used + W.D.size = W.A.used + W.D.size + h' := h1
          omega
end

end Go.Proofs.Ytlbaigkpojkfjaa.Fl
