/- The law FileNil. -/
import Derived.Test.YtmmkncocgjgapaaK11
set_option linter.unusedVariables false
namespace Go.Proofs.Ytmmkncocgjgapaa
open Go.RowKit
theorem opens_struct4 {H : Type} {enc : TypeId × Value → H} {P : Program} {t : TypeId} {f0 f1 f2 f3 : Field} {A B C D : Type} {R : Rd A} {S : Rd B} {T : Rd C} {U : Rd D} {m0 m1 m2 m3 n0 n1 : Nat} (ht : P.underlying t = some (.struct #[f0, f1, f2, f3])) (hc : P.cellsOf t = m0 + n0)
    (s0 : n0 = m1 + n1) (s1 : n1 = m2 + m3)
    (h0 : P.cellsOf f0.type = m0) (o0 : f0.offset = 0) (r0 : Opens enc P f0.type R) (h1 : P.cellsOf f1.type = m1) (o1 : f1.offset = m0) (r1 : Opens enc P f1.type S) (h2 : P.cellsOf f2.type = m2) (o2 : f2.offset = m0 + m1) (r2 : Opens enc P f2.type T)
    (h3 : P.cellsOf f3.type = m3) (o3 : f3.offset = m0 + m1 + m2) (r3 : Opens enc P f3.type U) :
    Opens enc P t (rdPair m0 n0 R (rdPair m1 n1 S (rdPair m2 m3 T U))) := fun w _ cs _ h => by
  obtain ⟨xs, n, _, rfl, hl, hlen, hf⟩ := DataW.trod_struct ht h
  match xs, hlen with
  | [y0, y1, y2, y3], _ =>
    have a0 := hf 0 f0 rfl
    have a1 := hf 1 f1 rfl
    have a2 := hf 2 f2 rfl
    have a3 := hf 3 f3 rfl
    simp only [List.getElem?_cons_zero, List.getElem?_cons_succ] at a0 a1 a2 a3
    rw [o0, h0, List.drop_zero] at a0
    rw [o1, h1] at a1
    rw [o2, h2] at a2
    rw [o3, h3, List.take_of_length_le (by rw [List.length_drop]; omega)] at a3
    obtain ⟨d0, e0⟩ := r0 _ _ _ _ a0
    obtain ⟨d1, e1⟩ := r1 _ _ _ _ a1
    obtain ⟨d2, e2⟩ := r2 _ _ _ _ a2
    obtain ⟨d3, e3⟩ := r3 _ _ _ _ a3
    exact ⟨(d0, d1, d2, d3), hl.trans hc, e0, by rw [List.length_drop]; omega, e1, by rw [List.length_drop, List.length_drop]; omega, by rw [List.drop_drop]; exact e2, by rw [List.drop_drop, List.drop_drop, show m0 + m1 + m2 = m0 + (m1 + m2) from by omega] at *; exact e3⟩
end Go.Proofs.Ytmmkncocgjgapaa
namespace Go.Proofs.Ytmmkncocgjgapaa.Fl
open Go.RowKit

theorem device_nil (w : World) : Calls Try.prog 13 #[.pointer none] w fun e w' => e = .returned (.pointer none) ∧ w = w' := by
  go_enter Try.func13, Try.ntmps13
  go_wp2_with fail
  go_ret
  exact ⟨rfl, rfl⟩
theorem arena_nil (w : World) : Calls Try.prog 18 #[.pointer none] w fun e w' => e = .returned (.pointer none) ∧ w = w' := by
  go_enter Try.func18, Try.ntmps18
  go_wp2_with fail
  go_ret
  exact ⟨rfl, rfl⟩
theorem space_nil (w : World) : Calls Try.prog 30 #[.pointer none] w fun e w' => e = .returned (.pointer none) ∧ w = w' := by
  go_enter Try.func30, Try.ntmps30
  go_wp2_with fail
  go_ret
  exact ⟨rfl, rfl⟩
theorem newfile_nil (w : World) : Calls Try.prog 31 #[.pointer none, .pointer none, .pointer none] w fun e w' => e = .returned (.pointer none) ∧ w = w' := by
  go_enter Try.func31, Try.ntmps31
  go_wp2_with fail
  go_ret
  exact ⟨rfl, rfl⟩

set_option maxRecDepth 100000 in
set_option maxHeartbeats 8000000 in
theorem FileNil_walk {w : World} (f0 f1 f2 f3 b0 b1 t0 t1 t2 t3 t4 : Int) (t : Tup) (ht : t.length = 5) (hte : (icells t).toArray = #[.int .i64 t0, .int .i64 t1, .int .i64 t2, .int .i64 t3, .int .i64 t4]) :
    Calls Try.prog 6 #[.agg #[.int .i64 f0, .int .i64 f1, .int .i64 f2, .int .i64 f3], .agg #[.int .i64 b0, .int .i64 b1], .agg #[.int .i64 t0, .int .i64 t1, .int .i64 t2, .int .i64 t3, .int .i64 t4]] w (fun e w' => e = .returned (.bool true) ∧ Below w.heap.size w w') := by
  have hb1 : Below w.heap.size w (w.alloc (.cells #[.int .i64 f0, .int .i64 f1, .int .i64 f2, .int .i64 f3] 32)) := (Below.refl _ _).alloc (Nat.le_refl _) _
  have hb2 : Below w.heap.size w ((w.alloc (.cells #[.int .i64 f0, .int .i64 f1, .int .i64 f2, .int .i64 f3] 32)).alloc (.cells #[.int .i64 b0, .int .i64 b1] 79)) := hb1.alloc (by simp) _
  have hb3 : Below w.heap.size w (((w.alloc (.cells #[.int .i64 f0, .int .i64 f1, .int .i64 f2, .int .i64 f3] 32)).alloc (.cells #[.int .i64 b0, .int .i64 b1] 79)).alloc (.cells #[.int .i64 t0, .int .i64 t1, .int .i64 t2, .int .i64 t3, .int .i64 t4] 45)) := hb2.alloc (by simp; omega) _
  have B3 : Hid (Below w.heap.size w _) := Lib.hid hb3
  have F1 := ((Blk.new w 32 #[.int .i64 f0, .int .i64 f1, .int .i64 f2, .int .i64 f3]).alloc (.cells #[.int .i64 b0, .int .i64 b1] 79)).alloc (.cells #[.int .i64 t0, .int .i64 t1, .int .i64 t2, .int .i64 t3, .int .i64 t4] 45)
  have F2 := (Blk.new (w.alloc (.cells #[.int .i64 f0, .int .i64 f1, .int .i64 f2, .int .i64 f3] 32)) 79 #[.int .i64 b0, .int .i64 b1]).alloc (.cells #[.int .i64 t0, .int .i64 t1, .int .i64 t2, .int .i64 t3, .int .i64 t4] 45)
  have F3 := Blk.new ((w.alloc (.cells #[.int .i64 f0, .int .i64 f1, .int .i64 f2, .int .i64 f3] 32)).alloc (.cells #[.int .i64 b0, .int .i64 b1] 79)) 45 #[.int .i64 t0, .int .i64 t1, .int .i64 t2, .int .i64 t3, .int .i64 t4]
  rw [show (w.alloc (.cells #[.int .i64 f0, .int .i64 f1, .int .i64 f2, .int .i64 f3] 32)).heap.size = w.heap.size + 1 from by simp] at F2
  rw [show ((w.alloc (.cells #[.int .i64 f0, .int .i64 f1, .int .i64 f2, .int .i64 f3] 32)).alloc (.cells #[.int .i64 b0, .int .i64 b1] 79)).heap.size = w.heap.size + 1 + 1 from by simp] at F3
  have G1 := Lib.hid F1
  have G2 := Lib.hid F2
  have G3 := Lib.hid F3
  have HTE := Lib.hid hte
  clear hb1 hb2 hb3 F1 F2 F3 hte
  go_enter Try.func6, Try.ntmps6
  go_wp2_with fail
  generalize (((w.alloc (.cells #[.int .i64 f0, .int .i64 f1, .int .i64 f2, .int .i64 f3] 32)).alloc (.cells #[.int .i64 b0, .int .i64 b1] 79)).alloc (.cells #[.int .i64 t0, .int .i64 t1, .int .i64 t2, .int .i64 t3, .int .i64 t4] 45)) = w1 at *
  generalize hq1 : w.heap.size + 1 = q1 at *
  generalize hq0 : w.heap.size = q0 at *
  have k0 : w1.cell? ⟨q1, 0, none⟩ = some (.int .i64 b0) := G2.out.cell 0
  have k1 : w1.cell? ⟨q1, 1, none⟩ = some (.int .i64 b1) := G2.out.cell 1
  refine wp_reads (by kernel_rfl) (by kernel_rfl) ?_
  repeat (refine sg_step (fun K2 hK => ?_); go_simp; refine hK.out _ ?_; clear hK K2)
  refine sg_nil ?_
  have hbd : Below w1.heap.size w1 w1.drew := (Below.refl _ _).drew
  generalize hw2 : w1.drew = w2 at *
  have HB2 := Lib.hid hbd
  clear k0 k1 hbd hw2
  go_wp2_with fail
  refine (awake10_any w2).mono ?_
  rintro e w3 ⟨rfl, hb3⟩
  have HB3 := Lib.hid (HB2.out.trans (hb3.mono HB2.out.size))
  clear hb3 HB2
  go_wp2_with fail
  refine (drop_nil w3).mono ?_
  rintro e w' ⟨rfl, rfl⟩
  go_wp2_with fail
  refine (rclose_nil w3).mono ?_
  rintro e w' ⟨rfl, rfl⟩
  go_wp2_with fail
  refine (make_nil b0 b1 w3).mono ?_
  rintro e w4 ⟨rfl, hb4⟩
  have HB4 := Lib.hid (HB3.out.trans (hb4.mono HB3.out.size))
  have hF4 := G1.out.below HB4.out G1.out.lt
  have l0 : w4.cell? ⟨q0, 0, none⟩ = some (.int .i64 f0) := hF4.cell 0
  have l1 : w4.cell? ⟨q0, 1, none⟩ = some (.int .i64 f1) := hF4.cell 1
  have l2 : w4.cell? ⟨q0, 2, none⟩ = some (.int .i64 f2) := hF4.cell 2
  have l3 : w4.cell? ⟨q0, 3, none⟩ = some (.int .i64 f3) := hF4.cell 3
  clear hb4 hF4 HB3
  go_wp2_with fail
  refine (open_nil f0 f1 f2 f3 w4).mono ?_
  rintro e w5 ⟨rfl, hb5⟩
  have HB5 := Lib.hid (HB4.out.trans (hb5.mono HB4.out.size))
  clear hb5 HB4 l0 l1 l2 l3
  go_wp2_with fail
  refine (close_nil w5).mono ?_
  rintro e w6 ⟨rfl, hb6⟩
  have HB6 := Lib.hid (HB5.out.trans (hb6.mono HB5.out.size))
  have hbn : Below w6.heap.size w6 (w6.alloc (.cells #[.int .i64 0, .int .i64 0, .int .i64 0, .int .i64 0] 32)) := (Below.refl _ _).alloc (Nat.le_refl _) _
  have HB7 := Lib.hid (HB6.out.trans (hbn.mono HB6.out.size))
  clear hb6 HB5 hbn
  unfold noFile
  go_wp2_with fail
  generalize w6.alloc (.cells #[.int .i64 0, .int .i64 0, .int .i64 0, .int .i64 0] 32) = w7 at *
  refine (next_nil w7).mono ?_
  rintro e w8 ⟨rfl, hb8⟩
  have HB8 := Lib.hid (HB7.out.trans (hb8.mono HB7.out.size))
  have hbn : Below w8.heap.size w8 (w8.alloc (.cells #[.int .i64 0, .int .i64 0, .int .i64 0, .int .i64 0, .int .i64 0] 45)) := (Below.refl _ _).alloc (Nat.le_refl _) _
  have HB9 := Lib.hid (HB8.out.trans (hbn.mono HB8.out.size))
  clear hb8 HB6 HB7 hbn
  unfold zero5
  go_wp2_with fail
  generalize w8.alloc (.cells #[.int .i64 0, .int .i64 0, .int .i64 0, .int .i64 0, .int .i64 0] 45) = w9 at *
  have hLY := lay_nil b0 none 0 0 w9
  unfold LayNo noFile at hLY
  refine hLY.mono ?_
  rintro e w10 ⟨rfl, hb10⟩
  have HB10 := Lib.hid (HB9.out.trans (hb10.mono HB9.out.size))
  have hbn : Below w10.heap.size w10 (w10.alloc (.cells #[.int .i64 0, .int .i64 0, .int .i64 0, .int .i64 0] 32)) := (Below.refl _ _).alloc (Nat.le_refl _) _
  have HB11 := Lib.hid (HB10.out.trans (hbn.mono HB10.out.size))
  have hF10 := G1.out.below HB10.out G1.out.lt
  have l0 : w10.cell? ⟨q0, 0, none⟩ = some (.int .i64 f0) := hF10.cell 0
  have l1 : w10.cell? ⟨q0, 1, none⟩ = some (.int .i64 f1) := hF10.cell 1
  have l2 : w10.cell? ⟨q0, 2, none⟩ = some (.int .i64 f2) := hF10.cell 2
  have l3 : w10.cell? ⟨q0, 3, none⟩ = some (.int .i64 f3) := hF10.cell 3
  have hlt : q0 < w10.heap.size := hF10.lt
  have HG1 := Lib.hid (G1.out.below HB11.out G1.out.lt)
  have HG3 := Lib.hid (G3.out.below HB11.out G3.out.lt)
  clear hb10 HB8 HB9 hbn hLY hF10
  go_wp2_with fail
  generalize w10.alloc (.cells #[.int .i64 0, .int .i64 0, .int .i64 0, .int .i64 0] 32) = w11 at *
  clear l0 l1 l2 l3 hlt
  refine (list_nil f0 f1 f2 f3 w11).mono ?_
  rintro e w12 ⟨rfl, hb12⟩
  have hF12 := HG1.out.below hb12 HG1.out.lt
  have hT12 := HG3.out.below hb12 HG3.out.lt
  have m0 : w12.cell? ⟨q1 + 1, 0, none⟩ = some (.int .i64 t0) := hT12.cell 0
  have m1 : w12.cell? ⟨q1 + 1, 1, none⟩ = some (.int .i64 t1) := hT12.cell 1
  have m2 : w12.cell? ⟨q1 + 1, 2, none⟩ = some (.int .i64 t2) := hT12.cell 2
  have m3 : w12.cell? ⟨q1 + 1, 3, none⟩ = some (.int .i64 t3) := hT12.cell 3
  have m4 : w12.cell? ⟨q1 + 1, 4, none⟩ = some (.int .i64 t4) := hT12.cell 4
  have HB12 := Lib.hid (HB11.out.trans (hb12.mono HB11.out.size))
  have HF12 := Lib.hid hF12
  have hPT := put_nil t ht w12
  rw [HTE.out] at hPT
  have HPT := Lib.hid hPT
  clear hb12 hF12 hT12 hPT HB10 HB11 HG1 HG3
  go_wp2_with fail
  refine HPT.out.mono ?_
  rintro e w13 ⟨rfl, hb13⟩
  have hF13 := HF12.out.below hb13 HF12.out.lt
  have l0 : w13.cell? ⟨q0, 0, none⟩ = some (.int .i64 f0) := hF13.cell 0
  have l1 : w13.cell? ⟨q0, 1, none⟩ = some (.int .i64 f1) := hF13.cell 1
  have l2 : w13.cell? ⟨q0, 2, none⟩ = some (.int .i64 f2) := hF13.cell 2
  have l3 : w13.cell? ⟨q0, 3, none⟩ = some (.int .i64 f3) := hF13.cell 3
  have HB13 := Lib.hid (HB12.out.trans (hb13.mono HB12.out.size))
  clear hb13 hF13 HPT HF12 HB12 m0 m1 m2 m3 m4
  go_wp2_with fail
  refine (free_nil f0 f1 f2 f3 w13).mono ?_
  rintro e w14 ⟨rfl, hb14⟩
  have HB14 := Lib.hid (HB13.out.trans (hb14.mono HB13.out.size))
  clear hb14 HB13 l0 l1 l2 l3
  go_wp2_with fail
  refine (holds_nil b0 w14).mono ?_
  rintro e w' ⟨rfl, rfl⟩
  go_wp2_with fail
  refine (device_nil w14).mono ?_
  rintro e w' ⟨rfl, rfl⟩
  go_wp2_with fail
  refine (arena_nil w14).mono ?_
  rintro e w' ⟨rfl, rfl⟩
  go_wp2_with fail
  refine (space_nil w14).mono ?_
  rintro e w' ⟨rfl, rfl⟩
  go_wp2_with fail
  refine (newfile_nil w14).mono ?_
  rintro e w' ⟨rfl, rfl⟩
  go_wp2_with fail
  go_ret
  subst hq0
  exact ⟨rfl, B3.out.trans (HB14.out.mono B3.out.size)⟩

theorem tup_open {w : World} {cs : Array Value} {l : List Int} (h : rdArr 5 1 (rdInt .i64) w cs.toList l) : ∃ (t : Tup) (t0 t1 t2 t3 t4 : Int), t.length = 5 ∧ cs = #[.int .i64 t0, .int .i64 t1, .int .i64 t2, .int .i64 t3, .int .i64 t4] ∧ (icells t).toArray = #[.int .i64 t0, .int .i64 t1, .int .i64 t2, .int .i64 t3, .int .i64 t4] := by
  obtain ⟨hl, hl5, hr⟩ := h
  obtain ⟨cs⟩ := cs
  match cs, l, hl, hl5 with
  | [c0, c1, c2, c3, c4], [x0, x1, x2, x3, x4], _, _ =>
    obtain ⟨e0, w0⟩ := hr 0 (by simp)
    obtain ⟨e1, w1⟩ := hr 1 (by simp)
    obtain ⟨e2, w2⟩ := hr 2 (by simp)
    obtain ⟨e3, w3⟩ := hr 3 (by simp)
    obtain ⟨e4, w4⟩ := hr 4 (by simp)
    obtain ⟨y0, h0⟩ := int_of_wf w0
    obtain ⟨y1, h1⟩ := int_of_wf w1
    obtain ⟨y2, h2⟩ := int_of_wf w2
    obtain ⟨y3, h3⟩ := int_of_wf w3
    obtain ⟨y4, h4⟩ := int_of_wf w4
    simp at e0 e1 e2 e3 e4 h0 h1 h2 h3 h4
    refine ⟨[y0, y1, y2, y3, y4], x0, x1, x2, x3, x4, rfl, by rw [e0, e1, e2, e3, e4], ?_⟩
    simp [icells, h0, h1, h2, h3, h4]
theorem file_open {w : World} {cs : Array Value} {f : Int × Int × Int × Int} (h : rdPair 1 3 (rdInt .i64) (rdPair 1 2 (rdInt .i64) (rdPair 1 1 (rdInt .i64) (rdInt .i64))) w cs.toList f) : cs = #[.int .i64 f.1, .int .i64 f.2.1, .int .i64 f.2.2.1, .int .i64 f.2.2.2] ∧ (Lit.int .i64 f.2.2.2).wf = true ∧ (Lit.int .i64 f.2.2.1).wf = true ∧ (Lit.int .i64 f.2.1).wf = true ∧ (Lit.int .i64 f.1).wf = true := by
  obtain ⟨hl, ⟨h1, w1⟩, _, ⟨h2, w2⟩, _, ⟨h3, w3⟩, h4, w4⟩ := h
  obtain ⟨cs⟩ := cs
  match cs, hl with
  | [a, b, c, d], _ =>
    simp at h1 h2 h3 h4
    subst h1 h2 h3 h4
    exact ⟨rfl, w4, w3, w2, w1⟩
theorem FileNil_law {w : World} (cs : Array Value) (f : Int × Int × Int × Int) (h : rdPair 1 3 (rdInt .i64) (rdPair 1 2 (rdInt .i64) (rdPair 1 1 (rdInt .i64) (rdInt .i64))) w cs.toList f) (cs1 : Array Value) (two : List Int) (h1 : rdArr 2 1 (rdInt .i64) w cs1.toList two) (cs2 : Array Value) (l : List Int) (h2 : rdArr 5 1 (rdInt .i64) w cs2.toList l) :
    Calls Try.prog 6 #[.agg cs, .agg cs1, .agg cs2] w fun e w' => e = .returned (.bool true) ∧ Below w.heap.size w w' := by
  obtain ⟨rfl, _⟩ := file_open h
  obtain ⟨x, y, rfl, _⟩ := rdArr2_ints h1
  obtain ⟨t, t0, t1, t2, t3, t4, h5, rfl, he⟩ := tup_open h2
  exact FileNil_walk _ _ _ _ x y t0 t1 t2 t3 t4 t h5 he

end Go.Proofs.Ytmmkncocgjgapaa.Fl
