/- FilePlays: the walk of a Free, of a reader closed, and of an Op that is none of a reader. -/
import Derived.Test.YtmmkncocgjgapaaZFpFile
import Derived.Deep.CutBlock
import Derived.Test.YtmmkncocgjgapaaZReg4
set_option linter.unusedVariables false
namespace Go.Proofs.Ytmmkncocgjgapaa.Fp
open Go.RowKit Fl

set_option maxRecDepth 100000 in
set_option maxHeartbeats 8000000 in
theorem read8 {w : World} {O : Nat → Prop} {K : Key} {W : Wk} {S : PS} {mo dw : Ow} {tw : Nat → Option Nat} {st : Nat} {V : Nat → Value} (h : Full w O K W S mo dw tw st V S.C S.n) (k width bound : Int) (t : Tup) (ht : t.length = 5) (hs : S.ws.length ≤ 100 ∧ S.fs.length ≤ 100 ∧ S.rs.length ≤ 100) (hac : W.D.acts ≤ 1000000) :
    Calls Try.prog 21 #[P st, opv 8 k width bound t] w (ActTold w K W S st) := by
  obtain ⟨z0, z1, z2, z3, z4, hzz⟩ := icells5 ht
  obtain ⟨hs1, hs2, hs3⟩ := hs
  have hbo : Below w.heap.size w (w.alloc (.cells (opc 8 k width bound t) 63)) := (Below.refl _ _).alloc (Nat.le_refl _) _
  have hob := Blk.new w 63 (opc 8 k width bound t)
  have H1 := Lib.hid (h.below hbo)
  have HBASE := h.pi.base_le
  have HB1 := Lib.hid (hbo.mono HBASE)
  have HOB := Lib.hid hob
  obtain ⟨a6, cc6, hv6⟩ := h.st.slice (i := 6) (by omega) (by omega)
  have hn6 : S.n 6 = S.fs.length := rfl
  rw [hn6] at hv6
  obtain ⟨a8, cc8, hv8⟩ := h.st.slice (i := 8) (by omega) (by omega)
  have hn8 : S.n 8 = S.fs.length := rfl
  rw [hn8] at hv8
  clear h hbo hob
  unfold opv opc at *
  have HZZ := Lib.hid hzz
  rw [hzz] at H1 HB1 HOB ⊢
  clear hzz
  have e1 : (w.alloc (.cells (Value.int .i64 8 :: .int .i64 k :: .int .i64 width :: .int .i64 bound :: [Value.int .i64 z0, .int .i64 z1, .int .i64 z2, .int .i64 z3, .int .i64 z4]).toArray 63)).cell? ⟨w.heap.size, 1, none⟩ = some (.int .i64 k) := HOB.out.cell 1
  have e0 : (w.alloc (.cells (Value.int .i64 8 :: .int .i64 k :: .int .i64 width :: .int .i64 bound :: [Value.int .i64 z0, .int .i64 z1, .int .i64 z2, .int .i64 z3, .int .i64 z4]).toArray 63)).cell? ⟨w.heap.size, 0, none⟩ = some (.int .i64 8) := HOB.out.cell 0
  have s6 : (w.alloc (.cells (Value.int .i64 8 :: .int .i64 k :: .int .i64 width :: .int .i64 bound :: [Value.int .i64 z0, .int .i64 z1, .int .i64 z2, .int .i64 z3, .int .i64 z4]).toArray 63)).cell? ⟨st, 6, none⟩ = some (.slice a6 S.fs.length cc6) := by rw [← hv6]; exact H1.out.st.blk.cell 6
  have s8 : (w.alloc (.cells (Value.int .i64 8 :: .int .i64 k :: .int .i64 width :: .int .i64 bound :: [Value.int .i64 z0, .int .i64 z1, .int .i64 z2, .int .i64 z3, .int .i64 z4]).toArray 63)).cell? ⟨st, 8, none⟩ = some (.slice a8 S.fs.length cc8) := by rw [← hv8]; exact H1.out.st.blk.cell 8
  by_cases hk0 : k < 0
  · go_enter Try.func21, Try.ntmps21
    go_wp2_with fail
    go_ret
    exact ⟨rfl, HB1.out, _, _, _, _, _, _, _, H1.out, rfl, by omega, by omega, by omega, by omega⟩
  by_cases hkn : (S.fs.length : Int) ≤ k
  · go_enter Try.func21, Try.ntmps21
    go_wp2_with fail
    go_ret
    exact ⟨rfl, HB1.out, _, _, _, _, _, _, _, H1.out, rfl, by omega, by omega, by omega, by omega⟩
  obtain ⟨kn, rfl⟩ := Int.eq_ofNat_of_zero_le (show 0 ≤ k by omega)
  have hkl : kn < S.fs.length := by omega
  obtain ⟨f, hke⟩ : ∃ f, S.fs[kn]? = some f := ⟨_, List.getElem?_eq_getElem hkl⟩
  have FF1 : Fx K st V S.C S.n w.heap.size (Value.int .i64 8 :: .int .i64 (kn : Int) :: .int .i64 width :: .int .i64 bound :: [Value.int .i64 z0, .int .i64 z1, .int .i64 z2, .int .i64 z3, .int .i64 z4]).toArray w.heap.size 63 (Value.int .i64 8 :: .int .i64 (kn : Int) :: .int .i64 width :: .int .i64 bound :: [Value.int .i64 z0, .int .i64 z1, .int .i64 z2, .int .i64 z3, .int .i64 z4]).toArray (w.alloc (.cells (Value.int .i64 8 :: .int .i64 (kn : Int) :: .int .i64 width :: .int .i64 bound :: [Value.int .i64 z0, .int .i64 z1, .int .i64 z2, .int .i64 z3, .int .i64 z4]).toArray 63)) := ⟨H1.out.st, HOB.out, HOB.out⟩
  obtain ⟨g8, c8, v8, hc8⟩ := FF1.elem (i := 8) (by omega) (by omega) rfl (kn := kn) (u := .bool f.freed) hkl (by simp [PS.C, hke])
  obtain ⟨u8, p8, z8⟩ := hc8 _ FF1
  have hn8 : S.n 8 = S.fs.length := rfl
  rw [hn8] at u8
  rw [s8] at u8
  injection u8 with u8
  injection u8 with u8 u8' u8''
  subst u8
  have hk00 : (0 : Int) ≤ (kn : Int) := by omega
  have hkl' : (kn : Int) < (S.fs.length : Int) := by omega
  have HKE := Lib.hid hke
  have HV8 := Lib.hid v8
  clear hc8 u8' u8'' hv8 v8
  cases hfr : f.freed with
  | true =>
    rw [hfr] at p8
    go_enter Try.func21, Try.ntmps21
    go_wp2_with fail
    go_ret
    exact ⟨rfl, HB1.out, _, _, _, _, _, _, _, H1.out, rfl, by omega, by omega, by omega, by omega⟩
  | false =>
    rw [hfr] at p8
    obtain ⟨h4, hb4, hob4, -⟩ := H1.out.store2 (i := 8) (by omega) (by omega) rfl (k := kn) hkl (.bool true) HV8.out FF1.2.1 FF1.2.2 (op_ety 8)
    have H4 := Lib.hid h4
    have HB4 := Lib.hid (HB1.out.trans hb4)
    have F4 : Fx K st V (put_ S.C 8 ((S.C 8).set kn (Value.bool true))) S.n w.heap.size (Value.int .i64 8 :: .int .i64 (kn : Int) :: .int .i64 width :: .int .i64 bound :: [Value.int .i64 z0, .int .i64 z1, .int .i64 z2, .int .i64 z3, .int .i64 z4]).toArray w.heap.size 63 (Value.int .i64 8 :: .int .i64 (kn : Int) :: .int .i64 width :: .int .i64 bound :: [Value.int .i64 z0, .int .i64 z1, .int .i64 z2, .int .i64 z3, .int .i64 z4]).toArray _ := ⟨h4.st, hob4, hob4⟩
    clear FF1 hv6 hk0 hkn h4 hb4 hob4 H1 HB1 HOB HV8
    go_enter Try.func21, Try.ntmps21
    go_wp2_with fail
    clear p8 z8 s6 s8 e0 e1
    generalize ((w.alloc (.cells (Value.int .i64 8 :: .int .i64 (kn : Int) :: .int .i64 width :: .int .i64 bound :: [Value.int .i64 z0, .int .i64 z1, .int .i64 z2, .int .i64 z3, .int .i64 z4]).toArray 63)).setCell ⟨g8, kn, none⟩ (.bool true)) = w1 at *
    generalize w.heap.size = ob at *
    have F4d := F4.below (Below.refl _ _).drew
    have H4d := Lib.hid (H4.out.below (Below.refl _ _).drew)
    have HB4d := Lib.hid (HB4.out.drew)
    have HFC := Lib.hid (free_c H4d.out.pi hke hfr)
    obtain ⟨g6, c6, v6, hc6⟩ := F4d.file (S := S) rfl rfl hke
    have HC6 := Lib.hid hc6
    clear hc6 hke H4 HB4 F4
    refine mx_begin (Fx K st V (put_ S.C 8 ((S.C 8).set kn (Value.bool true))) S.n ob (Value.int .i64 8 :: .int .i64 (kn : Int) :: .int .i64 width :: .int .i64 bound :: [Value.int .i64 z0, .int .i64 z1, .int .i64 z2, .int .i64 z3, .int .i64 z4]).toArray ob 63 (Value.int .i64 8 :: .int .i64 (kn : Int) :: .int .i64 width :: .int .i64 bound :: [Value.int .i64 z0, .int .i64 z1, .int .i64 z2, .int .i64 z3, .int .i64 z4]).toArray) [(true, 0), (true, 1), (true, 2), (true, 3), (true, 4), (true, 5), (true, 6), (true, 7), (true, 8), (true, 9), (true, 10), (false, 11), (true, 12), (false, 13)] (by kernel_rfl) (by kernel_rfl) (fun _ _ d _ _ h => by cases d <;> exact h) F4d ?_
    refine mx_read _ (P st) rfl (by kernel_rfl) (fun w' hF => by simp [execOp, Act.eval, go_sem]) ?_
    refine mx_read _ (P st) rfl (by kernel_rfl) (fun w' hF => by simp [execOp, Act.eval, go_sem]) ?_
    refine mx_read _ (P st) rfl (by kernel_rfl) (fun w' hF => by simp [execOp, Act.eval, go_sem]) ?_
    refine mx_read _ (P K.wk) rfl (by kernel_rfl) (fun w' hF => by have u := hF.1.blk.cell 0; simp at u; simp [execOp, Act.eval, go_sem, u]) ?_
    refine mx_read _ (P st) rfl (by kernel_rfl) (fun w' hF => by simp [execOp, Act.eval, go_sem]) ?_
    refine mx_read _ (P st) rfl (by kernel_rfl) (fun w' hF => by simp [execOp, Act.eval, go_sem]) ?_
    refine mx_read _ (.pointer (some ⟨st, 6, none⟩)) rfl (by kernel_rfl) (fun w' hF => by simp [execOp, Act.eval, go_sem]) ?_
    refine mx_read _ (.slice (some ⟨g6, 0, none⟩) S.fs.length c6) rfl (by kernel_rfl) (fun w' hF => by obtain ⟨q0, q1, q2, q3, q4⟩ := HC6.out _ hF; simp [execOp, Act.eval, go_sem, q0]) ?_
    refine mx_read _ (.int .i64 (kn : Int)) rfl (by kernel_rfl) (fun w' hF => by simp [execOp, Act.eval, go_sem]) ?_
    refine mx_read _ (.pointer (some ⟨g6, kn * 4, none⟩)) rfl (by kernel_rfl) (fun w' hF => by simp [execOp, Act.eval, go_sem, hk00, hkl']) ?_
    refine mx_read _ (.agg #[.int .i64 (f.first : Int), .int .i64 (f.blocks : Int), .int .i64 (f.width : Int), .int .i64 (f.l.length : Int)]) rfl (by kernel_rfl) (fun w' hF => by obtain ⟨q0, q1, q2, q3, q4⟩ := HC6.out _ hF; simp [execOp, Act.eval, go_sem, q1, q2, q3, q4]) ?_
    refine mx_one _ rfl (by kernel_rfl) (fun K8 hK8 => ?_)
    go_simp
    refine HFC.out.mono ?_
    clear HFC HC6 v6
    rintro ev w2 ⟨rfl, W2, dw2, hp2, ht2, hD2⟩
    have hE2 : Theirs w1.drew (fun _ => False) := fun g h => h.elim
    have H2 := Lib.hid (H4d.out.turn ht2 hE2 hp2 (fun q e' hq => .inl ⟨e', hq, rfl, rfl⟩))
    have hob2 := blk_mine H4d.out.pi.wk ht2 hE2 F4d.2.1 (by unfold Mine; simp)
    have F2 : Fx K st V (put_ S.C 8 ((S.C 8).set kn (Value.bool true))) S.n ob (Value.int .i64 8 :: .int .i64 (kn : Int) :: .int .i64 width :: .int .i64 bound :: [Value.int .i64 z0, .int .i64 z1, .int .i64 z2, .int .i64 z3, .int .i64 z4]).toArray ob 63 (Value.int .i64 8 :: .int .i64 (kn : Int) :: .int .i64 width :: .int .i64 bound :: [Value.int .i64 z0, .int .i64 z1, .int .i64 z2, .int .i64 z3, .int .i64 z4]).toArray w2 := ⟨H2.out.st, hob2, hob2⟩
    have HB2 := Lib.hid (HB4d.out.trans (low_ H4d.out.pi.wk H4d.out.pi.base_le ht2 (fun _ h => False.elim h)))
    refine hK8.out _ _ (fun _ => F2) ?_
    clear hK8 K8 hp2 ht2 hE2 hob2 F4d F2 H4d HB4d
    refine mx_read _ (.bool true) rfl (by kernel_rfl) (fun w' hF => by simp [execOp, Act.eval, go_sem]) ?_
    refine mx_one _ rfl (by kernel_rfl) (fun K8 hK8 => ?_)
    go_simp
    refine hK8.out _ _ (fun h => absurd rfl h) ?_
    clear hK8 K8
    refine mx_end ?_
    go_wp2_with fail
    go_ret
    exact ⟨rfl, HB2.out, _, _, _, _, _, _, _, H2.out.cast (fun i h1 h2 => fs_rows HKE.out i h1 h2), by rw [hD2], by rw [hD2]; omega, by simp [PS.setF], by simp [PS.setF], by simp [PS.setF]⟩

set_option maxRecDepth 100000 in
set_option maxHeartbeats 8000000 in
theorem read7 {w : World} {O : Nat → Prop} {K : Key} {W : Wk} {S : PS} {mo dw : Ow} {tw : Nat → Option Nat} {st : Nat} {V : Nat → Value} (h : Full w O K W S mo dw tw st V S.C S.n) (k width bound : Int) (t : Tup) (ht : t.length = 5) (hs : S.ws.length ≤ 100 ∧ S.fs.length ≤ 100 ∧ S.rs.length ≤ 100) (hac : W.D.acts ≤ 1000000) :
    Calls Try.prog 21 #[P st, opv 7 k width bound t] w (ActTold w K W S st) := by
  obtain ⟨z0, z1, z2, z3, z4, hzz⟩ := icells5 ht
  obtain ⟨hs1, hs2, hs3⟩ := hs
  have hbo : Below w.heap.size w (w.alloc (.cells (opc 7 k width bound t) 63)) := (Below.refl _ _).alloc (Nat.le_refl _) _
  have hob := Blk.new w 63 (opc 7 k width bound t)
  have H1 := Lib.hid (h.below hbo)
  have HBASE := h.pi.base_le
  have HB1 := Lib.hid (hbo.mono HBASE)
  have HOB := Lib.hid hob
  obtain ⟨a9, cc9, hv9⟩ := h.st.slice (i := 9) (by omega) (by omega)
  have hn9 : S.n 9 = S.rs.length := rfl
  rw [hn9] at hv9
  clear h hbo hob
  unfold opv opc at *
  have HZZ := Lib.hid hzz
  rw [hzz] at H1 HB1 HOB ⊢
  clear hzz
  have e1 : (w.alloc (.cells (Value.int .i64 7 :: .int .i64 k :: .int .i64 width :: .int .i64 bound :: [Value.int .i64 z0, .int .i64 z1, .int .i64 z2, .int .i64 z3, .int .i64 z4]).toArray 63)).cell? ⟨w.heap.size, 1, none⟩ = some (.int .i64 k) := HOB.out.cell 1
  have e0 : (w.alloc (.cells (Value.int .i64 7 :: .int .i64 k :: .int .i64 width :: .int .i64 bound :: [Value.int .i64 z0, .int .i64 z1, .int .i64 z2, .int .i64 z3, .int .i64 z4]).toArray 63)).cell? ⟨w.heap.size, 0, none⟩ = some (.int .i64 7) := HOB.out.cell 0
  have s9 : (w.alloc (.cells (Value.int .i64 7 :: .int .i64 k :: .int .i64 width :: .int .i64 bound :: [Value.int .i64 z0, .int .i64 z1, .int .i64 z2, .int .i64 z3, .int .i64 z4]).toArray 63)).cell? ⟨st, 9, none⟩ = some (.slice a9 S.rs.length cc9) := by rw [← hv9]; exact H1.out.st.blk.cell 9
  by_cases hk0 : k < 0
  · go_enter Try.func21, Try.ntmps21
    go_wp2_with fail
    go_ret
    exact ⟨rfl, HB1.out, _, _, _, _, _, _, _, H1.out, rfl, by omega, by omega, by omega, by omega⟩
  by_cases hkn : (S.rs.length : Int) ≤ k
  · go_enter Try.func21, Try.ntmps21
    go_wp2_with fail
    go_ret
    exact ⟨rfl, HB1.out, _, _, _, _, _, _, _, H1.out, rfl, by omega, by omega, by omega, by omega⟩
  obtain ⟨kn, rfl⟩ := Int.eq_ofNat_of_zero_le (show 0 ≤ k by omega)
  have hkl : kn < S.rs.length := by omega
  obtain ⟨e, hke⟩ : ∃ e, S.rs[kn]? = some e := ⟨_, List.getElem?_eq_getElem hkl⟩
  have FF1 : Fx K st V S.C S.n w.heap.size (Value.int .i64 7 :: .int .i64 (kn : Int) :: .int .i64 width :: .int .i64 bound :: [Value.int .i64 z0, .int .i64 z1, .int .i64 z2, .int .i64 z3, .int .i64 z4]).toArray w.heap.size 63 (Value.int .i64 7 :: .int .i64 (kn : Int) :: .int .i64 width :: .int .i64 bound :: [Value.int .i64 z0, .int .i64 z1, .int .i64 z2, .int .i64 z3, .int .i64 z4]).toArray (w.alloc (.cells (Value.int .i64 7 :: .int .i64 (kn : Int) :: .int .i64 width :: .int .i64 bound :: [Value.int .i64 z0, .int .i64 z1, .int .i64 z2, .int .i64 z3, .int .i64 z4]).toArray 63)) := ⟨H1.out.st, HOB.out, HOB.out⟩
  obtain ⟨g9, c9, v9, hc9⟩ := FF1.elem (i := 9) (by omega) (by omega) rfl (kn := kn) (u := P e.y) hkl (by simp [PS.C, hke])
  obtain ⟨u9, p9, -⟩ := hc9 _ FF1
  have hn9 : S.n 9 = S.rs.length := rfl
  rw [hn9] at u9
  rw [s9] at u9
  injection u9 with u9
  injection u9 with u9 u9' u9''
  subst u9
  have hk00 : (0 : Int) ≤ (kn : Int) := by omega
  have hkl' : (kn : Int) < (S.rs.length : Int) := by omega
  have HKE := Lib.hid hke
  have HCL := Lib.hid (rclose_c H1.out.pi hke)
  clear hke hc9 FF1 u9' u9'' hv9
  go_enter Try.func21, Try.ntmps21
  go_wp2_with fail
  refine HCL.out.mono ?_
  rintro ev w2 ⟨rfl, Y2, W2, E, hp2, ht2, hE2, hEb2, hD2⟩
  have H2 := Lib.hid (H1.out.turn ht2 hE2 hp2 (fun q e' hq => .inl ⟨e', hq, rfl, rfl⟩))
  have HB2 := Lib.hid (HB1.out.trans (low_ H1.out.pi.wk H1.out.pi.base_le ht2 hEb2))
  have hob2 := blk_mine H1.out.pi.wk ht2 hE2 HOB.out (by unfold Mine; simp)
  have F2 : Fx K st V S.C S.n w.heap.size (Value.int .i64 7 :: .int .i64 (kn : Int) :: .int .i64 width :: .int .i64 bound :: [Value.int .i64 z0, .int .i64 z1, .int .i64 z2, .int .i64 z3, .int .i64 z4]).toArray w.heap.size 63 (Value.int .i64 7 :: .int .i64 (kn : Int) :: .int .i64 width :: .int .i64 bound :: [Value.int .i64 z0, .int .i64 z1, .int .i64 z2, .int .i64 z3, .int .i64 z4]).toArray w2 := ⟨H2.out.st, hob2, hob2⟩
  obtain ⟨ub, hub⟩ : ∃ ub, (S.C 12)[kn]? = some (.bool ub) := ⟨e.rd, by simp [PS.C, HKE.out]⟩
  obtain ⟨g5, c5, v5, hc5⟩ := F2.elem (i := 12) (by omega) (by omega) rfl (kn := kn) (u := .bool ub) hkl hub
  obtain ⟨u5, p5, z5⟩ := hc5 _ F2
  have hn5 : S.n 12 = S.rs.length := rfl
  rw [hn5] at u5
  obtain ⟨h4, hb4, -, -⟩ := H2.out.store2 (i := 12) (by omega) (by omega) rfl (k := kn) hkl (.bool false) v5 F2.2.1 F2.2.2 (op_ety 12)
  have H4 := Lib.hid h4
  have HB4 := Lib.hid (HB2.out.trans hb4)
  clear hc5 hb4 h4 hob2 F2 H2 HB2 hp2 ht2 hE2 hEb2 v5 H1 HB1 HOB HCL hub
  go_wp2_with fail
  go_ret
  exact ⟨rfl, HB4.out, _, _, _, _, _, _, _, H4.out.cast (fun i h1 h2 => rd_rows HKE.out i h1 h2), by rw [hD2], by rw [hD2]; omega, by simp [PS.setR], by simp [PS.setR], by simp [PS.setR]⟩

set_option maxRecDepth 100000 in
set_option maxHeartbeats 8000000 in
theorem read0 {w : World} {O : Nat → Prop} {K : Key} {W : Wk} {S : PS} {mo dw : Ow} {tw : Nat → Option Nat} {st : Nat} {V : Nat → Value} (h : Full w O K W S mo dw tw st V S.C S.n) (kd : Int) (hkd : kd ≠ 5 ∧ kd ≠ 6 ∧ kd ≠ 7 ∧ kd ≠ 8) (k width bound : Int) (t : Tup) (ht : t.length = 5) (hs : S.ws.length ≤ 100 ∧ S.fs.length ≤ 100 ∧ S.rs.length ≤ 100) (hac : W.D.acts ≤ 1000000) :
    Calls Try.prog 21 #[P st, opv kd k width bound t] w (ActTold w K W S st) := by
  obtain ⟨z0, z1, z2, z3, z4, hzz⟩ := icells5 ht
  obtain ⟨hs1, hs2, hs3⟩ := hs
  have hbo : Below w.heap.size w (w.alloc (.cells (opc kd k width bound t) 63)) := (Below.refl _ _).alloc (Nat.le_refl _) _
  have hob := Blk.new w 63 (opc kd k width bound t)
  have H1 := Lib.hid (h.below hbo)
  have HBASE := h.pi.base_le
  have HB1 := Lib.hid (hbo.mono HBASE)
  have HOB := Lib.hid hob
  clear h hbo hob
  unfold opv opc at *
  have HZZ := Lib.hid hzz
  rw [hzz] at H1 HB1 HOB ⊢
  clear hzz
  have e1 : (w.alloc (.cells (Value.int .i64 kd :: .int .i64 k :: .int .i64 width :: .int .i64 bound :: [Value.int .i64 z0, .int .i64 z1, .int .i64 z2, .int .i64 z3, .int .i64 z4]).toArray 63)).cell? ⟨w.heap.size, 1, none⟩ = some (.int .i64 k) := HOB.out.cell 1
  have e0 : (w.alloc (.cells (Value.int .i64 kd :: .int .i64 k :: .int .i64 width :: .int .i64 bound :: [Value.int .i64 z0, .int .i64 z1, .int .i64 z2, .int .i64 z3, .int .i64 z4]).toArray 63)).cell? ⟨w.heap.size, 0, none⟩ = some (.int .i64 kd) := HOB.out.cell 0
  obtain ⟨k1, k2, k3, k4⟩ := hkd
  go_enter Try.func21, Try.ntmps21
  go_wp2_with fail
  go_ret
  exact ⟨rfl, HB1.out, _, _, _, _, _, _, _, H1.out, rfl, by omega, by omega, by omega, by omega⟩

end Go.Proofs.Ytmmkncocgjgapaa.Fp
