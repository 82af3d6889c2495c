/- FilePlays: the walk of a Read. -/
import Derived.Test.YtmmkncocgjgapaaZFpFile
import Derived.Deep.CutBlock
import Derived.Test.YtmmkncocgjgapaaZReg4
set_option linter.unusedVariables false
namespace Go.Proofs.Ytmmkncocgjgapaa.Fp
open Go.RowKit Fl

set_option maxRecDepth 100000 in
set_option maxHeartbeats 8000000 in
theorem read5 {w : World} {O : Nat → Prop} {K : Key} {W : Wk} {S : PS} {mo dw : Ow} {tw : Nat → Option Nat} {st : Nat} {V : Nat → Value} (h : Full w O K W S mo dw tw st V S.C S.n) (k width bound : Int) (t : Tup) (ht : t.length = 5) (hs : S.ws.length ≤ 100 ∧ S.fs.length ≤ 100 ∧ S.rs.length ≤ 100) (hac : W.D.acts ≤ 1000000) :
    Calls Try.prog 21 #[P st, opv 5 k width bound t] w (ActTold w K W S st) := by
  obtain ⟨z0, z1, z2, z3, z4, hzz⟩ := icells5 ht
  obtain ⟨hs1, hs2, hs3⟩ := hs
  have hbo : Below w.heap.size w (w.alloc (.cells (opc 5 k width bound t) 63)) := (Below.refl _ _).alloc (Nat.le_refl _) _
  have hob := Blk.new w 63 (opc 5 k width bound t)
  have H1 := Lib.hid (h.below hbo)
  have HBASE := h.pi.base_le
  have HB1 := Lib.hid (hbo.mono HBASE)
  have HOB := Lib.hid hob
  obtain ⟨a6, cc6, hv6⟩ := h.st.slice (i := 6) (by omega) (by omega)
  have hn6 : S.n 6 = S.fs.length := rfl
  rw [hn6] at hv6
  obtain ⟨a8, cc8, hv8⟩ := h.st.slice (i := 8) (by omega) (by omega)
  have hn8 : S.n 8 = S.fs.length := rfl
  rw [hn8] at hv8
  clear h hbo hob
  unfold opv opc at *
  have HZZ := Lib.hid hzz
  rw [hzz] at H1 HB1 HOB ⊢
  clear hzz
  have e1 : (w.alloc (.cells (Value.int .i64 5 :: .int .i64 k :: .int .i64 width :: .int .i64 bound :: [Value.int .i64 z0, .int .i64 z1, .int .i64 z2, .int .i64 z3, .int .i64 z4]).toArray 63)).cell? ⟨w.heap.size, 1, none⟩ = some (.int .i64 k) := HOB.out.cell 1
  have e0 : (w.alloc (.cells (Value.int .i64 5 :: .int .i64 k :: .int .i64 width :: .int .i64 bound :: [Value.int .i64 z0, .int .i64 z1, .int .i64 z2, .int .i64 z3, .int .i64 z4]).toArray 63)).cell? ⟨w.heap.size, 0, none⟩ = some (.int .i64 5) := HOB.out.cell 0
  have s6 : (w.alloc (.cells (Value.int .i64 5 :: .int .i64 k :: .int .i64 width :: .int .i64 bound :: [Value.int .i64 z0, .int .i64 z1, .int .i64 z2, .int .i64 z3, .int .i64 z4]).toArray 63)).cell? ⟨st, 6, none⟩ = some (.slice a6 S.fs.length cc6) := by rw [← hv6]; exact H1.out.st.blk.cell 6
  have s8 : (w.alloc (.cells (Value.int .i64 5 :: .int .i64 k :: .int .i64 width :: .int .i64 bound :: [Value.int .i64 z0, .int .i64 z1, .int .i64 z2, .int .i64 z3, .int .i64 z4]).toArray 63)).cell? ⟨st, 8, none⟩ = some (.slice a8 S.fs.length cc8) := by rw [← hv8]; exact H1.out.st.blk.cell 8
  by_cases hk0 : k < 0
  · go_enter Try.func21, Try.ntmps21
    go_wp2_with fail
    go_ret
    exact ⟨rfl, HB1.out, _, _, _, _, _, _, _, H1.out, rfl, by omega, by omega, by omega, by omega⟩
  by_cases hkn : (S.fs.length : Int) ≤ k
  · go_enter Try.func21, Try.ntmps21
    go_wp2_with fail
    go_ret
    exact ⟨rfl, HB1.out, _, _, _, _, _, _, _, H1.out, rfl, by omega, by omega, by omega, by omega⟩
  obtain ⟨kn, rfl⟩ := Int.eq_ofNat_of_zero_le (show 0 ≤ k by omega)
  have hkl : kn < S.fs.length := by omega
  obtain ⟨f, hke⟩ : ∃ f, S.fs[kn]? = some f := ⟨_, List.getElem?_eq_getElem hkl⟩
  have FF1 : Fx K st V S.C S.n w.heap.size (Value.int .i64 5 :: .int .i64 (kn : Int) :: .int .i64 width :: .int .i64 bound :: [Value.int .i64 z0, .int .i64 z1, .int .i64 z2, .int .i64 z3, .int .i64 z4]).toArray w.heap.size 63 (Value.int .i64 5 :: .int .i64 (kn : Int) :: .int .i64 width :: .int .i64 bound :: [Value.int .i64 z0, .int .i64 z1, .int .i64 z2, .int .i64 z3, .int .i64 z4]).toArray (w.alloc (.cells (Value.int .i64 5 :: .int .i64 (kn : Int) :: .int .i64 width :: .int .i64 bound :: [Value.int .i64 z0, .int .i64 z1, .int .i64 z2, .int .i64 z3, .int .i64 z4]).toArray 63)) := ⟨H1.out.st, HOB.out, HOB.out⟩
  obtain ⟨g8, c8, v8, hc8⟩ := FF1.elem (i := 8) (by omega) (by omega) rfl (kn := kn) (u := .bool f.freed) hkl (by simp [PS.C, hke])
  obtain ⟨u8, p8, -⟩ := hc8 _ FF1
  have hn8 : S.n 8 = S.fs.length := rfl
  rw [hn8] at u8
  rw [s8] at u8
  injection u8 with u8
  injection u8 with u8 u8' u8''
  subst u8
  have hk00 : (0 : Int) ≤ (kn : Int) := by omega
  have hkl' : (kn : Int) < (S.fs.length : Int) := by omega
  have HKE := Lib.hid hke
  clear hc8 u8' u8'' hv8 v8
  cases hfr : f.freed with
  | true =>
    rw [hfr] at p8
    go_enter Try.func21, Try.ntmps21
    go_wp2_with fail
    go_ret
    exact ⟨rfl, HB1.out, _, _, _, _, _, _, _, H1.out, rfl, by omega, by omega, by omega, by omega⟩
  | false =>
    rw [hfr] at p8
    go_enter Try.func21, Try.ntmps21
    go_wp2_with fail
    have F1d := FF1.below (Below.refl _ _).drew
    clear FF1 p8 s6 s8 e0 e1 hv6 hk0 hkn
    generalize (w.alloc (.cells (Value.int .i64 5 :: .int .i64 (kn : Int) :: .int .i64 width :: .int .i64 bound :: [Value.int .i64 z0, .int .i64 z1, .int .i64 z2, .int .i64 z3, .int .i64 z4]).toArray 63)) = w1 at *
    generalize w.heap.size = ob at *
    have H1d := Lib.hid (H1.out.below (Below.refl _ _).drew)
    have HB1d := Lib.hid (HB1.out.drew)
    have HOC := Lib.hid (open_c H1d.out.pi hke hfr)
    obtain ⟨g6, c6, v6, hc6⟩ := F1d.file (S := S) rfl rfl hke
    have HC6 := Lib.hid hc6
    clear hc6 hke H1 HB1 HOB
    refine mx_begin (Fx K st V S.C S.n ob (Value.int .i64 5 :: .int .i64 (kn : Int) :: .int .i64 width :: .int .i64 bound :: [Value.int .i64 z0, .int .i64 z1, .int .i64 z2, .int .i64 z3, .int .i64 z4]).toArray ob 63 (Value.int .i64 5 :: .int .i64 (kn : Int) :: .int .i64 width :: .int .i64 bound :: [Value.int .i64 z0, .int .i64 z1, .int .i64 z2, .int .i64 z3, .int .i64 z4]).toArray) [(true, 0), (true, 1), (true, 2), (true, 3), (true, 4), (true, 5), (true, 6), (true, 7), (true, 8), (true, 9), (true, 10), (false, 11), (true, 12), (true, 13), (true, 14), (true, 15), (false, 16)] (by kernel_rfl) (by kernel_rfl) (fun _ _ d _ _ h => by cases d <;> exact h) F1d ?_
    refine mx_read _ (P st) rfl (by kernel_rfl) (fun w' hF => by simp [execOp, Act.eval, go_sem]) ?_
    refine mx_read _ (P st) rfl (by kernel_rfl) (fun w' hF => by simp [execOp, Act.eval, go_sem]) ?_
    refine mx_read _ (P st) rfl (by kernel_rfl) (fun w' hF => by simp [execOp, Act.eval, go_sem]) ?_
    refine mx_read _ (P K.wk) rfl (by kernel_rfl) (fun w' hF => by have u := hF.1.blk.cell 0; simp at u; simp [execOp, Act.eval, go_sem, u]) ?_
    refine mx_read _ (P st) rfl (by kernel_rfl) (fun w' hF => by simp [execOp, Act.eval, go_sem]) ?_
    refine mx_read _ (P st) rfl (by kernel_rfl) (fun w' hF => by simp [execOp, Act.eval, go_sem]) ?_
    refine mx_read _ (.pointer (some ⟨st, 6, none⟩)) rfl (by kernel_rfl) (fun w' hF => by simp [execOp, Act.eval, go_sem]) ?_
    refine mx_read _ (.slice (some ⟨g6, 0, none⟩) S.fs.length c6) rfl (by kernel_rfl) (fun w' hF => by obtain ⟨q0, q1, q2, q3, q4⟩ := HC6.out _ hF; simp [execOp, Act.eval, go_sem, q0]) ?_
    refine mx_read _ (.int .i64 (kn : Int)) rfl (by kernel_rfl) (fun w' hF => by simp [execOp, Act.eval, go_sem]) ?_
    refine mx_read _ (.pointer (some ⟨g6, kn * 4, none⟩)) rfl (by kernel_rfl) (fun w' hF => by simp [execOp, Act.eval, go_sem, hk00, hkl']) ?_
    refine mx_read _ (.agg #[.int .i64 (f.first : Int), .int .i64 (f.blocks : Int), .int .i64 (f.width : Int), .int .i64 (f.l.length : Int)]) rfl (by kernel_rfl) (fun w' hF => by obtain ⟨q0, q1, q2, q3, q4⟩ := HC6.out _ hF; simp [execOp, Act.eval, go_sem, q1, q2, q3, q4]) ?_
    refine mx_one _ rfl (by kernel_rfl) (fun K8 hK8 => ?_)
    go_simp
    refine HOC.out.mono ?_
    clear HOC HC6 v6
    rintro ev w2 (⟨x, Y, O2, W2, mo2, rfl, hp2, ht2, hD2⟩ | ⟨rfl, hb2⟩)
    · have hE2 : Theirs w1.drew (fun _ => False) := fun g h => h.elim
      have H2 := Lib.hid (H1d.out.turn ht2 hE2 hp2 (fun q e' hq => .inl ⟨e', hq, rfl, rfl⟩))
      have hob2 := blk_mine H1d.out.pi.wk ht2 hE2 F1d.2.1 (by unfold Mine; simp)
      have F2 : Fx K st V S.C S.n ob (Value.int .i64 5 :: .int .i64 (kn : Int) :: .int .i64 width :: .int .i64 bound :: [Value.int .i64 z0, .int .i64 z1, .int .i64 z2, .int .i64 z3, .int .i64 z4]).toArray ob 63 (Value.int .i64 5 :: .int .i64 (kn : Int) :: .int .i64 width :: .int .i64 bound :: [Value.int .i64 z0, .int .i64 z1, .int .i64 z2, .int .i64 z3, .int .i64 z4]).toArray w2 := ⟨H2.out.st, hob2, hob2⟩
      have HB2 := Lib.hid (HB1d.out.trans (low_ H1d.out.pi.wk H1d.out.pi.base_le ht2 (fun _ h => False.elim h)))
      have HOB2 := Lib.hid hob2
      refine hK8.out _ _ (fun _ => F2) ?_
      clear hK8 K8 hp2 ht2 hE2 hob2 F1d F2 H1d HB1d
      refine mx_read _ (.tuple #[P x, .int .i64 0]) rfl (by kernel_rfl) (fun w' hF => by simp [execOp, Act.eval, go_sem]) ?_
      refine mx_read _ (P x) rfl (by kernel_rfl) (fun w' hF => by simp [execOp, Act.eval, go_sem]) ?_
      refine mx_read _ (.int .i64 0) rfl (by kernel_rfl) (fun w' hF => by simp [execOp, Act.eval, go_sem]) ?_
      refine mx_read _ (P x) rfl (by kernel_rfl) (fun w' hF => by simp [execOp, Act.eval, go_sem]) ?_
      refine mx_one _ rfl (by kernel_rfl) (fun K8 hK8 => ?_)
      go_simp
      refine hK8.out _ _ (fun h => absurd rfl h) ?_
      clear hK8 K8
      refine mx_end ?_
      have cx0 : w2.cell? ⟨st, 9, none⟩ = some (V 9) := H2.out.st.blk.cell 9
      have hbx0 : Below w2.heap.size w2 (w2.alloc (.cells #[P x] 40)) := (Below.refl _ _).alloc (Nat.le_refl _) _
      have HAx0 := Lib.hid (H2.out.below hbx0)
      have HRx0 := Lib.hid (Row.new w2 #[P x] 40 (0, 0))
      have hwsx0 : K.base ≤ w2.heap.size := H2.out.pi.base_le
      have HBAx0 := Lib.hid (HB2.out.trans (hbx0.mono hwsx0))
      have HOAx0 := Lib.hid (HOB2.out.below hbx0 HOB2.out.lt)
      clear hbx0 HB2 HOB2 H2
      go_wp2_with (at_builtin; go_must (refine wpList_append rfl (.tmp 59) (.tmp 61) _ rfl el_rdr K.base (V 9) S.rs.length (S.C 9) rfl (HAx0.out.st.own 9 (by omega) (by omega)) _ 1 1 [P x] rfl rfl HRx0.out (by intro u hu; simp at hu; subst hu; rfl) (by unfold maxLen; omega) (by omega) (by simp; omega) ?_))
      intro vax0 wax0 hownx0 hgx0 hvx0 hbbx0
      obtain ⟨gax0, capx0, rfl, _, _⟩ := World.ownsRow.form hownx0 (by omega)
      have fx0 := (HAx0.out.grown (by omega) (by omega) hgx0 HAx0.out.st.blk (state_ety 9)).frozen 9
      have ccx0 : wax0.cell? ⟨st, 9, none⟩ = some (V 9) := (HAx0.out.grown (by omega) (by omega) hgx0 HAx0.out.st.blk (state_ety 9)).cell 9
      obtain ⟨Vx0, hhx0, hbzx0, hobzx0⟩ := HAx0.out.app1 (i := 9) (by omega) (by omega) hownx0 hgx0 (hvx0.imp id (fun h => h.trans (by simp))) HOAx0.out
      have HZx0 := Lib.hid hhx0
      have HOZx0 := Lib.hid hobzx0
      have HBZx0 := Lib.hid (HBAx0.out.trans hbzx0)
      clear hhx0 hbzx0 hobzx0 hownx0 hgx0 hvx0 hbbx0 HAx0 HRx0 HBAx0 HOAx0
      generalize hwx1 : (wax0.setCell ⟨st, 9, none⟩ (.slice (some ⟨gax0, 0, none⟩) (S.rs.length + 1) capx0)) = wx1 at *
      have cx1 : (wax0.setCell ⟨st, 9, none⟩ (.slice (some ⟨gax0, 0, none⟩) (S.rs.length + 1) capx0)).cell? ⟨st, 10, none⟩ = some (Vx0 10) := by rw [hwx1]; exact HZx0.out.st.blk.cell 10
      have hbx1 : Below wx1.heap.size wx1 (wx1.alloc (.cells #[.int .i64 (kn : Int)] 3)) := (Below.refl _ _).alloc (Nat.le_refl _) _
      have HAx1 := Lib.hid (HZx0.out.below hbx1)
      have HRx1 := Lib.hid (Row.new wx1 #[.int .i64 (kn : Int)] 3 (0, 0))
      have hwsx1 : K.base ≤ wx1.heap.size := HZx0.out.pi.base_le
      have HBAx1 := Lib.hid (HBZx0.out.trans (hbx1.mono hwsx1))
      have HOAx1 := Lib.hid (HOZx0.out.below hbx1 HOZx0.out.lt)
      clear hbx1 HBZx0 HOZx0 HZx0
      have hszx1 : wx1.heap.size = wax0.heap.size := by rw [← hwx1]; simp [World.setCell]
      rw [hszx1] at hwsx1 HRx1
      rw [← hwx1] at HAx1 HRx1 HBAx1 HOAx1
      clear hwx1 hszx1 wx1
      go_wp2_with (at_builtin; go_must (refine wpList_append rfl (.tmp 69) (.tmp 71) _ rfl el_int K.base (Vx0 10) S.rs.length (S.C 10) rfl (HAx1.out.st.own 10 (by omega) (by omega)) _ 1 1 [.int .i64 (kn : Int)] rfl rfl HRx1.out (by intro u hu; simp at hu; subst hu; rfl) (by unfold maxLen; omega) (by omega) (by simp; omega) ?_))
      intro vax1 wax1 hownx1 hgx1 hvx1 hbbx1
      obtain ⟨gax1, capx1, rfl, _, _⟩ := World.ownsRow.form hownx1 (by omega)
      have fx1 := (HAx1.out.grown (by omega) (by omega) hgx1 HAx1.out.st.blk (state_ety 10)).frozen 10
      have ccx1 : wax1.cell? ⟨st, 10, none⟩ = some (Vx0 10) := (HAx1.out.grown (by omega) (by omega) hgx1 HAx1.out.st.blk (state_ety 10)).cell 10
      obtain ⟨Vx1, hhx1, hbzx1, hobzx1⟩ := HAx1.out.app1 (i := 10) (by omega) (by omega) hownx1 hgx1 (hvx1.imp id (fun h => h.trans (by simp))) HOAx1.out
      have HZx1 := Lib.hid hhx1
      have HOZx1 := Lib.hid hobzx1
      have HBZx1 := Lib.hid (HBAx1.out.trans hbzx1)
      clear hhx1 hbzx1 hobzx1 hownx1 hgx1 hvx1 hbbx1 HAx1 HRx1 HBAx1 HOAx1
      generalize hwx2 : (wax1.setCell ⟨st, 10, none⟩ (.slice (some ⟨gax1, 0, none⟩) (S.rs.length + 1) capx1)) = wx2 at *
      have cx2 : (wax1.setCell ⟨st, 10, none⟩ (.slice (some ⟨gax1, 0, none⟩) (S.rs.length + 1) capx1)).cell? ⟨st, 11, none⟩ = some (Vx1 11) := by rw [hwx2]; exact HZx1.out.st.blk.cell 11
      have hbx2 : Below wx2.heap.size wx2 (wx2.alloc (.cells #[.int .i64 0] 3)) := (Below.refl _ _).alloc (Nat.le_refl _) _
      have HAx2 := Lib.hid (HZx1.out.below hbx2)
      have HRx2 := Lib.hid (Row.new wx2 #[.int .i64 0] 3 (0, 0))
      have hwsx2 : K.base ≤ wx2.heap.size := HZx1.out.pi.base_le
      have HBAx2 := Lib.hid (HBZx1.out.trans (hbx2.mono hwsx2))
      have HOAx2 := Lib.hid (HOZx1.out.below hbx2 HOZx1.out.lt)
      clear hbx2 HBZx1 HOZx1 HZx1
      have hszx2 : wx2.heap.size = wax1.heap.size := by rw [← hwx2]; simp [World.setCell]
      rw [hszx2] at hwsx2 HRx2
      rw [← hwx2] at HAx2 HRx2 HBAx2 HOAx2
      clear hwx2 hszx2 wx2
      go_wp2_with (at_builtin; go_must (refine wpList_append rfl (.tmp 79) (.tmp 80) _ rfl el_int K.base (Vx1 11) S.rs.length (S.C 11) rfl (HAx2.out.st.own 11 (by omega) (by omega)) _ 1 1 [.int .i64 0] rfl rfl HRx2.out (by intro u hu; simp at hu; subst hu; rfl) (by unfold maxLen; omega) (by omega) (by simp; omega) ?_))
      intro vax2 wax2 hownx2 hgx2 hvx2 hbbx2
      obtain ⟨gax2, capx2, rfl, _, _⟩ := World.ownsRow.form hownx2 (by omega)
      have fx2 := (HAx2.out.grown (by omega) (by omega) hgx2 HAx2.out.st.blk (state_ety 11)).frozen 11
      have ccx2 : wax2.cell? ⟨st, 11, none⟩ = some (Vx1 11) := (HAx2.out.grown (by omega) (by omega) hgx2 HAx2.out.st.blk (state_ety 11)).cell 11
      obtain ⟨Vx2, hhx2, hbzx2, hobzx2⟩ := HAx2.out.app1 (i := 11) (by omega) (by omega) hownx2 hgx2 (hvx2.imp id (fun h => h.trans (by simp))) HOAx2.out
      have HZx2 := Lib.hid hhx2
      have HOZx2 := Lib.hid hobzx2
      have HBZx2 := Lib.hid (HBAx2.out.trans hbzx2)
      clear hhx2 hbzx2 hobzx2 hownx2 hgx2 hvx2 hbbx2 HAx2 HRx2 HBAx2 HOAx2
      generalize hwx3 : (wax2.setCell ⟨st, 11, none⟩ (.slice (some ⟨gax2, 0, none⟩) (S.rs.length + 1) capx2)) = wx3 at *
      have cx3 : (wax2.setCell ⟨st, 11, none⟩ (.slice (some ⟨gax2, 0, none⟩) (S.rs.length + 1) capx2)).cell? ⟨st, 12, none⟩ = some (Vx2 12) := by rw [hwx3]; exact HZx2.out.st.blk.cell 12
      have hbx3 : Below wx3.heap.size wx3 (wx3.alloc (.cells #[.bool true] 4)) := (Below.refl _ _).alloc (Nat.le_refl _) _
      have HAx3 := Lib.hid (HZx2.out.below hbx3)
      have HRx3 := Lib.hid (Row.new wx3 #[.bool true] 4 (0, 0))
      have hwsx3 : K.base ≤ wx3.heap.size := HZx2.out.pi.base_le
      have HBAx3 := Lib.hid (HBZx2.out.trans (hbx3.mono hwsx3))
      have HOAx3 := Lib.hid (HOZx2.out.below hbx3 HOZx2.out.lt)
      clear hbx3 HBZx2 HOZx2 HZx2
      have hszx3 : wx3.heap.size = wax2.heap.size := by rw [← hwx3]; simp [World.setCell]
      rw [hszx3] at hwsx3 HRx3
      rw [← hwx3] at HAx3 HRx3 HBAx3 HOAx3
      clear hwx3 hszx3 wx3
      go_wp2_with (at_builtin; go_must (refine wpList_append rfl (.tmp 88) (.tmp 89) _ rfl el_bool K.base (Vx2 12) S.rs.length (S.C 12) rfl (HAx3.out.st.own 12 (by omega) (by omega)) _ 1 1 [.bool true] rfl rfl HRx3.out (by intro u hu; simp at hu; subst hu; rfl) (by unfold maxLen; omega) (by omega) (by simp; omega) ?_))
      intro vax3 wax3 hownx3 hgx3 hvx3 hbbx3
      obtain ⟨gax3, capx3, rfl, _, _⟩ := World.ownsRow.form hownx3 (by omega)
      have fx3 := (HAx3.out.grown (by omega) (by omega) hgx3 HAx3.out.st.blk (state_ety 12)).frozen 12
      have ccx3 : wax3.cell? ⟨st, 12, none⟩ = some (Vx2 12) := (HAx3.out.grown (by omega) (by omega) hgx3 HAx3.out.st.blk (state_ety 12)).cell 12
      obtain ⟨Vx3, hhx3, hbzx3, hobzx3⟩ := HAx3.out.app1 (i := 12) (by omega) (by omega) hownx3 hgx3 (hvx3.imp id (fun h => h.trans (by simp))) HOAx3.out
      have HZx3 := Lib.hid hhx3
      have HOZx3 := Lib.hid hobzx3
      have HBZx3 := Lib.hid (HBAx3.out.trans hbzx3)
      clear hhx3 hbzx3 hobzx3 hownx3 hgx3 hvx3 hbbx3 HAx3 HRx3 HBAx3 HOAx3
      go_wp2_with fail
      go_ret
      exact ⟨rfl, HBZx3.out, _, _, _, _, _, _, _, HZx3.out.cast (fun i h1 h2 => by
        have hi : i = 1 ∨ i = 2 ∨ i = 3 ∨ i = 4 ∨ i = 5 ∨ i = 6 ∨ i = 7 ∨ i = 8 ∨ i = 9 ∨ i = 10 ∨ i = 11 ∨ i = 12 := by omega
        rcases hi with rfl | rfl | rfl | rfl | rfl | rfl | rfl | rfl | rfl | rfl | rfl | rfl <;> simp [put_, PS.C, PS.n, PS.addR]), by rw [hD2], by rw [hD2]; omega, by simp [PS.addR], by simp [PS.addR], by simp [PS.addR]⟩
    · have F2 := F1d.below hb2
      have H2 := Lib.hid (H1d.out.below hb2)
      have HB2 := Lib.hid (HB1d.out.trans (hb2.mono H1d.out.pi.base_le))
      refine hK8.out _ _ (fun _ => F2) ?_
      clear hK8 K8 F1d H1d HB1d
      refine mx_read _ (.tuple #[.pointer none, .int .i64 7]) rfl (by kernel_rfl) (fun w' hF => by simp [execOp, Act.eval, go_sem]) ?_
      refine mx_read _ (.pointer none) rfl (by kernel_rfl) (fun w' hF => by simp [execOp, Act.eval, go_sem]) ?_
      refine mx_read _ (.int .i64 7) rfl (by kernel_rfl) (fun w' hF => by simp [execOp, Act.eval, go_sem]) ?_
      refine mx_read _ (.pointer none) rfl (by kernel_rfl) (fun w' hF => by simp [execOp, Act.eval, go_sem]) ?_
      refine mx_one _ rfl (by kernel_rfl) (fun K8 hK8 => ?_)
      go_simp
      refine hK8.out _ _ (fun h => absurd rfl h) ?_
      clear hK8 K8
      refine mx_end ?_
      go_wp2_with fail
      go_ret
      exact ⟨rfl, HB2.out, _, _, _, _, _, _, _, H2.out, rfl, by omega, by omega, by omega, by omega⟩

end Go.Proofs.Ytmmkncocgjgapaa.Fp
