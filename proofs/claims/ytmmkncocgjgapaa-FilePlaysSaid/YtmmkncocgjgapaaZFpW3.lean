/- FilePlays: the walk of a Close. -/
import Derived.Test.YtmmkncocgjgapaaZFpClose
import Derived.Test.YtmmkncocgjgapaaZFpW1
import Derived.Test.YtmmkncocgjgapaaZFpRef
import Derived.Deep.CutBlock
import Derived.Test.YtmmkncocgjgapaaZReg4
set_option linter.unusedVariables false
namespace Go.Proofs.Ytmmkncocgjgapaa.Fp
open Go.RowKit Fl

set_option maxRecDepth 100000 in
set_option maxHeartbeats 8000000 in
theorem write3 {w : World} {O : Nat → Prop} {K : Key} {W : Wk} {S : PS} {mo dw : Ow} {tw : Nat → Option Nat} {st : Nat} {V : Nat → Value} (h : Full w O K W S mo dw tw st V S.C S.n) (k width bound : Int) (t : Tup) (ht : t.length = 5) (hs : S.ws.length ≤ 100 ∧ S.fs.length ≤ 100 ∧ S.rs.length ≤ 100) (hac : W.D.acts ≤ 1000000) (size : Nat) (hz : size = W.D.size) :
    Calls Try.prog 20 #[P st, opv 3 k width bound t, .int .i64 (size : Int)] w (ActTold w K W S st) := by
  subst hz
  have HSZ := Lib.hid h.pi.wk.size
  obtain ⟨z0, z1, z2, z3, z4, hzz⟩ := icells5 ht
  obtain ⟨hs1, hs2, hs3⟩ := hs
  have hbo : Below w.heap.size w (w.alloc (.cells (opc 3 k width bound t) 63)) := (Below.refl _ _).alloc (Nat.le_refl _) _
  have hob := Blk.new w 63 (opc 3 k width bound t)
  have H1 := Lib.hid (h.below hbo)
  have HBASE := h.pi.base_le
  have HB1 := Lib.hid (hbo.mono HBASE)
  have HOB := Lib.hid hob
  obtain ⟨a1, cc1, hv1⟩ := h.st.slice (i := 1) (by omega) (by omega)
  have hn1 : S.n 1 = S.ws.length := rfl
  rw [hn1] at hv1
  clear h hbo hob
  unfold opv opc at *
  have HZZ := Lib.hid hzz
  rw [hzz] at H1 HB1 HOB ⊢
  clear hzz
  have e1 : (w.alloc (.cells (Value.int .i64 3 :: .int .i64 k :: .int .i64 width :: .int .i64 bound :: [Value.int .i64 z0, .int .i64 z1, .int .i64 z2, .int .i64 z3, .int .i64 z4]).toArray 63)).cell? ⟨w.heap.size, 1, none⟩ = some (.int .i64 k) := HOB.out.cell 1
  have e0 : (w.alloc (.cells (Value.int .i64 3 :: .int .i64 k :: .int .i64 width :: .int .i64 bound :: [Value.int .i64 z0, .int .i64 z1, .int .i64 z2, .int .i64 z3, .int .i64 z4]).toArray 63)).cell? ⟨w.heap.size, 0, none⟩ = some (.int .i64 3) := HOB.out.cell 0
  have s1 : (w.alloc (.cells (Value.int .i64 3 :: .int .i64 k :: .int .i64 width :: .int .i64 bound :: [Value.int .i64 z0, .int .i64 z1, .int .i64 z2, .int .i64 z3, .int .i64 z4]).toArray 63)).cell? ⟨st, 1, none⟩ = some (.slice a1 S.ws.length cc1) := by rw [← hv1]; exact H1.out.st.blk.cell 1
  by_cases hk0 : k < 0
  · go_enter Try.func20, Try.ntmps20
    go_wp2_with fail
    go_ret
    exact ⟨rfl, HB1.out, _, _, _, _, _, _, _, H1.out, rfl, by omega, by omega, by omega, by omega⟩
  by_cases hkn : (S.ws.length : Int) ≤ k
  · go_enter Try.func20, Try.ntmps20
    go_wp2_with fail
    go_ret
    exact ⟨rfl, HB1.out, _, _, _, _, _, _, _, H1.out, rfl, by omega, by omega, by omega, by omega⟩
  obtain ⟨kn, rfl⟩ := Int.eq_ofNat_of_zero_le (show 0 ≤ k by omega)
  have hkl : kn < S.ws.length := by omega
  obtain ⟨e, hke⟩ : ∃ e, S.ws[kn]? = some e := ⟨_, List.getElem?_eq_getElem hkl⟩
  have FF1 : Fx K st V S.C S.n w.heap.size (Value.int .i64 3 :: .int .i64 (kn : Int) :: .int .i64 width :: .int .i64 bound :: [Value.int .i64 z0, .int .i64 z1, .int .i64 z2, .int .i64 z3, .int .i64 z4]).toArray w.heap.size 63 (Value.int .i64 3 :: .int .i64 (kn : Int) :: .int .i64 width :: .int .i64 bound :: [Value.int .i64 z0, .int .i64 z1, .int .i64 z2, .int .i64 z3, .int .i64 z4]).toArray (w.alloc (.cells (Value.int .i64 3 :: .int .i64 (kn : Int) :: .int .i64 width :: .int .i64 bound :: [Value.int .i64 z0, .int .i64 z1, .int .i64 z2, .int .i64 z3, .int .i64 z4]).toArray 63)) := ⟨H1.out.st, HOB.out, HOB.out⟩
  obtain ⟨g1, c1, v1, hc1⟩ := FF1.elem (i := 1) (by omega) (by omega) rfl (kn := kn) (u := P e.x) hkl (by simp [PS.C, hke])
  obtain ⟨u1, p1, -⟩ := hc1 _ FF1
  have hn1 : S.n 1 = S.ws.length := rfl
  rw [hn1] at u1
  rw [s1] at u1
  injection u1 with u1
  injection u1 with u1 u1' u1''
  subst u1
  have hk00 : (0 : Int) ≤ (kn : Int) := by omega
  have hkl' : (kn : Int) < (S.ws.length : Int) := by omega
  have HKE := Lib.hid hke
  have HCL := Lib.hid (close_c H1.out.pi hke hac)
  have HPL : Hid (e.ps.length ≤ 100000000 ∧ 1 ≤ e.X.width ∧ e.X.width ≤ 5) := Lib.hid ⟨Nat.le_trans (H1.out.pi.wf kn e hke).len (H1.out.pi.wf kn e hke).wid.2.2, (H1.out.pi.wf kn e hke).wid.1, (H1.out.pi.wf kn e hke).wid.2.1⟩
  have HPV : Hid (∃ pa pc, e.pv = .slice pa e.ps.length pc) := Lib.hid (by
    obtain ⟨pa, pc, hpv, -⟩ := tps_own (K := K) (H1.out.tr.own kn e hke).1 (fun u hu => ((H1.out.pi.wf kn e hke).fits u hu).1)
    exact ⟨pa, pc, hpv⟩)
  clear hke hc1 FF1 u1' u1'' hv1
  go_enter Try.func20, Try.ntmps20
  go_wp2_with fail
  refine HCL.out.mono ?_
  rintro ev w2 (⟨f, W2, dw2, E, hop, rfl, hfw, hfl, hfh, hff, hfb, hp2, ht2, hE2, hEb2, hsz2, hac2⟩ | ⟨hop, rfl, hb2⟩)
  · obtain ⟨ff, fb, fw, fl, fh, ffr⟩ := f
    simp only at hfw hfl hfh hff hfb
    subst hfw hfl hfh hff
    have HFB := Lib.hid hfb
    clear HCL hfb
    have H2 := Lib.hid (H1.out.turn ht2 hE2 hp2 (fun q e' hq => .inl (by
      rcases get_set hq with ⟨rfl, rfl, -⟩ | ⟨-, hq2⟩
      · exact ⟨e, HKE.out, rfl, rfl⟩
      · exact ⟨e', hq2, rfl, rfl⟩)))
    have HB2 := Lib.hid (HB1.out.trans (low_ H1.out.pi.wk H1.out.pi.base_le ht2 hEb2))
    have hob2 := blk_mine H1.out.pi.wk ht2 hE2 HOB.out (by unfold Mine; simp)
    have hb3 : Below w2.heap.size w2 (w2.alloc (.cells #[Value.int .i64 (ff : Int), .int .i64 (fb : Int), .int .i64 (e.X.width : Int), .int .i64 (e.ps.length : Int)] 32)) := (Below.refl _ _).alloc (Nat.le_refl _) _
    have H3 := Lib.hid (H2.out.below hb3)
    have HB3 := Lib.hid (HB2.out.trans (hb3.mono H2.out.pi.base_le))
    have HX6 : Hid ((V 6).ownBlock ≠ some w2.heap.size) := Lib.hid (fun e0 => by
      have := ((H2.out.st.own 6 (by omega) (by omega)).lt _ e0).2
      omega)
    have HXS : Hid (w2.heap.size ≠ st) := Lib.hid (fun e0 => by
      have := H2.out.st.blk.lt
      omega)
    have F3 : Fx K st V S.C S.n w.heap.size (Value.int .i64 3 :: .int .i64 (kn : Int) :: .int .i64 width :: .int .i64 bound :: [Value.int .i64 z0, .int .i64 z1, .int .i64 z2, .int .i64 z3, .int .i64 z4]).toArray w2.heap.size 32 #[Value.int .i64 (ff : Int), .int .i64 (fb : Int), .int .i64 (e.X.width : Int), .int .i64 (e.ps.length : Int)] (w2.alloc (.cells #[Value.int .i64 (ff : Int), .int .i64 (fb : Int), .int .i64 (e.X.width : Int), .int .i64 (e.ps.length : Int)] 32)) := ⟨H3.out.st, hob2.below hb3 hob2.lt, Blk.new _ _ _⟩
    obtain ⟨g5, c5, v5, hc5⟩ := F3.elem (i := 5) (by omega) (by omega) rfl (kn := kn) (u := .bool true) hkl (by simp [PS.C, HKE.out, hop])
    obtain ⟨u5, p5, z5⟩ := hc5 _ F3
    have hn5 : S.n 5 = S.ws.length := rfl
    rw [hn5] at u5
    obtain ⟨h4, hb4, hob4, hx4⟩ := H3.out.store2 (i := 5) (by omega) (by omega) rfl (k := kn) hkl (.bool false) v5 F3.2.1 F3.2.2 (by decide)
    have H4 := Lib.hid h4
    have HB4 := Lib.hid (HB3.out.trans hb4)
    have F4 : Fx K st V (put_ S.C 5 ((S.C 5).set kn (Value.bool false))) S.n w.heap.size (Value.int .i64 3 :: .int .i64 (kn : Int) :: .int .i64 width :: .int .i64 bound :: [Value.int .i64 z0, .int .i64 z1, .int .i64 z2, .int .i64 z3, .int .i64 z4]).toArray w2.heap.size 32 #[Value.int .i64 (ff : Int), .int .i64 (fb : Int), .int .i64 (e.X.width : Int), .int .i64 (e.ps.length : Int)] _ := ⟨h4.st, hob4, hx4⟩
    clear hc5 hb3 hb4 h4 hob4 hx4 hob2 F3 H3 HB3 H2 HB2 hp2 ht2 hE2 hEb2 v5 H1 HB1 HOB
    unfold fcells
    go_wp2_with fail
    generalize ((w2.alloc (.cells #[Value.int .i64 (ff : Int), .int .i64 (fb : Int), .int .i64 (e.X.width : Int), .int .i64 (e.ps.length : Int)] 32)).setCell ⟨g5, kn, none⟩ (.bool false)) = w4 at *
    generalize w.heap.size = ob at *
    generalize w2.heap.size = xb at *
    have F4d := F4.below (Below.refl _ _).drew
    have hc4 : Hid (∀ w' : World, Blk w' st 61 #[P K.wk, V 1, V 2, V 3, V 4, V 5, V 6, V 7, V 8, V 9, V 10, V 11, V 12] ∧ Blk w' xb 32 #[Value.int .i64 (ff : Int), .int .i64 (fb : Int), .int .i64 (e.X.width : Int), .int .i64 (e.ps.length : Int)] → w'.cell? ⟨st, 6, none⟩ = some (V 6) ∧ w'.cell? ⟨xb, 0, none⟩ = some (.int .i64 (ff : Int)) ∧ w'.cell? ⟨xb, 1, none⟩ = some (.int .i64 (fb : Int)) ∧ w'.cell? ⟨xb, 2, none⟩ = some (.int .i64 (e.X.width : Int)) ∧ w'.cell? ⟨xb, 3, none⟩ = some (.int .i64 (e.ps.length : Int))) := Lib.hid (fun w' hF => ⟨hF.1.cell 6, hF.2.cell 0, hF.2.cell 1, hF.2.cell 2, hF.2.cell 3⟩)
    have hb5 : Below w4.heap.size w4 (w4.drew.alloc (.cells #[Value.int .i64 (ff : Int), .int .i64 (fb : Int), .int .i64 (e.X.width : Int), .int .i64 (e.ps.length : Int)] 32)) := ((Below.refl _ _).drew).alloc (Nat.le_refl _) _
    have hws4 : K.base ≤ w4.heap.size := H4.out.pi.base_le
    have H5 := Lib.hid (H4.out.below hb5)
    have F5 := F4.below hb5
    have HB5 := Lib.hid (HB4.out.trans (hb5.mono hws4))
    have HR5 := Lib.hid (Row.new w4.drew #[Value.int .i64 (ff : Int), .int .i64 (fb : Int), .int .i64 (e.X.width : Int), .int .i64 (e.ps.length : Int)] 32 (0, 0))
    refine mx_begin (fun w' => Blk w' st 61 #[P K.wk, V 1, V 2, V 3, V 4, V 5, V 6, V 7, V 8, V 9, V 10, V 11, V 12] ∧ Blk w' xb 32 #[Value.int .i64 (ff : Int), .int .i64 (fb : Int), .int .i64 (e.X.width : Int), .int .i64 (e.ps.length : Int)]) [(true, 0), (true, 1), (true, 2), (true, 3), (true, 4), (true, 5), (false, 6), (false, 7), (true, 8), (true, 9), (false, 10)] (by kernel_rfl) (by kernel_rfl) (fun _ _ d _ _ h => by cases d <;> exact h) ⟨F4d.1.blk, F4d.2.2⟩ ?_
    refine mx_read _ (P st) rfl (by kernel_rfl) (fun w' hF => by simp [execOp, Act.eval, go_sem]) ?_
    refine mx_read _ (P st) rfl (by kernel_rfl) (fun w' hF => by simp [execOp, Act.eval, go_sem]) ?_
    refine mx_read _ (P st) rfl (by kernel_rfl) (fun w' hF => by simp [execOp, Act.eval, go_sem]) ?_
    refine mx_read _ (.pointer (some ⟨st, 6, none⟩)) rfl (by kernel_rfl) (fun w' hF => by simp [execOp, Act.eval, go_sem]) ?_
    refine mx_read _ (V 6) rfl (by kernel_rfl) (fun w' hF => by obtain ⟨q0, q1, q2, q3, q4⟩ := hc4.out _ hF; simp [execOp, Act.eval, go_sem, q0]) ?_
    refine mx_read _ (.agg #[Value.int .i64 (ff : Int), .int .i64 (fb : Int), .int .i64 (e.X.width : Int), .int .i64 (e.ps.length : Int)]) rfl (by kernel_rfl) (fun w' hF => by obtain ⟨q0, q1, q2, q3, q4⟩ := hc4.out _ hF; simp [execOp, Act.eval, go_sem, q1, q2, q3, q4]) ?_
    refine mx_one _ rfl (by kernel_rfl) (fun K8 hK8 => ?_)
    go_simp
    refine hK8.out _ _ (fun _ => ⟨F5.1.blk, F5.2.2⟩) ?_
    clear hK8 K8 hb5 hc4 F4d F4 H4 HB4
    refine mx_one _ rfl (by kernel_rfl) (fun K8 hK8 => ?_)
    refine wp_append (.tmp 243) (.tmp 245) _ rfl el_file K.base (V 6) S.fs.length (S.C 6) (by simp [Act.eval]) (H5.out.st.own 6 (by omega) (by omega)) _ 1 1 [Value.int .i64 (ff : Int), .int .i64 (fb : Int), .int .i64 (e.X.width : Int), .int .i64 (e.ps.length : Int)] (by simp [Act.eval]) rfl HR5.out (by intro u hu; simp at hu; rcases hu with rfl | rfl | rfl | rfl <;> rfl) (by unfold maxLen; omega) (by omega) (by simp; omega) ?_
    intro v7 w7 hown7 hg7 hv7 hb7
    obtain ⟨g7, cap7, rfl, _, _⟩ := World.ownsRow.form hown7 (by omega)
    obtain ⟨st7, bk7, V8, hV8, h8, hb8, hob8, hx8⟩ := H5.out.app2 (i := 6) (by omega) (by omega) hown7 hg7 (hv7.imp id (fun h => h.trans (by simp))) F5.2.1 F5.2.2 HXS.out HX6.out
    have HV8 := Lib.hid hV8
    clear hV8
    have f7 := bk7.frozen 6
    have c7 : w7.cell? ⟨st, 6, none⟩ = some (V 6) := bk7.cell 6
    have H8 := Lib.hid h8
    have F8 : Fx K st V8 (put_ (put_ S.C 5 ((S.C 5).set kn (Value.bool false))) 6 (S.C 6 ++ [Value.int .i64 (ff : Int), .int .i64 (fb : Int), .int .i64 (e.X.width : Int), .int .i64 (e.ps.length : Int)])) (put_ S.n 6 (S.n 6 + 1)) ob (Value.int .i64 3 :: .int .i64 (kn : Int) :: .int .i64 width :: .int .i64 bound :: [Value.int .i64 z0, .int .i64 z1, .int .i64 z2, .int .i64 z3, .int .i64 z4]).toArray xb 32 #[Value.int .i64 (ff : Int), .int .i64 (fb : Int), .int .i64 (e.X.width : Int), .int .i64 (e.ps.length : Int)] _ := ⟨h8.st, hob8, hx8⟩
    have HB8 := Lib.hid (HB5.out.trans hb8)
    have HX7 : Hid ((V8 7).ownBlock ≠ some xb) := Lib.hid (fun e0 => by obtain ⟨_, cs', hb'⟩ := own_blk (h8.st.own 7 (by omega) (by omega)) e0; exact hx8.ne_ hb' (by decide) rfl)
    have HX8 : Hid ((V8 8).ownBlock ≠ some xb) := Lib.hid (fun e0 => by obtain ⟨_, cs', hb'⟩ := own_blk (h8.st.own 8 (by omega) (by omega)) e0; exact hx8.ne_ hb' (by decide) rfl)
    refine hK8.out _ _ (fun _ => ⟨bk7, st7 _ _ _ F5.2.2 HX6.out⟩) ?_
    clear hK8 K8 hown7 hg7 hv7 hb7 h8 hb8 hob8 hx8 st7 H5 HB5 HR5 F5
    refine mx_read _ (P st) rfl (by kernel_rfl) (fun w' hF => by simp [execOp, Act.eval, go_sem]) ?_
    refine mx_read _ (.pointer (some ⟨st, 6, none⟩)) rfl (by kernel_rfl) (fun w' hF => by simp [execOp, Act.eval, go_sem]) ?_
    refine mx_one _ rfl (by kernel_rfl) (fun K8 hK8 => ?_)
    go_simp
    refine hK8.out _ _ (fun h => absurd rfl h) ?_
    clear hK8 K8
    refine mx_end ?_
    generalize (w7.setCell ⟨st, 6, none⟩ (.slice (some ⟨g7, 0, none⟩) (S.fs.length + 1) cap7)) = w8 at *
    clear bk7 f7 c7 hws4
    go_wp2_with fail
    obtain ⟨pa, pc, hpv⟩ := HPV.out
    have F8d := F8.below (Below.refl _ _).drew
    obtain ⟨g2, c2, v2, hc2⟩ := F8.elem (i := 2) (by omega) (by omega) rfl (kn := kn) (u := e.pv) (by show kn < S.ws.length; omega) (by simp [put_, PS.C, HKE.out])
    have hn2 : (put_ S.n 6 (S.n 6 + 1)) 2 = S.ws.length := rfl
    rw [hn2] at v2 hc2
    have u2d := hc2 _ F8d
    rw [hpv] at u2d
    have hc8 : Hid (∀ w' : World, Blk w' st 61 #[P K.wk, V8 1, V8 2, V8 3, V8 4, V8 5, V8 6, V8 7, V8 8, V8 9, V8 10, V8 11, V8 12] ∧ w'.cell? ⟨g2, kn, none⟩ = some (.slice pa e.ps.length pc) → w'.cell? ⟨st, 7, none⟩ = some (V8 7) ∧ w'.cell? ⟨st, 2, none⟩ = some (.slice (some ⟨g2, 0, none⟩) S.ws.length c2) ∧ w'.cell? ⟨g2, kn, none⟩ = some (.slice pa e.ps.length pc)) := Lib.hid (fun w' hF => ⟨hF.1.cell 7, (hF.1.cell 2).trans (congrArg some v2), hF.2⟩)
    have hb9 : Below w8.heap.size w8 (w8.drew.alloc (.cells #[.slice pa e.ps.length pc] 22)) := ((Below.refl _ _).drew).alloc (Nat.le_refl _) _
    have hws8 : K.base ≤ w8.heap.size := H8.out.pi.base_le
    have H9 := Lib.hid (H8.out.below hb9)
    have F9 := F8.below hb9
    have u9 := (hc2 _ F9).2.1
    rw [hpv] at u9
    have HB9 := Lib.hid (HB8.out.trans (hb9.mono hws8))
    have HR9 := Lib.hid (Row.new w8.drew #[.slice pa e.ps.length pc] 22 (0, 0))
    refine mx_begin (fun w' => Blk w' st 61 #[P K.wk, V8 1, V8 2, V8 3, V8 4, V8 5, V8 6, V8 7, V8 8, V8 9, V8 10, V8 11, V8 12] ∧ w'.cell? ⟨g2, kn, none⟩ = some (.slice pa e.ps.length pc)) [(true, 0), (true, 1), (true, 2), (true, 3), (true, 4), (true, 5), (true, 6), (true, 7), (true, 8), (true, 9), (true, 10), (true, 11), (false, 12), (false, 13), (true, 14), (true, 15), (false, 16)] (by kernel_rfl) (by kernel_rfl) (fun _ _ d _ _ h => by cases d <;> exact h) ⟨F8d.1.blk, u2d.2.1⟩ ?_
    refine mx_read _ (P st) rfl (by kernel_rfl) (fun w' hF => by simp [execOp, Act.eval, go_sem]) ?_
    refine mx_read _ (P st) rfl (by kernel_rfl) (fun w' hF => by simp [execOp, Act.eval, go_sem]) ?_
    refine mx_read _ (P st) rfl (by kernel_rfl) (fun w' hF => by simp [execOp, Act.eval, go_sem]) ?_
    refine mx_read _ (.pointer (some ⟨st, 7, none⟩)) rfl (by kernel_rfl) (fun w' hF => by simp [execOp, Act.eval, go_sem]) ?_
    refine mx_read _ (V8 7) rfl (by kernel_rfl) (fun w' hF => by obtain ⟨q0, q1, q2⟩ := hc8.out _ hF; simp [execOp, Act.eval, go_sem, q0]) ?_
    refine mx_read _ (P st) rfl (by kernel_rfl) (fun w' hF => by simp [execOp, Act.eval, go_sem]) ?_
    refine mx_read _ (P st) rfl (by kernel_rfl) (fun w' hF => by simp [execOp, Act.eval, go_sem]) ?_
    refine mx_read _ (.pointer (some ⟨st, 2, none⟩)) rfl (by kernel_rfl) (fun w' hF => by simp [execOp, Act.eval, go_sem]) ?_
    refine mx_read _ (.slice (some ⟨g2, 0, none⟩) S.ws.length c2) rfl (by kernel_rfl) (fun w' hF => by obtain ⟨q0, q1, q2⟩ := hc8.out _ hF; simp [execOp, Act.eval, go_sem, q1]) ?_
    refine mx_read _ (.int .i64 (kn : Int)) rfl (by kernel_rfl) (fun w' hF => by simp [execOp, Act.eval, go_sem]) ?_
    refine mx_read _ (.pointer (some ⟨g2, kn, none⟩)) rfl (by kernel_rfl) (fun w' hF => by simp [execOp, Act.eval, go_sem, hk00, hkl']) ?_
    refine mx_read _ (.slice pa e.ps.length pc) rfl (by kernel_rfl) (fun w' hF => by obtain ⟨q0, q1, q2⟩ := hc8.out _ hF; simp [execOp, Act.eval, go_sem, q2]) ?_
    refine mx_one _ rfl (by kernel_rfl) (fun K8 hK8 => ?_)
    go_simp
    refine hK8.out _ _ (fun _ => ⟨F9.1.blk, u9⟩) ?_
    clear hK8 K8 hb9 hc8 F8d u2d F8 H8 HB8 hc2
    refine mx_one _ rfl (by kernel_rfl) (fun K8 hK8 => ?_)
    refine wp_append (.tmp 253) (.tmp 261) _ rfl el_tups K.base (V8 7) S.fs.length (S.C 7) (by simp [Act.eval]) (H9.out.st.own 7 (by omega) (by omega)) _ 1 1 [.slice pa e.ps.length pc] (by simp [Act.eval]) rfl HR9.out (by intro u hu; simp at hu; subst hu; rfl) (by unfold maxLen; omega) (by omega) (by simp; omega) ?_
    intro v10 w10 hown10 hg10 hv10 hb10
    obtain ⟨g10, cap10, rfl, _, _⟩ := World.ownsRow.form hown10 (by omega)
    rw [← hpv] at hown10
    obtain ⟨st10, bk10, V12, hV12, h12, hb12, hob12, hx12⟩ := H9.out.app2 (i := 7) (by omega) (by omega) hown10 hg10 (hv10.imp id (fun h => h.trans (by simp))) F9.2.1 F9.2.2 HXS.out HX7.out
    obtain ⟨_, csr, hbr⟩ := own_blk (H9.out.st.own 2 (by omega) (by omega)) (g := g2) (by rw [v2]; rfl)
    have hbr' := st10 _ _ _ hbr (fun e0 => H9.out.st.ne 2 7 g2 (by omega) (by omega) (by omega) (by omega) (by omega) (by rw [v2]; rfl) e0)
    have u10 : w10.cell? ⟨g2, kn, none⟩ = some (.slice pa e.ps.length pc) := by rw [hbr'.cell, ← hbr.cell]; exact u9
    have HV12 := Lib.hid hV12
    clear hV12
    have f10 := bk10.frozen 7
    have c10 : w10.cell? ⟨st, 7, none⟩ = some (V8 7) := bk10.cell 7
    have H12 := Lib.hid h12
    have F12 : Fx K st V12 (put_ (put_ (put_ S.C 5 ((S.C 5).set kn (Value.bool false))) 6 (S.C 6 ++ [Value.int .i64 (ff : Int), .int .i64 (fb : Int), .int .i64 (e.X.width : Int), .int .i64 (e.ps.length : Int)])) 7 (S.C 7 ++ [e.pv])) (put_ (put_ S.n 6 (S.n 6 + 1)) 7 (S.n 7 + 1)) ob (Value.int .i64 3 :: .int .i64 (kn : Int) :: .int .i64 width :: .int .i64 bound :: [Value.int .i64 z0, .int .i64 z1, .int .i64 z2, .int .i64 z3, .int .i64 z4]).toArray xb 32 #[Value.int .i64 (ff : Int), .int .i64 (fb : Int), .int .i64 (e.X.width : Int), .int .i64 (e.ps.length : Int)] _ := ⟨h12.st, hob12, hx12⟩
    have HB12 := Lib.hid (HB9.out.trans hb12)
    have HX8' : Hid ((V12 8).ownBlock ≠ some xb) := Lib.hid (by rw [HV12.out 8 (by omega)]; exact HX8.out)
    refine hK8.out _ _ (fun _ => ⟨bk10, u10⟩) ?_
    clear hK8 K8 hown10 hg10 hv10 hb10 h12 hb12 hob12 hx12 st10 H9 HB9 HR9 F9 hbr hbr' u9 u10
    refine mx_read _ (P st) rfl (by kernel_rfl) (fun w' hF => by simp [execOp, Act.eval, go_sem]) ?_
    refine mx_read _ (.pointer (some ⟨st, 7, none⟩)) rfl (by kernel_rfl) (fun w' hF => by simp [execOp, Act.eval, go_sem]) ?_
    refine mx_one _ rfl (by kernel_rfl) (fun K8 hK8 => ?_)
    go_simp
    refine hK8.out _ _ (fun h => absurd rfl h) ?_
    clear hK8 K8
    refine mx_end ?_
    generalize (w10.setCell ⟨st, 7, none⟩ (.slice (some ⟨g10, 0, none⟩) (S.fs.length + 1) cap10)) = w12 at *
    clear bk10 f10 c10 hws8 v2 hn2
    have c12 : w12.cell? ⟨st, 8, none⟩ = some (V12 8) := H12.out.st.blk.cell 8
    have hb13 : Below w12.heap.size w12 (w12.alloc (.cells #[.bool false] 4)) := (Below.refl _ _).alloc (Nat.le_refl _) _
    have H13 := Lib.hid (H12.out.below hb13)
    have F13 := F12.below hb13
    have HR13 := Lib.hid (Row.new w12 #[.bool false] 4 (0, 0))
    have hws12 : K.base ≤ w12.heap.size := H12.out.pi.base_le
    have HB13 := Lib.hid (HB12.out.trans (hb13.mono hws12))
    clear hb13 HB12 H12 F12
    go_wp2_with (at_builtin; go_must (refine wpList_append rfl (.tmp 269) (.tmp 270) _ rfl el_bool K.base (V12 8) S.fs.length (S.C 8) rfl (H13.out.st.own 8 (by omega) (by omega)) _ 1 1 [.bool false] rfl rfl HR13.out (by intro u hu; simp at hu; subst hu; rfl) (by unfold maxLen; omega) (by omega) (by simp; omega) ?_))
    intro v14 w14 hown14 hg14 hv14 hb14
    obtain ⟨g14, cap14, rfl, _, _⟩ := World.ownsRow.form hown14 (by omega)
    obtain ⟨st14, bk14, V15, hV15, h15, hb15, hob15, hx15⟩ := H13.out.app2 (i := 8) (by omega) (by omega) hown14 hg14 (hv14.imp id (fun h => h.trans (by simp))) F13.2.1 F13.2.2 HXS.out HX8'.out
    clear hV15
    have f14 := bk14.frozen 8
    have c14 : w14.cell? ⟨st, 8, none⟩ = some (V12 8) := bk14.cell 8
    have H15 := Lib.hid h15
    have F15 : Fx K st V15 (put_ (put_ (put_ (put_ S.C 5 ((S.C 5).set kn (Value.bool false))) 6 (S.C 6 ++ [Value.int .i64 (ff : Int), .int .i64 (fb : Int), .int .i64 (e.X.width : Int), .int .i64 (e.ps.length : Int)])) 7 (S.C 7 ++ [e.pv])) 8 (S.C 8 ++ [Value.bool false])) (put_ (put_ (put_ S.n 6 (S.n 6 + 1)) 7 (S.n 7 + 1)) 8 (S.n 8 + 1)) ob (Value.int .i64 3 :: .int .i64 (kn : Int) :: .int .i64 width :: .int .i64 bound :: [Value.int .i64 z0, .int .i64 z1, .int .i64 z2, .int .i64 z3, .int .i64 z4]).toArray xb 32 #[Value.int .i64 (ff : Int), .int .i64 (fb : Int), .int .i64 (e.X.width : Int), .int .i64 (e.ps.length : Int)] _ := ⟨h15.st, hob15, hx15⟩
    have HB15 := Lib.hid (HB13.out.trans hb15)
    clear hown14 hg14 hv14 hb14 h15 hb15 hob15 hx15 st14 H13 HB13 HR13 F13 bk14
    go_wp2_with fail
    generalize (w14.setCell ⟨st, 8, none⟩ (.slice (some ⟨g14, 0, none⟩) (S.fs.length + 1) cap14)) = w15 at *
    clear f14 c14 hws12 c12
    have F15d := F15.below (Below.refl _ _).drew
    obtain ⟨g2, c2, v2, hc2⟩ := F15d.elem (i := 2) (by omega) (by omega) rfl (kn := kn) (u := .slice pa e.ps.length pc) (by show kn < S.ws.length; omega) (by simp [put_, PS.C, HKE.out, hpv])
    obtain ⟨g3, c3, v3, hc3⟩ := F15d.elem (i := 3) (by omega) (by omega) rfl (kn := kn) (u := .int .i64 (e.X.width : Int)) (by show kn < S.ws.length; omega) (by simp [put_, PS.C, HKE.out])
    have hn2 : (put_ (put_ (put_ S.n 6 (S.n 6 + 1)) 7 (S.n 7 + 1)) 8 (S.n 8 + 1)) 2 = S.ws.length := rfl
    have hn3 : (put_ (put_ (put_ S.n 6 (S.n 6 + 1)) 7 (S.n 7 + 1)) 8 (S.n 8 + 1)) 3 = S.ws.length := rfl
    rw [hn2] at hc2
    rw [hn3] at hc3
    have hc15 : Hid (∀ w', Fx K st V15 (put_ (put_ (put_ (put_ S.C 5 ((S.C 5).set kn (Value.bool false))) 6 (S.C 6 ++ [Value.int .i64 (ff : Int), .int .i64 (fb : Int), .int .i64 (e.X.width : Int), .int .i64 (e.ps.length : Int)])) 7 (S.C 7 ++ [e.pv])) 8 (S.C 8 ++ [Value.bool false])) (put_ (put_ (put_ S.n 6 (S.n 6 + 1)) 7 (S.n 7 + 1)) 8 (S.n 8 + 1)) ob (Value.int .i64 3 :: .int .i64 (kn : Int) :: .int .i64 width :: .int .i64 bound :: [Value.int .i64 z0, .int .i64 z1, .int .i64 z2, .int .i64 z3, .int .i64 z4]).toArray xb 32 #[Value.int .i64 (ff : Int), .int .i64 (fb : Int), .int .i64 (e.X.width : Int), .int .i64 (e.ps.length : Int)] w' → w'.cell? ⟨st, 2, none⟩ = some (.slice (some ⟨g2, 0, none⟩) S.ws.length c2) ∧ w'.cell? ⟨g2, kn, none⟩ = some (.slice pa e.ps.length pc) ∧ w'.cell? ⟨st, 3, none⟩ = some (.slice (some ⟨g3, 0, none⟩) S.ws.length c3) ∧ w'.cell? ⟨g3, kn, none⟩ = some (.int .i64 (e.X.width : Int)) ∧ w'.cell? ⟨xb, 1, none⟩ = some (.int .i64 (fb : Int)) ∧ w'.cell? ⟨xb, 2, none⟩ = some (.int .i64 (e.X.width : Int)) ∧ w'.cell? ⟨xb, 3, none⟩ = some (.int .i64 (e.ps.length : Int))) := Lib.hid (fun w' hF => ⟨(hc2 _ hF).1, (hc2 _ hF).2.1, (hc3 _ hF).1, (hc3 _ hF).2.1, hF.2.2.cell 1, hF.2.2.cell 2, hF.2.2.cell 3⟩)
    have HRB := Lib.hid (fun w' : World => refblocks_big W.D.size e.X.width e.ps.length w' HSZ.out.1 HSZ.out.2 HPL.out.2.1 HPL.out.2.2 HPL.out.1)
    clear hc2 hc3 v2 v3 hn2 hn3
    refine mx_begin (Fx K st V15 (put_ (put_ (put_ (put_ S.C 5 ((S.C 5).set kn (Value.bool false))) 6 (S.C 6 ++ [Value.int .i64 (ff : Int), .int .i64 (fb : Int), .int .i64 (e.X.width : Int), .int .i64 (e.ps.length : Int)])) 7 (S.C 7 ++ [e.pv])) 8 (S.C 8 ++ [Value.bool false])) (put_ (put_ (put_ S.n 6 (S.n 6 + 1)) 7 (S.n 7 + 1)) 8 (S.n 8 + 1)) ob (Value.int .i64 3 :: .int .i64 (kn : Int) :: .int .i64 width :: .int .i64 bound :: [Value.int .i64 z0, .int .i64 z1, .int .i64 z2, .int .i64 z3, .int .i64 z4]).toArray xb 32 #[Value.int .i64 (ff : Int), .int .i64 (fb : Int), .int .i64 (e.X.width : Int), .int .i64 (e.ps.length : Int)]) [(true, 0), (true, 1), (true, 2), (true, 3), (true, 4), (true, 5), (true, 6), (true, 7), (true, 8), (true, 9), (true, 10), (true, 11), (true, 12), (true, 13), (true, 14), (true, 15), (true, 16), (true, 17), (true, 18), (true, 19), (true, 20), (true, 21), (true, 22), (true, 23), (true, 24), (true, 25), (true, 26), (true, 27), (true, 28), (true, 29), (true, 30), (true, 31), (true, 32), (true, 33), (true, 34), (false, 35), (true, 36), (true, 37), (false, 38)] (by kernel_rfl) (by kernel_rfl) (fun _ _ d _ _ h => by cases d <;> exact h) F15d ?_
    refine mx_read _ (.int .i64 0) rfl (by kernel_rfl) (fun w' hF => by simp [execOp, Act.eval, go_sem]) ?_
    refine mx_read _ (.bool true) rfl (by kernel_rfl) (fun w' hF => by simp [execOp, Act.eval, go_sem]) ?_
    refine mx_read _ (.bool true) rfl (by kernel_rfl) (fun w' hF => by simp [execOp, Act.eval, go_sem]) ?_
    refine mx_read _ (.pointer (some ⟨xb, 3, none⟩)) rfl (by kernel_rfl) (fun w' hF => by simp [execOp, Act.eval, go_sem]) ?_
    refine mx_read _ (.int .i64 (e.ps.length : Int)) rfl (by kernel_rfl) (fun w' hF => by obtain ⟨q1, q2, q3, q4, q5, q6, q7⟩ := hc15.out _ hF; simp [execOp, Act.eval, go_sem, q7]) ?_
    refine mx_read _ (P st) rfl (by kernel_rfl) (fun w' hF => by simp [execOp, Act.eval, go_sem]) ?_
    refine mx_read _ (P st) rfl (by kernel_rfl) (fun w' hF => by simp [execOp, Act.eval, go_sem]) ?_
    refine mx_read _ (.pointer (some ⟨st, 2, none⟩)) rfl (by kernel_rfl) (fun w' hF => by simp [execOp, Act.eval, go_sem]) ?_
    refine mx_read _ (.slice (some ⟨g2, 0, none⟩) S.ws.length c2) rfl (by kernel_rfl) (fun w' hF => by obtain ⟨q1, q2, q3, q4, q5, q6, q7⟩ := hc15.out _ hF; simp [execOp, Act.eval, go_sem, q1]) ?_
    refine mx_read _ (.int .i64 (kn : Int)) rfl (by kernel_rfl) (fun w' hF => by simp [execOp, Act.eval, go_sem]) ?_
    refine mx_read _ (.pointer (some ⟨g2, kn, none⟩)) rfl (by kernel_rfl) (fun w' hF => by simp [execOp, Act.eval, go_sem, hk00, hkl']) ?_
    refine mx_read _ (.slice pa e.ps.length pc) rfl (by kernel_rfl) (fun w' hF => by obtain ⟨q1, q2, q3, q4, q5, q6, q7⟩ := hc15.out _ hF; simp [execOp, Act.eval, go_sem, q2]) ?_
    refine mx_read _ (.int .i64 (e.ps.length : Int)) rfl (by kernel_rfl) (fun w' hF => by simp [execOp, Act.eval, go_sem]) ?_
    refine mx_read _ (.bool true) rfl (by kernel_rfl) (fun w' hF => by simp [execOp, Act.eval, go_sem]) ?_
    refine mx_read _ (.bool true) rfl (by kernel_rfl) (fun w' hF => by simp [execOp, Act.eval, go_sem]) ?_
    refine mx_read _ (.bool true) rfl (by kernel_rfl) (fun w' hF => by simp [execOp, Act.eval, go_sem]) ?_
    refine mx_read _ (.pointer (some ⟨xb, 2, none⟩)) rfl (by kernel_rfl) (fun w' hF => by simp [execOp, Act.eval, go_sem]) ?_
    refine mx_read _ (.int .i64 (e.X.width : Int)) rfl (by kernel_rfl) (fun w' hF => by obtain ⟨q1, q2, q3, q4, q5, q6, q7⟩ := hc15.out _ hF; simp [execOp, Act.eval, go_sem, q6]) ?_
    refine mx_read _ (P st) rfl (by kernel_rfl) (fun w' hF => by simp [execOp, Act.eval, go_sem]) ?_
    refine mx_read _ (P st) rfl (by kernel_rfl) (fun w' hF => by simp [execOp, Act.eval, go_sem]) ?_
    refine mx_read _ (.pointer (some ⟨st, 3, none⟩)) rfl (by kernel_rfl) (fun w' hF => by simp [execOp, Act.eval, go_sem]) ?_
    refine mx_read _ (.slice (some ⟨g3, 0, none⟩) S.ws.length c3) rfl (by kernel_rfl) (fun w' hF => by obtain ⟨q1, q2, q3, q4, q5, q6, q7⟩ := hc15.out _ hF; simp [execOp, Act.eval, go_sem, q3]) ?_
    refine mx_read _ (.int .i64 (kn : Int)) rfl (by kernel_rfl) (fun w' hF => by simp [execOp, Act.eval, go_sem]) ?_
    refine mx_read _ (.pointer (some ⟨g3, kn, none⟩)) rfl (by kernel_rfl) (fun w' hF => by simp [execOp, Act.eval, go_sem, hk00, hkl']) ?_
    refine mx_read _ (.int .i64 (e.X.width : Int)) rfl (by kernel_rfl) (fun w' hF => by obtain ⟨q1, q2, q3, q4, q5, q6, q7⟩ := hc15.out _ hF; simp [execOp, Act.eval, go_sem, q4]) ?_
    refine mx_read _ (.bool true) rfl (by kernel_rfl) (fun w' hF => by simp [execOp, Act.eval, go_sem]) ?_
    refine mx_read _ (.bool true) rfl (by kernel_rfl) (fun w' hF => by simp [execOp, Act.eval, go_sem]) ?_
    refine mx_read _ (.bool true) rfl (by kernel_rfl) (fun w' hF => by simp [execOp, Act.eval, go_sem]) ?_
    refine mx_read _ (.pointer (some ⟨xb, 1, none⟩)) rfl (by kernel_rfl) (fun w' hF => by simp [execOp, Act.eval, go_sem]) ?_
    refine mx_read _ (.int .i64 (fb : Int)) rfl (by kernel_rfl) (fun w' hF => by obtain ⟨q1, q2, q3, q4, q5, q6, q7⟩ := hc15.out _ hF; simp [execOp, Act.eval, go_sem, q5]) ?_
    refine mx_read _ (.int .i64 (W.D.size : Int)) rfl (by kernel_rfl) (fun w' hF => by simp [execOp, Act.eval, go_sem]) ?_
    refine mx_read _ (.pointer (some ⟨xb, 2, none⟩)) rfl (by kernel_rfl) (fun w' hF => by simp [execOp, Act.eval, go_sem]) ?_
    refine mx_read _ (.int .i64 (e.X.width : Int)) rfl (by kernel_rfl) (fun w' hF => by obtain ⟨q1, q2, q3, q4, q5, q6, q7⟩ := hc15.out _ hF; simp [execOp, Act.eval, go_sem, q6]) ?_
    refine mx_read _ (.pointer (some ⟨xb, 3, none⟩)) rfl (by kernel_rfl) (fun w' hF => by simp [execOp, Act.eval, go_sem]) ?_
    refine mx_read _ (.int .i64 (e.ps.length : Int)) rfl (by kernel_rfl) (fun w' hF => by obtain ⟨q1, q2, q3, q4, q5, q6, q7⟩ := hc15.out _ hF; simp [execOp, Act.eval, go_sem, q7]) ?_
    refine mx_one _ rfl (by kernel_rfl) (fun K8 hK8 => ?_)
    go_simp
    refine (HRB.out _).mono ?_
    rintro ev w16 ⟨rfl, rfl⟩
    refine hK8.out _ _ (fun _ => F15d) ?_
    clear hK8 K8 hc15 HRB
    refine mx_read _ (.bool true) rfl (by kernel_rfl) (fun w' hF => by simp [execOp, Act.eval, go_sem, HFB.out]) ?_
    refine mx_read _ (.bool true) rfl (by kernel_rfl) (fun w' hF => by simp [execOp, Act.eval, go_sem]) ?_
    refine mx_one _ rfl (by kernel_rfl) (fun K8 hK8 => ?_)
    go_simp
    refine hK8.out _ _ (fun h => absurd rfl h) ?_
    clear hK8 K8
    refine mx_end ?_
    go_wp2_with fail
    go_ret
    have H16 := H15.out.below (Below.refl _ _).drew
    exact ⟨rfl, HB15.out.drew, _, _, _, _, _, _, _, H16.cast (fun i h1 h2 => close_rows HKE.out ⟨ff, fb, e.X.width, e.ps, e.pv, false⟩ rfl rfl i h1 h2), hsz2, hac2, by simp [PS.addF, PS.setW], by simp [PS.addF, PS.setW], by simp [PS.addF, PS.setW]⟩
  · clear HCL
    generalize hw1 : w.alloc (.cells (Value.int .i64 3 :: .int .i64 (kn : Int) :: .int .i64 width :: .int .i64 bound :: [Value.int .i64 z0, .int .i64 z1, .int .i64 z2, .int .i64 z3, .int .i64 z4]).toArray 63) = w1 at *
    unfold noFile
    have hbx : Below w2.heap.size w2 (w2.alloc (.cells #[.int .i64 0, .int .i64 0, .int .i64 0, .int .i64 0] 32)) := (Below.refl _ _).alloc (Nat.le_refl _) _
    have hb3 : Below w1.heap.size w1 (w2.alloc (.cells #[.int .i64 0, .int .i64 0, .int .i64 0, .int .i64 0] 32)) := hb2.alloc hb2.size _
    have H3 := Lib.hid (H1.out.below hb3)
    have HB3 := Lib.hid (HB1.out.trans (hb3.mono H1.out.pi.base_le))
    have hFF3 : Fx K st V S.C S.n w.heap.size (Value.int .i64 3 :: .int .i64 (kn : Int) :: .int .i64 width :: .int .i64 bound :: [Value.int .i64 z0, .int .i64 z1, .int .i64 z2, .int .i64 z3, .int .i64 z4]).toArray w2.heap.size 32 #[.int .i64 0, .int .i64 0, .int .i64 0, .int .i64 0] (w2.alloc (.cells #[.int .i64 0, .int .i64 0, .int .i64 0, .int .i64 0] 32)) := ⟨H3.out.st, HOB.out.below hb3 HOB.out.lt, Blk.new _ _ _⟩
    obtain ⟨g5, c5, v5, hc5⟩ := hFF3.elem (i := 5) (by omega) (by omega) rfl (kn := kn) (u := .bool false) hkl (by simp [PS.C, HKE.out, hop])
    obtain ⟨u5, p5, -⟩ := hc5 _ hFF3
    have hn5 : S.n 5 = S.ws.length := rfl
    rw [hn5] at u5
    clear hc5 hFF3 hbx hb3 hb2 v5 H1 HB1 HOB
    clear hw1
    go_wp2_with fail
    go_ret
    exact ⟨rfl, HB3.out, _, _, _, _, _, _, _, H3.out, rfl, by omega, by omega, by omega, by omega⟩

end Go.Proofs.Ytmmkncocgjgapaa.Fp
