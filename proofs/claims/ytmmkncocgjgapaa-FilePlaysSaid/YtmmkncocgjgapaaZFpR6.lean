/- FilePlays: the walk of a Next. -/
import Derived.Test.YtmmkncocgjgapaaZFpFile
import Derived.Test.YtmmkncocgjgapaaK11
import Derived.Deep.CutBlock
import Derived.Test.YtmmkncocgjgapaaZReg4
set_option linter.unusedVariables false
namespace Go.Proofs.Ytmmkncocgjgapaa.Fp
open Go.RowKit Fl

set_option maxRecDepth 100000 in
set_option maxHeartbeats 8000000 in
theorem read6 {w : World} {O : Nat → Prop} {K : Key} {W : Wk} {S : PS} {mo dw : Ow} {tw : Nat → Option Nat} {st : Nat} {V : Nat → Value} (h : Full w O K W S mo dw tw st V S.C S.n) (k width bound : Int) (t : Tup) (ht : t.length = 5) (hs : S.ws.length ≤ 100 ∧ S.fs.length ≤ 100 ∧ S.rs.length ≤ 100) (hac : W.D.acts ≤ 1000000) :
    Calls Try.prog 21 #[P st, opv 6 k width bound t] w (ActTold w K W S st) := by
  obtain ⟨z0, z1, z2, z3, z4, hzz⟩ := icells5 ht
  obtain ⟨hs1, hs2, hs3⟩ := hs
  have hbo : Below w.heap.size w (w.alloc (.cells (opc 6 k width bound t) 63)) := (Below.refl _ _).alloc (Nat.le_refl _) _
  have hob := Blk.new w 63 (opc 6 k width bound t)
  have H1 := Lib.hid (h.below hbo)
  have HBASE := h.pi.base_le
  have HB1 := Lib.hid (hbo.mono HBASE)
  have HOB := Lib.hid hob
  obtain ⟨a9, cc9, hv9⟩ := h.st.slice (i := 9) (by omega) (by omega)
  have hn9 : S.n 9 = S.rs.length := rfl
  rw [hn9] at hv9
  clear h hbo hob
  unfold opv opc at *
  have HZZ := Lib.hid hzz
  rw [hzz] at H1 HB1 HOB ⊢
  clear hzz
  have e1 : (w.alloc (.cells (Value.int .i64 6 :: .int .i64 k :: .int .i64 width :: .int .i64 bound :: [Value.int .i64 z0, .int .i64 z1, .int .i64 z2, .int .i64 z3, .int .i64 z4]).toArray 63)).cell? ⟨w.heap.size, 1, none⟩ = some (.int .i64 k) := HOB.out.cell 1
  have e0 : (w.alloc (.cells (Value.int .i64 6 :: .int .i64 k :: .int .i64 width :: .int .i64 bound :: [Value.int .i64 z0, .int .i64 z1, .int .i64 z2, .int .i64 z3, .int .i64 z4]).toArray 63)).cell? ⟨w.heap.size, 0, none⟩ = some (.int .i64 6) := HOB.out.cell 0
  have s9 : (w.alloc (.cells (Value.int .i64 6 :: .int .i64 k :: .int .i64 width :: .int .i64 bound :: [Value.int .i64 z0, .int .i64 z1, .int .i64 z2, .int .i64 z3, .int .i64 z4]).toArray 63)).cell? ⟨st, 9, none⟩ = some (.slice a9 S.rs.length cc9) := by rw [← hv9]; exact H1.out.st.blk.cell 9
  have hd1 : Below (w.alloc (.cells (Value.int .i64 6 :: .int .i64 k :: .int .i64 width :: .int .i64 bound :: [Value.int .i64 z0, .int .i64 z1, .int .i64 z2, .int .i64 z3, .int .i64 z4]).toArray 63)).heap.size (w.alloc (.cells (Value.int .i64 6 :: .int .i64 k :: .int .i64 width :: .int .i64 bound :: [Value.int .i64 z0, .int .i64 z1, .int .i64 z2, .int .i64 z3, .int .i64 z4]).toArray 63)) (w.alloc (.cells (Value.int .i64 6 :: .int .i64 k :: .int .i64 width :: .int .i64 bound :: [Value.int .i64 z0, .int .i64 z1, .int .i64 z2, .int .i64 z3, .int .i64 z4]).toArray 63)).drew := (Below.refl _ _).drew
  by_cases hk0 : k < 0
  · go_enter Try.func21, Try.ntmps21
    go_wp2_with fail
    generalize (w.alloc (.cells (Value.int .i64 6 :: .int .i64 k :: .int .i64 width :: .int .i64 bound :: [Value.int .i64 z0, .int .i64 z1, .int .i64 z2, .int .i64 z3, .int .i64 z4]).toArray 63)) = w1 at *
    refine mx_begin (fun w' => Below w1.heap.size w1 w') [(true, 0), (true, 1), (true, 2), (true, 3), (true, 4), (true, 5), (true, 6), (true, 7), (true, 8), (true, 9), (true, 10), (true, 11), (true, 12), (true, 13), (true, 14), (true, 15), (true, 16), (true, 17), (true, 18), (true, 19), (true, 20), (true, 21), (true, 22), (true, 23), (true, 24), (false, 25)] (by kernel_rfl) (by kernel_rfl) (fun _ _ d _ _ h => by cases d <;> exact h) hd1 ?_
    refine mx_read _ (.int .i64 k) rfl (by kernel_rfl) (fun w' hF => by simp [execOp, Act.eval, go_sem]) ?_
    refine mx_read _ (.bool true) rfl (by kernel_rfl) (fun w' hF => by simp [execOp, Act.eval, go_sem, hk0]) ?_
    refine mx_read _ (.bool true) rfl (by kernel_rfl) (fun w' hF => by simp [execOp, Act.eval, go_sem]) ?_
    refine mx_skip _ rfl (by kernel_rfl) ?_
    refine mx_skip _ rfl (by kernel_rfl) ?_
    refine mx_skip _ rfl (by kernel_rfl) ?_
    refine mx_skip _ rfl (by kernel_rfl) ?_
    refine mx_skip _ rfl (by kernel_rfl) ?_
    refine mx_skip _ rfl (by kernel_rfl) ?_
    refine mx_skip _ rfl (by kernel_rfl) ?_
    refine mx_read _ (.bool true) rfl (by kernel_rfl) (fun w' hF => by simp [execOp, Act.eval, go_sem]) ?_
    refine mx_read _ (.bool true) rfl (by kernel_rfl) (fun w' hF => by simp [execOp, Act.eval, go_sem]) ?_
    refine mx_skip _ rfl (by kernel_rfl) ?_
    refine mx_skip _ rfl (by kernel_rfl) ?_
    refine mx_skip _ rfl (by kernel_rfl) ?_
    refine mx_skip _ rfl (by kernel_rfl) ?_
    refine mx_skip _ rfl (by kernel_rfl) ?_
    refine mx_skip _ rfl (by kernel_rfl) ?_
    refine mx_skip _ rfl (by kernel_rfl) ?_
    refine mx_skip _ rfl (by kernel_rfl) ?_
    refine mx_skip _ rfl (by kernel_rfl) ?_
    refine mx_skip _ rfl (by kernel_rfl) ?_
    refine mx_skip _ rfl (by kernel_rfl) ?_
    refine mx_skip _ rfl (by kernel_rfl) ?_
    refine mx_skip _ rfl (by kernel_rfl) ?_
    refine mx_one _ rfl (by kernel_rfl) (fun K8 hK8 => ?_)
    go_simp
    refine hK8.out _ _ (fun h => absurd rfl h) ?_
    clear hK8 K8
    refine mx_end ?_
    go_wp2_with fail
    go_ret
    have H1d := H1.out.below hd1
    exact ⟨rfl, HB1.out.trans (hd1.mono H1.out.pi.base_le), _, _, _, _, _, _, _, H1d, rfl, by omega, by omega, by omega, by omega⟩
  by_cases hkn : (S.rs.length : Int) ≤ k
  · go_enter Try.func21, Try.ntmps21
    go_wp2_with fail
    generalize (w.alloc (.cells (Value.int .i64 6 :: .int .i64 k :: .int .i64 width :: .int .i64 bound :: [Value.int .i64 z0, .int .i64 z1, .int .i64 z2, .int .i64 z3, .int .i64 z4]).toArray 63)) = w1 at *
    refine mx_begin (fun w' => Below w1.heap.size w1 w') [(true, 0), (true, 1), (true, 2), (true, 3), (true, 4), (true, 5), (true, 6), (true, 7), (true, 8), (true, 9), (true, 10), (true, 11), (true, 12), (true, 13), (true, 14), (true, 15), (true, 16), (true, 17), (true, 18), (true, 19), (true, 20), (true, 21), (true, 22), (true, 23), (true, 24), (false, 25)] (by kernel_rfl) (by kernel_rfl) (fun _ _ d _ _ h => by cases d <;> exact h) hd1 ?_
    refine mx_read _ (.int .i64 k) rfl (by kernel_rfl) (fun w' hF => by simp [execOp, Act.eval, go_sem]) ?_
    refine mx_read _ (.bool false) rfl (by kernel_rfl) (fun w' hF => by simp [execOp, Act.eval, go_sem, hk0]) ?_
    refine mx_read _ (.bool false) rfl (by kernel_rfl) (fun w' hF => by simp [execOp, Act.eval, go_sem]) ?_
    refine mx_read _ (.int .i64 k) rfl (by kernel_rfl) (fun w' hF => by simp [execOp, Act.eval, go_sem]) ?_
    refine mx_read _ (P st) rfl (by kernel_rfl) (fun w' hF => by simp [execOp, Act.eval, go_sem]) ?_
    refine mx_read _ (P st) rfl (by kernel_rfl) (fun w' hF => by simp [execOp, Act.eval, go_sem]) ?_
    refine mx_read _ (.pointer (some ⟨st, 9, none⟩)) rfl (by kernel_rfl) (fun w' hF => by simp [execOp, Act.eval, go_sem]) ?_
    refine mx_read _ (.slice a9 S.rs.length cc9) rfl (by kernel_rfl) (fun w' hF => by have u' := (hF.cell (cell_lt s9).1).trans s9; simp [execOp, Act.eval, go_sem, u']) ?_
    refine mx_read _ (.int .i64 (S.rs.length : Int)) rfl (by kernel_rfl) (fun w' hF => by simp [execOp, Act.eval, go_sem]) ?_
    refine mx_read _ (.bool true) rfl (by kernel_rfl) (fun w' hF => by simp [execOp, Act.eval, go_sem, hkn]) ?_
    refine mx_read _ (.bool true) rfl (by kernel_rfl) (fun w' hF => by simp [execOp, Act.eval, go_sem]) ?_
    refine mx_read _ (.bool true) rfl (by kernel_rfl) (fun w' hF => by simp [execOp, Act.eval, go_sem]) ?_
    refine mx_skip _ rfl (by kernel_rfl) ?_
    refine mx_skip _ rfl (by kernel_rfl) ?_
    refine mx_skip _ rfl (by kernel_rfl) ?_
    refine mx_skip _ rfl (by kernel_rfl) ?_
    refine mx_skip _ rfl (by kernel_rfl) ?_
    refine mx_skip _ rfl (by kernel_rfl) ?_
    refine mx_skip _ rfl (by kernel_rfl) ?_
    refine mx_skip _ rfl (by kernel_rfl) ?_
    refine mx_skip _ rfl (by kernel_rfl) ?_
    refine mx_skip _ rfl (by kernel_rfl) ?_
    refine mx_skip _ rfl (by kernel_rfl) ?_
    refine mx_skip _ rfl (by kernel_rfl) ?_
    refine mx_skip _ rfl (by kernel_rfl) ?_
    refine mx_one _ rfl (by kernel_rfl) (fun K8 hK8 => ?_)
    go_simp
    refine hK8.out _ _ (fun h => absurd rfl h) ?_
    clear hK8 K8
    refine mx_end ?_
    go_wp2_with fail
    go_ret
    have H1d := H1.out.below hd1
    exact ⟨rfl, HB1.out.trans (hd1.mono H1.out.pi.base_le), _, _, _, _, _, _, _, H1d, rfl, by omega, by omega, by omega, by omega⟩
  obtain ⟨kn, rfl⟩ := Int.eq_ofNat_of_zero_le (show 0 ≤ k by omega)
  have hkl : kn < S.rs.length := by omega
  obtain ⟨e, hke⟩ : ∃ e, S.rs[kn]? = some e := ⟨_, List.getElem?_eq_getElem hkl⟩
  obtain ⟨f, hfj, hat, -⟩ := (H1.out.pi.rf kn e hke).file
  obtain ⟨hjl, -⟩ := List.getElem?_eq_some_iff.1 hfj
  have hF5 : ∀ u ∈ f.l, u.length = 5 := fun u hu => ((H1.out.pi.ff _ f hfj).fits u hu).1
  have HF5 := Lib.hid hF5
  have hfl := (H1.out.pi.ff _ f hfj).len
  have HSRC := Lib.hid (H1.out.pi.ff _ f hfj).src
  have FF1 : Fx K st V S.C S.n w.heap.size (Value.int .i64 6 :: .int .i64 (kn : Int) :: .int .i64 width :: .int .i64 bound :: [Value.int .i64 z0, .int .i64 z1, .int .i64 z2, .int .i64 z3, .int .i64 z4]).toArray w.heap.size 63 (Value.int .i64 6 :: .int .i64 (kn : Int) :: .int .i64 width :: .int .i64 bound :: [Value.int .i64 z0, .int .i64 z1, .int .i64 z2, .int .i64 z3, .int .i64 z4]).toArray (w.alloc (.cells (Value.int .i64 6 :: .int .i64 (kn : Int) :: .int .i64 width :: .int .i64 bound :: [Value.int .i64 z0, .int .i64 z1, .int .i64 z2, .int .i64 z3, .int .i64 z4]).toArray 63)) := ⟨H1.out.st, HOB.out, HOB.out⟩
  obtain ⟨g9, c9, v9, hc9⟩ := FF1.elem (i := 9) (by omega) (by omega) rfl (kn := kn) (u := P e.y) hkl (by simp [PS.C, hke])
  obtain ⟨g10, c10, v10, hc10⟩ := FF1.elem (i := 10) (by omega) (by omega) rfl (kn := kn) (u := .int .i64 (e.file : Int)) hkl (by simp [PS.C, hke])
  obtain ⟨g11, c11, v11, hc11⟩ := FF1.elem (i := 11) (by omega) (by omega) rfl (kn := kn) (u := .int .i64 (e.at_ : Int)) hkl (by simp [PS.C, hke])
  obtain ⟨g12, c12, v12, hc12⟩ := FF1.elem (i := 12) (by omega) (by omega) rfl (kn := kn) (u := .bool e.rd) hkl (by simp [PS.C, hke])
  obtain ⟨g8, c8, v8, hc8⟩ := FF1.elem (i := 8) (by omega) (by omega) rfl (kn := e.file) (u := .bool f.freed) hjl (by simp [PS.C, hfj])
  obtain ⟨g7, c7, v7, hc7⟩ := FF1.elem (i := 7) (by omega) (by omega) rfl (kn := e.file) (u := f.hv) hjl (by simp [PS.C, hfj])
  have hn9 : S.n 9 = S.rs.length := rfl
  have hn10 : S.n 10 = S.rs.length := rfl
  have hn11 : S.n 11 = S.rs.length := rfl
  have hn12 : S.n 12 = S.rs.length := rfl
  have hn8 : S.n 8 = S.fs.length := rfl
  have hn7 : S.n 7 = S.fs.length := rfl
  rw [hn9] at hc9
  rw [hn10] at hc10
  rw [hn11] at hc11 v11
  rw [hn12] at hc12
  rw [hn8] at hc8
  rw [hn7] at hc7
  obtain ⟨u9, p9, -⟩ := hc9 _ FF1
  obtain ⟨u10, p10, -⟩ := hc10 _ FF1
  obtain ⟨u8, p8, -⟩ := hc8 _ FF1
  have HC7 := Lib.hid hc7
  have HC9 := Lib.hid hc9
  have HC10 := Lib.hid hc10
  have HC11 := Lib.hid hc11
  have HC12 := Lib.hid hc12
  have HV11 := Lib.hid v11
  have hk00 : (0 : Int) ≤ (kn : Int) := by omega
  have hkl' : (kn : Int) < (S.rs.length : Int) := by omega
  have hkl2 : ¬ (S.rs.length : Int) ≤ (kn : Int) := by omega
  have hj0 : (0 : Int) ≤ (e.file : Int) := by omega
  have hjl' : (e.file : Int) < (S.fs.length : Int) := by omega
  have HKE := Lib.hid hke
  have HFJ := Lib.hid hfj
  clear hn9 hn10 hn11 hn12 hn8 hn7 hc7 hc8 hc9 hc10 hc11 hc12 v7 v8 v9 v10 v11 v12 s9 hv9 hF5
  go_enter Try.func21, Try.ntmps21
  go_wp2_with fail
  generalize (w.alloc (.cells (Value.int .i64 6 :: .int .i64 (kn : Int) :: .int .i64 width :: .int .i64 bound :: [Value.int .i64 z0, .int .i64 z1, .int .i64 z2, .int .i64 z3, .int .i64 z4]).toArray 63)) = w1 at *
  generalize w.heap.size = ob at *
  refine mx_begin (fun w' => Below w1.heap.size w1 w') [(true, 0), (true, 1), (true, 2), (true, 3), (true, 4), (true, 5), (true, 6), (true, 7), (true, 8), (true, 9), (true, 10), (true, 11), (true, 12), (true, 13), (true, 14), (true, 15), (true, 16), (true, 17), (true, 18), (true, 19), (true, 20), (true, 21), (true, 22), (true, 23), (true, 24), (false, 25)] (by kernel_rfl) (by kernel_rfl) (fun _ _ d _ _ h => by cases d <;> exact h) hd1 ?_
  refine mx_read _ (.int .i64 (kn : Int)) rfl (by kernel_rfl) (fun w' hF => by simp [execOp, Act.eval, go_sem]) ?_
  refine mx_read _ (.bool false) rfl (by kernel_rfl) (fun w' hF => by simp [execOp, Act.eval, go_sem, hk0]) ?_
  refine mx_read _ (.bool false) rfl (by kernel_rfl) (fun w' hF => by simp [execOp, Act.eval, go_sem]) ?_
  refine mx_read _ (.int .i64 (kn : Int)) rfl (by kernel_rfl) (fun w' hF => by simp [execOp, Act.eval, go_sem]) ?_
  refine mx_read _ (P st) rfl (by kernel_rfl) (fun w' hF => by simp [execOp, Act.eval, go_sem]) ?_
  refine mx_read _ (P st) rfl (by kernel_rfl) (fun w' hF => by simp [execOp, Act.eval, go_sem]) ?_
  refine mx_read _ (.pointer (some ⟨st, 9, none⟩)) rfl (by kernel_rfl) (fun w' hF => by simp [execOp, Act.eval, go_sem]) ?_
  refine mx_read _ (.slice (some ⟨g9, 0, none⟩) S.rs.length c9) rfl (by kernel_rfl) (fun w' hF => by have u' := (hF.cell (cell_lt u9).1).trans u9; simp [execOp, Act.eval, go_sem, u']) ?_
  refine mx_read _ (.int .i64 (S.rs.length : Int)) rfl (by kernel_rfl) (fun w' hF => by simp [execOp, Act.eval, go_sem]) ?_
  refine mx_read _ (.bool false) rfl (by kernel_rfl) (fun w' hF => by simp [execOp, Act.eval, go_sem, hkl]) ?_
  refine mx_read _ (.bool false) rfl (by kernel_rfl) (fun w' hF => by simp [execOp, Act.eval, go_sem]) ?_
  refine mx_read _ (.bool false) rfl (by kernel_rfl) (fun w' hF => by simp [execOp, Act.eval, go_sem]) ?_
  refine mx_read _ (P st) rfl (by kernel_rfl) (fun w' hF => by simp [execOp, Act.eval, go_sem]) ?_
  refine mx_read _ (P st) rfl (by kernel_rfl) (fun w' hF => by simp [execOp, Act.eval, go_sem]) ?_
  refine mx_read _ (.pointer (some ⟨st, 8, none⟩)) rfl (by kernel_rfl) (fun w' hF => by simp [execOp, Act.eval, go_sem]) ?_
  refine mx_read _ (.slice (some ⟨g8, 0, none⟩) S.fs.length c8) rfl (by kernel_rfl) (fun w' hF => by have u' := (hF.cell (cell_lt u8).1).trans u8; simp [execOp, Act.eval, go_sem, u']) ?_
  refine mx_read _ (P st) rfl (by kernel_rfl) (fun w' hF => by simp [execOp, Act.eval, go_sem]) ?_
  refine mx_read _ (P st) rfl (by kernel_rfl) (fun w' hF => by simp [execOp, Act.eval, go_sem]) ?_
  refine mx_read _ (.pointer (some ⟨st, 10, none⟩)) rfl (by kernel_rfl) (fun w' hF => by simp [execOp, Act.eval, go_sem]) ?_
  refine mx_read _ (.slice (some ⟨g10, 0, none⟩) S.rs.length c10) rfl (by kernel_rfl) (fun w' hF => by have u' := (hF.cell (cell_lt u10).1).trans u10; simp [execOp, Act.eval, go_sem, u']) ?_
  refine mx_read _ (.int .i64 (kn : Int)) rfl (by kernel_rfl) (fun w' hF => by simp [execOp, Act.eval, go_sem]) ?_
  refine mx_read _ (.pointer (some ⟨g10, kn, none⟩)) rfl (by kernel_rfl) (fun w' hF => by simp [execOp, Act.eval, go_sem, hk00, hkl']) ?_
  refine mx_read _ (.int .i64 (e.file : Int)) rfl (by kernel_rfl) (fun w' hF => by have u' := (hF.cell (cell_lt p10).1).trans p10; simp [execOp, Act.eval, go_sem, u']) ?_
  refine mx_read _ (.pointer (some ⟨g8, e.file, none⟩)) rfl (by kernel_rfl) (fun w' hF => by simp [execOp, Act.eval, go_sem, hj0, hjl']) ?_
  refine mx_read _ (.bool f.freed) rfl (by kernel_rfl) (fun w' hF => by have u' := (hF.cell (cell_lt p8).1).trans p8; simp [execOp, Act.eval, go_sem, u']) ?_
  refine mx_one _ rfl (by kernel_rfl) (fun K8 hK8 => ?_)
  go_simp
  refine hK8.out _ _ (fun h => absurd rfl h) ?_
  clear hK8 K8
  refine mx_end ?_
  have H1d := Lib.hid (H1.out.below hd1)
  have HB1d := Lib.hid (HB1.out.trans (hd1.mono H1.out.pi.base_le))
  have FF1d := FF1.below hd1
  cases hfr : f.freed with
  | true =>
    go_wp2_with fail
    go_ret
    exact ⟨rfl, HB1d.out, _, _, _, _, _, _, _, H1d.out, rfl, by omega, by omega, by omega, by omega⟩
  | false =>
    have HNC := Lib.hid (next_c H1d.out.pi HKE.out HFJ.out hfr hac)
    obtain ⟨u9, p9, -⟩ := HC9.out _ FF1d
    clear FF1 H1 HB1 HOB hd1 u10 p10 u8 p8 hke hfj e0 e1
    go_wp2_with fail
    refine HNC.out.mono ?_
    clear HNC
    rintro ev w2 (⟨Y2, W2, E, t2, htl, hrd, rfl, hp2, ht2, hE2, hEb2, hsz2, hac2⟩ | ⟨er, rfl, hb2, her⟩)
    · have hlt : e.at_ < f.l.length := (List.getElem?_eq_some_iff.1 htl).1
      have hlt2 : f.l[e.at_] = t2 := (List.getElem?_eq_some_iff.1 htl).2
      obtain ⟨y0, y1, y2, y3, y4, hyy⟩ := icells5 (HF5.out t2 (hlt2 ▸ List.getElem_mem hlt))
      rw [hyy]
      have HYY := Lib.hid hyy
      have HL2 := Lib.hid hlt2
      have H2 := Lib.hid (H1d.out.turn ht2 hE2 hp2 (fun q e' hq => .inl ⟨e', hq, rfl, rfl⟩))
      have HB2 := Lib.hid (HB1d.out.trans (low_ H1d.out.pi.wk H1d.out.pi.base_le ht2 hEb2))
      have hob2 := blk_mine H1d.out.pi.wk ht2 hE2 FF1d.2.1 (by unfold Mine; simp)
      have FF2 : Fx K st V S.C S.n ob (Value.int .i64 6 :: .int .i64 (kn : Int) :: .int .i64 width :: .int .i64 bound :: [Value.int .i64 z0, .int .i64 z1, .int .i64 z2, .int .i64 z3, .int .i64 z4]).toArray ob 63 (Value.int .i64 6 :: .int .i64 (kn : Int) :: .int .i64 width :: .int .i64 bound :: [Value.int .i64 z0, .int .i64 z1, .int .i64 z2, .int .i64 z3, .int .i64 z4]).toArray w2 := ⟨H2.out.st, hob2, hob2⟩
      have hb3 : Below w2.heap.size w2 (w2.alloc (.cells #[.int .i64 y0, .int .i64 y1, .int .i64 y2, .int .i64 y3, .int .i64 y4] 45)) := (Below.refl _ _).alloc (Nat.le_refl _) _
      have H3 := Lib.hid (H2.out.below hb3)
      have HB3 := Lib.hid (HB2.out.trans (hb3.mono H2.out.pi.base_le))
      have FF3 := FF2.below hb3
      have hB := Blk.new w2 45 #[.int .i64 y0, .int .i64 y1, .int .i64 y2, .int .i64 y3, .int .i64 y4]
      have HBX := Lib.hid hB
      clear hp2 ht2 hE2 hEb2 hob2 FF2 hb3 H1d HB1d FF1d H2 HB2 hyy hlt2 htl
      obtain ⟨k9, e9, hk9, ho9, hpv9, hps9⟩ := HSRC.out
      obtain ⟨ha, hc, hhv, HTP, -, -⟩ := tps_own (K := K) (H3.out.tr.own k9 e9 hk9).1 (by rw [hps9]; exact HF5.out)
      rw [hpv9, hps9] at hhv
      obtain ⟨u7, p7, -⟩ := HC7.out _ FF3
      obtain ⟨u10, p10, -⟩ := HC10.out _ FF3
      obtain ⟨u11, p11, z11⟩ := HC11.out _ FF3
      obtain ⟨u12, p12, -⟩ := HC12.out _ FF3
      rw [hhv] at p7
      have HHW := Lib.hid hhv
      have b0 := hB.cell 0
      have b1 := hB.cell 1
      have b2 := hB.cell 2
      have b3 := hB.cell 3
      have b4 := hB.cell 4
      have hd3 : Below (w2.alloc (.cells #[.int .i64 y0, .int .i64 y1, .int .i64 y2, .int .i64 y3, .int .i64 y4] 45)).heap.size (w2.alloc (.cells #[.int .i64 y0, .int .i64 y1, .int .i64 y2, .int .i64 y3, .int .i64 y4] 45)) (w2.alloc (.cells #[.int .i64 y0, .int .i64 y1, .int .i64 y2, .int .i64 y3, .int .i64 y4] 45)).drew := (Below.refl _ _).drew
      clear hpv9 hk9 ho9 hhv u9 p9 hB
      go_wp2_with fail
      generalize w2.heap.size = tb at *
      generalize (w2.alloc (.cells #[.int .i64 y0, .int .i64 y1, .int .i64 y2, .int .i64 y3, .int .i64 y4] 45)) = w3 at *
      refine mx_begin (fun w' => Below w3.heap.size w3 w') [(true, 0), (true, 1), (true, 2), (true, 3), (true, 4), (true, 5), (true, 6), (true, 7), (true, 8), (true, 9), (true, 10), (true, 11), (true, 12), (false, 13)] (by kernel_rfl) (by kernel_rfl) (fun _ _ d _ _ h => by cases d <;> exact h) hd3 ?_
      refine mx_read _ (P st) rfl (by kernel_rfl) (fun w' hF => by simp [execOp, Act.eval, go_sem]) ?_
      refine mx_read _ (P st) rfl (by kernel_rfl) (fun w' hF => by simp [execOp, Act.eval, go_sem]) ?_
      refine mx_read _ (.pointer (some ⟨st, 7, none⟩)) rfl (by kernel_rfl) (fun w' hF => by simp [execOp, Act.eval, go_sem]) ?_
      refine mx_read _ (.slice (some ⟨g7, 0, none⟩) S.fs.length c7) rfl (by kernel_rfl) (fun w' hF => by have u' := (hF.cell (cell_lt u7).1).trans u7; simp [execOp, Act.eval, go_sem, u']) ?_
      refine mx_read _ (P st) rfl (by kernel_rfl) (fun w' hF => by simp [execOp, Act.eval, go_sem]) ?_
      refine mx_read _ (P st) rfl (by kernel_rfl) (fun w' hF => by simp [execOp, Act.eval, go_sem]) ?_
      refine mx_read _ (.pointer (some ⟨st, 10, none⟩)) rfl (by kernel_rfl) (fun w' hF => by simp [execOp, Act.eval, go_sem]) ?_
      refine mx_read _ (.slice (some ⟨g10, 0, none⟩) S.rs.length c10) rfl (by kernel_rfl) (fun w' hF => by have u' := (hF.cell (cell_lt u10).1).trans u10; simp [execOp, Act.eval, go_sem, u']) ?_
      refine mx_read _ (.int .i64 (kn : Int)) rfl (by kernel_rfl) (fun w' hF => by simp [execOp, Act.eval, go_sem]) ?_
      refine mx_read _ (.pointer (some ⟨g10, kn, none⟩)) rfl (by kernel_rfl) (fun w' hF => by simp [execOp, Act.eval, go_sem, hk00, hkl']) ?_
      refine mx_read _ (.int .i64 (e.file : Int)) rfl (by kernel_rfl) (fun w' hF => by have u' := (hF.cell (cell_lt p10).1).trans p10; simp [execOp, Act.eval, go_sem, u']) ?_
      refine mx_read _ (.pointer (some ⟨g7, e.file, none⟩)) rfl (by kernel_rfl) (fun w' hF => by simp [execOp, Act.eval, go_sem, hj0, hjl']) ?_
      refine mx_read _ (.slice ha f.l.length hc) rfl (by kernel_rfl) (fun w' hF => by have u' := (hF.cell (cell_lt p7).1).trans p7; simp [execOp, Act.eval, go_sem, u']) ?_
      refine mx_one _ rfl (by kernel_rfl) (fun K8 hK8 => ?_)
      go_simp
      refine hK8.out _ _ (fun h => absurd rfl h) ?_
      clear hK8 K8
      refine mx_end ?_
      have H3d := Lib.hid (H3.out.below hd3)
      have HB3d := Lib.hid (HB3.out.trans (hd3.mono H3.out.pi.base_le))
      have FF3d := FF3.below hd3
      clear u7 p7 u10 p10
      have HBXd := Lib.hid (HBX.out.below hd3 HBX.out.lt)
      rw [hrd] at p12
      have hne : ¬ (e.at_ : Int) = (f.l.length : Int) := by omega
      have hwr : IntKind.i64.wrap ((e.at_ : Int) + 1) = (e.at_ : Int) + 1 := by rw [IntKind.wrap_i64]; omega
      have hwr2 : IntKind.i64.wrap (e.at_ : Int) = (e.at_ : Int) := by rw [IntKind.wrap_i64]; omega
      obtain ⟨h4, hb4, hob4, hx4⟩ := H3d.out.store2 (i := 11) (by omega) (by omega) rfl (k := kn) hkl (.int .i64 ((e.at_ : Int) + 1)) HV11.out FF3d.2.1 HBXd.out (tuple_ety 11)
      have H4 := Lib.hid h4
      have HB4 := Lib.hid (HB3d.out.trans hb4)
      have HT4 : Hid (Tps K (w3.drew.setCell ⟨g11, kn, none⟩ (.int .i64 ((e.at_ : Int) + 1))) ha f.l) := Lib.hid (by
        obtain ⟨k9, e9, hk9, ho9, hpv9, hps9⟩ := HSRC.out
        obtain ⟨ha', hc', hhv', HTP', -, -⟩ := tps_own (K := K) (h4.tr.own k9 e9 hk9).1 (by rw [hps9]; exact HF5.out)
        rw [hpv9, hps9, HHW.out] at hhv'
        injection hhv' with q1 q2 q3
        rw [q1, ← hps9]
        exact HTP')
      have F4 : Fx K st V (put_ S.C 11 ((S.C 11).set kn (Value.int .i64 ((e.at_ : Int) + 1)))) S.n ob (Value.int .i64 6 :: .int .i64 (kn : Int) :: .int .i64 width :: .int .i64 bound :: [Value.int .i64 z0, .int .i64 z1, .int .i64 z2, .int .i64 z3, .int .i64 z4]).toArray tb 45 #[.int .i64 y0, .int .i64 y1, .int .i64 y2, .int .i64 y3, .int .i64 y4] _ := ⟨h4.st, hob4, hx4⟩
      obtain ⟨g11b, c11b, v11b, hc11b⟩ := F4.elem (i := 11) (by omega) (by omega) rfl (kn := kn) (u := .int .i64 ((e.at_ : Int) + 1)) hkl (by simp [put_, PS.C, hkl])
      have hn11b : S.n 11 = S.rs.length := rfl
      rw [hn11b] at hc11b
      have HC11b := Lib.hid hc11b
      clear h4 hb4 hob4 hx4 H3d HB3d FF3d hc11b hn11b v11b b0 b1 b2 b3 b4 H3 HB3 FF3 HTP
      go_wp2_with fail
      rw [show (w3.setCell ⟨g11, kn, none⟩ (.int .i64 ((e.at_ : Int) + 1))).drew = w3.drew.setCell ⟨g11, kn, none⟩ (.int .i64 ((e.at_ : Int) + 1)) from rfl]
      generalize (w3.drew.setCell ⟨g11, kn, none⟩ (.int .i64 ((e.at_ : Int) + 1))) = w4 at *
      clear u11 p11 z11 u12 p12
      obtain ⟨u11, p11, -⟩ := HC11b.out _ F4
      rcases HT4.out with h0 | ⟨tg, toff, rfl, -, -, hcell⟩
      · rw [h0] at hlt; simp at hlt
      have t0 := hcell e.at_ hlt 0 (by omega)
      have t1 := hcell e.at_ hlt 1 (by omega)
      have t2' := hcell e.at_ hlt 2 (by omega)
      have t3 := hcell e.at_ hlt 3 (by omega)
      have t4 := hcell e.at_ hlt 4 (by omega)
      rw [HL2.out, HYY.out] at t0 t1 t2' t3 t4
      have t0 : w4.cell? ⟨tg, toff + e.at_ * 5, none⟩ = some (.int .i64 y0) := t0
      have t1 : w4.cell? ⟨tg, toff + e.at_ * 5 + 1, none⟩ = some (.int .i64 y1) := t1
      have t2' : w4.cell? ⟨tg, toff + e.at_ * 5 + 2, none⟩ = some (.int .i64 y2) := t2'
      have t3 : w4.cell? ⟨tg, toff + e.at_ * 5 + 3, none⟩ = some (.int .i64 y3) := t3
      have t4 : w4.cell? ⟨tg, toff + e.at_ * 5 + 4, none⟩ = some (.int .i64 y4) := t4
      have b0 : w4.cell? ⟨tb, 0, none⟩ = some (.int .i64 y0) := F4.2.2.cell 0
      have b1 : w4.cell? ⟨tb, 1, none⟩ = some (.int .i64 y1) := F4.2.2.cell 1
      have b2 : w4.cell? ⟨tb, 2, none⟩ = some (.int .i64 y2) := F4.2.2.cell 2
      have b3 : w4.cell? ⟨tb, 3, none⟩ = some (.int .i64 y3) := F4.2.2.cell 3
      have b4 : w4.cell? ⟨tb, 4, none⟩ = some (.int .i64 y4) := F4.2.2.cell 4
      have hd4 : Below w4.heap.size w4 w4.drew := (Below.refl _ _).drew
      have CT : Hid (∀ w', Below w4.heap.size w4 w' → (w'.cell? ⟨tg, toff + e.at_ * 5, none⟩ = some (.int .i64 y0) ∧ w'.cell? ⟨tg, toff + e.at_ * 5 + 1, none⟩ = some (.int .i64 y1) ∧ w'.cell? ⟨tg, toff + e.at_ * 5 + 2, none⟩ = some (.int .i64 y2) ∧ w'.cell? ⟨tg, toff + e.at_ * 5 + 3, none⟩ = some (.int .i64 y3) ∧ w'.cell? ⟨tg, toff + e.at_ * 5 + 4, none⟩ = some (.int .i64 y4)) ∧ (w'.cell? ⟨tb, 0, none⟩ = some (.int .i64 y0) ∧ w'.cell? ⟨tb, 1, none⟩ = some (.int .i64 y1) ∧ w'.cell? ⟨tb, 2, none⟩ = some (.int .i64 y2) ∧ w'.cell? ⟨tb, 3, none⟩ = some (.int .i64 y3) ∧ w'.cell? ⟨tb, 4, none⟩ = some (.int .i64 y4))) := Lib.hid (fun w' hF => ⟨⟨(hF.cell (cell_lt t0).1).trans t0, (hF.cell (cell_lt t1).1).trans t1, (hF.cell (cell_lt t2').1).trans t2', (hF.cell (cell_lt t3).1).trans t3, (hF.cell (cell_lt t4).1).trans t4⟩, (hF.cell (cell_lt b0).1).trans b0, (hF.cell (cell_lt b1).1).trans b1, (hF.cell (cell_lt b2).1).trans b2, (hF.cell (cell_lt b3).1).trans b3, (hF.cell (cell_lt b4).1).trans b4⟩)
      have hl0 : (0 : Int) ≤ (e.at_ : Int) := by omega
      have hl1 : (e.at_ : Int) < (f.l.length : Int) := by omega
      clear t0 t1 t2' t3 t4 b0 b1 b2 b3 b4 hcell
      refine mx_begin (fun w' => Below w4.heap.size w4 w') [(true, 0), (true, 1), (true, 2), (true, 3), (true, 4), (true, 5), (true, 6), (true, 7), (true, 8), (true, 9), (true, 10), (true, 11), (true, 12), (true, 13), (true, 14), (true, 15), (true, 16), (true, 17), (true, 18), (true, 19), (false, 20)] (by kernel_rfl) (by kernel_rfl) (fun _ _ d _ _ h => by cases d <;> exact h) hd4 ?_
      refine mx_read _ (.int .i64 0) rfl (by kernel_rfl) (fun w' hF => by simp [execOp, Act.eval, go_sem]) ?_
      refine mx_read _ (.bool true) rfl (by kernel_rfl) (fun w' hF => by simp [execOp, Act.eval, go_sem]) ?_
      refine mx_read _ (.bool true) rfl (by kernel_rfl) (fun w' hF => by simp [execOp, Act.eval, go_sem]) ?_
      refine mx_read _ (.bool true) rfl (by kernel_rfl) (fun w' hF => by simp [execOp, Act.eval, go_sem]) ?_
      refine mx_read _ (.bool true) rfl (by kernel_rfl) (fun w' hF => by simp [execOp, Act.eval, go_sem]) ?_
      refine mx_read _ (.bool true) rfl (by kernel_rfl) (fun w' hF => by simp [execOp, Act.eval, go_sem]) ?_
      refine mx_read _ (.agg #[.int .i64 y0, .int .i64 y1, .int .i64 y2, .int .i64 y3, .int .i64 y4]) rfl (by kernel_rfl) (fun w' hF => by obtain ⟨⟨t0, t1, t2, t3, t4⟩, b0, b1, b2, b3, b4⟩ := CT.out _ hF; simp [execOp, Act.eval, go_sem, b0, b1, b2, b3, b4]) ?_
      refine mx_read _ (.slice (some ⟨tg, toff, none⟩) f.l.length hc) rfl (by kernel_rfl) (fun w' hF => by simp [execOp, Act.eval, go_sem]) ?_
      refine mx_read _ (P st) rfl (by kernel_rfl) (fun w' hF => by simp [execOp, Act.eval, go_sem]) ?_
      refine mx_read _ (P st) rfl (by kernel_rfl) (fun w' hF => by simp [execOp, Act.eval, go_sem]) ?_
      refine mx_read _ (.pointer (some ⟨st, 11, none⟩)) rfl (by kernel_rfl) (fun w' hF => by simp [execOp, Act.eval, go_sem]) ?_
      refine mx_read _ (.slice (some ⟨g11b, 0, none⟩) S.rs.length c11b) rfl (by kernel_rfl) (fun w' hF => by have u' := (hF.cell (cell_lt u11).1).trans u11; simp [execOp, Act.eval, go_sem, u']) ?_
      refine mx_read _ (.int .i64 (kn : Int)) rfl (by kernel_rfl) (fun w' hF => by simp [execOp, Act.eval, go_sem]) ?_
      refine mx_read _ (.pointer (some ⟨g11b, kn, none⟩)) rfl (by kernel_rfl) (fun w' hF => by simp [execOp, Act.eval, go_sem, hk00, hkl']) ?_
      refine mx_read _ (.int .i64 ((e.at_ : Int) + 1)) rfl (by kernel_rfl) (fun w' hF => by have u' := (hF.cell (cell_lt p11).1).trans p11; simp [execOp, Act.eval, go_sem, u']) ?_
      refine mx_read _ (.int .i64 (e.at_ : Int)) rfl (by kernel_rfl) (fun w' hF => by simp [execOp, Act.eval, go_sem, hwr2]) ?_
      refine mx_read _ (.pointer (some ⟨tg, toff + e.at_ * 5, none⟩)) rfl (by kernel_rfl) (fun w' hF => by simp [execOp, Act.eval, go_sem, hl0, hl1]) ?_
      refine mx_read _ (.agg #[.int .i64 y0, .int .i64 y1, .int .i64 y2, .int .i64 y3, .int .i64 y4]) rfl (by kernel_rfl) (fun w' hF => by obtain ⟨⟨t0, t1, t2, t3, t4⟩, b0, b1, b2, b3, b4⟩ := CT.out _ hF; simp [execOp, Act.eval, go_sem, t0, t1, t2, t3, t4]) ?_
      refine mx_read _ (.bool true) rfl (by kernel_rfl) (fun w' hF => by simp [execOp, Act.eval, go_sem]) ?_
      refine mx_read _ (.bool true) rfl (by kernel_rfl) (fun w' hF => by simp [execOp, Act.eval, go_sem]) ?_
      refine mx_one _ rfl (by kernel_rfl) (fun K8 hK8 => ?_)
      go_simp
      refine hK8.out _ _ (fun h => absurd rfl h) ?_
      clear hK8 K8
      refine mx_end ?_
      go_wp2_with fail
      go_ret
      have H4d := H4.out.below hd4
      have hcast : ((e.at_ : Int) + 1) = ((e.at_ + 1 : Nat) : Int) := by omega
      rw [hcast] at H4d
      exact ⟨rfl, HB4.out.trans (hd4.mono H4.out.pi.base_le), _, _, _, _, _, _, _, H4d.cast (fun i h1 h2 => at_rows HKE.out i h1 h2), hsz2, by omega, by simp [PS.setR], by simp [PS.setR], by simp [PS.setR]⟩
    · unfold zero5
      have hb3 : Below w1.drew.heap.size w1.drew (w2.alloc (.cells #[.int .i64 0, .int .i64 0, .int .i64 0, .int .i64 0, .int .i64 0] 45)) := hb2.alloc hb2.size _
      have H3 := Lib.hid (H1d.out.below hb3)
      have HB3 := Lib.hid (HB1d.out.trans (hb3.mono H1d.out.pi.base_le))
      have FF3 := FF1d.below hb3
      have hB := Blk.new w2 45 #[.int .i64 0, .int .i64 0, .int .i64 0, .int .i64 0, .int .i64 0]
      obtain ⟨k9, e9, hk9, ho9, hpv9, hps9⟩ := HSRC.out
      obtain ⟨ha, hc, hhv, HTP, -, -⟩ := tps_own (K := K) (H3.out.tr.own k9 e9 hk9).1 (by rw [hps9]; exact HF5.out)
      rw [hpv9, hps9] at hhv
      obtain ⟨u7, p7, -⟩ := HC7.out _ FF3
      obtain ⟨u10, p10, -⟩ := HC10.out _ FF3
      obtain ⟨u11, p11, z11⟩ := HC11.out _ FF3
      obtain ⟨u12, p12, -⟩ := HC12.out _ FF3
      rw [hhv] at p7
      have b0 := hB.cell 0
      have b1 := hB.cell 1
      have b2 := hB.cell 2
      have b3 := hB.cell 3
      have b4 := hB.cell 4
      have hd3 : Below (w2.alloc (.cells #[.int .i64 0, .int .i64 0, .int .i64 0, .int .i64 0, .int .i64 0] 45)).heap.size (w2.alloc (.cells #[.int .i64 0, .int .i64 0, .int .i64 0, .int .i64 0, .int .i64 0] 45)) (w2.alloc (.cells #[.int .i64 0, .int .i64 0, .int .i64 0, .int .i64 0, .int .i64 0] 45)).drew := (Below.refl _ _).drew
      clear hpv9 hk9 ho9 hhv u9 p9 hB
      go_wp2_with fail
      generalize w2.heap.size = tb at *
      generalize (w2.alloc (.cells #[.int .i64 0, .int .i64 0, .int .i64 0, .int .i64 0, .int .i64 0] 45)) = w3 at *
      refine mx_begin (fun w' => Below w3.heap.size w3 w') [(true, 0), (true, 1), (true, 2), (true, 3), (true, 4), (true, 5), (true, 6), (true, 7), (true, 8), (true, 9), (true, 10), (true, 11), (true, 12), (false, 13)] (by kernel_rfl) (by kernel_rfl) (fun _ _ d _ _ h => by cases d <;> exact h) hd3 ?_
      refine mx_read _ (P st) rfl (by kernel_rfl) (fun w' hF => by simp [execOp, Act.eval, go_sem]) ?_
      refine mx_read _ (P st) rfl (by kernel_rfl) (fun w' hF => by simp [execOp, Act.eval, go_sem]) ?_
      refine mx_read _ (.pointer (some ⟨st, 7, none⟩)) rfl (by kernel_rfl) (fun w' hF => by simp [execOp, Act.eval, go_sem]) ?_
      refine mx_read _ (.slice (some ⟨g7, 0, none⟩) S.fs.length c7) rfl (by kernel_rfl) (fun w' hF => by have u' := (hF.cell (cell_lt u7).1).trans u7; simp [execOp, Act.eval, go_sem, u']) ?_
      refine mx_read _ (P st) rfl (by kernel_rfl) (fun w' hF => by simp [execOp, Act.eval, go_sem]) ?_
      refine mx_read _ (P st) rfl (by kernel_rfl) (fun w' hF => by simp [execOp, Act.eval, go_sem]) ?_
      refine mx_read _ (.pointer (some ⟨st, 10, none⟩)) rfl (by kernel_rfl) (fun w' hF => by simp [execOp, Act.eval, go_sem]) ?_
      refine mx_read _ (.slice (some ⟨g10, 0, none⟩) S.rs.length c10) rfl (by kernel_rfl) (fun w' hF => by have u' := (hF.cell (cell_lt u10).1).trans u10; simp [execOp, Act.eval, go_sem, u']) ?_
      refine mx_read _ (.int .i64 (kn : Int)) rfl (by kernel_rfl) (fun w' hF => by simp [execOp, Act.eval, go_sem]) ?_
      refine mx_read _ (.pointer (some ⟨g10, kn, none⟩)) rfl (by kernel_rfl) (fun w' hF => by simp [execOp, Act.eval, go_sem, hk00, hkl']) ?_
      refine mx_read _ (.int .i64 (e.file : Int)) rfl (by kernel_rfl) (fun w' hF => by have u' := (hF.cell (cell_lt p10).1).trans p10; simp [execOp, Act.eval, go_sem, u']) ?_
      refine mx_read _ (.pointer (some ⟨g7, e.file, none⟩)) rfl (by kernel_rfl) (fun w' hF => by simp [execOp, Act.eval, go_sem, hj0, hjl']) ?_
      refine mx_read _ (.slice ha f.l.length hc) rfl (by kernel_rfl) (fun w' hF => by have u' := (hF.cell (cell_lt p7).1).trans p7; simp [execOp, Act.eval, go_sem, u']) ?_
      refine mx_one _ rfl (by kernel_rfl) (fun K8 hK8 => ?_)
      go_simp
      refine hK8.out _ _ (fun h => absurd rfl h) ?_
      clear hK8 K8
      refine mx_end ?_
      have H3d := Lib.hid (H3.out.below hd3)
      have HB3d := Lib.hid (HB3.out.trans (hd3.mono H3.out.pi.base_le))
      have FF3d := FF3.below hd3
      clear u7 p7 u10 p10
      rcases her with ⟨rfl, hrd⟩ | ⟨rfl, hrd, hae⟩
      · rw [hrd] at p12
        go_wp2_with fail
        go_ret
        exact ⟨rfl, HB3d.out, _, _, _, _, _, _, _, H3d.out, rfl, by omega, by omega, by omega, by omega⟩
      · rw [hrd] at p12
        have hae' : (e.at_ : Int) = (f.l.length : Int) := by omega
        clear hae
        go_wp2_with fail
        go_ret
        exact ⟨rfl, HB3d.out, _, _, _, _, _, _, _, H3d.out, rfl, by omega, by omega, by omega, by omega⟩

end Go.Proofs.Ytmmkncocgjgapaa.Fp
