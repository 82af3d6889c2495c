/- FilePlays: the walk of a Drop, and of an Op that is none of a writer. -/
import Derived.Test.YtmmkncocgjgapaaZFpClose
import Derived.Test.YtmmkncocgjgapaaZFpW1
import Derived.Deep.CutBlock
import Derived.Test.YtmmkncocgjgapaaZReg4
set_option linter.unusedVariables false
namespace Go.Proofs.Ytmmkncocgjgapaa.Fp
open Go.RowKit Fl

set_option maxRecDepth 100000 in
set_option maxHeartbeats 8000000 in
theorem write4 {w : World} {O : Nat → Prop} {K : Key} {W : Wk} {S : PS} {mo dw : Ow} {tw : Nat → Option Nat} {st : Nat} {V : Nat → Value} (h : Full w O K W S mo dw tw st V S.C S.n) (k width bound : Int) (t : Tup) (ht : t.length = 5) (hs : S.ws.length ≤ 100 ∧ S.fs.length ≤ 100 ∧ S.rs.length ≤ 100) (hac : W.D.acts ≤ 1000000) (size : Nat) (hz : size = W.D.size) :
    Calls Try.prog 20 #[P st, opv 4 k width bound t, .int .i64 (size : Int)] w (ActTold w K W S st) := by
  subst hz
  obtain ⟨z0, z1, z2, z3, z4, hzz⟩ := icells5 ht
  obtain ⟨hs1, hs2, hs3⟩ := hs
  have hbo : Below w.heap.size w (w.alloc (.cells (opc 4 k width bound t) 63)) := (Below.refl _ _).alloc (Nat.le_refl _) _
  have hob := Blk.new w 63 (opc 4 k width bound t)
  have H1 := Lib.hid (h.below hbo)
  have HBASE := h.pi.base_le
  have HB1 := Lib.hid (hbo.mono HBASE)
  have HOB := Lib.hid hob
  obtain ⟨a1, cc1, hv1⟩ := h.st.slice (i := 1) (by omega) (by omega)
  have hn1 : S.n 1 = S.ws.length := rfl
  rw [hn1] at hv1
  clear h hbo hob
  unfold opv opc at *
  have HZZ := Lib.hid hzz
  rw [hzz] at H1 HB1 HOB ⊢
  clear hzz
  have e1 : (w.alloc (.cells (Value.int .i64 4 :: .int .i64 k :: .int .i64 width :: .int .i64 bound :: [Value.int .i64 z0, .int .i64 z1, .int .i64 z2, .int .i64 z3, .int .i64 z4]).toArray 63)).cell? ⟨w.heap.size, 1, none⟩ = some (.int .i64 k) := HOB.out.cell 1
  have e0 : (w.alloc (.cells (Value.int .i64 4 :: .int .i64 k :: .int .i64 width :: .int .i64 bound :: [Value.int .i64 z0, .int .i64 z1, .int .i64 z2, .int .i64 z3, .int .i64 z4]).toArray 63)).cell? ⟨w.heap.size, 0, none⟩ = some (.int .i64 4) := HOB.out.cell 0
  have s1 : (w.alloc (.cells (Value.int .i64 4 :: .int .i64 k :: .int .i64 width :: .int .i64 bound :: [Value.int .i64 z0, .int .i64 z1, .int .i64 z2, .int .i64 z3, .int .i64 z4]).toArray 63)).cell? ⟨st, 1, none⟩ = some (.slice a1 S.ws.length cc1) := by rw [← hv1]; exact H1.out.st.blk.cell 1
  by_cases hk0 : k < 0
  · go_enter Try.func20, Try.ntmps20
    go_wp2_with fail
    go_ret
    exact ⟨rfl, HB1.out, _, _, _, _, _, _, _, H1.out, rfl, by omega, by omega, by omega, by omega⟩
  by_cases hkn : (S.ws.length : Int) ≤ k
  · go_enter Try.func20, Try.ntmps20
    go_wp2_with fail
    go_ret
    exact ⟨rfl, HB1.out, _, _, _, _, _, _, _, H1.out, rfl, by omega, by omega, by omega, by omega⟩
  obtain ⟨kn, rfl⟩ := Int.eq_ofNat_of_zero_le (show 0 ≤ k by omega)
  have hkl : kn < S.ws.length := by omega
  obtain ⟨e, hke⟩ : ∃ e, S.ws[kn]? = some e := ⟨_, List.getElem?_eq_getElem hkl⟩
  have FF1 : Fx K st V S.C S.n w.heap.size (Value.int .i64 4 :: .int .i64 (kn : Int) :: .int .i64 width :: .int .i64 bound :: [Value.int .i64 z0, .int .i64 z1, .int .i64 z2, .int .i64 z3, .int .i64 z4]).toArray w.heap.size 63 (Value.int .i64 4 :: .int .i64 (kn : Int) :: .int .i64 width :: .int .i64 bound :: [Value.int .i64 z0, .int .i64 z1, .int .i64 z2, .int .i64 z3, .int .i64 z4]).toArray (w.alloc (.cells (Value.int .i64 4 :: .int .i64 (kn : Int) :: .int .i64 width :: .int .i64 bound :: [Value.int .i64 z0, .int .i64 z1, .int .i64 z2, .int .i64 z3, .int .i64 z4]).toArray 63)) := ⟨H1.out.st, HOB.out, HOB.out⟩
  obtain ⟨g1, c1, v1, hc1⟩ := FF1.elem (i := 1) (by omega) (by omega) rfl (kn := kn) (u := P e.x) hkl (by simp [PS.C, hke])
  obtain ⟨u1, p1, -⟩ := hc1 _ FF1
  have hn1 : S.n 1 = S.ws.length := rfl
  rw [hn1] at u1
  rw [s1] at u1
  injection u1 with u1
  injection u1 with u1 u1' u1''
  subst u1
  have hk00 : (0 : Int) ≤ (kn : Int) := by omega
  have hkl' : (kn : Int) < (S.ws.length : Int) := by omega
  have HKE := Lib.hid hke
  have HCL := Lib.hid (drop_c H1.out.pi hke)
  clear hke hc1 FF1 u1' u1'' hv1
  go_enter Try.func20, Try.ntmps20
  go_wp2_with fail
  refine HCL.out.mono ?_
  rintro ev w2 ⟨rfl, W2, dw2, E, hp2, ht2, hE2, hEb2, hD2⟩
  have H2 := Lib.hid (H1.out.turn ht2 hE2 hp2 (fun q e' hq => .inl (by
      rcases get_set hq with ⟨rfl, rfl, -⟩ | ⟨-, hq2⟩
      · exact ⟨e, HKE.out, rfl, rfl⟩
      · exact ⟨e', hq2, rfl, rfl⟩)))
  have HB2 := Lib.hid (HB1.out.trans (low_ H1.out.pi.wk H1.out.pi.base_le ht2 hEb2))
  have hob2 := blk_mine H1.out.pi.wk ht2 hE2 HOB.out (by unfold Mine; simp)
  have F2 : Fx K st V S.C S.n w.heap.size (Value.int .i64 4 :: .int .i64 (kn : Int) :: .int .i64 width :: .int .i64 bound :: [Value.int .i64 z0, .int .i64 z1, .int .i64 z2, .int .i64 z3, .int .i64 z4]).toArray w.heap.size 63 (Value.int .i64 4 :: .int .i64 (kn : Int) :: .int .i64 width :: .int .i64 bound :: [Value.int .i64 z0, .int .i64 z1, .int .i64 z2, .int .i64 z3, .int .i64 z4]).toArray w2 := ⟨H2.out.st, hob2, hob2⟩
  obtain ⟨ub, hub⟩ : ∃ ub, (S.C 5)[kn]? = some (.bool ub) := ⟨e.op, by simp [PS.C, HKE.out]⟩
  obtain ⟨g5, c5, v5, hc5⟩ := F2.elem (i := 5) (by omega) (by omega) rfl (kn := kn) (u := .bool ub) hkl hub
  obtain ⟨u5, p5, z5⟩ := hc5 _ F2
  have hn5 : S.n 5 = S.ws.length := rfl
  rw [hn5] at u5
  obtain ⟨h4, hb4, -, -⟩ := H2.out.store2 (i := 5) (by omega) (by omega) rfl (k := kn) hkl (.bool false) v5 F2.2.1 F2.2.2 (op_ety 5)
  have H4 := Lib.hid h4
  have HB4 := Lib.hid (HB2.out.trans hb4)
  clear hc5 hb4 h4 hob2 F2 H2 HB2 hp2 ht2 hE2 hEb2 v5 H1 HB1 HOB HCL hub
  go_wp2_with fail
  go_ret
  exact ⟨rfl, HB4.out, _, _, _, _, _, _, _, H4.out.cast (fun i h1 h2 => op_rows HKE.out i h1 h2), by rw [hD2], by rw [hD2]; omega, by simp [PS.setW], by simp [PS.setW], by simp [PS.setW]⟩

set_option maxRecDepth 100000 in
set_option maxHeartbeats 8000000 in
theorem write0 {w : World} {O : Nat → Prop} {K : Key} {W : Wk} {S : PS} {mo dw : Ow} {tw : Nat → Option Nat} {st : Nat} {V : Nat → Value} (h : Full w O K W S mo dw tw st V S.C S.n) (kd : Int) (hkd : kd ≠ 1 ∧ kd ≠ 2 ∧ kd ≠ 3 ∧ kd ≠ 4) (k width bound : Int) (t : Tup) (ht : t.length = 5) (hs : S.ws.length ≤ 100 ∧ S.fs.length ≤ 100 ∧ S.rs.length ≤ 100) (hac : W.D.acts ≤ 1000000) (size : Nat) (hz : size = W.D.size) :
    Calls Try.prog 20 #[P st, opv kd k width bound t, .int .i64 (size : Int)] w (ActTold w K W S st) := by
  subst hz
  obtain ⟨z0, z1, z2, z3, z4, hzz⟩ := icells5 ht
  obtain ⟨hs1, hs2, hs3⟩ := hs
  have hbo : Below w.heap.size w (w.alloc (.cells (opc kd k width bound t) 63)) := (Below.refl _ _).alloc (Nat.le_refl _) _
  have hob := Blk.new w 63 (opc kd k width bound t)
  have H1 := Lib.hid (h.below hbo)
  have HBASE := h.pi.base_le
  have HB1 := Lib.hid (hbo.mono HBASE)
  have HOB := Lib.hid hob
  clear h hbo hob
  unfold opv opc at *
  have HZZ := Lib.hid hzz
  rw [hzz] at H1 HB1 HOB ⊢
  clear hzz
  have e1 : (w.alloc (.cells (Value.int .i64 kd :: .int .i64 k :: .int .i64 width :: .int .i64 bound :: [Value.int .i64 z0, .int .i64 z1, .int .i64 z2, .int .i64 z3, .int .i64 z4]).toArray 63)).cell? ⟨w.heap.size, 1, none⟩ = some (.int .i64 k) := HOB.out.cell 1
  have e0 : (w.alloc (.cells (Value.int .i64 kd :: .int .i64 k :: .int .i64 width :: .int .i64 bound :: [Value.int .i64 z0, .int .i64 z1, .int .i64 z2, .int .i64 z3, .int .i64 z4]).toArray 63)).cell? ⟨w.heap.size, 0, none⟩ = some (.int .i64 kd) := HOB.out.cell 0
  obtain ⟨k1, k2, k3, k4⟩ := hkd
  go_enter Try.func20, Try.ntmps20
  go_wp2_with fail
  go_ret
  exact ⟨rfl, HB1.out, _, _, _, _, _, _, _, H1.out, rfl, by omega, by omega, by omega, by omega⟩

end Go.Proofs.Ytmmkncocgjgapaa.Fp
