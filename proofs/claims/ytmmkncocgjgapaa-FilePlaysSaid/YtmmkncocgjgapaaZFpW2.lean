/- FilePlays: the walk of a tuple put. -/
import Derived.Test.YtmmkncocgjgapaaZFpRow
import Derived.Test.YtmmkncocgjgapaaZFpW1
import Derived.Deep.CutBlock
import Derived.Test.YtmmkncocgjgapaaZReg4
set_option linter.unusedVariables false
namespace Go.Proofs.Ytmmkncocgjgapaa.Fp
open Go.RowKit Fl

/-- What the regions of an Op's walk read. -/
def Fq (K : Key) (st : Nat) (V : Nat → Value) (S : PS) (ob : Nat) (oc : Array Value) (w : World) : Prop := St w K.base st K.wk V S.C S.n ∧ Blk w ob 63 oc
theorem Fq.below {K : Key} {st : Nat} {V : Nat → Value} {S : PS} {ob : Nat} {oc : Array Value} {w w' : World} (h : Fq K st V S ob oc w) (hb : Below w.heap.size w w') : Fq K st V S ob oc w' := ⟨h.1.below hb, h.2.below hb h.2.lt⟩
theorem Fq.grown {K : Key} {st : Nat} {V : Nat → Value} {S : PS} {ob : Nat} {oc : Array Value} {w w' : World} (h : Fq K st V S ob oc w) {base m : Nat} {v : Value} {xs : List Value} (ho : w.ownsRow base 45 5 v m xs) (hg : w.grownBy w' v.ownBlock) : Fq K st V S ob oc w' :=
  ⟨h.1.chg (Chg.of_grown hg) (fun e0 => by
      obtain ⟨_, cs, hb⟩ := own_blk ho e0.symm
      exact hb.ne_ h.1.blk (by decide) rfl) (fun i q h1 h2 hq e0 => by
      obtain ⟨_, cs, hb⟩ := own_blk ho e0.symm
      obtain ⟨_, cs', hb'⟩ := own_blk (h.1.own i h1 h2) hq
      exact hb.ne_ hb' (tuple_ety i) rfl), h.2.chg (Chg.of_grown hg) (fun e0 => by
      obtain ⟨_, cs, hb⟩ := own_blk ho e0.symm
      exact hb.ne_ h.2 (by decide) rfl)⟩
theorem St.frozen {w : World} {B st wk : Nat} {V : Nat → Value} {C : Nat → List Value} {n : Nat → Nat} (h : St w B st wk V C n) {i : Nat} (h1 : 1 ≤ i) (h2 : i ≤ 12) {g m c : Nat} (hv : V i = .slice (some ⟨g, 0, none⟩) m c) (k : Nat) : w.frozen? ⟨g, k, none⟩ = false := by
  obtain ⟨_, cs, hb⟩ := own_blk (h.own i h1 h2) (g := g) (by rw [hv]; rfl)
  exact hb.frozen k
/-- The cells of an open or closed writer's. -/
theorem Fq.writer {K : Key} {st : Nat} {V : Nat → Value} {S : PS} {ob : Nat} {oc : Array Value} {w : World} (h : Fq K st V S ob oc w) {kn : Nat} {e : WE} (hk : S.ws[kn]? = some e) :
    ∃ g1 c1 g2 c2 g3 c3 g4 c4 g5 c5, V 1 = .slice (some ⟨g1, 0, none⟩) S.ws.length c1 ∧ V 2 = .slice (some ⟨g2, 0, none⟩) S.ws.length c2 ∧ V 3 = .slice (some ⟨g3, 0, none⟩) S.ws.length c3 ∧ V 4 = .slice (some ⟨g4, 0, none⟩) S.ws.length c4 ∧ V 5 = .slice (some ⟨g5, 0, none⟩) S.ws.length c5 ∧
      ∀ w', Fq K st V S ob oc w' → (w'.cell? ⟨st, 1, none⟩ = some (.slice (some ⟨g1, 0, none⟩) S.ws.length c1) ∧ w'.cell? ⟨st, 2, none⟩ = some (.slice (some ⟨g2, 0, none⟩) S.ws.length c2) ∧ w'.cell? ⟨st, 3, none⟩ = some (.slice (some ⟨g3, 0, none⟩) S.ws.length c3) ∧ w'.cell? ⟨st, 4, none⟩ = some (.slice (some ⟨g4, 0, none⟩) S.ws.length c4) ∧ w'.cell? ⟨st, 5, none⟩ = some (.slice (some ⟨g5, 0, none⟩) S.ws.length c5)) ∧
        (w'.cell? ⟨g1, kn, none⟩ = some (P e.x) ∧ w'.cell? ⟨g2, kn, none⟩ = some e.pv ∧ w'.cell? ⟨g3, kn, none⟩ = some (.int .i64 (e.X.width : Int)) ∧ w'.cell? ⟨g4, kn, none⟩ = some (.int .i64 (e.X.bound : Int)) ∧ w'.cell? ⟨g5, kn, none⟩ = some (.bool e.op)) := by
  obtain ⟨hl, -⟩ := List.getElem?_eq_some_iff.1 hk
  obtain ⟨g1, c1, v1, -⟩ := h.1.form (i := 1) (by omega) (by omega) (by show 0 < S.ws.length; omega)
  obtain ⟨g2, c2, v2, -⟩ := h.1.form (i := 2) (by omega) (by omega) (by show 0 < S.ws.length; omega)
  obtain ⟨g3, c3, v3, -⟩ := h.1.form (i := 3) (by omega) (by omega) (by show 0 < S.ws.length; omega)
  obtain ⟨g4, c4, v4, -⟩ := h.1.form (i := 4) (by omega) (by omega) (by show 0 < S.ws.length; omega)
  obtain ⟨g5, c5, v5, -⟩ := h.1.form (i := 5) (by omega) (by omega) (by show 0 < S.ws.length; omega)
  refine ⟨g1, c1, g2, c2, g3, c3, g4, c4, g5, c5, v1, v2, v3, v4, v5, fun w' hF => ⟨⟨?_, ?_, ?_, ?_, ?_⟩, ?_, ?_, ?_, ?_, ?_⟩⟩
  · exact (hF.1.blk.cell 1).trans (congrArg some v1)
  · exact (hF.1.blk.cell 2).trans (congrArg some v2)
  · exact (hF.1.blk.cell 3).trans (congrArg some v3)
  · exact (hF.1.blk.cell 4).trans (congrArg some v4)
  · exact (hF.1.blk.cell 5).trans (congrArg some v5)
  · refine (hF.1.at_ (i := 1) (by omega) (by omega) v1 (k := kn) (by show kn < S.ws.length * 1; omega)).trans ?_
    simp [PS.C, hk]
  · refine (hF.1.at_ (i := 2) (by omega) (by omega) v2 (k := kn) (by show kn < S.ws.length * 1; omega)).trans ?_
    simp [PS.C, hk]
  · refine (hF.1.at_ (i := 3) (by omega) (by omega) v3 (k := kn) (by show kn < S.ws.length * 1; omega)).trans ?_
    simp [PS.C, hk]
  · refine (hF.1.at_ (i := 4) (by omega) (by omega) v4 (k := kn) (by show kn < S.ws.length * 1; omega)).trans ?_
    simp [PS.C, hk]
  · refine (hF.1.at_ (i := 5) (by omega) (by omega) v5 (k := kn) (by show kn < S.ws.length * 1; omega)).trans ?_
    simp [PS.C, hk]

set_option maxRecDepth 100000 in
set_option maxHeartbeats 4000000 in
theorem write2 {w : World} {O : Nat → Prop} {K : Key} {W : Wk} {S : PS} {mo dw : Ow} {tw : Nat → Option Nat} {st : Nat} {V : Nat → Value} (h : Full w O K W S mo dw tw st V S.C S.n) (k width bound : Int) (t : Tup) (ht : t.length = 5) (hs : S.ws.length ≤ 100) (hac : W.D.acts ≤ 1000000) (size : Nat) (hz : size = W.D.size) :
    Calls Try.prog 20 #[P st, opv 2 k width bound t, .int .i64 (size : Int)] w (ActTold w K W S st) := by
  subst hz
  obtain ⟨z0, z1, z2, z3, z4, hzz⟩ := icells5 ht
  have hbo : Below w.heap.size w (w.alloc (.cells (opc 2 k width bound t) 63)) := (Below.refl _ _).alloc (Nat.le_refl _) _
  have hob := Blk.new w 63 (opc 2 k width bound t)
  have H1 := Lib.hid (h.below hbo)
  have HBASE := h.pi.base_le
  have HB1 := Lib.hid (hbo.mono HBASE)
  have HOB := Lib.hid hob
  obtain ⟨a1, cc1, hv1⟩ := h.st.slice (i := 1) (by omega) (by omega)
  have hn1 : S.n 1 = S.ws.length := rfl
  rw [hn1] at hv1
  clear h hbo hob
  unfold opv opc at *
  have HZZ := Lib.hid hzz
  rw [hzz] at H1 HB1 HOB ⊢
  clear hzz
  have e1 : (w.alloc (.cells (Value.int .i64 2 :: .int .i64 k :: .int .i64 width :: .int .i64 bound :: [.int .i64 z0, .int .i64 z1, .int .i64 z2, .int .i64 z3, .int .i64 z4]).toArray 63)).cell? ⟨w.heap.size, 1, none⟩ = some (.int .i64 k) := HOB.out.cell 1
  have e0 : (w.alloc (.cells (Value.int .i64 2 :: .int .i64 k :: .int .i64 width :: .int .i64 bound :: [.int .i64 z0, .int .i64 z1, .int .i64 z2, .int .i64 z3, .int .i64 z4]).toArray 63)).cell? ⟨w.heap.size, 0, none⟩ = some (.int .i64 2) := HOB.out.cell 0
  have e2 : (w.alloc (.cells (Value.int .i64 2 :: .int .i64 k :: .int .i64 width :: .int .i64 bound :: [.int .i64 z0, .int .i64 z1, .int .i64 z2, .int .i64 z3, .int .i64 z4]).toArray 63)).cell? ⟨st, 1, none⟩ = some (.slice a1 S.ws.length cc1) := by rw [← hv1]; exact H1.out.st.blk.cell 1
  by_cases hk0 : k < 0
  · go_enter Try.func20, Try.ntmps20
    go_wp2_with fail
    go_ret
    exact ⟨rfl, HB1.out, _, _, _, _, _, _, _, H1.out, rfl, by omega, by omega, by omega, by omega⟩
  by_cases hkn : (S.ws.length : Int) ≤ k
  · go_enter Try.func20, Try.ntmps20
    go_wp2_with fail
    go_ret
    exact ⟨rfl, HB1.out, _, _, _, _, _, _, _, H1.out, rfl, by omega, by omega, by omega, by omega⟩
  obtain ⟨kn, rfl⟩ := Int.eq_ofNat_of_zero_le (show 0 ≤ k by omega)
  have hkl : kn < S.ws.length := by omega
  go_enter Try.func20, Try.ntmps20
  go_wp2_with fail
  generalize w.alloc (.cells (Value.int .i64 2 :: .int .i64 (kn : Int) :: .int .i64 width :: .int .i64 bound :: [Value.int .i64 z0, .int .i64 z1, .int .i64 z2, .int .i64 z3, .int .i64 z4]).toArray 63) = w1 at *
  generalize w.heap.size = ob at *
  obtain ⟨e, hke⟩ : ∃ e, S.ws[kn]? = some e := ⟨_, List.getElem?_eq_getElem hkl⟩
  have F1 : Fq K st V S ob (Value.int .i64 2 :: .int .i64 (kn : Int) :: .int .i64 width :: .int .i64 bound :: [Value.int .i64 z0, .int .i64 z1, .int .i64 z2, .int .i64 z3, .int .i64 z4]).toArray w1.drew := Fq.below (w := w1) ⟨H1.out.st, HOB.out⟩ (Below.refl _ _).drew
  obtain ⟨g1, c1, g2, c2, g3, c3, g4, c4, g5, c5, v1, v2, v3, v4, v5, hcell⟩ := F1.writer hke
  have CELL := Lib.hid hcell
  have CELO : Hid (∀ w', Fq K st V S ob (Value.int .i64 2 :: .int .i64 (kn : Int) :: .int .i64 width :: .int .i64 bound :: [Value.int .i64 z0, .int .i64 z1, .int .i64 z2, .int .i64 z3, .int .i64 z4]).toArray w' → (w'.cell? ⟨ob, 4, none⟩ = some (.int .i64 z0) ∧ w'.cell? ⟨ob, 5, none⟩ = some (.int .i64 z1) ∧ w'.cell? ⟨ob, 6, none⟩ = some (.int .i64 z2) ∧ w'.cell? ⟨ob, 7, none⟩ = some (.int .i64 z3) ∧ w'.cell? ⟨ob, 8, none⟩ = some (.int .i64 z4))) := Lib.hid (fun w' hF => ⟨hF.2.cell 4, hF.2.cell 5, hF.2.cell 6, hF.2.cell 7, hF.2.cell 8⟩)
  have HV2 := Lib.hid v2
  have hk00 : (0 : Int) ≤ (kn : Int) := by omega
  have hkl' : (kn : Int) < (S.ws.length : Int) := by omega
  have HKE := Lib.hid hke
  have H1d := Lib.hid (H1.out.below (Below.refl _ _).drew)
  have HB1d := Lib.hid (HB1.out.drew)
  have HPC := put_c H1d.out.pi hke t ht hac
  rw [HZZ.out] at HPC
  have HPC := Lib.hid HPC
  clear hcell v1 v2 v3 v4 v5 hke hv1 e0 e1 e2 hk0 hkn H1 HB1 HOB
  refine mx_begin (Fq K st V S ob (Value.int .i64 2 :: .int .i64 (kn : Int) :: .int .i64 width :: .int .i64 bound :: [Value.int .i64 z0, .int .i64 z1, .int .i64 z2, .int .i64 z3, .int .i64 z4]).toArray) [(true, 0), (true, 1), (true, 2), (true, 3), (true, 4), (true, 5), (true, 6), (true, 7), (true, 8), (false, 9), (false, 10)] (by kernel_rfl) (by kernel_rfl) (fun _ _ d _ _ h => by cases d <;> exact h) F1 ?_
  refine mx_read _ (P st) rfl (by kernel_rfl) (fun w' hF => by simp [execOp, Act.eval, go_sem]) ?_
  refine mx_read _ (P st) rfl (by kernel_rfl) (fun w' hF => by simp [execOp, Act.eval, go_sem]) ?_
  refine mx_read _ (.pointer (some ⟨st, 1, none⟩)) rfl (by kernel_rfl) (fun w' hF => by simp [execOp, Act.eval, go_sem]) ?_
  refine mx_read _ (.slice (some ⟨g1, 0, none⟩) S.ws.length c1) rfl (by kernel_rfl) (fun w' hF => by obtain ⟨⟨u1, u2, u3, u4, u5⟩, q1, q2, q3, q4, q5⟩ := CELL.out _ hF; simp [execOp, Act.eval, go_sem, u1]) ?_
  refine mx_read _ (.int .i64 (kn : Int)) rfl (by kernel_rfl) (fun w' hF => by simp [execOp, Act.eval, go_sem]) ?_
  refine mx_read _ (.pointer (some ⟨g1, kn, none⟩)) rfl (by kernel_rfl) (fun w' hF => by simp [execOp, Act.eval, go_sem, hk00, hkl']) ?_
  refine mx_read _ (P e.x) rfl (by kernel_rfl) (fun w' hF => by obtain ⟨⟨u1, u2, u3, u4, u5⟩, q1, q2, q3, q4, q5⟩ := CELL.out _ hF; simp [execOp, Act.eval, go_sem, q1]) ?_
  refine mx_read _ (.pointer (some ⟨ob, 4, none⟩)) rfl (by kernel_rfl) (fun w' hF => by simp [execOp, Act.eval, go_sem]) ?_
  refine mx_read _ (.agg #[.int .i64 z0, .int .i64 z1, .int .i64 z2, .int .i64 z3, .int .i64 z4]) rfl (by kernel_rfl) (fun w' hF => by obtain ⟨y0, y1, y2, y3, y4⟩ := CELO.out _ hF; simp [execOp, Act.eval, go_sem, y0, y1, y2, y3, y4]) ?_
  refine mx_one _ rfl (by kernel_rfl) (fun K8 hK8 => ?_)
  go_simp
  refine HPC.out.mono ?_
  have HFT := Lib.hid (fun w' : World => (reffits_any e.X.width t ht w' (H1d.out.pi.wf kn e HKE.out).wid.2.1))
  rw [HZZ.out] at HFT
  obtain ⟨pa, pc, hpv, -, -, -⟩ := tps_own (K := K) (H1d.out.tr.own kn e HKE.out).1 (fun u hu => ((H1d.out.pi.wf kn e HKE.out).fits u hu).1)
  have hpl : e.ps.length ≤ 100000000 := Nat.le_trans (H1d.out.pi.wf kn e HKE.out).len (H1d.out.pi.wf kn e HKE.out).wid.2.2
  clear HPC
  rintro ev w2 (⟨X', W2, E, rfl, hop, hfit, hlen, hXw, hXb, hp2, ht2, hE2, hEb2, hsz2, hac2⟩ | ⟨er, rfl, hb2, her⟩)
  · have F2 : Fq K st V S ob (Value.int .i64 2 :: .int .i64 (kn : Int) :: .int .i64 width :: .int .i64 bound :: [Value.int .i64 z0, .int .i64 z1, .int .i64 z2, .int .i64 z3, .int .i64 z4]).toArray w2 := ⟨H1d.out.st.turn H1d.out.pi.wk ht2 hE2, blk_mine H1d.out.pi.wk ht2 hE2 F1.2 (by unfold Mine; simp)⟩
    have HP2 := Lib.hid hp2
    have HTR2 := Lib.hid (H1d.out.tr.turn H1d.out.pi.wk ht2 hE2)
    have HB2 := Lib.hid (HB1d.out.trans (low_ H1d.out.pi.wk H1d.out.pi.base_le ht2 hEb2))
    refine hK8.out _ _ (fun _ => F2) ?_
    clear hK8 K8 hp2 ht2 hE2 hEb2 F1
    refine mx_one _ rfl (by kernel_rfl) (fun K8 hK8 => ?_)
    go_simp
    refine hK8.out _ _ (fun h => absurd rfl h) ?_
    clear hK8 K8
    refine mx_end ?_
    go_wp2_with fail
    have F2d := F2.below (Below.refl _ _).drew
    refine mx_begin (Fq K st V S ob (Value.int .i64 2 :: .int .i64 (kn : Int) :: .int .i64 width :: .int .i64 bound :: [Value.int .i64 z0, .int .i64 z1, .int .i64 z2, .int .i64 z3, .int .i64 z4]).toArray) [(true, 0), (true, 1), (true, 2), (true, 3), (true, 4), (true, 5), (true, 6), (true, 7), (true, 8), (true, 9), (true, 10), (true, 11), (true, 12), (true, 13), (true, 14), (true, 15), (true, 16), (true, 17), (false, 18), (true, 19), (true, 20), (false, 21)] (by kernel_rfl) (by kernel_rfl) (fun _ _ d _ _ h => by cases d <;> exact h) F2d ?_
    refine mx_read _ (P st) rfl (by kernel_rfl) (fun w' hF => by simp [execOp, Act.eval, go_sem]) ?_
    refine mx_read _ (P st) rfl (by kernel_rfl) (fun w' hF => by simp [execOp, Act.eval, go_sem]) ?_
    refine mx_read _ (.pointer (some ⟨st, 5, none⟩)) rfl (by kernel_rfl) (fun w' hF => by simp [execOp, Act.eval, go_sem]) ?_
    refine mx_read _ (.slice (some ⟨g5, 0, none⟩) S.ws.length c5) rfl (by kernel_rfl) (fun w' hF => by obtain ⟨⟨u1, u2, u3, u4, u5⟩, q1, q2, q3, q4, q5⟩ := CELL.out _ hF; simp [execOp, Act.eval, go_sem, u5]) ?_
    refine mx_read _ (.int .i64 (kn : Int)) rfl (by kernel_rfl) (fun w' hF => by simp [execOp, Act.eval, go_sem]) ?_
    refine mx_read _ (.pointer (some ⟨g5, kn, none⟩)) rfl (by kernel_rfl) (fun w' hF => by simp [execOp, Act.eval, go_sem, hk00, hkl']) ?_
    refine mx_read _ (.bool true) rfl (by kernel_rfl) (fun w' hF => by obtain ⟨⟨u1, u2, u3, u4, u5⟩, q1, q2, q3, q4, q5⟩ := CELL.out _ hF; simp [execOp, Act.eval, go_sem, q5, hop]) ?_
    refine mx_read _ (.bool false) rfl (by kernel_rfl) (fun w' hF => by simp [execOp, Act.eval, go_sem]) ?_
    refine mx_read _ (.bool false) rfl (by kernel_rfl) (fun w' hF => by simp [execOp, Act.eval, go_sem]) ?_
    refine mx_read _ (.pointer (some ⟨ob, 4, none⟩)) rfl (by kernel_rfl) (fun w' hF => by simp [execOp, Act.eval, go_sem]) ?_
    refine mx_read _ (.agg #[.int .i64 z0, .int .i64 z1, .int .i64 z2, .int .i64 z3, .int .i64 z4]) rfl (by kernel_rfl) (fun w' hF => by obtain ⟨y0, y1, y2, y3, y4⟩ := CELO.out _ hF; simp [execOp, Act.eval, go_sem, y0, y1, y2, y3, y4]) ?_
    refine mx_read _ (P st) rfl (by kernel_rfl) (fun w' hF => by simp [execOp, Act.eval, go_sem]) ?_
    refine mx_read _ (P st) rfl (by kernel_rfl) (fun w' hF => by simp [execOp, Act.eval, go_sem]) ?_
    refine mx_read _ (.pointer (some ⟨st, 3, none⟩)) rfl (by kernel_rfl) (fun w' hF => by simp [execOp, Act.eval, go_sem]) ?_
    refine mx_read _ (.slice (some ⟨g3, 0, none⟩) S.ws.length c3) rfl (by kernel_rfl) (fun w' hF => by obtain ⟨⟨u1, u2, u3, u4, u5⟩, q1, q2, q3, q4, q5⟩ := CELL.out _ hF; simp [execOp, Act.eval, go_sem, u3]) ?_
    refine mx_read _ (.int .i64 (kn : Int)) rfl (by kernel_rfl) (fun w' hF => by simp [execOp, Act.eval, go_sem]) ?_
    refine mx_read _ (.pointer (some ⟨g3, kn, none⟩)) rfl (by kernel_rfl) (fun w' hF => by simp [execOp, Act.eval, go_sem, hk00, hkl']) ?_
    refine mx_read _ (.int .i64 (e.X.width : Int)) rfl (by kernel_rfl) (fun w' hF => by obtain ⟨⟨u1, u2, u3, u4, u5⟩, q1, q2, q3, q4, q5⟩ := CELL.out _ hF; simp [execOp, Act.eval, go_sem, q3]) ?_
    refine mx_one _ rfl (by kernel_rfl) (fun K8 hK8 => ?_)
    go_simp
    refine (HFT.out _).mono ?_
    rintro _ w3 ⟨rfl, hb3⟩
    have F3 := F2d.below hb3
    refine hK8.out _ _ (fun _ => F3) ?_
    clear hK8 K8
    refine mx_read _ (.bool false) rfl (by kernel_rfl) (fun w' hF => by simp [execOp, Act.eval, go_sem, hfit]) ?_
    refine mx_read _ (.bool false) rfl (by kernel_rfl) (fun w' hF => by simp [execOp, Act.eval, go_sem]) ?_
    refine mx_one _ rfl (by kernel_rfl) (fun K8 hK8 => ?_)
    go_simp
    refine hK8.out _ _ (fun h => absurd rfl h) ?_
    clear hK8 K8
    refine mx_end ?_
    have hlen : ¬ ((e.ps.length : Int) = (e.X.bound : Int)) := by omega
    go_wp2_with fail
    have F3d := F3.below (Below.refl _ _).drew
    refine mx_begin (Fq K st V S ob (Value.int .i64 2 :: .int .i64 (kn : Int) :: .int .i64 width :: .int .i64 bound :: [Value.int .i64 z0, .int .i64 z1, .int .i64 z2, .int .i64 z3, .int .i64 z4]).toArray) [(true, 0), (true, 1), (true, 2), (true, 3), (true, 4), (true, 5), (true, 6), (true, 7), (true, 8), (true, 9), (true, 10), (true, 11), (true, 12), (true, 13), (true, 14), (true, 15), (false, 16)] (by kernel_rfl) (by kernel_rfl) (fun _ _ d _ _ h => by cases d <;> exact h) F3d ?_
    refine mx_read _ (P st) rfl (by kernel_rfl) (fun w' hF => by simp [execOp, Act.eval, go_sem]) ?_
    refine mx_read _ (P st) rfl (by kernel_rfl) (fun w' hF => by simp [execOp, Act.eval, go_sem]) ?_
    refine mx_read _ (.pointer (some ⟨st, 2, none⟩)) rfl (by kernel_rfl) (fun w' hF => by simp [execOp, Act.eval, go_sem]) ?_
    refine mx_read _ (.slice (some ⟨g2, 0, none⟩) S.ws.length c2) rfl (by kernel_rfl) (fun w' hF => by obtain ⟨⟨u1, u2, u3, u4, u5⟩, q1, q2, q3, q4, q5⟩ := CELL.out _ hF; simp [execOp, Act.eval, go_sem, u2]) ?_
    refine mx_read _ (.int .i64 (kn : Int)) rfl (by kernel_rfl) (fun w' hF => by simp [execOp, Act.eval, go_sem]) ?_
    refine mx_read _ (.pointer (some ⟨g2, kn, none⟩)) rfl (by kernel_rfl) (fun w' hF => by simp [execOp, Act.eval, go_sem, hk00, hkl']) ?_
    refine mx_read _ (.slice pa e.ps.length pc) rfl (by kernel_rfl) (fun w' hF => by obtain ⟨⟨u1, u2, u3, u4, u5⟩, q1, q2, q3, q4, q5⟩ := CELL.out _ hF; simp [execOp, Act.eval, go_sem, q2, hpv]) ?_
    refine mx_read _ (.int .i64 (e.ps.length : Int)) rfl (by kernel_rfl) (fun w' hF => by simp [execOp, Act.eval, go_sem]) ?_
    refine mx_read _ (P st) rfl (by kernel_rfl) (fun w' hF => by simp [execOp, Act.eval, go_sem]) ?_
    refine mx_read _ (P st) rfl (by kernel_rfl) (fun w' hF => by simp [execOp, Act.eval, go_sem]) ?_
    refine mx_read _ (.pointer (some ⟨st, 4, none⟩)) rfl (by kernel_rfl) (fun w' hF => by simp [execOp, Act.eval, go_sem]) ?_
    refine mx_read _ (.slice (some ⟨g4, 0, none⟩) S.ws.length c4) rfl (by kernel_rfl) (fun w' hF => by obtain ⟨⟨u1, u2, u3, u4, u5⟩, q1, q2, q3, q4, q5⟩ := CELL.out _ hF; simp [execOp, Act.eval, go_sem, u4]) ?_
    refine mx_read _ (.int .i64 (kn : Int)) rfl (by kernel_rfl) (fun w' hF => by simp [execOp, Act.eval, go_sem]) ?_
    refine mx_read _ (.pointer (some ⟨g4, kn, none⟩)) rfl (by kernel_rfl) (fun w' hF => by simp [execOp, Act.eval, go_sem, hk00, hkl']) ?_
    refine mx_read _ (.int .i64 (e.X.bound : Int)) rfl (by kernel_rfl) (fun w' hF => by obtain ⟨⟨u1, u2, u3, u4, u5⟩, q1, q2, q3, q4, q5⟩ := CELL.out _ hF; simp [execOp, Act.eval, go_sem, q4]) ?_
    refine mx_read _ (.bool false) rfl (by kernel_rfl) (fun w' hF => by simp [execOp, Act.eval, go_sem, hlen]) ?_
    refine mx_one _ rfl (by kernel_rfl) (fun K8 hK8 => ?_)
    go_simp
    refine hK8.out _ _ (fun h => absurd rfl h) ?_
    clear hK8 K8
    refine mx_end ?_
    go_wp2_with fail
    have F4 := F3d.below (Below.refl _ _).drew
    have hb4 : Below w2.heap.size w2 w3.drew.drew := ((((Below.refl w2.heap.size w2).drew).trans (hb3.mono (Nat.le_refl _))).drew).drew
    have hz5 : w2.heap.size ≤ w3.heap.size := hb4.size
    have hb5 : Below w2.heap.size w2 (w3.drew.drew.alloc (.cells #[.int .i64 z0, .int .i64 z1, .int .i64 z2, .int .i64 z3, .int .i64 z4] 45)) := hb4.alloc hz5 _
    have hb45 : Below w3.drew.drew.heap.size w3.drew.drew (w3.drew.drew.alloc (.cells #[.int .i64 z0, .int .i64 z1, .int .i64 z2, .int .i64 z3, .int .i64 z4] 45)) := (Below.refl _ _).alloc (Nat.le_refl _) _
    have HP5 := Lib.hid (HP2.out.below hb5)
    have HTR5 := Lib.hid (HTR2.out.turn (E := fun _ => False) HP2.out.wk (Turn.below hb5) (fun g h => h.elim))
    have HB5 := Lib.hid (HB2.out.trans (hb5.mono HP2.out.base_le))
    have F5 := F4.below hb45
    have HR5 := Lib.hid (Row.new w3.drew.drew #[.int .i64 z0, .int .i64 z1, .int .i64 z2, .int .i64 z3, .int .i64 z4] 45 (0, 0))
    have hbase5 : K.base ≤ w3.heap.size + 1 := by have := HP2.out.base_le; omega
    have HFL : Hid (flatT [t] = [.int .i64 z0, .int .i64 z1, .int .i64 z2, .int .i64 z3, .int .i64 z4]) := Lib.hid (by simp [flatT, HZZ.out])
    refine mx_begin (Fq K st V S ob (Value.int .i64 2 :: .int .i64 (kn : Int) :: .int .i64 width :: .int .i64 bound :: [Value.int .i64 z0, .int .i64 z1, .int .i64 z2, .int .i64 z3, .int .i64 z4]).toArray) [(true, 0), (true, 1), (true, 2), (true, 3), (true, 4), (true, 5), (true, 6), (true, 7), (true, 8), (true, 9), (true, 10), (true, 11), (true, 12), (true, 13), (false, 14), (false, 15), (true, 16), (false, 17)] (by kernel_rfl) (by kernel_rfl) (fun _ _ d _ _ h => by cases d <;> exact h) F4 ?_
    refine mx_read _ (P st) rfl (by kernel_rfl) (fun w' hF => by simp [execOp, Act.eval, go_sem]) ?_
    refine mx_read _ (P st) rfl (by kernel_rfl) (fun w' hF => by simp [execOp, Act.eval, go_sem]) ?_
    refine mx_read _ (.pointer (some ⟨st, 2, none⟩)) rfl (by kernel_rfl) (fun w' hF => by simp [execOp, Act.eval, go_sem]) ?_
    refine mx_read _ (.slice (some ⟨g2, 0, none⟩) S.ws.length c2) rfl (by kernel_rfl) (fun w' hF => by obtain ⟨⟨u1, u2, u3, u4, u5⟩, q1, q2, q3, q4, q5⟩ := CELL.out _ hF; simp [execOp, Act.eval, go_sem, u2]) ?_
    refine mx_read _ (.int .i64 (kn : Int)) rfl (by kernel_rfl) (fun w' hF => by simp [execOp, Act.eval, go_sem]) ?_
    refine mx_read _ (P st) rfl (by kernel_rfl) (fun w' hF => by simp [execOp, Act.eval, go_sem]) ?_
    refine mx_read _ (P st) rfl (by kernel_rfl) (fun w' hF => by simp [execOp, Act.eval, go_sem]) ?_
    refine mx_read _ (.pointer (some ⟨st, 2, none⟩)) rfl (by kernel_rfl) (fun w' hF => by simp [execOp, Act.eval, go_sem]) ?_
    refine mx_read _ (.slice (some ⟨g2, 0, none⟩) S.ws.length c2) rfl (by kernel_rfl) (fun w' hF => by obtain ⟨⟨u1, u2, u3, u4, u5⟩, q1, q2, q3, q4, q5⟩ := CELL.out _ hF; simp [execOp, Act.eval, go_sem, u2]) ?_
    refine mx_read _ (.int .i64 (kn : Int)) rfl (by kernel_rfl) (fun w' hF => by simp [execOp, Act.eval, go_sem]) ?_
    refine mx_read _ (.pointer (some ⟨g2, kn, none⟩)) rfl (by kernel_rfl) (fun w' hF => by simp [execOp, Act.eval, go_sem, hk00, hkl']) ?_
    refine mx_read _ (.slice pa e.ps.length pc) rfl (by kernel_rfl) (fun w' hF => by obtain ⟨⟨u1, u2, u3, u4, u5⟩, q1, q2, q3, q4, q5⟩ := CELL.out _ hF; simp [execOp, Act.eval, go_sem, q2, hpv]) ?_
    refine mx_read _ (.pointer (some ⟨ob, 4, none⟩)) rfl (by kernel_rfl) (fun w' hF => by simp [execOp, Act.eval, go_sem]) ?_
    refine mx_read _ (.agg #[.int .i64 z0, .int .i64 z1, .int .i64 z2, .int .i64 z3, .int .i64 z4]) rfl (by kernel_rfl) (fun w' hF => by obtain ⟨y0, y1, y2, y3, y4⟩ := CELO.out _ hF; simp [execOp, Act.eval, go_sem, y0, y1, y2, y3, y4]) ?_
    refine mx_one _ rfl (by kernel_rfl) (fun K8 hK8 => ?_)
    go_simp
    refine hK8.out _ _ (fun _ => F5) ?_
    clear hK8 K8 hb4 hb5 hb45
    refine mx_one _ rfl (by kernel_rfl) (fun K8 hK8 => ?_)
    refine wp_append (.tmp 191) (.tmp 194) _ rfl el_tup K.base e.pv e.ps.length (flatT e.ps) (by simp [Act.eval, hpv]) (HTR5.out.own kn e HKE.out).1 _ 1 1 [.int .i64 z0, .int .i64 z1, .int .i64 z2, .int .i64 z3, .int .i64 z4] (by simp [Act.eval]) rfl HR5.out (by intro u hu; simp at hu; rcases hu with rfl | rfl | rfl | rfl | rfl <;> rfl) (by unfold maxLen; omega) (by omega) (by simp; omega) ?_
    intro v6 w6 hown6 hg6 hv6 hb6
    obtain ⟨g6, cap6, rfl, _, _⟩ := World.ownsRow.form hown6 (by omega)
    have F6 := F5.grown (HTR5.out.own kn e HKE.out).1 hg6
    rw [← HFL.out] at hown6
    obtain ⟨tw7, S7, h7, hb7, l7, f7, r7⟩ := grow HP5.out HTR5.out F5.1 HKE.out rfl rfl rfl rfl hop hXw hXb rfl hown6 hg6 hv6 HV2.out
    have H7 := Lib.hid h7
    have HB7 := Lib.hid (HB5.out.trans hb7)
    have z6 := F6.1.frozen (i := 2) (by omega) (by omega) HV2.out kn
    have c6 : w6.cell? ⟨g2, kn, none⟩ = some e.pv := (CELL.out _ F6).2.2.1
    refine hK8.out _ _ (fun _ => F6) ?_
    clear hK8 K8 hown6 hg6 hv6 hb6 h7 hb7 HP5 HTR5 HB5 HP2 HTR2 HB2 HR5 HFL
    refine mx_read _ (.pointer (some ⟨g2, kn, none⟩)) rfl (by kernel_rfl) (fun w' hF => by simp [execOp, Act.eval, go_sem, hk00, hkl']) ?_
    refine mx_one _ rfl (by kernel_rfl) (fun K8 hK8 => ?_)
    go_simp
    refine hK8.out _ _ (fun h => absurd rfl h) ?_
    clear hK8 K8
    refine mx_end ?_
    go_wp2_with fail
    go_ret
    exact ⟨rfl, HB7.out, _, _, _, _, _, _, _, H7.out, hsz2, hac2, by omega, by rw [f7]; omega, by rw [r7]; omega⟩
  · have F2 : Fq K st V S ob (Value.int .i64 2 :: .int .i64 (kn : Int) :: .int .i64 width :: .int .i64 bound :: [Value.int .i64 z0, .int .i64 z1, .int .i64 z2, .int .i64 z3, .int .i64 z4]).toArray w2 := F1.below hb2
    have H2 := Lib.hid (H1d.out.below hb2)
    have HB2 := Lib.hid (HB1d.out.trans (hb2.mono H1d.out.pi.base_le))
    have HFIN : Hid (∀ w', Below w2.heap.size w2 w' → ActTold w K W S st (.returned (.bool true)) w') := Lib.hid (fun w' hb => ⟨rfl, HB2.out.trans (hb.mono H2.out.pi.base_le), _, _, _, _, _, _, _, H2.out.below hb, rfl, by omega, by omega, by omega, by omega⟩)
    refine hK8.out _ _ (fun _ => F2) ?_
    clear hK8 K8 F1 hb2
    refine mx_one _ rfl (by kernel_rfl) (fun K8 hK8 => ?_)
    go_simp
    refine hK8.out _ _ (fun h => absurd rfl h) ?_
    clear hK8 K8
    refine mx_end ?_
    go_wp2_with fail
    have F2d := F2.below (Below.refl _ _).drew
    rcases her with ⟨rfl, hop | hfit⟩ | ⟨rfl, hop, hfit, hlen⟩
    · refine mx_begin (Fq K st V S ob (Value.int .i64 2 :: .int .i64 (kn : Int) :: .int .i64 width :: .int .i64 bound :: [Value.int .i64 z0, .int .i64 z1, .int .i64 z2, .int .i64 z3, .int .i64 z4]).toArray) [(true, 0), (true, 1), (true, 2), (true, 3), (true, 4), (true, 5), (true, 6), (true, 7), (true, 8), (true, 9), (true, 10), (true, 11), (true, 12), (true, 13), (true, 14), (true, 15), (true, 16), (true, 17), (false, 18), (true, 19), (true, 20), (false, 21)] (by kernel_rfl) (by kernel_rfl) (fun _ _ d _ _ h => by cases d <;> exact h) F2d ?_
      refine mx_read _ (P st) rfl (by kernel_rfl) (fun w' hF => by simp [execOp, Act.eval, go_sem]) ?_
      refine mx_read _ (P st) rfl (by kernel_rfl) (fun w' hF => by simp [execOp, Act.eval, go_sem]) ?_
      refine mx_read _ (.pointer (some ⟨st, 5, none⟩)) rfl (by kernel_rfl) (fun w' hF => by simp [execOp, Act.eval, go_sem]) ?_
      refine mx_read _ (.slice (some ⟨g5, 0, none⟩) S.ws.length c5) rfl (by kernel_rfl) (fun w' hF => by obtain ⟨⟨u1, u2, u3, u4, u5⟩, q1, q2, q3, q4, q5⟩ := CELL.out _ hF; simp [execOp, Act.eval, go_sem, u5]) ?_
      refine mx_read _ (.int .i64 (kn : Int)) rfl (by kernel_rfl) (fun w' hF => by simp [execOp, Act.eval, go_sem]) ?_
      refine mx_read _ (.pointer (some ⟨g5, kn, none⟩)) rfl (by kernel_rfl) (fun w' hF => by simp [execOp, Act.eval, go_sem, hk00, hkl']) ?_
      refine mx_read _ (.bool false) rfl (by kernel_rfl) (fun w' hF => by obtain ⟨⟨u1, u2, u3, u4, u5⟩, q1, q2, q3, q4, q5⟩ := CELL.out _ hF; simp [execOp, Act.eval, go_sem, q5, hop]) ?_
      refine mx_read _ (.bool true) rfl (by kernel_rfl) (fun w' hF => by simp [execOp, Act.eval, go_sem]) ?_
      refine mx_read _ (.bool true) rfl (by kernel_rfl) (fun w' hF => by simp [execOp, Act.eval, go_sem]) ?_
      refine mx_skip _ rfl (by kernel_rfl) ?_
      refine mx_skip _ rfl (by kernel_rfl) ?_
      refine mx_skip _ rfl (by kernel_rfl) ?_
      refine mx_skip _ rfl (by kernel_rfl) ?_
      refine mx_skip _ rfl (by kernel_rfl) ?_
      refine mx_skip _ rfl (by kernel_rfl) ?_
      refine mx_skip _ rfl (by kernel_rfl) ?_
      refine mx_skip _ rfl (by kernel_rfl) ?_
      refine mx_skip _ rfl (by kernel_rfl) ?_
      refine mx_one_skip _ rfl F2d (by kernel_rfl) ?_
      refine mx_skip _ rfl (by kernel_rfl) ?_
      refine mx_read _ (.bool true) rfl (by kernel_rfl) (fun w' hF => by simp [execOp, Act.eval, go_sem]) ?_
      refine mx_one _ rfl (by kernel_rfl) (fun K8 hK8 => ?_)
      go_simp
      refine hK8.out _ _ (fun h => absurd rfl h) ?_
      clear hK8 K8
      refine mx_end ?_
      go_wp2_with fail
      go_ret
      exact ⟨rfl, (HFIN.out _ (Below.refl _ _).drew).2⟩
    · cases hop : e.op with
      | false =>
        refine mx_begin (Fq K st V S ob (Value.int .i64 2 :: .int .i64 (kn : Int) :: .int .i64 width :: .int .i64 bound :: [Value.int .i64 z0, .int .i64 z1, .int .i64 z2, .int .i64 z3, .int .i64 z4]).toArray) [(true, 0), (true, 1), (true, 2), (true, 3), (true, 4), (true, 5), (true, 6), (true, 7), (true, 8), (true, 9), (true, 10), (true, 11), (true, 12), (true, 13), (true, 14), (true, 15), (true, 16), (true, 17), (false, 18), (true, 19), (true, 20), (false, 21)] (by kernel_rfl) (by kernel_rfl) (fun _ _ d _ _ h => by cases d <;> exact h) F2d ?_
        refine mx_read _ (P st) rfl (by kernel_rfl) (fun w' hF => by simp [execOp, Act.eval, go_sem]) ?_
        refine mx_read _ (P st) rfl (by kernel_rfl) (fun w' hF => by simp [execOp, Act.eval, go_sem]) ?_
        refine mx_read _ (.pointer (some ⟨st, 5, none⟩)) rfl (by kernel_rfl) (fun w' hF => by simp [execOp, Act.eval, go_sem]) ?_
        refine mx_read _ (.slice (some ⟨g5, 0, none⟩) S.ws.length c5) rfl (by kernel_rfl) (fun w' hF => by obtain ⟨⟨u1, u2, u3, u4, u5⟩, q1, q2, q3, q4, q5⟩ := CELL.out _ hF; simp [execOp, Act.eval, go_sem, u5]) ?_
        refine mx_read _ (.int .i64 (kn : Int)) rfl (by kernel_rfl) (fun w' hF => by simp [execOp, Act.eval, go_sem]) ?_
        refine mx_read _ (.pointer (some ⟨g5, kn, none⟩)) rfl (by kernel_rfl) (fun w' hF => by simp [execOp, Act.eval, go_sem, hk00, hkl']) ?_
        refine mx_read _ (.bool false) rfl (by kernel_rfl) (fun w' hF => by obtain ⟨⟨u1, u2, u3, u4, u5⟩, q1, q2, q3, q4, q5⟩ := CELL.out _ hF; simp [execOp, Act.eval, go_sem, q5, hop]) ?_
        refine mx_read _ (.bool true) rfl (by kernel_rfl) (fun w' hF => by simp [execOp, Act.eval, go_sem]) ?_
        refine mx_read _ (.bool true) rfl (by kernel_rfl) (fun w' hF => by simp [execOp, Act.eval, go_sem]) ?_
        refine mx_skip _ rfl (by kernel_rfl) ?_
        refine mx_skip _ rfl (by kernel_rfl) ?_
        refine mx_skip _ rfl (by kernel_rfl) ?_
        refine mx_skip _ rfl (by kernel_rfl) ?_
        refine mx_skip _ rfl (by kernel_rfl) ?_
        refine mx_skip _ rfl (by kernel_rfl) ?_
        refine mx_skip _ rfl (by kernel_rfl) ?_
        refine mx_skip _ rfl (by kernel_rfl) ?_
        refine mx_skip _ rfl (by kernel_rfl) ?_
        refine mx_one_skip _ rfl F2d (by kernel_rfl) ?_
        refine mx_skip _ rfl (by kernel_rfl) ?_
        refine mx_read _ (.bool true) rfl (by kernel_rfl) (fun w' hF => by simp [execOp, Act.eval, go_sem]) ?_
        refine mx_one _ rfl (by kernel_rfl) (fun K8 hK8 => ?_)
        go_simp
        refine hK8.out _ _ (fun h => absurd rfl h) ?_
        clear hK8 K8
        refine mx_end ?_
        go_wp2_with fail
        go_ret
        exact ⟨rfl, (HFIN.out _ (Below.refl _ _).drew).2⟩
      | true =>
        refine mx_begin (Fq K st V S ob (Value.int .i64 2 :: .int .i64 (kn : Int) :: .int .i64 width :: .int .i64 bound :: [Value.int .i64 z0, .int .i64 z1, .int .i64 z2, .int .i64 z3, .int .i64 z4]).toArray) [(true, 0), (true, 1), (true, 2), (true, 3), (true, 4), (true, 5), (true, 6), (true, 7), (true, 8), (true, 9), (true, 10), (true, 11), (true, 12), (true, 13), (true, 14), (true, 15), (true, 16), (true, 17), (false, 18), (true, 19), (true, 20), (false, 21)] (by kernel_rfl) (by kernel_rfl) (fun _ _ d _ _ h => by cases d <;> exact h) F2d ?_
        refine mx_read _ (P st) rfl (by kernel_rfl) (fun w' hF => by simp [execOp, Act.eval, go_sem]) ?_
        refine mx_read _ (P st) rfl (by kernel_rfl) (fun w' hF => by simp [execOp, Act.eval, go_sem]) ?_
        refine mx_read _ (.pointer (some ⟨st, 5, none⟩)) rfl (by kernel_rfl) (fun w' hF => by simp [execOp, Act.eval, go_sem]) ?_
        refine mx_read _ (.slice (some ⟨g5, 0, none⟩) S.ws.length c5) rfl (by kernel_rfl) (fun w' hF => by obtain ⟨⟨u1, u2, u3, u4, u5⟩, q1, q2, q3, q4, q5⟩ := CELL.out _ hF; simp [execOp, Act.eval, go_sem, u5]) ?_
        refine mx_read _ (.int .i64 (kn : Int)) rfl (by kernel_rfl) (fun w' hF => by simp [execOp, Act.eval, go_sem]) ?_
        refine mx_read _ (.pointer (some ⟨g5, kn, none⟩)) rfl (by kernel_rfl) (fun w' hF => by simp [execOp, Act.eval, go_sem, hk00, hkl']) ?_
        refine mx_read _ (.bool true) rfl (by kernel_rfl) (fun w' hF => by obtain ⟨⟨u1, u2, u3, u4, u5⟩, q1, q2, q3, q4, q5⟩ := CELL.out _ hF; simp [execOp, Act.eval, go_sem, q5, hop]) ?_
        refine mx_read _ (.bool false) rfl (by kernel_rfl) (fun w' hF => by simp [execOp, Act.eval, go_sem]) ?_
        refine mx_read _ (.bool false) rfl (by kernel_rfl) (fun w' hF => by simp [execOp, Act.eval, go_sem]) ?_
        refine mx_read _ (.pointer (some ⟨ob, 4, none⟩)) rfl (by kernel_rfl) (fun w' hF => by simp [execOp, Act.eval, go_sem]) ?_
        refine mx_read _ (.agg #[.int .i64 z0, .int .i64 z1, .int .i64 z2, .int .i64 z3, .int .i64 z4]) rfl (by kernel_rfl) (fun w' hF => by obtain ⟨y0, y1, y2, y3, y4⟩ := CELO.out _ hF; simp [execOp, Act.eval, go_sem, y0, y1, y2, y3, y4]) ?_
        refine mx_read _ (P st) rfl (by kernel_rfl) (fun w' hF => by simp [execOp, Act.eval, go_sem]) ?_
        refine mx_read _ (P st) rfl (by kernel_rfl) (fun w' hF => by simp [execOp, Act.eval, go_sem]) ?_
        refine mx_read _ (.pointer (some ⟨st, 3, none⟩)) rfl (by kernel_rfl) (fun w' hF => by simp [execOp, Act.eval, go_sem]) ?_
        refine mx_read _ (.slice (some ⟨g3, 0, none⟩) S.ws.length c3) rfl (by kernel_rfl) (fun w' hF => by obtain ⟨⟨u1, u2, u3, u4, u5⟩, q1, q2, q3, q4, q5⟩ := CELL.out _ hF; simp [execOp, Act.eval, go_sem, u3]) ?_
        refine mx_read _ (.int .i64 (kn : Int)) rfl (by kernel_rfl) (fun w' hF => by simp [execOp, Act.eval, go_sem]) ?_
        refine mx_read _ (.pointer (some ⟨g3, kn, none⟩)) rfl (by kernel_rfl) (fun w' hF => by simp [execOp, Act.eval, go_sem, hk00, hkl']) ?_
        refine mx_read _ (.int .i64 (e.X.width : Int)) rfl (by kernel_rfl) (fun w' hF => by obtain ⟨⟨u1, u2, u3, u4, u5⟩, q1, q2, q3, q4, q5⟩ := CELL.out _ hF; simp [execOp, Act.eval, go_sem, q3]) ?_
        refine mx_one _ rfl (by kernel_rfl) (fun K8 hK8 => ?_)
        go_simp
        refine (HFT.out _).mono ?_
        rintro _ w3 ⟨rfl, hb3⟩
        have F3 := F2d.below hb3
        refine hK8.out _ _ (fun _ => F3) ?_
        clear hK8 K8
        refine mx_read _ (.bool true) rfl (by kernel_rfl) (fun w' hF => by simp [execOp, Act.eval, go_sem, hfit]) ?_
        refine mx_read _ (.bool true) rfl (by kernel_rfl) (fun w' hF => by simp [execOp, Act.eval, go_sem]) ?_
        refine mx_one _ rfl (by kernel_rfl) (fun K8 hK8 => ?_)
        go_simp
        refine hK8.out _ _ (fun h => absurd rfl h) ?_
        clear hK8 K8
        refine mx_end ?_
        go_wp2_with fail
        go_ret
        exact ⟨rfl, (HFIN.out _ (((Below.refl _ _).drew).trans (hb3.mono (Nat.le_refl _)))).2⟩
    · refine mx_begin (Fq K st V S ob (Value.int .i64 2 :: .int .i64 (kn : Int) :: .int .i64 width :: .int .i64 bound :: [Value.int .i64 z0, .int .i64 z1, .int .i64 z2, .int .i64 z3, .int .i64 z4]).toArray) [(true, 0), (true, 1), (true, 2), (true, 3), (true, 4), (true, 5), (true, 6), (true, 7), (true, 8), (true, 9), (true, 10), (true, 11), (true, 12), (true, 13), (true, 14), (true, 15), (true, 16), (true, 17), (false, 18), (true, 19), (true, 20), (false, 21)] (by kernel_rfl) (by kernel_rfl) (fun _ _ d _ _ h => by cases d <;> exact h) F2d ?_
      refine mx_read _ (P st) rfl (by kernel_rfl) (fun w' hF => by simp [execOp, Act.eval, go_sem]) ?_
      refine mx_read _ (P st) rfl (by kernel_rfl) (fun w' hF => by simp [execOp, Act.eval, go_sem]) ?_
      refine mx_read _ (.pointer (some ⟨st, 5, none⟩)) rfl (by kernel_rfl) (fun w' hF => by simp [execOp, Act.eval, go_sem]) ?_
      refine mx_read _ (.slice (some ⟨g5, 0, none⟩) S.ws.length c5) rfl (by kernel_rfl) (fun w' hF => by obtain ⟨⟨u1, u2, u3, u4, u5⟩, q1, q2, q3, q4, q5⟩ := CELL.out _ hF; simp [execOp, Act.eval, go_sem, u5]) ?_
      refine mx_read _ (.int .i64 (kn : Int)) rfl (by kernel_rfl) (fun w' hF => by simp [execOp, Act.eval, go_sem]) ?_
      refine mx_read _ (.pointer (some ⟨g5, kn, none⟩)) rfl (by kernel_rfl) (fun w' hF => by simp [execOp, Act.eval, go_sem, hk00, hkl']) ?_
      refine mx_read _ (.bool true) rfl (by kernel_rfl) (fun w' hF => by obtain ⟨⟨u1, u2, u3, u4, u5⟩, q1, q2, q3, q4, q5⟩ := CELL.out _ hF; simp [execOp, Act.eval, go_sem, q5, hop]) ?_
      refine mx_read _ (.bool false) rfl (by kernel_rfl) (fun w' hF => by simp [execOp, Act.eval, go_sem]) ?_
      refine mx_read _ (.bool false) rfl (by kernel_rfl) (fun w' hF => by simp [execOp, Act.eval, go_sem]) ?_
      refine mx_read _ (.pointer (some ⟨ob, 4, none⟩)) rfl (by kernel_rfl) (fun w' hF => by simp [execOp, Act.eval, go_sem]) ?_
      refine mx_read _ (.agg #[.int .i64 z0, .int .i64 z1, .int .i64 z2, .int .i64 z3, .int .i64 z4]) rfl (by kernel_rfl) (fun w' hF => by obtain ⟨y0, y1, y2, y3, y4⟩ := CELO.out _ hF; simp [execOp, Act.eval, go_sem, y0, y1, y2, y3, y4]) ?_
      refine mx_read _ (P st) rfl (by kernel_rfl) (fun w' hF => by simp [execOp, Act.eval, go_sem]) ?_
      refine mx_read _ (P st) rfl (by kernel_rfl) (fun w' hF => by simp [execOp, Act.eval, go_sem]) ?_
      refine mx_read _ (.pointer (some ⟨st, 3, none⟩)) rfl (by kernel_rfl) (fun w' hF => by simp [execOp, Act.eval, go_sem]) ?_
      refine mx_read _ (.slice (some ⟨g3, 0, none⟩) S.ws.length c3) rfl (by kernel_rfl) (fun w' hF => by obtain ⟨⟨u1, u2, u3, u4, u5⟩, q1, q2, q3, q4, q5⟩ := CELL.out _ hF; simp [execOp, Act.eval, go_sem, u3]) ?_
      refine mx_read _ (.int .i64 (kn : Int)) rfl (by kernel_rfl) (fun w' hF => by simp [execOp, Act.eval, go_sem]) ?_
      refine mx_read _ (.pointer (some ⟨g3, kn, none⟩)) rfl (by kernel_rfl) (fun w' hF => by simp [execOp, Act.eval, go_sem, hk00, hkl']) ?_
      refine mx_read _ (.int .i64 (e.X.width : Int)) rfl (by kernel_rfl) (fun w' hF => by obtain ⟨⟨u1, u2, u3, u4, u5⟩, q1, q2, q3, q4, q5⟩ := CELL.out _ hF; simp [execOp, Act.eval, go_sem, q3]) ?_
      refine mx_one _ rfl (by kernel_rfl) (fun K8 hK8 => ?_)
      go_simp
      refine (HFT.out _).mono ?_
      rintro _ w3 ⟨rfl, hb3⟩
      have F3 := F2d.below hb3
      refine hK8.out _ _ (fun _ => F3) ?_
      clear hK8 K8
      refine mx_read _ (.bool false) rfl (by kernel_rfl) (fun w' hF => by simp [execOp, Act.eval, go_sem, hfit]) ?_
      refine mx_read _ (.bool false) rfl (by kernel_rfl) (fun w' hF => by simp [execOp, Act.eval, go_sem]) ?_
      refine mx_one _ rfl (by kernel_rfl) (fun K8 hK8 => ?_)
      go_simp
      refine hK8.out _ _ (fun h => absurd rfl h) ?_
      clear hK8 K8
      refine mx_end ?_
      have hlen : (e.ps.length : Int) = (e.X.bound : Int) := by omega
      go_wp2_with fail
      have F3d := F3.below (Below.refl _ _).drew
      refine mx_begin (Fq K st V S ob (Value.int .i64 2 :: .int .i64 (kn : Int) :: .int .i64 width :: .int .i64 bound :: [Value.int .i64 z0, .int .i64 z1, .int .i64 z2, .int .i64 z3, .int .i64 z4]).toArray) [(true, 0), (true, 1), (true, 2), (true, 3), (true, 4), (true, 5), (true, 6), (true, 7), (true, 8), (true, 9), (true, 10), (true, 11), (true, 12), (true, 13), (true, 14), (true, 15), (false, 16)] (by kernel_rfl) (by kernel_rfl) (fun _ _ d _ _ h => by cases d <;> exact h) F3d ?_
      refine mx_read _ (P st) rfl (by kernel_rfl) (fun w' hF => by simp [execOp, Act.eval, go_sem]) ?_
      refine mx_read _ (P st) rfl (by kernel_rfl) (fun w' hF => by simp [execOp, Act.eval, go_sem]) ?_
      refine mx_read _ (.pointer (some ⟨st, 2, none⟩)) rfl (by kernel_rfl) (fun w' hF => by simp [execOp, Act.eval, go_sem]) ?_
      refine mx_read _ (.slice (some ⟨g2, 0, none⟩) S.ws.length c2) rfl (by kernel_rfl) (fun w' hF => by obtain ⟨⟨u1, u2, u3, u4, u5⟩, q1, q2, q3, q4, q5⟩ := CELL.out _ hF; simp [execOp, Act.eval, go_sem, u2]) ?_
      refine mx_read _ (.int .i64 (kn : Int)) rfl (by kernel_rfl) (fun w' hF => by simp [execOp, Act.eval, go_sem]) ?_
      refine mx_read _ (.pointer (some ⟨g2, kn, none⟩)) rfl (by kernel_rfl) (fun w' hF => by simp [execOp, Act.eval, go_sem, hk00, hkl']) ?_
      refine mx_read _ (.slice pa e.ps.length pc) rfl (by kernel_rfl) (fun w' hF => by obtain ⟨⟨u1, u2, u3, u4, u5⟩, q1, q2, q3, q4, q5⟩ := CELL.out _ hF; simp [execOp, Act.eval, go_sem, q2, hpv]) ?_
      refine mx_read _ (.int .i64 (e.ps.length : Int)) rfl (by kernel_rfl) (fun w' hF => by simp [execOp, Act.eval, go_sem]) ?_
      refine mx_read _ (P st) rfl (by kernel_rfl) (fun w' hF => by simp [execOp, Act.eval, go_sem]) ?_
      refine mx_read _ (P st) rfl (by kernel_rfl) (fun w' hF => by simp [execOp, Act.eval, go_sem]) ?_
      refine mx_read _ (.pointer (some ⟨st, 4, none⟩)) rfl (by kernel_rfl) (fun w' hF => by simp [execOp, Act.eval, go_sem]) ?_
      refine mx_read _ (.slice (some ⟨g4, 0, none⟩) S.ws.length c4) rfl (by kernel_rfl) (fun w' hF => by obtain ⟨⟨u1, u2, u3, u4, u5⟩, q1, q2, q3, q4, q5⟩ := CELL.out _ hF; simp [execOp, Act.eval, go_sem, u4]) ?_
      refine mx_read _ (.int .i64 (kn : Int)) rfl (by kernel_rfl) (fun w' hF => by simp [execOp, Act.eval, go_sem]) ?_
      refine mx_read _ (.pointer (some ⟨g4, kn, none⟩)) rfl (by kernel_rfl) (fun w' hF => by simp [execOp, Act.eval, go_sem, hk00, hkl']) ?_
      refine mx_read _ (.int .i64 (e.X.bound : Int)) rfl (by kernel_rfl) (fun w' hF => by obtain ⟨⟨u1, u2, u3, u4, u5⟩, q1, q2, q3, q4, q5⟩ := CELL.out _ hF; simp [execOp, Act.eval, go_sem, q4]) ?_
      refine mx_read _ (.bool true) rfl (by kernel_rfl) (fun w' hF => by simp [execOp, Act.eval, go_sem, hlen]) ?_
      refine mx_one _ rfl (by kernel_rfl) (fun K8 hK8 => ?_)
      go_simp
      refine hK8.out _ _ (fun h => absurd rfl h) ?_
      clear hK8 K8
      refine mx_end ?_
      go_wp2_with fail
      go_ret
      exact ⟨rfl, (HFIN.out _ ((((Below.refl _ _).drew).trans (hb3.mono (Nat.le_refl _))).drew)).2⟩

end Go.Proofs.Ytmmkncocgjgapaa.Fp
