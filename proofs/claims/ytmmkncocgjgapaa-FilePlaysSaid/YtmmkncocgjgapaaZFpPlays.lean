/- The law FilePlays: its walk. -/
import Derived.Test.YtmmkncocgjgapaaZFpPlaysA
set_option linter.unusedVariables false
namespace Go.Proofs.Ytmmkncocgjgapaa.Fp
open Go.RowKit Fl

set_option maxRecDepth 100000 in
set_option maxHeartbeats 4000000 in
theorem FilePlays_no {w : World} (S B room : Int) (a : Option Addr) (n c : Nat) (h : ¬ (Dev.NewFits S B ∧ room ≤ 100000 ∧ B ≤ 5000)) :
    Calls Try.prog 4 #[.agg #[.int .i64 S, .int .i64 B, .int .i64 room], .slice a n c] w (fun e w' => e = .returned (.bool true) ∧ Below w.heap.size w w') := by
  have hbl : Below w.heap.size w (w.alloc (.cells #[.int .i64 S, .int .i64 B, .int .i64 room] 28)) := (Below.refl _ _).alloc (Nat.le_refl _) _
  have HB := Lib.hid hbl
  have hF := Blk.new w 28 #[.int .i64 S, .int .i64 B, .int .i64 room]
  have HW := Lib.hid (work_no S B room (w.alloc (.cells #[.int .i64 S, .int .i64 B, .int .i64 room] 28)) h)
  clear hbl h
  go_enter Try.func4, Try.ntmps4
  go_wp2_with fail
  generalize w.alloc (.cells #[.int .i64 S, .int .i64 B, .int .i64 room] 28) = w1 at *
  have k0 : w1.cell? ⟨w.heap.size, 0, none⟩ = some (.int .i64 S) := hF.cell 0
  have k1 : w1.cell? ⟨w.heap.size, 1, none⟩ = some (.int .i64 B) := hF.cell 1
  have k2 : w1.cell? ⟨w.heap.size, 2, none⟩ = some (.int .i64 room) := hF.cell 2
  clear hF
  go_wp2_with fail
  refine HW.out.mono ?_
  rintro e w2 ⟨rfl, hb2⟩
  go_wp2_with fail
  refine (awake10_any w2).mono ?_
  rintro e w3 ⟨rfl, hb3⟩
  go_wp2_with fail
  refine (awake10_any w3).mono ?_
  rintro e w4 ⟨rfl, hb4⟩
  have HB4 := Lib.hid (((HB.out.trans (hb2.mono HB.out.size)).trans (hb3.mono (by have := HB.out.size; have := hb2.size; omega))).trans (hb4.mono (by have := HB.out.size; have := hb2.size; have := hb3.size; omega)))
  clear hb2 hb3 hb4
  go_wp2_with fail
  go_ret
  exact ⟨rfl, HB4.out⟩

/-- The law's loop: what holds ahead of each Op. -/
def PLoop (w : World) (pb : Nat) (size blocks : Nat) (room : Int) (K : Key) (st n : Nat) (iv : Value) (wr : World) : Prop :=
  ∃ (i : Nat) (O : Nat → Prop) (W : Wk) (S : PS) (mo dw : Ow) (tw : Nat → Option Nat) (V : Nat → Value), iv = .int .i64 (i : Int) ∧ i ≤ n ∧ Full wr O K W S mo dw tw st V S.C S.n ∧ S.ws.length ≤ i ∧ S.fs.length ≤ i ∧ S.rs.length ≤ i ∧ W.D.size = size ∧ W.D.acts ≤ i * 5001 ∧ Blk wr pb 28 #[.int .i64 (size : Int), .int .i64 (blocks : Int), .int .i64 room] ∧ Below w.heap.size w wr

set_option maxRecDepth 100000 in
set_option maxHeartbeats 8000000 in
theorem FilePlays_yes {w : World} (S B : Nat) (room : Int) (a : Option Addr) (n c : Nat) (h8 : 8 ≤ S) (h256 : S ≤ 256) (hB : B ≤ 5000) (hr : room ≤ 100000) (hr2 : -9223372036854775808 ≤ room) (hT : OpsAt w a n) :
    Calls Try.prog 4 #[.agg #[.int .i64 (S : Int), .int .i64 (B : Int), .int .i64 room], .slice a n c] w (fun e w' => e = .returned (.bool true) ∧ Below w.heap.size w w') := by
  have hbl : Below w.heap.size w (w.alloc (.cells #[.int .i64 (S : Int), .int .i64 (B : Int), .int .i64 room] 28)) := (Below.refl _ _).alloc (Nat.le_refl _) _
  have HB := Lib.hid hbl
  have hF := Blk.new w 28 #[.int .i64 (S : Int), .int .i64 (B : Int), .int .i64 room]
  have HW := Lib.hid (work_ok S B room (w.alloc (.cells #[.int .i64 (S : Int), .int .i64 (B : Int), .int .i64 room] 28)) h8 h256 hB hr hr2)
  have HF := Lib.hid hF
  have HTP := Lib.hid hT
  have hz0 : w.heap.size < (w.alloc (.cells #[.int .i64 (S : Int), .int .i64 (B : Int), .int .i64 room] 28)).heap.size := hF.lt
  clear hbl hF hT
  go_enter Try.func4, Try.ntmps4
  go_wp2_with fail
  generalize w.alloc (.cells #[.int .i64 (S : Int), .int .i64 (B : Int), .int .i64 room] 28) = w1 at *
  have k0 : w1.cell? ⟨w.heap.size, 0, none⟩ = some (.int .i64 (S : Int)) := HF.out.cell 0
  have k1 : w1.cell? ⟨w.heap.size, 1, none⟩ = some (.int .i64 (B : Int)) := HF.out.cell 1
  have k2 : w1.cell? ⟨w.heap.size, 2, none⟩ = some (.int .i64 room) := HF.out.cell 2
  go_wp2_with fail
  refine HW.out.mono ?_
  rintro e w2 ⟨K, rfl, hI2, hK, hb2⟩
  have HI2 := Lib.hid hI2
  have HK := Lib.hid hK
  have HB2 := Lib.hid hb2
  clear hI2 hK hb2 k0 k1 k2 HW
  go_wp2_with fail
  refine (awake10_any w2).mono ?_
  rintro e w3 ⟨rfl, hb3⟩
  have HI3 := Lib.hid (HI2.out.below hb3)
  have HB3 := Lib.hid (HB2.out.trans (hb3.mono HB2.out.size))
  clear hb3 HI2 HB2
  by_cases hbig : (80 : Int) < (n : Int)
  · go_wp2_with fail
    refine (awake10_any w3).mono ?_
    rintro e w4 ⟨rfl, hb4⟩
    have HB4 := Lib.hid (HB.out.trans ((HB3.out.trans (hb4.mono HB3.out.size)).mono (Nat.le_of_lt hz0)))
    clear hb4
    go_wp2_with fail
    go_ret
    exact ⟨rfl, HB4.out⟩
  have hnn : (n : Int) ≤ 80 := by omega
  clear hbig
  have hb4 : Below w3.heap.size w3 (w3.alloc (.cells #[P K.wk, Value.slice none 0 0, Value.slice none 0 0, Value.slice none 0 0, Value.slice none 0 0, Value.slice none 0 0, Value.slice none 0 0, Value.slice none 0 0, Value.slice none 0 0, Value.slice none 0 0, Value.slice none 0 0, Value.slice none 0 0, Value.slice none 0 0] 61)) := (Below.refl _ _).alloc (Nat.le_refl _) _
  have HS4 := Lib.hid (Blk.new w3 61 #[P K.wk, Value.slice none 0 0, Value.slice none 0 0, Value.slice none 0 0, Value.slice none 0 0, Value.slice none 0 0, Value.slice none 0 0, Value.slice none 0 0, Value.slice none 0 0, Value.slice none 0 0, Value.slice none 0 0, Value.slice none 0 0, Value.slice none 0 0])
  have HI4 := Lib.hid (HI3.out.below hb4)
  have HB4 := Lib.hid (HB.out.trans ((HB3.out.trans (hb4.mono HB3.out.size)).mono (Nat.le_of_lt hz0)))
  have HF4 := Lib.hid ((HF.out.below HB3.out HF.out.lt).below hb4 (HF.out.below HB3.out HF.out.lt).lt)
  have hz3 : w1.heap.size ≤ w3.heap.size := HB3.out.size
  have HZ4 := Lib.hid hb4.size
  clear hb4 HI3
  go_wp2_with fail
  generalize (w3.alloc (.cells #[P K.wk, Value.slice none 0 0, Value.slice none 0 0, Value.slice none 0 0, Value.slice none 0 0, Value.slice none 0 0, Value.slice none 0 0, Value.slice none 0 0, Value.slice none 0 0, Value.slice none 0 0, Value.slice none 0 0, Value.slice none 0 0, Value.slice none 0 0] 61)) = w4 at *
  generalize w3.heap.size = st at *
  generalize hpb : w.heap.size = pb at *
  have hKb : pb < K.base := by have := HK.out; omega
  go_loopw [8] (fun iv wr => PLoop w pb S B room K st n iv wr) (fun iv _ => n - (intOf iv).toNat)
  case atStart => exact ⟨0, O0 K, wk0 S B room, ⟨[], [], []⟩, _, _, _, _, rfl, by omega, fresh_full HI4.out ⟨sure_fresh S B, rfl⟩ ⟨rfl, hB⟩ rfl (fun g hg => by unfold O0; have := HK.out; have := HZ4.out; omega) (by have := HK.out; omega) HS4.out, Nat.le_refl _, Nat.le_refl _, Nat.le_refl _, rfl, by simp [wk0, Dev.fresh], HF4.out, by rw [hpb]; exact HB4.out⟩
  case round =>
    obtain ⟨i, O, W, SS, mo, dw, tw, V, rfl, hi, hF, hws, hfs, hrs, hsz, hac, hpl, hbl⟩ := hrel
    have HFU := Lib.hid hF
    have HPL := Lib.hid hpl
    have HBL := Lib.hid hbl
    have hac' : W.D.acts ≤ 1000000 := by
      have : i * 5001 ≤ 80 * 5001 := Nat.mul_le_mul_right _ (by omega)
      omega
    clear hF hpl hbl
    by_cases hlt : (i : Int) < (n : Int)
    · obtain ⟨g, off, kd, k, width, bound, t, rfl, hg, ht5, hcell⟩ := HTP.out i (by omega)
      obtain ⟨z0, z1, z2, z3, z4, hzz⟩ := icells5 ht5
      unfold opc at hcell
      rw [hzz] at hcell
      have hgK : g < K.base := by omega
      have hat : ∀ (j : Nat) (v : Int), j < 9 → (Value.int .i64 kd :: .int .i64 k :: .int .i64 width :: .int .i64 bound :: [.int .i64 z0, .int .i64 z1, .int .i64 z2, .int .i64 z3, .int .i64 z4]).toArray[j]? = some (.int .i64 v) → ∀ w', Below K.base wr w' → w'.cell? ⟨g, off + i * 9 + j, none⟩ = some (.int .i64 v) := fun j v hj hv w' hF => by
        have h1 : wr.cell? ⟨g, off + i * 9 + j, none⟩ = some (.int .i64 v) := (HBL.out.cell hg).trans ((hcell j hj).trans hv)
        exact (hF.cell hgK).trans h1
      have CT : Hid (∀ w', Below K.base wr w' → (w'.cell? ⟨g, off + i * 9, none⟩ = some (.int .i64 kd) ∧ w'.cell? ⟨g, off + i * 9 + 1, none⟩ = some (.int .i64 k) ∧ w'.cell? ⟨g, off + i * 9 + 2, none⟩ = some (.int .i64 width) ∧ w'.cell? ⟨g, off + i * 9 + 3, none⟩ = some (.int .i64 bound) ∧ w'.cell? ⟨g, off + i * 9 + 4, none⟩ = some (.int .i64 z0) ∧ w'.cell? ⟨g, off + i * 9 + 5, none⟩ = some (.int .i64 z1) ∧ w'.cell? ⟨g, off + i * 9 + 6, none⟩ = some (.int .i64 z2) ∧ w'.cell? ⟨g, off + i * 9 + 7, none⟩ = some (.int .i64 z3) ∧ w'.cell? ⟨g, off + i * 9 + 8, none⟩ = some (.int .i64 z4)) ∧ w'.cell? ⟨pb, 0, none⟩ = some (.int .i64 (S : Int))) := Lib.hid (fun w' hF => ⟨⟨hat 0 _ (by omega) rfl w' hF, hat 1 _ (by omega) rfl w' hF, hat 2 _ (by omega) rfl w' hF, hat 3 _ (by omega) rfl w' hF, hat 4 _ (by omega) rfl w' hF, hat 5 _ (by omega) rfl w' hF, hat 6 _ (by omega) rfl w' hF, hat 7 _ (by omega) rfl w' hF, hat 8 _ (by omega) rfl w' hF⟩, (hF.cell (p := ⟨pb, 0, none⟩) hKb).trans (HPL.out.cell 0)⟩)
      have hi00 : (0 : Int) ≤ (i : Int) := by omega
      have hd0 : Below K.base wr wr.drew := (Below.refl _ _).drew
      have HFd := Lib.hid (HFU.out.below (Below.refl _ _).drew)
      clear hat hcell hg
      by_cases hkd : kd ≤ 4
      · have HWR := write_any HFd.out kd k width bound t ht5 (by omega) hac' S hsz.symm
        have hk4 : ¬ 4 < kd := by omega
        unfold opv opc at HWR
        rw [hzz] at HWR
        have HWR := Lib.hid HWR
        go_wp2_with fail
        refine mx_begin (fun w' => Below K.base wr w') [(true, 0), (true, 1), (true, 2), (true, 3), (true, 4), (true, 5), (true, 6), (true, 7), (true, 8), (true, 9), (true, 10), (true, 11), (true, 12), (true, 13), (false, 14), (true, 15), (true, 16), (true, 17), (true, 18), (true, 19), (true, 20), (true, 21), (true, 22), (true, 23), (true, 24), (true, 25), (true, 26), (true, 27), (true, 28), (true, 29), (false, 30), (true, 31), (true, 32), (false, 33)] (by kernel_rfl) (by kernel_rfl) (fun _ _ d _ _ h => by cases d <;> exact h) hd0 ?_
        refine mx_read _ (.slice (some ⟨g, off, none⟩) n c) rfl (by kernel_rfl) (fun w' hF => by simp [execOp, Act.eval, go_sem]) ?_
        refine mx_read _ (.int .i64 (i : Int)) rfl (by kernel_rfl) (fun w' hF => by simp [execOp, Act.eval, go_sem]) ?_
        refine mx_read _ (.pointer (some ⟨g, off + i * 9, none⟩)) rfl (by kernel_rfl) (fun w' hF => by simp [execOp, Act.eval, go_sem, hi00, hlt]) ?_
        refine mx_read _ (.pointer (some ⟨g, off + i * 9, none⟩)) rfl (by kernel_rfl) (fun w' hF => by simp [execOp, Act.eval, go_sem]) ?_
        refine mx_read _ (.int .i64 kd) rfl (by kernel_rfl) (fun w' hF => by obtain ⟨⟨u0, u1, u2, u3, u4, u5, u6, u7, u8⟩, q0⟩ := CT.out _ hF; simp [execOp, Act.eval, go_sem, u0]) ?_
        refine mx_read _ (.bool true) rfl (by kernel_rfl) (fun w' hF => by simp [execOp, Act.eval, go_sem, hkd]) ?_
        refine mx_read _ (.bool true) rfl (by kernel_rfl) (fun w' hF => by simp [execOp, Act.eval, go_sem]) ?_
        refine mx_read _ (P st) rfl (by kernel_rfl) (fun w' hF => by simp [execOp, Act.eval, go_sem]) ?_
        refine mx_read _ (.slice (some ⟨g, off, none⟩) n c) rfl (by kernel_rfl) (fun w' hF => by simp [execOp, Act.eval, go_sem]) ?_
        refine mx_read _ (.int .i64 (i : Int)) rfl (by kernel_rfl) (fun w' hF => by simp [execOp, Act.eval, go_sem]) ?_
        refine mx_read _ (.pointer (some ⟨g, off + i * 9, none⟩)) rfl (by kernel_rfl) (fun w' hF => by simp [execOp, Act.eval, go_sem, hi00, hlt]) ?_
        refine mx_read _ (.agg #[.int .i64 kd, .int .i64 k, .int .i64 width, .int .i64 bound, .int .i64 z0, .int .i64 z1, .int .i64 z2, .int .i64 z3, .int .i64 z4]) rfl (by kernel_rfl) (fun w' hF => by obtain ⟨⟨u0, u1, u2, u3, u4, u5, u6, u7, u8⟩, q0⟩ := CT.out _ hF; simp [execOp, Act.eval, go_sem, u0, u1, u2, u3, u4, u5, u6, u7, u8]) ?_
        refine mx_read _ (.pointer (some ⟨pb, 0, none⟩)) rfl (by kernel_rfl) (fun w' hF => by simp [execOp, Act.eval, go_sem]) ?_
        refine mx_read _ (.int .i64 (S : Int)) rfl (by kernel_rfl) (fun w' hF => by obtain ⟨⟨u0, u1, u2, u3, u4, u5, u6, u7, u8⟩, q0⟩ := CT.out _ hF; simp [execOp, Act.eval, go_sem, q0]) ?_
        refine mx_one _ rfl (by kernel_rfl) (fun K8 hK8 => ?_)
        go_simp
        refine HWR.out.mono ?_
        rintro e w5 ⟨rfl, hb5, O5, W5, S5, mo5, dw5, tw5, V5, h5, hsz5, hac5, hws5, hfs5, hrs5⟩
        have hd5 : Below K.base wr w5 := hd0.trans hb5
        refine hK8.out _ _ (fun _ => hd5) ?_
        clear hK8 K8
        refine mx_read _ (.bool false) rfl (by kernel_rfl) (fun w' hF => by simp [execOp, Act.eval, go_sem]) ?_
        refine mx_read _ (.bool false) rfl (by kernel_rfl) (fun w' hF => by simp [execOp, Act.eval, go_sem]) ?_
        refine mx_read _ (.bool false) rfl (by kernel_rfl) (fun w' hF => by simp [execOp, Act.eval, go_sem]) ?_
        refine mx_read _ (.slice (some ⟨g, off, none⟩) n c) rfl (by kernel_rfl) (fun w' hF => by simp [execOp, Act.eval, go_sem]) ?_
        refine mx_read _ (.int .i64 (i : Int)) rfl (by kernel_rfl) (fun w' hF => by simp [execOp, Act.eval, go_sem]) ?_
        refine mx_read _ (.pointer (some ⟨g, off + i * 9, none⟩)) rfl (by kernel_rfl) (fun w' hF => by simp [execOp, Act.eval, go_sem, hi00, hlt]) ?_
        refine mx_read _ (.pointer (some ⟨g, off + i * 9, none⟩)) rfl (by kernel_rfl) (fun w' hF => by simp [execOp, Act.eval, go_sem]) ?_
        refine mx_read _ (.int .i64 kd) rfl (by kernel_rfl) (fun w' hF => by obtain ⟨⟨u0, u1, u2, u3, u4, u5, u6, u7, u8⟩, q0⟩ := CT.out _ hF; simp [execOp, Act.eval, go_sem, u0]) ?_
        refine mx_read _ (.bool false) rfl (by kernel_rfl) (fun w' hF => by simp [execOp, Act.eval, go_sem, hk4]) ?_
        refine mx_read _ (.bool false) rfl (by kernel_rfl) (fun w' hF => by simp [execOp, Act.eval, go_sem]) ?_
        refine mx_skip _ rfl (by kernel_rfl) ?_
        refine mx_skip _ rfl (by kernel_rfl) ?_
        refine mx_skip _ rfl (by kernel_rfl) ?_
        refine mx_skip _ rfl (by kernel_rfl) ?_
        refine mx_skip _ rfl (by kernel_rfl) ?_
        refine mx_one_skip _ rfl hd5 (by kernel_rfl) ?_
        refine mx_skip _ rfl (by kernel_rfl) ?_
        refine mx_read _ (.bool false) rfl (by kernel_rfl) (fun w' hF => by simp [execOp, Act.eval, go_sem]) ?_
        refine mx_one _ rfl (by kernel_rfl) (fun K8 hK8 => ?_)
        go_simp
        refine hK8.out _ _ (fun h => absurd rfl h) ?_
        clear hK8 K8
        refine mx_end ?_
        have H5 := Lib.hid h5
        clear h5 HWR HFd HFU CT
        have HB5 := Lib.hid ((HBL.out.trans (hd5.mono (by omega))) : Below w.heap.size w w5)
        have HP5 := Lib.hid (HPL.out.below hd5 hKb)
        obtain ⟨la, lc, lu, lp⟩ := H5.out.bools5
        obtain ⟨ra, rc, ru, rp⟩ := H5.out.bools12
        have LP := Lib.hid lp
        have RP := Lib.hid rp
        have hw5 : S5.ws.length ≤ 100 := by omega
        have hr5 : S5.rs.length ≤ 100 := by omega
        have HUS := Lib.hid (used_w H5.out.pi.wk)
        have HUU := Lib.hid H5.out.pi.used
        clear hd5 hb5 lp rp HBL HPL
        go_wp2_with fail
        go_loopw [9, 10] (fun nv iv wr => CntLoop S5.ws (fun e => e.op) 0 w5 nv iv wr) (fun _ iv _ => S5.ws.length - (intOf iv).toNat)
        case atStart => exact ⟨0, by simp, rfl, Nat.zero_le _, rfl⟩
        case round =>
          obtain ⟨q, rfl, rfl, hq, rfl⟩ := hrel
          have hcl : (S5.ws.take q).countP (fun e => e.op) ≤ 100 := Nat.le_trans List.countP_le_length (by rw [List.length_take]; omega)
          by_cases hqn : q < S5.ws.length
          · obtain ⟨lg, rfl, lcell⟩ := LP.out q hqn
            have q0 : (0 : Int) ≤ (q : Int) := by omega
            have q1 : (q : Int) < (S5.ws.length : Int) := by omega
            have hcn := count_next (p := fun (e : WE) => e.op) hqn
            cases hop : S5.ws[q].op with
            | true =>
              rw [hop] at lcell
              have HCN := Lib.hid hcn
              clear hcn
              have hnw : IntKind.i64.wrap (((0 + (S5.ws.take q).countP (fun e => e.op) : Nat) : Int) + 1) = ((0 + (S5.ws.take q).countP (fun e => e.op) : Nat) : Int) + 1 := by rw [IntKind.wrap_i64]; omega
              go_wp2_with fail
              go_roundw
              case rel => exact ⟨q + 1, by rw [HCN.out]; simp [hop], by go_num, by omega, rfl⟩
              case measure => simp [intOf]; omega
            | false =>
              rw [hop] at lcell
              have HCN := Lib.hid hcn
              clear hcn
              go_wp2_with fail
              go_roundw
              case rel => exact ⟨q + 1, by rw [HCN.out]; simp [hop], by go_num, by omega, rfl⟩
              case measure => simp [intOf]; omega
          · have hqe : q = S5.ws.length := by omega
            subst hqe
            rw [List.take_length]
            have hlc : S5.ws.countP (fun e => e.op) ≤ 100 := Nat.le_trans List.countP_le_length hw5
            generalize hLC : S5.ws.countP (fun e => e.op) = lcn at *
            clear LP hcl hqn
            go_wp2_with fail
            go_loopw [9, 11] (fun nv iv wr => CntLoop S5.rs (fun e => e.rd) (0 + lcn) w5 nv iv wr) (fun _ iv _ => S5.rs.length - (intOf iv).toNat)
            case atStart => exact ⟨0, by simp, rfl, Nat.zero_le _, rfl⟩
            case round =>
              obtain ⟨q, rfl, rfl, hq, rfl⟩ := hrel
              have hcl : (S5.rs.take q).countP (fun e => e.rd) ≤ 100 := Nat.le_trans List.countP_le_length (by rw [List.length_take]; omega)
              by_cases hqn : q < S5.rs.length
              · obtain ⟨lg, rfl, lcell⟩ := RP.out q hqn
                have q0 : (0 : Int) ≤ (q : Int) := by omega
                have q1 : (q : Int) < (S5.rs.length : Int) := by omega
                have hcn := count_next (p := fun (e : RE) => e.rd) hqn
                cases hop : S5.rs[q].rd with
                | true =>
                  rw [hop] at lcell
                  have HCN := Lib.hid hcn
                  clear hcn
                  have hnw : IntKind.i64.wrap (((0 + lcn + (S5.rs.take q).countP (fun e => e.rd) : Nat) : Int) + 1) = ((0 + lcn + (S5.rs.take q).countP (fun e => e.rd) : Nat) : Int) + 1 := by rw [IntKind.wrap_i64]; omega
                  go_wp2_with fail
                  go_roundw
                  case rel => exact ⟨q + 1, by rw [HCN.out]; simp [hop]; omega, by go_num, by omega, rfl⟩
                  case measure => simp [intOf]; omega
                | false =>
                  rw [hop] at lcell
                  have HCN := Lib.hid hcn
                  clear hcn
                  go_wp2_with fail
                  go_roundw
                  case rel => exact ⟨q + 1, by rw [HCN.out]; simp [hop], by go_num, by omega, rfl⟩
                  case measure => simp [intOf]; omega
              · have hqe : q = S5.rs.length := by omega
                subst hqe
                rw [List.take_length]
                have hlc2 : S5.rs.countP (fun e => e.rd) ≤ 100 := Nat.le_trans List.countP_le_length hr5
                have HLV : Hid (S5.live = lcn + S5.rs.countP (fun e => e.rd)) := Lib.hid (by unfold PS.live; rw [hLC])
                generalize S5.rs.countP (fun e => e.rd) = rcn at *
                clear RP hcl hqn hLC
                go_wp2_with fail
                have hus : W5.A.used = (0 + lcn + rcn) * S := by rw [HUU.out, HLV.out, hsz5, hsz, Nat.zero_add]
                have hsz9 : (0 + lcn + rcn) * S ≤ 200 * 256 := Nat.mul_le_mul (by omega) h256
                have hmul : IntKind.i64.wrap (((0 + lcn + rcn : Nat) : Int) * (S : Int)) = (W5.A.used : Int) := by
                  rw [← Int.natCast_mul, hus, IntKind.wrap_i64]; omega
                have hmul' : IntKind.i64.wrap (((lcn : Int) + (rcn : Int)) * (S : Int)) = (W5.A.used : Int) := by rw [← hmul]; simp
                have HQA : Hid (∀ m, Calls Try.prog 18 #[P K.wk] (w5.drewN m) fun e w' => e = .returned (P K.a) ∧ w5.drewN m = w') := Lib.hid (fun m => arena_any (H5.out.pi.wk.drewN m))
                have HQU : Hid (∀ m, Calls Try.prog 19 #[P K.a] (w5.drewN m) fun e w' => e = .returned (.int .i64 (W5.A.used : Int)) ∧ w5.drewN m = w') := Lib.hid (fun m => used_w (H5.out.pi.wk.drewN m))
                have hp0 : w5.cell? ⟨pb, 0, none⟩ = some (.int .i64 (S : Int)) := HP5.out.cell 0
                go_quiet ((first | (go_at_call 18; exact Calls.quiet_of_same' (HQA.out _)) | (go_at_call 19; exact Calls.quiet_of_same' (HQU.out _))))
                go_wp2_with fail
                go_roundw
                case rel => exact ⟨i + 1, O5, W5, S5, mo5, dw5, tw5, V5, by go_num, by omega, H5.out.below (below_drewN (Below.refl _ _) _), by omega, by omega, by omega, by omega, by omega, HP5.out, below_drewN HB5.out _⟩
                case measure => simp [intOf]; omega
      · have HWR := read_any HFd.out kd k width bound t ht5 (by omega) hac'
        have hk4 : 4 < kd := by omega
        unfold opv opc at HWR
        rw [hzz] at HWR
        have HWR := Lib.hid HWR
        go_wp2_with fail
        refine mx_begin (fun w' => Below K.base wr w') [(true, 0), (true, 1), (true, 2), (true, 3), (true, 4), (true, 5), (true, 6), (true, 7), (true, 8), (true, 9), (true, 10), (true, 11), (true, 12), (true, 13), (false, 14), (true, 15), (true, 16), (true, 17), (true, 18), (true, 19), (true, 20), (true, 21), (true, 22), (true, 23), (true, 24), (true, 25), (true, 26), (true, 27), (true, 28), (true, 29), (false, 30), (true, 31), (true, 32), (false, 33)] (by kernel_rfl) (by kernel_rfl) (fun _ _ d _ _ h => by cases d <;> exact h) hd0 ?_
        refine mx_read _ (.slice (some ⟨g, off, none⟩) n c) rfl (by kernel_rfl) (fun w' hF => by simp [execOp, Act.eval, go_sem]) ?_
        refine mx_read _ (.int .i64 (i : Int)) rfl (by kernel_rfl) (fun w' hF => by simp [execOp, Act.eval, go_sem]) ?_
        refine mx_read _ (.pointer (some ⟨g, off + i * 9, none⟩)) rfl (by kernel_rfl) (fun w' hF => by simp [execOp, Act.eval, go_sem, hi00, hlt]) ?_
        refine mx_read _ (.pointer (some ⟨g, off + i * 9, none⟩)) rfl (by kernel_rfl) (fun w' hF => by simp [execOp, Act.eval, go_sem]) ?_
        refine mx_read _ (.int .i64 kd) rfl (by kernel_rfl) (fun w' hF => by obtain ⟨⟨u0, u1, u2, u3, u4, u5, u6, u7, u8⟩, q0⟩ := CT.out _ hF; simp [execOp, Act.eval, go_sem, u0]) ?_
        refine mx_read _ (.bool false) rfl (by kernel_rfl) (fun w' hF => by simp [execOp, Act.eval, go_sem, hkd]) ?_
        refine mx_read _ (.bool false) rfl (by kernel_rfl) (fun w' hF => by simp [execOp, Act.eval, go_sem]) ?_
        refine mx_skip _ rfl (by kernel_rfl) ?_
        refine mx_skip _ rfl (by kernel_rfl) ?_
        refine mx_skip _ rfl (by kernel_rfl) ?_
        refine mx_skip _ rfl (by kernel_rfl) ?_
        refine mx_skip _ rfl (by kernel_rfl) ?_
        refine mx_skip _ rfl (by kernel_rfl) ?_
        refine mx_skip _ rfl (by kernel_rfl) ?_
        refine mx_one_skip _ rfl hd0 (by kernel_rfl) ?_
        refine mx_skip _ rfl (by kernel_rfl) ?_
        refine mx_read _ (.bool false) rfl (by kernel_rfl) (fun w' hF => by simp [execOp, Act.eval, go_sem]) ?_
        refine mx_read _ (.bool false) rfl (by kernel_rfl) (fun w' hF => by simp [execOp, Act.eval, go_sem]) ?_
        refine mx_read _ (.slice (some ⟨g, off, none⟩) n c) rfl (by kernel_rfl) (fun w' hF => by simp [execOp, Act.eval, go_sem]) ?_
        refine mx_read _ (.int .i64 (i : Int)) rfl (by kernel_rfl) (fun w' hF => by simp [execOp, Act.eval, go_sem]) ?_
        refine mx_read _ (.pointer (some ⟨g, off + i * 9, none⟩)) rfl (by kernel_rfl) (fun w' hF => by simp [execOp, Act.eval, go_sem, hi00, hlt]) ?_
        refine mx_read _ (.pointer (some ⟨g, off + i * 9, none⟩)) rfl (by kernel_rfl) (fun w' hF => by simp [execOp, Act.eval, go_sem]) ?_
        refine mx_read _ (.int .i64 kd) rfl (by kernel_rfl) (fun w' hF => by obtain ⟨⟨u0, u1, u2, u3, u4, u5, u6, u7, u8⟩, q0⟩ := CT.out _ hF; simp [execOp, Act.eval, go_sem, u0]) ?_
        refine mx_read _ (.bool true) rfl (by kernel_rfl) (fun w' hF => by simp [execOp, Act.eval, go_sem, hk4]) ?_
        refine mx_read _ (.bool true) rfl (by kernel_rfl) (fun w' hF => by simp [execOp, Act.eval, go_sem]) ?_
        refine mx_read _ (P st) rfl (by kernel_rfl) (fun w' hF => by simp [execOp, Act.eval, go_sem]) ?_
        refine mx_read _ (.slice (some ⟨g, off, none⟩) n c) rfl (by kernel_rfl) (fun w' hF => by simp [execOp, Act.eval, go_sem]) ?_
        refine mx_read _ (.int .i64 (i : Int)) rfl (by kernel_rfl) (fun w' hF => by simp [execOp, Act.eval, go_sem]) ?_
        refine mx_read _ (.pointer (some ⟨g, off + i * 9, none⟩)) rfl (by kernel_rfl) (fun w' hF => by simp [execOp, Act.eval, go_sem, hi00, hlt]) ?_
        refine mx_read _ (.agg #[.int .i64 kd, .int .i64 k, .int .i64 width, .int .i64 bound, .int .i64 z0, .int .i64 z1, .int .i64 z2, .int .i64 z3, .int .i64 z4]) rfl (by kernel_rfl) (fun w' hF => by obtain ⟨⟨u0, u1, u2, u3, u4, u5, u6, u7, u8⟩, q0⟩ := CT.out _ hF; simp [execOp, Act.eval, go_sem, u0, u1, u2, u3, u4, u5, u6, u7, u8]) ?_
        refine mx_one _ rfl (by kernel_rfl) (fun K8 hK8 => ?_)
        go_simp
        refine HWR.out.mono ?_
        rintro e w5 ⟨rfl, hb5, O5, W5, S5, mo5, dw5, tw5, V5, h5, hsz5, hac5, hws5, hfs5, hrs5⟩
        have hd5 : Below K.base wr w5 := hd0.trans hb5
        refine hK8.out _ _ (fun _ => hd5) ?_
        clear hK8 K8
        refine mx_read _ (.bool false) rfl (by kernel_rfl) (fun w' hF => by simp [execOp, Act.eval, go_sem]) ?_
        refine mx_read _ (.bool false) rfl (by kernel_rfl) (fun w' hF => by simp [execOp, Act.eval, go_sem]) ?_
        refine mx_one _ rfl (by kernel_rfl) (fun K8 hK8 => ?_)
        go_simp
        refine hK8.out _ _ (fun h => absurd rfl h) ?_
        clear hK8 K8
        refine mx_end ?_
        have H5 := Lib.hid h5
        clear h5 HWR HFd HFU CT
        have HB5 := Lib.hid ((HBL.out.trans (hd5.mono (by omega))) : Below w.heap.size w w5)
        have HP5 := Lib.hid (HPL.out.below hd5 hKb)
        obtain ⟨la, lc, lu, lp⟩ := H5.out.bools5
        obtain ⟨ra, rc, ru, rp⟩ := H5.out.bools12
        have LP := Lib.hid lp
        have RP := Lib.hid rp
        have hw5 : S5.ws.length ≤ 100 := by omega
        have hr5 : S5.rs.length ≤ 100 := by omega
        have HUS := Lib.hid (used_w H5.out.pi.wk)
        have HUU := Lib.hid H5.out.pi.used
        clear hd5 hb5 lp rp HBL HPL
        go_wp2_with fail
        go_loopw [9, 10] (fun nv iv wr => CntLoop S5.ws (fun e => e.op) 0 w5 nv iv wr) (fun _ iv _ => S5.ws.length - (intOf iv).toNat)
        case atStart => exact ⟨0, by simp, rfl, Nat.zero_le _, rfl⟩
        case round =>
          obtain ⟨q, rfl, rfl, hq, rfl⟩ := hrel
          have hcl : (S5.ws.take q).countP (fun e => e.op) ≤ 100 := Nat.le_trans List.countP_le_length (by rw [List.length_take]; omega)
          by_cases hqn : q < S5.ws.length
          · obtain ⟨lg, rfl, lcell⟩ := LP.out q hqn
            have q0 : (0 : Int) ≤ (q : Int) := by omega
            have q1 : (q : Int) < (S5.ws.length : Int) := by omega
            have hcn := count_next (p := fun (e : WE) => e.op) hqn
            cases hop : S5.ws[q].op with
            | true =>
              rw [hop] at lcell
              have HCN := Lib.hid hcn
              clear hcn
              have hnw : IntKind.i64.wrap (((0 + (S5.ws.take q).countP (fun e => e.op) : Nat) : Int) + 1) = ((0 + (S5.ws.take q).countP (fun e => e.op) : Nat) : Int) + 1 := by rw [IntKind.wrap_i64]; omega
              go_wp2_with fail
              go_roundw
              case rel => exact ⟨q + 1, by rw [HCN.out]; simp [hop], by go_num, by omega, rfl⟩
              case measure => simp [intOf]; omega
            | false =>
              rw [hop] at lcell
              have HCN := Lib.hid hcn
              clear hcn
              go_wp2_with fail
              go_roundw
              case rel => exact ⟨q + 1, by rw [HCN.out]; simp [hop], by go_num, by omega, rfl⟩
              case measure => simp [intOf]; omega
          · have hqe : q = S5.ws.length := by omega
            subst hqe
            rw [List.take_length]
            have hlc : S5.ws.countP (fun e => e.op) ≤ 100 := Nat.le_trans List.countP_le_length hw5
            generalize hLC : S5.ws.countP (fun e => e.op) = lcn at *
            clear LP hcl hqn
            go_wp2_with fail
            go_loopw [9, 11] (fun nv iv wr => CntLoop S5.rs (fun e => e.rd) (0 + lcn) w5 nv iv wr) (fun _ iv _ => S5.rs.length - (intOf iv).toNat)
            case atStart => exact ⟨0, by simp, rfl, Nat.zero_le _, rfl⟩
            case round =>
              obtain ⟨q, rfl, rfl, hq, rfl⟩ := hrel
              have hcl : (S5.rs.take q).countP (fun e => e.rd) ≤ 100 := Nat.le_trans List.countP_le_length (by rw [List.length_take]; omega)
              by_cases hqn : q < S5.rs.length
              · obtain ⟨lg, rfl, lcell⟩ := RP.out q hqn
                have q0 : (0 : Int) ≤ (q : Int) := by omega
                have q1 : (q : Int) < (S5.rs.length : Int) := by omega
                have hcn := count_next (p := fun (e : RE) => e.rd) hqn
                cases hop : S5.rs[q].rd with
                | true =>
                  rw [hop] at lcell
                  have HCN := Lib.hid hcn
                  clear hcn
                  have hnw : IntKind.i64.wrap (((0 + lcn + (S5.rs.take q).countP (fun e => e.rd) : Nat) : Int) + 1) = ((0 + lcn + (S5.rs.take q).countP (fun e => e.rd) : Nat) : Int) + 1 := by rw [IntKind.wrap_i64]; omega
                  go_wp2_with fail
                  go_roundw
                  case rel => exact ⟨q + 1, by rw [HCN.out]; simp [hop]; omega, by go_num, by omega, rfl⟩
                  case measure => simp [intOf]; omega
                | false =>
                  rw [hop] at lcell
                  have HCN := Lib.hid hcn
                  clear hcn
                  go_wp2_with fail
                  go_roundw
                  case rel => exact ⟨q + 1, by rw [HCN.out]; simp [hop], by go_num, by omega, rfl⟩
                  case measure => simp [intOf]; omega
              · have hqe : q = S5.rs.length := by omega
                subst hqe
                rw [List.take_length]
                have hlc2 : S5.rs.countP (fun e => e.rd) ≤ 100 := Nat.le_trans List.countP_le_length hr5
                have HLV : Hid (S5.live = lcn + S5.rs.countP (fun e => e.rd)) := Lib.hid (by unfold PS.live; rw [hLC])
                generalize S5.rs.countP (fun e => e.rd) = rcn at *
                clear RP hcl hqn hLC
                go_wp2_with fail
                have hus : W5.A.used = (0 + lcn + rcn) * S := by rw [HUU.out, HLV.out, hsz5, hsz, Nat.zero_add]
                have hsz9 : (0 + lcn + rcn) * S ≤ 200 * 256 := Nat.mul_le_mul (by omega) h256
                have hmul : IntKind.i64.wrap (((0 + lcn + rcn : Nat) : Int) * (S : Int)) = (W5.A.used : Int) := by
                  rw [← Int.natCast_mul, hus, IntKind.wrap_i64]; omega
                have hmul' : IntKind.i64.wrap (((lcn : Int) + (rcn : Int)) * (S : Int)) = (W5.A.used : Int) := by rw [← hmul]; simp
                have HQA : Hid (∀ m, Calls Try.prog 18 #[P K.wk] (w5.drewN m) fun e w' => e = .returned (P K.a) ∧ w5.drewN m = w') := Lib.hid (fun m => arena_any (H5.out.pi.wk.drewN m))
                have HQU : Hid (∀ m, Calls Try.prog 19 #[P K.a] (w5.drewN m) fun e w' => e = .returned (.int .i64 (W5.A.used : Int)) ∧ w5.drewN m = w') := Lib.hid (fun m => used_w (H5.out.pi.wk.drewN m))
                have hp0 : w5.cell? ⟨pb, 0, none⟩ = some (.int .i64 (S : Int)) := HP5.out.cell 0
                go_quiet ((first | (go_at_call 18; exact Calls.quiet_of_same' (HQA.out _)) | (go_at_call 19; exact Calls.quiet_of_same' (HQU.out _))))
                go_wp2_with fail
                go_roundw
                case rel => exact ⟨i + 1, O5, W5, S5, mo5, dw5, tw5, V5, by go_num, by omega, H5.out.below (below_drewN (Below.refl _ _) _), by omega, by omega, by omega, by omega, by omega, HP5.out, below_drewN HB5.out _⟩
                case measure => simp [intOf]; omega
    · go_wp2_with fail
      go_ret
      exact ⟨rfl, by rw [← hpb]; exact HBL.out⟩

theorem FilePlays_law {w : World} (cs : Array Value) (p : Int × Int × Int) (h : rdPair 1 2 (rdInt .i64) (rdPair 1 1 (rdInt .i64) (rdInt .i64)) w cs.toList p) (a : Option Addr) (n c : Nat) (l : List (Int × Int × Int × Int × List Int)) (hl : rdSlice 9 (rdPair 1 8 (rdInt .i64) (rdPair 1 7 (rdInt .i64) (rdPair 1 6 (rdInt .i64) (rdPair 1 5 (rdInt .i64) (rdArr 5 1 (rdInt .i64)))))) w [.slice a n c] l) :
    Calls Try.prog 4 #[.agg cs, .slice a n c] w fun e w' => e = .returned (.bool true) ∧ Below w.heap.size w w' := by
  obtain ⟨rfl, hr⟩ := fp_place_open h
  obtain ⟨S, B, room⟩ := p
  have hT := ops_of hl
  by_cases hf : Dev.NewFits S B ∧ room ≤ 100000 ∧ B ≤ 5000
  · obtain ⟨⟨h1, h2, h3, h4⟩, h5', h6⟩ := hf
    obtain ⟨s, rfl⟩ := Int.eq_ofNat_of_zero_le (show 0 ≤ S by omega)
    obtain ⟨b, rfl⟩ := Int.eq_ofNat_of_zero_le h3
    exact FilePlays_yes s b room a n c (by omega) (by omega) (by omega) h5' hr hT
  · exact FilePlays_no S B room a n c hf

end Go.Proofs.Ytmmkncocgjgapaa.Fp
