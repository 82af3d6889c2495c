/- The walk of abutmentref11.Cut. -/
import Derived.Test.YtlbaigkpojkfjaaZJnForm
set_option linter.unusedVariables false
namespace Go.Proofs.Ytlbaigkpojkfjaa.Fl
open Go.RowKit

theorem cgo_zeros (t : List Int) : ∀ (ks : List Int) (i : Nat) (acc : List Int), (∀ k ∈ ks, k = 0) → cgo t i acc ks = acc
  | [], _, _, _ => rfl
  | k :: ks, i, acc, h => by
    unfold cgo
    rw [if_pos (h k (List.mem_cons_self ..))]
    exact cgo_zeros t ks _ _ (fun x hx => h x (List.mem_cons_of_mem _ hx))
def RCutLoop (t o : List Int) (w : World) (ob : Nat) (iv : Value) (wr : World) : Prop :=
  ∃ (i : Nat) (acc : List Int) (b : Bool) (sn : List Bool), iv = .int .i64 (i : Int) ∧ i ≤ 5 ∧ acc.length = 5 ∧ cgo t i acc (o.drop i) = cutO t o ∧ fgo b sn (o.drop i) = true ∧ Blk wr ob 57 (tcells acc) ∧ Chg (fun q => q = ob) w wr

set_option maxRecDepth 100000 in
set_option maxHeartbeats 4000000 in
theorem refcut1_any (t0 t1 t2 t3 t4 o0 o1 o2 o3 o4 : Int) (w : World) (hfo : formedO [o0, o1, o2, o3, o4] = true) : Calls Try.prog 46 #[.agg #[.int .i64 t0, .int .i64 t1, .int .i64 t2, .int .i64 t3, .int .i64 t4], .agg #[.int .i64 o0, .int .i64 o1, .int .i64 o2, .int .i64 o3, .int .i64 o4]] w (fun e w' => e = .returned (.agg (tcells (cutO [t0, t1, t2, t3, t4] [o0, o1, o2, o3, o4]))) ∧ Below w.heap.size w w') := by
  obtain ⟨tl, htl⟩ : ∃ tl : List Int, tl = [t0, t1, t2, t3, t4] := ⟨_, rfl⟩
  obtain ⟨o, ho⟩ : ∃ o : List Int, o = [o0, o1, o2, o3, o4] := ⟨_, rfl⟩
  have HFO := Lib.hid (fun W' => refformed_any o0 o1 o2 o3 o4 W')
  rw [formedR_eq, hfo] at HFO
  have hfo2 : formedO o = true := by rw [ho]; exact hfo
  have hrg := fgo_range o _ _ hfo2
  have hlen : o.length = 5 := by rw [ho]; rfl
  have hlent : tl.length = 5 := by rw [htl]; rfl
  have hcell : ∀ i (hi : i < o.length), (#[.int .i64 o0, .int .i64 o1, .int .i64 o2, .int .i64 o3, .int .i64 o4] : Array Value)[i]? = some (.int .i64 o[i]) := by
    subst ho
    intro i hi
    have hi5 : i < 5 := hi
    obtain rfl | rfl | rfl | rfl | rfl : i = 0 ∨ i = 1 ∨ i = 2 ∨ i = 3 ∨ i = 4 := by omega
    all_goals rfl
  have hcellt : ∀ i, i < 5 → (#[.int .i64 t0, .int .i64 t1, .int .i64 t2, .int .i64 t3, .int .i64 t4] : Array Value)[i]? = some (.int .i64 (tl.getD i 0)) := by
    subst htl
    intro i hi5
    obtain rfl | rfl | rfl | rfl | rfl : i = 0 ∨ i = 1 ∨ i = 2 ∨ i = 3 ∨ i = 4 := by omega
    all_goals rfl
  rw [← ho, ← htl]
  have hT := (((Blk.new w 57 #[.int .i64 t0, .int .i64 t1, .int .i64 t2, .int .i64 t3, .int .i64 t4]).alloc (.cells #[.int .i64 o0, .int .i64 o1, .int .i64 o2, .int .i64 o3, .int .i64 o4] 49)).alloc (.cells #[.int .i64 0, .int .i64 0, .int .i64 0, .int .i64 0, .int .i64 0] 57)).alloc (.cells #[.int .i64 0, .int .i64 0, .int .i64 0, .int .i64 0, .int .i64 0] 57)
  have hO := ((Blk.new (w.alloc (.cells #[.int .i64 t0, .int .i64 t1, .int .i64 t2, .int .i64 t3, .int .i64 t4] 57)) 49 #[.int .i64 o0, .int .i64 o1, .int .i64 o2, .int .i64 o3, .int .i64 o4]).alloc (.cells #[.int .i64 0, .int .i64 0, .int .i64 0, .int .i64 0, .int .i64 0] 57)).alloc (.cells #[.int .i64 0, .int .i64 0, .int .i64 0, .int .i64 0, .int .i64 0] 57)
  have hR := (Blk.new ((w.alloc (.cells #[.int .i64 t0, .int .i64 t1, .int .i64 t2, .int .i64 t3, .int .i64 t4] 57)).alloc (.cells #[.int .i64 o0, .int .i64 o1, .int .i64 o2, .int .i64 o3, .int .i64 o4] 49)) 57 #[.int .i64 0, .int .i64 0, .int .i64 0, .int .i64 0, .int .i64 0]).alloc (.cells #[.int .i64 0, .int .i64 0, .int .i64 0, .int .i64 0, .int .i64 0] 57)
  have hC := Blk.new (((w.alloc (.cells #[.int .i64 t0, .int .i64 t1, .int .i64 t2, .int .i64 t3, .int .i64 t4] 57)).alloc (.cells #[.int .i64 o0, .int .i64 o1, .int .i64 o2, .int .i64 o3, .int .i64 o4] 49)).alloc (.cells #[.int .i64 0, .int .i64 0, .int .i64 0, .int .i64 0, .int .i64 0] 57)) 57 #[.int .i64 0, .int .i64 0, .int .i64 0, .int .i64 0, .int .i64 0]
  rw [show (w.alloc (.cells #[.int .i64 t0, .int .i64 t1, .int .i64 t2, .int .i64 t3, .int .i64 t4] 57)).heap.size = w.heap.size + 1 from by simp] at hO
  rw [show ((w.alloc (.cells #[.int .i64 t0, .int .i64 t1, .int .i64 t2, .int .i64 t3, .int .i64 t4] 57)).alloc (.cells #[.int .i64 o0, .int .i64 o1, .int .i64 o2, .int .i64 o3, .int .i64 o4] 49)).heap.size = w.heap.size + 1 + 1 from by simp] at hR
  rw [show (((w.alloc (.cells #[.int .i64 t0, .int .i64 t1, .int .i64 t2, .int .i64 t3, .int .i64 t4] 57)).alloc (.cells #[.int .i64 o0, .int .i64 o1, .int .i64 o2, .int .i64 o3, .int .i64 o4] 49)).alloc (.cells #[.int .i64 0, .int .i64 0, .int .i64 0, .int .i64 0, .int .i64 0] 57)).heap.size = w.heap.size + 1 + 1 + 1 from by simp] at hC
  have hbl : Below w.heap.size w ((((w.alloc (.cells #[.int .i64 t0, .int .i64 t1, .int .i64 t2, .int .i64 t3, .int .i64 t4] 57)).alloc (.cells #[.int .i64 o0, .int .i64 o1, .int .i64 o2, .int .i64 o3, .int .i64 o4] 49)).alloc (.cells #[.int .i64 0, .int .i64 0, .int .i64 0, .int .i64 0, .int .i64 0] 57)).alloc (.cells #[.int .i64 0, .int .i64 0, .int .i64 0, .int .i64 0, .int .i64 0] 57)) := ((((Below.refl _ _).alloc (Nat.le_refl _) _).alloc (by simp) _).alloc (by simp; omega) _).alloc (by simp; omega) _
  have HT := Lib.hid hT
  have HOB := Lib.hid hO
  have HR := Lib.hid hR
  have HCB := Lib.hid hC
  have HB := Lib.hid hbl
  have HRG := Lib.hid hrg
  have HFF := Lib.hid hfo2
  have HL := Lib.hid (And.intro hlen hlent)
  have HCE := Lib.hid hcell
  have HCT := Lib.hid hcellt
  clear hT hO hR hC hbl hrg hfo2 hlen hlent hcell hcellt ho htl hfo
  go_enter Try.func46, Try.ntmps46
  go_wp2_with fail
  generalize ((((w.alloc (.cells #[.int .i64 t0, .int .i64 t1, .int .i64 t2, .int .i64 t3, .int .i64 t4] 57)).alloc (.cells #[.int .i64 o0, .int .i64 o1, .int .i64 o2, .int .i64 o3, .int .i64 o4] 49)).alloc (.cells #[.int .i64 0, .int .i64 0, .int .i64 0, .int .i64 0, .int .i64 0] 57)).alloc (.cells #[.int .i64 0, .int .i64 0, .int .i64 0, .int .i64 0, .int .i64 0] 57)) = w1 at *
  go_loopw [6] (fun iv wr => RCutLoop tl o w1 (w.heap.size + 1 + 1 + 1) iv wr) (fun iv _ => 5 - (intOf iv).toNat)
  case atStart => exact ⟨0, [0, 0, 0, 0, 0], false, _, rfl, by omega, rfl, rfl, HFF.out, HCB.out, Chg.refl _ _⟩
  case round =>
    obtain ⟨i, acc, b, sn, rfl, hi, hacc, hg, hfg, hB, hch⟩ := hrel
    have hTr := HT.out.chg hch (by omega)
    have hOr := HOB.out.chg hch (by omega)
    have hRw := HR.out.chg hch (by omega)
    have HA := Lib.hid hacc
    have HG := Lib.hid hg
    have HFG := Lib.hid hfg
    have HBK := Lib.hid hB
    have HCH := Lib.hid hch
    have HTR := Lib.hid hTr
    have HOR := Lib.hid hOr
    have HRW := Lib.hid hRw
    have b0 : wr.cell? ⟨w.heap.size + 1, 0, none⟩ = some (.int .i64 o0) := hOr.cell 0
    have b1 : wr.cell? ⟨w.heap.size + 1, 1, none⟩ = some (.int .i64 o1) := hOr.cell 1
    have b2 : wr.cell? ⟨w.heap.size + 1, 2, none⟩ = some (.int .i64 o2) := hOr.cell 2
    have b3 : wr.cell? ⟨w.heap.size + 1, 3, none⟩ = some (.int .i64 o3) := hOr.cell 3
    have b4 : wr.cell? ⟨w.heap.size + 1, 4, none⟩ = some (.int .i64 o4) := hOr.cell 4
    clear hacc hg hfg hB hch hTr hOr hRw
    by_cases hlt : (i : Int) < 5
    · have hio : i < o.length := by have := HL.out.1; omega
      obtain ⟨x, hx⟩ : ∃ x, x = o[i] := ⟨_, rfl⟩
      have hxr := HRG.out o[i] (List.getElem_mem hio)
      rw [← hx] at hxr
      have i0 : (0 : Int) ≤ (i : Int) := by omega
      have hd : o.drop i = x :: o.drop (i + 1) := by rw [hx]; exact List.drop_eq_getElem_cons hio
      have HXC := Lib.hid ((HCE.out i hio).trans (by rw [← hx] : some (Value.int .i64 o[i]) = some (.int .i64 x)))
      have HD := Lib.hid hd
      clear hx hd
      go_wp2_with fail
      refine (HFO.out wr).mono ?_
      rintro e w2 ⟨rfl, hb2⟩
      have HO2 := Lib.hid (HOR.out.below hb2 HOR.out.lt)
      have HT2 := Lib.hid (HTR.out.below hb2 HTR.out.lt)
      have HR2 := Lib.hid (HRW.out.below hb2 HRW.out.lt)
      have HBK2 := Lib.hid (HBK.out.below hb2 HBK.out.lt)
      have HCH2 := Lib.hid (HCH.out.trans (Chg.of_below' hb2) (fun _ _ h => h))
      have ci : w2.cell? ⟨w.heap.size + 1, i, none⟩ = some (.int .i64 x) := (HO2.out.cell i).trans HXC.out
      clear hb2 b0 b1 b2 b3 b4
      by_cases hx0 : x = 0
      · subst hx0
        have hfin : acc = cutO tl o := by
          have h1 := HFG.out
          have h2 := HG.out
          rw [HD.out] at h1 h2
          unfold fgo at h1
          rw [if_neg (by rintro (⟨_, h⟩ | h | h); exact h rfl; omega; omega), if_pos rfl] at h1
          rw [← h2, cgo_zeros tl (0 :: o.drop (i + 1)) i acc (fun k hk => by
            rcases List.mem_cons.1 hk with h | h
            · exact h
            · exact fgo_true_zero _ _ h1 k h)]
        obtain ⟨a0, a1, a2, a3, a4, rfl⟩ : ∃ a0 a1 a2 a3 a4 : Int, acc = [a0, a1, a2, a3, a4] := by
          match acc, HA.out with
          | [a, b, c, d, e], _ => exact ⟨_, _, _, _, _, rfl⟩
        have HFIN := Lib.hid hfin
        have hRr := HR2.out
        have hBk := HBK2.out
        have hBw := HB.out.trans (HCH2.out.below_of HB.out.size (fun j hj e => by omega))
        clear hfin hxr
        have y0 : w2.cell? ⟨w.heap.size + 1 + 1 + 1, 0, none⟩ = some (.int .i64 a0) := hBk.cell 0
        have z0 : w2.cell? ⟨w.heap.size + 1 + 1, 0, none⟩ = some (.int .i64 0) := hRr.cell 0
        have f0 := hRr.frozen 0
        have y1 : w2.cell? ⟨w.heap.size + 1 + 1 + 1, 1, none⟩ = some (.int .i64 a1) := hBk.cell 1
        have z1 : w2.cell? ⟨w.heap.size + 1 + 1, 1, none⟩ = some (.int .i64 0) := hRr.cell 1
        have f1 := hRr.frozen 1
        have y2 : w2.cell? ⟨w.heap.size + 1 + 1 + 1, 2, none⟩ = some (.int .i64 a2) := hBk.cell 2
        have z2 : w2.cell? ⟨w.heap.size + 1 + 1, 2, none⟩ = some (.int .i64 0) := hRr.cell 2
        have f2 := hRr.frozen 2
        have y3 : w2.cell? ⟨w.heap.size + 1 + 1 + 1, 3, none⟩ = some (.int .i64 a3) := hBk.cell 3
        have z3 : w2.cell? ⟨w.heap.size + 1 + 1, 3, none⟩ = some (.int .i64 0) := hRr.cell 3
        have f3 := hRr.frozen 3
        have y4 : w2.cell? ⟨w.heap.size + 1 + 1 + 1, 4, none⟩ = some (.int .i64 a4) := hBk.cell 4
        have z4 : w2.cell? ⟨w.heap.size + 1 + 1, 4, none⟩ = some (.int .i64 0) := hRr.cell 4
        have f4 := hRr.frozen 4
        have HZ := Lib.hid (((((hRr.set_ 0 (.int .i64 a0)).set_ 1 (.int .i64 a1)).set_ 2 (.int .i64 a2)).set_ 3 (.int .i64 a3)).set_ 4 (.int .i64 a4))
        have HBB := Lib.hid (((((hBw.setCell (p := ⟨w.heap.size + 1 + 1, 0, none⟩) (show w.heap.size ≤ w.heap.size + 1 + 1 by omega) (.int .i64 a0)).setCell (p := ⟨w.heap.size + 1 + 1, 1, none⟩) (show w.heap.size ≤ w.heap.size + 1 + 1 by omega) (.int .i64 a1)).setCell (p := ⟨w.heap.size + 1 + 1, 2, none⟩) (show w.heap.size ≤ w.heap.size + 1 + 1 by omega) (.int .i64 a2)).setCell (p := ⟨w.heap.size + 1 + 1, 3, none⟩) (show w.heap.size ≤ w.heap.size + 1 + 1 by omega) (.int .i64 a3)).setCell (p := ⟨w.heap.size + 1 + 1, 4, none⟩) (show w.heap.size ≤ w.heap.size + 1 + 1 by omega) (.int .i64 a4))
        clear hRr hBk hBw
        go_wp2_with fail
        generalize (((((w2.setCell ⟨w.heap.size + 1 + 1, 0, none⟩ (.int .i64 a0)).setCell ⟨w.heap.size + 1 + 1, 1, none⟩ (.int .i64 a1)).setCell ⟨w.heap.size + 1 + 1, 2, none⟩ (.int .i64 a2)).setCell ⟨w.heap.size + 1 + 1, 3, none⟩ (.int .i64 a3)).setCell ⟨w.heap.size + 1 + 1, 4, none⟩ (.int .i64 a4)) = w9 at *
        have s0 : w9.cell? ⟨w.heap.size + 1 + 1, 0, none⟩ = some (.int .i64 a0) := HZ.out.cell 0
        have s1 : w9.cell? ⟨w.heap.size + 1 + 1, 1, none⟩ = some (.int .i64 a1) := HZ.out.cell 1
        have s2 : w9.cell? ⟨w.heap.size + 1 + 1, 2, none⟩ = some (.int .i64 a2) := HZ.out.cell 2
        have s3 : w9.cell? ⟨w.heap.size + 1 + 1, 3, none⟩ = some (.int .i64 a3) := HZ.out.cell 3
        have s4 : w9.cell? ⟨w.heap.size + 1 + 1, 4, none⟩ = some (.int .i64 a4) := HZ.out.cell 4
        refine bodyPost_ret (v := .agg #[.int .i64 a0, .int .i64 a1, .int .i64 a2, .int .i64 a3, .int .i64 a4]) (by simp [results, Try.results46, go_sem, s0, s1, s2, s3, s4]; try rfl) rfl ?_
        exact ⟨by rw [← HFIN.out]; rfl, HBB.out⟩
      · have hxb : (x == 0) = false := by simpa using hx0
        obtain ⟨c, hc⟩ : ∃ c : Nat, colI x = (c : Int) := ⟨(colI x).toNat, by unfold colI; split <;> omega⟩
        have hc5 : c < 5 := by unfold colI at hc; split at hc <;> omega
        have hcn : x.natAbs - 1 = c := by unfold colI at hc; split at hc <;> omega
        have HCOL := Lib.hid (fun W' => refcol_any x W' hxr.1 hxr.2)
        rw [hc] at HCOL
        obtain ⟨v, hv⟩ : ∃ v, v = tl.getD c 0 := ⟨_, rfl⟩
        have ct : w2.cell? ⟨w.heap.size, c, none⟩ = some (.int .i64 v) := by rw [hv]; exact (HT2.out.cell c).trans (HCT.out c hc5)
        have hstep : cgo tl (i + 1) (acc.set i v) (o.drop (i + 1)) = cutO tl o := by
          rw [← HG.out, HD.out]
          show _ = cgo tl (i + 1) (if x = 0 then acc else acc.set i (tl.getD (x.natAbs - 1) 0)) _
          rw [if_neg hx0, hcn, ← hv]
        have hfst : ∃ b' sn', fgo b' sn' (o.drop (i + 1)) = true := by
          have h1 := HFG.out
          rw [HD.out] at h1
          unfold fgo at h1
          split at h1
          · cases h1
          · split at h1
            · cases h1
            · exact ⟨_, _, h1⟩
        obtain ⟨u, hu⟩ : ∃ u, w2.cell? ⟨w.heap.size + 1 + 1 + 1, i, none⟩ = some (.int .i64 u) := by
          rw [HBK2.out.cell]
          have hl := HA.out
          simp [tcells, show i < acc.length by omega]
        have fi := HBK2.out.frozen i
        have c0 : (0 : Int) ≤ (c : Int) := by omega
        have c5 : (c : Int) < 5 := by omega
        have HST := Lib.hid hstep
        have HFS := Lib.hid hfst
        clear hstep hfst hv hc hc5 hcn hxr
        go_wp2_with fail
        refine (HCOL.out w2).mono ?_
        rintro e w3 ⟨rfl, rfl⟩
        go_wp2_with fail
        obtain ⟨b', sn', hf'⟩ := HFS.out
        exact ⟨⟨i + 1, acc.set i v, b', sn', rfl, by omega, by rw [List.length_set]; exact HA.out, HST.out, hf', by rw [tcells_set]; exact HBK2.out.set_ i (.int .i64 v), HCH2.out.setCell _ _ (fun _ => rfl)⟩, by simp [intOf]; omega⟩
    · obtain rfl : i = 5 := by omega
      have hfin : acc = cutO tl o := by
        rw [← HG.out, List.drop_of_length_le (by have := HL.out.1; omega)]
        rfl
      obtain ⟨a0, a1, a2, a3, a4, rfl⟩ : ∃ a0 a1 a2 a3 a4 : Int, acc = [a0, a1, a2, a3, a4] := by
        match acc, HA.out with
        | [a, b, c, d, e], _ => exact ⟨_, _, _, _, _, rfl⟩
      have HFIN := Lib.hid hfin
      have hRr := HRW.out
      have hBk := HBK.out
      have hBw := HB.out.trans (HCH.out.below_of HB.out.size (fun j hj e => by omega))
      clear hfin b0 b1 b2 b3 b4
      have y0 : wr.cell? ⟨w.heap.size + 1 + 1 + 1, 0, none⟩ = some (.int .i64 a0) := hBk.cell 0
      have z0 : wr.cell? ⟨w.heap.size + 1 + 1, 0, none⟩ = some (.int .i64 0) := hRr.cell 0
      have f0 := hRr.frozen 0
      have y1 : wr.cell? ⟨w.heap.size + 1 + 1 + 1, 1, none⟩ = some (.int .i64 a1) := hBk.cell 1
      have z1 : wr.cell? ⟨w.heap.size + 1 + 1, 1, none⟩ = some (.int .i64 0) := hRr.cell 1
      have f1 := hRr.frozen 1
      have y2 : wr.cell? ⟨w.heap.size + 1 + 1 + 1, 2, none⟩ = some (.int .i64 a2) := hBk.cell 2
      have z2 : wr.cell? ⟨w.heap.size + 1 + 1, 2, none⟩ = some (.int .i64 0) := hRr.cell 2
      have f2 := hRr.frozen 2
      have y3 : wr.cell? ⟨w.heap.size + 1 + 1 + 1, 3, none⟩ = some (.int .i64 a3) := hBk.cell 3
      have z3 : wr.cell? ⟨w.heap.size + 1 + 1, 3, none⟩ = some (.int .i64 0) := hRr.cell 3
      have f3 := hRr.frozen 3
      have y4 : wr.cell? ⟨w.heap.size + 1 + 1 + 1, 4, none⟩ = some (.int .i64 a4) := hBk.cell 4
      have z4 : wr.cell? ⟨w.heap.size + 1 + 1, 4, none⟩ = some (.int .i64 0) := hRr.cell 4
      have f4 := hRr.frozen 4
      have HZ := Lib.hid (((((hRr.set_ 0 (.int .i64 a0)).set_ 1 (.int .i64 a1)).set_ 2 (.int .i64 a2)).set_ 3 (.int .i64 a3)).set_ 4 (.int .i64 a4))
      have HBB := Lib.hid (((((hBw.setCell (p := ⟨w.heap.size + 1 + 1, 0, none⟩) (show w.heap.size ≤ w.heap.size + 1 + 1 by omega) (.int .i64 a0)).setCell (p := ⟨w.heap.size + 1 + 1, 1, none⟩) (show w.heap.size ≤ w.heap.size + 1 + 1 by omega) (.int .i64 a1)).setCell (p := ⟨w.heap.size + 1 + 1, 2, none⟩) (show w.heap.size ≤ w.heap.size + 1 + 1 by omega) (.int .i64 a2)).setCell (p := ⟨w.heap.size + 1 + 1, 3, none⟩) (show w.heap.size ≤ w.heap.size + 1 + 1 by omega) (.int .i64 a3)).setCell (p := ⟨w.heap.size + 1 + 1, 4, none⟩) (show w.heap.size ≤ w.heap.size + 1 + 1 by omega) (.int .i64 a4))
      clear hRr hBk hBw
      go_wp2_with fail
      generalize (((((wr.setCell ⟨w.heap.size + 1 + 1, 0, none⟩ (.int .i64 a0)).setCell ⟨w.heap.size + 1 + 1, 1, none⟩ (.int .i64 a1)).setCell ⟨w.heap.size + 1 + 1, 2, none⟩ (.int .i64 a2)).setCell ⟨w.heap.size + 1 + 1, 3, none⟩ (.int .i64 a3)).setCell ⟨w.heap.size + 1 + 1, 4, none⟩ (.int .i64 a4)) = w9 at *
      have s0 : w9.cell? ⟨w.heap.size + 1 + 1, 0, none⟩ = some (.int .i64 a0) := HZ.out.cell 0
      have s1 : w9.cell? ⟨w.heap.size + 1 + 1, 1, none⟩ = some (.int .i64 a1) := HZ.out.cell 1
      have s2 : w9.cell? ⟨w.heap.size + 1 + 1, 2, none⟩ = some (.int .i64 a2) := HZ.out.cell 2
      have s3 : w9.cell? ⟨w.heap.size + 1 + 1, 3, none⟩ = some (.int .i64 a3) := HZ.out.cell 3
      have s4 : w9.cell? ⟨w.heap.size + 1 + 1, 4, none⟩ = some (.int .i64 a4) := HZ.out.cell 4
      refine bodyPost_ret (v := .agg #[.int .i64 a0, .int .i64 a1, .int .i64 a2, .int .i64 a3, .int .i64 a4]) (by simp [results, Try.results46, go_sem, s0, s1, s2, s3, s4]; try rfl) rfl ?_
      exact ⟨by rw [← HFIN.out]; rfl, HBB.out⟩

end Go.Proofs.Ytlbaigkpojkfjaa.Fl
