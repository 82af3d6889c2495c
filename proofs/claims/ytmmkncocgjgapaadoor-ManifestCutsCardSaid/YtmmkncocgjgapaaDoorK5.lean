/- Texts of mine, packed: MfForm3, MfDev, Reg5, MfTri. -/
import Derived.Test.YtmmkncocgjgapaaDoorK2
import Derived.Test.YtmmkncocgjgapaaDoorK3
import Derived.Test.YtmmkncocgjgapaaDoorK4
set_option linter.unusedVariables false

/- The walk of abutmentref09.Formed (printed by genmfref.py out of mfref.head). -/
namespace Go.Proofs.YtmmkncocgjgapaaDoor.Mf
open Go.RowKit

def RfLoop (l : List Ent) (w : World) (iv : Value) (wr : World) : Prop := ∃ k : Nat, iv = .int .i64 (k : Int) ∧ k ≤ l.length ∧ (∀ j, j < k → okAt l j = true) ∧ Below w.heap.size w wr
set_option maxRecDepth 100000 in
set_option maxHeartbeats 8000000 in
theorem refformed_any (l : List Ent) (a : Option Addr) (n c : Nat) (w : World) (hr : Row w a (flatM l)) (hn : l.length = n) (hl : n < 1000000) (hsz : ∀ j (hj : j < l.length), l[j].name.size ≤ 4611686018427387904) :
    Calls Tryd.prog 10 #[.slice a n c] w (fun e w' => e = .returned (.bool (formedM l)) ∧ Below w.heap.size w w') := by
  subst hn
  by_cases h12 : (12 : Int) < (l.length : Int)
  · have HF := Lib.hid (show formedM l = false from by unfold formedM; rw [decide_eq_false_iff_not]; omega)
    go_enter Tryd.func10, Tryd.ntmps10
    go_wp2_with fail
    go_ret
    exact ⟨by rw [HF.out]; rfl, Below.refl _ _⟩
  have HL12 := Lib.hid h12
  go_enter Tryd.func10, Tryd.ntmps10
  go_wp2_with fail
  go_loopw [3] (fun iv wr => RfLoop l w iv wr) (fun iv _ => l.length - (intOf iv).toNat)
  case atStart => exact ⟨0, rfl, Nat.zero_le _, fun j h => absurd h (Nat.not_lt_zero _), Below.refl _ _⟩
  case round =>
    obtain ⟨k, rfl, hk, hall, hb⟩ := hrel
    have HALL := Lib.hid hall
    clear hall
    have hz := hb.size
    by_cases hlt : k < l.length
    · have hlt2 : (k : Int) < (l.length : Int) := by omega
      have i0 : (0 : Int) ≤ (k : Int) := by omega
      have hrb := hr.below hb
      obtain ⟨b, o, rfl, hbl, e0, e1, e2, e3, e4⟩ := ent_at hrb hlt
      have HB := Lib.hid hb
      have hs := hsz k hlt
      have HOKE := Lib.hid (fun h : okEnt l[k] = false => okAt_ent hlt h)
      have HFB := Lib.hid (fun h : okAt l k = false => formed_bad hlt h)
      have HGO := Lib.hid (fun (h : okAt l k = true) (j : Nat) (hj : j < k + 1) => (if e : j = k then e ▸ h else HALL.out j (by omega) : okAt l j = true))
      have HFIRST := Lib.hid (show k = 0 → okEnt l[k] = true → okAt l k = true from fun h h2 => by subst h; exact okAt_first hlt h2)
      have HPR := Lib.hid (show 0 < k → ∃ (j : Nat) (q : ByteArray), wr.cell? ⟨b, o + j * 5, none⟩ = some (.string q) ∧ (okEnt l[k] = true → okAt l k = Op.bytesLess q.toList l[k].name.toList) ∧ j < l.length ∧ k = j + 1 from fun h => by
        obtain ⟨j, rfl⟩ : ∃ j, k = j + 1 := ⟨k - 1, by omega⟩
        obtain ⟨b2, o2, e, _, f0, _⟩ := ent_at hrb (show j < l.length by omega)
        injection e with e
        injection e with e1 e2
        subst e1 e2
        exact ⟨j, _, f0, okAt_next hlt, by omega, rfl⟩)
      have HM := Lib.hid (And.intro hk hlt)
      generalize l[k] = p at *
      obtain ⟨s, f, bb, ww, cc⟩ := p
      simp only at e0 e1 e2 e3 e4 hs
      clear hr hrb hb hk hlt hsz
      go_wp2_with fail
      have hcell0 := Row.new wr #[.string s, .int .i64 f, .int .i64 bb, .int .i64 ww, .int .i64 cc] 57 (0, 0)
      have hsize0 : (wr.alloc (.cells #[.string s, .int .i64 f, .int .i64 bb, .int .i64 ww, .int .i64 cc] 57)).heap.size = wr.heap.size + 1 := by simp
      have HB0 := Lib.hid (HB.out.alloc hz (.cells #[.string s, .int .i64 f, .int .i64 bb, .int .i64 ww, .int .i64 cc] 57))
      have hb00 : Below wr.heap.size wr (wr.alloc (.cells #[.string s, .int .i64 f, .int .i64 bb, .int .i64 ww, .int .i64 cc] 57)) := (Below.refl _ _).alloc (Nat.le_refl _) _
      generalize wr.alloc (.cells #[.string s, .int .i64 f, .int .i64 bb, .int .i64 ww, .int .i64 cc] 57) = W0 at *
      have hB1 : wr.heap.size + 1 ≤ W0.heap.size := by omega
      have CELL := Lib.hid (fun W' (h : Below (wr.heap.size + 1) W0 W') => (by
        have hc := hcell0.below (hsize0 ▸ h)
        exact ⟨row_cell hc rfl, row_cell hc rfl, row_cell hc rfl, row_cell hc rfl, row_cell hc rfl⟩ : W'.cell? ⟨wr.heap.size, 0, none⟩ = some (.string s) ∧ W'.cell? ⟨wr.heap.size, 1, none⟩ = some (.int .i64 f) ∧ W'.cell? ⟨wr.heap.size, 2, none⟩ = some (.int .i64 bb) ∧ W'.cell? ⟨wr.heap.size, 3, none⟩ = some (.int .i64 ww) ∧ W'.cell? ⟨wr.heap.size, 4, none⟩ = some (.int .i64 cc)))
      have HPREV := Lib.hid (show 0 < k → ∃ (j : Nat) (q : ByteArray), Hid (∀ W', Below (wr.heap.size + 1) W0 W' → W'.cell? ⟨b, o + j * 5, none⟩ = some (.string q)) ∧ Hid (okEnt ⟨s, f, bb, ww, cc⟩ = true → okAt l k = Op.bytesLess q.toList s.toList) ∧ (0 : Int) ≤ (j : Int) ∧ (j : Int) < (l.length : Int) ∧ IntKind.i64.wrap ((k : Int) - 1) = (j : Int) from fun h => by
        obtain ⟨j, q, f0, f1, f2, f3⟩ := HPR.out h
        refine ⟨j, q, Lib.hid (fun W' hW => ?_), Lib.hid f1, by omega, by omega, by rw [IntKind.wrap_i64]; omega⟩
        rw [hW.cell (show b < wr.heap.size + 1 by omega), hb00.cell hbl]
        exact f0)
      have HSZ := Lib.hid (show s.size < 1 ∨ 8 < s.size → okEnt ⟨s, f, bb, ww, cc⟩ = false from fun h => okEnt_name (okName_sz h))
      have HNAME := Lib.hid (show 1 ≤ s.size → s.size ≤ 8 → s.data.toList.all okB = true → okName s.data.toList = true from okName_yes)
      have HNAMEN := Lib.hid (show ¬ s.data.toList.all okB = true → okEnt ⟨s, f, bb, ww, cc⟩ = false from fun h => okEnt_name (okName_all h))
      have HENT := Lib.hid (show okName s.data.toList = true → [f, bb, ww, cc].all okNum = true → okEnt ⟨s, f, bb, ww, cc⟩ = true from okEnt_yes)
      have HENTN := Lib.hid (show [f, bb, ww, cc].all okNum = false → okEnt ⟨s, f, bb, ww, cc⟩ = false from okEnt_num)
      obtain ⟨WD, hWD⟩ : ∃ WD, WD = W0.drew := ⟨_, rfl⟩
      have hdd : Below (wr.heap.size + 1) W0 WD := by rw [hWD]; exact (Below.refl _ _).drew
      have HBE := Lib.hid (HB0.out.trans (hdd.mono (by omega : w.heap.size ≤ wr.heap.size + 1)))
      have HPREV := Lib.hid (show 0 < k → ∃ (j : Nat) (q : ByteArray), WD.cell? ⟨b, o + j * 5, none⟩ = some (.string q) ∧ Hid (okEnt ⟨s, f, bb, ww, cc⟩ = true → okAt l k = Op.bytesLess q.toList s.toList) ∧ (0 : Int) ≤ (j : Int) ∧ (j : Int) < (l.length : Int) ∧ IntKind.i64.wrap ((k : Int) - 1) = (j : Int) from fun h => by
        obtain ⟨j, q, f0, f1, f2, f3, f4⟩ := HPREV.out h
        exact ⟨j, q, f0.out _ hdd, f1, f2, f3, f4⟩)
      obtain ⟨u0, u1, u2, u3, u4⟩ := CELL.out _ hdd
      have NAME := Lib.hid (name_any s WD hs)
      have HWD := Lib.hid hWD.symm
      clear hWD hdd CELL HB0 hcell0 hsize0 hb00 e0 e1 e2 e3 e4 HPR hbl hs
      by_cases cn : okName s.data.toList = true
      · by_cases cn1 : okNum f = true
        · by_cases cn2 : okNum bb = true
          · by_cases cn3 : okNum ww = true
            · by_cases cn4 : okNum cc = true
              · have HE1 := Lib.hid (HENT.out cn (by simp [cn1, cn2, cn3, cn4]))
                by_cases k0 : 0 < k
                · obtain ⟨j, q, u5, HOK, j0, jlt, cj⟩ := HPREV.out (by omega)
                  have HOK2 := Lib.hid (HOK.out HE1.out)
                  clear HOK
                  by_cases c6b : Op.bytesLess q.toList s.toList = true
                  · have c6 : (Op.bytesLess s.toList q.toList || s.toList == q.toList) = false := by rw [← less_tri, c6b]; rfl
                    have HGOOD := Lib.hid (HGO.out (by rw [HOK2.out]; exact c6b))
                    clear c6b
                    refine mx_begin (fun w' => w' = WD) [(true, 0), (true, 1), (false, 2), (true, 3), (true, 4), (true, 5), (true, 6), (false, 7), (true, 8), (true, 9), (true, 10), (true, 11), (true, 12), (false, 13), (true, 14), (true, 15), (true, 16), (true, 17), (true, 18), (false, 19), (true, 20), (true, 21), (true, 22), (true, 23), (true, 24), (false, 25), (true, 26), (true, 27), (true, 28), (true, 29), (true, 30), (true, 31), (true, 32), (true, 33), (true, 34), (true, 35), (true, 36), (true, 37), (true, 38), (true, 39), (true, 40), (true, 41), (false, 42)] (by kernel_rfl) (by kernel_rfl) (fun _ _ d _ _ h => by cases d <;> exact h) HWD.out ?_
                    rw [HWD.out]
                    refine mx_read _ (.pointer (some ⟨wr.heap.size, 0, none⟩)) rfl (by kernel_rfl) (fun w' hF => by rw [hF]; simp [execOp, Act.eval, go_sem]) ?_
                    refine mx_read _ (.string s) rfl (by kernel_rfl) (fun w' hF => by rw [hF]; simp [execOp, Act.eval, go_sem, u0]) ?_
                    refine mx_one _ rfl (by kernel_rfl) (fun K8 hK8 => ?_)
                    go_simp
                    refine (NAME.out).mono ?_
                    rintro e wt ⟨rfl, rfl⟩
                    refine hK8.out _ _ (fun _ => rfl) ?_
                    clear hK8 K8
                    refine mx_read _ (.bool false) rfl (by kernel_rfl) (fun w' hF => by rw [hF]; simp [execOp, Act.eval, go_sem, cn]) ?_
                    refine mx_read _ (.bool false) rfl (by kernel_rfl) (fun w' hF => by rw [hF]; simp [execOp, Act.eval, go_sem]) ?_
                    refine mx_read _ (.pointer (some ⟨wr.heap.size, 1, none⟩)) rfl (by kernel_rfl) (fun w' hF => by rw [hF]; simp [execOp, Act.eval, go_sem]) ?_
                    refine mx_read _ (.int .i64 f) rfl (by kernel_rfl) (fun w' hF => by rw [hF]; simp [execOp, Act.eval, go_sem, u1]) ?_
                    refine mx_one _ rfl (by kernel_rfl) (fun K8 hK8 => ?_)
                    go_simp
                    refine (small_any f WD).mono ?_
                    rintro e wt ⟨rfl, rfl⟩
                    refine hK8.out _ _ (fun _ => rfl) ?_
                    clear hK8 K8
                    refine mx_read _ (.bool false) rfl (by kernel_rfl) (fun w' hF => by rw [hF]; simp [execOp, Act.eval, go_sem, cn1]) ?_
                    refine mx_read _ (.bool false) rfl (by kernel_rfl) (fun w' hF => by rw [hF]; simp [execOp, Act.eval, go_sem]) ?_
                    refine mx_read _ (.bool false) rfl (by kernel_rfl) (fun w' hF => by rw [hF]; simp [execOp, Act.eval, go_sem]) ?_
                    refine mx_read _ (.pointer (some ⟨wr.heap.size, 2, none⟩)) rfl (by kernel_rfl) (fun w' hF => by rw [hF]; simp [execOp, Act.eval, go_sem]) ?_
                    refine mx_read _ (.int .i64 bb) rfl (by kernel_rfl) (fun w' hF => by rw [hF]; simp [execOp, Act.eval, go_sem, u2]) ?_
                    refine mx_one _ rfl (by kernel_rfl) (fun K8 hK8 => ?_)
                    go_simp
                    refine (small_any bb WD).mono ?_
                    rintro e wt ⟨rfl, rfl⟩
                    refine hK8.out _ _ (fun _ => rfl) ?_
                    clear hK8 K8
                    refine mx_read _ (.bool false) rfl (by kernel_rfl) (fun w' hF => by rw [hF]; simp [execOp, Act.eval, go_sem, cn2]) ?_
                    refine mx_read _ (.bool false) rfl (by kernel_rfl) (fun w' hF => by rw [hF]; simp [execOp, Act.eval, go_sem]) ?_
                    refine mx_read _ (.bool false) rfl (by kernel_rfl) (fun w' hF => by rw [hF]; simp [execOp, Act.eval, go_sem]) ?_
                    refine mx_read _ (.pointer (some ⟨wr.heap.size, 3, none⟩)) rfl (by kernel_rfl) (fun w' hF => by rw [hF]; simp [execOp, Act.eval, go_sem]) ?_
                    refine mx_read _ (.int .i64 ww) rfl (by kernel_rfl) (fun w' hF => by rw [hF]; simp [execOp, Act.eval, go_sem, u3]) ?_
                    refine mx_one _ rfl (by kernel_rfl) (fun K8 hK8 => ?_)
                    go_simp
                    refine (small_any ww WD).mono ?_
                    rintro e wt ⟨rfl, rfl⟩
                    refine hK8.out _ _ (fun _ => rfl) ?_
                    clear hK8 K8
                    refine mx_read _ (.bool false) rfl (by kernel_rfl) (fun w' hF => by rw [hF]; simp [execOp, Act.eval, go_sem, cn3]) ?_
                    refine mx_read _ (.bool false) rfl (by kernel_rfl) (fun w' hF => by rw [hF]; simp [execOp, Act.eval, go_sem]) ?_
                    refine mx_read _ (.bool false) rfl (by kernel_rfl) (fun w' hF => by rw [hF]; simp [execOp, Act.eval, go_sem]) ?_
                    refine mx_read _ (.pointer (some ⟨wr.heap.size, 4, none⟩)) rfl (by kernel_rfl) (fun w' hF => by rw [hF]; simp [execOp, Act.eval, go_sem]) ?_
                    refine mx_read _ (.int .i64 cc) rfl (by kernel_rfl) (fun w' hF => by rw [hF]; simp [execOp, Act.eval, go_sem, u4]) ?_
                    refine mx_one _ rfl (by kernel_rfl) (fun K8 hK8 => ?_)
                    go_simp
                    refine (small_any cc WD).mono ?_
                    rintro e wt ⟨rfl, rfl⟩
                    refine hK8.out _ _ (fun _ => rfl) ?_
                    clear hK8 K8
                    refine mx_read _ (.bool false) rfl (by kernel_rfl) (fun w' hF => by rw [hF]; simp [execOp, Act.eval, go_sem, cn4]) ?_
                    refine mx_read _ (.bool false) rfl (by kernel_rfl) (fun w' hF => by rw [hF]; simp [execOp, Act.eval, go_sem]) ?_
                    refine mx_read _ (.bool false) rfl (by kernel_rfl) (fun w' hF => by rw [hF]; simp [execOp, Act.eval, go_sem]) ?_
                    refine mx_read _ (.int .i64 (k : Int)) rfl (by kernel_rfl) (fun w' hF => by rw [hF]; simp [execOp, Act.eval, go_sem]) ?_
                    refine mx_read _ (.bool true) rfl (by kernel_rfl) (fun w' hF => by rw [hF]; simp [execOp, Act.eval, go_sem, k0]) ?_
                    refine mx_read _ (.bool true) rfl (by kernel_rfl) (fun w' hF => by rw [hF]; simp [execOp, Act.eval, go_sem]) ?_
                    refine mx_read _ (.pointer (some ⟨wr.heap.size, 0, none⟩)) rfl (by kernel_rfl) (fun w' hF => by rw [hF]; simp [execOp, Act.eval, go_sem]) ?_
                    refine mx_read _ (.string s) rfl (by kernel_rfl) (fun w' hF => by rw [hF]; simp [execOp, Act.eval, go_sem, u0]) ?_
                    refine mx_read _ (.slice (some ⟨b, o, none⟩) l.length c) rfl (by kernel_rfl) (fun w' hF => by rw [hF]; simp [execOp, Act.eval, go_sem]) ?_
                    refine mx_read _ (.int .i64 (k : Int)) rfl (by kernel_rfl) (fun w' hF => by rw [hF]; simp [execOp, Act.eval, go_sem]) ?_
                    refine mx_read _ (.int .i64 (j : Int)) rfl (by kernel_rfl) (fun w' hF => by rw [hF]; simp [execOp, Act.eval, go_sem, cj]) ?_
                    refine mx_read _ (.pointer (some ⟨b, o + j * 5, none⟩)) rfl (by kernel_rfl) (fun w' hF => by rw [hF]; simp [execOp, Act.eval, go_sem, j0, jlt]) ?_
                    refine mx_read _ (.pointer (some ⟨b, o + j * 5, none⟩)) rfl (by kernel_rfl) (fun w' hF => by rw [hF]; simp [execOp, Act.eval, go_sem]) ?_
                    refine mx_read _ (.string q) rfl (by kernel_rfl) (fun w' hF => by rw [hF]; simp [execOp, Act.eval, go_sem, u5]) ?_
                    refine mx_read _ (.bool false) rfl (by kernel_rfl) (fun w' hF => by rw [hF]; simp [execOp, Act.eval, go_sem, c6]) ?_
                    refine mx_read _ (.bool false) rfl (by kernel_rfl) (fun w' hF => by rw [hF]; simp [execOp, Act.eval, go_sem]) ?_
                    refine mx_one _ rfl (by kernel_rfl) (fun K8 hK8 => ?_)
                    go_simp
                    refine hK8.out _ _ (fun h => absurd rfl h) ?_
                    clear hK8 K8
                    refine mx_end ?_
                    go_wp2_with fail
                    go_roundw
                    case rel => exact ⟨_, by go_num, HM.out.2, HGOOD.out, HBE.out⟩
                    case measure => have := HM.out.2; simp [intOf]; omega
                  · have c6 : (Op.bytesLess s.toList q.toList || s.toList == q.toList) = true := by rw [← less_tri]; simpa using c6b
                    have HBAD := Lib.hid (HFB.out (by rw [HOK2.out]; simpa using c6b))
                    clear c6b
                    refine mx_begin (fun w' => w' = WD) [(true, 0), (true, 1), (false, 2), (true, 3), (true, 4), (true, 5), (true, 6), (false, 7), (true, 8), (true, 9), (true, 10), (true, 11), (true, 12), (false, 13), (true, 14), (true, 15), (true, 16), (true, 17), (true, 18), (false, 19), (true, 20), (true, 21), (true, 22), (true, 23), (true, 24), (false, 25), (true, 26), (true, 27), (true, 28), (true, 29), (true, 30), (true, 31), (true, 32), (true, 33), (true, 34), (true, 35), (true, 36), (true, 37), (true, 38), (true, 39), (true, 40), (true, 41), (false, 42)] (by kernel_rfl) (by kernel_rfl) (fun _ _ d _ _ h => by cases d <;> exact h) HWD.out ?_
                    rw [HWD.out]
                    refine mx_read _ (.pointer (some ⟨wr.heap.size, 0, none⟩)) rfl (by kernel_rfl) (fun w' hF => by rw [hF]; simp [execOp, Act.eval, go_sem]) ?_
                    refine mx_read _ (.string s) rfl (by kernel_rfl) (fun w' hF => by rw [hF]; simp [execOp, Act.eval, go_sem, u0]) ?_
                    refine mx_one _ rfl (by kernel_rfl) (fun K8 hK8 => ?_)
                    go_simp
                    refine (NAME.out).mono ?_
                    rintro e wt ⟨rfl, rfl⟩
                    refine hK8.out _ _ (fun _ => rfl) ?_
                    clear hK8 K8
                    refine mx_read _ (.bool false) rfl (by kernel_rfl) (fun w' hF => by rw [hF]; simp [execOp, Act.eval, go_sem, cn]) ?_
                    refine mx_read _ (.bool false) rfl (by kernel_rfl) (fun w' hF => by rw [hF]; simp [execOp, Act.eval, go_sem]) ?_
                    refine mx_read _ (.pointer (some ⟨wr.heap.size, 1, none⟩)) rfl (by kernel_rfl) (fun w' hF => by rw [hF]; simp [execOp, Act.eval, go_sem]) ?_
                    refine mx_read _ (.int .i64 f) rfl (by kernel_rfl) (fun w' hF => by rw [hF]; simp [execOp, Act.eval, go_sem, u1]) ?_
                    refine mx_one _ rfl (by kernel_rfl) (fun K8 hK8 => ?_)
                    go_simp
                    refine (small_any f WD).mono ?_
                    rintro e wt ⟨rfl, rfl⟩
                    refine hK8.out _ _ (fun _ => rfl) ?_
                    clear hK8 K8
                    refine mx_read _ (.bool false) rfl (by kernel_rfl) (fun w' hF => by rw [hF]; simp [execOp, Act.eval, go_sem, cn1]) ?_
                    refine mx_read _ (.bool false) rfl (by kernel_rfl) (fun w' hF => by rw [hF]; simp [execOp, Act.eval, go_sem]) ?_
                    refine mx_read _ (.bool false) rfl (by kernel_rfl) (fun w' hF => by rw [hF]; simp [execOp, Act.eval, go_sem]) ?_
                    refine mx_read _ (.pointer (some ⟨wr.heap.size, 2, none⟩)) rfl (by kernel_rfl) (fun w' hF => by rw [hF]; simp [execOp, Act.eval, go_sem]) ?_
                    refine mx_read _ (.int .i64 bb) rfl (by kernel_rfl) (fun w' hF => by rw [hF]; simp [execOp, Act.eval, go_sem, u2]) ?_
                    refine mx_one _ rfl (by kernel_rfl) (fun K8 hK8 => ?_)
                    go_simp
                    refine (small_any bb WD).mono ?_
                    rintro e wt ⟨rfl, rfl⟩
                    refine hK8.out _ _ (fun _ => rfl) ?_
                    clear hK8 K8
                    refine mx_read _ (.bool false) rfl (by kernel_rfl) (fun w' hF => by rw [hF]; simp [execOp, Act.eval, go_sem, cn2]) ?_
                    refine mx_read _ (.bool false) rfl (by kernel_rfl) (fun w' hF => by rw [hF]; simp [execOp, Act.eval, go_sem]) ?_
                    refine mx_read _ (.bool false) rfl (by kernel_rfl) (fun w' hF => by rw [hF]; simp [execOp, Act.eval, go_sem]) ?_
                    refine mx_read _ (.pointer (some ⟨wr.heap.size, 3, none⟩)) rfl (by kernel_rfl) (fun w' hF => by rw [hF]; simp [execOp, Act.eval, go_sem]) ?_
                    refine mx_read _ (.int .i64 ww) rfl (by kernel_rfl) (fun w' hF => by rw [hF]; simp [execOp, Act.eval, go_sem, u3]) ?_
                    refine mx_one _ rfl (by kernel_rfl) (fun K8 hK8 => ?_)
                    go_simp
                    refine (small_any ww WD).mono ?_
                    rintro e wt ⟨rfl, rfl⟩
                    refine hK8.out _ _ (fun _ => rfl) ?_
                    clear hK8 K8
                    refine mx_read _ (.bool false) rfl (by kernel_rfl) (fun w' hF => by rw [hF]; simp [execOp, Act.eval, go_sem, cn3]) ?_
                    refine mx_read _ (.bool false) rfl (by kernel_rfl) (fun w' hF => by rw [hF]; simp [execOp, Act.eval, go_sem]) ?_
                    refine mx_read _ (.bool false) rfl (by kernel_rfl) (fun w' hF => by rw [hF]; simp [execOp, Act.eval, go_sem]) ?_
                    refine mx_read _ (.pointer (some ⟨wr.heap.size, 4, none⟩)) rfl (by kernel_rfl) (fun w' hF => by rw [hF]; simp [execOp, Act.eval, go_sem]) ?_
                    refine mx_read _ (.int .i64 cc) rfl (by kernel_rfl) (fun w' hF => by rw [hF]; simp [execOp, Act.eval, go_sem, u4]) ?_
                    refine mx_one _ rfl (by kernel_rfl) (fun K8 hK8 => ?_)
                    go_simp
                    refine (small_any cc WD).mono ?_
                    rintro e wt ⟨rfl, rfl⟩
                    refine hK8.out _ _ (fun _ => rfl) ?_
                    clear hK8 K8
                    refine mx_read _ (.bool false) rfl (by kernel_rfl) (fun w' hF => by rw [hF]; simp [execOp, Act.eval, go_sem, cn4]) ?_
                    refine mx_read _ (.bool false) rfl (by kernel_rfl) (fun w' hF => by rw [hF]; simp [execOp, Act.eval, go_sem]) ?_
                    refine mx_read _ (.bool false) rfl (by kernel_rfl) (fun w' hF => by rw [hF]; simp [execOp, Act.eval, go_sem]) ?_
                    refine mx_read _ (.int .i64 (k : Int)) rfl (by kernel_rfl) (fun w' hF => by rw [hF]; simp [execOp, Act.eval, go_sem]) ?_
                    refine mx_read _ (.bool true) rfl (by kernel_rfl) (fun w' hF => by rw [hF]; simp [execOp, Act.eval, go_sem, k0]) ?_
                    refine mx_read _ (.bool true) rfl (by kernel_rfl) (fun w' hF => by rw [hF]; simp [execOp, Act.eval, go_sem]) ?_
                    refine mx_read _ (.pointer (some ⟨wr.heap.size, 0, none⟩)) rfl (by kernel_rfl) (fun w' hF => by rw [hF]; simp [execOp, Act.eval, go_sem]) ?_
                    refine mx_read _ (.string s) rfl (by kernel_rfl) (fun w' hF => by rw [hF]; simp [execOp, Act.eval, go_sem, u0]) ?_
                    refine mx_read _ (.slice (some ⟨b, o, none⟩) l.length c) rfl (by kernel_rfl) (fun w' hF => by rw [hF]; simp [execOp, Act.eval, go_sem]) ?_
                    refine mx_read _ (.int .i64 (k : Int)) rfl (by kernel_rfl) (fun w' hF => by rw [hF]; simp [execOp, Act.eval, go_sem]) ?_
                    refine mx_read _ (.int .i64 (j : Int)) rfl (by kernel_rfl) (fun w' hF => by rw [hF]; simp [execOp, Act.eval, go_sem, cj]) ?_
                    refine mx_read _ (.pointer (some ⟨b, o + j * 5, none⟩)) rfl (by kernel_rfl) (fun w' hF => by rw [hF]; simp [execOp, Act.eval, go_sem, j0, jlt]) ?_
                    refine mx_read _ (.pointer (some ⟨b, o + j * 5, none⟩)) rfl (by kernel_rfl) (fun w' hF => by rw [hF]; simp [execOp, Act.eval, go_sem]) ?_
                    refine mx_read _ (.string q) rfl (by kernel_rfl) (fun w' hF => by rw [hF]; simp [execOp, Act.eval, go_sem, u5]) ?_
                    refine mx_read _ (.bool true) rfl (by kernel_rfl) (fun w' hF => by rw [hF]; simp [execOp, Act.eval, go_sem, c6]) ?_
                    refine mx_read _ (.bool true) rfl (by kernel_rfl) (fun w' hF => by rw [hF]; simp [execOp, Act.eval, go_sem]) ?_
                    refine mx_one _ rfl (by kernel_rfl) (fun K8 hK8 => ?_)
                    go_simp
                    refine hK8.out _ _ (fun h => absurd rfl h) ?_
                    clear hK8 K8
                    refine mx_end ?_
                    go_wp2_with fail
                    go_ret
                    exact ⟨by rw [HBAD.out]; rfl, HBE.out⟩
                · have HGOOD := Lib.hid (HGO.out (HFIRST.out (by omega) HE1.out))
                  refine mx_begin (fun w' => w' = WD) [(true, 0), (true, 1), (false, 2), (true, 3), (true, 4), (true, 5), (true, 6), (false, 7), (true, 8), (true, 9), (true, 10), (true, 11), (true, 12), (false, 13), (true, 14), (true, 15), (true, 16), (true, 17), (true, 18), (false, 19), (true, 20), (true, 21), (true, 22), (true, 23), (true, 24), (false, 25), (true, 26), (true, 27), (true, 28), (true, 29), (true, 30), (true, 31), (true, 32), (true, 33), (true, 34), (true, 35), (true, 36), (true, 37), (true, 38), (true, 39), (true, 40), (true, 41), (false, 42)] (by kernel_rfl) (by kernel_rfl) (fun _ _ d _ _ h => by cases d <;> exact h) HWD.out ?_
                  rw [HWD.out]
                  refine mx_read _ (.pointer (some ⟨wr.heap.size, 0, none⟩)) rfl (by kernel_rfl) (fun w' hF => by rw [hF]; simp [execOp, Act.eval, go_sem]) ?_
                  refine mx_read _ (.string s) rfl (by kernel_rfl) (fun w' hF => by rw [hF]; simp [execOp, Act.eval, go_sem, u0]) ?_
                  refine mx_one _ rfl (by kernel_rfl) (fun K8 hK8 => ?_)
                  go_simp
                  refine (NAME.out).mono ?_
                  rintro e wt ⟨rfl, rfl⟩
                  refine hK8.out _ _ (fun _ => rfl) ?_
                  clear hK8 K8
                  refine mx_read _ (.bool false) rfl (by kernel_rfl) (fun w' hF => by rw [hF]; simp [execOp, Act.eval, go_sem, cn]) ?_
                  refine mx_read _ (.bool false) rfl (by kernel_rfl) (fun w' hF => by rw [hF]; simp [execOp, Act.eval, go_sem]) ?_
                  refine mx_read _ (.pointer (some ⟨wr.heap.size, 1, none⟩)) rfl (by kernel_rfl) (fun w' hF => by rw [hF]; simp [execOp, Act.eval, go_sem]) ?_
                  refine mx_read _ (.int .i64 f) rfl (by kernel_rfl) (fun w' hF => by rw [hF]; simp [execOp, Act.eval, go_sem, u1]) ?_
                  refine mx_one _ rfl (by kernel_rfl) (fun K8 hK8 => ?_)
                  go_simp
                  refine (small_any f WD).mono ?_
                  rintro e wt ⟨rfl, rfl⟩
                  refine hK8.out _ _ (fun _ => rfl) ?_
                  clear hK8 K8
                  refine mx_read _ (.bool false) rfl (by kernel_rfl) (fun w' hF => by rw [hF]; simp [execOp, Act.eval, go_sem, cn1]) ?_
                  refine mx_read _ (.bool false) rfl (by kernel_rfl) (fun w' hF => by rw [hF]; simp [execOp, Act.eval, go_sem]) ?_
                  refine mx_read _ (.bool false) rfl (by kernel_rfl) (fun w' hF => by rw [hF]; simp [execOp, Act.eval, go_sem]) ?_
                  refine mx_read _ (.pointer (some ⟨wr.heap.size, 2, none⟩)) rfl (by kernel_rfl) (fun w' hF => by rw [hF]; simp [execOp, Act.eval, go_sem]) ?_
                  refine mx_read _ (.int .i64 bb) rfl (by kernel_rfl) (fun w' hF => by rw [hF]; simp [execOp, Act.eval, go_sem, u2]) ?_
                  refine mx_one _ rfl (by kernel_rfl) (fun K8 hK8 => ?_)
                  go_simp
                  refine (small_any bb WD).mono ?_
                  rintro e wt ⟨rfl, rfl⟩
                  refine hK8.out _ _ (fun _ => rfl) ?_
                  clear hK8 K8
                  refine mx_read _ (.bool false) rfl (by kernel_rfl) (fun w' hF => by rw [hF]; simp [execOp, Act.eval, go_sem, cn2]) ?_
                  refine mx_read _ (.bool false) rfl (by kernel_rfl) (fun w' hF => by rw [hF]; simp [execOp, Act.eval, go_sem]) ?_
                  refine mx_read _ (.bool false) rfl (by kernel_rfl) (fun w' hF => by rw [hF]; simp [execOp, Act.eval, go_sem]) ?_
                  refine mx_read _ (.pointer (some ⟨wr.heap.size, 3, none⟩)) rfl (by kernel_rfl) (fun w' hF => by rw [hF]; simp [execOp, Act.eval, go_sem]) ?_
                  refine mx_read _ (.int .i64 ww) rfl (by kernel_rfl) (fun w' hF => by rw [hF]; simp [execOp, Act.eval, go_sem, u3]) ?_
                  refine mx_one _ rfl (by kernel_rfl) (fun K8 hK8 => ?_)
                  go_simp
                  refine (small_any ww WD).mono ?_
                  rintro e wt ⟨rfl, rfl⟩
                  refine hK8.out _ _ (fun _ => rfl) ?_
                  clear hK8 K8
                  refine mx_read _ (.bool false) rfl (by kernel_rfl) (fun w' hF => by rw [hF]; simp [execOp, Act.eval, go_sem, cn3]) ?_
                  refine mx_read _ (.bool false) rfl (by kernel_rfl) (fun w' hF => by rw [hF]; simp [execOp, Act.eval, go_sem]) ?_
                  refine mx_read _ (.bool false) rfl (by kernel_rfl) (fun w' hF => by rw [hF]; simp [execOp, Act.eval, go_sem]) ?_
                  refine mx_read _ (.pointer (some ⟨wr.heap.size, 4, none⟩)) rfl (by kernel_rfl) (fun w' hF => by rw [hF]; simp [execOp, Act.eval, go_sem]) ?_
                  refine mx_read _ (.int .i64 cc) rfl (by kernel_rfl) (fun w' hF => by rw [hF]; simp [execOp, Act.eval, go_sem, u4]) ?_
                  refine mx_one _ rfl (by kernel_rfl) (fun K8 hK8 => ?_)
                  go_simp
                  refine (small_any cc WD).mono ?_
                  rintro e wt ⟨rfl, rfl⟩
                  refine hK8.out _ _ (fun _ => rfl) ?_
                  clear hK8 K8
                  refine mx_read _ (.bool false) rfl (by kernel_rfl) (fun w' hF => by rw [hF]; simp [execOp, Act.eval, go_sem, cn4]) ?_
                  refine mx_read _ (.bool false) rfl (by kernel_rfl) (fun w' hF => by rw [hF]; simp [execOp, Act.eval, go_sem]) ?_
                  refine mx_read _ (.bool false) rfl (by kernel_rfl) (fun w' hF => by rw [hF]; simp [execOp, Act.eval, go_sem]) ?_
                  refine mx_read _ (.int .i64 (k : Int)) rfl (by kernel_rfl) (fun w' hF => by rw [hF]; simp [execOp, Act.eval, go_sem]) ?_
                  refine mx_read _ (.bool false) rfl (by kernel_rfl) (fun w' hF => by rw [hF]; simp [execOp, Act.eval, go_sem, k0]) ?_
                  refine mx_read _ (.bool false) rfl (by kernel_rfl) (fun w' hF => by rw [hF]; simp [execOp, Act.eval, go_sem]) ?_
                  refine mx_skip _ rfl (by kernel_rfl) ?_
                  refine mx_skip _ rfl (by kernel_rfl) ?_
                  refine mx_skip _ rfl (by kernel_rfl) ?_
                  refine mx_skip _ rfl (by kernel_rfl) ?_
                  refine mx_skip _ rfl (by kernel_rfl) ?_
                  refine mx_skip _ rfl (by kernel_rfl) ?_
                  refine mx_skip _ rfl (by kernel_rfl) ?_
                  refine mx_skip _ rfl (by kernel_rfl) ?_
                  refine mx_skip _ rfl (by kernel_rfl) ?_
                  refine mx_read _ (.bool false) rfl (by kernel_rfl) (fun w' hF => by rw [hF]; simp [execOp, Act.eval, go_sem]) ?_
                  refine mx_one _ rfl (by kernel_rfl) (fun K8 hK8 => ?_)
                  go_simp
                  refine hK8.out _ _ (fun h => absurd rfl h) ?_
                  clear hK8 K8
                  refine mx_end ?_
                  go_wp2_with fail
                  go_roundw
                  case rel => exact ⟨_, by go_num, HM.out.2, HGOOD.out, HBE.out⟩
                  case measure => have := HM.out.2; simp [intOf]; omega
              · have cn4 : okNum cc = false := by simpa using cn4
                have HBAD := Lib.hid (HFB.out (HOKE.out (HENTN.out (by simp [cn4]))))
                refine mx_begin (fun w' => w' = WD) [(true, 0), (true, 1), (false, 2), (true, 3), (true, 4), (true, 5), (true, 6), (false, 7), (true, 8), (true, 9), (true, 10), (true, 11), (true, 12), (false, 13), (true, 14), (true, 15), (true, 16), (true, 17), (true, 18), (false, 19), (true, 20), (true, 21), (true, 22), (true, 23), (true, 24), (false, 25), (true, 26), (true, 27), (true, 28), (true, 29), (true, 30), (true, 31), (true, 32), (true, 33), (true, 34), (true, 35), (true, 36), (true, 37), (true, 38), (true, 39), (true, 40), (true, 41), (false, 42)] (by kernel_rfl) (by kernel_rfl) (fun _ _ d _ _ h => by cases d <;> exact h) HWD.out ?_
                rw [HWD.out]
                refine mx_read _ (.pointer (some ⟨wr.heap.size, 0, none⟩)) rfl (by kernel_rfl) (fun w' hF => by rw [hF]; simp [execOp, Act.eval, go_sem]) ?_
                refine mx_read _ (.string s) rfl (by kernel_rfl) (fun w' hF => by rw [hF]; simp [execOp, Act.eval, go_sem, u0]) ?_
                refine mx_one _ rfl (by kernel_rfl) (fun K8 hK8 => ?_)
                go_simp
                refine (NAME.out).mono ?_
                rintro e wt ⟨rfl, rfl⟩
                refine hK8.out _ _ (fun _ => rfl) ?_
                clear hK8 K8
                refine mx_read _ (.bool false) rfl (by kernel_rfl) (fun w' hF => by rw [hF]; simp [execOp, Act.eval, go_sem, cn]) ?_
                refine mx_read _ (.bool false) rfl (by kernel_rfl) (fun w' hF => by rw [hF]; simp [execOp, Act.eval, go_sem]) ?_
                refine mx_read _ (.pointer (some ⟨wr.heap.size, 1, none⟩)) rfl (by kernel_rfl) (fun w' hF => by rw [hF]; simp [execOp, Act.eval, go_sem]) ?_
                refine mx_read _ (.int .i64 f) rfl (by kernel_rfl) (fun w' hF => by rw [hF]; simp [execOp, Act.eval, go_sem, u1]) ?_
                refine mx_one _ rfl (by kernel_rfl) (fun K8 hK8 => ?_)
                go_simp
                refine (small_any f WD).mono ?_
                rintro e wt ⟨rfl, rfl⟩
                refine hK8.out _ _ (fun _ => rfl) ?_
                clear hK8 K8
                refine mx_read _ (.bool false) rfl (by kernel_rfl) (fun w' hF => by rw [hF]; simp [execOp, Act.eval, go_sem, cn1]) ?_
                refine mx_read _ (.bool false) rfl (by kernel_rfl) (fun w' hF => by rw [hF]; simp [execOp, Act.eval, go_sem]) ?_
                refine mx_read _ (.bool false) rfl (by kernel_rfl) (fun w' hF => by rw [hF]; simp [execOp, Act.eval, go_sem]) ?_
                refine mx_read _ (.pointer (some ⟨wr.heap.size, 2, none⟩)) rfl (by kernel_rfl) (fun w' hF => by rw [hF]; simp [execOp, Act.eval, go_sem]) ?_
                refine mx_read _ (.int .i64 bb) rfl (by kernel_rfl) (fun w' hF => by rw [hF]; simp [execOp, Act.eval, go_sem, u2]) ?_
                refine mx_one _ rfl (by kernel_rfl) (fun K8 hK8 => ?_)
                go_simp
                refine (small_any bb WD).mono ?_
                rintro e wt ⟨rfl, rfl⟩
                refine hK8.out _ _ (fun _ => rfl) ?_
                clear hK8 K8
                refine mx_read _ (.bool false) rfl (by kernel_rfl) (fun w' hF => by rw [hF]; simp [execOp, Act.eval, go_sem, cn2]) ?_
                refine mx_read _ (.bool false) rfl (by kernel_rfl) (fun w' hF => by rw [hF]; simp [execOp, Act.eval, go_sem]) ?_
                refine mx_read _ (.bool false) rfl (by kernel_rfl) (fun w' hF => by rw [hF]; simp [execOp, Act.eval, go_sem]) ?_
                refine mx_read _ (.pointer (some ⟨wr.heap.size, 3, none⟩)) rfl (by kernel_rfl) (fun w' hF => by rw [hF]; simp [execOp, Act.eval, go_sem]) ?_
                refine mx_read _ (.int .i64 ww) rfl (by kernel_rfl) (fun w' hF => by rw [hF]; simp [execOp, Act.eval, go_sem, u3]) ?_
                refine mx_one _ rfl (by kernel_rfl) (fun K8 hK8 => ?_)
                go_simp
                refine (small_any ww WD).mono ?_
                rintro e wt ⟨rfl, rfl⟩
                refine hK8.out _ _ (fun _ => rfl) ?_
                clear hK8 K8
                refine mx_read _ (.bool false) rfl (by kernel_rfl) (fun w' hF => by rw [hF]; simp [execOp, Act.eval, go_sem, cn3]) ?_
                refine mx_read _ (.bool false) rfl (by kernel_rfl) (fun w' hF => by rw [hF]; simp [execOp, Act.eval, go_sem]) ?_
                refine mx_read _ (.bool false) rfl (by kernel_rfl) (fun w' hF => by rw [hF]; simp [execOp, Act.eval, go_sem]) ?_
                refine mx_read _ (.pointer (some ⟨wr.heap.size, 4, none⟩)) rfl (by kernel_rfl) (fun w' hF => by rw [hF]; simp [execOp, Act.eval, go_sem]) ?_
                refine mx_read _ (.int .i64 cc) rfl (by kernel_rfl) (fun w' hF => by rw [hF]; simp [execOp, Act.eval, go_sem, u4]) ?_
                refine mx_one _ rfl (by kernel_rfl) (fun K8 hK8 => ?_)
                go_simp
                refine (small_any cc WD).mono ?_
                rintro e wt ⟨rfl, rfl⟩
                refine hK8.out _ _ (fun _ => rfl) ?_
                clear hK8 K8
                refine mx_read _ (.bool true) rfl (by kernel_rfl) (fun w' hF => by rw [hF]; simp [execOp, Act.eval, go_sem, cn4]) ?_
                refine mx_read _ (.bool true) rfl (by kernel_rfl) (fun w' hF => by rw [hF]; simp [execOp, Act.eval, go_sem]) ?_
                refine mx_read _ (.bool true) rfl (by kernel_rfl) (fun w' hF => by rw [hF]; simp [execOp, Act.eval, go_sem]) ?_
                refine mx_skip _ rfl (by kernel_rfl) ?_
                refine mx_skip _ rfl (by kernel_rfl) ?_
                refine mx_skip _ rfl (by kernel_rfl) ?_
                refine mx_skip _ rfl (by kernel_rfl) ?_
                refine mx_skip _ rfl (by kernel_rfl) ?_
                refine mx_skip _ rfl (by kernel_rfl) ?_
                refine mx_skip _ rfl (by kernel_rfl) ?_
                refine mx_skip _ rfl (by kernel_rfl) ?_
                refine mx_skip _ rfl (by kernel_rfl) ?_
                refine mx_skip _ rfl (by kernel_rfl) ?_
                refine mx_skip _ rfl (by kernel_rfl) ?_
                refine mx_skip _ rfl (by kernel_rfl) ?_
                refine mx_skip _ rfl (by kernel_rfl) ?_
                refine mx_one _ rfl (by kernel_rfl) (fun K8 hK8 => ?_)
                go_simp
                refine hK8.out _ _ (fun h => absurd rfl h) ?_
                clear hK8 K8
                refine mx_end ?_
                go_wp2_with fail
                go_ret
                exact ⟨by rw [HBAD.out]; rfl, HBE.out⟩
            · have cn3 : okNum ww = false := by simpa using cn3
              have HBAD := Lib.hid (HFB.out (HOKE.out (HENTN.out (by simp [cn3]))))
              refine mx_begin (fun w' => w' = WD) [(true, 0), (true, 1), (false, 2), (true, 3), (true, 4), (true, 5), (true, 6), (false, 7), (true, 8), (true, 9), (true, 10), (true, 11), (true, 12), (false, 13), (true, 14), (true, 15), (true, 16), (true, 17), (true, 18), (false, 19), (true, 20), (true, 21), (true, 22), (true, 23), (true, 24), (false, 25), (true, 26), (true, 27), (true, 28), (true, 29), (true, 30), (true, 31), (true, 32), (true, 33), (true, 34), (true, 35), (true, 36), (true, 37), (true, 38), (true, 39), (true, 40), (true, 41), (false, 42)] (by kernel_rfl) (by kernel_rfl) (fun _ _ d _ _ h => by cases d <;> exact h) HWD.out ?_
              rw [HWD.out]
              refine mx_read _ (.pointer (some ⟨wr.heap.size, 0, none⟩)) rfl (by kernel_rfl) (fun w' hF => by rw [hF]; simp [execOp, Act.eval, go_sem]) ?_
              refine mx_read _ (.string s) rfl (by kernel_rfl) (fun w' hF => by rw [hF]; simp [execOp, Act.eval, go_sem, u0]) ?_
              refine mx_one _ rfl (by kernel_rfl) (fun K8 hK8 => ?_)
              go_simp
              refine (NAME.out).mono ?_
              rintro e wt ⟨rfl, rfl⟩
              refine hK8.out _ _ (fun _ => rfl) ?_
              clear hK8 K8
              refine mx_read _ (.bool false) rfl (by kernel_rfl) (fun w' hF => by rw [hF]; simp [execOp, Act.eval, go_sem, cn]) ?_
              refine mx_read _ (.bool false) rfl (by kernel_rfl) (fun w' hF => by rw [hF]; simp [execOp, Act.eval, go_sem]) ?_
              refine mx_read _ (.pointer (some ⟨wr.heap.size, 1, none⟩)) rfl (by kernel_rfl) (fun w' hF => by rw [hF]; simp [execOp, Act.eval, go_sem]) ?_
              refine mx_read _ (.int .i64 f) rfl (by kernel_rfl) (fun w' hF => by rw [hF]; simp [execOp, Act.eval, go_sem, u1]) ?_
              refine mx_one _ rfl (by kernel_rfl) (fun K8 hK8 => ?_)
              go_simp
              refine (small_any f WD).mono ?_
              rintro e wt ⟨rfl, rfl⟩
              refine hK8.out _ _ (fun _ => rfl) ?_
              clear hK8 K8
              refine mx_read _ (.bool false) rfl (by kernel_rfl) (fun w' hF => by rw [hF]; simp [execOp, Act.eval, go_sem, cn1]) ?_
              refine mx_read _ (.bool false) rfl (by kernel_rfl) (fun w' hF => by rw [hF]; simp [execOp, Act.eval, go_sem]) ?_
              refine mx_read _ (.bool false) rfl (by kernel_rfl) (fun w' hF => by rw [hF]; simp [execOp, Act.eval, go_sem]) ?_
              refine mx_read _ (.pointer (some ⟨wr.heap.size, 2, none⟩)) rfl (by kernel_rfl) (fun w' hF => by rw [hF]; simp [execOp, Act.eval, go_sem]) ?_
              refine mx_read _ (.int .i64 bb) rfl (by kernel_rfl) (fun w' hF => by rw [hF]; simp [execOp, Act.eval, go_sem, u2]) ?_
              refine mx_one _ rfl (by kernel_rfl) (fun K8 hK8 => ?_)
              go_simp
              refine (small_any bb WD).mono ?_
              rintro e wt ⟨rfl, rfl⟩
              refine hK8.out _ _ (fun _ => rfl) ?_
              clear hK8 K8
              refine mx_read _ (.bool false) rfl (by kernel_rfl) (fun w' hF => by rw [hF]; simp [execOp, Act.eval, go_sem, cn2]) ?_
              refine mx_read _ (.bool false) rfl (by kernel_rfl) (fun w' hF => by rw [hF]; simp [execOp, Act.eval, go_sem]) ?_
              refine mx_read _ (.bool false) rfl (by kernel_rfl) (fun w' hF => by rw [hF]; simp [execOp, Act.eval, go_sem]) ?_
              refine mx_read _ (.pointer (some ⟨wr.heap.size, 3, none⟩)) rfl (by kernel_rfl) (fun w' hF => by rw [hF]; simp [execOp, Act.eval, go_sem]) ?_
              refine mx_read _ (.int .i64 ww) rfl (by kernel_rfl) (fun w' hF => by rw [hF]; simp [execOp, Act.eval, go_sem, u3]) ?_
              refine mx_one _ rfl (by kernel_rfl) (fun K8 hK8 => ?_)
              go_simp
              refine (small_any ww WD).mono ?_
              rintro e wt ⟨rfl, rfl⟩
              refine hK8.out _ _ (fun _ => rfl) ?_
              clear hK8 K8
              refine mx_read _ (.bool true) rfl (by kernel_rfl) (fun w' hF => by rw [hF]; simp [execOp, Act.eval, go_sem, cn3]) ?_
              refine mx_read _ (.bool true) rfl (by kernel_rfl) (fun w' hF => by rw [hF]; simp [execOp, Act.eval, go_sem]) ?_
              refine mx_read _ (.bool true) rfl (by kernel_rfl) (fun w' hF => by rw [hF]; simp [execOp, Act.eval, go_sem]) ?_
              refine mx_skip _ rfl (by kernel_rfl) ?_
              refine mx_skip _ rfl (by kernel_rfl) ?_
              refine mx_one_skip _ rfl rfl (by kernel_rfl) ?_
              refine mx_skip _ rfl (by kernel_rfl) ?_
              refine mx_read _ (.bool true) rfl (by kernel_rfl) (fun w' hF => by rw [hF]; simp [execOp, Act.eval, go_sem]) ?_
              refine mx_read _ (.bool true) rfl (by kernel_rfl) (fun w' hF => by rw [hF]; simp [execOp, Act.eval, go_sem]) ?_
              refine mx_skip _ rfl (by kernel_rfl) ?_
              refine mx_skip _ rfl (by kernel_rfl) ?_
              refine mx_skip _ rfl (by kernel_rfl) ?_
              refine mx_skip _ rfl (by kernel_rfl) ?_
              refine mx_skip _ rfl (by kernel_rfl) ?_
              refine mx_skip _ rfl (by kernel_rfl) ?_
              refine mx_skip _ rfl (by kernel_rfl) ?_
              refine mx_skip _ rfl (by kernel_rfl) ?_
              refine mx_skip _ rfl (by kernel_rfl) ?_
              refine mx_skip _ rfl (by kernel_rfl) ?_
              refine mx_skip _ rfl (by kernel_rfl) ?_
              refine mx_skip _ rfl (by kernel_rfl) ?_
              refine mx_skip _ rfl (by kernel_rfl) ?_
              refine mx_one _ rfl (by kernel_rfl) (fun K8 hK8 => ?_)
              go_simp
              refine hK8.out _ _ (fun h => absurd rfl h) ?_
              clear hK8 K8
              refine mx_end ?_
              go_wp2_with fail
              go_ret
              exact ⟨by rw [HBAD.out]; rfl, HBE.out⟩
          · have cn2 : okNum bb = false := by simpa using cn2
            have HBAD := Lib.hid (HFB.out (HOKE.out (HENTN.out (by simp [cn2]))))
            refine mx_begin (fun w' => w' = WD) [(true, 0), (true, 1), (false, 2), (true, 3), (true, 4), (true, 5), (true, 6), (false, 7), (true, 8), (true, 9), (true, 10), (true, 11), (true, 12), (false, 13), (true, 14), (true, 15), (true, 16), (true, 17), (true, 18), (false, 19), (true, 20), (true, 21), (true, 22), (true, 23), (true, 24), (false, 25), (true, 26), (true, 27), (true, 28), (true, 29), (true, 30), (true, 31), (true, 32), (true, 33), (true, 34), (true, 35), (true, 36), (true, 37), (true, 38), (true, 39), (true, 40), (true, 41), (false, 42)] (by kernel_rfl) (by kernel_rfl) (fun _ _ d _ _ h => by cases d <;> exact h) HWD.out ?_
            rw [HWD.out]
            refine mx_read _ (.pointer (some ⟨wr.heap.size, 0, none⟩)) rfl (by kernel_rfl) (fun w' hF => by rw [hF]; simp [execOp, Act.eval, go_sem]) ?_
            refine mx_read _ (.string s) rfl (by kernel_rfl) (fun w' hF => by rw [hF]; simp [execOp, Act.eval, go_sem, u0]) ?_
            refine mx_one _ rfl (by kernel_rfl) (fun K8 hK8 => ?_)
            go_simp
            refine (NAME.out).mono ?_
            rintro e wt ⟨rfl, rfl⟩
            refine hK8.out _ _ (fun _ => rfl) ?_
            clear hK8 K8
            refine mx_read _ (.bool false) rfl (by kernel_rfl) (fun w' hF => by rw [hF]; simp [execOp, Act.eval, go_sem, cn]) ?_
            refine mx_read _ (.bool false) rfl (by kernel_rfl) (fun w' hF => by rw [hF]; simp [execOp, Act.eval, go_sem]) ?_
            refine mx_read _ (.pointer (some ⟨wr.heap.size, 1, none⟩)) rfl (by kernel_rfl) (fun w' hF => by rw [hF]; simp [execOp, Act.eval, go_sem]) ?_
            refine mx_read _ (.int .i64 f) rfl (by kernel_rfl) (fun w' hF => by rw [hF]; simp [execOp, Act.eval, go_sem, u1]) ?_
            refine mx_one _ rfl (by kernel_rfl) (fun K8 hK8 => ?_)
            go_simp
            refine (small_any f WD).mono ?_
            rintro e wt ⟨rfl, rfl⟩
            refine hK8.out _ _ (fun _ => rfl) ?_
            clear hK8 K8
            refine mx_read _ (.bool false) rfl (by kernel_rfl) (fun w' hF => by rw [hF]; simp [execOp, Act.eval, go_sem, cn1]) ?_
            refine mx_read _ (.bool false) rfl (by kernel_rfl) (fun w' hF => by rw [hF]; simp [execOp, Act.eval, go_sem]) ?_
            refine mx_read _ (.bool false) rfl (by kernel_rfl) (fun w' hF => by rw [hF]; simp [execOp, Act.eval, go_sem]) ?_
            refine mx_read _ (.pointer (some ⟨wr.heap.size, 2, none⟩)) rfl (by kernel_rfl) (fun w' hF => by rw [hF]; simp [execOp, Act.eval, go_sem]) ?_
            refine mx_read _ (.int .i64 bb) rfl (by kernel_rfl) (fun w' hF => by rw [hF]; simp [execOp, Act.eval, go_sem, u2]) ?_
            refine mx_one _ rfl (by kernel_rfl) (fun K8 hK8 => ?_)
            go_simp
            refine (small_any bb WD).mono ?_
            rintro e wt ⟨rfl, rfl⟩
            refine hK8.out _ _ (fun _ => rfl) ?_
            clear hK8 K8
            refine mx_read _ (.bool true) rfl (by kernel_rfl) (fun w' hF => by rw [hF]; simp [execOp, Act.eval, go_sem, cn2]) ?_
            refine mx_read _ (.bool true) rfl (by kernel_rfl) (fun w' hF => by rw [hF]; simp [execOp, Act.eval, go_sem]) ?_
            refine mx_read _ (.bool true) rfl (by kernel_rfl) (fun w' hF => by rw [hF]; simp [execOp, Act.eval, go_sem]) ?_
            refine mx_skip _ rfl (by kernel_rfl) ?_
            refine mx_skip _ rfl (by kernel_rfl) ?_
            refine mx_one_skip _ rfl rfl (by kernel_rfl) ?_
            refine mx_skip _ rfl (by kernel_rfl) ?_
            refine mx_read _ (.bool true) rfl (by kernel_rfl) (fun w' hF => by rw [hF]; simp [execOp, Act.eval, go_sem]) ?_
            refine mx_read _ (.bool true) rfl (by kernel_rfl) (fun w' hF => by rw [hF]; simp [execOp, Act.eval, go_sem]) ?_
            refine mx_skip _ rfl (by kernel_rfl) ?_
            refine mx_skip _ rfl (by kernel_rfl) ?_
            refine mx_one_skip _ rfl rfl (by kernel_rfl) ?_
            refine mx_skip _ rfl (by kernel_rfl) ?_
            refine mx_read _ (.bool true) rfl (by kernel_rfl) (fun w' hF => by rw [hF]; simp [execOp, Act.eval, go_sem]) ?_
            refine mx_read _ (.bool true) rfl (by kernel_rfl) (fun w' hF => by rw [hF]; simp [execOp, Act.eval, go_sem]) ?_
            refine mx_skip _ rfl (by kernel_rfl) ?_
            refine mx_skip _ rfl (by kernel_rfl) ?_
            refine mx_skip _ rfl (by kernel_rfl) ?_
            refine mx_skip _ rfl (by kernel_rfl) ?_
            refine mx_skip _ rfl (by kernel_rfl) ?_
            refine mx_skip _ rfl (by kernel_rfl) ?_
            refine mx_skip _ rfl (by kernel_rfl) ?_
            refine mx_skip _ rfl (by kernel_rfl) ?_
            refine mx_skip _ rfl (by kernel_rfl) ?_
            refine mx_skip _ rfl (by kernel_rfl) ?_
            refine mx_skip _ rfl (by kernel_rfl) ?_
            refine mx_skip _ rfl (by kernel_rfl) ?_
            refine mx_skip _ rfl (by kernel_rfl) ?_
            refine mx_one _ rfl (by kernel_rfl) (fun K8 hK8 => ?_)
            go_simp
            refine hK8.out _ _ (fun h => absurd rfl h) ?_
            clear hK8 K8
            refine mx_end ?_
            go_wp2_with fail
            go_ret
            exact ⟨by rw [HBAD.out]; rfl, HBE.out⟩
        · have cn1 : okNum f = false := by simpa using cn1
          have HBAD := Lib.hid (HFB.out (HOKE.out (HENTN.out (by simp [cn1]))))
          refine mx_begin (fun w' => w' = WD) [(true, 0), (true, 1), (false, 2), (true, 3), (true, 4), (true, 5), (true, 6), (false, 7), (true, 8), (true, 9), (true, 10), (true, 11), (true, 12), (false, 13), (true, 14), (true, 15), (true, 16), (true, 17), (true, 18), (false, 19), (true, 20), (true, 21), (true, 22), (true, 23), (true, 24), (false, 25), (true, 26), (true, 27), (true, 28), (true, 29), (true, 30), (true, 31), (true, 32), (true, 33), (true, 34), (true, 35), (true, 36), (true, 37), (true, 38), (true, 39), (true, 40), (true, 41), (false, 42)] (by kernel_rfl) (by kernel_rfl) (fun _ _ d _ _ h => by cases d <;> exact h) HWD.out ?_
          rw [HWD.out]
          refine mx_read _ (.pointer (some ⟨wr.heap.size, 0, none⟩)) rfl (by kernel_rfl) (fun w' hF => by rw [hF]; simp [execOp, Act.eval, go_sem]) ?_
          refine mx_read _ (.string s) rfl (by kernel_rfl) (fun w' hF => by rw [hF]; simp [execOp, Act.eval, go_sem, u0]) ?_
          refine mx_one _ rfl (by kernel_rfl) (fun K8 hK8 => ?_)
          go_simp
          refine (NAME.out).mono ?_
          rintro e wt ⟨rfl, rfl⟩
          refine hK8.out _ _ (fun _ => rfl) ?_
          clear hK8 K8
          refine mx_read _ (.bool false) rfl (by kernel_rfl) (fun w' hF => by rw [hF]; simp [execOp, Act.eval, go_sem, cn]) ?_
          refine mx_read _ (.bool false) rfl (by kernel_rfl) (fun w' hF => by rw [hF]; simp [execOp, Act.eval, go_sem]) ?_
          refine mx_read _ (.pointer (some ⟨wr.heap.size, 1, none⟩)) rfl (by kernel_rfl) (fun w' hF => by rw [hF]; simp [execOp, Act.eval, go_sem]) ?_
          refine mx_read _ (.int .i64 f) rfl (by kernel_rfl) (fun w' hF => by rw [hF]; simp [execOp, Act.eval, go_sem, u1]) ?_
          refine mx_one _ rfl (by kernel_rfl) (fun K8 hK8 => ?_)
          go_simp
          refine (small_any f WD).mono ?_
          rintro e wt ⟨rfl, rfl⟩
          refine hK8.out _ _ (fun _ => rfl) ?_
          clear hK8 K8
          refine mx_read _ (.bool true) rfl (by kernel_rfl) (fun w' hF => by rw [hF]; simp [execOp, Act.eval, go_sem, cn1]) ?_
          refine mx_read _ (.bool true) rfl (by kernel_rfl) (fun w' hF => by rw [hF]; simp [execOp, Act.eval, go_sem]) ?_
          refine mx_read _ (.bool true) rfl (by kernel_rfl) (fun w' hF => by rw [hF]; simp [execOp, Act.eval, go_sem]) ?_
          refine mx_skip _ rfl (by kernel_rfl) ?_
          refine mx_skip _ rfl (by kernel_rfl) ?_
          refine mx_one_skip _ rfl rfl (by kernel_rfl) ?_
          refine mx_skip _ rfl (by kernel_rfl) ?_
          refine mx_read _ (.bool true) rfl (by kernel_rfl) (fun w' hF => by rw [hF]; simp [execOp, Act.eval, go_sem]) ?_
          refine mx_read _ (.bool true) rfl (by kernel_rfl) (fun w' hF => by rw [hF]; simp [execOp, Act.eval, go_sem]) ?_
          refine mx_skip _ rfl (by kernel_rfl) ?_
          refine mx_skip _ rfl (by kernel_rfl) ?_
          refine mx_one_skip _ rfl rfl (by kernel_rfl) ?_
          refine mx_skip _ rfl (by kernel_rfl) ?_
          refine mx_read _ (.bool true) rfl (by kernel_rfl) (fun w' hF => by rw [hF]; simp [execOp, Act.eval, go_sem]) ?_
          refine mx_read _ (.bool true) rfl (by kernel_rfl) (fun w' hF => by rw [hF]; simp [execOp, Act.eval, go_sem]) ?_
          refine mx_skip _ rfl (by kernel_rfl) ?_
          refine mx_skip _ rfl (by kernel_rfl) ?_
          refine mx_one_skip _ rfl rfl (by kernel_rfl) ?_
          refine mx_skip _ rfl (by kernel_rfl) ?_
          refine mx_read _ (.bool true) rfl (by kernel_rfl) (fun w' hF => by rw [hF]; simp [execOp, Act.eval, go_sem]) ?_
          refine mx_read _ (.bool true) rfl (by kernel_rfl) (fun w' hF => by rw [hF]; simp [execOp, Act.eval, go_sem]) ?_
          refine mx_skip _ rfl (by kernel_rfl) ?_
          refine mx_skip _ rfl (by kernel_rfl) ?_
          refine mx_skip _ rfl (by kernel_rfl) ?_
          refine mx_skip _ rfl (by kernel_rfl) ?_
          refine mx_skip _ rfl (by kernel_rfl) ?_
          refine mx_skip _ rfl (by kernel_rfl) ?_
          refine mx_skip _ rfl (by kernel_rfl) ?_
          refine mx_skip _ rfl (by kernel_rfl) ?_
          refine mx_skip _ rfl (by kernel_rfl) ?_
          refine mx_skip _ rfl (by kernel_rfl) ?_
          refine mx_skip _ rfl (by kernel_rfl) ?_
          refine mx_skip _ rfl (by kernel_rfl) ?_
          refine mx_skip _ rfl (by kernel_rfl) ?_
          refine mx_one _ rfl (by kernel_rfl) (fun K8 hK8 => ?_)
          go_simp
          refine hK8.out _ _ (fun h => absurd rfl h) ?_
          clear hK8 K8
          refine mx_end ?_
          go_wp2_with fail
          go_ret
          exact ⟨by rw [HBAD.out]; rfl, HBE.out⟩
      · have cn : okName s.data.toList = false := by simpa using cn
        have HBAD := Lib.hid (HFB.out (HOKE.out (okEnt_name cn)))
        refine mx_begin (fun w' => w' = WD) [(true, 0), (true, 1), (false, 2), (true, 3), (true, 4), (true, 5), (true, 6), (false, 7), (true, 8), (true, 9), (true, 10), (true, 11), (true, 12), (false, 13), (true, 14), (true, 15), (true, 16), (true, 17), (true, 18), (false, 19), (true, 20), (true, 21), (true, 22), (true, 23), (true, 24), (false, 25), (true, 26), (true, 27), (true, 28), (true, 29), (true, 30), (true, 31), (true, 32), (true, 33), (true, 34), (true, 35), (true, 36), (true, 37), (true, 38), (true, 39), (true, 40), (true, 41), (false, 42)] (by kernel_rfl) (by kernel_rfl) (fun _ _ d _ _ h => by cases d <;> exact h) HWD.out ?_
        rw [HWD.out]
        refine mx_read _ (.pointer (some ⟨wr.heap.size, 0, none⟩)) rfl (by kernel_rfl) (fun w' hF => by rw [hF]; simp [execOp, Act.eval, go_sem]) ?_
        refine mx_read _ (.string s) rfl (by kernel_rfl) (fun w' hF => by rw [hF]; simp [execOp, Act.eval, go_sem, u0]) ?_
        refine mx_one _ rfl (by kernel_rfl) (fun K8 hK8 => ?_)
        go_simp
        refine (NAME.out).mono ?_
        rintro e wt ⟨rfl, rfl⟩
        refine hK8.out _ _ (fun _ => rfl) ?_
        clear hK8 K8
        refine mx_read _ (.bool true) rfl (by kernel_rfl) (fun w' hF => by rw [hF]; simp [execOp, Act.eval, go_sem, cn]) ?_
        refine mx_read _ (.bool true) rfl (by kernel_rfl) (fun w' hF => by rw [hF]; simp [execOp, Act.eval, go_sem]) ?_
        refine mx_skip _ rfl (by kernel_rfl) ?_
        refine mx_skip _ rfl (by kernel_rfl) ?_
        refine mx_one_skip _ rfl rfl (by kernel_rfl) ?_
        refine mx_skip _ rfl (by kernel_rfl) ?_
        refine mx_read _ (.bool true) rfl (by kernel_rfl) (fun w' hF => by rw [hF]; simp [execOp, Act.eval, go_sem]) ?_
        refine mx_read _ (.bool true) rfl (by kernel_rfl) (fun w' hF => by rw [hF]; simp [execOp, Act.eval, go_sem]) ?_
        refine mx_skip _ rfl (by kernel_rfl) ?_
        refine mx_skip _ rfl (by kernel_rfl) ?_
        refine mx_one_skip _ rfl rfl (by kernel_rfl) ?_
        refine mx_skip _ rfl (by kernel_rfl) ?_
        refine mx_read _ (.bool true) rfl (by kernel_rfl) (fun w' hF => by rw [hF]; simp [execOp, Act.eval, go_sem]) ?_
        refine mx_read _ (.bool true) rfl (by kernel_rfl) (fun w' hF => by rw [hF]; simp [execOp, Act.eval, go_sem]) ?_
        refine mx_skip _ rfl (by kernel_rfl) ?_
        refine mx_skip _ rfl (by kernel_rfl) ?_
        refine mx_one_skip _ rfl rfl (by kernel_rfl) ?_
        refine mx_skip _ rfl (by kernel_rfl) ?_
        refine mx_read _ (.bool true) rfl (by kernel_rfl) (fun w' hF => by rw [hF]; simp [execOp, Act.eval, go_sem]) ?_
        refine mx_read _ (.bool true) rfl (by kernel_rfl) (fun w' hF => by rw [hF]; simp [execOp, Act.eval, go_sem]) ?_
        refine mx_skip _ rfl (by kernel_rfl) ?_
        refine mx_skip _ rfl (by kernel_rfl) ?_
        refine mx_one_skip _ rfl rfl (by kernel_rfl) ?_
        refine mx_skip _ rfl (by kernel_rfl) ?_
        refine mx_read _ (.bool true) rfl (by kernel_rfl) (fun w' hF => by rw [hF]; simp [execOp, Act.eval, go_sem]) ?_
        refine mx_read _ (.bool true) rfl (by kernel_rfl) (fun w' hF => by rw [hF]; simp [execOp, Act.eval, go_sem]) ?_
        refine mx_skip _ rfl (by kernel_rfl) ?_
        refine mx_skip _ rfl (by kernel_rfl) ?_
        refine mx_skip _ rfl (by kernel_rfl) ?_
        refine mx_skip _ rfl (by kernel_rfl) ?_
        refine mx_skip _ rfl (by kernel_rfl) ?_
        refine mx_skip _ rfl (by kernel_rfl) ?_
        refine mx_skip _ rfl (by kernel_rfl) ?_
        refine mx_skip _ rfl (by kernel_rfl) ?_
        refine mx_skip _ rfl (by kernel_rfl) ?_
        refine mx_skip _ rfl (by kernel_rfl) ?_
        refine mx_skip _ rfl (by kernel_rfl) ?_
        refine mx_skip _ rfl (by kernel_rfl) ?_
        refine mx_skip _ rfl (by kernel_rfl) ?_
        refine mx_one _ rfl (by kernel_rfl) (fun K8 hK8 => ?_)
        go_simp
        refine hK8.out _ _ (fun h => absurd rfl h) ?_
        clear hK8 K8
        refine mx_end ?_
        go_wp2_with fail
        go_ret
        exact ⟨by rw [HBAD.out]; rfl, HBE.out⟩
    · obtain rfl : l.length = k := by omega
      have hlt2 : ¬ (l.length : Int) < (l.length : Int) := by omega
      have HF := Lib.hid (show formedM l = true from by
        unfold formedM
        rw [decide_eq_true_iff]
        exact ⟨by have := HL12.out; omega, HALL.out⟩)
      have HB := Lib.hid hb
      clear hr hb hk hlt hsz
      go_wp2_with fail
      go_ret
      exact ⟨by rw [HF.out]; rfl, HB.out⟩

end Go.Proofs.YtmmkncocgjgapaaDoor.Mf

/- A device without fuse and fault; what lies in a slot's blocks. -/
namespace Go.Proofs.YtmmkncocgjgapaaDoor.Mf
open Go.RowKit Dev

structure Calm (D : Dv) : Prop where
  down : D.down = false
  fuse : D.fuse = -1
  fault : D.fault = -1
def plus (D : Dv) (n : Nat) : Dv := { D with acts := D.acts + n }
theorem Calm.plus {D : Dv} (h : Calm D) (n : Nat) : Calm (plus D n) := ⟨h.1, h.2, h.3⟩
theorem plus_plus (D : Dv) (m n : Nat) : plus (plus D m) n = plus D (m + n) := by unfold plus; simp [Nat.add_assoc]
theorem plus_zero (D : Dv) : plus D 0 = D := rfl
theorem Calm.act {D : Dv} (h : Calm D) : D.act = (0, Mf.plus D 1) := by
  obtain ⟨sz, bl, la, no, pe, fu, fa, dn, ac⟩ := D
  obtain ⟨h1, h2, h3⟩ := h
  simp only at h1 h2 h3
  subst h1 h2 h3
  rfl
theorem Calm.rd {D : Dv} (h : Calm D) {i : Int} (h0 : 0 ≤ i) (hi : i < D.blocks) : D.rd i = (0, Mf.plus D 1) := by
  have hb : D.bars i D.size = 0 := by
    unfold Dv.bars
    rw [h.down]
    simp
    omega
  unfold Dv.rd
  rw [if_pos hb, h.act]
/-- A block: zeros, or sealed. -/
abbrev BlkC := Option (List (BitVec 64) × BitVec 64)
def blkW (size i : Nat) : BlkC → List Value
  | none => Crc.words (List.replicate size 0#64)
  | some (p, tag) => Crc.words (Crc.sealW p size tag (BitVec.ofNat 64 i))
def payC : BlkC → List (BitVec 64)
  | none => []
  | some q => q.1
def tagC : BlkC → List (BitVec 64)
  | none => []
  | some q => [q.2]
def lenC : BlkC → List Int
  | none => []
  | some q => [(q.1.length : Int)]
def allOf (l : List BlkC) : List (BitVec 64) := l.flatMap payC
def tagsOf (l : List BlkC) : List (BitVec 64) := l.flatMap tagC
def lensOf (l : List BlkC) : List Int := l.flatMap lenC
theorem allOf_add (l : List BlkC) (c : BlkC) : allOf (l ++ [c]) = allOf l ++ payC c := by simp [allOf]
theorem tagsOf_add (l : List BlkC) (c : BlkC) : tagsOf (l ++ [c]) = tagsOf l ++ tagC c := by simp [tagsOf]
theorem lensOf_add (l : List BlkC) (c : BlkC) : lensOf (l ++ [c]) = lensOf l ++ lenC c := by simp [lensOf]
theorem tags_len (Cs : List BlkC) : (tagsOf Cs).length ≤ Cs.length := by
  induction Cs with
  | nil => simp [tagsOf]
  | cons c l ih =>
    unfold tagsOf at ih ⊢
    rw [List.flatMap_cons, List.length_append, List.length_cons]
    have : (tagC c).length ≤ 1 := by (cases c <;> simp [tagC])
    omega
theorem lens_len (Cs : List BlkC) : (lensOf Cs).length ≤ Cs.length := by
  induction Cs with
  | nil => simp [lensOf]
  | cons c l ih =>
    unfold lensOf at ih ⊢
    rw [List.flatMap_cons, List.length_append, List.length_cons]
    have : (lenC c).length ≤ 1 := by (cases c <;> simp [lenC])
    omega
theorem all_len {Cs : List BlkC} {size : Nat} (h256 : size ≤ 256) (hp : ∀ p t, some (p, t) ∈ Cs → p.length + 2 ≤ size) : (allOf Cs).length ≤ Cs.length * 256 := by
  induction Cs with
  | nil => simp [allOf]
  | cons c l ih =>
    have hi := ih (fun p t h => hp p t (List.mem_cons_of_mem _ h))
    unfold allOf at hi ⊢
    rw [List.flatMap_cons, List.length_append, List.length_cons]
    have : (payC c).length ≤ 256 := by
      cases c with
      | none => simp [payC]
      | some q => have := hp q.1 q.2 (by simp); show q.1.length ≤ 256; omega
    omega
/-- What seal.Get says of a block. -/
theorem get_blk (c : BlkC) (size i : Nat) (a : Option Addr) (cp : Nat) (w : World) (hr : Row w a (blkW size i c)) (h8 : 8 ≤ size) (h256 : size ≤ 256) (hi : i < 9223372036854775808) (hc : size ≤ cp) (hc2 : cp ≤ maxLen) (hp : ∀ p t, c = some (p, t) → p.length + 2 ≤ size) :
    Calls Tryd.prog 47 #[.slice a size cp, .int .i64 (i : Int)] w fun e w' =>
      (∃ (p : List (BitVec 64)) (t : BitVec 64) (b : Option Addr) (pc : Nat), c = some (p, t) ∧ e = .returned (.tuple #[.slice b p.length pc, .int .u64 (Crc.I64 t), .int .i64 0]) ∧ Row w' b (Crc.words p) ∧ Below w.heap.size w w') ∨
      (c = none ∧ e = .returned (.tuple #[.slice none 0 0, .int .u64 0, .int .i64 6]) ∧ Below w.heap.size w w') := by
  cases c with
  | none =>
    obtain ⟨m, rfl⟩ : ∃ m, size = m + 1 := ⟨size - 1, by omega⟩
    have hno := Crc.zeros_none m (by omega) (BitVec.ofNat 64 i)
    rw [List.replicate_succ'] at hno
    refine (Crc.get_fault (List.replicate m 0#64) 0#64 (m + 1) i a cp w (by rw [← List.replicate_succ']; exact hr) (by simp) h8 h256 hi hc hc2 hno).mono ?_
    rintro e w' ⟨rfl, d, rfl⟩
    exact .inr ⟨rfl, rfl, ⟨rfl, rfl, rfl, Nat.le_refl _, fun _ _ => rfl⟩⟩
  | some q =>
    obtain ⟨p, t⟩ := q
    refine (Crc.get_yes p size i t a cp w hr h8 h256 (hp p t rfl) hi hc hc2).mono ?_
    rintro e w' ⟨b, pc, rfl, hrow, hb⟩
    exact .inl ⟨p, t, b, pc, rfl, rfl, hrow, hb⟩

end Go.Proofs.YtmmkncocgjgapaaDoor.Mf

/- A drawn region in which some operations that write may come up in one order or another: reads first, then the ways, then the end. -/
namespace Go.Proofs.YtmmkncocgjgapaaDoor
open Go.RowKit
section
variable {P : Program} {ops : Array Oper} {Q : Exit → Act → World → Prop} {F : World → Prop} {late : Nat → Bool}

def AltG (P : Program) (ops : Array Oper) (Q : Exit → Act → World → Prop) (F : World → Prop) (late : Nat → Bool) (f : Nat) (listed : Array Bool) (a : Act) (w : World) (i : Nat) : Prop :=
  ∃ o, ops[i]? = some o ∧ ∀ K : Act → World → Prop, Shut (∀ a w', (late i = false → F w') → AnyS P .any ops Q F late f (listed.setIfInBounds i true) a w' → K a w') →
      if Region.wanted o (yielded ops a.tmps) = true then Oper.wp P o a w K Q else K (a.put o.dst undef) w
theorem as_begin {id : Nat} {a : Act} {w : World} (F : World → Prop) (late : Nat → Bool) (n : Nat) (hn : ops.size = n) (hm : P.follows .mixedOrders = true) (hF : F w.drew)
    (h : Yg (AnyS P .any ops Q F late n (Array.replicate n false) a w.drew)) : (Code.region id ops true).wp P Q a w := by
  subst hn
  exact regS_begin F late hm hF (fun _ => h.out)
theorem as_read {i f : Nat} {listed : Array Bool} {a : Act} {w : World} (oi : Oper) (v : Value) (hF : F w) (hQ : ∀ c a d v w, Q (.panic c) (Act.put a d v) w → Q (.panic c) a w) (hi : ops[i]? = some oi) (ht : takeB .any ops late listed i = true) (hw : Region.wanted oi (yielded ops a.tmps) = true) (hv : ∀ w, F w → (execOp a.eval oi).run P w = .ok (.value v) w)
    (h : Yg (AnyS P .any ops Q F late f (listed.setIfInBounds i true) (a.put oi.dst v) w)) : Yg (AnyS P .any ops Q F late (f + 1) listed a w) :=
  ⟨anyS_take hi ht (fun c a w h => hQ c a _ _ w h) (.inl ⟨hw, hv⟩) hF h.out⟩
theorem as_alt {f : Nat} {listed : Array Bool} {a : Act} {w : World} (rs : List Nat) (hr : Region.ready .any ops listed = rs) (hne : rs.isEmpty = false) (h : ∀ i ∈ rs, AltG P ops Q F late f listed a w i) : Yg (AnyS P .any ops Q F late (f + 1) listed a w) := by
  refine ⟨⟨fun h0 => ?_, fun i hi => ?_⟩⟩
  · rw [hr] at h0
    rw [h0] at hne
    cases hne
  · rw [hr] at hi
    obtain ⟨o, ho, hk⟩ := h i hi
    exact wpOp_step ho (fun K' hK => hk K' (fun a w h1 h2 => hK a w ⟨h1, h2⟩))
theorem altG_mk {f i : Nat} {listed : Array Bool} {a : Act} {w : World} (o : Oper) (ho : ops[i]? = some o) (hw : Region.wanted o (yielded ops a.tmps) = true)
    (h : ∀ K : Act → World → Prop, Yg (∀ a w', (late i = false → F w') → Yg (AnyS P .any ops Q F late f (listed.setIfInBounds i true) a w') → K a w') → Oper.wp P o a w K Q) : AltG P ops Q F late f listed a w i :=
  ⟨o, ho, fun K hK => by rw [if_pos hw]; exact h K ⟨fun a w' h1 h2 => hK a w' h1 h2.out⟩⟩
theorem all1 {p : Nat → Prop} {i : Nat} (h : p i) : ∀ x ∈ [i], p x := by simpa using h
theorem all2 {p : Nat → Prop} {i j : Nat} (h : p i) (h2 : p j) : ∀ x ∈ [i, j], p x := by intro x hx; simp at hx; rcases hx with rfl | rfl <;> assumption
theorem all3 {p : Nat → Prop} {i j k : Nat} (h : p i) (h2 : p j) (h3 : p k) : ∀ x ∈ [i, j, k], p x := by intro x hx; simp at hx; rcases hx with rfl | rfl | rfl <;> assumption
theorem as_end {f : Nat} {listed : Array Bool} {a : Act} {w : World} (hr : Region.ready .any ops listed = []) (h : Q .normal a w) : Yg (AnyS P .any ops Q F late f listed a w) := ⟨anyS_done hr h⟩
end
end Go.Proofs.YtmmkncocgjgapaaDoor

/- Three rows of one's own, held in a struct. -/
namespace Go.Proofs.YtmmkncocgjgapaaDoor.Mf
open Go.RowKit Dev

theorem el_int : Elem Tryd.prog 68 3 1 8 := elem_of (z := .int .i64 0) Tryd.underlying68 (by kernel_rfl) rfl (by decide)
structure Tri (B s : Nat) (w0 : World) (v1 v2 v3 x1 x2 x3 : Value) (k1 k2 k3 : List Value) (w : World) : Prop where
  blk : Blk w s 70 #[v1, v2, v3]
  o1 : w.ownsRow B 35 1 x1 k1.length k1
  o2 : w.ownsRow B 35 1 x2 k2.length k2
  o3 : w.ownsRow B 3 1 x3 k3.length k3
  ne12 : ∀ g, x1.ownBlock = some g → x2.ownBlock = some g → False
  ne13 : ∀ g, x1.ownBlock = some g → x3.ownBlock = some g → False
  ne23 : ∀ g, x2.ownBlock = some g → x3.ownBlock = some g → False
  base : Below B w0 w
  hs : s < B
  hB : B ≤ w0.heap.size
section
variable {B s : Nat} {w0 w w' : World} {v1 v2 v3 x1 x2 x3 : Value} {k1 k2 k3 : List Value}
theorem Tri.size (h : Tri B s w0 v1 v2 v3 x1 x2 x3 k1 k2 k3 w) : B ≤ w.heap.size := Nat.le_trans h.hB h.base.size
/-- Cells of the struct. -/
def TriF (s : Nat) (v1 v2 v3 : Value) (w : World) : Prop := w.cell? ⟨s, 0, none⟩ = some v1 ∧ w.cell? ⟨s, 1, none⟩ = some v2 ∧ w.cell? ⟨s, 2, none⟩ = some v3
theorem Tri.f (h : Tri B s w0 v1 v2 v3 x1 x2 x3 k1 k2 k3 w) : TriF s v1 v2 v3 w := ⟨h.blk.cell 0, h.blk.cell 1, h.blk.cell 2⟩
theorem Tri.step (h : Tri B s w0 v1 v2 v3 x1 x2 x3 k1 k2 k3 w) (hb : Below w.heap.size w w') : Tri B s w0 v1 v2 v3 x1 x2 x3 k1 k2 k3 w' :=
  ⟨h.blk.below hb h.blk.lt, own_chg h.o1 (Chg.of_below' (S := fun _ => False) hb) (fun _ _ h => h), own_chg h.o2 (Chg.of_below' (S := fun _ => False) hb) (fun _ _ h => h), own_chg h.o3 (Chg.of_below' (S := fun _ => False) hb) (fun _ _ h => h), h.ne12, h.ne13, h.ne23, h.base.trans (hb.mono h.size), h.hs, h.hB⟩
theorem Tri.alloc (h : Tri B s w0 v1 v2 v3 x1 x2 x3 k1 k2 k3 w) (o : Obj) : Tri B s w0 v1 v2 v3 x1 x2 x3 k1 k2 k3 (w.alloc o) := h.step ((Below.refl _ _).alloc (Nat.le_refl _) o)
theorem Tri.app1 {x : Value} {news : List Value} {m : Nat} (h : Tri B s w0 v1 v2 v3 x1 x2 x3 k1 k2 k3 w) (a1 : w'.ownsRow B 35 1 x (k1.length + m) (k1 ++ news)) (a2 : w.grownBy w' x1.ownBlock) (a3 : x.ownBlock = x1.ownBlock ∨ x.ownBlock = some w.heap.size) (a4 : Below B w w') (hm : news.length = m) : Tri B s w0 v1 v2 v3 x x2 x3 (k1 ++ news) k2 k3 w' := by
  subst hm
  refine ⟨h.blk.below a4 h.hs, by rw [List.length_append]; exact a1, own_chg h.o2 (Chg.of_grown a2) (fun g hg e => h.ne12 g e.symm hg), own_chg h.o3 (Chg.of_grown a2) (fun g hg e => h.ne13 g e.symm hg), fun g h1 h2 => ?_, fun g h1 h2 => ?_, h.ne23, h.base.trans a4, h.hs, h.hB⟩
  · rcases a3 with e | e
    · exact h.ne12 g (e ▸ h1) h2
    · rw [e] at h1; injection h1 with h1; have := (h.o2.lt g h2).2; omega
  · rcases a3 with e | e
    · exact h.ne13 g (e ▸ h1) h2
    · rw [e] at h1; injection h1 with h1; have := (h.o3.lt g h2).2; omega
theorem Tri.app2 {x : Value} {news : List Value} {m : Nat} (h : Tri B s w0 v1 v2 v3 x1 x2 x3 k1 k2 k3 w) (a1 : w'.ownsRow B 35 1 x (k2.length + m) (k2 ++ news)) (a2 : w.grownBy w' x2.ownBlock) (a3 : x.ownBlock = x2.ownBlock ∨ x.ownBlock = some w.heap.size) (a4 : Below B w w') (hm : news.length = m) : Tri B s w0 v1 v2 v3 x1 x x3 k1 (k2 ++ news) k3 w' := by
  subst hm
  refine ⟨h.blk.below a4 h.hs, own_chg h.o1 (Chg.of_grown a2) (fun g hg e => h.ne12 g hg e.symm), by rw [List.length_append]; exact a1, own_chg h.o3 (Chg.of_grown a2) (fun g hg e => h.ne23 g e.symm hg), fun g h1 h2 => ?_, h.ne13, fun g h1 h2 => ?_, h.base.trans a4, h.hs, h.hB⟩
  · rcases a3 with e | e
    · exact h.ne12 g h1 (e ▸ h2)
    · rw [e] at h2; injection h2 with h2; have := (h.o1.lt g h1).2; omega
  · rcases a3 with e | e
    · exact h.ne23 g (e ▸ h1) h2
    · rw [e] at h1; injection h1 with h1; have := (h.o3.lt g h2).2; omega
theorem Tri.app3 {x : Value} {news : List Value} {m : Nat} (h : Tri B s w0 v1 v2 v3 x1 x2 x3 k1 k2 k3 w) (a1 : w'.ownsRow B 3 1 x (k3.length + m) (k3 ++ news)) (a2 : w.grownBy w' x3.ownBlock) (a3 : x.ownBlock = x3.ownBlock ∨ x.ownBlock = some w.heap.size) (a4 : Below B w w') (hm : news.length = m) : Tri B s w0 v1 v2 v3 x1 x2 x k1 k2 (k3 ++ news) w' := by
  subst hm
  refine ⟨h.blk.below a4 h.hs, own_chg h.o1 (Chg.of_grown a2) (fun g hg e => h.ne13 g hg e.symm), own_chg h.o2 (Chg.of_grown a2) (fun g hg e => h.ne23 g hg e.symm), by rw [List.length_append]; exact a1, h.ne12, fun g h1 h2 => ?_, fun g h1 h2 => ?_, h.base.trans a4, h.hs, h.hB⟩
  · rcases a3 with e | e
    · exact h.ne13 g h1 (e ▸ h2)
    · rw [e] at h2; injection h2 with h2; have := (h.o1.lt g h1).2; omega
  · rcases a3 with e | e
    · exact h.ne23 g h1 (e ▸ h2)
    · rw [e] at h2; injection h2 with h2; have := (h.o2.lt g h1).2; omega
/-- The three stores: the struct holds the rows as they are now. -/
theorem Tri.stored (h : Tri B s w0 v1 v2 v3 x1 x2 x3 k1 k2 k3 w) : Tri B s (((w.setCell ⟨s, 0, none⟩ x1).setCell ⟨s, 1, none⟩ x2).setCell ⟨s, 2, none⟩ x3) x1 x2 x3 x1 x2 x3 k1 k2 k3 (((w.setCell ⟨s, 0, none⟩ x1).setCell ⟨s, 1, none⟩ x2).setCell ⟨s, 2, none⟩ x3) ∧ Below s w (((w.setCell ⟨s, 0, none⟩ x1).setCell ⟨s, 1, none⟩ x2).setCell ⟨s, 2, none⟩ x3) := by
  have hc : Chg (fun k => k = s) w (((w.setCell ⟨s, 0, none⟩ x1).setCell ⟨s, 1, none⟩ x2).setCell ⟨s, 2, none⟩ x3) := by
    have hc1 : Chg (fun k => k = s) w (w.setCell ⟨s, 0, none⟩ x1) := Chg.setCell (Chg.refl (fun k => k = s) w) ⟨s, 0, none⟩ x1 (fun _ => rfl)
    have hc2 : Chg (fun k => k = s) w ((w.setCell ⟨s, 0, none⟩ x1).setCell ⟨s, 1, none⟩ x2) := Chg.setCell hc1 ⟨s, 1, none⟩ x2 (fun _ => rfl)
    exact Chg.setCell hc2 ⟨s, 2, none⟩ x3 (fun _ => rfl)
  have hs := h.hs
  refine ⟨⟨((h.blk.set_ 0 x1).set_ 1 x2).set_ 2 x3, own_chg h.o1 hc (fun g hg e => by have := (h.o1.lt g hg).1; omega), own_chg h.o2 hc (fun g hg e => by have := (h.o2.lt g hg).1; omega), own_chg h.o3 hc (fun g hg e => by have := (h.o3.lt g hg).1; omega), h.ne12, h.ne13, h.ne23, Below.refl _ _, h.hs, Nat.le_trans h.size hc.size⟩, hc.below_of (by have := h.size; omega) (fun k hk e => by omega)⟩
/-- A row of one cell, made just now: apart from the three. -/
structure Fr (w : World) (b : Nat) (v x1 x2 x3 : Value) : Prop where
  row : Row w (some ⟨b, 0, none⟩) [v]
  lt : b < w.heap.size
  n1 : ∀ g, x1.ownBlock = some g → g ≠ b
  n2 : ∀ g, x2.ownBlock = some g → g ≠ b
  n3 : ∀ g, x3.ownBlock = some g → g ≠ b
theorem Fr.new (h : Tri B s w0 v1 v2 v3 x1 x2 x3 k1 k2 k3 w) (v : Value) (t : TypeId) : Fr (w.alloc (.cells #[v] t)) w.heap.size v x1 x2 x3 :=
  ⟨Row.new w #[v] t (0, 0), by simp, fun g hg e => by have := (h.o1.lt g hg).2; omega, fun g hg e => by have := (h.o2.lt g hg).2; omega, fun g hg e => by have := (h.o3.lt g hg).2; omega⟩
theorem Fr.alloc {b : Nat} {v : Value} (h : Fr w b v x1 x2 x3) (o : Obj) : Fr (w.alloc o) b v x1 x2 x3 :=
  ⟨h.row.below ((Below.refl _ _).alloc (Nat.le_refl _) _), by have := h.lt; simp; omega, h.n1, h.n2, h.n3⟩
theorem Fr.app1 {b : Nat} {v x : Value} (h : Fr w b v x1 x2 x3) (a2 : w.grownBy w' x1.ownBlock) (a3 : x.ownBlock = x1.ownBlock ∨ x.ownBlock = some w.heap.size) : Fr w' b v x x2 x3 := by
  refine ⟨h.row.grown a2 (fun y hy e => ?_), Nat.lt_of_lt_of_le h.lt a2.size, fun g hg => ?_, h.n2, h.n3⟩
  · injection hy with hy; subst hy; exact h.n1 _ e.symm rfl
  · rcases a3 with e | e
    · exact h.n1 g (e ▸ hg)
    · rw [e] at hg; injection hg with hg; have := h.lt; omega
theorem Fr.app2 {b : Nat} {v x : Value} (h : Fr w b v x1 x2 x3) (a2 : w.grownBy w' x2.ownBlock) (a3 : x.ownBlock = x2.ownBlock ∨ x.ownBlock = some w.heap.size) : Fr w' b v x1 x x3 := by
  refine ⟨h.row.grown a2 (fun y hy e => ?_), Nat.lt_of_lt_of_le h.lt a2.size, h.n1, fun g hg => ?_, h.n3⟩
  · injection hy with hy; subst hy; exact h.n2 _ e.symm rfl
  · rcases a3 with e | e
    · exact h.n2 g (e ▸ hg)
    · rw [e] at hg; injection hg with hg; have := h.lt; omega
end

end Go.Proofs.YtmmkncocgjgapaaDoor.Mf
