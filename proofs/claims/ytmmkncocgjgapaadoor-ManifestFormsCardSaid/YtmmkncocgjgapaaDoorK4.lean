/- Texts of mine, packed: MfForm3, Dev, DoMap, DoOps. -/
import Derived.Test.YtmmkncocgjgapaaDoorK1
import Derived.Test.YtmmkncocgjgapaaDoorK3
import Derived.Test.YtmmkncocgjgapaaDoorRows
import Derived.Laws.OwnMore
import Derived.Lib.LazyBuf
import Derived.StillTailTactics
import Derived.Shelf.SlMaps.Clone
set_option linter.unusedVariables false

/- The walk of abutmentref09.Formed (printed by genmfref.py out of mfref.head). -/
namespace Go.Proofs.YtmmkncocgjgapaaDoor.Mf
open Go.RowKit

def RfLoop (l : List Ent) (w : World) (iv : Value) (wr : World) : Prop := ∃ k : Nat, iv = .int .i64 (k : Int) ∧ k ≤ l.length ∧ (∀ j, j < k → okAt l j = true) ∧ Below w.heap.size w wr
set_option maxRecDepth 100000 in
set_option maxHeartbeats 8000000 in
theorem refformed_any (l : List Ent) (a : Option Addr) (n c : Nat) (w : World) (hr : Row w a (flatM l)) (hn : l.length = n) (hl : n < 1000000) (hsz : ∀ j (hj : j < l.length), l[j].name.size ≤ 4611686018427387904) :
    Calls Tryd.prog 10 #[.slice a n c] w (fun e w' => e = .returned (.bool (formedM l)) ∧ Below w.heap.size w w') := by
  subst hn
  by_cases h12 : (12 : Int) < (l.length : Int)
  · have HF := Lib.hid (show formedM l = false from by unfold formedM; rw [decide_eq_false_iff_not]; omega)
    go_enter Tryd.func10, Tryd.ntmps10
    go_wp2_with fail
    go_ret
    exact ⟨by rw [HF.out]; rfl, Below.refl _ _⟩
  have HL12 := Lib.hid h12
  go_enter Tryd.func10, Tryd.ntmps10
  go_wp2_with fail
  go_loopw [3] (fun iv wr => RfLoop l w iv wr) (fun iv _ => l.length - (intOf iv).toNat)
  case atStart => exact ⟨0, rfl, Nat.zero_le _, fun j h => absurd h (Nat.not_lt_zero _), Below.refl _ _⟩
  case round =>
    obtain ⟨k, rfl, hk, hall, hb⟩ := hrel
    have HALL := Lib.hid hall
    clear hall
    have hz := hb.size
    by_cases hlt : k < l.length
    · have hlt2 : (k : Int) < (l.length : Int) := by omega
      have i0 : (0 : Int) ≤ (k : Int) := by omega
      have hrb := hr.below hb
      obtain ⟨b, o, rfl, hbl, e0, e1, e2, e3, e4⟩ := ent_at hrb hlt
      have HB := Lib.hid hb
      have hs := hsz k hlt
      have HOKE := Lib.hid (fun h : okEnt l[k] = false => okAt_ent hlt h)
      have HFB := Lib.hid (fun h : okAt l k = false => formed_bad hlt h)
      have HGO := Lib.hid (fun (h : okAt l k = true) (j : Nat) (hj : j < k + 1) => (if e : j = k then e ▸ h else HALL.out j (by omega) : okAt l j = true))
      have HFIRST := Lib.hid (show k = 0 → okEnt l[k] = true → okAt l k = true from fun h h2 => by subst h; exact okAt_first hlt h2)
      have HPR := Lib.hid (show 0 < k → ∃ (j : Nat) (q : ByteArray), wr.cell? ⟨b, o + j * 5, none⟩ = some (.string q) ∧ (okEnt l[k] = true → okAt l k = Op.bytesLess q.toList l[k].name.toList) ∧ j < l.length ∧ k = j + 1 from fun h => by
        obtain ⟨j, rfl⟩ : ∃ j, k = j + 1 := ⟨k - 1, by omega⟩
        obtain ⟨b2, o2, e, _, f0, _⟩ := ent_at hrb (show j < l.length by omega)
        injection e with e
        injection e with e1 e2
        subst e1 e2
        exact ⟨j, _, f0, okAt_next hlt, by omega, rfl⟩)
      have HM := Lib.hid (And.intro hk hlt)
      generalize l[k] = p at *
      obtain ⟨s, f, bb, ww, cc⟩ := p
      simp only at e0 e1 e2 e3 e4 hs
      clear hr hrb hb hk hlt hsz
      go_wp2_with fail
      have hcell0 := Row.new wr #[.string s, .int .i64 f, .int .i64 bb, .int .i64 ww, .int .i64 cc] 57 (0, 0)
      have hsize0 : (wr.alloc (.cells #[.string s, .int .i64 f, .int .i64 bb, .int .i64 ww, .int .i64 cc] 57)).heap.size = wr.heap.size + 1 := by simp
      have HB0 := Lib.hid (HB.out.alloc hz (.cells #[.string s, .int .i64 f, .int .i64 bb, .int .i64 ww, .int .i64 cc] 57))
      have hb00 : Below wr.heap.size wr (wr.alloc (.cells #[.string s, .int .i64 f, .int .i64 bb, .int .i64 ww, .int .i64 cc] 57)) := (Below.refl _ _).alloc (Nat.le_refl _) _
      generalize wr.alloc (.cells #[.string s, .int .i64 f, .int .i64 bb, .int .i64 ww, .int .i64 cc] 57) = W0 at *
      have hB1 : wr.heap.size + 1 ≤ W0.heap.size := by omega
      have CELL := Lib.hid (fun W' (h : Below (wr.heap.size + 1) W0 W') => (by
        have hc := hcell0.below (hsize0 ▸ h)
        exact ⟨row_cell hc rfl, row_cell hc rfl, row_cell hc rfl, row_cell hc rfl, row_cell hc rfl⟩ : W'.cell? ⟨wr.heap.size, 0, none⟩ = some (.string s) ∧ W'.cell? ⟨wr.heap.size, 1, none⟩ = some (.int .i64 f) ∧ W'.cell? ⟨wr.heap.size, 2, none⟩ = some (.int .i64 bb) ∧ W'.cell? ⟨wr.heap.size, 3, none⟩ = some (.int .i64 ww) ∧ W'.cell? ⟨wr.heap.size, 4, none⟩ = some (.int .i64 cc)))
      have HPREV := Lib.hid (show 0 < k → ∃ (j : Nat) (q : ByteArray), Hid (∀ W', Below (wr.heap.size + 1) W0 W' → W'.cell? ⟨b, o + j * 5, none⟩ = some (.string q)) ∧ Hid (okEnt ⟨s, f, bb, ww, cc⟩ = true → okAt l k = Op.bytesLess q.toList s.toList) ∧ (0 : Int) ≤ (j : Int) ∧ (j : Int) < (l.length : Int) ∧ IntKind.i64.wrap ((k : Int) - 1) = (j : Int) from fun h => by
        obtain ⟨j, q, f0, f1, f2, f3⟩ := HPR.out h
        refine ⟨j, q, Lib.hid (fun W' hW => ?_), Lib.hid f1, by omega, by omega, by rw [IntKind.wrap_i64]; omega⟩
        rw [hW.cell (show b < wr.heap.size + 1 by omega), hb00.cell hbl]
        exact f0)
      have HSZ := Lib.hid (show s.size < 1 ∨ 8 < s.size → okEnt ⟨s, f, bb, ww, cc⟩ = false from fun h => okEnt_name (okName_sz h))
      have HNAME := Lib.hid (show 1 ≤ s.size → s.size ≤ 8 → s.data.toList.all okB = true → okName s.data.toList = true from okName_yes)
      have HNAMEN := Lib.hid (show ¬ s.data.toList.all okB = true → okEnt ⟨s, f, bb, ww, cc⟩ = false from fun h => okEnt_name (okName_all h))
      have HENT := Lib.hid (show okName s.data.toList = true → [f, bb, ww, cc].all okNum = true → okEnt ⟨s, f, bb, ww, cc⟩ = true from okEnt_yes)
      have HENTN := Lib.hid (show [f, bb, ww, cc].all okNum = false → okEnt ⟨s, f, bb, ww, cc⟩ = false from okEnt_num)
      obtain ⟨WD, hWD⟩ : ∃ WD, WD = W0.drew := ⟨_, rfl⟩
      have hdd : Below (wr.heap.size + 1) W0 WD := by rw [hWD]; exact (Below.refl _ _).drew
      have HBE := Lib.hid (HB0.out.trans (hdd.mono (by omega : w.heap.size ≤ wr.heap.size + 1)))
      have HPREV := Lib.hid (show 0 < k → ∃ (j : Nat) (q : ByteArray), WD.cell? ⟨b, o + j * 5, none⟩ = some (.string q) ∧ Hid (okEnt ⟨s, f, bb, ww, cc⟩ = true → okAt l k = Op.bytesLess q.toList s.toList) ∧ (0 : Int) ≤ (j : Int) ∧ (j : Int) < (l.length : Int) ∧ IntKind.i64.wrap ((k : Int) - 1) = (j : Int) from fun h => by
        obtain ⟨j, q, f0, f1, f2, f3, f4⟩ := HPREV.out h
        exact ⟨j, q, f0.out _ hdd, f1, f2, f3, f4⟩)
      obtain ⟨u0, u1, u2, u3, u4⟩ := CELL.out _ hdd
      have NAME := Lib.hid (name_any s WD hs)
      have HWD := Lib.hid hWD.symm
      clear hWD hdd CELL HB0 hcell0 hsize0 hb00 e0 e1 e2 e3 e4 HPR hbl hs
      by_cases cn : okName s.data.toList = true
      · by_cases cn1 : okNum f = true
        · by_cases cn2 : okNum bb = true
          · by_cases cn3 : okNum ww = true
            · by_cases cn4 : okNum cc = true
              · have HE1 := Lib.hid (HENT.out cn (by simp [cn1, cn2, cn3, cn4]))
                by_cases k0 : 0 < k
                · obtain ⟨j, q, u5, HOK, j0, jlt, cj⟩ := HPREV.out (by omega)
                  have HOK2 := Lib.hid (HOK.out HE1.out)
                  clear HOK
                  by_cases c6b : Op.bytesLess q.toList s.toList = true
                  · have c6 : (Op.bytesLess s.toList q.toList || s.toList == q.toList) = false := by rw [← less_tri, c6b]; rfl
                    have HGOOD := Lib.hid (HGO.out (by rw [HOK2.out]; exact c6b))
                    clear c6b
                    refine mx_begin (fun w' => w' = WD) [(true, 0), (true, 1), (false, 2), (true, 3), (true, 4), (true, 5), (true, 6), (false, 7), (true, 8), (true, 9), (true, 10), (true, 11), (true, 12), (false, 13), (true, 14), (true, 15), (true, 16), (true, 17), (true, 18), (false, 19), (true, 20), (true, 21), (true, 22), (true, 23), (true, 24), (false, 25), (true, 26), (true, 27), (true, 28), (true, 29), (true, 30), (true, 31), (true, 32), (true, 33), (true, 34), (true, 35), (true, 36), (true, 37), (true, 38), (true, 39), (true, 40), (true, 41), (false, 42)] (by kernel_rfl) (by kernel_rfl) (fun _ _ d _ _ h => by cases d <;> exact h) HWD.out ?_
                    rw [HWD.out]
                    refine mx_read _ (.pointer (some ⟨wr.heap.size, 0, none⟩)) rfl (by kernel_rfl) (fun w' hF => by rw [hF]; simp [execOp, Act.eval, go_sem]) ?_
                    refine mx_read _ (.string s) rfl (by kernel_rfl) (fun w' hF => by rw [hF]; simp [execOp, Act.eval, go_sem, u0]) ?_
                    refine mx_one _ rfl (by kernel_rfl) (fun K8 hK8 => ?_)
                    go_simp
                    refine (NAME.out).mono ?_
                    rintro e wt ⟨rfl, rfl⟩
                    refine hK8.out _ _ (fun _ => rfl) ?_
                    clear hK8 K8
                    refine mx_read _ (.bool false) rfl (by kernel_rfl) (fun w' hF => by rw [hF]; simp [execOp, Act.eval, go_sem, cn]) ?_
                    refine mx_read _ (.bool false) rfl (by kernel_rfl) (fun w' hF => by rw [hF]; simp [execOp, Act.eval, go_sem]) ?_
                    refine mx_read _ (.pointer (some ⟨wr.heap.size, 1, none⟩)) rfl (by kernel_rfl) (fun w' hF => by rw [hF]; simp [execOp, Act.eval, go_sem]) ?_
                    refine mx_read _ (.int .i64 f) rfl (by kernel_rfl) (fun w' hF => by rw [hF]; simp [execOp, Act.eval, go_sem, u1]) ?_
                    refine mx_one _ rfl (by kernel_rfl) (fun K8 hK8 => ?_)
                    go_simp
                    refine (small_any f WD).mono ?_
                    rintro e wt ⟨rfl, rfl⟩
                    refine hK8.out _ _ (fun _ => rfl) ?_
                    clear hK8 K8
                    refine mx_read _ (.bool false) rfl (by kernel_rfl) (fun w' hF => by rw [hF]; simp [execOp, Act.eval, go_sem, cn1]) ?_
                    refine mx_read _ (.bool false) rfl (by kernel_rfl) (fun w' hF => by rw [hF]; simp [execOp, Act.eval, go_sem]) ?_
                    refine mx_read _ (.bool false) rfl (by kernel_rfl) (fun w' hF => by rw [hF]; simp [execOp, Act.eval, go_sem]) ?_
                    refine mx_read _ (.pointer (some ⟨wr.heap.size, 2, none⟩)) rfl (by kernel_rfl) (fun w' hF => by rw [hF]; simp [execOp, Act.eval, go_sem]) ?_
                    refine mx_read _ (.int .i64 bb) rfl (by kernel_rfl) (fun w' hF => by rw [hF]; simp [execOp, Act.eval, go_sem, u2]) ?_
                    refine mx_one _ rfl (by kernel_rfl) (fun K8 hK8 => ?_)
                    go_simp
                    refine (small_any bb WD).mono ?_
                    rintro e wt ⟨rfl, rfl⟩
                    refine hK8.out _ _ (fun _ => rfl) ?_
                    clear hK8 K8
                    refine mx_read _ (.bool false) rfl (by kernel_rfl) (fun w' hF => by rw [hF]; simp [execOp, Act.eval, go_sem, cn2]) ?_
                    refine mx_read _ (.bool false) rfl (by kernel_rfl) (fun w' hF => by rw [hF]; simp [execOp, Act.eval, go_sem]) ?_
                    refine mx_read _ (.bool false) rfl (by kernel_rfl) (fun w' hF => by rw [hF]; simp [execOp, Act.eval, go_sem]) ?_
                    refine mx_read _ (.pointer (some ⟨wr.heap.size, 3, none⟩)) rfl (by kernel_rfl) (fun w' hF => by rw [hF]; simp [execOp, Act.eval, go_sem]) ?_
                    refine mx_read _ (.int .i64 ww) rfl (by kernel_rfl) (fun w' hF => by rw [hF]; simp [execOp, Act.eval, go_sem, u3]) ?_
                    refine mx_one _ rfl (by kernel_rfl) (fun K8 hK8 => ?_)
                    go_simp
                    refine (small_any ww WD).mono ?_
                    rintro e wt ⟨rfl, rfl⟩
                    refine hK8.out _ _ (fun _ => rfl) ?_
                    clear hK8 K8
                    refine mx_read _ (.bool false) rfl (by kernel_rfl) (fun w' hF => by rw [hF]; simp [execOp, Act.eval, go_sem, cn3]) ?_
                    refine mx_read _ (.bool false) rfl (by kernel_rfl) (fun w' hF => by rw [hF]; simp [execOp, Act.eval, go_sem]) ?_
                    refine mx_read _ (.bool false) rfl (by kernel_rfl) (fun w' hF => by rw [hF]; simp [execOp, Act.eval, go_sem]) ?_
                    refine mx_read _ (.pointer (some ⟨wr.heap.size, 4, none⟩)) rfl (by kernel_rfl) (fun w' hF => by rw [hF]; simp [execOp, Act.eval, go_sem]) ?_
                    refine mx_read _ (.int .i64 cc) rfl (by kernel_rfl) (fun w' hF => by rw [hF]; simp [execOp, Act.eval, go_sem, u4]) ?_
                    refine mx_one _ rfl (by kernel_rfl) (fun K8 hK8 => ?_)
                    go_simp
                    refine (small_any cc WD).mono ?_
                    rintro e wt ⟨rfl, rfl⟩
                    refine hK8.out _ _ (fun _ => rfl) ?_
                    clear hK8 K8
                    refine mx_read _ (.bool false) rfl (by kernel_rfl) (fun w' hF => by rw [hF]; simp [execOp, Act.eval, go_sem, cn4]) ?_
                    refine mx_read _ (.bool false) rfl (by kernel_rfl) (fun w' hF => by rw [hF]; simp [execOp, Act.eval, go_sem]) ?_
                    refine mx_read _ (.bool false) rfl (by kernel_rfl) (fun w' hF => by rw [hF]; simp [execOp, Act.eval, go_sem]) ?_
                    refine mx_read _ (.int .i64 (k : Int)) rfl (by kernel_rfl) (fun w' hF => by rw [hF]; simp [execOp, Act.eval, go_sem]) ?_
                    refine mx_read _ (.bool true) rfl (by kernel_rfl) (fun w' hF => by rw [hF]; simp [execOp, Act.eval, go_sem, k0]) ?_
                    refine mx_read _ (.bool true) rfl (by kernel_rfl) (fun w' hF => by rw [hF]; simp [execOp, Act.eval, go_sem]) ?_
                    refine mx_read _ (.pointer (some ⟨wr.heap.size, 0, none⟩)) rfl (by kernel_rfl) (fun w' hF => by rw [hF]; simp [execOp, Act.eval, go_sem]) ?_
                    refine mx_read _ (.string s) rfl (by kernel_rfl) (fun w' hF => by rw [hF]; simp [execOp, Act.eval, go_sem, u0]) ?_
                    refine mx_read _ (.slice (some ⟨b, o, none⟩) l.length c) rfl (by kernel_rfl) (fun w' hF => by rw [hF]; simp [execOp, Act.eval, go_sem]) ?_
                    refine mx_read _ (.int .i64 (k : Int)) rfl (by kernel_rfl) (fun w' hF => by rw [hF]; simp [execOp, Act.eval, go_sem]) ?_
                    refine mx_read _ (.int .i64 (j : Int)) rfl (by kernel_rfl) (fun w' hF => by rw [hF]; simp [execOp, Act.eval, go_sem, cj]) ?_
                    refine mx_read _ (.pointer (some ⟨b, o + j * 5, none⟩)) rfl (by kernel_rfl) (fun w' hF => by rw [hF]; simp [execOp, Act.eval, go_sem, j0, jlt]) ?_
                    refine mx_read _ (.pointer (some ⟨b, o + j * 5, none⟩)) rfl (by kernel_rfl) (fun w' hF => by rw [hF]; simp [execOp, Act.eval, go_sem]) ?_
                    refine mx_read _ (.string q) rfl (by kernel_rfl) (fun w' hF => by rw [hF]; simp [execOp, Act.eval, go_sem, u5]) ?_
                    refine mx_read _ (.bool false) rfl (by kernel_rfl) (fun w' hF => by rw [hF]; simp [execOp, Act.eval, go_sem, c6]) ?_
                    refine mx_read _ (.bool false) rfl (by kernel_rfl) (fun w' hF => by rw [hF]; simp [execOp, Act.eval, go_sem]) ?_
                    refine mx_one _ rfl (by kernel_rfl) (fun K8 hK8 => ?_)
                    go_simp
                    refine hK8.out _ _ (fun h => absurd rfl h) ?_
                    clear hK8 K8
                    refine mx_end ?_
                    go_wp2_with fail
                    go_roundw
                    case rel => exact ⟨_, by go_num, HM.out.2, HGOOD.out, HBE.out⟩
                    case measure => have := HM.out.2; simp [intOf]; omega
                  · have c6 : (Op.bytesLess s.toList q.toList || s.toList == q.toList) = true := by rw [← less_tri]; simpa using c6b
                    have HBAD := Lib.hid (HFB.out (by rw [HOK2.out]; simpa using c6b))
                    clear c6b
                    refine mx_begin (fun w' => w' = WD) [(true, 0), (true, 1), (false, 2), (true, 3), (true, 4), (true, 5), (true, 6), (false, 7), (true, 8), (true, 9), (true, 10), (true, 11), (true, 12), (false, 13), (true, 14), (true, 15), (true, 16), (true, 17), (true, 18), (false, 19), (true, 20), (true, 21), (true, 22), (true, 23), (true, 24), (false, 25), (true, 26), (true, 27), (true, 28), (true, 29), (true, 30), (true, 31), (true, 32), (true, 33), (true, 34), (true, 35), (true, 36), (true, 37), (true, 38), (true, 39), (true, 40), (true, 41), (false, 42)] (by kernel_rfl) (by kernel_rfl) (fun _ _ d _ _ h => by cases d <;> exact h) HWD.out ?_
                    rw [HWD.out]
                    refine mx_read _ (.pointer (some ⟨wr.heap.size, 0, none⟩)) rfl (by kernel_rfl) (fun w' hF => by rw [hF]; simp [execOp, Act.eval, go_sem]) ?_
                    refine mx_read _ (.string s) rfl (by kernel_rfl) (fun w' hF => by rw [hF]; simp [execOp, Act.eval, go_sem, u0]) ?_
                    refine mx_one _ rfl (by kernel_rfl) (fun K8 hK8 => ?_)
                    go_simp
                    refine (NAME.out).mono ?_
                    rintro e wt ⟨rfl, rfl⟩
                    refine hK8.out _ _ (fun _ => rfl) ?_
                    clear hK8 K8
                    refine mx_read _ (.bool false) rfl (by kernel_rfl) (fun w' hF => by rw [hF]; simp [execOp, Act.eval, go_sem, cn]) ?_
                    refine mx_read _ (.bool false) rfl (by kernel_rfl) (fun w' hF => by rw [hF]; simp [execOp, Act.eval, go_sem]) ?_
                    refine mx_read _ (.pointer (some ⟨wr.heap.size, 1, none⟩)) rfl (by kernel_rfl) (fun w' hF => by rw [hF]; simp [execOp, Act.eval, go_sem]) ?_
                    refine mx_read _ (.int .i64 f) rfl (by kernel_rfl) (fun w' hF => by rw [hF]; simp [execOp, Act.eval, go_sem, u1]) ?_
                    refine mx_one _ rfl (by kernel_rfl) (fun K8 hK8 => ?_)
                    go_simp
                    refine (small_any f WD).mono ?_
                    rintro e wt ⟨rfl, rfl⟩
                    refine hK8.out _ _ (fun _ => rfl) ?_
                    clear hK8 K8
                    refine mx_read _ (.bool false) rfl (by kernel_rfl) (fun w' hF => by rw [hF]; simp [execOp, Act.eval, go_sem, cn1]) ?_
                    refine mx_read _ (.bool false) rfl (by kernel_rfl) (fun w' hF => by rw [hF]; simp [execOp, Act.eval, go_sem]) ?_
                    refine mx_read _ (.bool false) rfl (by kernel_rfl) (fun w' hF => by rw [hF]; simp [execOp, Act.eval, go_sem]) ?_
                    refine mx_read _ (.pointer (some ⟨wr.heap.size, 2, none⟩)) rfl (by kernel_rfl) (fun w' hF => by rw [hF]; simp [execOp, Act.eval, go_sem]) ?_
                    refine mx_read _ (.int .i64 bb) rfl (by kernel_rfl) (fun w' hF => by rw [hF]; simp [execOp, Act.eval, go_sem, u2]) ?_
                    refine mx_one _ rfl (by kernel_rfl) (fun K8 hK8 => ?_)
                    go_simp
                    refine (small_any bb WD).mono ?_
                    rintro e wt ⟨rfl, rfl⟩
                    refine hK8.out _ _ (fun _ => rfl) ?_
                    clear hK8 K8
                    refine mx_read _ (.bool false) rfl (by kernel_rfl) (fun w' hF => by rw [hF]; simp [execOp, Act.eval, go_sem, cn2]) ?_
                    refine mx_read _ (.bool false) rfl (by kernel_rfl) (fun w' hF => by rw [hF]; simp [execOp, Act.eval, go_sem]) ?_
                    refine mx_read _ (.bool false) rfl (by kernel_rfl) (fun w' hF => by rw [hF]; simp [execOp, Act.eval, go_sem]) ?_
                    refine mx_read _ (.pointer (some ⟨wr.heap.size, 3, none⟩)) rfl (by kernel_rfl) (fun w' hF => by rw [hF]; simp [execOp, Act.eval, go_sem]) ?_
                    refine mx_read _ (.int .i64 ww) rfl (by kernel_rfl) (fun w' hF => by rw [hF]; simp [execOp, Act.eval, go_sem, u3]) ?_
                    refine mx_one _ rfl (by kernel_rfl) (fun K8 hK8 => ?_)
                    go_simp
                    refine (small_any ww WD).mono ?_
                    rintro e wt ⟨rfl, rfl⟩
                    refine hK8.out _ _ (fun _ => rfl) ?_
                    clear hK8 K8
                    refine mx_read _ (.bool false) rfl (by kernel_rfl) (fun w' hF => by rw [hF]; simp [execOp, Act.eval, go_sem, cn3]) ?_
                    refine mx_read _ (.bool false) rfl (by kernel_rfl) (fun w' hF => by rw [hF]; simp [execOp, Act.eval, go_sem]) ?_
                    refine mx_read _ (.bool false) rfl (by kernel_rfl) (fun w' hF => by rw [hF]; simp [execOp, Act.eval, go_sem]) ?_
                    refine mx_read _ (.pointer (some ⟨wr.heap.size, 4, none⟩)) rfl (by kernel_rfl) (fun w' hF => by rw [hF]; simp [execOp, Act.eval, go_sem]) ?_
                    refine mx_read _ (.int .i64 cc) rfl (by kernel_rfl) (fun w' hF => by rw [hF]; simp [execOp, Act.eval, go_sem, u4]) ?_
                    refine mx_one _ rfl (by kernel_rfl) (fun K8 hK8 => ?_)
                    go_simp
                    refine (small_any cc WD).mono ?_
                    rintro e wt ⟨rfl, rfl⟩
                    refine hK8.out _ _ (fun _ => rfl) ?_
                    clear hK8 K8
                    refine mx_read _ (.bool false) rfl (by kernel_rfl) (fun w' hF => by rw [hF]; simp [execOp, Act.eval, go_sem, cn4]) ?_
                    refine mx_read _ (.bool false) rfl (by kernel_rfl) (fun w' hF => by rw [hF]; simp [execOp, Act.eval, go_sem]) ?_
                    refine mx_read _ (.bool false) rfl (by kernel_rfl) (fun w' hF => by rw [hF]; simp [execOp, Act.eval, go_sem]) ?_
                    refine mx_read _ (.int .i64 (k : Int)) rfl (by kernel_rfl) (fun w' hF => by rw [hF]; simp [execOp, Act.eval, go_sem]) ?_
                    refine mx_read _ (.bool true) rfl (by kernel_rfl) (fun w' hF => by rw [hF]; simp [execOp, Act.eval, go_sem, k0]) ?_
                    refine mx_read _ (.bool true) rfl (by kernel_rfl) (fun w' hF => by rw [hF]; simp [execOp, Act.eval, go_sem]) ?_
                    refine mx_read _ (.pointer (some ⟨wr.heap.size, 0, none⟩)) rfl (by kernel_rfl) (fun w' hF => by rw [hF]; simp [execOp, Act.eval, go_sem]) ?_
                    refine mx_read _ (.string s) rfl (by kernel_rfl) (fun w' hF => by rw [hF]; simp [execOp, Act.eval, go_sem, u0]) ?_
                    refine mx_read _ (.slice (some ⟨b, o, none⟩) l.length c) rfl (by kernel_rfl) (fun w' hF => by rw [hF]; simp [execOp, Act.eval, go_sem]) ?_
                    refine mx_read _ (.int .i64 (k : Int)) rfl (by kernel_rfl) (fun w' hF => by rw [hF]; simp [execOp, Act.eval, go_sem]) ?_
                    refine mx_read _ (.int .i64 (j : Int)) rfl (by kernel_rfl) (fun w' hF => by rw [hF]; simp [execOp, Act.eval, go_sem, cj]) ?_
                    refine mx_read _ (.pointer (some ⟨b, o + j * 5, none⟩)) rfl (by kernel_rfl) (fun w' hF => by rw [hF]; simp [execOp, Act.eval, go_sem, j0, jlt]) ?_
                    refine mx_read _ (.pointer (some ⟨b, o + j * 5, none⟩)) rfl (by kernel_rfl) (fun w' hF => by rw [hF]; simp [execOp, Act.eval, go_sem]) ?_
                    refine mx_read _ (.string q) rfl (by kernel_rfl) (fun w' hF => by rw [hF]; simp [execOp, Act.eval, go_sem, u5]) ?_
                    refine mx_read _ (.bool true) rfl (by kernel_rfl) (fun w' hF => by rw [hF]; simp [execOp, Act.eval, go_sem, c6]) ?_
                    refine mx_read _ (.bool true) rfl (by kernel_rfl) (fun w' hF => by rw [hF]; simp [execOp, Act.eval, go_sem]) ?_
                    refine mx_one _ rfl (by kernel_rfl) (fun K8 hK8 => ?_)
                    go_simp
                    refine hK8.out _ _ (fun h => absurd rfl h) ?_
                    clear hK8 K8
                    refine mx_end ?_
                    go_wp2_with fail
                    go_ret
                    exact ⟨by rw [HBAD.out]; rfl, HBE.out⟩
                · have HGOOD := Lib.hid (HGO.out (HFIRST.out (by omega) HE1.out))
                  refine mx_begin (fun w' => w' = WD) [(true, 0), (true, 1), (false, 2), (true, 3), (true, 4), (true, 5), (true, 6), (false, 7), (true, 8), (true, 9), (true, 10), (true, 11), (true, 12), (false, 13), (true, 14), (true, 15), (true, 16), (true, 17), (true, 18), (false, 19), (true, 20), (true, 21), (true, 22), (true, 23), (true, 24), (false, 25), (true, 26), (true, 27), (true, 28), (true, 29), (true, 30), (true, 31), (true, 32), (true, 33), (true, 34), (true, 35), (true, 36), (true, 37), (true, 38), (true, 39), (true, 40), (true, 41), (false, 42)] (by kernel_rfl) (by kernel_rfl) (fun _ _ d _ _ h => by cases d <;> exact h) HWD.out ?_
                  rw [HWD.out]
                  refine mx_read _ (.pointer (some ⟨wr.heap.size, 0, none⟩)) rfl (by kernel_rfl) (fun w' hF => by rw [hF]; simp [execOp, Act.eval, go_sem]) ?_
                  refine mx_read _ (.string s) rfl (by kernel_rfl) (fun w' hF => by rw [hF]; simp [execOp, Act.eval, go_sem, u0]) ?_
                  refine mx_one _ rfl (by kernel_rfl) (fun K8 hK8 => ?_)
                  go_simp
                  refine (NAME.out).mono ?_
                  rintro e wt ⟨rfl, rfl⟩
                  refine hK8.out _ _ (fun _ => rfl) ?_
                  clear hK8 K8
                  refine mx_read _ (.bool false) rfl (by kernel_rfl) (fun w' hF => by rw [hF]; simp [execOp, Act.eval, go_sem, cn]) ?_
                  refine mx_read _ (.bool false) rfl (by kernel_rfl) (fun w' hF => by rw [hF]; simp [execOp, Act.eval, go_sem]) ?_
                  refine mx_read _ (.pointer (some ⟨wr.heap.size, 1, none⟩)) rfl (by kernel_rfl) (fun w' hF => by rw [hF]; simp [execOp, Act.eval, go_sem]) ?_
                  refine mx_read _ (.int .i64 f) rfl (by kernel_rfl) (fun w' hF => by rw [hF]; simp [execOp, Act.eval, go_sem, u1]) ?_
                  refine mx_one _ rfl (by kernel_rfl) (fun K8 hK8 => ?_)
                  go_simp
                  refine (small_any f WD).mono ?_
                  rintro e wt ⟨rfl, rfl⟩
                  refine hK8.out _ _ (fun _ => rfl) ?_
                  clear hK8 K8
                  refine mx_read _ (.bool false) rfl (by kernel_rfl) (fun w' hF => by rw [hF]; simp [execOp, Act.eval, go_sem, cn1]) ?_
                  refine mx_read _ (.bool false) rfl (by kernel_rfl) (fun w' hF => by rw [hF]; simp [execOp, Act.eval, go_sem]) ?_
                  refine mx_read _ (.bool false) rfl (by kernel_rfl) (fun w' hF => by rw [hF]; simp [execOp, Act.eval, go_sem]) ?_
                  refine mx_read _ (.pointer (some ⟨wr.heap.size, 2, none⟩)) rfl (by kernel_rfl) (fun w' hF => by rw [hF]; simp [execOp, Act.eval, go_sem]) ?_
                  refine mx_read _ (.int .i64 bb) rfl (by kernel_rfl) (fun w' hF => by rw [hF]; simp [execOp, Act.eval, go_sem, u2]) ?_
                  refine mx_one _ rfl (by kernel_rfl) (fun K8 hK8 => ?_)
                  go_simp
                  refine (small_any bb WD).mono ?_
                  rintro e wt ⟨rfl, rfl⟩
                  refine hK8.out _ _ (fun _ => rfl) ?_
                  clear hK8 K8
                  refine mx_read _ (.bool false) rfl (by kernel_rfl) (fun w' hF => by rw [hF]; simp [execOp, Act.eval, go_sem, cn2]) ?_
                  refine mx_read _ (.bool false) rfl (by kernel_rfl) (fun w' hF => by rw [hF]; simp [execOp, Act.eval, go_sem]) ?_
                  refine mx_read _ (.bool false) rfl (by kernel_rfl) (fun w' hF => by rw [hF]; simp [execOp, Act.eval, go_sem]) ?_
                  refine mx_read _ (.pointer (some ⟨wr.heap.size, 3, none⟩)) rfl (by kernel_rfl) (fun w' hF => by rw [hF]; simp [execOp, Act.eval, go_sem]) ?_
                  refine mx_read _ (.int .i64 ww) rfl (by kernel_rfl) (fun w' hF => by rw [hF]; simp [execOp, Act.eval, go_sem, u3]) ?_
                  refine mx_one _ rfl (by kernel_rfl) (fun K8 hK8 => ?_)
                  go_simp
                  refine (small_any ww WD).mono ?_
                  rintro e wt ⟨rfl, rfl⟩
                  refine hK8.out _ _ (fun _ => rfl) ?_
                  clear hK8 K8
                  refine mx_read _ (.bool false) rfl (by kernel_rfl) (fun w' hF => by rw [hF]; simp [execOp, Act.eval, go_sem, cn3]) ?_
                  refine mx_read _ (.bool false) rfl (by kernel_rfl) (fun w' hF => by rw [hF]; simp [execOp, Act.eval, go_sem]) ?_
                  refine mx_read _ (.bool false) rfl (by kernel_rfl) (fun w' hF => by rw [hF]; simp [execOp, Act.eval, go_sem]) ?_
                  refine mx_read _ (.pointer (some ⟨wr.heap.size, 4, none⟩)) rfl (by kernel_rfl) (fun w' hF => by rw [hF]; simp [execOp, Act.eval, go_sem]) ?_
                  refine mx_read _ (.int .i64 cc) rfl (by kernel_rfl) (fun w' hF => by rw [hF]; simp [execOp, Act.eval, go_sem, u4]) ?_
                  refine mx_one _ rfl (by kernel_rfl) (fun K8 hK8 => ?_)
                  go_simp
                  refine (small_any cc WD).mono ?_
                  rintro e wt ⟨rfl, rfl⟩
                  refine hK8.out _ _ (fun _ => rfl) ?_
                  clear hK8 K8
                  refine mx_read _ (.bool false) rfl (by kernel_rfl) (fun w' hF => by rw [hF]; simp [execOp, Act.eval, go_sem, cn4]) ?_
                  refine mx_read _ (.bool false) rfl (by kernel_rfl) (fun w' hF => by rw [hF]; simp [execOp, Act.eval, go_sem]) ?_
                  refine mx_read _ (.bool false) rfl (by kernel_rfl) (fun w' hF => by rw [hF]; simp [execOp, Act.eval, go_sem]) ?_
                  refine mx_read _ (.int .i64 (k : Int)) rfl (by kernel_rfl) (fun w' hF => by rw [hF]; simp [execOp, Act.eval, go_sem]) ?_
                  refine mx_read _ (.bool false) rfl (by kernel_rfl) (fun w' hF => by rw [hF]; simp [execOp, Act.eval, go_sem, k0]) ?_
                  refine mx_read _ (.bool false) rfl (by kernel_rfl) (fun w' hF => by rw [hF]; simp [execOp, Act.eval, go_sem]) ?_
                  refine mx_skip _ rfl (by kernel_rfl) ?_
                  refine mx_skip _ rfl (by kernel_rfl) ?_
                  refine mx_skip _ rfl (by kernel_rfl) ?_
                  refine mx_skip _ rfl (by kernel_rfl) ?_
                  refine mx_skip _ rfl (by kernel_rfl) ?_
                  refine mx_skip _ rfl (by kernel_rfl) ?_
                  refine mx_skip _ rfl (by kernel_rfl) ?_
                  refine mx_skip _ rfl (by kernel_rfl) ?_
                  refine mx_skip _ rfl (by kernel_rfl) ?_
                  refine mx_read _ (.bool false) rfl (by kernel_rfl) (fun w' hF => by rw [hF]; simp [execOp, Act.eval, go_sem]) ?_
                  refine mx_one _ rfl (by kernel_rfl) (fun K8 hK8 => ?_)
                  go_simp
                  refine hK8.out _ _ (fun h => absurd rfl h) ?_
                  clear hK8 K8
                  refine mx_end ?_
                  go_wp2_with fail
                  go_roundw
                  case rel => exact ⟨_, by go_num, HM.out.2, HGOOD.out, HBE.out⟩
                  case measure => have := HM.out.2; simp [intOf]; omega
              · have cn4 : okNum cc = false := by simpa using cn4
                have HBAD := Lib.hid (HFB.out (HOKE.out (HENTN.out (by simp [cn4]))))
                refine mx_begin (fun w' => w' = WD) [(true, 0), (true, 1), (false, 2), (true, 3), (true, 4), (true, 5), (true, 6), (false, 7), (true, 8), (true, 9), (true, 10), (true, 11), (true, 12), (false, 13), (true, 14), (true, 15), (true, 16), (true, 17), (true, 18), (false, 19), (true, 20), (true, 21), (true, 22), (true, 23), (true, 24), (false, 25), (true, 26), (true, 27), (true, 28), (true, 29), (true, 30), (true, 31), (true, 32), (true, 33), (true, 34), (true, 35), (true, 36), (true, 37), (true, 38), (true, 39), (true, 40), (true, 41), (false, 42)] (by kernel_rfl) (by kernel_rfl) (fun _ _ d _ _ h => by cases d <;> exact h) HWD.out ?_
                rw [HWD.out]
                refine mx_read _ (.pointer (some ⟨wr.heap.size, 0, none⟩)) rfl (by kernel_rfl) (fun w' hF => by rw [hF]; simp [execOp, Act.eval, go_sem]) ?_
                refine mx_read _ (.string s) rfl (by kernel_rfl) (fun w' hF => by rw [hF]; simp [execOp, Act.eval, go_sem, u0]) ?_
                refine mx_one _ rfl (by kernel_rfl) (fun K8 hK8 => ?_)
                go_simp
                refine (NAME.out).mono ?_
                rintro e wt ⟨rfl, rfl⟩
                refine hK8.out _ _ (fun _ => rfl) ?_
                clear hK8 K8
                refine mx_read _ (.bool false) rfl (by kernel_rfl) (fun w' hF => by rw [hF]; simp [execOp, Act.eval, go_sem, cn]) ?_
                refine mx_read _ (.bool false) rfl (by kernel_rfl) (fun w' hF => by rw [hF]; simp [execOp, Act.eval, go_sem]) ?_
                refine mx_read _ (.pointer (some ⟨wr.heap.size, 1, none⟩)) rfl (by kernel_rfl) (fun w' hF => by rw [hF]; simp [execOp, Act.eval, go_sem]) ?_
                refine mx_read _ (.int .i64 f) rfl (by kernel_rfl) (fun w' hF => by rw [hF]; simp [execOp, Act.eval, go_sem, u1]) ?_
                refine mx_one _ rfl (by kernel_rfl) (fun K8 hK8 => ?_)
                go_simp
                refine (small_any f WD).mono ?_
                rintro e wt ⟨rfl, rfl⟩
                refine hK8.out _ _ (fun _ => rfl) ?_
                clear hK8 K8
                refine mx_read _ (.bool false) rfl (by kernel_rfl) (fun w' hF => by rw [hF]; simp [execOp, Act.eval, go_sem, cn1]) ?_
                refine mx_read _ (.bool false) rfl (by kernel_rfl) (fun w' hF => by rw [hF]; simp [execOp, Act.eval, go_sem]) ?_
                refine mx_read _ (.bool false) rfl (by kernel_rfl) (fun w' hF => by rw [hF]; simp [execOp, Act.eval, go_sem]) ?_
                refine mx_read _ (.pointer (some ⟨wr.heap.size, 2, none⟩)) rfl (by kernel_rfl) (fun w' hF => by rw [hF]; simp [execOp, Act.eval, go_sem]) ?_
                refine mx_read _ (.int .i64 bb) rfl (by kernel_rfl) (fun w' hF => by rw [hF]; simp [execOp, Act.eval, go_sem, u2]) ?_
                refine mx_one _ rfl (by kernel_rfl) (fun K8 hK8 => ?_)
                go_simp
                refine (small_any bb WD).mono ?_
                rintro e wt ⟨rfl, rfl⟩
                refine hK8.out _ _ (fun _ => rfl) ?_
                clear hK8 K8
                refine mx_read _ (.bool false) rfl (by kernel_rfl) (fun w' hF => by rw [hF]; simp [execOp, Act.eval, go_sem, cn2]) ?_
                refine mx_read _ (.bool false) rfl (by kernel_rfl) (fun w' hF => by rw [hF]; simp [execOp, Act.eval, go_sem]) ?_
                refine mx_read _ (.bool false) rfl (by kernel_rfl) (fun w' hF => by rw [hF]; simp [execOp, Act.eval, go_sem]) ?_
                refine mx_read _ (.pointer (some ⟨wr.heap.size, 3, none⟩)) rfl (by kernel_rfl) (fun w' hF => by rw [hF]; simp [execOp, Act.eval, go_sem]) ?_
                refine mx_read _ (.int .i64 ww) rfl (by kernel_rfl) (fun w' hF => by rw [hF]; simp [execOp, Act.eval, go_sem, u3]) ?_
                refine mx_one _ rfl (by kernel_rfl) (fun K8 hK8 => ?_)
                go_simp
                refine (small_any ww WD).mono ?_
                rintro e wt ⟨rfl, rfl⟩
                refine hK8.out _ _ (fun _ => rfl) ?_
                clear hK8 K8
                refine mx_read _ (.bool false) rfl (by kernel_rfl) (fun w' hF => by rw [hF]; simp [execOp, Act.eval, go_sem, cn3]) ?_
                refine mx_read _ (.bool false) rfl (by kernel_rfl) (fun w' hF => by rw [hF]; simp [execOp, Act.eval, go_sem]) ?_
                refine mx_read _ (.bool false) rfl (by kernel_rfl) (fun w' hF => by rw [hF]; simp [execOp, Act.eval, go_sem]) ?_
                refine mx_read _ (.pointer (some ⟨wr.heap.size, 4, none⟩)) rfl (by kernel_rfl) (fun w' hF => by rw [hF]; simp [execOp, Act.eval, go_sem]) ?_
                refine mx_read _ (.int .i64 cc) rfl (by kernel_rfl) (fun w' hF => by rw [hF]; simp [execOp, Act.eval, go_sem, u4]) ?_
                refine mx_one _ rfl (by kernel_rfl) (fun K8 hK8 => ?_)
                go_simp
                refine (small_any cc WD).mono ?_
                rintro e wt ⟨rfl, rfl⟩
                refine hK8.out _ _ (fun _ => rfl) ?_
                clear hK8 K8
                refine mx_read _ (.bool true) rfl (by kernel_rfl) (fun w' hF => by rw [hF]; simp [execOp, Act.eval, go_sem, cn4]) ?_
                refine mx_read _ (.bool true) rfl (by kernel_rfl) (fun w' hF => by rw [hF]; simp [execOp, Act.eval, go_sem]) ?_
                refine mx_read _ (.bool true) rfl (by kernel_rfl) (fun w' hF => by rw [hF]; simp [execOp, Act.eval, go_sem]) ?_
                refine mx_skip _ rfl (by kernel_rfl) ?_
                refine mx_skip _ rfl (by kernel_rfl) ?_
                refine mx_skip _ rfl (by kernel_rfl) ?_
                refine mx_skip _ rfl (by kernel_rfl) ?_
                refine mx_skip _ rfl (by kernel_rfl) ?_
                refine mx_skip _ rfl (by kernel_rfl) ?_
                refine mx_skip _ rfl (by kernel_rfl) ?_
                refine mx_skip _ rfl (by kernel_rfl) ?_
                refine mx_skip _ rfl (by kernel_rfl) ?_
                refine mx_skip _ rfl (by kernel_rfl) ?_
                refine mx_skip _ rfl (by kernel_rfl) ?_
                refine mx_skip _ rfl (by kernel_rfl) ?_
                refine mx_skip _ rfl (by kernel_rfl) ?_
                refine mx_one _ rfl (by kernel_rfl) (fun K8 hK8 => ?_)
                go_simp
                refine hK8.out _ _ (fun h => absurd rfl h) ?_
                clear hK8 K8
                refine mx_end ?_
                go_wp2_with fail
                go_ret
                exact ⟨by rw [HBAD.out]; rfl, HBE.out⟩
            · have cn3 : okNum ww = false := by simpa using cn3
              have HBAD := Lib.hid (HFB.out (HOKE.out (HENTN.out (by simp [cn3]))))
              refine mx_begin (fun w' => w' = WD) [(true, 0), (true, 1), (false, 2), (true, 3), (true, 4), (true, 5), (true, 6), (false, 7), (true, 8), (true, 9), (true, 10), (true, 11), (true, 12), (false, 13), (true, 14), (true, 15), (true, 16), (true, 17), (true, 18), (false, 19), (true, 20), (true, 21), (true, 22), (true, 23), (true, 24), (false, 25), (true, 26), (true, 27), (true, 28), (true, 29), (true, 30), (true, 31), (true, 32), (true, 33), (true, 34), (true, 35), (true, 36), (true, 37), (true, 38), (true, 39), (true, 40), (true, 41), (false, 42)] (by kernel_rfl) (by kernel_rfl) (fun _ _ d _ _ h => by cases d <;> exact h) HWD.out ?_
              rw [HWD.out]
              refine mx_read _ (.pointer (some ⟨wr.heap.size, 0, none⟩)) rfl (by kernel_rfl) (fun w' hF => by rw [hF]; simp [execOp, Act.eval, go_sem]) ?_
              refine mx_read _ (.string s) rfl (by kernel_rfl) (fun w' hF => by rw [hF]; simp [execOp, Act.eval, go_sem, u0]) ?_
              refine mx_one _ rfl (by kernel_rfl) (fun K8 hK8 => ?_)
              go_simp
              refine (NAME.out).mono ?_
              rintro e wt ⟨rfl, rfl⟩
              refine hK8.out _ _ (fun _ => rfl) ?_
              clear hK8 K8
              refine mx_read _ (.bool false) rfl (by kernel_rfl) (fun w' hF => by rw [hF]; simp [execOp, Act.eval, go_sem, cn]) ?_
              refine mx_read _ (.bool false) rfl (by kernel_rfl) (fun w' hF => by rw [hF]; simp [execOp, Act.eval, go_sem]) ?_
              refine mx_read _ (.pointer (some ⟨wr.heap.size, 1, none⟩)) rfl (by kernel_rfl) (fun w' hF => by rw [hF]; simp [execOp, Act.eval, go_sem]) ?_
              refine mx_read _ (.int .i64 f) rfl (by kernel_rfl) (fun w' hF => by rw [hF]; simp [execOp, Act.eval, go_sem, u1]) ?_
              refine mx_one _ rfl (by kernel_rfl) (fun K8 hK8 => ?_)
              go_simp
              refine (small_any f WD).mono ?_
              rintro e wt ⟨rfl, rfl⟩
              refine hK8.out _ _ (fun _ => rfl) ?_
              clear hK8 K8
              refine mx_read _ (.bool false) rfl (by kernel_rfl) (fun w' hF => by rw [hF]; simp [execOp, Act.eval, go_sem, cn1]) ?_
              refine mx_read _ (.bool false) rfl (by kernel_rfl) (fun w' hF => by rw [hF]; simp [execOp, Act.eval, go_sem]) ?_
              refine mx_read _ (.bool false) rfl (by kernel_rfl) (fun w' hF => by rw [hF]; simp [execOp, Act.eval, go_sem]) ?_
              refine mx_read _ (.pointer (some ⟨wr.heap.size, 2, none⟩)) rfl (by kernel_rfl) (fun w' hF => by rw [hF]; simp [execOp, Act.eval, go_sem]) ?_
              refine mx_read _ (.int .i64 bb) rfl (by kernel_rfl) (fun w' hF => by rw [hF]; simp [execOp, Act.eval, go_sem, u2]) ?_
              refine mx_one _ rfl (by kernel_rfl) (fun K8 hK8 => ?_)
              go_simp
              refine (small_any bb WD).mono ?_
              rintro e wt ⟨rfl, rfl⟩
              refine hK8.out _ _ (fun _ => rfl) ?_
              clear hK8 K8
              refine mx_read _ (.bool false) rfl (by kernel_rfl) (fun w' hF => by rw [hF]; simp [execOp, Act.eval, go_sem, cn2]) ?_
              refine mx_read _ (.bool false) rfl (by kernel_rfl) (fun w' hF => by rw [hF]; simp [execOp, Act.eval, go_sem]) ?_
              refine mx_read _ (.bool false) rfl (by kernel_rfl) (fun w' hF => by rw [hF]; simp [execOp, Act.eval, go_sem]) ?_
              refine mx_read _ (.pointer (some ⟨wr.heap.size, 3, none⟩)) rfl (by kernel_rfl) (fun w' hF => by rw [hF]; simp [execOp, Act.eval, go_sem]) ?_
              refine mx_read _ (.int .i64 ww) rfl (by kernel_rfl) (fun w' hF => by rw [hF]; simp [execOp, Act.eval, go_sem, u3]) ?_
              refine mx_one _ rfl (by kernel_rfl) (fun K8 hK8 => ?_)
              go_simp
              refine (small_any ww WD).mono ?_
              rintro e wt ⟨rfl, rfl⟩
              refine hK8.out _ _ (fun _ => rfl) ?_
              clear hK8 K8
              refine mx_read _ (.bool true) rfl (by kernel_rfl) (fun w' hF => by rw [hF]; simp [execOp, Act.eval, go_sem, cn3]) ?_
              refine mx_read _ (.bool true) rfl (by kernel_rfl) (fun w' hF => by rw [hF]; simp [execOp, Act.eval, go_sem]) ?_
              refine mx_read _ (.bool true) rfl (by kernel_rfl) (fun w' hF => by rw [hF]; simp [execOp, Act.eval, go_sem]) ?_
              refine mx_skip _ rfl (by kernel_rfl) ?_
              refine mx_skip _ rfl (by kernel_rfl) ?_
              refine mx_one_skip _ rfl rfl (by kernel_rfl) ?_
              refine mx_skip _ rfl (by kernel_rfl) ?_
              refine mx_read _ (.bool true) rfl (by kernel_rfl) (fun w' hF => by rw [hF]; simp [execOp, Act.eval, go_sem]) ?_
              refine mx_read _ (.bool true) rfl (by kernel_rfl) (fun w' hF => by rw [hF]; simp [execOp, Act.eval, go_sem]) ?_
              refine mx_skip _ rfl (by kernel_rfl) ?_
              refine mx_skip _ rfl (by kernel_rfl) ?_
              refine mx_skip _ rfl (by kernel_rfl) ?_
              refine mx_skip _ rfl (by kernel_rfl) ?_
              refine mx_skip _ rfl (by kernel_rfl) ?_
              refine mx_skip _ rfl (by kernel_rfl) ?_
              refine mx_skip _ rfl (by kernel_rfl) ?_
              refine mx_skip _ rfl (by kernel_rfl) ?_
              refine mx_skip _ rfl (by kernel_rfl) ?_
              refine mx_skip _ rfl (by kernel_rfl) ?_
              refine mx_skip _ rfl (by kernel_rfl) ?_
              refine mx_skip _ rfl (by kernel_rfl) ?_
              refine mx_skip _ rfl (by kernel_rfl) ?_
              refine mx_one _ rfl (by kernel_rfl) (fun K8 hK8 => ?_)
              go_simp
              refine hK8.out _ _ (fun h => absurd rfl h) ?_
              clear hK8 K8
              refine mx_end ?_
              go_wp2_with fail
              go_ret
              exact ⟨by rw [HBAD.out]; rfl, HBE.out⟩
          · have cn2 : okNum bb = false := by simpa using cn2
            have HBAD := Lib.hid (HFB.out (HOKE.out (HENTN.out (by simp [cn2]))))
            refine mx_begin (fun w' => w' = WD) [(true, 0), (true, 1), (false, 2), (true, 3), (true, 4), (true, 5), (true, 6), (false, 7), (true, 8), (true, 9), (true, 10), (true, 11), (true, 12), (false, 13), (true, 14), (true, 15), (true, 16), (true, 17), (true, 18), (false, 19), (true, 20), (true, 21), (true, 22), (true, 23), (true, 24), (false, 25), (true, 26), (true, 27), (true, 28), (true, 29), (true, 30), (true, 31), (true, 32), (true, 33), (true, 34), (true, 35), (true, 36), (true, 37), (true, 38), (true, 39), (true, 40), (true, 41), (false, 42)] (by kernel_rfl) (by kernel_rfl) (fun _ _ d _ _ h => by cases d <;> exact h) HWD.out ?_
            rw [HWD.out]
            refine mx_read _ (.pointer (some ⟨wr.heap.size, 0, none⟩)) rfl (by kernel_rfl) (fun w' hF => by rw [hF]; simp [execOp, Act.eval, go_sem]) ?_
            refine mx_read _ (.string s) rfl (by kernel_rfl) (fun w' hF => by rw [hF]; simp [execOp, Act.eval, go_sem, u0]) ?_
            refine mx_one _ rfl (by kernel_rfl) (fun K8 hK8 => ?_)
            go_simp
            refine (NAME.out).mono ?_
            rintro e wt ⟨rfl, rfl⟩
            refine hK8.out _ _ (fun _ => rfl) ?_
            clear hK8 K8
            refine mx_read _ (.bool false) rfl (by kernel_rfl) (fun w' hF => by rw [hF]; simp [execOp, Act.eval, go_sem, cn]) ?_
            refine mx_read _ (.bool false) rfl (by kernel_rfl) (fun w' hF => by rw [hF]; simp [execOp, Act.eval, go_sem]) ?_
            refine mx_read _ (.pointer (some ⟨wr.heap.size, 1, none⟩)) rfl (by kernel_rfl) (fun w' hF => by rw [hF]; simp [execOp, Act.eval, go_sem]) ?_
            refine mx_read _ (.int .i64 f) rfl (by kernel_rfl) (fun w' hF => by rw [hF]; simp [execOp, Act.eval, go_sem, u1]) ?_
            refine mx_one _ rfl (by kernel_rfl) (fun K8 hK8 => ?_)
            go_simp
            refine (small_any f WD).mono ?_
            rintro e wt ⟨rfl, rfl⟩
            refine hK8.out _ _ (fun _ => rfl) ?_
            clear hK8 K8
            refine mx_read _ (.bool false) rfl (by kernel_rfl) (fun w' hF => by rw [hF]; simp [execOp, Act.eval, go_sem, cn1]) ?_
            refine mx_read _ (.bool false) rfl (by kernel_rfl) (fun w' hF => by rw [hF]; simp [execOp, Act.eval, go_sem]) ?_
            refine mx_read _ (.bool false) rfl (by kernel_rfl) (fun w' hF => by rw [hF]; simp [execOp, Act.eval, go_sem]) ?_
            refine mx_read _ (.pointer (some ⟨wr.heap.size, 2, none⟩)) rfl (by kernel_rfl) (fun w' hF => by rw [hF]; simp [execOp, Act.eval, go_sem]) ?_
            refine mx_read _ (.int .i64 bb) rfl (by kernel_rfl) (fun w' hF => by rw [hF]; simp [execOp, Act.eval, go_sem, u2]) ?_
            refine mx_one _ rfl (by kernel_rfl) (fun K8 hK8 => ?_)
            go_simp
            refine (small_any bb WD).mono ?_
            rintro e wt ⟨rfl, rfl⟩
            refine hK8.out _ _ (fun _ => rfl) ?_
            clear hK8 K8
            refine mx_read _ (.bool true) rfl (by kernel_rfl) (fun w' hF => by rw [hF]; simp [execOp, Act.eval, go_sem, cn2]) ?_
            refine mx_read _ (.bool true) rfl (by kernel_rfl) (fun w' hF => by rw [hF]; simp [execOp, Act.eval, go_sem]) ?_
            refine mx_read _ (.bool true) rfl (by kernel_rfl) (fun w' hF => by rw [hF]; simp [execOp, Act.eval, go_sem]) ?_
            refine mx_skip _ rfl (by kernel_rfl) ?_
            refine mx_skip _ rfl (by kernel_rfl) ?_
            refine mx_one_skip _ rfl rfl (by kernel_rfl) ?_
            refine mx_skip _ rfl (by kernel_rfl) ?_
            refine mx_read _ (.bool true) rfl (by kernel_rfl) (fun w' hF => by rw [hF]; simp [execOp, Act.eval, go_sem]) ?_
            refine mx_read _ (.bool true) rfl (by kernel_rfl) (fun w' hF => by rw [hF]; simp [execOp, Act.eval, go_sem]) ?_
            refine mx_skip _ rfl (by kernel_rfl) ?_
            refine mx_skip _ rfl (by kernel_rfl) ?_
            refine mx_one_skip _ rfl rfl (by kernel_rfl) ?_
            refine mx_skip _ rfl (by kernel_rfl) ?_
            refine mx_read _ (.bool true) rfl (by kernel_rfl) (fun w' hF => by rw [hF]; simp [execOp, Act.eval, go_sem]) ?_
            refine mx_read _ (.bool true) rfl (by kernel_rfl) (fun w' hF => by rw [hF]; simp [execOp, Act.eval, go_sem]) ?_
            refine mx_skip _ rfl (by kernel_rfl) ?_
            refine mx_skip _ rfl (by kernel_rfl) ?_
            refine mx_skip _ rfl (by kernel_rfl) ?_
            refine mx_skip _ rfl (by kernel_rfl) ?_
            refine mx_skip _ rfl (by kernel_rfl) ?_
            refine mx_skip _ rfl (by kernel_rfl) ?_
            refine mx_skip _ rfl (by kernel_rfl) ?_
            refine mx_skip _ rfl (by kernel_rfl) ?_
            refine mx_skip _ rfl (by kernel_rfl) ?_
            refine mx_skip _ rfl (by kernel_rfl) ?_
            refine mx_skip _ rfl (by kernel_rfl) ?_
            refine mx_skip _ rfl (by kernel_rfl) ?_
            refine mx_skip _ rfl (by kernel_rfl) ?_
            refine mx_one _ rfl (by kernel_rfl) (fun K8 hK8 => ?_)
            go_simp
            refine hK8.out _ _ (fun h => absurd rfl h) ?_
            clear hK8 K8
            refine mx_end ?_
            go_wp2_with fail
            go_ret
            exact ⟨by rw [HBAD.out]; rfl, HBE.out⟩
        · have cn1 : okNum f = false := by simpa using cn1
          have HBAD := Lib.hid (HFB.out (HOKE.out (HENTN.out (by simp [cn1]))))
          refine mx_begin (fun w' => w' = WD) [(true, 0), (true, 1), (false, 2), (true, 3), (true, 4), (true, 5), (true, 6), (false, 7), (true, 8), (true, 9), (true, 10), (true, 11), (true, 12), (false, 13), (true, 14), (true, 15), (true, 16), (true, 17), (true, 18), (false, 19), (true, 20), (true, 21), (true, 22), (true, 23), (true, 24), (false, 25), (true, 26), (true, 27), (true, 28), (true, 29), (true, 30), (true, 31), (true, 32), (true, 33), (true, 34), (true, 35), (true, 36), (true, 37), (true, 38), (true, 39), (true, 40), (true, 41), (false, 42)] (by kernel_rfl) (by kernel_rfl) (fun _ _ d _ _ h => by cases d <;> exact h) HWD.out ?_
          rw [HWD.out]
          refine mx_read _ (.pointer (some ⟨wr.heap.size, 0, none⟩)) rfl (by kernel_rfl) (fun w' hF => by rw [hF]; simp [execOp, Act.eval, go_sem]) ?_
          refine mx_read _ (.string s) rfl (by kernel_rfl) (fun w' hF => by rw [hF]; simp [execOp, Act.eval, go_sem, u0]) ?_
          refine mx_one _ rfl (by kernel_rfl) (fun K8 hK8 => ?_)
          go_simp
          refine (NAME.out).mono ?_
          rintro e wt ⟨rfl, rfl⟩
          refine hK8.out _ _ (fun _ => rfl) ?_
          clear hK8 K8
          refine mx_read _ (.bool false) rfl (by kernel_rfl) (fun w' hF => by rw [hF]; simp [execOp, Act.eval, go_sem, cn]) ?_
          refine mx_read _ (.bool false) rfl (by kernel_rfl) (fun w' hF => by rw [hF]; simp [execOp, Act.eval, go_sem]) ?_
          refine mx_read _ (.pointer (some ⟨wr.heap.size, 1, none⟩)) rfl (by kernel_rfl) (fun w' hF => by rw [hF]; simp [execOp, Act.eval, go_sem]) ?_
          refine mx_read _ (.int .i64 f) rfl (by kernel_rfl) (fun w' hF => by rw [hF]; simp [execOp, Act.eval, go_sem, u1]) ?_
          refine mx_one _ rfl (by kernel_rfl) (fun K8 hK8 => ?_)
          go_simp
          refine (small_any f WD).mono ?_
          rintro e wt ⟨rfl, rfl⟩
          refine hK8.out _ _ (fun _ => rfl) ?_
          clear hK8 K8
          refine mx_read _ (.bool true) rfl (by kernel_rfl) (fun w' hF => by rw [hF]; simp [execOp, Act.eval, go_sem, cn1]) ?_
          refine mx_read _ (.bool true) rfl (by kernel_rfl) (fun w' hF => by rw [hF]; simp [execOp, Act.eval, go_sem]) ?_
          refine mx_read _ (.bool true) rfl (by kernel_rfl) (fun w' hF => by rw [hF]; simp [execOp, Act.eval, go_sem]) ?_
          refine mx_skip _ rfl (by kernel_rfl) ?_
          refine mx_skip _ rfl (by kernel_rfl) ?_
          refine mx_one_skip _ rfl rfl (by kernel_rfl) ?_
          refine mx_skip _ rfl (by kernel_rfl) ?_
          refine mx_read _ (.bool true) rfl (by kernel_rfl) (fun w' hF => by rw [hF]; simp [execOp, Act.eval, go_sem]) ?_
          refine mx_read _ (.bool true) rfl (by kernel_rfl) (fun w' hF => by rw [hF]; simp [execOp, Act.eval, go_sem]) ?_
          refine mx_skip _ rfl (by kernel_rfl) ?_
          refine mx_skip _ rfl (by kernel_rfl) ?_
          refine mx_one_skip _ rfl rfl (by kernel_rfl) ?_
          refine mx_skip _ rfl (by kernel_rfl) ?_
          refine mx_read _ (.bool true) rfl (by kernel_rfl) (fun w' hF => by rw [hF]; simp [execOp, Act.eval, go_sem]) ?_
          refine mx_read _ (.bool true) rfl (by kernel_rfl) (fun w' hF => by rw [hF]; simp [execOp, Act.eval, go_sem]) ?_
          refine mx_skip _ rfl (by kernel_rfl) ?_
          refine mx_skip _ rfl (by kernel_rfl) ?_
          refine mx_one_skip _ rfl rfl (by kernel_rfl) ?_
          refine mx_skip _ rfl (by kernel_rfl) ?_
          refine mx_read _ (.bool true) rfl (by kernel_rfl) (fun w' hF => by rw [hF]; simp [execOp, Act.eval, go_sem]) ?_
          refine mx_read _ (.bool true) rfl (by kernel_rfl) (fun w' hF => by rw [hF]; simp [execOp, Act.eval, go_sem]) ?_
          refine mx_skip _ rfl (by kernel_rfl) ?_
          refine mx_skip _ rfl (by kernel_rfl) ?_
          refine mx_skip _ rfl (by kernel_rfl) ?_
          refine mx_skip _ rfl (by kernel_rfl) ?_
          refine mx_skip _ rfl (by kernel_rfl) ?_
          refine mx_skip _ rfl (by kernel_rfl) ?_
          refine mx_skip _ rfl (by kernel_rfl) ?_
          refine mx_skip _ rfl (by kernel_rfl) ?_
          refine mx_skip _ rfl (by kernel_rfl) ?_
          refine mx_skip _ rfl (by kernel_rfl) ?_
          refine mx_skip _ rfl (by kernel_rfl) ?_
          refine mx_skip _ rfl (by kernel_rfl) ?_
          refine mx_skip _ rfl (by kernel_rfl) ?_
          refine mx_one _ rfl (by kernel_rfl) (fun K8 hK8 => ?_)
          go_simp
          refine hK8.out _ _ (fun h => absurd rfl h) ?_
          clear hK8 K8
          refine mx_end ?_
          go_wp2_with fail
          go_ret
          exact ⟨by rw [HBAD.out]; rfl, HBE.out⟩
      · have cn : okName s.data.toList = false := by simpa using cn
        have HBAD := Lib.hid (HFB.out (HOKE.out (okEnt_name cn)))
        refine mx_begin (fun w' => w' = WD) [(true, 0), (true, 1), (false, 2), (true, 3), (true, 4), (true, 5), (true, 6), (false, 7), (true, 8), (true, 9), (true, 10), (true, 11), (true, 12), (false, 13), (true, 14), (true, 15), (true, 16), (true, 17), (true, 18), (false, 19), (true, 20), (true, 21), (true, 22), (true, 23), (true, 24), (false, 25), (true, 26), (true, 27), (true, 28), (true, 29), (true, 30), (true, 31), (true, 32), (true, 33), (true, 34), (true, 35), (true, 36), (true, 37), (true, 38), (true, 39), (true, 40), (true, 41), (false, 42)] (by kernel_rfl) (by kernel_rfl) (fun _ _ d _ _ h => by cases d <;> exact h) HWD.out ?_
        rw [HWD.out]
        refine mx_read _ (.pointer (some ⟨wr.heap.size, 0, none⟩)) rfl (by kernel_rfl) (fun w' hF => by rw [hF]; simp [execOp, Act.eval, go_sem]) ?_
        refine mx_read _ (.string s) rfl (by kernel_rfl) (fun w' hF => by rw [hF]; simp [execOp, Act.eval, go_sem, u0]) ?_
        refine mx_one _ rfl (by kernel_rfl) (fun K8 hK8 => ?_)
        go_simp
        refine (NAME.out).mono ?_
        rintro e wt ⟨rfl, rfl⟩
        refine hK8.out _ _ (fun _ => rfl) ?_
        clear hK8 K8
        refine mx_read _ (.bool true) rfl (by kernel_rfl) (fun w' hF => by rw [hF]; simp [execOp, Act.eval, go_sem, cn]) ?_
        refine mx_read _ (.bool true) rfl (by kernel_rfl) (fun w' hF => by rw [hF]; simp [execOp, Act.eval, go_sem]) ?_
        refine mx_skip _ rfl (by kernel_rfl) ?_
        refine mx_skip _ rfl (by kernel_rfl) ?_
        refine mx_one_skip _ rfl rfl (by kernel_rfl) ?_
        refine mx_skip _ rfl (by kernel_rfl) ?_
        refine mx_read _ (.bool true) rfl (by kernel_rfl) (fun w' hF => by rw [hF]; simp [execOp, Act.eval, go_sem]) ?_
        refine mx_read _ (.bool true) rfl (by kernel_rfl) (fun w' hF => by rw [hF]; simp [execOp, Act.eval, go_sem]) ?_
        refine mx_skip _ rfl (by kernel_rfl) ?_
        refine mx_skip _ rfl (by kernel_rfl) ?_
        refine mx_one_skip _ rfl rfl (by kernel_rfl) ?_
        refine mx_skip _ rfl (by kernel_rfl) ?_
        refine mx_read _ (.bool true) rfl (by kernel_rfl) (fun w' hF => by rw [hF]; simp [execOp, Act.eval, go_sem]) ?_
        refine mx_read _ (.bool true) rfl (by kernel_rfl) (fun w' hF => by rw [hF]; simp [execOp, Act.eval, go_sem]) ?_
        refine mx_skip _ rfl (by kernel_rfl) ?_
        refine mx_skip _ rfl (by kernel_rfl) ?_
        refine mx_one_skip _ rfl rfl (by kernel_rfl) ?_
        refine mx_skip _ rfl (by kernel_rfl) ?_
        refine mx_read _ (.bool true) rfl (by kernel_rfl) (fun w' hF => by rw [hF]; simp [execOp, Act.eval, go_sem]) ?_
        refine mx_read _ (.bool true) rfl (by kernel_rfl) (fun w' hF => by rw [hF]; simp [execOp, Act.eval, go_sem]) ?_
        refine mx_skip _ rfl (by kernel_rfl) ?_
        refine mx_skip _ rfl (by kernel_rfl) ?_
        refine mx_one_skip _ rfl rfl (by kernel_rfl) ?_
        refine mx_skip _ rfl (by kernel_rfl) ?_
        refine mx_read _ (.bool true) rfl (by kernel_rfl) (fun w' hF => by rw [hF]; simp [execOp, Act.eval, go_sem]) ?_
        refine mx_read _ (.bool true) rfl (by kernel_rfl) (fun w' hF => by rw [hF]; simp [execOp, Act.eval, go_sem]) ?_
        refine mx_skip _ rfl (by kernel_rfl) ?_
        refine mx_skip _ rfl (by kernel_rfl) ?_
        refine mx_skip _ rfl (by kernel_rfl) ?_
        refine mx_skip _ rfl (by kernel_rfl) ?_
        refine mx_skip _ rfl (by kernel_rfl) ?_
        refine mx_skip _ rfl (by kernel_rfl) ?_
        refine mx_skip _ rfl (by kernel_rfl) ?_
        refine mx_skip _ rfl (by kernel_rfl) ?_
        refine mx_skip _ rfl (by kernel_rfl) ?_
        refine mx_skip _ rfl (by kernel_rfl) ?_
        refine mx_skip _ rfl (by kernel_rfl) ?_
        refine mx_skip _ rfl (by kernel_rfl) ?_
        refine mx_skip _ rfl (by kernel_rfl) ?_
        refine mx_one _ rfl (by kernel_rfl) (fun K8 hK8 => ?_)
        go_simp
        refine hK8.out _ _ (fun h => absurd rfl h) ?_
        clear hK8 K8
        refine mx_end ?_
        go_wp2_with fail
        go_ret
        exact ⟨by rw [HBAD.out]; rfl, HBE.out⟩
    · obtain rfl : l.length = k := by omega
      have hlt2 : ¬ (l.length : Int) < (l.length : Int) := by omega
      have HF := Lib.hid (show formedM l = true from by
        unfold formedM
        rw [decide_eq_true_iff]
        exact ⟨by have := HL12.out; omega, HALL.out⟩)
      have HB := Lib.hid hb
      clear hr hb hk hlt hsz
      go_wp2_with fail
      go_ret
      exact ⟨by rw [HF.out]; rfl, HB.out⟩

end Go.Proofs.YtmmkncocgjgapaaDoor.Mf

/- A device: what its fields hold, and the walks of its small methods. -/
namespace Go.Proofs.YtmmkncocgjgapaaDoor.Dev
open Go.RowKit

theorem el_u64 : Elem Tryd.prog 40 35 1 8 := elem_of (z := .int .u64 0) Tryd.underlying40 (by kernel_rfl) rfl (by decide)

@[go_sem] theorem nil_u64 (w : World) (a : Option Addr) (n c : Nat) : (binOp .eql 40 (.slice a n c) (.slice none 0 0)).run Tryd.prog w = .ok (.bool a.isNone) w :=
  Lib.run_eql_slice_nil (P := Tryd.prog) w 40 35 a n c 0 0 Tryd.underlying40

set_option maxRecDepth 100000 in
set_option maxHeartbeats 400000 in
theorem clone_u64 (a : Option Addr) (n c : Nat) (xs : List Value) (w : World) (hr : Row w a xs) (hn : xs.length = n) (h1 : ∀ u ∈ xs, u.oneCell' = true) (hm : n ≤ 1099511627776) (h0 : a = none → n = 0 ∧ c = 0) :
    Calls Tryd.prog 36 #[.slice a n c] w (RetOwn w.heap.size 35 1 n xs w) := by
  cases a with
  | none =>
    obtain ⟨rfl, rfl⟩ := h0 rfl
    obtain rfl := List.eq_nil_of_length_eq_zero hn
    go_enter Tryd.func36, Tryd.ntmps36
    go_wp2_with fail
    go_ret
    exact ⟨_, rfl, World.ownsRow_nil _ _ _ _, Below.refl _ _⟩
  | some ad =>
    go_enter Tryd.func36, Tryd.ntmps36
    go_wp2_with (at_builtin; go_must (refine wpList_append rfl (.tmp 5) (.tmp 6) _ rfl el_u64 w.heap.size _ 0 [] rfl (World.ownsRow_made w #[] 0 (Nat.le_refl _) (by decide) rfl) (some ad) n c xs rfl (by omega) (hr.below ((Below.refl _ _).alloc (Nat.le_refl _) _)) h1 (by unfold maxLen; omega) (by omega) (by simp) ?_))
    intro v w1 hown _ _ hb
    go_wp2_with fail
    go_ret
    exact ⟨_, rfl, hown, ((Below.refl _ _).alloc (Nat.le_refl _) _).trans hb⟩

/-- What a device holds: sizes, the blocks that last and that stand now, what was written since the last Sync, fuse, fault. -/
structure Dv where
  size : Nat
  blocks : Nat
  lasts : Int → Option (List Value)
  now : Int → Option (List Value)
  pend : List (Int × List Value)
  fuse : Int
  fault : Int
  down : Bool
  acts : Nat

def Dv.blow (D : Dv) : Dv := { D with down := true }
def Dv.burn (D : Dv) : Dv := { D with fuse := if 0 < D.fuse then D.fuse - 1 else D.fuse }
def Dv.fail (D : Dv) : Dv := { D with fault := -1 }
def Dv.done (D : Dv) : Dv := { D with fault := if 0 < D.fault then D.fault - 1 else D.fault, acts := D.acts + 1 }
/-- An act's share of fuse and fault: the error, and the device behind it. -/
def Dv.act (D : Dv) : Int × Dv :=
  if D.fuse = 0 then (8, D.blow) else if D.fault = 0 then (6, D.burn.fail) else (0, D.burn.done)

def dcells (D : Dv) (rl rn : Nat) (pv : Value) : Array Value :=
  #[.int .i64 (D.size : Int), .int .i64 (D.blocks : Int), .map (some rl), .map (some rn), pv, .int .i64 D.fuse, .int .i64 D.fault, .bool D.down, .int .i64 (D.acts : Int)]

/-- The device's own block. -/
abbrev Box (w : World) (a : Nat) (D : Dv) (rl rn : Nat) (pv : Value) : Prop := Blk w a 63 (dcells D rl rn pv)

def NumOk (x : Int) : Prop := -1 ≤ x ∧ x ≤ 9223372036854775807
/-- All blocks have as many words. -/
structure Fit (D : Dv) : Prop where
  size : 8 ≤ D.size ∧ D.size ≤ 256
  blocks : D.blocks ≤ 1000000
  now : ∀ k ws, D.now k = some ws → ws.length = D.size
  lasts : ∀ k ws, D.lasts k = some ws → ws.length = D.size
  pend : ∀ p ∈ D.pend, p.2.length = D.size
  len : D.pend.length ≤ D.acts
/-- Fuse, fault and the number of acts lie where they can be counted. -/
structure Nums (D : Dv) : Prop where
  fuse : NumOk D.fuse
  fault : NumOk D.fault
  acts : D.acts < 4611686018427387904
  fit : Fit D

theorem Dv.act_nums {D : Dv} (h : Nums D) (h2 : D.acts + 1 < 4611686018427387904) : Nums D.act.2 := by
  obtain ⟨h3, h4, h5, h6⟩ := h
  unfold NumOk at *
  unfold Dv.act
  split
  · exact ⟨h3, h4, h5, ⟨h6.1, h6.2, h6.3, h6.4, h6.5, h6.6⟩⟩
  · split
    · refine ⟨?_, by unfold NumOk Dv.fail Dv.burn; simp, h5, ⟨h6.1, h6.2, h6.3, h6.4, h6.5, h6.6⟩⟩
      unfold NumOk Dv.fail Dv.burn
      simp only
      split <;> omega
    · refine ⟨?_, ?_, h2, ⟨h6.1, h6.2, h6.3, h6.4, h6.5, Nat.le_succ_of_le h6.6⟩⟩
      · unfold NumOk Dv.done Dv.burn
        simp only
        split <;> omega
      · unfold NumOk Dv.done Dv.burn
        simp only
        split <;> omega

section
variable {w : World} {a : Nat} {D : Dv} {rl rn : Nat} {pv : Value}

set_option maxRecDepth 100000 in
theorem down_any (h : Box w a D rl rn pv) :
    Calls Tryd.prog 28 #[.pointer (some ⟨a, 0, none⟩)] w fun e w' => e = .returned (.bool D.down) ∧ w = w' := by
  have c7 : w.cell? ⟨a, 7, none⟩ = some (.bool D.down) := h.cell 7
  go_enter Tryd.func28, Tryd.ntmps28
  go_wp2_with fail
  go_ret
  exact ⟨rfl, rfl⟩

set_option maxRecDepth 100000 in
theorem down_nil (w : World) :
    Calls Tryd.prog 28 #[.pointer none] w fun e w' => e = .returned (.bool true) ∧ w = w' := by
  go_enter Tryd.func28, Tryd.ntmps28
  go_wp2_with fail
  go_ret
  exact ⟨rfl, rfl⟩

def Acted (w : World) (a : Nat) (D : Dv) (rl rn : Nat) (pv : Value) (e : Ending) (w' : World) : Prop :=
  e = .returned (.int .i64 D.act.1) ∧ Box w' a D.act.2 rl rn pv ∧ Chg (fun k => k = a) w w'

theorem acted_close {w w' : World} {a : Nat} {D D' : Dv} {rl rn : Nat} {pv : Value} {n : Int} {cs : Array Value} (hb : Blk w' a 63 cs) (hc : Chg (fun k => k = a) w w') (h : D.act = (n, D')) (he : cs = dcells D' rl rn pv) :
    Acted w a D rl rn pv (.returned (.int .i64 n)) w' := by
  refine ⟨by rw [h], ?_, hc⟩
  rw [h]
  subst he
  exact hb

set_option maxRecDepth 100000 in
set_option maxHeartbeats 1000000 in
theorem act_any (h : Box w a D rl rn pv) (hn : Nums D) :
    Calls Tryd.prog 35 #[.pointer (some ⟨a, 0, none⟩)] w (Acted w a D rl rn pv) := by
  obtain ⟨⟨f1, f2⟩, ⟨g1, g2⟩, hacts, -⟩ := hn
  have c5 : w.cell? ⟨a, 5, none⟩ = some (.int .i64 D.fuse) := h.cell 5
  have c6 : w.cell? ⟨a, 6, none⟩ = some (.int .i64 D.fault) := h.cell 6
  have c7 : w.cell? ⟨a, 7, none⟩ = some (.bool D.down) := h.cell 7
  have c8 : w.cell? ⟨a, 8, none⟩ = some (.int .i64 (D.acts : Int)) := h.cell 8
  have z5 := h.frozen 5
  have z6 := h.frozen 6
  have z7 := h.frozen 7
  have z8 := h.frozen 8
  have ha1 : (D.acts : Int) < 4611686018427387904 := by omega
  have hg : ∀ i v, Chg (fun k => k = a) w (w.setCell ⟨a, i, none⟩ v) := fun i v => (Chg.refl _ w).setCell _ _ (fun _ => rfl)
  have HG := Lib.hid hg
  clear hacts hg
  by_cases hf : D.fuse = 0
  · have e0 : (D.fuse == 0) = true := by simp [hf]
    have hact : D.act = (8, D.blow) := by unfold Dv.act; rw [if_pos hf]
    have HACT := Lib.hid hact
    clear hact hf
    go_enter Tryd.func35, Tryd.ntmps35
    go_wp2_with fail
    go_ret
    exact acted_close (h.set_ 7 (.bool true)) (HG.out _ _) HACT.out rfl
  · have e0 : (D.fuse == 0) = false := by simp [hf]
    have hb : D.burn = if 0 < D.fuse then { D with fuse := D.fuse - 1 } else D := by unfold Dv.burn; split <;> rfl
    by_cases hq : D.fault = 0
    · have e1 : (D.fault == 0) = true := by simp [hq]
      have hact : D.act = (6, D.burn.fail) := by unfold Dv.act; rw [if_neg hf, if_pos hq]
      by_cases hp : 0 < D.fuse
      · rw [hb, if_pos hp] at hact
        have HACT := Lib.hid hact
        clear hact hf hq hb
        go_enter Tryd.func35, Tryd.ntmps35
        go_wp2_with fail
        go_ret
        exact acted_close ((h.set_ 5 _).set_ 6 _) ((HG.out 5 _).setCell _ _ (fun _ => rfl)) HACT.out rfl
      · rw [hb, if_neg hp] at hact
        have HACT := Lib.hid hact
        clear hact hf hq hb
        go_enter Tryd.func35, Tryd.ntmps35
        go_wp2_with fail
        go_ret
        exact acted_close (h.set_ 6 _) (HG.out _ _) HACT.out rfl
    · have e1 : (D.fault == 0) = false := by simp [hq]
      have hact : D.act = (0, D.burn.done) := by unfold Dv.act; rw [if_neg hf, if_neg hq]
      have hd : ∀ E : Dv, E.done = if 0 < E.fault then { E with fault := E.fault - 1, acts := E.acts + 1 } else { E with acts := E.acts + 1 } := fun E => by unfold Dv.done; split <;> rfl
      by_cases hp : 0 < D.fuse
      · rw [hb, if_pos hp, hd] at hact
        by_cases hr : 0 < D.fault
        · rw [if_pos hr] at hact
          have HACT := Lib.hid hact
          clear hact hf hq hb hd
          go_enter Tryd.func35, Tryd.ntmps35
          go_wp2_with fail
          go_ret
          exact acted_close (((h.set_ 5 _).set_ 6 _).set_ 8 _) (((HG.out 5 _).setCell _ _ (fun _ => rfl)).setCell _ _ (fun _ => rfl)) HACT.out rfl
        · rw [if_neg hr] at hact
          have HACT := Lib.hid hact
          clear hact hf hq hb hd
          go_enter Tryd.func35, Tryd.ntmps35
          go_wp2_with fail
          go_ret
          exact acted_close ((h.set_ 5 _).set_ 8 _) ((HG.out 5 _).setCell _ _ (fun _ => rfl)) HACT.out rfl
      · rw [hb, if_neg hp, hd] at hact
        by_cases hr : 0 < D.fault
        · rw [if_pos hr] at hact
          have HACT := Lib.hid hact
          clear hact hf hq hb hd
          go_enter Tryd.func35, Tryd.ntmps35
          go_wp2_with fail
          go_ret
          exact acted_close ((h.set_ 6 _).set_ 8 _) ((HG.out 6 _).setCell _ _ (fun _ => rfl)) HACT.out rfl
        · rw [if_neg hr] at hact
          have HACT := Lib.hid hact
          clear hact hf hq hb hd
          go_enter Tryd.func35, Tryd.ntmps35
          go_wp2_with fail
          go_ret
          exact acted_close (h.set_ 8 _) (HG.out _ _) HACT.out rfl
end

end Go.Proofs.YtmmkncocgjgapaaDoor.Dev

/- What a device's maps and its list of writes hold. -/
namespace Go.Proofs.YtmmkncocgjgapaaDoor
open Go.RowKit

section
variable {κ : Type} [DecidableEq κ]
theorem look_set {kv : List (κ × Value)} {k : κ} {i : Nat} {v0 v : Value} (h : locate k kv 0 = some (i, v0)) (j : κ) : look (kv.set i (k, v)) j = if j = k then some v else look kv j := by
  have key : ∀ (kv : List (κ × Value)) (s i : Nat) (v0 : Value), locate k kv s = some (s + i, v0) → look (kv.set i (k, v)) j = if j = k then some v else look kv j := by
    intro kv
    induction kv with
    | nil => intro s i v0 h; cases h
    | cons p kv ih =>
      intro s i v0 h
      unfold locate at h
      by_cases hp : p.1 = k
      · rw [if_pos hp] at h
        injection h with h
        injection h with h1 h2
        obtain rfl : i = 0 := by omega
        unfold look
        by_cases hj : j = k
        · simp [hj]
        · have hkj : ¬ k = j := fun e => hj e.symm
          simp [hj, hp, hkj]
      · rw [if_neg hp] at h
        obtain ⟨h1, _⟩ := locate_some h
        obtain ⟨i', rfl⟩ : ∃ i', i = i' + 1 := ⟨i - 1, by omega⟩
        have := ih (s + 1) i' v0 (by rw [h]; congr 2; omega)
        unfold look at this ⊢
        rw [List.set_cons_succ, List.find?_cons, List.find?_cons]
        by_cases hj : p.1 = j
        · have : ¬ j = k := fun e => hp (hj.trans e)
          simp [hj, this]
        · simp only [hj, decide_false]
          exact this
  exact key kv 0 i v0 (by rw [Nat.zero_add]; exact h)

theorem look_none {kv : List (κ × Value)} {k : κ} (h : locate k kv 0 = none) : look kv k = none := by
  rw [← locate_map kv 0, h]
  rfl

theorem look_put (kv : List (κ × Value)) (k : κ) (v : Value) (j : κ) : look (put_ kv k v) j = if j = k then some v else look kv j := by
  unfold put_
  cases h : locate k kv 0 with
  | some x =>
    obtain ⟨i, v0⟩ := x
    exact look_set h j
  | none =>
    have h1 := look_none h
    by_cases hj : j = k
    · subst hj
      rw [if_pos rfl]
      unfold look at h1 ⊢
      rw [List.find?_append]
      rw [Option.map_eq_none_iff] at h1
      rw [h1]
      simp
    · rw [if_neg hj]
      unfold look
      rw [List.find?_append]
      have hkj : ¬ k = j := fun e => hj e.symm
      simp [hkj]
end

namespace Dev

/-- The slice is a row of its own and holds these words. -/
def HeldV (w : World) (O : Nat → Prop) (v : Value) (ws : List Value) : Prop := w.ownsRow 0 35 1 v ws.length ws ∧ (∀ u ∈ ws, u.oneCell' = true) ∧ ∀ g, v.ownBlock = some g → O g

theorem HeldV.chg {w w' : World} {O : Nat → Prop} {v : Value} {ws : List Value} {S : Nat → Prop} (h : HeldV w O v ws) (hc : Chg S w w') (hS : ∀ g cs, O g → Blk w g 35 cs → ¬ S g) : HeldV w' O v ws := by
  refine ⟨own_chg h.1 hc (fun g hg hs => ?_), h.2⟩
  rcases h.1.2 with ⟨rfl, _⟩ | ⟨g', cap, cur, rfl, hb, hh, _⟩
  · simp [Value.ownBlock] at hg
  · have : g' = g := by simpa [Value.ownBlock] using hg
    subst this
    exact hS _ cur (h.2.2 _ rfl) hh hs

/-- One optional row. -/
def OptHeld (w : World) (O : Nat → Prop) : Option Value → Option (List Value) → Prop
  | none, none => True
  | some v, some ws => HeldV w O v ws
  | _, _ => False
theorem OptHeld.chg {w w' : World} {O : Nat → Prop} {S : Nat → Prop} {v : Option Value} {ws : Option (List Value)} (h : OptHeld w O v ws) (hc : Chg S w w') (hS : ∀ g cs, O g → Blk w g 35 cs → ¬ S g) : OptHeld w' O v ws := by
  match v, ws with
  | none, none => trivial
  | some v, some ws => exact HeldV.chg h hc hS
  | none, some _ => exact h
  | some _, none => exact h

/-- Map number r holds these blocks. -/
def DMap (w : World) (O : Nat → Prop) (r : Nat) (f : Int → Option (List Value)) : Prop := ∃ kv, IsMap (Value.int .i64) w r kv ∧ ∀ k, OptHeld w O (look kv k) (f k)
def upd (f : Int → Option (List Value)) (k : Int) (ws : List Value) : Int → Option (List Value) := fun j => if j = k then some ws else f j

theorem DMap.lt {w : World} {O : Nat → Prop} {r : Nat} {f : Int → Option (List Value)} (h : DMap w O r f) : r < w.heap.size := by
  obtain ⟨kv, h, _⟩ := h
  exact h.lt
theorem DMap.chg {w w' : World} {O : Nat → Prop} {r : Nat} {f : Int → Option (List Value)} {S : Nat → Prop} (h : DMap w O r f) (hc : Chg S w w') (hr : ¬ S r) (hS : ∀ g cs, O g → Blk w g 35 cs → ¬ S g) : DMap w' O r f := by
  obtain ⟨kv, h1, h2⟩ := h
  exact ⟨kv, h1.chg hc hr, fun k => (h2 k).chg hc hS⟩
theorem DMap.drewN {w : World} {O : Nat → Prop} {r : Nat} {f : Int → Option (List Value)} (h : DMap w O r f) (n : Nat) : DMap (w.drewN n) O r f := h
theorem DMap.new (w : World) (O : Nat → Prop) : DMap (w.alloc (.map #[] 0)) O w.heap.size (fun _ => none) := ⟨[], IsMap.new _ w, fun k => trivial⟩
theorem DMap.ne_blk {w : World} {O : Nat → Prop} {r : Nat} {f : Int → Option (List Value)} (h : DMap w O r f) {g : Nat} {t : TypeId} {cs : Array Value} (hb : Blk w g t cs) : g ≠ r := by
  obtain ⟨kv, h, _⟩ := h
  exact h.ne_blk hb
/-- Behind a store into the map. -/
theorem DMap.put {w w' : World} {O : Nat → Prop} {r : Nat} {f : Int → Option (List Value)} {kv : List (Int × Value)} (hk : ∀ k, OptHeld w O (look kv k) (f k)) (k : Int) (v : Value) (ws : List Value) (hv : HeldV w O v ws) (hm : IsMap (Value.int .i64) w' r (put_ kv k v)) (hc : Chg (fun k => k = r) w w') (hr : ∃ es c, w.heap[r]? = some (.map es c)) : DMap w' O r (upd f k ws) := by
  have hS : ∀ g cs, O g → Blk w g 35 cs → ¬ g = r := by
    rintro g cs _ hb rfl
    obtain ⟨es, c, he⟩ := hr
    unfold Blk at hb
    rw [he] at hb
    cases hb
  refine ⟨_, hm, fun j => ?_⟩
  rw [look_put]
  unfold upd
  by_cases hj : j = k
  · rw [if_pos hj, if_pos hj]
    exact HeldV.chg hv hc hS
  · rw [if_neg hj, if_neg hj]
    exact (hk j).chg hc hS

def pcells (pr : List (Int × Value)) : List Value := pr.flatMap fun p => [.int .i64 p.1, p.2]
theorem pcells_length (pr : List (Int × Value)) : (pcells pr).length = pr.length * 2 := by
  induction pr with
  | nil => rfl
  | cons p pr ih => simp only [pcells, List.flatMap_cons, List.length_append, List.length_cons, List.length_nil] at ih ⊢; omega
theorem pcells_append (a b : List (Int × Value)) : pcells (a ++ b) = pcells a ++ pcells b := by simp [pcells]
theorem pcells_get (pr : List (Int × Value)) (k : Nat) (h : k < pr.length) : (pcells pr)[k * 2]? = some (.int .i64 pr[k].1) ∧ (pcells pr)[k * 2 + 1]? = some pr[k].2 := by
  induction pr generalizing k with
  | nil => simp at h
  | cons p pr ih =>
    have e : pcells (p :: pr) = .int .i64 p.1 :: p.2 :: pcells pr := by simp [pcells]
    rw [e]
    match k, h with
    | 0, _ => exact ⟨rfl, rfl⟩
    | k + 1, h =>
      have := ih k (by simpa using h)
      rw [show (k + 1) * 2 = k * 2 + 1 + 1 from by omega, show (k * 2 + 1 + 1 + 1) = (k * 2 + 1) + 1 + 1 from rfl]
      simpa using this

/-- The list of writes that may not last. -/
def Pend (w : World) (O : Nat → Prop) (pv : Value) (l : List (Int × List Value)) : Prop :=
  ∃ pr : List (Int × Value), w.ownsRow 0 77 2 pv l.length (pcells pr) ∧ pr.length = l.length ∧ ∀ j (h : j < pr.length) (h' : j < l.length), pr[j].1 = l[j].1 ∧ HeldV w O pr[j].2 l[j].2
theorem Pend.nil (w : World) (O : Nat → Prop) : Pend w O (.slice none 0 0) [] := ⟨[], World.ownsRow_nil _ _ _ _, rfl, fun j h => by simp at h⟩
theorem Pend.chg {w w' : World} {O : Nat → Prop} {pv : Value} {l : List (Int × List Value)} {S : Nat → Prop} (h : Pend w O pv l) (hc : Chg S w w') (hp : ∀ g, pv.ownBlock = some g → ¬ S g) (hS : ∀ g cs, O g → Blk w g 35 cs → ¬ S g) : Pend w' O pv l := by
  obtain ⟨pr, h1, h2, h3⟩ := h
  exact ⟨pr, own_chg h1 hc hp, h2, fun j hj hj' => ⟨(h3 j hj hj').1, (h3 j hj hj').2.chg hc hS⟩⟩

/-- A device at block a. -/
structure At (w : World) (O : Nat → Prop) (a rl rn : Nat) (pv : Value) (D : Dv) : Prop where
  box : Box w a D rl rn pv
  ne : rl ≠ rn
  lasts : DMap w O rl D.lasts
  now : DMap w O rn D.now
  pend : Pend w O pv D.pend
  nums : Nums D
  pout : ∀ g, pv.ownBlock = some g → O g

section
variable {w w' : World} {O : Nat → Prop} {a rl rn : Nat} {pv : Value} {D D' : Dv} {S : Nat → Prop}
theorem At.drewN (h : At w O a rl rn pv D) (n : Nat) : At (w.drewN n) O a rl rn pv D := ⟨h.box, h.ne, h.lasts, h.now, h.pend, h.nums, h.pout⟩
theorem At.pend_ne (h : At w O a rl rn pv D) {g : Nat} (hg : pv.ownBlock = some g) : g ≠ a ∧ g ≠ rl ∧ g ≠ rn := by
  obtain ⟨pr, h1, _⟩ := h.pend
  obtain ⟨kl, hl, _⟩ := h.lasts
  obtain ⟨kn, hn, _⟩ := h.now
  refine ⟨?_, ?_, ?_⟩
  · rintro rfl; exact own_ne_blk h1 h.box (by decide) hg
  · rintro rfl; exact hl.ne_own h1 hg
  · rintro rfl; exact hn.ne_own h1 hg
/-- Nothing of the device is among the blocks that may have turned. -/
theorem At.chg (h : At w O a rl rn pv D) (hc : Chg S w w') (ha : ¬ S a) (hl : ¬ S rl) (hn : ¬ S rn) (hp : ∀ g, pv.ownBlock = some g → ¬ S g) (hS : ∀ g cs, O g → Blk w g 35 cs → ¬ S g) : At w' O a rl rn pv D :=
  ⟨h.box.chg hc ha, h.ne, h.lasts.chg hc hl hS, h.now.chg hc hn hS, h.pend.chg hc hp hS, h.nums, h.pout⟩
theorem At.below (h : At w O a rl rn pv D) (hb : Below w.heap.size w w') : At w' O a rl rn pv D :=
  h.chg (Chg.of_below' (S := fun _ => False) hb) (fun h => h) (fun h => h) (fun h => h) (fun _ _ h => h) (fun _ _ _ _ h => h)
/-- Only the device's own block has turned, and of it only fuse, fault, power and count. -/
theorem At.of_box (h : At w O a rl rn pv D) (hc : Chg (fun k => k = a) w w') (hb : Box w' a D' rl rn pv) (h1 : D'.lasts = D.lasts) (h2 : D'.now = D.now) (h3 : D'.pend = D.pend) (h4 : Nums D') : At w' O a rl rn pv D' := by
  have hS : ∀ g cs, O g → Blk w g 35 cs → ¬ g = a := fun g cs _ hg e => hg.ne_ h.box (by decide) e
  have hl : ¬ rl = a := fun e => h.lasts.ne_blk h.box e.symm
  have hn : ¬ rn = a := fun e => h.now.ne_blk h.box e.symm
  exact ⟨hb, h.ne, h1 ▸ h.lasts.chg hc hl hS, h2 ▸ h.now.chg hc hn hS, h3 ▸ h.pend.chg hc (fun g hg => (h.pend_ne hg).1) hS, h4, h.pout⟩
theorem Dv.act_same (D : Dv) : D.act.2.lasts = D.lasts ∧ D.act.2.now = D.now ∧ D.act.2.pend = D.pend ∧ D.act.2.size = D.size ∧ D.act.2.blocks = D.blocks ∧ D.act.2.acts ≤ D.acts + 1 := by
  unfold Dv.act
  split
  · exact ⟨rfl, rfl, rfl, rfl, rfl, by simp [Dv.blow]⟩
  · split
    · exact ⟨rfl, rfl, rfl, rfl, rfl, by simp [Dv.fail, Dv.burn]⟩
    · exact ⟨rfl, rfl, rfl, rfl, rfl, by simp [Dv.done, Dv.burn]⟩
theorem At.acted (h : At w O a rl rn pv D) (hc : Chg (fun k => k = a) w w') (hb : Box w' a D.act.2 rl rn pv) (hn : D.acts + 1 < 4611686018427387904) : At w' O a rl rn pv D.act.2 := by
  obtain ⟨h1, h2, h3, _⟩ := D.act_same
  exact h.of_box hc hb h1 h2 h3 (Dv.act_nums h.nums hn)
end

section
variable {w : World} {O O' : Nat → Prop} {a rl rn : Nat} {pv : Value} {D : Dv}
theorem HeldV.mono {v : Value} {ws : List Value} (h : HeldV w O v ws) (hO : ∀ g, g < w.heap.size → O g → O' g) : HeldV w O' v ws :=
  ⟨h.1, h.2.1, fun g hg => hO g (h.1.lt g hg).2 (h.2.2 g hg)⟩
theorem OptHeld.mono {v : Option Value} {ws : Option (List Value)} (h : OptHeld w O v ws) (hO : ∀ g, g < w.heap.size → O g → O' g) : OptHeld w O' v ws := by
  match v, ws with
  | none, none => trivial
  | some v, some ws => exact HeldV.mono h hO
  | none, some _ => exact h
  | some _, none => exact h
/-- The set of blocks may be taken otherwise, where it holds the same ones of those that there are. -/
theorem At.mono (h : At w O a rl rn pv D) (hO : ∀ g, g < w.heap.size → O g → O' g) : At w O' a rl rn pv D := by
  obtain ⟨kv, h1, h2⟩ := h.lasts
  obtain ⟨kn, h3, h4⟩ := h.now
  obtain ⟨pr, h5, h6, h7⟩ := h.pend
  exact ⟨h.box, h.ne, ⟨kv, h1, fun k => (h2 k).mono hO⟩, ⟨kn, h3, fun k => (h4 k).mono hO⟩, ⟨pr, h5, h6, fun j h h' => ⟨(h7 j h h').1, (h7 j h h').2.mono hO⟩⟩, h.nums, fun g hg => hO g (h5.lt g hg).2 (h.pout g hg)⟩
end

end Dev
end Go.Proofs.YtmmkncocgjgapaaDoor

/- The walks of New, Size, Blocks, Acts, SetFuse, SetFault, Read and Write of a device. -/
namespace Go.Proofs.YtmmkncocgjgapaaDoor.Dev
open Go.RowKit

theorem below_d {B : Nat} {w w' : World} (h : Below B w w') (n : Nat) : Below B w (w'.drewN n) := h.trans ⟨rfl, rfl, rfl, Nat.le_refl _, fun _ _ => rfl⟩

def fresh (size blocks : Nat) : Dv := { size := size, blocks := blocks, lasts := fun _ => none, now := fun _ => none, pend := [], fuse := -1, fault := -1, down := false, acts := 0 }
theorem fresh_nums (size blocks : Nat) (h8 : 8 ≤ size) (h256 : size ≤ 256) (hb : blocks ≤ 1000000) : Nums (fresh size blocks) :=
  ⟨by unfold NumOk fresh; simp, by unfold NumOk fresh; simp, by simp [fresh], ⟨⟨h8, h256⟩, hb, (fun _ _ h => by cases h), (fun _ _ h => by cases h), (fun _ h => by cases h), Nat.le_refl _⟩⟩

/-- What New asks. -/
def NewFits (size blocks : Int) : Prop := 8 ≤ size ∧ size ≤ 256 ∧ 0 ≤ blocks ∧ blocks ≤ 1000000

def Made (w : World) (size blocks : Nat) (e : Ending) (w' : World) : Prop :=
  e = .returned (.tuple #[.pointer (some ⟨w.heap.size + 2, 0, none⟩), .int .i64 0]) ∧ (∀ O, At w' O (w.heap.size + 2) w.heap.size (w.heap.size + 1) (.slice none 0 0) (fresh size blocks)) ∧ Below w.heap.size w w' ∧ w'.heap.size = w.heap.size + 3

set_option maxRecDepth 100000 in
theorem new_ok (size blocks : Nat) (w : World) (h8 : 8 ≤ size) (h256 : size ≤ 256) (hb : blocks ≤ 1000000) :
    Calls Tryd.prog 14 #[.int .i64 (size : Int), .int .i64 (blocks : Int)] w (Made w size blocks) := by
  have e1 : decide ((size : Int) < 8) = false := by simp; omega
  have e2 : decide (256 < (size : Int)) = false := by simp; omega
  have e3 : decide ((blocks : Int) < 0) = false := by simp
  have e4 : decide (1000000 < (blocks : Int)) = false := by simp; omega
  have hmm := @run_makeMap Tryd.prog
  go_enter Tryd.func14, Tryd.ntmps14
  go_wp2_with fail
  go_ret2
  have b1 : Below w.heap.size w (((w.alloc (.map #[] 0)).alloc (.map #[] 0)).alloc (.cells (dcells (fresh size blocks) w.heap.size (w.heap.size + 1) (.slice none 0 0)) 63)) :=
    (((Below.refl w.heap.size w).alloc (Nat.le_refl _) _).alloc (by simp) _).alloc (by simp; omega) _
  refine ⟨rfl, fun O => ?_, b1, by simp⟩
  have m1 := ((DMap.new w O).chg (((Chg.refl (fun _ => False) _).alloc (.map #[] 0)).alloc (.cells (dcells (fresh size blocks) w.heap.size (w.heap.size + 1) (.slice none 0 0)) 63)) (fun h => h) (fun _ _ _ _ h => h))
  have m2 := ((DMap.new (w.alloc (.map #[] 0)) O).chg ((Chg.refl (fun _ => False) _).alloc (.cells (dcells (fresh size blocks) w.heap.size (w.heap.size + 1) (.slice none 0 0)) 63)) (fun h => h) (fun _ _ _ _ h => h))
  rw [show (w.alloc (.map #[] 0)).heap.size = w.heap.size + 1 from by simp] at m2
  have m3 := Blk.new ((w.alloc (.map #[] 0)).alloc (.map #[] 0)) 63 (dcells (fresh size blocks) w.heap.size (w.heap.size + 1) (.slice none 0 0))
  rw [show ((w.alloc (.map #[] 0)).alloc (.map #[] 0)).heap.size = w.heap.size + 2 from by simp] at m3
  exact ⟨m3, by omega, m1, m2, Pend.nil _ _, fresh_nums _ _ h8 h256 hb, fun g hg => by simp [Value.ownBlock] at hg⟩

set_option maxRecDepth 100000 in
theorem new_no (size blocks : Int) (w : World) (h : ¬ NewFits size blocks) :
    Calls Tryd.prog 14 #[.int .i64 size, .int .i64 blocks] w fun e w' => e = .returned (.tuple #[.pointer none, .int .i64 1]) ∧ w = w' := by
  unfold NewFits at h
  by_cases e1 : size < 8
  · clear h
    go_enter Tryd.func14, Tryd.ntmps14
    go_wp2_with fail
    go_ret2
    exact ⟨rfl, rfl⟩
  by_cases e2 : 256 < size
  · clear h
    go_enter Tryd.func14, Tryd.ntmps14
    go_wp2_with fail
    go_ret2
    exact ⟨rfl, rfl⟩
  by_cases e3 : blocks < 0
  · clear h
    go_enter Tryd.func14, Tryd.ntmps14
    go_wp2_with fail
    go_ret2
    exact ⟨rfl, rfl⟩
  have e4 : 1000000 < blocks := by omega
  clear h
  go_enter Tryd.func14, Tryd.ntmps14
  go_wp2_with fail
  go_ret2
  exact ⟨rfl, rfl⟩

section
variable {w : World} {a rl rn : Nat} {O : Nat → Prop} {pv : Value} {D : Dv}

theorem size_any (h : Box w a D rl rn pv) : Calls Tryd.prog 27 #[.pointer (some ⟨a, 0, none⟩)] w fun e w' => e = .returned (.int .i64 (D.size : Int)) ∧ w = w' := by
  have c : w.cell? ⟨a, 0, none⟩ = some (.int .i64 (D.size : Int)) := h.cell 0
  go_enter Tryd.func27, Tryd.ntmps27
  go_wp2_with fail
  go_ret
  exact ⟨rfl, rfl⟩
theorem blocks_any (h : Box w a D rl rn pv) : Calls Tryd.prog 29 #[.pointer (some ⟨a, 0, none⟩)] w fun e w' => e = .returned (.int .i64 (D.blocks : Int)) ∧ w = w' := by
  have c : w.cell? ⟨a, 1, none⟩ = some (.int .i64 (D.blocks : Int)) := h.cell 1
  go_enter Tryd.func29, Tryd.ntmps29
  go_wp2_with fail
  go_ret
  exact ⟨rfl, rfl⟩
def Dv.setFuse (D : Dv) (n : Int) : Dv := { D with fuse := max n (-1) }
def Dv.setFault (D : Dv) (n : Int) : Dv := { D with fault := max n (-1) }

set_option maxRecDepth 100000 in
theorem setfuse_any (n : Int) (h : Box w a D rl rn pv) : Calls Tryd.prog 21 #[.pointer (some ⟨a, 0, none⟩), .int .i64 n] w fun e w' => e = .returned (.tuple #[]) ∧ Box w' a (D.setFuse n) rl rn pv ∧ Chg (fun k => k = a) w w' := by
  have z := h.frozen 5
  have c : w.cell? ⟨a, 5, none⟩ = some (.int .i64 D.fuse) := h.cell 5
  have hg := fun v => (Chg.refl (fun k => k = a) w).setCell ⟨a, 5, none⟩ (.int .i64 v) (fun _ => rfl)
  have hb := fun v => h.set_ 5 (.int .i64 v)
  have HG := Lib.hid hg
  have HB := Lib.hid hb
  clear hg hb
  rcases Int.lt_or_le n (-1) with hn | hn
  · have hm : D.setFuse n = { D with fuse := -1 } := by unfold Dv.setFuse; rw [show max n (-1) = -1 from by omega]
    have HM := Lib.hid hm
    clear hm
    go_enter Tryd.func21, Tryd.ntmps21
    go_wp2_with fail
    go_end0
    exact ⟨rfl, HM.out ▸ HB.out _, HG.out _⟩
  · have hm : D.setFuse n = { D with fuse := n } := by unfold Dv.setFuse; rw [show max n (-1) = n from by omega]
    have HM := Lib.hid hm
    clear hm
    go_enter Tryd.func21, Tryd.ntmps21
    go_wp2_with fail
    go_end0
    exact ⟨rfl, HM.out ▸ HB.out _, HG.out _⟩

end

end Go.Proofs.YtmmkncocgjgapaaDoor.Dev
