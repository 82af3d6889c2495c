/- Texts of mine, packed: MfForm2. -/
import Derived.Test.YtmmkncocgjgapaaDoorK2
set_option linter.unusedVariables false

/- The walk of manifest.Formed (printed by genmform.py out of mform2.head). -/
namespace Go.Proofs.YtmmkncocgjgapaaDoor.Mf
open Go.RowKit

theorem nil_list : (⟨#[]⟩ : ByteArray).toList = [] := by rw [Lib.toList_data]
theorem okEnt_name {s : ByteArray} {f bb ww cc : Int} (h : okName s.data.toList = false) : okEnt ⟨s, f, bb, ww, cc⟩ = false := by unfold okEnt; rw [h]; rfl
theorem okEnt_num {s : ByteArray} {f bb ww cc : Int} (h : [f, bb, ww, cc].all okNum = false) : okEnt ⟨s, f, bb, ww, cc⟩ = false := by
  unfold okEnt
  simp only [List.all_cons, List.all_nil, Bool.and_true] at h
  cases okName s.data.toList <;> simp_all
theorem okEnt_yes {s : ByteArray} {f bb ww cc : Int} (h1 : okName s.data.toList = true) (h : [f, bb, ww, cc].all okNum = true) : okEnt ⟨s, f, bb, ww, cc⟩ = true := by
  unfold okEnt
  simp only [List.all_cons, List.all_nil, Bool.and_true] at h
  simp_all
theorem okName_sz {s : ByteArray} (h : s.size < 1 ∨ 8 < s.size) : okName s.data.toList = false := by
  have hsz : s.data.toList.length = s.size := by rw [Array.length_toList]; rfl
  unfold okName
  rw [hsz]
  simp
  omega
theorem okName_all {s : ByteArray} (h : ¬ s.data.toList.all okB = true) : okName s.data.toList = false := by
  unfold okName
  rw [show s.data.toList.all okB = false from by simpa using h]
  simp
theorem okName_yes {s : ByteArray} (h1 : 1 ≤ s.size) (h2 : s.size ≤ 8) (h : s.data.toList.all okB = true) : okName s.data.toList = true := by
  have hsz : s.data.toList.length = s.size := by rw [Array.length_toList]; rfl
  unfold okName
  rw [hsz, h]
  simp
  omega
theorem trim_told (s : ByteArray) (B : Nat) (W0 : World) (hB : B ≤ W0.heap.size) (hs : s.size ≤ maxLen) : ∃ T : ByteArray, Hid (∀ W', Below B W0 W' → Calls Tryd.prog 23 #[.string s, .string { data := #[97, 98, 99, 100, 101, 102, 103, 104, 105, 106, 107, 108, 109, 110, 111, 112, 113, 114, 115, 116, 117, 118, 119, 120, 121, 122, 48, 49, 50, 51, 52, 53, 54, 55, 56, 57] }] W' (fun e w' => e = .returned (.string T) ∧ Below B W0 w')) ∧ (T.toList = [] ↔ s.data.toList.all okB = true) := by
  refine ⟨⟨(Lib.trimS s.data.toList letters).toArray⟩, Lib.hid (fun W' h => ?_), ?_⟩
  · exact (Any.strings_Trim_laid trimL (by kernel_rfl) s ⟨letters.toArray⟩ W' (by unfold maxLen at hs; omega) (by decide) (ascii_of_all (by decide))).mono (fun e w' he => ⟨he.1, h.trans (he.2.mono (Nat.le_trans hB h.size))⟩)
  · rw [Lib.toList_data]
    exact trim_empty _
theorem row_cell {w : World} {b i : Nat} {xs : List Value} {v : Value} (h : Row w (some ⟨b, 0, none⟩) xs) (hi : xs[i]? = some v) : w.cell? ⟨b, i, none⟩ = some v := by
  obtain ⟨hlt, hv⟩ := List.getElem?_eq_some_iff.1 hi
  obtain ⟨b', o', e, hc, _⟩ := h.at_ hlt
  injection e with e
  injection e with e1 e2
  subst e1 e2
  rw [Nat.zero_add, hv] at hc
  exact hc
def FmLoop (l : List Ent) (w : World) (iv : Value) (wr : World) : Prop := ∃ k : Nat, iv = .int .i64 (k : Int) ∧ k ≤ l.length ∧ (∀ j, j < k → okAt l j = true) ∧ Below w.heap.size w wr
set_option maxRecDepth 100000 in
set_option maxHeartbeats 8000000 in
theorem formed_any (l : List Ent) (a : Option Addr) (n c : Nat) (w : World) (hr : Row w a (flatM l)) (hn : l.length = n) (hl : n < 1000000) (hsz : ∀ j (hj : j < l.length), l[j].name.size ≤ maxLen) :
    Calls Tryd.prog 9 #[.slice a n c] w (fun e w' => e = .returned (.bool (formedM l)) ∧ Below w.heap.size w w') := by
  subst hn
  go_enter Tryd.func9, Tryd.ntmps9
  go_wp2_with fail
  go_loopw [7] (fun iv wr => FmLoop l w iv wr) (fun iv _ => l.length - (intOf iv).toNat)
  case atStart => exact ⟨0, rfl, Nat.zero_le _, fun j h => absurd h (Nat.not_lt_zero _), Below.refl _ _⟩
  case round =>
    obtain ⟨k, rfl, hk, hall, hb⟩ := hrel
    have HALL := Lib.hid hall
    clear hall
    have hz := hb.size
    by_cases hlt : k < l.length
    · have hlt2 : (k : Int) < (l.length : Int) := by omega
      have i0 : (0 : Int) ≤ (k : Int) := by omega
      have hrb := hr.below hb
      obtain ⟨b, o, rfl, hbl, e0, e1, e2, e3, e4⟩ := ent_at hrb hlt
      have HB := Lib.hid hb
      have hs := hsz k hlt
      have HOKE := Lib.hid (fun h : okEnt l[k] = false => okAt_ent hlt h)
      have HFB := Lib.hid (fun h : okAt l k = false => formed_bad hlt h)
      have HGO := Lib.hid (fun (h : okAt l k = true) (j : Nat) (hj : j < k + 1) => (if e : j = k then e ▸ h else HALL.out j (by omega) : okAt l j = true))
      have HFIRST := Lib.hid (show k = 0 → okEnt l[k] = true → okAt l k = true from fun h h2 => by subst h; exact okAt_first hlt h2)
      have HPR := Lib.hid (show 0 < k → ∃ (j : Nat) (q : ByteArray), wr.cell? ⟨b, o + j * 5, none⟩ = some (.string q) ∧ (okEnt l[k] = true → okAt l k = Op.bytesLess q.toList l[k].name.toList) ∧ j < l.length ∧ k = j + 1 from fun h => by
        obtain ⟨j, rfl⟩ : ∃ j, k = j + 1 := ⟨k - 1, by omega⟩
        obtain ⟨b2, o2, e, _, f0, _⟩ := ent_at hrb (show j < l.length by omega)
        injection e with e
        injection e with e1 e2
        subst e1 e2
        exact ⟨j, _, f0, okAt_next hlt, by omega, rfl⟩)
      have HM := Lib.hid (And.intro hk hlt)
      generalize l[k] = p at *
      obtain ⟨s, f, bb, ww, cc⟩ := p
      simp only at e0 e1 e2 e3 e4 hs
      clear hr hrb hb hk hlt hsz
      go_wp2_with fail
      have hcell0 := Row.new wr #[.string s, .int .i64 f, .int .i64 bb, .int .i64 ww, .int .i64 cc] 54 (0, 0)
      have hsize0 : (wr.alloc (.cells #[.string s, .int .i64 f, .int .i64 bb, .int .i64 ww, .int .i64 cc] 54)).heap.size = wr.heap.size + 1 := by simp
      have HB0 := Lib.hid (HB.out.alloc hz (.cells #[.string s, .int .i64 f, .int .i64 bb, .int .i64 ww, .int .i64 cc] 54))
      have hb00 : Below wr.heap.size wr (wr.alloc (.cells #[.string s, .int .i64 f, .int .i64 bb, .int .i64 ww, .int .i64 cc] 54)) := (Below.refl _ _).alloc (Nat.le_refl _) _
      generalize wr.alloc (.cells #[.string s, .int .i64 f, .int .i64 bb, .int .i64 ww, .int .i64 cc] 54) = W0 at *
      have hB1 : wr.heap.size + 1 ≤ W0.heap.size := by omega
      have CELL := Lib.hid (fun W' (h : Below (wr.heap.size + 1) W0 W') => (by
        have hc := hcell0.below (hsize0 ▸ h)
        exact ⟨row_cell hc rfl, row_cell hc rfl, row_cell hc rfl, row_cell hc rfl, row_cell hc rfl⟩ : W'.cell? ⟨wr.heap.size, 0, none⟩ = some (.string s) ∧ W'.cell? ⟨wr.heap.size, 1, none⟩ = some (.int .i64 f) ∧ W'.cell? ⟨wr.heap.size, 2, none⟩ = some (.int .i64 bb) ∧ W'.cell? ⟨wr.heap.size, 3, none⟩ = some (.int .i64 ww) ∧ W'.cell? ⟨wr.heap.size, 4, none⟩ = some (.int .i64 cc)))
      have HPREV := Lib.hid (show 0 < k → ∃ (j : Nat) (q : ByteArray), Hid (∀ W', Below (wr.heap.size + 1) W0 W' → W'.cell? ⟨b, o + j * 5, none⟩ = some (.string q)) ∧ Hid (okEnt ⟨s, f, bb, ww, cc⟩ = true → okAt l k = Op.bytesLess q.toList s.toList) ∧ (0 : Int) ≤ (j : Int) ∧ (j : Int) < (l.length : Int) ∧ IntKind.i64.wrap ((k : Int) - 1) = (j : Int) from fun h => by
        obtain ⟨j, q, f0, f1, f2, f3⟩ := HPR.out h
        refine ⟨j, q, Lib.hid (fun W' hW => ?_), Lib.hid f1, by omega, by omega, by rw [IntKind.wrap_i64]; omega⟩
        rw [hW.cell (show b < wr.heap.size + 1 by omega), hb00.cell hbl]
        exact f0)
      have HSZ := Lib.hid (show s.size < 1 ∨ 8 < s.size → okEnt ⟨s, f, bb, ww, cc⟩ = false from fun h => okEnt_name (okName_sz h))
      have HNAME := Lib.hid (show 1 ≤ s.size → s.size ≤ 8 → s.data.toList.all okB = true → okName s.data.toList = true from okName_yes)
      have HNAMEN := Lib.hid (show ¬ s.data.toList.all okB = true → okEnt ⟨s, f, bb, ww, cc⟩ = false from fun h => okEnt_name (okName_all h))
      have HENT := Lib.hid (show okName s.data.toList = true → [f, bb, ww, cc].all okNum = true → okEnt ⟨s, f, bb, ww, cc⟩ = true from okEnt_yes)
      have HENTN := Lib.hid (show [f, bb, ww, cc].all okNum = false → okEnt ⟨s, f, bb, ww, cc⟩ = false from okEnt_num)
      have HTRIM := Lib.hid (trim_told s (wr.heap.size + 1) W0 hB1 hs)
      have hd0 : Below (wr.heap.size + 1) W0 W0.drew := (Below.refl _ _).drew
      clear hcell0 hsize0 hb00 e0 e1 e2 e3 e4 HPR hbl hs
      by_cases c1 : (s.size : Int) < 1
      · have HBAD := Lib.hid (HFB.out (HOKE.out (HSZ.out (by omega))))
        refine mx_begin (fun w' => Below (wr.heap.size + 1) W0 w') [(true, 0), (true, 1), (true, 2), (true, 3), (true, 4), (true, 5), (true, 6), (true, 7), (true, 8), (true, 9), (true, 10), (true, 11), (true, 12), (false, 13), (true, 14), (true, 15), (true, 16), (true, 17), (true, 18), (true, 19), (true, 20), (true, 21), (true, 22), (true, 23), (true, 24), (false, 25), (false, 26), (true, 27), (true, 28), (true, 29), (true, 30), (true, 31), (true, 32), (true, 33), (true, 34), (true, 35), (true, 36), (true, 37), (true, 38), (true, 39), (true, 40), (true, 41), (true, 42), (false, 43)] (by kernel_rfl) (by kernel_rfl) (fun _ _ d _ _ h => by cases d <;> exact h) hd0 ?_
        refine mx_read _ (.pointer (some ⟨wr.heap.size, 0, none⟩)) rfl (by kernel_rfl) (fun w' hF => by simp [execOp, Act.eval, go_sem]) ?_
        refine mx_read _ (.string s) rfl (by kernel_rfl) (fun w' hF => by obtain ⟨u0, u1, u2, u3, u4⟩ := CELL.out _ hF; simp [execOp, Act.eval, go_sem, u0]) ?_
        refine mx_read _ (.int .i64 (s.size : Int)) rfl (by kernel_rfl) (fun w' hF => by simp [execOp, Act.eval, go_sem]) ?_
        refine mx_read _ (.bool true) rfl (by kernel_rfl) (fun w' hF => by simp [execOp, Act.eval, go_sem, c1]) ?_
        refine mx_read _ (.bool true) rfl (by kernel_rfl) (fun w' hF => by simp [execOp, Act.eval, go_sem]) ?_
        refine mx_skip _ rfl (by kernel_rfl) ?_
        refine mx_skip _ rfl (by kernel_rfl) ?_
        refine mx_skip _ rfl (by kernel_rfl) ?_
        refine mx_skip _ rfl (by kernel_rfl) ?_
        refine mx_read _ (.bool true) rfl (by kernel_rfl) (fun w' hF => by simp [execOp, Act.eval, go_sem]) ?_
        refine mx_read _ (.bool true) rfl (by kernel_rfl) (fun w' hF => by simp [execOp, Act.eval, go_sem]) ?_
        refine mx_skip _ rfl (by kernel_rfl) ?_
        refine mx_skip _ rfl (by kernel_rfl) ?_
        refine mx_one_skip _ rfl hd0 (by kernel_rfl) ?_
        refine mx_skip _ rfl (by kernel_rfl) ?_
        refine mx_read _ (.bool true) rfl (by kernel_rfl) (fun w' hF => by simp [execOp, Act.eval, go_sem]) ?_
        refine mx_read _ (.bool true) rfl (by kernel_rfl) (fun w' hF => by simp [execOp, Act.eval, go_sem]) ?_
        refine mx_skip _ rfl (by kernel_rfl) ?_
        refine mx_skip _ rfl (by kernel_rfl) ?_
        refine mx_skip _ rfl (by kernel_rfl) ?_
        refine mx_skip _ rfl (by kernel_rfl) ?_
        refine mx_skip _ rfl (by kernel_rfl) ?_
        refine mx_skip _ rfl (by kernel_rfl) ?_
        refine mx_skip _ rfl (by kernel_rfl) ?_
        refine mx_skip _ rfl (by kernel_rfl) ?_
        refine mx_one_skip _ rfl hd0 (by kernel_rfl) ?_
        refine mx_one_skip _ rfl hd0 (by kernel_rfl) ?_
        refine mx_skip _ rfl (by kernel_rfl) ?_
        refine mx_read _ (.bool true) rfl (by kernel_rfl) (fun w' hF => by simp [execOp, Act.eval, go_sem]) ?_
        refine mx_read _ (.bool true) rfl (by kernel_rfl) (fun w' hF => by simp [execOp, Act.eval, go_sem]) ?_
        refine mx_skip _ rfl (by kernel_rfl) ?_
        refine mx_skip _ rfl (by kernel_rfl) ?_
        refine mx_skip _ rfl (by kernel_rfl) ?_
        refine mx_skip _ rfl (by kernel_rfl) ?_
        refine mx_skip _ rfl (by kernel_rfl) ?_
        refine mx_skip _ rfl (by kernel_rfl) ?_
        refine mx_skip _ rfl (by kernel_rfl) ?_
        refine mx_skip _ rfl (by kernel_rfl) ?_
        refine mx_skip _ rfl (by kernel_rfl) ?_
        refine mx_skip _ rfl (by kernel_rfl) ?_
        refine mx_skip _ rfl (by kernel_rfl) ?_
        refine mx_skip _ rfl (by kernel_rfl) ?_
        refine mx_skip _ rfl (by kernel_rfl) ?_
        refine mx_one _ rfl (by kernel_rfl) (fun K8 hK8 => ?_)
        go_simp
        refine hK8.out _ _ (fun h => absurd rfl h) ?_
        clear hK8 K8
        refine mx_end ?_
        go_wp2_with fail
        go_ret
        exact ⟨by rw [HBAD.out]; rfl, HB0.out.trans (hd0.mono (by omega))⟩
      · by_cases c2 : 8 < (s.size : Int)
        · have HBAD := Lib.hid (HFB.out (HOKE.out (HSZ.out (by omega))))
          refine mx_begin (fun w' => Below (wr.heap.size + 1) W0 w') [(true, 0), (true, 1), (true, 2), (true, 3), (true, 4), (true, 5), (true, 6), (true, 7), (true, 8), (true, 9), (true, 10), (true, 11), (true, 12), (false, 13), (true, 14), (true, 15), (true, 16), (true, 17), (true, 18), (true, 19), (true, 20), (true, 21), (true, 22), (true, 23), (true, 24), (false, 25), (false, 26), (true, 27), (true, 28), (true, 29), (true, 30), (true, 31), (true, 32), (true, 33), (true, 34), (true, 35), (true, 36), (true, 37), (true, 38), (true, 39), (true, 40), (true, 41), (true, 42), (false, 43)] (by kernel_rfl) (by kernel_rfl) (fun _ _ d _ _ h => by cases d <;> exact h) hd0 ?_
          refine mx_read _ (.pointer (some ⟨wr.heap.size, 0, none⟩)) rfl (by kernel_rfl) (fun w' hF => by simp [execOp, Act.eval, go_sem]) ?_
          refine mx_read _ (.string s) rfl (by kernel_rfl) (fun w' hF => by obtain ⟨u0, u1, u2, u3, u4⟩ := CELL.out _ hF; simp [execOp, Act.eval, go_sem, u0]) ?_
          refine mx_read _ (.int .i64 (s.size : Int)) rfl (by kernel_rfl) (fun w' hF => by simp [execOp, Act.eval, go_sem]) ?_
          refine mx_read _ (.bool false) rfl (by kernel_rfl) (fun w' hF => by simp [execOp, Act.eval, go_sem, c1]) ?_
          refine mx_read _ (.bool false) rfl (by kernel_rfl) (fun w' hF => by simp [execOp, Act.eval, go_sem]) ?_
          refine mx_read _ (.pointer (some ⟨wr.heap.size, 0, none⟩)) rfl (by kernel_rfl) (fun w' hF => by simp [execOp, Act.eval, go_sem]) ?_
          refine mx_read _ (.string s) rfl (by kernel_rfl) (fun w' hF => by obtain ⟨u0, u1, u2, u3, u4⟩ := CELL.out _ hF; simp [execOp, Act.eval, go_sem, u0]) ?_
          refine mx_read _ (.int .i64 (s.size : Int)) rfl (by kernel_rfl) (fun w' hF => by simp [execOp, Act.eval, go_sem]) ?_
          refine mx_read _ (.bool true) rfl (by kernel_rfl) (fun w' hF => by simp [execOp, Act.eval, go_sem, c2]) ?_
          refine mx_read _ (.bool true) rfl (by kernel_rfl) (fun w' hF => by simp [execOp, Act.eval, go_sem]) ?_
          refine mx_read _ (.bool true) rfl (by kernel_rfl) (fun w' hF => by simp [execOp, Act.eval, go_sem]) ?_
          refine mx_skip _ rfl (by kernel_rfl) ?_
          refine mx_skip _ rfl (by kernel_rfl) ?_
          refine mx_one_skip _ rfl hd0 (by kernel_rfl) ?_
          refine mx_skip _ rfl (by kernel_rfl) ?_
          refine mx_read _ (.bool true) rfl (by kernel_rfl) (fun w' hF => by simp [execOp, Act.eval, go_sem]) ?_
          refine mx_read _ (.bool true) rfl (by kernel_rfl) (fun w' hF => by simp [execOp, Act.eval, go_sem]) ?_
          refine mx_skip _ rfl (by kernel_rfl) ?_
          refine mx_skip _ rfl (by kernel_rfl) ?_
          refine mx_skip _ rfl (by kernel_rfl) ?_
          refine mx_skip _ rfl (by kernel_rfl) ?_
          refine mx_skip _ rfl (by kernel_rfl) ?_
          refine mx_skip _ rfl (by kernel_rfl) ?_
          refine mx_skip _ rfl (by kernel_rfl) ?_
          refine mx_skip _ rfl (by kernel_rfl) ?_
          refine mx_one_skip _ rfl hd0 (by kernel_rfl) ?_
          refine mx_one_skip _ rfl hd0 (by kernel_rfl) ?_
          refine mx_skip _ rfl (by kernel_rfl) ?_
          refine mx_read _ (.bool true) rfl (by kernel_rfl) (fun w' hF => by simp [execOp, Act.eval, go_sem]) ?_
          refine mx_read _ (.bool true) rfl (by kernel_rfl) (fun w' hF => by simp [execOp, Act.eval, go_sem]) ?_
          refine mx_skip _ rfl (by kernel_rfl) ?_
          refine mx_skip _ rfl (by kernel_rfl) ?_
          refine mx_skip _ rfl (by kernel_rfl) ?_
          refine mx_skip _ rfl (by kernel_rfl) ?_
          refine mx_skip _ rfl (by kernel_rfl) ?_
          refine mx_skip _ rfl (by kernel_rfl) ?_
          refine mx_skip _ rfl (by kernel_rfl) ?_
          refine mx_skip _ rfl (by kernel_rfl) ?_
          refine mx_skip _ rfl (by kernel_rfl) ?_
          refine mx_skip _ rfl (by kernel_rfl) ?_
          refine mx_skip _ rfl (by kernel_rfl) ?_
          refine mx_skip _ rfl (by kernel_rfl) ?_
          refine mx_skip _ rfl (by kernel_rfl) ?_
          refine mx_one _ rfl (by kernel_rfl) (fun K8 hK8 => ?_)
          go_simp
          refine hK8.out _ _ (fun h => absurd rfl h) ?_
          clear hK8 K8
          refine mx_end ?_
          go_wp2_with fail
          go_ret
          exact ⟨by rw [HBAD.out]; rfl, HB0.out.trans (hd0.mono (by omega))⟩
        · obtain ⟨T, TRIM, hT⟩ := HTRIM.out
          have HSN := Lib.hid (show s.data.toList.all okB = true → okName s.data.toList = true from HNAME.out (by omega) (by omega))
          by_cases c3 : T.toList = []
          · have HN1 := Lib.hid (HSN.out (hT.1 c3))
            have c3b : (T.toList == []) = true := by simp [c3]
            clear hT
            by_cases c4 : [f, bb, ww, cc].all okNum = true
            · have HE1 := Lib.hid (HENT.out HN1.out c4)
              by_cases k0 : 0 < k
              · obtain ⟨j, q, CELLQ, HOK, j0, jlt, cj⟩ := HPREV.out (by omega)
                have HOK2 := Lib.hid (HOK.out HE1.out)
                clear HOK
                by_cases c6 : Op.bytesLess q.toList s.toList = true
                · have HGOOD := Lib.hid (HGO.out (by rw [HOK2.out]; exact c6))
                  refine mx_begin (fun w' => Below (wr.heap.size + 1) W0 w') [(true, 0), (true, 1), (true, 2), (true, 3), (true, 4), (true, 5), (true, 6), (true, 7), (true, 8), (true, 9), (true, 10), (true, 11), (true, 12), (false, 13), (true, 14), (true, 15), (true, 16), (true, 17), (true, 18), (true, 19), (true, 20), (true, 21), (true, 22), (true, 23), (true, 24), (false, 25), (false, 26), (true, 27), (true, 28), (true, 29), (true, 30), (true, 31), (true, 32), (true, 33), (true, 34), (true, 35), (true, 36), (true, 37), (true, 38), (true, 39), (true, 40), (true, 41), (true, 42), (false, 43)] (by kernel_rfl) (by kernel_rfl) (fun _ _ d _ _ h => by cases d <;> exact h) hd0 ?_
                  refine mx_read _ (.pointer (some ⟨wr.heap.size, 0, none⟩)) rfl (by kernel_rfl) (fun w' hF => by simp [execOp, Act.eval, go_sem]) ?_
                  refine mx_read _ (.string s) rfl (by kernel_rfl) (fun w' hF => by obtain ⟨u0, u1, u2, u3, u4⟩ := CELL.out _ hF; simp [execOp, Act.eval, go_sem, u0]) ?_
                  refine mx_read _ (.int .i64 (s.size : Int)) rfl (by kernel_rfl) (fun w' hF => by simp [execOp, Act.eval, go_sem]) ?_
                  refine mx_read _ (.bool false) rfl (by kernel_rfl) (fun w' hF => by simp [execOp, Act.eval, go_sem, c1]) ?_
                  refine mx_read _ (.bool false) rfl (by kernel_rfl) (fun w' hF => by simp [execOp, Act.eval, go_sem]) ?_
                  refine mx_read _ (.pointer (some ⟨wr.heap.size, 0, none⟩)) rfl (by kernel_rfl) (fun w' hF => by simp [execOp, Act.eval, go_sem]) ?_
                  refine mx_read _ (.string s) rfl (by kernel_rfl) (fun w' hF => by obtain ⟨u0, u1, u2, u3, u4⟩ := CELL.out _ hF; simp [execOp, Act.eval, go_sem, u0]) ?_
                  refine mx_read _ (.int .i64 (s.size : Int)) rfl (by kernel_rfl) (fun w' hF => by simp [execOp, Act.eval, go_sem]) ?_
                  refine mx_read _ (.bool false) rfl (by kernel_rfl) (fun w' hF => by simp [execOp, Act.eval, go_sem, c2]) ?_
                  refine mx_read _ (.bool false) rfl (by kernel_rfl) (fun w' hF => by simp [execOp, Act.eval, go_sem]) ?_
                  refine mx_read _ (.bool false) rfl (by kernel_rfl) (fun w' hF => by simp [execOp, Act.eval, go_sem]) ?_
                  refine mx_read _ (.pointer (some ⟨wr.heap.size, 0, none⟩)) rfl (by kernel_rfl) (fun w' hF => by simp [execOp, Act.eval, go_sem]) ?_
                  refine mx_read _ (.string s) rfl (by kernel_rfl) (fun w' hF => by obtain ⟨u0, u1, u2, u3, u4⟩ := CELL.out _ hF; simp [execOp, Act.eval, go_sem, u0]) ?_
                  refine mx_one _ rfl (by kernel_rfl) (fun K8 hK8 => ?_)
                  go_simp
                  refine (TRIM.out _ hd0).mono ?_
                  rintro e wt ⟨rfl, hd1⟩
                  refine hK8.out _ _ (fun _ => hd1) ?_
                  clear hK8 K8
                  refine mx_read _ (.bool false) rfl (by kernel_rfl) (fun w' hF => by simp [execOp, Act.eval, go_sem, c3b, nil_list]) ?_
                  refine mx_read _ (.bool false) rfl (by kernel_rfl) (fun w' hF => by simp [execOp, Act.eval, go_sem]) ?_
                  refine mx_read _ (.bool false) rfl (by kernel_rfl) (fun w' hF => by simp [execOp, Act.eval, go_sem]) ?_
                  refine mx_read _ (.pointer (some ⟨wr.heap.size, 1, none⟩)) rfl (by kernel_rfl) (fun w' hF => by simp [execOp, Act.eval, go_sem]) ?_
                  refine mx_read _ (.int .i64 f) rfl (by kernel_rfl) (fun w' hF => by obtain ⟨u0, u1, u2, u3, u4⟩ := CELL.out _ hF; simp [execOp, Act.eval, go_sem, u1]) ?_
                  refine mx_read _ (.pointer (some ⟨wr.heap.size, 2, none⟩)) rfl (by kernel_rfl) (fun w' hF => by simp [execOp, Act.eval, go_sem]) ?_
                  refine mx_read _ (.int .i64 bb) rfl (by kernel_rfl) (fun w' hF => by obtain ⟨u0, u1, u2, u3, u4⟩ := CELL.out _ hF; simp [execOp, Act.eval, go_sem, u2]) ?_
                  refine mx_read _ (.pointer (some ⟨wr.heap.size, 3, none⟩)) rfl (by kernel_rfl) (fun w' hF => by simp [execOp, Act.eval, go_sem]) ?_
                  refine mx_read _ (.int .i64 ww) rfl (by kernel_rfl) (fun w' hF => by obtain ⟨u0, u1, u2, u3, u4⟩ := CELL.out _ hF; simp [execOp, Act.eval, go_sem, u3]) ?_
                  refine mx_read _ (.pointer (some ⟨wr.heap.size, 4, none⟩)) rfl (by kernel_rfl) (fun w' hF => by simp [execOp, Act.eval, go_sem]) ?_
                  refine mx_read _ (.int .i64 cc) rfl (by kernel_rfl) (fun w' hF => by obtain ⟨u0, u1, u2, u3, u4⟩ := CELL.out _ hF; simp [execOp, Act.eval, go_sem, u4]) ?_
                  refine mx_one _ rfl (by kernel_rfl) (fun K8 hK8 => ?_)
                  go_simp
                  have hd2 := hd1.alloc (Nat.le_trans hB1 hd1.size) (.cells #[.int .i64 f, .int .i64 bb, .int .i64 ww, .int .i64 cc] 3)
                  have hrow := Row.new wt #[.int .i64 f, .int .i64 bb, .int .i64 ww, .int .i64 cc] 3 (0, 0)
                  refine hK8.out _ _ (fun _ => hd2) ?_
                  clear hK8 K8
                  refine mx_one _ rfl (by kernel_rfl) (fun K8 hK8 => ?_)
                  go_simp
                  refine (numbers_any [f, bb, ww, cc] _ 4 4 _ hrow rfl (by omega)).mono ?_
                  rintro e wn ⟨rfl, rfl⟩
                  refine hK8.out _ _ (fun _ => hd2) ?_
                  clear hK8 K8
                  refine mx_read _ (.bool false) rfl (by kernel_rfl) (fun w' hF => by simp [execOp, Act.eval, go_sem, c4]) ?_
                  refine mx_read _ (.bool false) rfl (by kernel_rfl) (fun w' hF => by simp [execOp, Act.eval, go_sem]) ?_
                  refine mx_read _ (.bool false) rfl (by kernel_rfl) (fun w' hF => by simp [execOp, Act.eval, go_sem]) ?_
                  refine mx_read _ (.int .i64 (k : Int)) rfl (by kernel_rfl) (fun w' hF => by simp [execOp, Act.eval, go_sem]) ?_
                  refine mx_read _ (.bool true) rfl (by kernel_rfl) (fun w' hF => by simp [execOp, Act.eval, go_sem, k0]) ?_
                  refine mx_read _ (.bool true) rfl (by kernel_rfl) (fun w' hF => by simp [execOp, Act.eval, go_sem]) ?_
                  refine mx_read _ (.slice (some ⟨b, o, none⟩) l.length c) rfl (by kernel_rfl) (fun w' hF => by simp [execOp, Act.eval, go_sem]) ?_
                  refine mx_read _ (.int .i64 (k : Int)) rfl (by kernel_rfl) (fun w' hF => by simp [execOp, Act.eval, go_sem]) ?_
                  refine mx_read _ (.int .i64 (j : Int)) rfl (by kernel_rfl) (fun w' hF => by simp [execOp, Act.eval, go_sem, cj]) ?_
                  refine mx_read _ (.pointer (some ⟨b, o + j * 5, none⟩)) rfl (by kernel_rfl) (fun w' hF => by simp [execOp, Act.eval, go_sem, j0, jlt]) ?_
                  refine mx_read _ (.pointer (some ⟨b, o + j * 5, none⟩)) rfl (by kernel_rfl) (fun w' hF => by simp [execOp, Act.eval, go_sem]) ?_
                  refine mx_read _ (.string q) rfl (by kernel_rfl) (fun w' hF => by have u5 := CELLQ.out _ hF; simp [execOp, Act.eval, go_sem, u5]) ?_
                  refine mx_read _ (.pointer (some ⟨wr.heap.size, 0, none⟩)) rfl (by kernel_rfl) (fun w' hF => by simp [execOp, Act.eval, go_sem]) ?_
                  refine mx_read _ (.string s) rfl (by kernel_rfl) (fun w' hF => by obtain ⟨u0, u1, u2, u3, u4⟩ := CELL.out _ hF; simp [execOp, Act.eval, go_sem, u0]) ?_
                  refine mx_read _ (.bool false) rfl (by kernel_rfl) (fun w' hF => by simp [execOp, Act.eval, go_sem, c6]) ?_
                  refine mx_read _ (.bool false) rfl (by kernel_rfl) (fun w' hF => by simp [execOp, Act.eval, go_sem]) ?_
                  refine mx_one _ rfl (by kernel_rfl) (fun K8 hK8 => ?_)
                  go_simp
                  refine hK8.out _ _ (fun h => absurd rfl h) ?_
                  clear hK8 K8
                  refine mx_end ?_
                  go_wp2_with fail
                  go_roundw
                  case rel => exact ⟨_, by go_num, HM.out.2, HGOOD.out, HB0.out.trans (hd2.mono (by omega))⟩
                  case measure => have := HM.out.2; simp [intOf]; omega
                · have HBAD := Lib.hid (HFB.out (by rw [HOK2.out]; simpa using c6))
                  refine mx_begin (fun w' => Below (wr.heap.size + 1) W0 w') [(true, 0), (true, 1), (true, 2), (true, 3), (true, 4), (true, 5), (true, 6), (true, 7), (true, 8), (true, 9), (true, 10), (true, 11), (true, 12), (false, 13), (true, 14), (true, 15), (true, 16), (true, 17), (true, 18), (true, 19), (true, 20), (true, 21), (true, 22), (true, 23), (true, 24), (false, 25), (false, 26), (true, 27), (true, 28), (true, 29), (true, 30), (true, 31), (true, 32), (true, 33), (true, 34), (true, 35), (true, 36), (true, 37), (true, 38), (true, 39), (true, 40), (true, 41), (true, 42), (false, 43)] (by kernel_rfl) (by kernel_rfl) (fun _ _ d _ _ h => by cases d <;> exact h) hd0 ?_
                  refine mx_read _ (.pointer (some ⟨wr.heap.size, 0, none⟩)) rfl (by kernel_rfl) (fun w' hF => by simp [execOp, Act.eval, go_sem]) ?_
                  refine mx_read _ (.string s) rfl (by kernel_rfl) (fun w' hF => by obtain ⟨u0, u1, u2, u3, u4⟩ := CELL.out _ hF; simp [execOp, Act.eval, go_sem, u0]) ?_
                  refine mx_read _ (.int .i64 (s.size : Int)) rfl (by kernel_rfl) (fun w' hF => by simp [execOp, Act.eval, go_sem]) ?_
                  refine mx_read _ (.bool false) rfl (by kernel_rfl) (fun w' hF => by simp [execOp, Act.eval, go_sem, c1]) ?_
                  refine mx_read _ (.bool false) rfl (by kernel_rfl) (fun w' hF => by simp [execOp, Act.eval, go_sem]) ?_
                  refine mx_read _ (.pointer (some ⟨wr.heap.size, 0, none⟩)) rfl (by kernel_rfl) (fun w' hF => by simp [execOp, Act.eval, go_sem]) ?_
                  refine mx_read _ (.string s) rfl (by kernel_rfl) (fun w' hF => by obtain ⟨u0, u1, u2, u3, u4⟩ := CELL.out _ hF; simp [execOp, Act.eval, go_sem, u0]) ?_
                  refine mx_read _ (.int .i64 (s.size : Int)) rfl (by kernel_rfl) (fun w' hF => by simp [execOp, Act.eval, go_sem]) ?_
                  refine mx_read _ (.bool false) rfl (by kernel_rfl) (fun w' hF => by simp [execOp, Act.eval, go_sem, c2]) ?_
                  refine mx_read _ (.bool false) rfl (by kernel_rfl) (fun w' hF => by simp [execOp, Act.eval, go_sem]) ?_
                  refine mx_read _ (.bool false) rfl (by kernel_rfl) (fun w' hF => by simp [execOp, Act.eval, go_sem]) ?_
                  refine mx_read _ (.pointer (some ⟨wr.heap.size, 0, none⟩)) rfl (by kernel_rfl) (fun w' hF => by simp [execOp, Act.eval, go_sem]) ?_
                  refine mx_read _ (.string s) rfl (by kernel_rfl) (fun w' hF => by obtain ⟨u0, u1, u2, u3, u4⟩ := CELL.out _ hF; simp [execOp, Act.eval, go_sem, u0]) ?_
                  refine mx_one _ rfl (by kernel_rfl) (fun K8 hK8 => ?_)
                  go_simp
                  refine (TRIM.out _ hd0).mono ?_
                  rintro e wt ⟨rfl, hd1⟩
                  refine hK8.out _ _ (fun _ => hd1) ?_
                  clear hK8 K8
                  refine mx_read _ (.bool false) rfl (by kernel_rfl) (fun w' hF => by simp [execOp, Act.eval, go_sem, c3b, nil_list]) ?_
                  refine mx_read _ (.bool false) rfl (by kernel_rfl) (fun w' hF => by simp [execOp, Act.eval, go_sem]) ?_
                  refine mx_read _ (.bool false) rfl (by kernel_rfl) (fun w' hF => by simp [execOp, Act.eval, go_sem]) ?_
                  refine mx_read _ (.pointer (some ⟨wr.heap.size, 1, none⟩)) rfl (by kernel_rfl) (fun w' hF => by simp [execOp, Act.eval, go_sem]) ?_
                  refine mx_read _ (.int .i64 f) rfl (by kernel_rfl) (fun w' hF => by obtain ⟨u0, u1, u2, u3, u4⟩ := CELL.out _ hF; simp [execOp, Act.eval, go_sem, u1]) ?_
                  refine mx_read _ (.pointer (some ⟨wr.heap.size, 2, none⟩)) rfl (by kernel_rfl) (fun w' hF => by simp [execOp, Act.eval, go_sem]) ?_
                  refine mx_read _ (.int .i64 bb) rfl (by kernel_rfl) (fun w' hF => by obtain ⟨u0, u1, u2, u3, u4⟩ := CELL.out _ hF; simp [execOp, Act.eval, go_sem, u2]) ?_
                  refine mx_read _ (.pointer (some ⟨wr.heap.size, 3, none⟩)) rfl (by kernel_rfl) (fun w' hF => by simp [execOp, Act.eval, go_sem]) ?_
                  refine mx_read _ (.int .i64 ww) rfl (by kernel_rfl) (fun w' hF => by obtain ⟨u0, u1, u2, u3, u4⟩ := CELL.out _ hF; simp [execOp, Act.eval, go_sem, u3]) ?_
                  refine mx_read _ (.pointer (some ⟨wr.heap.size, 4, none⟩)) rfl (by kernel_rfl) (fun w' hF => by simp [execOp, Act.eval, go_sem]) ?_
                  refine mx_read _ (.int .i64 cc) rfl (by kernel_rfl) (fun w' hF => by obtain ⟨u0, u1, u2, u3, u4⟩ := CELL.out _ hF; simp [execOp, Act.eval, go_sem, u4]) ?_
                  refine mx_one _ rfl (by kernel_rfl) (fun K8 hK8 => ?_)
                  go_simp
                  have hd2 := hd1.alloc (Nat.le_trans hB1 hd1.size) (.cells #[.int .i64 f, .int .i64 bb, .int .i64 ww, .int .i64 cc] 3)
                  have hrow := Row.new wt #[.int .i64 f, .int .i64 bb, .int .i64 ww, .int .i64 cc] 3 (0, 0)
                  refine hK8.out _ _ (fun _ => hd2) ?_
                  clear hK8 K8
                  refine mx_one _ rfl (by kernel_rfl) (fun K8 hK8 => ?_)
                  go_simp
                  refine (numbers_any [f, bb, ww, cc] _ 4 4 _ hrow rfl (by omega)).mono ?_
                  rintro e wn ⟨rfl, rfl⟩
                  refine hK8.out _ _ (fun _ => hd2) ?_
                  clear hK8 K8
                  refine mx_read _ (.bool false) rfl (by kernel_rfl) (fun w' hF => by simp [execOp, Act.eval, go_sem, c4]) ?_
                  refine mx_read _ (.bool false) rfl (by kernel_rfl) (fun w' hF => by simp [execOp, Act.eval, go_sem]) ?_
                  refine mx_read _ (.bool false) rfl (by kernel_rfl) (fun w' hF => by simp [execOp, Act.eval, go_sem]) ?_
                  refine mx_read _ (.int .i64 (k : Int)) rfl (by kernel_rfl) (fun w' hF => by simp [execOp, Act.eval, go_sem]) ?_
                  refine mx_read _ (.bool true) rfl (by kernel_rfl) (fun w' hF => by simp [execOp, Act.eval, go_sem, k0]) ?_
                  refine mx_read _ (.bool true) rfl (by kernel_rfl) (fun w' hF => by simp [execOp, Act.eval, go_sem]) ?_
                  refine mx_read _ (.slice (some ⟨b, o, none⟩) l.length c) rfl (by kernel_rfl) (fun w' hF => by simp [execOp, Act.eval, go_sem]) ?_
                  refine mx_read _ (.int .i64 (k : Int)) rfl (by kernel_rfl) (fun w' hF => by simp [execOp, Act.eval, go_sem]) ?_
                  refine mx_read _ (.int .i64 (j : Int)) rfl (by kernel_rfl) (fun w' hF => by simp [execOp, Act.eval, go_sem, cj]) ?_
                  refine mx_read _ (.pointer (some ⟨b, o + j * 5, none⟩)) rfl (by kernel_rfl) (fun w' hF => by simp [execOp, Act.eval, go_sem, j0, jlt]) ?_
                  refine mx_read _ (.pointer (some ⟨b, o + j * 5, none⟩)) rfl (by kernel_rfl) (fun w' hF => by simp [execOp, Act.eval, go_sem]) ?_
                  refine mx_read _ (.string q) rfl (by kernel_rfl) (fun w' hF => by have u5 := CELLQ.out _ hF; simp [execOp, Act.eval, go_sem, u5]) ?_
                  refine mx_read _ (.pointer (some ⟨wr.heap.size, 0, none⟩)) rfl (by kernel_rfl) (fun w' hF => by simp [execOp, Act.eval, go_sem]) ?_
                  refine mx_read _ (.string s) rfl (by kernel_rfl) (fun w' hF => by obtain ⟨u0, u1, u2, u3, u4⟩ := CELL.out _ hF; simp [execOp, Act.eval, go_sem, u0]) ?_
                  refine mx_read _ (.bool true) rfl (by kernel_rfl) (fun w' hF => by simp [execOp, Act.eval, go_sem, c6]) ?_
                  refine mx_read _ (.bool true) rfl (by kernel_rfl) (fun w' hF => by simp [execOp, Act.eval, go_sem]) ?_
                  refine mx_one _ rfl (by kernel_rfl) (fun K8 hK8 => ?_)
                  go_simp
                  refine hK8.out _ _ (fun h => absurd rfl h) ?_
                  clear hK8 K8
                  refine mx_end ?_
                  go_wp2_with fail
                  go_ret
                  exact ⟨by rw [HBAD.out]; rfl, HB0.out.trans (hd2.mono (by omega))⟩
              · have HGOOD := Lib.hid (HGO.out (HFIRST.out (by omega) HE1.out))
                refine mx_begin (fun w' => Below (wr.heap.size + 1) W0 w') [(true, 0), (true, 1), (true, 2), (true, 3), (true, 4), (true, 5), (true, 6), (true, 7), (true, 8), (true, 9), (true, 10), (true, 11), (true, 12), (false, 13), (true, 14), (true, 15), (true, 16), (true, 17), (true, 18), (true, 19), (true, 20), (true, 21), (true, 22), (true, 23), (true, 24), (false, 25), (false, 26), (true, 27), (true, 28), (true, 29), (true, 30), (true, 31), (true, 32), (true, 33), (true, 34), (true, 35), (true, 36), (true, 37), (true, 38), (true, 39), (true, 40), (true, 41), (true, 42), (false, 43)] (by kernel_rfl) (by kernel_rfl) (fun _ _ d _ _ h => by cases d <;> exact h) hd0 ?_
                refine mx_read _ (.pointer (some ⟨wr.heap.size, 0, none⟩)) rfl (by kernel_rfl) (fun w' hF => by simp [execOp, Act.eval, go_sem]) ?_
                refine mx_read _ (.string s) rfl (by kernel_rfl) (fun w' hF => by obtain ⟨u0, u1, u2, u3, u4⟩ := CELL.out _ hF; simp [execOp, Act.eval, go_sem, u0]) ?_
                refine mx_read _ (.int .i64 (s.size : Int)) rfl (by kernel_rfl) (fun w' hF => by simp [execOp, Act.eval, go_sem]) ?_
                refine mx_read _ (.bool false) rfl (by kernel_rfl) (fun w' hF => by simp [execOp, Act.eval, go_sem, c1]) ?_
                refine mx_read _ (.bool false) rfl (by kernel_rfl) (fun w' hF => by simp [execOp, Act.eval, go_sem]) ?_
                refine mx_read _ (.pointer (some ⟨wr.heap.size, 0, none⟩)) rfl (by kernel_rfl) (fun w' hF => by simp [execOp, Act.eval, go_sem]) ?_
                refine mx_read _ (.string s) rfl (by kernel_rfl) (fun w' hF => by obtain ⟨u0, u1, u2, u3, u4⟩ := CELL.out _ hF; simp [execOp, Act.eval, go_sem, u0]) ?_
                refine mx_read _ (.int .i64 (s.size : Int)) rfl (by kernel_rfl) (fun w' hF => by simp [execOp, Act.eval, go_sem]) ?_
                refine mx_read _ (.bool false) rfl (by kernel_rfl) (fun w' hF => by simp [execOp, Act.eval, go_sem, c2]) ?_
                refine mx_read _ (.bool false) rfl (by kernel_rfl) (fun w' hF => by simp [execOp, Act.eval, go_sem]) ?_
                refine mx_read _ (.bool false) rfl (by kernel_rfl) (fun w' hF => by simp [execOp, Act.eval, go_sem]) ?_
                refine mx_read _ (.pointer (some ⟨wr.heap.size, 0, none⟩)) rfl (by kernel_rfl) (fun w' hF => by simp [execOp, Act.eval, go_sem]) ?_
                refine mx_read _ (.string s) rfl (by kernel_rfl) (fun w' hF => by obtain ⟨u0, u1, u2, u3, u4⟩ := CELL.out _ hF; simp [execOp, Act.eval, go_sem, u0]) ?_
                refine mx_one _ rfl (by kernel_rfl) (fun K8 hK8 => ?_)
                go_simp
                refine (TRIM.out _ hd0).mono ?_
                rintro e wt ⟨rfl, hd1⟩
                refine hK8.out _ _ (fun _ => hd1) ?_
                clear hK8 K8
                refine mx_read _ (.bool false) rfl (by kernel_rfl) (fun w' hF => by simp [execOp, Act.eval, go_sem, c3b, nil_list]) ?_
                refine mx_read _ (.bool false) rfl (by kernel_rfl) (fun w' hF => by simp [execOp, Act.eval, go_sem]) ?_
                refine mx_read _ (.bool false) rfl (by kernel_rfl) (fun w' hF => by simp [execOp, Act.eval, go_sem]) ?_
                refine mx_read _ (.pointer (some ⟨wr.heap.size, 1, none⟩)) rfl (by kernel_rfl) (fun w' hF => by simp [execOp, Act.eval, go_sem]) ?_
                refine mx_read _ (.int .i64 f) rfl (by kernel_rfl) (fun w' hF => by obtain ⟨u0, u1, u2, u3, u4⟩ := CELL.out _ hF; simp [execOp, Act.eval, go_sem, u1]) ?_
                refine mx_read _ (.pointer (some ⟨wr.heap.size, 2, none⟩)) rfl (by kernel_rfl) (fun w' hF => by simp [execOp, Act.eval, go_sem]) ?_
                refine mx_read _ (.int .i64 bb) rfl (by kernel_rfl) (fun w' hF => by obtain ⟨u0, u1, u2, u3, u4⟩ := CELL.out _ hF; simp [execOp, Act.eval, go_sem, u2]) ?_
                refine mx_read _ (.pointer (some ⟨wr.heap.size, 3, none⟩)) rfl (by kernel_rfl) (fun w' hF => by simp [execOp, Act.eval, go_sem]) ?_
                refine mx_read _ (.int .i64 ww) rfl (by kernel_rfl) (fun w' hF => by obtain ⟨u0, u1, u2, u3, u4⟩ := CELL.out _ hF; simp [execOp, Act.eval, go_sem, u3]) ?_
                refine mx_read _ (.pointer (some ⟨wr.heap.size, 4, none⟩)) rfl (by kernel_rfl) (fun w' hF => by simp [execOp, Act.eval, go_sem]) ?_
                refine mx_read _ (.int .i64 cc) rfl (by kernel_rfl) (fun w' hF => by obtain ⟨u0, u1, u2, u3, u4⟩ := CELL.out _ hF; simp [execOp, Act.eval, go_sem, u4]) ?_
                refine mx_one _ rfl (by kernel_rfl) (fun K8 hK8 => ?_)
                go_simp
                have hd2 := hd1.alloc (Nat.le_trans hB1 hd1.size) (.cells #[.int .i64 f, .int .i64 bb, .int .i64 ww, .int .i64 cc] 3)
                have hrow := Row.new wt #[.int .i64 f, .int .i64 bb, .int .i64 ww, .int .i64 cc] 3 (0, 0)
                refine hK8.out _ _ (fun _ => hd2) ?_
                clear hK8 K8
                refine mx_one _ rfl (by kernel_rfl) (fun K8 hK8 => ?_)
                go_simp
                refine (numbers_any [f, bb, ww, cc] _ 4 4 _ hrow rfl (by omega)).mono ?_
                rintro e wn ⟨rfl, rfl⟩
                refine hK8.out _ _ (fun _ => hd2) ?_
                clear hK8 K8
                refine mx_read _ (.bool false) rfl (by kernel_rfl) (fun w' hF => by simp [execOp, Act.eval, go_sem, c4]) ?_
                refine mx_read _ (.bool false) rfl (by kernel_rfl) (fun w' hF => by simp [execOp, Act.eval, go_sem]) ?_
                refine mx_read _ (.bool false) rfl (by kernel_rfl) (fun w' hF => by simp [execOp, Act.eval, go_sem]) ?_
                refine mx_read _ (.int .i64 (k : Int)) rfl (by kernel_rfl) (fun w' hF => by simp [execOp, Act.eval, go_sem]) ?_
                refine mx_read _ (.bool false) rfl (by kernel_rfl) (fun w' hF => by simp [execOp, Act.eval, go_sem, k0]) ?_
                refine mx_read _ (.bool false) rfl (by kernel_rfl) (fun w' hF => by simp [execOp, Act.eval, go_sem]) ?_
                refine mx_skip _ rfl (by kernel_rfl) ?_
                refine mx_skip _ rfl (by kernel_rfl) ?_
                refine mx_skip _ rfl (by kernel_rfl) ?_
                refine mx_skip _ rfl (by kernel_rfl) ?_
                refine mx_skip _ rfl (by kernel_rfl) ?_
                refine mx_skip _ rfl (by kernel_rfl) ?_
                refine mx_skip _ rfl (by kernel_rfl) ?_
                refine mx_skip _ rfl (by kernel_rfl) ?_
                refine mx_skip _ rfl (by kernel_rfl) ?_
                refine mx_read _ (.bool false) rfl (by kernel_rfl) (fun w' hF => by simp [execOp, Act.eval, go_sem]) ?_
                refine mx_one _ rfl (by kernel_rfl) (fun K8 hK8 => ?_)
                go_simp
                refine hK8.out _ _ (fun h => absurd rfl h) ?_
                clear hK8 K8
                refine mx_end ?_
                go_wp2_with fail
                go_roundw
                case rel => exact ⟨_, by go_num, HM.out.2, HGOOD.out, HB0.out.trans (hd2.mono (by omega))⟩
                case measure => have := HM.out.2; simp [intOf]; omega
            · have HBAD := Lib.hid (HFB.out (HOKE.out (HENTN.out (by simpa using c4))))
              refine mx_begin (fun w' => Below (wr.heap.size + 1) W0 w') [(true, 0), (true, 1), (true, 2), (true, 3), (true, 4), (true, 5), (true, 6), (true, 7), (true, 8), (true, 9), (true, 10), (true, 11), (true, 12), (false, 13), (true, 14), (true, 15), (true, 16), (true, 17), (true, 18), (true, 19), (true, 20), (true, 21), (true, 22), (true, 23), (true, 24), (false, 25), (false, 26), (true, 27), (true, 28), (true, 29), (true, 30), (true, 31), (true, 32), (true, 33), (true, 34), (true, 35), (true, 36), (true, 37), (true, 38), (true, 39), (true, 40), (true, 41), (true, 42), (false, 43)] (by kernel_rfl) (by kernel_rfl) (fun _ _ d _ _ h => by cases d <;> exact h) hd0 ?_
              refine mx_read _ (.pointer (some ⟨wr.heap.size, 0, none⟩)) rfl (by kernel_rfl) (fun w' hF => by simp [execOp, Act.eval, go_sem]) ?_
              refine mx_read _ (.string s) rfl (by kernel_rfl) (fun w' hF => by obtain ⟨u0, u1, u2, u3, u4⟩ := CELL.out _ hF; simp [execOp, Act.eval, go_sem, u0]) ?_
              refine mx_read _ (.int .i64 (s.size : Int)) rfl (by kernel_rfl) (fun w' hF => by simp [execOp, Act.eval, go_sem]) ?_
              refine mx_read _ (.bool false) rfl (by kernel_rfl) (fun w' hF => by simp [execOp, Act.eval, go_sem, c1]) ?_
              refine mx_read _ (.bool false) rfl (by kernel_rfl) (fun w' hF => by simp [execOp, Act.eval, go_sem]) ?_
              refine mx_read _ (.pointer (some ⟨wr.heap.size, 0, none⟩)) rfl (by kernel_rfl) (fun w' hF => by simp [execOp, Act.eval, go_sem]) ?_
              refine mx_read _ (.string s) rfl (by kernel_rfl) (fun w' hF => by obtain ⟨u0, u1, u2, u3, u4⟩ := CELL.out _ hF; simp [execOp, Act.eval, go_sem, u0]) ?_
              refine mx_read _ (.int .i64 (s.size : Int)) rfl (by kernel_rfl) (fun w' hF => by simp [execOp, Act.eval, go_sem]) ?_
              refine mx_read _ (.bool false) rfl (by kernel_rfl) (fun w' hF => by simp [execOp, Act.eval, go_sem, c2]) ?_
              refine mx_read _ (.bool false) rfl (by kernel_rfl) (fun w' hF => by simp [execOp, Act.eval, go_sem]) ?_
              refine mx_read _ (.bool false) rfl (by kernel_rfl) (fun w' hF => by simp [execOp, Act.eval, go_sem]) ?_
              refine mx_read _ (.pointer (some ⟨wr.heap.size, 0, none⟩)) rfl (by kernel_rfl) (fun w' hF => by simp [execOp, Act.eval, go_sem]) ?_
              refine mx_read _ (.string s) rfl (by kernel_rfl) (fun w' hF => by obtain ⟨u0, u1, u2, u3, u4⟩ := CELL.out _ hF; simp [execOp, Act.eval, go_sem, u0]) ?_
              refine mx_one _ rfl (by kernel_rfl) (fun K8 hK8 => ?_)
              go_simp
              refine (TRIM.out _ hd0).mono ?_
              rintro e wt ⟨rfl, hd1⟩
              refine hK8.out _ _ (fun _ => hd1) ?_
              clear hK8 K8
              refine mx_read _ (.bool false) rfl (by kernel_rfl) (fun w' hF => by simp [execOp, Act.eval, go_sem, c3b, nil_list]) ?_
              refine mx_read _ (.bool false) rfl (by kernel_rfl) (fun w' hF => by simp [execOp, Act.eval, go_sem]) ?_
              refine mx_read _ (.bool false) rfl (by kernel_rfl) (fun w' hF => by simp [execOp, Act.eval, go_sem]) ?_
              refine mx_read _ (.pointer (some ⟨wr.heap.size, 1, none⟩)) rfl (by kernel_rfl) (fun w' hF => by simp [execOp, Act.eval, go_sem]) ?_
              refine mx_read _ (.int .i64 f) rfl (by kernel_rfl) (fun w' hF => by obtain ⟨u0, u1, u2, u3, u4⟩ := CELL.out _ hF; simp [execOp, Act.eval, go_sem, u1]) ?_
              refine mx_read _ (.pointer (some ⟨wr.heap.size, 2, none⟩)) rfl (by kernel_rfl) (fun w' hF => by simp [execOp, Act.eval, go_sem]) ?_
              refine mx_read _ (.int .i64 bb) rfl (by kernel_rfl) (fun w' hF => by obtain ⟨u0, u1, u2, u3, u4⟩ := CELL.out _ hF; simp [execOp, Act.eval, go_sem, u2]) ?_
              refine mx_read _ (.pointer (some ⟨wr.heap.size, 3, none⟩)) rfl (by kernel_rfl) (fun w' hF => by simp [execOp, Act.eval, go_sem]) ?_
              refine mx_read _ (.int .i64 ww) rfl (by kernel_rfl) (fun w' hF => by obtain ⟨u0, u1, u2, u3, u4⟩ := CELL.out _ hF; simp [execOp, Act.eval, go_sem, u3]) ?_
              refine mx_read _ (.pointer (some ⟨wr.heap.size, 4, none⟩)) rfl (by kernel_rfl) (fun w' hF => by simp [execOp, Act.eval, go_sem]) ?_
              refine mx_read _ (.int .i64 cc) rfl (by kernel_rfl) (fun w' hF => by obtain ⟨u0, u1, u2, u3, u4⟩ := CELL.out _ hF; simp [execOp, Act.eval, go_sem, u4]) ?_
              refine mx_one _ rfl (by kernel_rfl) (fun K8 hK8 => ?_)
              go_simp
              have hd2 := hd1.alloc (Nat.le_trans hB1 hd1.size) (.cells #[.int .i64 f, .int .i64 bb, .int .i64 ww, .int .i64 cc] 3)
              have hrow := Row.new wt #[.int .i64 f, .int .i64 bb, .int .i64 ww, .int .i64 cc] 3 (0, 0)
              refine hK8.out _ _ (fun _ => hd2) ?_
              clear hK8 K8
              refine mx_one _ rfl (by kernel_rfl) (fun K8 hK8 => ?_)
              go_simp
              refine (numbers_any [f, bb, ww, cc] _ 4 4 _ hrow rfl (by omega)).mono ?_
              rintro e wn ⟨rfl, rfl⟩
              refine hK8.out _ _ (fun _ => hd2) ?_
              clear hK8 K8
              refine mx_read _ (.bool true) rfl (by kernel_rfl) (fun w' hF => by simp [execOp, Act.eval, go_sem, c4]) ?_
              refine mx_read _ (.bool true) rfl (by kernel_rfl) (fun w' hF => by simp [execOp, Act.eval, go_sem]) ?_
              refine mx_read _ (.bool true) rfl (by kernel_rfl) (fun w' hF => by simp [execOp, Act.eval, go_sem]) ?_
              refine mx_skip _ rfl (by kernel_rfl) ?_
              refine mx_skip _ rfl (by kernel_rfl) ?_
              refine mx_skip _ rfl (by kernel_rfl) ?_
              refine mx_skip _ rfl (by kernel_rfl) ?_
              refine mx_skip _ rfl (by kernel_rfl) ?_
              refine mx_skip _ rfl (by kernel_rfl) ?_
              refine mx_skip _ rfl (by kernel_rfl) ?_
              refine mx_skip _ rfl (by kernel_rfl) ?_
              refine mx_skip _ rfl (by kernel_rfl) ?_
              refine mx_skip _ rfl (by kernel_rfl) ?_
              refine mx_skip _ rfl (by kernel_rfl) ?_
              refine mx_skip _ rfl (by kernel_rfl) ?_
              refine mx_skip _ rfl (by kernel_rfl) ?_
              refine mx_one _ rfl (by kernel_rfl) (fun K8 hK8 => ?_)
              go_simp
              refine hK8.out _ _ (fun h => absurd rfl h) ?_
              clear hK8 K8
              refine mx_end ?_
              go_wp2_with fail
              go_ret
              exact ⟨by rw [HBAD.out]; rfl, HB0.out.trans (hd2.mono (by omega))⟩
          · have c3b : (T.toList == []) = false := by simp [c3]
            have HBAD := Lib.hid (HFB.out (HOKE.out (HNAMEN.out (fun h => c3 (hT.2 h)))))
            clear hT
            refine mx_begin (fun w' => Below (wr.heap.size + 1) W0 w') [(true, 0), (true, 1), (true, 2), (true, 3), (true, 4), (true, 5), (true, 6), (true, 7), (true, 8), (true, 9), (true, 10), (true, 11), (true, 12), (false, 13), (true, 14), (true, 15), (true, 16), (true, 17), (true, 18), (true, 19), (true, 20), (true, 21), (true, 22), (true, 23), (true, 24), (false, 25), (false, 26), (true, 27), (true, 28), (true, 29), (true, 30), (true, 31), (true, 32), (true, 33), (true, 34), (true, 35), (true, 36), (true, 37), (true, 38), (true, 39), (true, 40), (true, 41), (true, 42), (false, 43)] (by kernel_rfl) (by kernel_rfl) (fun _ _ d _ _ h => by cases d <;> exact h) hd0 ?_
            refine mx_read _ (.pointer (some ⟨wr.heap.size, 0, none⟩)) rfl (by kernel_rfl) (fun w' hF => by simp [execOp, Act.eval, go_sem]) ?_
            refine mx_read _ (.string s) rfl (by kernel_rfl) (fun w' hF => by obtain ⟨u0, u1, u2, u3, u4⟩ := CELL.out _ hF; simp [execOp, Act.eval, go_sem, u0]) ?_
            refine mx_read _ (.int .i64 (s.size : Int)) rfl (by kernel_rfl) (fun w' hF => by simp [execOp, Act.eval, go_sem]) ?_
            refine mx_read _ (.bool false) rfl (by kernel_rfl) (fun w' hF => by simp [execOp, Act.eval, go_sem, c1]) ?_
            refine mx_read _ (.bool false) rfl (by kernel_rfl) (fun w' hF => by simp [execOp, Act.eval, go_sem]) ?_
            refine mx_read _ (.pointer (some ⟨wr.heap.size, 0, none⟩)) rfl (by kernel_rfl) (fun w' hF => by simp [execOp, Act.eval, go_sem]) ?_
            refine mx_read _ (.string s) rfl (by kernel_rfl) (fun w' hF => by obtain ⟨u0, u1, u2, u3, u4⟩ := CELL.out _ hF; simp [execOp, Act.eval, go_sem, u0]) ?_
            refine mx_read _ (.int .i64 (s.size : Int)) rfl (by kernel_rfl) (fun w' hF => by simp [execOp, Act.eval, go_sem]) ?_
            refine mx_read _ (.bool false) rfl (by kernel_rfl) (fun w' hF => by simp [execOp, Act.eval, go_sem, c2]) ?_
            refine mx_read _ (.bool false) rfl (by kernel_rfl) (fun w' hF => by simp [execOp, Act.eval, go_sem]) ?_
            refine mx_read _ (.bool false) rfl (by kernel_rfl) (fun w' hF => by simp [execOp, Act.eval, go_sem]) ?_
            refine mx_read _ (.pointer (some ⟨wr.heap.size, 0, none⟩)) rfl (by kernel_rfl) (fun w' hF => by simp [execOp, Act.eval, go_sem]) ?_
            refine mx_read _ (.string s) rfl (by kernel_rfl) (fun w' hF => by obtain ⟨u0, u1, u2, u3, u4⟩ := CELL.out _ hF; simp [execOp, Act.eval, go_sem, u0]) ?_
            refine mx_one _ rfl (by kernel_rfl) (fun K8 hK8 => ?_)
            go_simp
            refine (TRIM.out _ hd0).mono ?_
            rintro e wt ⟨rfl, hd1⟩
            refine hK8.out _ _ (fun _ => hd1) ?_
            clear hK8 K8
            refine mx_read _ (.bool true) rfl (by kernel_rfl) (fun w' hF => by simp [execOp, Act.eval, go_sem, c3b, nil_list]) ?_
            refine mx_read _ (.bool true) rfl (by kernel_rfl) (fun w' hF => by simp [execOp, Act.eval, go_sem]) ?_
            refine mx_read _ (.bool true) rfl (by kernel_rfl) (fun w' hF => by simp [execOp, Act.eval, go_sem]) ?_
            refine mx_skip _ rfl (by kernel_rfl) ?_
            refine mx_skip _ rfl (by kernel_rfl) ?_
            refine mx_skip _ rfl (by kernel_rfl) ?_
            refine mx_skip _ rfl (by kernel_rfl) ?_
            refine mx_skip _ rfl (by kernel_rfl) ?_
            refine mx_skip _ rfl (by kernel_rfl) ?_
            refine mx_skip _ rfl (by kernel_rfl) ?_
            refine mx_skip _ rfl (by kernel_rfl) ?_
            refine mx_one_skip _ rfl hd1 (by kernel_rfl) ?_
            refine mx_one_skip _ rfl hd1 (by kernel_rfl) ?_
            refine mx_skip _ rfl (by kernel_rfl) ?_
            refine mx_read _ (.bool true) rfl (by kernel_rfl) (fun w' hF => by simp [execOp, Act.eval, go_sem]) ?_
            refine mx_read _ (.bool true) rfl (by kernel_rfl) (fun w' hF => by simp [execOp, Act.eval, go_sem]) ?_
            refine mx_skip _ rfl (by kernel_rfl) ?_
            refine mx_skip _ rfl (by kernel_rfl) ?_
            refine mx_skip _ rfl (by kernel_rfl) ?_
            refine mx_skip _ rfl (by kernel_rfl) ?_
            refine mx_skip _ rfl (by kernel_rfl) ?_
            refine mx_skip _ rfl (by kernel_rfl) ?_
            refine mx_skip _ rfl (by kernel_rfl) ?_
            refine mx_skip _ rfl (by kernel_rfl) ?_
            refine mx_skip _ rfl (by kernel_rfl) ?_
            refine mx_skip _ rfl (by kernel_rfl) ?_
            refine mx_skip _ rfl (by kernel_rfl) ?_
            refine mx_skip _ rfl (by kernel_rfl) ?_
            refine mx_skip _ rfl (by kernel_rfl) ?_
            refine mx_one _ rfl (by kernel_rfl) (fun K8 hK8 => ?_)
            go_simp
            refine hK8.out _ _ (fun h => absurd rfl h) ?_
            clear hK8 K8
            refine mx_end ?_
            go_wp2_with fail
            go_ret
            exact ⟨by rw [HBAD.out]; rfl, HB0.out.trans (hd1.mono (by omega))⟩
    · obtain rfl : l.length = k := by omega
      have hlt2 : ¬ (l.length : Int) < (l.length : Int) := by omega
      have HF := Lib.hid (show formedM l = decide (l.length ≤ 12) from by
        unfold formedM
        rw [decide_eq_decide]
        exact ⟨fun h => h.1, fun h => ⟨h, HALL.out⟩⟩)
      have HB := Lib.hid hb
      clear hr hb hk hlt hsz
      by_cases c12 : (l.length : Int) ≤ 12
      · go_wp2_with fail
        go_ret
        exact ⟨by rw [HF.out]; first | rfl | (simp; done) | (simp; omega), HB.out⟩
      · go_wp2_with fail
        go_ret
        exact ⟨by rw [HF.out]; first | rfl | (simp; done) | (simp; omega), HB.out⟩

end Go.Proofs.YtmmkncocgjgapaaDoor.Mf
