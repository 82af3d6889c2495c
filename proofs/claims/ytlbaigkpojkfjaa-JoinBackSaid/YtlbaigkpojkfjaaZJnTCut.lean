/- The walk of tuple.Cut. -/
import Derived.Test.YtlbaigkpojkfjaaZJnFormed
set_option linter.unusedVariables false
namespace Go.Proofs.Ytlbaigkpojkfjaa.Fl
open Go.RowKit

/-- As tuple.Cut goes: what stands in the columns, what is left of the order. -/
def cgo (t : List Int) : Nat → List Int → List Int → List Int
  | _, acc, [] => acc
  | i, acc, k :: ks => cgo t (i + 1) (if k = 0 then acc else acc.set i (t.getD (k.natAbs - 1) 0)) ks
def cutO (t o : List Int) : List Int := cgo t 0 [0, 0, 0, 0, 0] o
def tcells (l : List Int) : Array Value := (l.map (Value.int .i64)).toArray
theorem tcells_set (l : List Int) (m : Nat) (b : Int) : tcells (l.set m b) = (tcells l).setIfInBounds m (.int .i64 b) := by
  unfold tcells
  rw [List.map_set]
  simp
def CutLoop (t o : List Int) (w w1 : World) (ob : Nat) (iv : Value) (wr : World) : Prop :=
  ∃ (i : Nat) (acc : List Int), iv = .int .i64 (i : Int) ∧ i ≤ 5 ∧ acc.length = 5 ∧ cgo t i acc (o.drop i) = cutO t o ∧ Blk wr ob 57 (tcells acc) ∧ Chg (fun q => q = ob) w1 wr

set_option maxRecDepth 100000 in
set_option maxHeartbeats 4000000 in
theorem tcut_any (t0 t1 t2 t3 t4 o0 o1 o2 o3 o4 : Int) (w : World) (hfo : formedO [o0, o1, o2, o3, o4] = true) (hr : ∀ k ∈ [o0, o1, o2, o3, o4], -5 ≤ k ∧ k ≤ 5) : Calls Try.prog 61 #[.agg #[.int .i64 t0, .int .i64 t1, .int .i64 t2, .int .i64 t3, .int .i64 t4], .agg #[.int .i64 o0, .int .i64 o1, .int .i64 o2, .int .i64 o3, .int .i64 o4]] w (fun e w' => e = .returned (.agg (tcells (cutO [t0, t1, t2, t3, t4] [o0, o1, o2, o3, o4]))) ∧ Below w.heap.size w w') := by
  have hT := (((Blk.new w 57 #[.int .i64 t0, .int .i64 t1, .int .i64 t2, .int .i64 t3, .int .i64 t4]).alloc (.cells #[.int .i64 o0, .int .i64 o1, .int .i64 o2, .int .i64 o3, .int .i64 o4] 48)).alloc (.cells #[.int .i64 0, .int .i64 0, .int .i64 0, .int .i64 0, .int .i64 0] 57)).alloc (.cells #[.int .i64 0, .int .i64 0, .int .i64 0, .int .i64 0, .int .i64 0] 57)
  have hO := ((Blk.new (w.alloc (.cells #[.int .i64 t0, .int .i64 t1, .int .i64 t2, .int .i64 t3, .int .i64 t4] 57)) 48 #[.int .i64 o0, .int .i64 o1, .int .i64 o2, .int .i64 o3, .int .i64 o4]).alloc (.cells #[.int .i64 0, .int .i64 0, .int .i64 0, .int .i64 0, .int .i64 0] 57)).alloc (.cells #[.int .i64 0, .int .i64 0, .int .i64 0, .int .i64 0, .int .i64 0] 57)
  have hR := (Blk.new ((w.alloc (.cells #[.int .i64 t0, .int .i64 t1, .int .i64 t2, .int .i64 t3, .int .i64 t4] 57)).alloc (.cells #[.int .i64 o0, .int .i64 o1, .int .i64 o2, .int .i64 o3, .int .i64 o4] 48)) 57 #[.int .i64 0, .int .i64 0, .int .i64 0, .int .i64 0, .int .i64 0]).alloc (.cells #[.int .i64 0, .int .i64 0, .int .i64 0, .int .i64 0, .int .i64 0] 57)
  have hC := Blk.new (((w.alloc (.cells #[.int .i64 t0, .int .i64 t1, .int .i64 t2, .int .i64 t3, .int .i64 t4] 57)).alloc (.cells #[.int .i64 o0, .int .i64 o1, .int .i64 o2, .int .i64 o3, .int .i64 o4] 48)).alloc (.cells #[.int .i64 0, .int .i64 0, .int .i64 0, .int .i64 0, .int .i64 0] 57)) 57 #[.int .i64 0, .int .i64 0, .int .i64 0, .int .i64 0, .int .i64 0]
  rw [show (w.alloc (.cells #[.int .i64 t0, .int .i64 t1, .int .i64 t2, .int .i64 t3, .int .i64 t4] 57)).heap.size = w.heap.size + 1 from by simp] at hO
  rw [show ((w.alloc (.cells #[.int .i64 t0, .int .i64 t1, .int .i64 t2, .int .i64 t3, .int .i64 t4] 57)).alloc (.cells #[.int .i64 o0, .int .i64 o1, .int .i64 o2, .int .i64 o3, .int .i64 o4] 48)).heap.size = w.heap.size + 1 + 1 from by simp] at hR
  rw [show (((w.alloc (.cells #[.int .i64 t0, .int .i64 t1, .int .i64 t2, .int .i64 t3, .int .i64 t4] 57)).alloc (.cells #[.int .i64 o0, .int .i64 o1, .int .i64 o2, .int .i64 o3, .int .i64 o4] 48)).alloc (.cells #[.int .i64 0, .int .i64 0, .int .i64 0, .int .i64 0, .int .i64 0] 57)).heap.size = w.heap.size + 1 + 1 + 1 from by simp] at hC
  have hbl : Below w.heap.size w ((((w.alloc (.cells #[.int .i64 t0, .int .i64 t1, .int .i64 t2, .int .i64 t3, .int .i64 t4] 57)).alloc (.cells #[.int .i64 o0, .int .i64 o1, .int .i64 o2, .int .i64 o3, .int .i64 o4] 48)).alloc (.cells #[.int .i64 0, .int .i64 0, .int .i64 0, .int .i64 0, .int .i64 0] 57)).alloc (.cells #[.int .i64 0, .int .i64 0, .int .i64 0, .int .i64 0, .int .i64 0] 57)) := ((((Below.refl _ _).alloc (Nat.le_refl _) _).alloc (by simp) _).alloc (by simp; omega) _).alloc (by simp; omega) _
  have HT := Lib.hid hT
  have HO := Lib.hid hO
  have HR := Lib.hid hR
  have HC := Lib.hid hC
  have HB := Lib.hid hbl
  have HFO := Lib.hid (fun W' => formed_any o0 o1 o2 o3 o4 W')
  rw [hfo] at HFO
  have HRG := Lib.hid hr
  clear hT hO hR hC hbl hfo hr
  go_enter Try.func61, Try.ntmps61
  go_wp2_with fail
  generalize ((((w.alloc (.cells #[.int .i64 t0, .int .i64 t1, .int .i64 t2, .int .i64 t3, .int .i64 t4] 57)).alloc (.cells #[.int .i64 o0, .int .i64 o1, .int .i64 o2, .int .i64 o3, .int .i64 o4] 48)).alloc (.cells #[.int .i64 0, .int .i64 0, .int .i64 0, .int .i64 0, .int .i64 0] 57)).alloc (.cells #[.int .i64 0, .int .i64 0, .int .i64 0, .int .i64 0, .int .i64 0] 57)) = w1 at *
  refine (HFO.out w1).mono ?_
  rintro e w2 ⟨rfl, hb2⟩
  have HT2 := Lib.hid (HT.out.below hb2 HT.out.lt)
  have HO2 := Lib.hid (HO.out.below hb2 HO.out.lt)
  have HR2 := Lib.hid (HR.out.below hb2 HR.out.lt)
  have hC2 := HC.out.below hb2 HC.out.lt
  have HB2 := Lib.hid (HB.out.trans (hb2.mono HB.out.size))
  have hord : w2.cell? ⟨w.heap.size + 1, 0, none⟩ = some (.int .i64 o0) ∧ w2.cell? ⟨w.heap.size + 1, 1, none⟩ = some (.int .i64 o1) ∧ w2.cell? ⟨w.heap.size + 1, 2, none⟩ = some (.int .i64 o2) ∧ w2.cell? ⟨w.heap.size + 1, 3, none⟩ = some (.int .i64 o3) ∧ w2.cell? ⟨w.heap.size + 1, 4, none⟩ = some (.int .i64 o4) := ⟨HO2.out.cell 0, HO2.out.cell 1, HO2.out.cell 2, HO2.out.cell 3, HO2.out.cell 4⟩
  obtain ⟨b0, b1, b2, b3, b4⟩ := hord
  clear HT HO HR HC HB hb2 HFO
  go_wp2_with fail
  go_loopw [11] (fun iv wr => CutLoop [t0, t1, t2, t3, t4] [o0, o1, o2, o3, o4] w w2 (w.heap.size + 1 + 1 + 1) iv wr) (fun iv _ => 5 - (intOf iv).toNat)
  case atStart => exact ⟨0, [0, 0, 0, 0, 0], rfl, by omega, rfl, rfl, hC2, Chg.refl _ _⟩
  case round =>
    clear hC2 b0 b1 b2 b3 b4
    obtain ⟨i, acc, rfl, hi, hacc, hg, hB, hch⟩ := hrel
    have HA := Lib.hid hacc
    have HBK := Lib.hid hB
    have HCH := Lib.hid hch
    have hTr := HT2.out.chg hch (by omega)
    have HTR := Lib.hid hTr
    clear hacc hB hch hTr
    obtain rfl | rfl | rfl | rfl | rfl | rfl : i = 0 ∨ i = 1 ∨ i = 2 ∨ i = 3 ∨ i = 4 ∨ i = 5 := by omega
    · have HG := Lib.hid hg
      obtain ⟨r1, r2⟩ := HRG.out o0 (by simp)
      clear hg
      rw [show ((0 : Nat) : Int) = 0 from rfl]
      by_cases hz : o0 = 0
      · subst hz
        clear r1 r2
        go_wp2_with fail
        exact ⟨⟨1, acc, rfl, by omega, HA.out, by rw [← HG.out]; rfl, HBK.out, HCH.out⟩, by simp [intOf]⟩
      · by_cases hp : 0 < o0
        · obtain ⟨m, rfl⟩ : ∃ m : Nat, o0 = (m : Int) := ⟨o0.natAbs, by omega⟩
          obtain ⟨c, hmc⟩ : ∃ c, m = c + 1 := ⟨m - 1, by omega⟩
          have c5 : c < 5 := by omega
          obtain ⟨v, hv⟩ : ∃ v, v = ([t0, t1, t2, t3, t4] : List Int).getD c 0 := ⟨_, rfl⟩
          have e0 : wr.cell? ⟨w.heap.size, c, none⟩ = some (.int .i64 v) := by
            rw [HTR.out.cell, hv]
            obtain rfl | rfl | rfl | rfl | rfl : c = 0 ∨ c = 1 ∨ c = 2 ∨ c = 3 ∨ c = 4 := by omega
            all_goals rfl
          have f0 := HBK.out.frozen 0
          obtain ⟨u, hu⟩ : ∃ u, wr.cell? ⟨w.heap.size + 1 + 1 + 1, 0, none⟩ = some (.int .i64 u) := by
            rw [HBK.out.cell]
            have hl := HA.out
            simp [tcells, show 0 < acc.length by omega]
          have hstep : cgo [t0, t1, t2, t3, t4] 1 (acc.set 0 v) (([(m : Int), o1, o2, o3, o4] : List Int).drop 1) = cutO [t0, t1, t2, t3, t4] [(m : Int), o1, o2, o3, o4] := by
            rw [← HG.out]
            show _ = cgo _ (0 + 1) (if (m : Int) = 0 then acc else acc.set 0 (([t0, t1, t2, t3, t4] : List Int).getD ((m : Int).natAbs - 1) 0)) _
            rw [if_neg (by omega), show (m : Int).natAbs - 1 = c from by omega, ← hv]
            rfl
          have q1 : ¬ (m : Int) < -(m : Int) := by omega
          have q6 : ((m : Int) == 0) = false := by simp; omega
          have q7 : IntKind.i64.wrap (-(m : Int)) = -(m : Int) := by rw [IntKind.wrap_i64]; omega
          have q8 : IntKind.i64.wrap ((m : Int) - 1) = (c : Int) := by rw [IntKind.wrap_i64]; omega
          have i0 : (0 : Int) ≤ (c : Int) := by omega
          have i1 : (c : Int) < 5 := by omega
          have HST := Lib.hid hstep
          clear hstep hv hz hp r1 r2 hmc
          go_wp2_with fail
          exact ⟨⟨1, acc.set 0 v, rfl, by omega, by rw [List.length_set]; exact HA.out, HST.out, by rw [tcells_set]; exact HBK.out.set_ 0 (.int .i64 v), HCH.out.setCell _ _ (fun _ => rfl)⟩, by simp [intOf]⟩
        · obtain ⟨m, rfl⟩ : ∃ m : Nat, o0 = -(m : Int) := ⟨o0.natAbs, by omega⟩
          obtain ⟨c, hmc⟩ : ∃ c, m = c + 1 := ⟨m - 1, by omega⟩
          have c5 : c < 5 := by omega
          obtain ⟨v, hv⟩ : ∃ v, v = ([t0, t1, t2, t3, t4] : List Int).getD c 0 := ⟨_, rfl⟩
          have e0 : wr.cell? ⟨w.heap.size, c, none⟩ = some (.int .i64 v) := by
            rw [HTR.out.cell, hv]
            obtain rfl | rfl | rfl | rfl | rfl : c = 0 ∨ c = 1 ∨ c = 2 ∨ c = 3 ∨ c = 4 := by omega
            all_goals rfl
          have f0 := HBK.out.frozen 0
          obtain ⟨u, hu⟩ : ∃ u, wr.cell? ⟨w.heap.size + 1 + 1 + 1, 0, none⟩ = some (.int .i64 u) := by
            rw [HBK.out.cell]
            have hl := HA.out
            simp [tcells, show 0 < acc.length by omega]
          have hstep : cgo [t0, t1, t2, t3, t4] 1 (acc.set 0 v) (([(-(m : Int)), o1, o2, o3, o4] : List Int).drop 1) = cutO [t0, t1, t2, t3, t4] [(-(m : Int)), o1, o2, o3, o4] := by
            rw [← HG.out]
            show _ = cgo _ (0 + 1) (if (-(m : Int)) = 0 then acc else acc.set 0 (([t0, t1, t2, t3, t4] : List Int).getD ((-(m : Int)).natAbs - 1) 0)) _
            rw [if_neg (by omega), show (-(m : Int)).natAbs - 1 = c from by omega, ← hv]
            rfl
          have q1 : -(m : Int) < (m : Int) := by omega
          have q6 : (-(m : Int) == 0) = false := by simp; omega
          have q7 : IntKind.i64.wrap (m : Int) = (m : Int) := by rw [IntKind.wrap_i64]; omega
          have q8 : IntKind.i64.wrap ((m : Int) - 1) = (c : Int) := by rw [IntKind.wrap_i64]; omega
          have i0 : (0 : Int) ≤ (c : Int) := by omega
          have i1 : (c : Int) < 5 := by omega
          have HST := Lib.hid hstep
          clear hstep hv hz hp r1 r2 hmc
          go_wp2_with fail
          exact ⟨⟨1, acc.set 0 v, rfl, by omega, by rw [List.length_set]; exact HA.out, HST.out, by rw [tcells_set]; exact HBK.out.set_ 0 (.int .i64 v), HCH.out.setCell _ _ (fun _ => rfl)⟩, by simp [intOf]⟩
    · have HG := Lib.hid hg
      obtain ⟨r1, r2⟩ := HRG.out o1 (by simp)
      clear hg
      rw [show ((1 : Nat) : Int) = 1 from rfl]
      by_cases hz : o1 = 0
      · subst hz
        clear r1 r2
        go_wp2_with fail
        exact ⟨⟨2, acc, rfl, by omega, HA.out, by rw [← HG.out]; rfl, HBK.out, HCH.out⟩, by simp [intOf]⟩
      · by_cases hp : 0 < o1
        · obtain ⟨m, rfl⟩ : ∃ m : Nat, o1 = (m : Int) := ⟨o1.natAbs, by omega⟩
          obtain ⟨c, hmc⟩ : ∃ c, m = c + 1 := ⟨m - 1, by omega⟩
          have c5 : c < 5 := by omega
          obtain ⟨v, hv⟩ : ∃ v, v = ([t0, t1, t2, t3, t4] : List Int).getD c 0 := ⟨_, rfl⟩
          have e0 : wr.cell? ⟨w.heap.size, c, none⟩ = some (.int .i64 v) := by
            rw [HTR.out.cell, hv]
            obtain rfl | rfl | rfl | rfl | rfl : c = 0 ∨ c = 1 ∨ c = 2 ∨ c = 3 ∨ c = 4 := by omega
            all_goals rfl
          have f0 := HBK.out.frozen 1
          obtain ⟨u, hu⟩ : ∃ u, wr.cell? ⟨w.heap.size + 1 + 1 + 1, 1, none⟩ = some (.int .i64 u) := by
            rw [HBK.out.cell]
            have hl := HA.out
            simp [tcells, show 1 < acc.length by omega]
          have hstep : cgo [t0, t1, t2, t3, t4] 2 (acc.set 1 v) (([o0, (m : Int), o2, o3, o4] : List Int).drop 2) = cutO [t0, t1, t2, t3, t4] [o0, (m : Int), o2, o3, o4] := by
            rw [← HG.out]
            show _ = cgo _ (1 + 1) (if (m : Int) = 0 then acc else acc.set 1 (([t0, t1, t2, t3, t4] : List Int).getD ((m : Int).natAbs - 1) 0)) _
            rw [if_neg (by omega), show (m : Int).natAbs - 1 = c from by omega, ← hv]
            rfl
          have q1 : ¬ (m : Int) < -(m : Int) := by omega
          have q6 : ((m : Int) == 0) = false := by simp; omega
          have q7 : IntKind.i64.wrap (-(m : Int)) = -(m : Int) := by rw [IntKind.wrap_i64]; omega
          have q8 : IntKind.i64.wrap ((m : Int) - 1) = (c : Int) := by rw [IntKind.wrap_i64]; omega
          have i0 : (0 : Int) ≤ (c : Int) := by omega
          have i1 : (c : Int) < 5 := by omega
          have HST := Lib.hid hstep
          clear hstep hv hz hp r1 r2 hmc
          go_wp2_with fail
          exact ⟨⟨2, acc.set 1 v, rfl, by omega, by rw [List.length_set]; exact HA.out, HST.out, by rw [tcells_set]; exact HBK.out.set_ 1 (.int .i64 v), HCH.out.setCell _ _ (fun _ => rfl)⟩, by simp [intOf]⟩
        · obtain ⟨m, rfl⟩ : ∃ m : Nat, o1 = -(m : Int) := ⟨o1.natAbs, by omega⟩
          obtain ⟨c, hmc⟩ : ∃ c, m = c + 1 := ⟨m - 1, by omega⟩
          have c5 : c < 5 := by omega
          obtain ⟨v, hv⟩ : ∃ v, v = ([t0, t1, t2, t3, t4] : List Int).getD c 0 := ⟨_, rfl⟩
          have e0 : wr.cell? ⟨w.heap.size, c, none⟩ = some (.int .i64 v) := by
            rw [HTR.out.cell, hv]
            obtain rfl | rfl | rfl | rfl | rfl : c = 0 ∨ c = 1 ∨ c = 2 ∨ c = 3 ∨ c = 4 := by omega
            all_goals rfl
          have f0 := HBK.out.frozen 1
          obtain ⟨u, hu⟩ : ∃ u, wr.cell? ⟨w.heap.size + 1 + 1 + 1, 1, none⟩ = some (.int .i64 u) := by
            rw [HBK.out.cell]
            have hl := HA.out
            simp [tcells, show 1 < acc.length by omega]
          have hstep : cgo [t0, t1, t2, t3, t4] 2 (acc.set 1 v) (([o0, (-(m : Int)), o2, o3, o4] : List Int).drop 2) = cutO [t0, t1, t2, t3, t4] [o0, (-(m : Int)), o2, o3, o4] := by
            rw [← HG.out]
            show _ = cgo _ (1 + 1) (if (-(m : Int)) = 0 then acc else acc.set 1 (([t0, t1, t2, t3, t4] : List Int).getD ((-(m : Int)).natAbs - 1) 0)) _
            rw [if_neg (by omega), show (-(m : Int)).natAbs - 1 = c from by omega, ← hv]
            rfl
          have q1 : -(m : Int) < (m : Int) := by omega
          have q6 : (-(m : Int) == 0) = false := by simp; omega
          have q7 : IntKind.i64.wrap (m : Int) = (m : Int) := by rw [IntKind.wrap_i64]; omega
          have q8 : IntKind.i64.wrap ((m : Int) - 1) = (c : Int) := by rw [IntKind.wrap_i64]; omega
          have i0 : (0 : Int) ≤ (c : Int) := by omega
          have i1 : (c : Int) < 5 := by omega
          have HST := Lib.hid hstep
          clear hstep hv hz hp r1 r2 hmc
          go_wp2_with fail
          exact ⟨⟨2, acc.set 1 v, rfl, by omega, by rw [List.length_set]; exact HA.out, HST.out, by rw [tcells_set]; exact HBK.out.set_ 1 (.int .i64 v), HCH.out.setCell _ _ (fun _ => rfl)⟩, by simp [intOf]⟩
    · have HG := Lib.hid hg
      obtain ⟨r1, r2⟩ := HRG.out o2 (by simp)
      clear hg
      rw [show ((2 : Nat) : Int) = 2 from rfl]
      by_cases hz : o2 = 0
      · subst hz
        clear r1 r2
        go_wp2_with fail
        exact ⟨⟨3, acc, rfl, by omega, HA.out, by rw [← HG.out]; rfl, HBK.out, HCH.out⟩, by simp [intOf]⟩
      · by_cases hp : 0 < o2
        · obtain ⟨m, rfl⟩ : ∃ m : Nat, o2 = (m : Int) := ⟨o2.natAbs, by omega⟩
          obtain ⟨c, hmc⟩ : ∃ c, m = c + 1 := ⟨m - 1, by omega⟩
          have c5 : c < 5 := by omega
          obtain ⟨v, hv⟩ : ∃ v, v = ([t0, t1, t2, t3, t4] : List Int).getD c 0 := ⟨_, rfl⟩
          have e0 : wr.cell? ⟨w.heap.size, c, none⟩ = some (.int .i64 v) := by
            rw [HTR.out.cell, hv]
            obtain rfl | rfl | rfl | rfl | rfl : c = 0 ∨ c = 1 ∨ c = 2 ∨ c = 3 ∨ c = 4 := by omega
            all_goals rfl
          have f0 := HBK.out.frozen 2
          obtain ⟨u, hu⟩ : ∃ u, wr.cell? ⟨w.heap.size + 1 + 1 + 1, 2, none⟩ = some (.int .i64 u) := by
            rw [HBK.out.cell]
            have hl := HA.out
            simp [tcells, show 2 < acc.length by omega]
          have hstep : cgo [t0, t1, t2, t3, t4] 3 (acc.set 2 v) (([o0, o1, (m : Int), o3, o4] : List Int).drop 3) = cutO [t0, t1, t2, t3, t4] [o0, o1, (m : Int), o3, o4] := by
            rw [← HG.out]
            show _ = cgo _ (2 + 1) (if (m : Int) = 0 then acc else acc.set 2 (([t0, t1, t2, t3, t4] : List Int).getD ((m : Int).natAbs - 1) 0)) _
            rw [if_neg (by omega), show (m : Int).natAbs - 1 = c from by omega, ← hv]
            rfl
          have q1 : ¬ (m : Int) < -(m : Int) := by omega
          have q6 : ((m : Int) == 0) = false := by simp; omega
          have q7 : IntKind.i64.wrap (-(m : Int)) = -(m : Int) := by rw [IntKind.wrap_i64]; omega
          have q8 : IntKind.i64.wrap ((m : Int) - 1) = (c : Int) := by rw [IntKind.wrap_i64]; omega
          have i0 : (0 : Int) ≤ (c : Int) := by omega
          have i1 : (c : Int) < 5 := by omega
          have HST := Lib.hid hstep
          clear hstep hv hz hp r1 r2 hmc
          go_wp2_with fail
          exact ⟨⟨3, acc.set 2 v, rfl, by omega, by rw [List.length_set]; exact HA.out, HST.out, by rw [tcells_set]; exact HBK.out.set_ 2 (.int .i64 v), HCH.out.setCell _ _ (fun _ => rfl)⟩, by simp [intOf]⟩
        · obtain ⟨m, rfl⟩ : ∃ m : Nat, o2 = -(m : Int) := ⟨o2.natAbs, by omega⟩
          obtain ⟨c, hmc⟩ : ∃ c, m = c + 1 := ⟨m - 1, by omega⟩
          have c5 : c < 5 := by omega
          obtain ⟨v, hv⟩ : ∃ v, v = ([t0, t1, t2, t3, t4] : List Int).getD c 0 := ⟨_, rfl⟩
          have e0 : wr.cell? ⟨w.heap.size, c, none⟩ = some (.int .i64 v) := by
            rw [HTR.out.cell, hv]
            obtain rfl | rfl | rfl | rfl | rfl : c = 0 ∨ c = 1 ∨ c = 2 ∨ c = 3 ∨ c = 4 := by omega
            all_goals rfl
          have f0 := HBK.out.frozen 2
          obtain ⟨u, hu⟩ : ∃ u, wr.cell? ⟨w.heap.size + 1 + 1 + 1, 2, none⟩ = some (.int .i64 u) := by
            rw [HBK.out.cell]
            have hl := HA.out
            simp [tcells, show 2 < acc.length by omega]
          have hstep : cgo [t0, t1, t2, t3, t4] 3 (acc.set 2 v) (([o0, o1, (-(m : Int)), o3, o4] : List Int).drop 3) = cutO [t0, t1, t2, t3, t4] [o0, o1, (-(m : Int)), o3, o4] := by
            rw [← HG.out]
            show _ = cgo _ (2 + 1) (if (-(m : Int)) = 0 then acc else acc.set 2 (([t0, t1, t2, t3, t4] : List Int).getD ((-(m : Int)).natAbs - 1) 0)) _
            rw [if_neg (by omega), show (-(m : Int)).natAbs - 1 = c from by omega, ← hv]
            rfl
          have q1 : -(m : Int) < (m : Int) := by omega
          have q6 : (-(m : Int) == 0) = false := by simp; omega
          have q7 : IntKind.i64.wrap (m : Int) = (m : Int) := by rw [IntKind.wrap_i64]; omega
          have q8 : IntKind.i64.wrap ((m : Int) - 1) = (c : Int) := by rw [IntKind.wrap_i64]; omega
          have i0 : (0 : Int) ≤ (c : Int) := by omega
          have i1 : (c : Int) < 5 := by omega
          have HST := Lib.hid hstep
          clear hstep hv hz hp r1 r2 hmc
          go_wp2_with fail
          exact ⟨⟨3, acc.set 2 v, rfl, by omega, by rw [List.length_set]; exact HA.out, HST.out, by rw [tcells_set]; exact HBK.out.set_ 2 (.int .i64 v), HCH.out.setCell _ _ (fun _ => rfl)⟩, by simp [intOf]⟩
    · have HG := Lib.hid hg
      obtain ⟨r1, r2⟩ := HRG.out o3 (by simp)
      clear hg
      rw [show ((3 : Nat) : Int) = 3 from rfl]
      by_cases hz : o3 = 0
      · subst hz
        clear r1 r2
        go_wp2_with fail
        exact ⟨⟨4, acc, rfl, by omega, HA.out, by rw [← HG.out]; rfl, HBK.out, HCH.out⟩, by simp [intOf]⟩
      · by_cases hp : 0 < o3
        · obtain ⟨m, rfl⟩ : ∃ m : Nat, o3 = (m : Int) := ⟨o3.natAbs, by omega⟩
          obtain ⟨c, hmc⟩ : ∃ c, m = c + 1 := ⟨m - 1, by omega⟩
          have c5 : c < 5 := by omega
          obtain ⟨v, hv⟩ : ∃ v, v = ([t0, t1, t2, t3, t4] : List Int).getD c 0 := ⟨_, rfl⟩
          have e0 : wr.cell? ⟨w.heap.size, c, none⟩ = some (.int .i64 v) := by
            rw [HTR.out.cell, hv]
            obtain rfl | rfl | rfl | rfl | rfl : c = 0 ∨ c = 1 ∨ c = 2 ∨ c = 3 ∨ c = 4 := by omega
            all_goals rfl
          have f0 := HBK.out.frozen 3
          obtain ⟨u, hu⟩ : ∃ u, wr.cell? ⟨w.heap.size + 1 + 1 + 1, 3, none⟩ = some (.int .i64 u) := by
            rw [HBK.out.cell]
            have hl := HA.out
            simp [tcells, show 3 < acc.length by omega]
          have hstep : cgo [t0, t1, t2, t3, t4] 4 (acc.set 3 v) (([o0, o1, o2, (m : Int), o4] : List Int).drop 4) = cutO [t0, t1, t2, t3, t4] [o0, o1, o2, (m : Int), o4] := by
            rw [← HG.out]
            show _ = cgo _ (3 + 1) (if (m : Int) = 0 then acc else acc.set 3 (([t0, t1, t2, t3, t4] : List Int).getD ((m : Int).natAbs - 1) 0)) _
            rw [if_neg (by omega), show (m : Int).natAbs - 1 = c from by omega, ← hv]
            rfl
          have q1 : ¬ (m : Int) < -(m : Int) := by omega
          have q6 : ((m : Int) == 0) = false := by simp; omega
          have q7 : IntKind.i64.wrap (-(m : Int)) = -(m : Int) := by rw [IntKind.wrap_i64]; omega
          have q8 : IntKind.i64.wrap ((m : Int) - 1) = (c : Int) := by rw [IntKind.wrap_i64]; omega
          have i0 : (0 : Int) ≤ (c : Int) := by omega
          have i1 : (c : Int) < 5 := by omega
          have HST := Lib.hid hstep
          clear hstep hv hz hp r1 r2 hmc
          go_wp2_with fail
          exact ⟨⟨4, acc.set 3 v, rfl, by omega, by rw [List.length_set]; exact HA.out, HST.out, by rw [tcells_set]; exact HBK.out.set_ 3 (.int .i64 v), HCH.out.setCell _ _ (fun _ => rfl)⟩, by simp [intOf]⟩
        · obtain ⟨m, rfl⟩ : ∃ m : Nat, o3 = -(m : Int) := ⟨o3.natAbs, by omega⟩
          obtain ⟨c, hmc⟩ : ∃ c, m = c + 1 := ⟨m - 1, by omega⟩
          have c5 : c < 5 := by omega
          obtain ⟨v, hv⟩ : ∃ v, v = ([t0, t1, t2, t3, t4] : List Int).getD c 0 := ⟨_, rfl⟩
          have e0 : wr.cell? ⟨w.heap.size, c, none⟩ = some (.int .i64 v) := by
            rw [HTR.out.cell, hv]
            obtain rfl | rfl | rfl | rfl | rfl : c = 0 ∨ c = 1 ∨ c = 2 ∨ c = 3 ∨ c = 4 := by omega
            all_goals rfl
          have f0 := HBK.out.frozen 3
          obtain ⟨u, hu⟩ : ∃ u, wr.cell? ⟨w.heap.size + 1 + 1 + 1, 3, none⟩ = some (.int .i64 u) := by
            rw [HBK.out.cell]
            have hl := HA.out
            simp [tcells, show 3 < acc.length by omega]
          have hstep : cgo [t0, t1, t2, t3, t4] 4 (acc.set 3 v) (([o0, o1, o2, (-(m : Int)), o4] : List Int).drop 4) = cutO [t0, t1, t2, t3, t4] [o0, o1, o2, (-(m : Int)), o4] := by
            rw [← HG.out]
            show _ = cgo _ (3 + 1) (if (-(m : Int)) = 0 then acc else acc.set 3 (([t0, t1, t2, t3, t4] : List Int).getD ((-(m : Int)).natAbs - 1) 0)) _
            rw [if_neg (by omega), show (-(m : Int)).natAbs - 1 = c from by omega, ← hv]
            rfl
          have q1 : -(m : Int) < (m : Int) := by omega
          have q6 : (-(m : Int) == 0) = false := by simp; omega
          have q7 : IntKind.i64.wrap (m : Int) = (m : Int) := by rw [IntKind.wrap_i64]; omega
          have q8 : IntKind.i64.wrap ((m : Int) - 1) = (c : Int) := by rw [IntKind.wrap_i64]; omega
          have i0 : (0 : Int) ≤ (c : Int) := by omega
          have i1 : (c : Int) < 5 := by omega
          have HST := Lib.hid hstep
          clear hstep hv hz hp r1 r2 hmc
          go_wp2_with fail
          exact ⟨⟨4, acc.set 3 v, rfl, by omega, by rw [List.length_set]; exact HA.out, HST.out, by rw [tcells_set]; exact HBK.out.set_ 3 (.int .i64 v), HCH.out.setCell _ _ (fun _ => rfl)⟩, by simp [intOf]⟩
    · have HG := Lib.hid hg
      obtain ⟨r1, r2⟩ := HRG.out o4 (by simp)
      clear hg
      rw [show ((4 : Nat) : Int) = 4 from rfl]
      by_cases hz : o4 = 0
      · subst hz
        clear r1 r2
        go_wp2_with fail
        exact ⟨⟨5, acc, rfl, by omega, HA.out, by rw [← HG.out]; rfl, HBK.out, HCH.out⟩, by simp [intOf]⟩
      · by_cases hp : 0 < o4
        · obtain ⟨m, rfl⟩ : ∃ m : Nat, o4 = (m : Int) := ⟨o4.natAbs, by omega⟩
          obtain ⟨c, hmc⟩ : ∃ c, m = c + 1 := ⟨m - 1, by omega⟩
          have c5 : c < 5 := by omega
          obtain ⟨v, hv⟩ : ∃ v, v = ([t0, t1, t2, t3, t4] : List Int).getD c 0 := ⟨_, rfl⟩
          have e0 : wr.cell? ⟨w.heap.size, c, none⟩ = some (.int .i64 v) := by
            rw [HTR.out.cell, hv]
            obtain rfl | rfl | rfl | rfl | rfl : c = 0 ∨ c = 1 ∨ c = 2 ∨ c = 3 ∨ c = 4 := by omega
            all_goals rfl
          have f0 := HBK.out.frozen 4
          obtain ⟨u, hu⟩ : ∃ u, wr.cell? ⟨w.heap.size + 1 + 1 + 1, 4, none⟩ = some (.int .i64 u) := by
            rw [HBK.out.cell]
            have hl := HA.out
            simp [tcells, show 4 < acc.length by omega]
          have hstep : cgo [t0, t1, t2, t3, t4] 5 (acc.set 4 v) (([o0, o1, o2, o3, (m : Int)] : List Int).drop 5) = cutO [t0, t1, t2, t3, t4] [o0, o1, o2, o3, (m : Int)] := by
            rw [← HG.out]
            show _ = cgo _ (4 + 1) (if (m : Int) = 0 then acc else acc.set 4 (([t0, t1, t2, t3, t4] : List Int).getD ((m : Int).natAbs - 1) 0)) _
            rw [if_neg (by omega), show (m : Int).natAbs - 1 = c from by omega, ← hv]
            rfl
          have q1 : ¬ (m : Int) < -(m : Int) := by omega
          have q6 : ((m : Int) == 0) = false := by simp; omega
          have q7 : IntKind.i64.wrap (-(m : Int)) = -(m : Int) := by rw [IntKind.wrap_i64]; omega
          have q8 : IntKind.i64.wrap ((m : Int) - 1) = (c : Int) := by rw [IntKind.wrap_i64]; omega
          have i0 : (0 : Int) ≤ (c : Int) := by omega
          have i1 : (c : Int) < 5 := by omega
          have HST := Lib.hid hstep
          clear hstep hv hz hp r1 r2 hmc
          go_wp2_with fail
          exact ⟨⟨5, acc.set 4 v, rfl, by omega, by rw [List.length_set]; exact HA.out, HST.out, by rw [tcells_set]; exact HBK.out.set_ 4 (.int .i64 v), HCH.out.setCell _ _ (fun _ => rfl)⟩, by simp [intOf]⟩
        · obtain ⟨m, rfl⟩ : ∃ m : Nat, o4 = -(m : Int) := ⟨o4.natAbs, by omega⟩
          obtain ⟨c, hmc⟩ : ∃ c, m = c + 1 := ⟨m - 1, by omega⟩
          have c5 : c < 5 := by omega
          obtain ⟨v, hv⟩ : ∃ v, v = ([t0, t1, t2, t3, t4] : List Int).getD c 0 := ⟨_, rfl⟩
          have e0 : wr.cell? ⟨w.heap.size, c, none⟩ = some (.int .i64 v) := by
            rw [HTR.out.cell, hv]
            obtain rfl | rfl | rfl | rfl | rfl : c = 0 ∨ c = 1 ∨ c = 2 ∨ c = 3 ∨ c = 4 := by omega
            all_goals rfl
          have f0 := HBK.out.frozen 4
          obtain ⟨u, hu⟩ : ∃ u, wr.cell? ⟨w.heap.size + 1 + 1 + 1, 4, none⟩ = some (.int .i64 u) := by
            rw [HBK.out.cell]
            have hl := HA.out
            simp [tcells, show 4 < acc.length by omega]
          have hstep : cgo [t0, t1, t2, t3, t4] 5 (acc.set 4 v) (([o0, o1, o2, o3, (-(m : Int))] : List Int).drop 5) = cutO [t0, t1, t2, t3, t4] [o0, o1, o2, o3, (-(m : Int))] := by
            rw [← HG.out]
            show _ = cgo _ (4 + 1) (if (-(m : Int)) = 0 then acc else acc.set 4 (([t0, t1, t2, t3, t4] : List Int).getD ((-(m : Int)).natAbs - 1) 0)) _
            rw [if_neg (by omega), show (-(m : Int)).natAbs - 1 = c from by omega, ← hv]
            rfl
          have q1 : -(m : Int) < (m : Int) := by omega
          have q6 : (-(m : Int) == 0) = false := by simp; omega
          have q7 : IntKind.i64.wrap (m : Int) = (m : Int) := by rw [IntKind.wrap_i64]; omega
          have q8 : IntKind.i64.wrap ((m : Int) - 1) = (c : Int) := by rw [IntKind.wrap_i64]; omega
          have i0 : (0 : Int) ≤ (c : Int) := by omega
          have i1 : (c : Int) < 5 := by omega
          have HST := Lib.hid hstep
          clear hstep hv hz hp r1 r2 hmc
          go_wp2_with fail
          exact ⟨⟨5, acc.set 4 v, rfl, by omega, by rw [List.length_set]; exact HA.out, HST.out, by rw [tcells_set]; exact HBK.out.set_ 4 (.int .i64 v), HCH.out.setCell _ _ (fun _ => rfl)⟩, by simp [intOf]⟩
    · rw [show ((5 : Nat) : Int) = 5 from rfl]
      obtain ⟨a0, a1, a2, a3, a4, rfl⟩ : ∃ a0 a1 a2 a3 a4 : Int, acc = [a0, a1, a2, a3, a4] := by
        match acc, HA.out with
        | [a, b, c, d, e], _ => exact ⟨_, _, _, _, _, rfl⟩
      have HG := Lib.hid (hg : [a0, a1, a2, a3, a4] = _)
      clear hg
      have hRr := HR2.out.chg HCH.out (by omega)
      have HRR := Lib.hid hRr
      have y0 : wr.cell? ⟨w.heap.size + 1 + 1 + 1, 0, none⟩ = some (.int .i64 a0) := HBK.out.cell 0
      have y1 : wr.cell? ⟨w.heap.size + 1 + 1 + 1, 1, none⟩ = some (.int .i64 a1) := HBK.out.cell 1
      have y2 : wr.cell? ⟨w.heap.size + 1 + 1 + 1, 2, none⟩ = some (.int .i64 a2) := HBK.out.cell 2
      have y3 : wr.cell? ⟨w.heap.size + 1 + 1 + 1, 3, none⟩ = some (.int .i64 a3) := HBK.out.cell 3
      have y4 : wr.cell? ⟨w.heap.size + 1 + 1 + 1, 4, none⟩ = some (.int .i64 a4) := HBK.out.cell 4
      have z0 : wr.cell? ⟨w.heap.size + 1 + 1, 0, none⟩ = some (.int .i64 0) := hRr.cell 0
      have f0 := hRr.frozen 0
      have z1 : wr.cell? ⟨w.heap.size + 1 + 1, 1, none⟩ = some (.int .i64 0) := hRr.cell 1
      have f1 := hRr.frozen 1
      have z2 : wr.cell? ⟨w.heap.size + 1 + 1, 2, none⟩ = some (.int .i64 0) := hRr.cell 2
      have f2 := hRr.frozen 2
      have z3 : wr.cell? ⟨w.heap.size + 1 + 1, 3, none⟩ = some (.int .i64 0) := hRr.cell 3
      have f3 := hRr.frozen 3
      have z4 : wr.cell? ⟨w.heap.size + 1 + 1, 4, none⟩ = some (.int .i64 0) := hRr.cell 4
      have f4 := hRr.frozen 4
      have HZ := Lib.hid (((((HRR.out.set_ 0 (.int .i64 a0)).set_ 1 (.int .i64 a1)).set_ 2 (.int .i64 a2)).set_ 3 (.int .i64 a3)).set_ 4 (.int .i64 a4))
      have HBB := Lib.hid (((((((HB2.out.trans (HCH.out.below_of (by have := HB2.out.size; omega) (fun j hj e => by omega)))).setCell (p := ⟨w.heap.size + 1 + 1, 0, none⟩) (show w.heap.size ≤ w.heap.size + 1 + 1 by omega) (.int .i64 a0)).setCell (p := ⟨w.heap.size + 1 + 1, 1, none⟩) (show w.heap.size ≤ w.heap.size + 1 + 1 by omega) (.int .i64 a1)).setCell (p := ⟨w.heap.size + 1 + 1, 2, none⟩) (show w.heap.size ≤ w.heap.size + 1 + 1 by omega) (.int .i64 a2)).setCell (p := ⟨w.heap.size + 1 + 1, 3, none⟩) (show w.heap.size ≤ w.heap.size + 1 + 1 by omega) (.int .i64 a3)).setCell (p := ⟨w.heap.size + 1 + 1, 4, none⟩) (show w.heap.size ≤ w.heap.size + 1 + 1 by omega) (.int .i64 a4))
      clear hRr
      go_wp2_with fail
      generalize (((((wr.setCell ⟨w.heap.size + 1 + 1, 0, none⟩ (.int .i64 a0)).setCell ⟨w.heap.size + 1 + 1, 1, none⟩ (.int .i64 a1)).setCell ⟨w.heap.size + 1 + 1, 2, none⟩ (.int .i64 a2)).setCell ⟨w.heap.size + 1 + 1, 3, none⟩ (.int .i64 a3)).setCell ⟨w.heap.size + 1 + 1, 4, none⟩ (.int .i64 a4)) = w9 at *
      have s0 : w9.cell? ⟨w.heap.size + 1 + 1, 0, none⟩ = some (.int .i64 a0) := HZ.out.cell 0
      have s1 : w9.cell? ⟨w.heap.size + 1 + 1, 1, none⟩ = some (.int .i64 a1) := HZ.out.cell 1
      have s2 : w9.cell? ⟨w.heap.size + 1 + 1, 2, none⟩ = some (.int .i64 a2) := HZ.out.cell 2
      have s3 : w9.cell? ⟨w.heap.size + 1 + 1, 3, none⟩ = some (.int .i64 a3) := HZ.out.cell 3
      have s4 : w9.cell? ⟨w.heap.size + 1 + 1, 4, none⟩ = some (.int .i64 a4) := HZ.out.cell 4
      refine bodyPost_ret (v := .agg #[.int .i64 a0, .int .i64 a1, .int .i64 a2, .int .i64 a3, .int .i64 a4]) (by simp [results, Try.results61, go_sem, s0, s1, s2, s3, s4]; try rfl) rfl ?_
      exact ⟨by rw [← HG.out]; rfl, HBB.out⟩

end Go.Proofs.Ytlbaigkpojkfjaa.Fl
