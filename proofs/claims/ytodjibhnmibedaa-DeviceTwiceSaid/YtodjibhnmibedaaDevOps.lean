/- The walks of New, Size, Blocks, Acts, SetFuse, SetFault, Read and Write of a device. -/
import Derived.Test.YtodjibhnmibedaaDevMap
set_option linter.unusedVariables false
namespace Go.Proofs.Ytodjibhnmibedaa.Dev
open Go.RowKit

theorem below_d {B : Nat} {w w' : World} (h : Below B w w') (n : Nat) : Below B w (w'.drewN n) := h.trans ⟨rfl, rfl, rfl, Nat.le_refl _, fun _ _ => rfl⟩

def fresh (size blocks : Nat) : Dv := { size := size, blocks := blocks, lasts := fun _ => none, now := fun _ => none, pend := [], fuse := -1, fault := -1, down := false, acts := 0 }
theorem fresh_nums (size blocks : Nat) (h8 : 8 ≤ size) (h256 : size ≤ 256) (hb : blocks ≤ 1000000) : Nums (fresh size blocks) :=
  ⟨by unfold NumOk fresh; simp, by unfold NumOk fresh; simp, by simp [fresh], ⟨⟨h8, h256⟩, hb, (fun _ _ h => by cases h), (fun _ _ h => by cases h), (fun _ h => by cases h), Nat.le_refl _⟩⟩

/-- What New asks. -/
def NewFits (size blocks : Int) : Prop := 8 ≤ size ∧ size ≤ 256 ∧ 0 ≤ blocks ∧ blocks ≤ 1000000

def Made (w : World) (size blocks : Nat) (e : Ending) (w' : World) : Prop :=
  e = .returned (.tuple #[.pointer (some ⟨w.heap.size + 2, 0, none⟩), .int .i64 0]) ∧ (∀ base, At w' base (w.heap.size + 2) w.heap.size (w.heap.size + 1) (.slice none 0 0) (fresh size blocks)) ∧ Below w.heap.size w w' ∧ w'.heap.size = w.heap.size + 3

set_option maxRecDepth 100000 in
theorem new_ok (size blocks : Nat) (w : World) (h8 : 8 ≤ size) (h256 : size ≤ 256) (hb : blocks ≤ 1000000) :
    Calls Try.prog 13 #[.int .i64 (size : Int), .int .i64 (blocks : Int)] w (Made w size blocks) := by
  have e1 : decide ((size : Int) < 8) = false := by simp; omega
  have e2 : decide (256 < (size : Int)) = false := by simp; omega
  have e3 : decide ((blocks : Int) < 0) = false := by simp
  have e4 : decide (1000000 < (blocks : Int)) = false := by simp; omega
  have hmm := @run_makeMap Try.prog
  go_enter Try.func13, Try.ntmps13
  go_wp2_with fail
  go_ret2
  have b1 : Below w.heap.size w (((w.alloc (.map #[] 0)).alloc (.map #[] 0)).alloc (.cells (dcells (fresh size blocks) w.heap.size (w.heap.size + 1) (.slice none 0 0)) 81)) :=
    (((Below.refl w.heap.size w).alloc (Nat.le_refl _) _).alloc (by simp) _).alloc (by simp; omega) _
  refine ⟨rfl, fun base => ?_, b1, by simp⟩
  have m1 := ((DMap.new w base).chg (((Chg.refl (fun _ => False) _).alloc (.map #[] 0)).alloc (.cells (dcells (fresh size blocks) w.heap.size (w.heap.size + 1) (.slice none 0 0)) 81)) (fun h => h) (fun _ _ _ _ h => h))
  have m2 := ((DMap.new (w.alloc (.map #[] 0)) base).chg ((Chg.refl (fun _ => False) _).alloc (.cells (dcells (fresh size blocks) w.heap.size (w.heap.size + 1) (.slice none 0 0)) 81)) (fun h => h) (fun _ _ _ _ h => h))
  rw [show (w.alloc (.map #[] 0)).heap.size = w.heap.size + 1 from by simp] at m2
  have m3 := Blk.new ((w.alloc (.map #[] 0)).alloc (.map #[] 0)) 81 (dcells (fresh size blocks) w.heap.size (w.heap.size + 1) (.slice none 0 0))
  rw [show ((w.alloc (.map #[] 0)).alloc (.map #[] 0)).heap.size = w.heap.size + 2 from by simp] at m3
  exact ⟨m3, by omega, m1, m2, Pend.nil _ _, fresh_nums _ _ h8 h256 hb⟩

set_option maxRecDepth 100000 in
theorem new_no (size blocks : Int) (w : World) (h : ¬ NewFits size blocks) :
    Calls Try.prog 13 #[.int .i64 size, .int .i64 blocks] w fun e w' => e = .returned (.tuple #[.pointer none, .int .i64 1]) ∧ w = w' := by
  unfold NewFits at h
  by_cases e1 : size < 8
  · clear h
    go_enter Try.func13, Try.ntmps13
    go_wp2_with fail
    go_ret2
    exact ⟨rfl, rfl⟩
  by_cases e2 : 256 < size
  · clear h
    go_enter Try.func13, Try.ntmps13
    go_wp2_with fail
    go_ret2
    exact ⟨rfl, rfl⟩
  by_cases e3 : blocks < 0
  · clear h
    go_enter Try.func13, Try.ntmps13
    go_wp2_with fail
    go_ret2
    exact ⟨rfl, rfl⟩
  have e4 : 1000000 < blocks := by omega
  clear h
  go_enter Try.func13, Try.ntmps13
  go_wp2_with fail
  go_ret2
  exact ⟨rfl, rfl⟩

section
variable {w : World} {a rl rn base : Nat} {pv : Value} {D : Dv}

theorem size_any (h : Box w a D rl rn pv) : Calls Try.prog 25 #[.pointer (some ⟨a, 0, none⟩)] w fun e w' => e = .returned (.int .i64 (D.size : Int)) ∧ w = w' := by
  have c : w.cell? ⟨a, 0, none⟩ = some (.int .i64 (D.size : Int)) := h.cell 0
  go_enter Try.func25, Try.ntmps25
  go_wp2_with fail
  go_ret
  exact ⟨rfl, rfl⟩
theorem blocks_any (h : Box w a D rl rn pv) : Calls Try.prog 26 #[.pointer (some ⟨a, 0, none⟩)] w fun e w' => e = .returned (.int .i64 (D.blocks : Int)) ∧ w = w' := by
  have c : w.cell? ⟨a, 1, none⟩ = some (.int .i64 (D.blocks : Int)) := h.cell 1
  go_enter Try.func26, Try.ntmps26
  go_wp2_with fail
  go_ret
  exact ⟨rfl, rfl⟩
theorem acts_any (h : Box w a D rl rn pv) : Calls Try.prog 19 #[.pointer (some ⟨a, 0, none⟩)] w fun e w' => e = .returned (.int .i64 (D.acts : Int)) ∧ w = w' := by
  have c : w.cell? ⟨a, 8, none⟩ = some (.int .i64 (D.acts : Int)) := h.cell 8
  go_enter Try.func19, Try.ntmps19
  go_wp2_with fail
  go_ret
  exact ⟨rfl, rfl⟩

def Dv.setFuse (D : Dv) (n : Int) : Dv := { D with fuse := max n (-1) }
def Dv.setFault (D : Dv) (n : Int) : Dv := { D with fault := max n (-1) }

set_option maxRecDepth 100000 in
theorem setfuse_any (n : Int) (h : Box w a D rl rn pv) : Calls Try.prog 16 #[.pointer (some ⟨a, 0, none⟩), .int .i64 n] w fun e w' => e = .returned (.tuple #[]) ∧ Box w' a (D.setFuse n) rl rn pv ∧ Chg (fun k => k = a) w w' := by
  have z := h.frozen 5
  have c : w.cell? ⟨a, 5, none⟩ = some (.int .i64 D.fuse) := h.cell 5
  have hg := fun v => (Chg.refl (fun k => k = a) w).setCell ⟨a, 5, none⟩ (.int .i64 v) (fun _ => rfl)
  have hb := fun v => h.set_ 5 (.int .i64 v)
  have HG := Lib.hid hg
  have HB := Lib.hid hb
  clear hg hb
  rcases Int.lt_or_le n (-1) with hn | hn
  · have hm : D.setFuse n = { D with fuse := -1 } := by unfold Dv.setFuse; rw [show max n (-1) = -1 from by omega]
    have HM := Lib.hid hm
    clear hm
    go_enter Try.func16, Try.ntmps16
    go_wp2_with fail
    go_end0
    exact ⟨rfl, HM.out ▸ HB.out _, HG.out _⟩
  · have hm : D.setFuse n = { D with fuse := n } := by unfold Dv.setFuse; rw [show max n (-1) = n from by omega]
    have HM := Lib.hid hm
    clear hm
    go_enter Try.func16, Try.ntmps16
    go_wp2_with fail
    go_end0
    exact ⟨rfl, HM.out ▸ HB.out _, HG.out _⟩

set_option maxRecDepth 100000 in
theorem setfault_any (n : Int) (h : Box w a D rl rn pv) : Calls Try.prog 17 #[.pointer (some ⟨a, 0, none⟩), .int .i64 n] w fun e w' => e = .returned (.tuple #[]) ∧ Box w' a (D.setFault n) rl rn pv ∧ Chg (fun k => k = a) w w' := by
  have z := h.frozen 6
  have c : w.cell? ⟨a, 6, none⟩ = some (.int .i64 D.fault) := h.cell 6
  have hg := fun v => (Chg.refl (fun k => k = a) w).setCell ⟨a, 6, none⟩ (.int .i64 v) (fun _ => rfl)
  have hb := fun v => h.set_ 6 (.int .i64 v)
  have HG := Lib.hid hg
  have HB := Lib.hid hb
  clear hg hb
  rcases Int.lt_or_le n (-1) with hn | hn
  · have hm : D.setFault n = { D with fault := -1 } := by unfold Dv.setFault; rw [show max n (-1) = -1 from by omega]
    have HM := Lib.hid hm
    clear hm
    go_enter Try.func17, Try.ntmps17
    go_wp2_with fail
    go_end0
    exact ⟨rfl, HM.out ▸ HB.out _, HG.out _⟩
  · have hm : D.setFault n = { D with fault := n } := by unfold Dv.setFault; rw [show max n (-1) = n from by omega]
    have HM := Lib.hid hm
    clear hm
    go_enter Try.func17, Try.ntmps17
    go_wp2_with fail
    go_end0
    exact ⟨rfl, HM.out ▸ HB.out _, HG.out _⟩

end

end Go.Proofs.Ytodjibhnmibedaa.Dev
