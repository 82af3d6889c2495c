/- A device: what its fields hold, and the walks of its small methods. -/
import Derived.Test.YtodjibhnmibedaaRows
import Derived.Test.YtodjibhnmibedaaHeap
import Derived.Laws.OwnMore
import Derived.Lib.LazyBuf
import Derived.StillTailTactics
import Derived.Shelf.SlMaps.Clone
set_option linter.unusedVariables false
namespace Go.Proofs.Ytodjibhnmibedaa.Dev
open Go.RowKit

theorem el_u64 : Elem Try.prog 29 22 1 8 := elem_of (z := .int .u64 0) Try.underlying29 (by kernel_rfl) rfl (by decide)

@[go_sem] theorem nil_u64 (w : World) (a : Option Addr) (n c : Nat) : (binOp .eql 29 (.slice a n c) (.slice none 0 0)).run Try.prog w = .ok (.bool a.isNone) w :=
  Lib.run_eql_slice_nil (P := Try.prog) w 29 22 a n c 0 0 Try.underlying29

set_option maxRecDepth 100000 in
set_option maxHeartbeats 400000 in
theorem clone_u64 (a : Option Addr) (n c : Nat) (xs : List Value) (w : World) (hr : Row w a xs) (hn : xs.length = n) (h1 : ∀ u ∈ xs, u.oneCell' = true) (hm : n ≤ 1099511627776) (h0 : a = none → n = 0 ∧ c = 0) :
    Calls Try.prog 42 #[.slice a n c] w (RetOwn w.heap.size 22 1 n xs w) := by
  cases a with
  | none =>
    obtain ⟨rfl, rfl⟩ := h0 rfl
    obtain rfl := List.eq_nil_of_length_eq_zero hn
    go_enter Try.func42, Try.ntmps42
    go_wp2_with fail
    go_ret
    exact ⟨_, rfl, World.ownsRow_nil _ _ _ _, Below.refl _ _⟩
  | some ad =>
    go_enter Try.func42, Try.ntmps42
    go_wp2_with (at_builtin; go_must (refine wpList_append rfl (.tmp 5) (.tmp 6) _ rfl el_u64 w.heap.size _ 0 [] rfl (World.ownsRow_made w #[] 0 (Nat.le_refl _) (by decide) rfl) (some ad) n c xs rfl (by omega) (hr.below ((Below.refl _ _).alloc (Nat.le_refl _) _)) h1 (by unfold maxLen; omega) (by omega) (by simp) ?_))
    intro v w1 hown _ _ hb
    go_wp2_with fail
    go_ret
    exact ⟨_, rfl, hown, ((Below.refl _ _).alloc (Nat.le_refl _) _).trans hb⟩

/-- What a device holds: sizes, the blocks that last and that stand now, what was written since the last Sync, fuse, fault. -/
structure Dv where
  size : Nat
  blocks : Nat
  lasts : Int → Option (List Value)
  now : Int → Option (List Value)
  pend : List (Int × List Value)
  fuse : Int
  fault : Int
  down : Bool
  acts : Nat

def Dv.blow (D : Dv) : Dv := { D with down := true }
def Dv.burn (D : Dv) : Dv := { D with fuse := if 0 < D.fuse then D.fuse - 1 else D.fuse }
def Dv.fail (D : Dv) : Dv := { D with fault := -1 }
def Dv.done (D : Dv) : Dv := { D with fault := if 0 < D.fault then D.fault - 1 else D.fault, acts := D.acts + 1 }
/-- An act's share of fuse and fault: the error, and the device behind it. -/
def Dv.act (D : Dv) : Int × Dv :=
  if D.fuse = 0 then (8, D.blow) else if D.fault = 0 then (6, D.burn.fail) else (0, D.burn.done)

def dcells (D : Dv) (rl rn : Nat) (pv : Value) : Array Value :=
  #[.int .i64 (D.size : Int), .int .i64 (D.blocks : Int), .map (some rl), .map (some rn), pv, .int .i64 D.fuse, .int .i64 D.fault, .bool D.down, .int .i64 (D.acts : Int)]

/-- The device's own block. -/
abbrev Box (w : World) (a : Nat) (D : Dv) (rl rn : Nat) (pv : Value) : Prop := Blk w a 81 (dcells D rl rn pv)

def NumOk (x : Int) : Prop := -1 ≤ x ∧ x ≤ 9223372036854775807
/-- All blocks have as many words. -/
structure Fit (D : Dv) : Prop where
  size : 8 ≤ D.size ∧ D.size ≤ 256
  blocks : D.blocks ≤ 1000000
  now : ∀ k ws, D.now k = some ws → ws.length = D.size
  lasts : ∀ k ws, D.lasts k = some ws → ws.length = D.size
  pend : ∀ p ∈ D.pend, p.2.length = D.size
  len : D.pend.length ≤ D.acts
/-- Fuse, fault and the number of acts lie where they can be counted. -/
structure Nums (D : Dv) : Prop where
  fuse : NumOk D.fuse
  fault : NumOk D.fault
  acts : D.acts < 4611686018427387904
  fit : Fit D

theorem Dv.act_nums {D : Dv} (h : Nums D) (h2 : D.acts + 1 < 4611686018427387904) : Nums D.act.2 := by
  obtain ⟨h3, h4, h5, h6⟩ := h
  unfold NumOk at *
  unfold Dv.act
  split
  · exact ⟨h3, h4, h5, ⟨h6.1, h6.2, h6.3, h6.4, h6.5, h6.6⟩⟩
  · split
    · refine ⟨?_, by unfold NumOk Dv.fail Dv.burn; simp, h5, ⟨h6.1, h6.2, h6.3, h6.4, h6.5, h6.6⟩⟩
      unfold NumOk Dv.fail Dv.burn
      simp only
      split <;> omega
    · refine ⟨?_, ?_, h2, ⟨h6.1, h6.2, h6.3, h6.4, h6.5, Nat.le_succ_of_le h6.6⟩⟩
      · unfold NumOk Dv.done Dv.burn
        simp only
        split <;> omega
      · unfold NumOk Dv.done Dv.burn
        simp only
        split <;> omega

section
variable {w : World} {a : Nat} {D : Dv} {rl rn : Nat} {pv : Value}

set_option maxRecDepth 100000 in
theorem down_any (h : Box w a D rl rn pv) :
    Calls Try.prog 20 #[.pointer (some ⟨a, 0, none⟩)] w fun e w' => e = .returned (.bool D.down) ∧ w = w' := by
  have c7 : w.cell? ⟨a, 7, none⟩ = some (.bool D.down) := h.cell 7
  go_enter Try.func20, Try.ntmps20
  go_wp2_with fail
  go_ret
  exact ⟨rfl, rfl⟩

set_option maxRecDepth 100000 in
theorem down_nil (w : World) :
    Calls Try.prog 20 #[.pointer none] w fun e w' => e = .returned (.bool true) ∧ w = w' := by
  go_enter Try.func20, Try.ntmps20
  go_wp2_with fail
  go_ret
  exact ⟨rfl, rfl⟩

def Acted (w : World) (a : Nat) (D : Dv) (rl rn : Nat) (pv : Value) (e : Ending) (w' : World) : Prop :=
  e = .returned (.int .i64 D.act.1) ∧ Box w' a D.act.2 rl rn pv ∧ Chg (fun k => k = a) w w'

theorem acted_close {w w' : World} {a : Nat} {D D' : Dv} {rl rn : Nat} {pv : Value} {n : Int} {cs : Array Value} (hb : Blk w' a 81 cs) (hc : Chg (fun k => k = a) w w') (h : D.act = (n, D')) (he : cs = dcells D' rl rn pv) :
    Acted w a D rl rn pv (.returned (.int .i64 n)) w' := by
  refine ⟨by rw [h], ?_, hc⟩
  rw [h]
  subst he
  exact hb

set_option maxRecDepth 100000 in
set_option maxHeartbeats 1000000 in
theorem act_any (h : Box w a D rl rn pv) (hn : Nums D) :
    Calls Try.prog 41 #[.pointer (some ⟨a, 0, none⟩)] w (Acted w a D rl rn pv) := by
  obtain ⟨⟨f1, f2⟩, ⟨g1, g2⟩, hacts, -⟩ := hn
  have c5 : w.cell? ⟨a, 5, none⟩ = some (.int .i64 D.fuse) := h.cell 5
  have c6 : w.cell? ⟨a, 6, none⟩ = some (.int .i64 D.fault) := h.cell 6
  have c7 : w.cell? ⟨a, 7, none⟩ = some (.bool D.down) := h.cell 7
  have c8 : w.cell? ⟨a, 8, none⟩ = some (.int .i64 (D.acts : Int)) := h.cell 8
  have z5 := h.frozen 5
  have z6 := h.frozen 6
  have z7 := h.frozen 7
  have z8 := h.frozen 8
  have ha1 : (D.acts : Int) < 4611686018427387904 := by omega
  have hg : ∀ i v, Chg (fun k => k = a) w (w.setCell ⟨a, i, none⟩ v) := fun i v => (Chg.refl _ w).setCell _ _ (fun _ => rfl)
  have HG := Lib.hid hg
  clear hacts hg
  by_cases hf : D.fuse = 0
  · have e0 : (D.fuse == 0) = true := by simp [hf]
    have hact : D.act = (8, D.blow) := by unfold Dv.act; rw [if_pos hf]
    have HACT := Lib.hid hact
    clear hact hf
    go_enter Try.func41, Try.ntmps41
    go_wp2_with fail
    go_ret
    exact acted_close (h.set_ 7 (.bool true)) (HG.out _ _) HACT.out rfl
  · have e0 : (D.fuse == 0) = false := by simp [hf]
    have hb : D.burn = if 0 < D.fuse then { D with fuse := D.fuse - 1 } else D := by unfold Dv.burn; split <;> rfl
    by_cases hq : D.fault = 0
    · have e1 : (D.fault == 0) = true := by simp [hq]
      have hact : D.act = (6, D.burn.fail) := by unfold Dv.act; rw [if_neg hf, if_pos hq]
      by_cases hp : 0 < D.fuse
      · rw [hb, if_pos hp] at hact
        have HACT := Lib.hid hact
        clear hact hf hq hb
        go_enter Try.func41, Try.ntmps41
        go_wp2_with fail
        go_ret
        exact acted_close ((h.set_ 5 _).set_ 6 _) ((HG.out 5 _).setCell _ _ (fun _ => rfl)) HACT.out rfl
      · rw [hb, if_neg hp] at hact
        have HACT := Lib.hid hact
        clear hact hf hq hb
        go_enter Try.func41, Try.ntmps41
        go_wp2_with fail
        go_ret
        exact acted_close (h.set_ 6 _) (HG.out _ _) HACT.out rfl
    · have e1 : (D.fault == 0) = false := by simp [hq]
      have hact : D.act = (0, D.burn.done) := by unfold Dv.act; rw [if_neg hf, if_neg hq]
      have hd : ∀ E : Dv, E.done = if 0 < E.fault then { E with fault := E.fault - 1, acts := E.acts + 1 } else { E with acts := E.acts + 1 } := fun E => by unfold Dv.done; split <;> rfl
      by_cases hp : 0 < D.fuse
      · rw [hb, if_pos hp, hd] at hact
        by_cases hr : 0 < D.fault
        · rw [if_pos hr] at hact
          have HACT := Lib.hid hact
          clear hact hf hq hb hd
          go_enter Try.func41, Try.ntmps41
          go_wp2_with fail
          go_ret
          exact acted_close (((h.set_ 5 _).set_ 6 _).set_ 8 _) (((HG.out 5 _).setCell _ _ (fun _ => rfl)).setCell _ _ (fun _ => rfl)) HACT.out rfl
        · rw [if_neg hr] at hact
          have HACT := Lib.hid hact
          clear hact hf hq hb hd
          go_enter Try.func41, Try.ntmps41
          go_wp2_with fail
          go_ret
          exact acted_close ((h.set_ 5 _).set_ 8 _) ((HG.out 5 _).setCell _ _ (fun _ => rfl)) HACT.out rfl
      · rw [hb, if_neg hp, hd] at hact
        by_cases hr : 0 < D.fault
        · rw [if_pos hr] at hact
          have HACT := Lib.hid hact
          clear hact hf hq hb hd
          go_enter Try.func41, Try.ntmps41
          go_wp2_with fail
          go_ret
          exact acted_close ((h.set_ 6 _).set_ 8 _) ((HG.out 6 _).setCell _ _ (fun _ => rfl)) HACT.out rfl
        · rw [if_neg hr] at hact
          have HACT := Lib.hid hact
          clear hact hf hq hb hd
          go_enter Try.func41, Try.ntmps41
          go_wp2_with fail
          go_ret
          exact acted_close (h.set_ 8 _) (HG.out _ _) HACT.out rfl
end

end Go.Proofs.Ytodjibhnmibedaa.Dev
