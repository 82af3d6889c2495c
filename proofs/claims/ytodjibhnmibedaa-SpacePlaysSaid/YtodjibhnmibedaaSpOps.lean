/- The walks of a space's small functions: end, behind, inside. -/
import Derived.Test.YtodjibhnmibedaaSpRep3
import Derived.Deep.RegionHeld3
import Derived.IntWalk
set_option linter.unusedVariables false
namespace Go.Proofs.Ytodjibhnmibedaa.Sp
open Go.RowKit

set_option maxRecDepth 100000 in
theorem end_any (F B : Int) (w : World) (hF : -4000000000 ≤ F ∧ F ≤ 4000000000) (hB : -4000000000 ≤ B ∧ B ≤ 4000000000) :
    Calls Try.prog 46 #[.agg #[.int .i64 F, .int .i64 B]] w fun e w' => e = .returned (.int .i64 (F + B)) ∧ Below w.heap.size w w' := by
  have h1 := (Below.refl w.heap.size w).alloc (Nat.le_refl _) (.cells #[.int .i64 F, .int .i64 B] 69)
  have H1 := Lib.hid h1
  clear h1
  go_enter Try.func46, Try.ntmps46
  go_wp2_with fail
  go_ret
  exact ⟨rfl, H1.out⟩

/-- A space: its block, its free extents, whose row has a block of its own. -/
structure SpAt (w : World) (s : Nat) (F B : Nat) (v : Value) (L : List Ext) (base : Nat) : Prop where
  blk : Blk w s 88 #[.int .i64 (F : Int), .int .i64 (B : Int), v]
  own : w.ownsRow base 69 2 v L.length (flatX L)
  F_le : F ≤ 1000000
  B_le : B ≤ 1000000
  L_le : L.length ≤ 1000000
  in_ : ∀ e ∈ L, e.1 + e.2 ≤ 4000000
theorem SpAt.below {w w' : World} {s F B : Nat} {v : Value} {L : List Ext} {base : Nat} (h : SpAt w s F B v L base) (hb : Below w.heap.size w w') : SpAt w' s F B v L base :=
  ⟨h.blk.below hb h.blk.lt, own_chg h.own (Chg.of_below' (S := fun _ => False) hb) (fun _ _ h => h), h.F_le, h.B_le, h.L_le, h.in_⟩
theorem SpAt.slice {w : World} {s F B : Nat} {v : Value} {L : List Ext} {base : Nat} (h : SpAt w s F B v L base) : ∃ a c, v = .slice a L.length c ∧ L.length ≤ c ∧ c ≤ 9223372036854775807 := by
  obtain ⟨_, hv⟩ := XBlk.of_own h.own
  rcases hv with ⟨rfl, h0⟩ | ⟨g, cap, rest, rfl, _, _, hX⟩
  · subst h0; exact ⟨none, 0, rfl, Nat.le_refl _, by omega⟩
  · have h1 := hX.len
    have h2 := hX.cap
    unfold maxLen at h2
    exact ⟨_, cap, rfl, by omega, by omega⟩
theorem SpAt.elem {w : World} {s F B : Nat} {a : Option Addr} {n c : Nat} {L : List Ext} {base : Nat} (h : SpAt w s F B (.slice a n c) L base) {k : Nat} (hk : k < L.length) :
    ∃ g, a = some ⟨g, 0, none⟩ ∧ w.cell? ⟨g, k * 2, none⟩ = some (.int .i64 (L[k].1 : Int)) ∧ w.cell? ⟨g, k * 2 + 1, none⟩ = some (.int .i64 (L[k].2 : Int)) ∧ L[k].1 ≤ 4000000 ∧ L[k].2 ≤ 4000000 := by
  obtain ⟨_, hv⟩ := XBlk.of_own h.own
  rcases hv with ⟨_, h0⟩ | ⟨g, cap, rest, hv, _, _, hX⟩
  · subst h0; simp at hk
  · injection hv with h1 h2 h3
    obtain ⟨e1, e2⟩ := flatX_get L k hk
    have hl : k * 2 + 1 < (flatX L).length := by rw [flatX_length]; omega
    have hi := h.in_ _ (List.getElem_mem hk)
    refine ⟨g, h1, ?_, ?_, by omega, by omega⟩
    · rw [hX.blk.cell, List.getElem?_toArray, List.getElem?_append_left (by omega), e1]
    · rw [hX.blk.cell, List.getElem?_toArray, List.getElem?_append_left (by omega), e2]

/-- Does the extent k end behind the block? -/
def endsB (L : List Ext) (b : Int) (k : Nat) : Bool := decide (b < ((L.getD k (0, 0)).1 : Int) + ((L.getD k (0, 0)).2 : Int))

set_option maxRecDepth 100000 in
set_option maxHeartbeats 1000000 in
theorem behind1_any (s F B : Nat) (v : Value) (L : List Ext) (base : Nat) (b : Int) (b1 b2 k : Nat) (w : World) (h : SpAt w s F B v L base) (h1 : w.cell? ⟨b1, 0, none⟩ = some (.pointer (some ⟨s, 0, none⟩))) (h2 : w.cell? ⟨b2, 0, none⟩ = some (.int .i64 b)) (hk : k < L.length) :
    Calls Try.prog 54 #[.int .i64 (k : Int), .pointer (some ⟨b1, 0, none⟩), .pointer (some ⟨b2, 0, none⟩)] w fun e w' => e = .returned (.bool (endsB L b k)) ∧ Below w.heap.size w w' := by
  obtain ⟨a, c, rfl, hc1, hc2⟩ := h.slice
  obtain ⟨g, rfl, e1, e2, e3, e4⟩ := h.elem hk
  have hs : w.cell? ⟨s, 2, none⟩ = some (.slice (some ⟨g, 0, none⟩) L.length c) := h.blk.cell 2
  have hp : endsB L b k = decide (b < (L[k].1 : Int) + (L[k].2 : Int)) := by
    unfold endsB
    rw [List.getD_eq_getElem?_getD, List.getElem?_eq_getElem hk]
    rfl
  rw [hp]
  clear hp
  have lt1 := (cell_lt h1).1
  have lt2 := (cell_lt h2).1
  have lt3 := (cell_lt hs).1
  have lt4 := (cell_lt e1).1
  simp only at lt1 lt2 lt3 lt4
  generalize L[k].1 = x at *
  generalize L[k].2 = y at *
  have s1 : (0 : Int) ≤ (k : Int) := by omega
  have s2 : (k : Int) < (L.length : Int) := by omega
  have HC := Lib.hid (fun W (hb : Below w.heap.size w W) => (⟨by rw [hb.cell lt1, h1], by rw [hb.cell lt2, h2], by rw [hb.cell lt3, hs], by rw [hb.cell lt4, e1], by rw [hb.cell (show (⟨g, k * 2 + 1, none⟩ : Addr).block < w.heap.size from lt4), e2]⟩ :
    W.cell? ⟨b1, 0, none⟩ = some (.pointer (some ⟨s, 0, none⟩)) ∧ W.cell? ⟨b2, 0, none⟩ = some (.int .i64 b) ∧ W.cell? ⟨s, 2, none⟩ = some (.slice (some ⟨g, 0, none⟩) L.length c) ∧ W.cell? ⟨g, k * 2, none⟩ = some (.int .i64 (x : Int)) ∧ W.cell? ⟨g, k * 2 + 1, none⟩ = some (.int .i64 (y : Int))))
  have HE := Lib.hid (fun W (hb : Below w.heap.size w W) => (end_any (x : Int) (y : Int) W ⟨by omega, by omega⟩ ⟨by omega, by omega⟩).mono (fun e w2 (he : e = .returned (.int .i64 ((x : Int) + y)) ∧ Below W.heap.size W w2) => (⟨he.1, hb.trans (he.2.mono hb.size)⟩ : e = .returned (.int .i64 ((x : Int) + y)) ∧ Below w.heap.size w w2)))
  clear h
  go_enter Try.func54, Try.ntmps54
  go_wp2_with fail
  have hd0 : Below w.heap.size w w.drew := (Below.refl _ _).drew
  go_region_held3 (fun w' => Below w.heap.size w w' ∧ w'.cell? ⟨b1, 0, none⟩ = some (.pointer (some ⟨s, 0, none⟩)) ∧ w'.cell? ⟨b2, 0, none⟩ = some (.int .i64 b) ∧ w'.cell? ⟨s, 2, none⟩ = some (.slice (some ⟨g, 0, none⟩) L.length c) ∧ w'.cell? ⟨g, k * 2, none⟩ = some (.int .i64 (x : Int)) ∧ w'.cell? ⟨g, k * 2 + 1, none⟩ = some (.int .i64 (y : Int)))
    (exact ⟨by assumption, (HC.out _ (by assumption)).1, (HC.out _ (by assumption)).2.1, (HC.out _ (by assumption)).2.2.1, (HC.out _ (by assumption)).2.2.2.1, (HC.out _ (by assumption)).2.2.2.2⟩)
    ((go_at_call 46; refine (HE.out _ (by assumption)).mono ?_; rintro e w10 ⟨rfl, hb10⟩))
  all_goals
    go_wp2_with fail
    go_ret
    exact ⟨rfl, hb10⟩

end Go.Proofs.Ytodjibhnmibedaa.Sp
