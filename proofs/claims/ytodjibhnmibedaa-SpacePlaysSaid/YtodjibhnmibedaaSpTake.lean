/- The walks of New, Extents and Take. -/
import Derived.Test.YtodjibhnmibedaaSpHold
set_option linter.unusedVariables false
namespace Go.Proofs.Ytodjibhnmibedaa.Sp
open Go.RowKit

def OkNew (first blocks : Int) : Bool := decide (0 ≤ first ∧ first ≤ 1000000 ∧ 0 ≤ blocks ∧ blocks ≤ 1000000)
def wholeL (F B : Nat) : List Ext := if B = 0 then [] else [(F, B)]
def NewTold (F B : Nat) (w : World) (e : Ending) (w' : World) : Prop := ∃ s v, e = .returned (.pointer (some ⟨s, 0, none⟩)) ∧ w.heap.size ≤ s ∧ SpAt w' s F B v (wholeL F B) w.heap.size ∧ Below w.heap.size w w'

set_option maxRecDepth 100000 in
set_option maxHeartbeats 1000000 in
theorem new_no (first blocks : Int) (w : World) (h : OkNew first blocks = false) :
    Calls Try.prog 28 #[.int .i64 first, .int .i64 blocks] w fun e w' => e = .returned (.pointer none) ∧ w = w' := by
  unfold OkNew at h
  rw [decide_eq_false_iff_not] at h
  by_cases h1 : first < 0
  all_goals (by_cases h2 : 1000000 < first)
  all_goals (by_cases h3 : blocks < 0)
  all_goals (by_cases h4 : 1000000 < blocks)
  all_goals first | (exfalso; omega) | skip
  all_goals
    clear h
    go_enter Try.func28, Try.ntmps28
    go_wp2_with fail
    go_ret
    exact ⟨rfl, rfl⟩

set_option maxRecDepth 100000 in
set_option maxHeartbeats 1000000 in
theorem new_ok (F B : Nat) (w : World) (hF : F ≤ 1000000) (hB : B ≤ 1000000) :
    Calls Try.prog 28 #[.int .i64 (F : Int), .int .i64 (B : Int)] w (NewTold F B w) := by
  have h1 : ¬ ((F : Int) < 0) := by omega
  have h2 : ¬ ((1000000 : Int) < F) := by omega
  have h3 : ¬ ((B : Int) < 0) := by omega
  have h4 : ¬ ((1000000 : Int) < B) := by omega
  by_cases h0 : B = 0
  · have h5 : ¬ ((0 : Int) < B) := by omega
    have HB0 := Lib.hid h0
    have hw : wholeL F B = [] := by unfold wholeL; rw [if_pos h0]
    have HW := Lib.hid hw
    have HFIN : Hid (NewTold F B w (.returned (.pointer (some ⟨w.heap.size, 0, none⟩))) (w.alloc (.cells #[.int .i64 (F : Int), .int .i64 (B : Int), .slice none 0 0] 88))) := Lib.hid (by
      refine ⟨w.heap.size, .slice none 0 0, rfl, Nat.le_refl _, ?_, (Below.refl _ _).alloc (Nat.le_refl _) _⟩
      rw [hw]
      exact ⟨Blk.new _ _ _, World.ownsRow_nil _ _ _ _, hF, hB, by simp, fun e he => by cases he⟩)
    clear h0 hw
    go_enter Try.func28, Try.ntmps28
    go_wp2_with fail
    go_ret
    exact HFIN.out
  · have h5 : (0 : Int) < B := by omega
    have hw : wholeL F B = [(F, B)] := by unfold wholeL; rw [if_neg h0]
    have HW := Lib.hid hw
    have hsz : (w.alloc (.cells #[.int .i64 (F : Int), .int .i64 (B : Int), .slice (some ⟨w.heap.size + 1, 0, none⟩) 1 1] 88)).heap.size = w.heap.size + 1 := by simp
    have HFIN : Hid (NewTold F B w (.returned (.pointer (some ⟨w.heap.size, 0, none⟩))) ((w.alloc (.cells #[.int .i64 (F : Int), .int .i64 (B : Int), .slice (some ⟨w.heap.size + 1, 0, none⟩) 1 1] 88)).alloc (.cells #[.int .i64 (F : Int), .int .i64 (B : Int)] 69))) := Lib.hid (by
      refine ⟨w.heap.size, .slice (some ⟨w.heap.size + 1, 0, none⟩) 1 1, rfl, Nat.le_refl _, ?_, ((Below.refl _ _).alloc (Nat.le_refl _) _).alloc (by simp) _⟩
      rw [hw]
      have hx := Blk.new (w.alloc (.cells #[.int .i64 (F : Int), .int .i64 (B : Int), .slice (some ⟨w.heap.size + 1, 0, none⟩) 1 1] 88)) 69 #[.int .i64 (F : Int), .int .i64 (B : Int)]
      rw [hsz] at hx
      have hX : XBlk ((w.alloc (.cells #[.int .i64 (F : Int), .int .i64 (B : Int), .slice (some ⟨w.heap.size + 1, 0, none⟩) 1 1] 88)).alloc (.cells #[.int .i64 (F : Int), .int .i64 (B : Int)] 69)) (w.heap.size + 1) 1 [(F, B)] [] := ⟨hx, rfl, by decide⟩
      exact ⟨(Blk.new _ _ _).alloc _, hX.own (by omega), hF, hB, by simp, fun e he => by
        rcases List.mem_singleton.1 he with rfl
        simp only
        omega⟩)
    clear hw h0 hsz
    go_enter Try.func28, Try.ntmps28
    go_wp2_with fail
    go_ret
    exact HFIN.out

/-- Extents: a copy of the row. -/
def ExtTold (L : List Ext) (w : World) (e : Ending) (w' : World) : Prop := ∃ a n c, e = .returned (.slice a n c) ∧ w'.ownsRow w.heap.size 69 2 (.slice a n c) n (flatX L) ∧ Below w.heap.size w w'

@[go_sem] theorem nil_ext (w : World) (a : Option Addr) (n c : Nat) : (binOp .eql 65 (.slice a n c) (.slice none 0 0)).run Try.prog w = .ok (.bool a.isNone) w :=
  Lib.run_eql_slice_nil (P := Try.prog) w 65 69 a n c 0 0 Try.underlying65

set_option maxRecDepth 100000 in
set_option maxHeartbeats 400000 in
theorem clone_ext (a : Option Addr) (n c : Nat) (L : List Ext) (base : Nat) (w : World) (h : w.ownsRow base 69 2 (.slice a n c) n (flatX L)) (hL : L.length ≤ 1000000) :
    Calls Try.prog 51 #[.slice a n c] w (ExtTold L w) := by
  obtain ⟨hn, hv⟩ := XBlk.of_own h
  rcases hv with ⟨hv, rfl⟩ | ⟨g, cap, rest, hv, hbg, hgl, hX⟩
  · injection hv with h1 h2 h3
    subst h1
    subst h2
    subst h3
    clear h hn
    go_enter Try.func51, Try.ntmps51
    go_wp2_with fail
    go_ret
    exact ⟨none, 0, 0, rfl, World.ownsRow_nil _ _ _ _, Below.refl _ _⟩
  · injection hv with h1 h2 h3
    subst h1
    subst h3
    have hr := hX.row 0 L.length (Nat.le_refl _)
    rw [List.take_length, List.drop_zero, Nat.zero_mul] at hr
    have hr2 := hr.below ((Below.refl _ _).alloc (Nat.le_refl _) (.cells #[] 69))
    have HR := Lib.hid hr2
    have hfl : (flatX L).length = n * 2 := by rw [flatX_length, hn]
    have HF := Lib.hid hfl
    clear h hX hr hr2 hfl
    go_enter Try.func51, Try.ntmps51
    go_wp2_with (at_builtin; go_must (refine wpList_append rfl (.tmp 5) (.tmp 6) _ rfl el_ext w.heap.size _ 0 [] rfl (World.ownsRow_made w #[] 0 (Nat.le_refl _) (by decide) rfl) _ n c (flatX L) rfl HF.out HR.out (flatX_one _) (by unfold maxLen; omega) (by omega) (by simp) ?_))
    intro v w1 hown _ _ hb
    have hown' : w1.ownsRow w.heap.size 69 2 v n (flatX L) := by simpa using hown
    obtain ⟨h1, h2⟩ := XBlk.of_own hown'
    obtain ⟨a2, c2, rfl⟩ : ∃ a2 c2, v = .slice a2 n c2 := by
      rcases h2 with ⟨rfl, h⟩ | ⟨g', cap', rest', rfl, _⟩
      · subst h; simp at h1; subst h1; exact ⟨_, _, rfl⟩
      · exact ⟨_, _, rfl⟩
    have HO := Lib.hid hown'
    have HB := Lib.hid (((Below.refl w.heap.size w).alloc (Nat.le_refl _) _).trans hb)
    clear hown hown' hb h1 h2 hn
    go_wp2_with fail
    go_ret
    exact ⟨a2, n, c2, rfl, HO.out, HB.out⟩

set_option maxRecDepth 100000 in
set_option maxHeartbeats 400000 in
theorem extents_any (s F B : Nat) (v : Value) (L : List Ext) (base : Nat) (w : World) (h : SpAt w s F B v L base) :
    Calls Try.prog 39 #[.pointer (some ⟨s, 0, none⟩)] w (ExtTold L w) := by
  obtain ⟨a, c, rfl, _, _⟩ := h.slice
  have c2 : w.cell? ⟨s, 2, none⟩ = some (.slice a L.length c) := h.blk.cell 2
  have HC := Lib.hid (clone_ext a L.length c L base w h.own h.L_le)
  clear h
  go_enter Try.func39, Try.ntmps39
  go_wp2_with fail
  refine HC.out.mono ?_
  rintro e w1 ⟨a1, n1, c1, rfl, hown, hb⟩
  have HO := Lib.hid hown
  have HB := Lib.hid hb
  clear hown hb
  go_wp2_with fail
  go_ret
  exact ⟨a1, n1, c1, rfl, HO.out, HB.out⟩

/-- How many blocks are free. -/
def sumX (L : List Ext) : Nat := (L.map (·.2)).sum
theorem sumX_take (L : List Ext) (k : Nat) (h : k < L.length) : sumX (L.take (k + 1)) = sumX (L.take k) + L[k].2 := by
  unfold sumX
  rw [List.take_succ_eq_append_getElem h, List.map_append, List.sum_append]
  simp
def FreeLoop (L : List Ext) (base : Nat) (w : World) (a : Option Addr) (n c : Nat) (nv iv : Value) (wr : World) : Prop :=
  ∃ k : Nat, iv = .int .i64 (k : Int) ∧ k ≤ L.length ∧ nv = .int .i64 (sumX (L.take k) : Int) ∧ wr.ownsRow base 69 2 (.slice a n c) n (flatX L) ∧ Below base w wr
def FreeTold (L : List Ext) (w : World) (e : Ending) (w' : World) : Prop := e = .returned (.int .i64 (sumX L : Int)) ∧ Below w.heap.size w w'

set_option maxRecDepth 100000 in
set_option maxHeartbeats 1000000 in
theorem free_any (s F B : Nat) (v : Value) (L : List Ext) (base : Nat) (w : World) (h : SpAt w s F B v L base) (hsum : sumX L ≤ 4000000000) :
    Calls Try.prog 31 #[.pointer (some ⟨s, 0, none⟩)] w (FreeTold L w) := by
  have HE := Lib.hid (extents_any s F B v L base w h)
  have hLL := h.L_le
  have HIN := Lib.hid h.in_
  clear h
  go_enter Try.func31, Try.ntmps31
  go_wp2_with fail
  refine HE.out.mono ?_
  rintro e w1 ⟨a1, n1, c1, rfl, hown, hb⟩
  obtain ⟨hn, -⟩ := XBlk.of_own hown
  subst hn
  have HO := Lib.hid hown
  have HB := Lib.hid hb
  clear hown hb HE
  go_wp2_with fail
  go_loopw [3, 9] (fun nv iv wr => FreeLoop L w.heap.size w a1 L.length c1 nv iv wr) (fun _ iv _ => L.length - (intOf iv).toNat)
  case atStart => exact ⟨0, rfl, by omega, rfl, HO.out, HB.out⟩
  case round =>
    clear HO HB
    obtain ⟨k, rfl, hk, rfl, hown, hb⟩ := hrel
    by_cases hlt : (k : Int) < L.length
    · have hkl : k < L.length := by omega
      obtain ⟨_, hv⟩ := XBlk.of_own hown
      rcases hv with ⟨_, h0⟩ | ⟨g, cap, rest, hv, hbg, hgl, hX⟩
      · subst h0; simp at hkl
      injection hv with h1 h2 h3
      subst h1
      subst h3
      obtain ⟨e1, e2⟩ := flatX_get L k hkl
      have hl : k * 2 + 1 < (flatX L).length := by rw [flatX_length]; omega
      have q1 : wr.cell? ⟨g, k * 2, none⟩ = some (.int .i64 (L[k].1 : Int)) := by rw [hX.blk.cell, List.getElem?_toArray, List.getElem?_append_left (by omega), e1]
      have q2 : wr.cell? ⟨g, k * 2 + 1, none⟩ = some (.int .i64 (L[k].2 : Int)) := by rw [hX.blk.cell, List.getElem?_toArray, List.getElem?_append_left (by omega), e2]
      have hs := sumX_take L k hkl
      have hs2 : sumX (L.take (k + 1)) ≤ sumX L := by
        conv => rhs; rw [← List.take_append_drop (k + 1) L]
        unfold sumX
        rw [List.map_append, List.sum_append]
        omega
      generalize L[k].1 = x at *
      generalize L[k].2 = y at *
      have hkk : (0 : Int) ≤ (k : Int) := by omega
      have t1 : IntKind.i64.wrap ((sumX (L.take k) : Int) + (y : Int)) = (sumX (L.take k) : Int) + (y : Int) := by rw [IntKind.wrap_i64]; omega
      have HO2 := Lib.hid (own_chg hown (Chg.of_below' (S := fun _ => False) ((Below.refl wr.heap.size wr).alloc (Nat.le_refl _) (.cells #[.int .i64 (x : Int), .int .i64 (y : Int)] 69))) (fun _ _ h => h))
      have HB2 := Lib.hid (hb.alloc hb.size (.cells #[.int .i64 (x : Int), .int .i64 (y : Int)] 69))
      have HS := Lib.hid hs
      have hsz : sumX (L.take k) ≤ 4000000000 := by omega
      have hy : y ≤ 4000000000 := by omega
      clear hown hb hX e1 e2 hs hs2 hl
      generalize sumX (L.take k) = S at *
      go_wp2_with fail
      go_roundw
      case rel => exact ⟨k + 1, by go_num, by omega, by rw [HS.out]; go_num, HO2.out, HB2.out⟩
      case measure => simp [intOf]; omega
    · obtain rfl : k = L.length := by omega
      rw [List.take_length]
      have HB2 := Lib.hid hb
      clear hb hown
      go_wp2_with fail
      go_ret
      exact ⟨rfl, HB2.out⟩

end Go.Proofs.Ytodjibhnmibedaa.Sp
