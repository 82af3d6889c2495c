/- The walk of abutmentref13.Number. -/
import Derived.Test.YtlbaigkpojkfjaaK14
set_option linter.unusedVariables false
namespace Go.Proofs.Ytlbaigkpojkfjaa.Fl
open Go.RowKit

/-- A list of tuples grows in a row of its own. -/
def OutLoop (n : Nat) (out : Nat → List Tup) (w : World) (ov iv : Value) (wr : World) : Prop :=
  ∃ i : Nat, iv = .int .i64 (i : Int) ∧ i ≤ n ∧ wr.ownsRow w.heap.size 57 5 ov (out i).length (flatT (out i)) ∧ Below w.heap.size w wr
theorem flatT_snoc (l : List Tup) (t : Tup) : flatT (l ++ [t]) = flatT l ++ icells t := by rw [flatT_append]; simp [flatT]
theorem own_slice_t {w : World} {base n : Nat} {v : Value} {l : List Tup} (ho : w.ownsRow base 57 5 v n (flatT l)) : ∃ a c, v = .slice a n c := by
  rcases ho.2 with ⟨h, h0⟩ | ⟨g, cap, cur, hv, _⟩
  · exact ⟨none, 0, by rw [h, h0]⟩
  · exact ⟨_, cap, hv⟩

set_option maxRecDepth 100000 in
set_option maxHeartbeats 4000000 in
theorem refnum_0 {K : Key} (l : List Tup) (from_ : Int) (a : Option Addr) (c : Nat) (w : World) (hl : Tps K w a l) (ht5 : ∀ t ∈ l, t.length = 5) (hn : l.length ≤ 1000000) (hlo : -9223372036854775808 ≤ from_) (hhi : from_ + l.length < 9223372036854775807) :
    Calls Try.prog 17 #[.slice a l.length c, .int .i64 0, .int .i64 from_] w (fun e w' => ∃ v, e = .returned v ∧ w'.ownsRow w.heap.size 57 5 v l.length (flatT (numL l 0 from_)) ∧ Below w.heap.size w w') := by
  have HT := Lib.hid ht5
  have HL := Lib.hid hl
  have HB0 := Lib.hid (And.intro hlo hhi)
  clear ht5 hl hlo hhi
  go_enter Try.func17, Try.ntmps17
  go_wp2_with fail
  go_loopw [7, 8] (fun ov iv wr => OutLoop l.length (fun i => (List.range i).map (numT l 0 from_)) w ov iv wr) (fun _ iv _ => l.length - (intOf iv).toNat)
  case atStart => exact ⟨0, rfl, Nat.zero_le _, World.ownsRow_nil _ _ _ _, Below.refl _ _⟩
  case round =>
    obtain ⟨i, rfl, hi, hown, hbr⟩ := hrel
    obtain ⟨oa, oc, rfl⟩ := own_slice_t hown
    simp only [List.length_map, List.length_range] at hown ⊢
    have HBR := Lib.hid hbr
    by_cases hlt : i < l.length
    · have hki : (i : Int) < (l.length : Int) := by omega
      obtain ⟨g, off, rfl, c0, c1, c2, c3, c4, hli, y0, y1, y2, y3, y4⟩ := (HL.out.below HBR.out).cells HT.out hlt
      have hi0 : (0 : Int) ≤ (i : Int) := by omega
      have hwr : IntKind.i64.wrap (from_ + (i : Int)) = from_ + (i : Int) := by have := HB0.out; rw [IntKind.wrap_i64]; omega
      have hv : (BitVec.ofInt 64 (from_ + (i : Int))).toInt = from_ + (i : Int) := by
        have := HB0.out
        rw [BitVec.toInt_ofInt]
        simp only [Int.bmod_def]
        omega
      have hg : l.getD i [] = l[i] := by simp [hlt]
      have hfl : flatT ((List.range i).map (numT l 0 from_)) ++ [.int .i64 (from_ + (i : Int)), .int .i64 c1.toInt, .int .i64 c2.toInt, .int .i64 c3.toInt, .int .i64 c4.toInt] = flatT ((List.range (i + 1)).map (numT l 0 from_)) := by
        rw [List.range_succ, List.map_append, List.map_singleton, flatT_snoc]
        congr 1
        unfold numT
        rw [hg, hli]
        simp [icells, hv]
      have hb5 : Below wr.heap.size wr ((wr.alloc (.cells #[.int .i64 (from_ + (i : Int)), .int .i64 c1.toInt, .int .i64 c2.toInt, .int .i64 c3.toInt, .int .i64 c4.toInt] 57)).alloc (.cells #[.int .i64 (from_ + (i : Int)), .int .i64 c1.toInt, .int .i64 c2.toInt, .int .i64 c3.toInt, .int .i64 c4.toInt] 57)) := ((Below.refl _ _).alloc (Nat.le_refl _) _).alloc (by simp) _
      have hO5 := own_chg hown (Chg.of_below' (S := fun _ => False) hb5) (fun _ _ h => h)
      have hrw := Row.new (wr.alloc (.cells #[.int .i64 (from_ + (i : Int)), .int .i64 c1.toInt, .int .i64 c2.toInt, .int .i64 c3.toInt, .int .i64 c4.toInt] 57)) #[.int .i64 (from_ + (i : Int)), .int .i64 c1.toInt, .int .i64 c2.toInt, .int .i64 c3.toInt, .int .i64 c4.toInt] 57 (0, 0)
      rw [show (wr.alloc (.cells #[.int .i64 (from_ + (i : Int)), .int .i64 c1.toInt, .int .i64 c2.toInt, .int .i64 c3.toInt, .int .i64 c4.toInt] 57)).heap.size = wr.heap.size + 1 from by simp] at hrw
      have HFL := Lib.hid hfl
      have HO5 := Lib.hid hO5
      have HRW := Lib.hid hrw
      have HB5 := Lib.hid (hbr.trans (hb5.mono hbr.size))
      have hsz := hbr.size
      have hib : i < 1000000 := by omega
      clear hfl hO5 hrw hb5 hv hg hli hown hbr
      go_wp2_with (at_builtin; go_must (refine wpList_append rfl (.tmp 25) (.tmp 27) _ rfl el_tup w.heap.size (.slice oa i oc) i (flatT ((List.range i).map (numT l 0 from_))) rfl HO5.out _ 1 1 [.int .i64 (from_ + (i : Int)), .int .i64 c1.toInt, .int .i64 c2.toInt, .int .i64 c3.toInt, .int .i64 c4.toInt] rfl rfl HRW.out (by intro u hu; simp at hu; rcases hu with rfl | rfl | rfl | rfl | rfl <;> rfl) (by unfold maxLen; omega) (by omega) (by simp; omega) ?_))
      intro v7 w7 hown7 hg7 hv7 hb7
      rw [HFL.out] at hown7
      have hrel : OutLoop l.length (fun i => (List.range i).map (numT l 0 from_)) w v7 (.int .i64 ((i + 1 : Nat) : Int)) w7 := ⟨i + 1, rfl, by omega, by simp only [List.length_map, List.length_range]; exact hown7, HB5.out.grown hg7 HB5.out.size (fun k hk => (own_blk HO5.out hk).1)⟩
      have HREL := Lib.hid hrel
      clear hrel hown7 hg7 hv7 hb7 HO5 HRW HB5
      generalize ((wr.alloc (.cells #[.int .i64 (from_ + (i : Int)), .int .i64 c1.toInt, .int .i64 c2.toInt, .int .i64 c3.toInt, .int .i64 c4.toInt] 57)).alloc (.cells #[.int .i64 (from_ + (i : Int)), .int .i64 c1.toInt, .int .i64 c2.toInt, .int .i64 c3.toInt, .int .i64 c4.toInt] 57)) = w5 at *
      go_wp2_with fail
      go_roundw
      case rel => exact HREL.out
      case measure => simp [intOf]; omega
    · obtain rfl : i = l.length := by omega
      have HO := Lib.hid hown
      clear hown hbr
      go_wp2_with fail
      go_ret
      exact ⟨_, rfl, HO.out, HBR.out⟩

set_option maxRecDepth 100000 in
set_option maxHeartbeats 4000000 in
theorem refnum_1 {K : Key} (l : List Tup) (from_ : Int) (a : Option Addr) (c : Nat) (w : World) (hl : Tps K w a l) (ht5 : ∀ t ∈ l, t.length = 5) (hn : l.length ≤ 1000000) (hlo : -9223372036854775808 ≤ from_) (hhi : from_ + l.length < 9223372036854775807) :
    Calls Try.prog 17 #[.slice a l.length c, .int .i64 1, .int .i64 from_] w (fun e w' => ∃ v, e = .returned v ∧ w'.ownsRow w.heap.size 57 5 v l.length (flatT (numL l 1 from_)) ∧ Below w.heap.size w w') := by
  have HT := Lib.hid ht5
  have HL := Lib.hid hl
  have HB0 := Lib.hid (And.intro hlo hhi)
  clear ht5 hl hlo hhi
  go_enter Try.func17, Try.ntmps17
  go_wp2_with fail
  go_loopw [7, 8] (fun ov iv wr => OutLoop l.length (fun i => (List.range i).map (numT l 1 from_)) w ov iv wr) (fun _ iv _ => l.length - (intOf iv).toNat)
  case atStart => exact ⟨0, rfl, Nat.zero_le _, World.ownsRow_nil _ _ _ _, Below.refl _ _⟩
  case round =>
    obtain ⟨i, rfl, hi, hown, hbr⟩ := hrel
    obtain ⟨oa, oc, rfl⟩ := own_slice_t hown
    simp only [List.length_map, List.length_range] at hown ⊢
    have HBR := Lib.hid hbr
    by_cases hlt : i < l.length
    · have hki : (i : Int) < (l.length : Int) := by omega
      obtain ⟨g, off, rfl, c0, c1, c2, c3, c4, hli, y0, y1, y2, y3, y4⟩ := (HL.out.below HBR.out).cells HT.out hlt
      have hi0 : (0 : Int) ≤ (i : Int) := by omega
      have hwr : IntKind.i64.wrap (from_ + (i : Int)) = from_ + (i : Int) := by have := HB0.out; rw [IntKind.wrap_i64]; omega
      have hv : (BitVec.ofInt 64 (from_ + (i : Int))).toInt = from_ + (i : Int) := by
        have := HB0.out
        rw [BitVec.toInt_ofInt]
        simp only [Int.bmod_def]
        omega
      have hg : l.getD i [] = l[i] := by simp [hlt]
      have hfl : flatT ((List.range i).map (numT l 1 from_)) ++ [.int .i64 c0.toInt, .int .i64 (from_ + (i : Int)), .int .i64 c2.toInt, .int .i64 c3.toInt, .int .i64 c4.toInt] = flatT ((List.range (i + 1)).map (numT l 1 from_)) := by
        rw [List.range_succ, List.map_append, List.map_singleton, flatT_snoc]
        congr 1
        unfold numT
        rw [hg, hli]
        simp [icells, hv]
      have hb5 : Below wr.heap.size wr ((wr.alloc (.cells #[.int .i64 c0.toInt, .int .i64 (from_ + (i : Int)), .int .i64 c2.toInt, .int .i64 c3.toInt, .int .i64 c4.toInt] 57)).alloc (.cells #[.int .i64 c0.toInt, .int .i64 (from_ + (i : Int)), .int .i64 c2.toInt, .int .i64 c3.toInt, .int .i64 c4.toInt] 57)) := ((Below.refl _ _).alloc (Nat.le_refl _) _).alloc (by simp) _
      have hO5 := own_chg hown (Chg.of_below' (S := fun _ => False) hb5) (fun _ _ h => h)
      have hrw := Row.new (wr.alloc (.cells #[.int .i64 c0.toInt, .int .i64 (from_ + (i : Int)), .int .i64 c2.toInt, .int .i64 c3.toInt, .int .i64 c4.toInt] 57)) #[.int .i64 c0.toInt, .int .i64 (from_ + (i : Int)), .int .i64 c2.toInt, .int .i64 c3.toInt, .int .i64 c4.toInt] 57 (0, 0)
      rw [show (wr.alloc (.cells #[.int .i64 c0.toInt, .int .i64 (from_ + (i : Int)), .int .i64 c2.toInt, .int .i64 c3.toInt, .int .i64 c4.toInt] 57)).heap.size = wr.heap.size + 1 from by simp] at hrw
      have HFL := Lib.hid hfl
      have HO5 := Lib.hid hO5
      have HRW := Lib.hid hrw
      have HB5 := Lib.hid (hbr.trans (hb5.mono hbr.size))
      have hsz := hbr.size
      have hib : i < 1000000 := by omega
      clear hfl hO5 hrw hb5 hv hg hli hown hbr
      go_wp2_with (at_builtin; go_must (refine wpList_append rfl (.tmp 25) (.tmp 27) _ rfl el_tup w.heap.size (.slice oa i oc) i (flatT ((List.range i).map (numT l 1 from_))) rfl HO5.out _ 1 1 [.int .i64 c0.toInt, .int .i64 (from_ + (i : Int)), .int .i64 c2.toInt, .int .i64 c3.toInt, .int .i64 c4.toInt] rfl rfl HRW.out (by intro u hu; simp at hu; rcases hu with rfl | rfl | rfl | rfl | rfl <;> rfl) (by unfold maxLen; omega) (by omega) (by simp; omega) ?_))
      intro v7 w7 hown7 hg7 hv7 hb7
      rw [HFL.out] at hown7
      have hrel : OutLoop l.length (fun i => (List.range i).map (numT l 1 from_)) w v7 (.int .i64 ((i + 1 : Nat) : Int)) w7 := ⟨i + 1, rfl, by omega, by simp only [List.length_map, List.length_range]; exact hown7, HB5.out.grown hg7 HB5.out.size (fun k hk => (own_blk HO5.out hk).1)⟩
      have HREL := Lib.hid hrel
      clear hrel hown7 hg7 hv7 hb7 HO5 HRW HB5
      generalize ((wr.alloc (.cells #[.int .i64 c0.toInt, .int .i64 (from_ + (i : Int)), .int .i64 c2.toInt, .int .i64 c3.toInt, .int .i64 c4.toInt] 57)).alloc (.cells #[.int .i64 c0.toInt, .int .i64 (from_ + (i : Int)), .int .i64 c2.toInt, .int .i64 c3.toInt, .int .i64 c4.toInt] 57)) = w5 at *
      go_wp2_with fail
      go_roundw
      case rel => exact HREL.out
      case measure => simp [intOf]; omega
    · obtain rfl : i = l.length := by omega
      have HO := Lib.hid hown
      clear hown hbr
      go_wp2_with fail
      go_ret
      exact ⟨_, rfl, HO.out, HBR.out⟩

set_option maxRecDepth 100000 in
set_option maxHeartbeats 4000000 in
theorem refnum_2 {K : Key} (l : List Tup) (from_ : Int) (a : Option Addr) (c : Nat) (w : World) (hl : Tps K w a l) (ht5 : ∀ t ∈ l, t.length = 5) (hn : l.length ≤ 1000000) (hlo : -9223372036854775808 ≤ from_) (hhi : from_ + l.length < 9223372036854775807) :
    Calls Try.prog 17 #[.slice a l.length c, .int .i64 2, .int .i64 from_] w (fun e w' => ∃ v, e = .returned v ∧ w'.ownsRow w.heap.size 57 5 v l.length (flatT (numL l 2 from_)) ∧ Below w.heap.size w w') := by
  have HT := Lib.hid ht5
  have HL := Lib.hid hl
  have HB0 := Lib.hid (And.intro hlo hhi)
  clear ht5 hl hlo hhi
  go_enter Try.func17, Try.ntmps17
  go_wp2_with fail
  go_loopw [7, 8] (fun ov iv wr => OutLoop l.length (fun i => (List.range i).map (numT l 2 from_)) w ov iv wr) (fun _ iv _ => l.length - (intOf iv).toNat)
  case atStart => exact ⟨0, rfl, Nat.zero_le _, World.ownsRow_nil _ _ _ _, Below.refl _ _⟩
  case round =>
    obtain ⟨i, rfl, hi, hown, hbr⟩ := hrel
    obtain ⟨oa, oc, rfl⟩ := own_slice_t hown
    simp only [List.length_map, List.length_range] at hown ⊢
    have HBR := Lib.hid hbr
    by_cases hlt : i < l.length
    · have hki : (i : Int) < (l.length : Int) := by omega
      obtain ⟨g, off, rfl, c0, c1, c2, c3, c4, hli, y0, y1, y2, y3, y4⟩ := (HL.out.below HBR.out).cells HT.out hlt
      have hi0 : (0 : Int) ≤ (i : Int) := by omega
      have hwr : IntKind.i64.wrap (from_ + (i : Int)) = from_ + (i : Int) := by have := HB0.out; rw [IntKind.wrap_i64]; omega
      have hv : (BitVec.ofInt 64 (from_ + (i : Int))).toInt = from_ + (i : Int) := by
        have := HB0.out
        rw [BitVec.toInt_ofInt]
        simp only [Int.bmod_def]
        omega
      have hg : l.getD i [] = l[i] := by simp [hlt]
      have hfl : flatT ((List.range i).map (numT l 2 from_)) ++ [.int .i64 c0.toInt, .int .i64 c1.toInt, .int .i64 (from_ + (i : Int)), .int .i64 c3.toInt, .int .i64 c4.toInt] = flatT ((List.range (i + 1)).map (numT l 2 from_)) := by
        rw [List.range_succ, List.map_append, List.map_singleton, flatT_snoc]
        congr 1
        unfold numT
        rw [hg, hli]
        simp [icells, hv]
      have hb5 : Below wr.heap.size wr ((wr.alloc (.cells #[.int .i64 c0.toInt, .int .i64 c1.toInt, .int .i64 (from_ + (i : Int)), .int .i64 c3.toInt, .int .i64 c4.toInt] 57)).alloc (.cells #[.int .i64 c0.toInt, .int .i64 c1.toInt, .int .i64 (from_ + (i : Int)), .int .i64 c3.toInt, .int .i64 c4.toInt] 57)) := ((Below.refl _ _).alloc (Nat.le_refl _) _).alloc (by simp) _
      have hO5 := own_chg hown (Chg.of_below' (S := fun _ => False) hb5) (fun _ _ h => h)
      have hrw := Row.new (wr.alloc (.cells #[.int .i64 c0.toInt, .int .i64 c1.toInt, .int .i64 (from_ + (i : Int)), .int .i64 c3.toInt, .int .i64 c4.toInt] 57)) #[.int .i64 c0.toInt, .int .i64 c1.toInt, .int .i64 (from_ + (i : Int)), .int .i64 c3.toInt, .int .i64 c4.toInt] 57 (0, 0)
      rw [show (wr.alloc (.cells #[.int .i64 c0.toInt, .int .i64 c1.toInt, .int .i64 (from_ + (i : Int)), .int .i64 c3.toInt, .int .i64 c4.toInt] 57)).heap.size = wr.heap.size + 1 from by simp] at hrw
      have HFL := Lib.hid hfl
      have HO5 := Lib.hid hO5
      have HRW := Lib.hid hrw
      have HB5 := Lib.hid (hbr.trans (hb5.mono hbr.size))
      have hsz := hbr.size
      have hib : i < 1000000 := by omega
      clear hfl hO5 hrw hb5 hv hg hli hown hbr
      go_wp2_with (at_builtin; go_must (refine wpList_append rfl (.tmp 25) (.tmp 27) _ rfl el_tup w.heap.size (.slice oa i oc) i (flatT ((List.range i).map (numT l 2 from_))) rfl HO5.out _ 1 1 [.int .i64 c0.toInt, .int .i64 c1.toInt, .int .i64 (from_ + (i : Int)), .int .i64 c3.toInt, .int .i64 c4.toInt] rfl rfl HRW.out (by intro u hu; simp at hu; rcases hu with rfl | rfl | rfl | rfl | rfl <;> rfl) (by unfold maxLen; omega) (by omega) (by simp; omega) ?_))
      intro v7 w7 hown7 hg7 hv7 hb7
      rw [HFL.out] at hown7
      have hrel : OutLoop l.length (fun i => (List.range i).map (numT l 2 from_)) w v7 (.int .i64 ((i + 1 : Nat) : Int)) w7 := ⟨i + 1, rfl, by omega, by simp only [List.length_map, List.length_range]; exact hown7, HB5.out.grown hg7 HB5.out.size (fun k hk => (own_blk HO5.out hk).1)⟩
      have HREL := Lib.hid hrel
      clear hrel hown7 hg7 hv7 hb7 HO5 HRW HB5
      generalize ((wr.alloc (.cells #[.int .i64 c0.toInt, .int .i64 c1.toInt, .int .i64 (from_ + (i : Int)), .int .i64 c3.toInt, .int .i64 c4.toInt] 57)).alloc (.cells #[.int .i64 c0.toInt, .int .i64 c1.toInt, .int .i64 (from_ + (i : Int)), .int .i64 c3.toInt, .int .i64 c4.toInt] 57)) = w5 at *
      go_wp2_with fail
      go_roundw
      case rel => exact HREL.out
      case measure => simp [intOf]; omega
    · obtain rfl : i = l.length := by omega
      have HO := Lib.hid hown
      clear hown hbr
      go_wp2_with fail
      go_ret
      exact ⟨_, rfl, HO.out, HBR.out⟩

set_option maxRecDepth 100000 in
set_option maxHeartbeats 4000000 in
theorem refnum_3 {K : Key} (l : List Tup) (from_ : Int) (a : Option Addr) (c : Nat) (w : World) (hl : Tps K w a l) (ht5 : ∀ t ∈ l, t.length = 5) (hn : l.length ≤ 1000000) (hlo : -9223372036854775808 ≤ from_) (hhi : from_ + l.length < 9223372036854775807) :
    Calls Try.prog 17 #[.slice a l.length c, .int .i64 3, .int .i64 from_] w (fun e w' => ∃ v, e = .returned v ∧ w'.ownsRow w.heap.size 57 5 v l.length (flatT (numL l 3 from_)) ∧ Below w.heap.size w w') := by
  have HT := Lib.hid ht5
  have HL := Lib.hid hl
  have HB0 := Lib.hid (And.intro hlo hhi)
  clear ht5 hl hlo hhi
  go_enter Try.func17, Try.ntmps17
  go_wp2_with fail
  go_loopw [7, 8] (fun ov iv wr => OutLoop l.length (fun i => (List.range i).map (numT l 3 from_)) w ov iv wr) (fun _ iv _ => l.length - (intOf iv).toNat)
  case atStart => exact ⟨0, rfl, Nat.zero_le _, World.ownsRow_nil _ _ _ _, Below.refl _ _⟩
  case round =>
    obtain ⟨i, rfl, hi, hown, hbr⟩ := hrel
    obtain ⟨oa, oc, rfl⟩ := own_slice_t hown
    simp only [List.length_map, List.length_range] at hown ⊢
    have HBR := Lib.hid hbr
    by_cases hlt : i < l.length
    · have hki : (i : Int) < (l.length : Int) := by omega
      obtain ⟨g, off, rfl, c0, c1, c2, c3, c4, hli, y0, y1, y2, y3, y4⟩ := (HL.out.below HBR.out).cells HT.out hlt
      have hi0 : (0 : Int) ≤ (i : Int) := by omega
      have hwr : IntKind.i64.wrap (from_ + (i : Int)) = from_ + (i : Int) := by have := HB0.out; rw [IntKind.wrap_i64]; omega
      have hv : (BitVec.ofInt 64 (from_ + (i : Int))).toInt = from_ + (i : Int) := by
        have := HB0.out
        rw [BitVec.toInt_ofInt]
        simp only [Int.bmod_def]
        omega
      have hg : l.getD i [] = l[i] := by simp [hlt]
      have hfl : flatT ((List.range i).map (numT l 3 from_)) ++ [.int .i64 c0.toInt, .int .i64 c1.toInt, .int .i64 c2.toInt, .int .i64 (from_ + (i : Int)), .int .i64 c4.toInt] = flatT ((List.range (i + 1)).map (numT l 3 from_)) := by
        rw [List.range_succ, List.map_append, List.map_singleton, flatT_snoc]
        congr 1
        unfold numT
        rw [hg, hli]
        simp [icells, hv]
      have hb5 : Below wr.heap.size wr ((wr.alloc (.cells #[.int .i64 c0.toInt, .int .i64 c1.toInt, .int .i64 c2.toInt, .int .i64 (from_ + (i : Int)), .int .i64 c4.toInt] 57)).alloc (.cells #[.int .i64 c0.toInt, .int .i64 c1.toInt, .int .i64 c2.toInt, .int .i64 (from_ + (i : Int)), .int .i64 c4.toInt] 57)) := ((Below.refl _ _).alloc (Nat.le_refl _) _).alloc (by simp) _
      have hO5 := own_chg hown (Chg.of_below' (S := fun _ => False) hb5) (fun _ _ h => h)
      have hrw := Row.new (wr.alloc (.cells #[.int .i64 c0.toInt, .int .i64 c1.toInt, .int .i64 c2.toInt, .int .i64 (from_ + (i : Int)), .int .i64 c4.toInt] 57)) #[.int .i64 c0.toInt, .int .i64 c1.toInt, .int .i64 c2.toInt, .int .i64 (from_ + (i : Int)), .int .i64 c4.toInt] 57 (0, 0)
      rw [show (wr.alloc (.cells #[.int .i64 c0.toInt, .int .i64 c1.toInt, .int .i64 c2.toInt, .int .i64 (from_ + (i : Int)), .int .i64 c4.toInt] 57)).heap.size = wr.heap.size + 1 from by simp] at hrw
      have HFL := Lib.hid hfl
      have HO5 := Lib.hid hO5
      have HRW := Lib.hid hrw
      have HB5 := Lib.hid (hbr.trans (hb5.mono hbr.size))
      have hsz := hbr.size
      have hib : i < 1000000 := by omega
      clear hfl hO5 hrw hb5 hv hg hli hown hbr
      go_wp2_with (at_builtin; go_must (refine wpList_append rfl (.tmp 25) (.tmp 27) _ rfl el_tup w.heap.size (.slice oa i oc) i (flatT ((List.range i).map (numT l 3 from_))) rfl HO5.out _ 1 1 [.int .i64 c0.toInt, .int .i64 c1.toInt, .int .i64 c2.toInt, .int .i64 (from_ + (i : Int)), .int .i64 c4.toInt] rfl rfl HRW.out (by intro u hu; simp at hu; rcases hu with rfl | rfl | rfl | rfl | rfl <;> rfl) (by unfold maxLen; omega) (by omega) (by simp; omega) ?_))
      intro v7 w7 hown7 hg7 hv7 hb7
      rw [HFL.out] at hown7
      have hrel : OutLoop l.length (fun i => (List.range i).map (numT l 3 from_)) w v7 (.int .i64 ((i + 1 : Nat) : Int)) w7 := ⟨i + 1, rfl, by omega, by simp only [List.length_map, List.length_range]; exact hown7, HB5.out.grown hg7 HB5.out.size (fun k hk => (own_blk HO5.out hk).1)⟩
      have HREL := Lib.hid hrel
      clear hrel hown7 hg7 hv7 hb7 HO5 HRW HB5
      generalize ((wr.alloc (.cells #[.int .i64 c0.toInt, .int .i64 c1.toInt, .int .i64 c2.toInt, .int .i64 (from_ + (i : Int)), .int .i64 c4.toInt] 57)).alloc (.cells #[.int .i64 c0.toInt, .int .i64 c1.toInt, .int .i64 c2.toInt, .int .i64 (from_ + (i : Int)), .int .i64 c4.toInt] 57)) = w5 at *
      go_wp2_with fail
      go_roundw
      case rel => exact HREL.out
      case measure => simp [intOf]; omega
    · obtain rfl : i = l.length := by omega
      have HO := Lib.hid hown
      clear hown hbr
      go_wp2_with fail
      go_ret
      exact ⟨_, rfl, HO.out, HBR.out⟩

set_option maxRecDepth 100000 in
set_option maxHeartbeats 4000000 in
theorem refnum_4 {K : Key} (l : List Tup) (from_ : Int) (a : Option Addr) (c : Nat) (w : World) (hl : Tps K w a l) (ht5 : ∀ t ∈ l, t.length = 5) (hn : l.length ≤ 1000000) (hlo : -9223372036854775808 ≤ from_) (hhi : from_ + l.length < 9223372036854775807) :
    Calls Try.prog 17 #[.slice a l.length c, .int .i64 4, .int .i64 from_] w (fun e w' => ∃ v, e = .returned v ∧ w'.ownsRow w.heap.size 57 5 v l.length (flatT (numL l 4 from_)) ∧ Below w.heap.size w w') := by
  have HT := Lib.hid ht5
  have HL := Lib.hid hl
  have HB0 := Lib.hid (And.intro hlo hhi)
  clear ht5 hl hlo hhi
  go_enter Try.func17, Try.ntmps17
  go_wp2_with fail
  go_loopw [7, 8] (fun ov iv wr => OutLoop l.length (fun i => (List.range i).map (numT l 4 from_)) w ov iv wr) (fun _ iv _ => l.length - (intOf iv).toNat)
  case atStart => exact ⟨0, rfl, Nat.zero_le _, World.ownsRow_nil _ _ _ _, Below.refl _ _⟩
  case round =>
    obtain ⟨i, rfl, hi, hown, hbr⟩ := hrel
    obtain ⟨oa, oc, rfl⟩ := own_slice_t hown
    simp only [List.length_map, List.length_range] at hown ⊢
    have HBR := Lib.hid hbr
    by_cases hlt : i < l.length
    · have hki : (i : Int) < (l.length : Int) := by omega
      obtain ⟨g, off, rfl, c0, c1, c2, c3, c4, hli, y0, y1, y2, y3, y4⟩ := (HL.out.below HBR.out).cells HT.out hlt
      have hi0 : (0 : Int) ≤ (i : Int) := by omega
      have hwr : IntKind.i64.wrap (from_ + (i : Int)) = from_ + (i : Int) := by have := HB0.out; rw [IntKind.wrap_i64]; omega
      have hv : (BitVec.ofInt 64 (from_ + (i : Int))).toInt = from_ + (i : Int) := by
        have := HB0.out
        rw [BitVec.toInt_ofInt]
        simp only [Int.bmod_def]
        omega
      have hg : l.getD i [] = l[i] := by simp [hlt]
      have hfl : flatT ((List.range i).map (numT l 4 from_)) ++ [.int .i64 c0.toInt, .int .i64 c1.toInt, .int .i64 c2.toInt, .int .i64 c3.toInt, .int .i64 (from_ + (i : Int))] = flatT ((List.range (i + 1)).map (numT l 4 from_)) := by
        rw [List.range_succ, List.map_append, List.map_singleton, flatT_snoc]
        congr 1
        unfold numT
        rw [hg, hli]
        simp [icells, hv]
      have hb5 : Below wr.heap.size wr ((wr.alloc (.cells #[.int .i64 c0.toInt, .int .i64 c1.toInt, .int .i64 c2.toInt, .int .i64 c3.toInt, .int .i64 (from_ + (i : Int))] 57)).alloc (.cells #[.int .i64 c0.toInt, .int .i64 c1.toInt, .int .i64 c2.toInt, .int .i64 c3.toInt, .int .i64 (from_ + (i : Int))] 57)) := ((Below.refl _ _).alloc (Nat.le_refl _) _).alloc (by simp) _
      have hO5 := own_chg hown (Chg.of_below' (S := fun _ => False) hb5) (fun _ _ h => h)
      have hrw := Row.new (wr.alloc (.cells #[.int .i64 c0.toInt, .int .i64 c1.toInt, .int .i64 c2.toInt, .int .i64 c3.toInt, .int .i64 (from_ + (i : Int))] 57)) #[.int .i64 c0.toInt, .int .i64 c1.toInt, .int .i64 c2.toInt, .int .i64 c3.toInt, .int .i64 (from_ + (i : Int))] 57 (0, 0)
      rw [show (wr.alloc (.cells #[.int .i64 c0.toInt, .int .i64 c1.toInt, .int .i64 c2.toInt, .int .i64 c3.toInt, .int .i64 (from_ + (i : Int))] 57)).heap.size = wr.heap.size + 1 from by simp] at hrw
      have HFL := Lib.hid hfl
      have HO5 := Lib.hid hO5
      have HRW := Lib.hid hrw
      have HB5 := Lib.hid (hbr.trans (hb5.mono hbr.size))
      have hsz := hbr.size
      have hib : i < 1000000 := by omega
      clear hfl hO5 hrw hb5 hv hg hli hown hbr
      go_wp2_with (at_builtin; go_must (refine wpList_append rfl (.tmp 25) (.tmp 27) _ rfl el_tup w.heap.size (.slice oa i oc) i (flatT ((List.range i).map (numT l 4 from_))) rfl HO5.out _ 1 1 [.int .i64 c0.toInt, .int .i64 c1.toInt, .int .i64 c2.toInt, .int .i64 c3.toInt, .int .i64 (from_ + (i : Int))] rfl rfl HRW.out (by intro u hu; simp at hu; rcases hu with rfl | rfl | rfl | rfl | rfl <;> rfl) (by unfold maxLen; omega) (by omega) (by simp; omega) ?_))
      intro v7 w7 hown7 hg7 hv7 hb7
      rw [HFL.out] at hown7
      have hrel : OutLoop l.length (fun i => (List.range i).map (numT l 4 from_)) w v7 (.int .i64 ((i + 1 : Nat) : Int)) w7 := ⟨i + 1, rfl, by omega, by simp only [List.length_map, List.length_range]; exact hown7, HB5.out.grown hg7 HB5.out.size (fun k hk => (own_blk HO5.out hk).1)⟩
      have HREL := Lib.hid hrel
      clear hrel hown7 hg7 hv7 hb7 HO5 HRW HB5
      generalize ((wr.alloc (.cells #[.int .i64 c0.toInt, .int .i64 c1.toInt, .int .i64 c2.toInt, .int .i64 c3.toInt, .int .i64 (from_ + (i : Int))] 57)).alloc (.cells #[.int .i64 c0.toInt, .int .i64 c1.toInt, .int .i64 c2.toInt, .int .i64 c3.toInt, .int .i64 (from_ + (i : Int))] 57)) = w5 at *
      go_wp2_with fail
      go_roundw
      case rel => exact HREL.out
      case measure => simp [intOf]; omega
    · obtain rfl : i = l.length := by omega
      have HO := Lib.hid hown
      clear hown hbr
      go_wp2_with fail
      go_ret
      exact ⟨_, rfl, HO.out, HBR.out⟩

theorem refnum_any {K : Key} (l : List Tup) (wN : Nat) (from_ : Int) (a : Option Addr) (c : Nat) (w : World) (h4 : wN ≤ 4) (hl : Tps K w a l) (ht5 : ∀ t ∈ l, t.length = 5) (hn : l.length ≤ 1000000) (hlo : -9223372036854775808 ≤ from_) (hhi : from_ + l.length < 9223372036854775807) :
    Calls Try.prog 17 #[.slice a l.length c, .int .i64 (wN : Int), .int .i64 from_] w (fun e w' => ∃ v, e = .returned v ∧ w'.ownsRow w.heap.size 57 5 v l.length (flatT (numL l wN from_)) ∧ Below w.heap.size w w') := by
  obtain rfl | rfl | rfl | rfl | rfl : wN = 0 ∨ wN = 1 ∨ wN = 2 ∨ wN = 3 ∨ wN = 4 := by omega
  · exact refnum_0 l from_ a c w hl ht5 hn hlo hhi
  · exact refnum_1 l from_ a c w hl ht5 hn hlo hhi
  · exact refnum_2 l from_ a c w hl ht5 hn hlo hhi
  · exact refnum_3 l from_ a c w hl ht5 hn hlo hhi
  · exact refnum_4 l from_ a c w hl ht5 hn hlo hhi

end Go.Proofs.Ytlbaigkpojkfjaa.Fl
