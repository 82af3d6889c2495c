/- The walk of slices.Replace at extents: within the row. -/
import Derived.Test.YtodjibhnmibedaaSpRep
set_option linter.unusedVariables false
namespace Go.Proofs.Ytodjibhnmibedaa.Sp
open Go.RowKit

theorem XBlk.cut {w : World} {g cap : Nat} {L : List Ext} {rest : List Value} (h : XBlk w g cap L rest) (i : Nat) : XBlk w g cap (L.take i) (flatX (L.drop i) ++ rest) := by
  refine ⟨?_, ?_, h.cap⟩
  · rw [← List.append_assoc, ← flatX_append, List.take_append_drop]
    exact h.blk
  · have := h.len
    rw [List.length_append, flatX_length, List.length_take, List.length_drop]
    omega

set_option maxRecDepth 100000 in
set_option maxHeartbeats 1000000 in
/-- The end is replaced, past the room. -/
theorem replace_end_grow (L V : List Ext) (i g cap base m vc : Nat) (va : Option Addr) (rest : List Value) (w : World) (hX : XBlk w g cap L rest) (hV : Row w va (flatX V)) (hm : V.length = m)
    (hi : i < L.length) (hL : L.length ≤ 1000000) (hm6 : m ≤ 2) (hroom : ¬ i + m ≤ cap) (hc : L.length ≤ cap) (hb : base ≤ g) (hbw : base ≤ w.heap.size) :
    Calls Try.prog 47 #[.slice (some ⟨g, 0, none⟩) L.length cap, .int .i64 (i : Int), .int .i64 (L.length : Int), .slice va m vc] w (RowTold w base (some g) (L.take i ++ V)) := by
  obtain ⟨n, hn⟩ : ∃ n, L.length = n := ⟨_, rfl⟩
  have hO := (hX.cut i).own hb
  rw [List.length_take, Nat.min_eq_left (by omega)] at hO
  rw [hn] at hi hL hc ⊢
  have hmax : cap ≤ 9223372036854775807 := by have := hX.cap; unfold maxLen at this; omega
  have hnot : ¬ (i : Int) = n := by omega
  have hnot2 : ((i : Int) == n) = false := by simp; omega
  have e1 : ((n : Int) == n) = true := by simp
  have HO := Lib.hid hO
  have HV := Lib.hid hV
  have HM := Lib.hid hm
  have hne1 : ¬ cap = i := by omega
  have hlt2 : ¬ ((i : Int) + m < n) := by omega
  clear hX hn hV hm hO
  go_enter Try.func47, Try.ntmps47
  go_wp2_with (at_builtin; go_must (refine wpList_append rfl (.tmp 32) (.tmp 33) _ rfl el_ext base _ _ _ rfl HO.out va m vc (flatX V) rfl (by rw [flatX_length, HM.out]) HV.out (flatX_one _) (by unfold maxLen; omega) (by omega) hbw ?_))
  rw [← flatX_append]
  intro v2 w2 hown2 hg2 hf2 _
  obtain ⟨h1, h2⟩ := XBlk.of_own hown2
  have hv2 : ∃ a2 c2, v2 = .slice a2 (i + m) c2 := by
    rcases h2 with ⟨rfl, h⟩ | ⟨g, cap, rest, rfl, _⟩
    · rw [h] at h1
      simp at h1
      exact ⟨none, 0, by rw [← h1]⟩
    · exact ⟨_, _, rfl⟩
  obtain ⟨a2, c2, rfl⟩ := hv2
  have HO2 := Lib.hid hown2
  have HG2 := Lib.hid hg2
  have HF2 := Lib.hid hf2
  clear hown2 h1 h2 hg2 hf2
  go_wp2_with fail
  go_ret
  exact ⟨a2, i + m, c2, rfl, HO2.out, Chg.of_grown HG2.out, HF2.out.elim .inl (fun e => .inr ⟨_, e, Nat.le_refl _⟩)⟩

theorem take_S {L : List Ext} {rest S : List Value} (hS : S = flatX L ++ rest) (i : Nat) (hi : i ≤ L.length) : S.take (i * 2) = flatX (L.take i) := by
  rw [hS, List.take_append_of_le_length (by rw [flatX_length]; omega), flatX_take]

set_option maxRecDepth 100000 in
set_option maxHeartbeats 2000000 in
/-- Within the row, by as many or fewer. -/
theorem replace_fewer (L V : List Ext) (i j g cap base m vc : Nat) (va : Option Addr) (rest : List Value) (w : World) (hX : XBlk w g cap L rest) (hV : Row w va (flatX V)) (hm : V.length = m) (hva : ∀ x, va = some x → x.block ≠ g)
    (hij : i < j) (hj : j < L.length) (hL : L.length ≤ 1000000) (hmij : i + m ≤ j) (hc : L.length ≤ cap) (hb : base ≤ g) :
    Calls Try.prog 47 #[.slice (some ⟨g, 0, none⟩) L.length cap, .int .i64 (i : Int), .int .i64 (j : Int), .slice va m vc] w (RowTold w base (some g) (L.take i ++ (V ++ L.drop j))) := by
  obtain ⟨n, hn⟩ : ∃ n, L.length = n := ⟨_, rfl⟩
  rw [hn] at hj hL hc ⊢
  have hmax : cap ≤ 9223372036854775807 := by have := hX.cap; unfold maxLen at this; omega
  have hnot2 : ((i : Int) == j) = false := by simp; omega
  have hnot3 : ((j : Int) == n) = false := by simp; omega
  have HX := Lib.hid hX
  have HN := Lib.hid hn
  have HV := Lib.hid hV
  have HM := Lib.hid hm
  have HVA := Lib.hid hva
  have hne1 : ¬ cap = i := by omega
  have hne2 : ¬ cap = i + m := by omega
  have hne3 : ¬ cap = j := by omega
  have HLEN := Lib.hid (show (flatX L ++ rest).length = cap * 2 by rw [List.length_append, flatX_length]; exact hX.len)
  obtain ⟨S, hS⟩ : ∃ S, S = flatX L ++ rest := ⟨_, rfl⟩
  have hblk := hX.blk
  rw [← hS] at HLEN hblk
  have HBK := Lib.hid hblk
  have HS := Lib.hid hS
  have hle1 : (i : Int) + m ≤ j := by omega
  have s0 : ((n - j : Nat) : Int) = (n : Int) - j := by omega
  have s1 : IntKind.i64.wrap ((i : Int) + m) = (i : Int) + m := by rw [IntKind.wrap_i64]; omega
  have s2 : IntKind.i64.wrap ((i : Int) + m + ((n - j : Nat) : Int)) = (i : Int) + m + ((n - j : Nat) : Int) := by rw [IntKind.wrap_i64]; omega
  have s4 : ((i : Int) + m).toNat = i + m := by omega
  have s5 : (0 : Int) ≤ (i : Int) := by omega
  have s6 : (i : Int) ≤ (n : Int) := by omega
  have s7 : (0 : Int) ≤ (j : Int) := by omega
  have s8 : (j : Int) ≤ (n : Int) := by omega
  have s9 : (0 : Int) ≤ (i : Int) + m := by omega
  have t1 : ¬ ((cap : Int) < (i : Int) + m + ((n : Int) - j)) := by omega
  have t2 : (i : Int) + m ≤ (i : Int) + m + ((n : Int) - j) := by omega
  have t3 : (i : Int) + m + ((n : Int) - j) ≤ (n : Int) := by omega
  have t4 : (0 : Int) ≤ (i : Int) + m + ((n : Int) - j) := by omega
  have t5 : ((i : Int) + m + ((n : Int) - j)).toNat = i + m + (n - j) := by omega
  have hct : (cap = i + m + (n - j)) = True ∨ (cap = i + m + (n - j)) = False := by
    by_cases h : cap = i + m + (n - j)
    · exact .inl (eq_true h)
    · exact .inr (eq_false h)
  clear hX hn hblk hS hV hm hva
  go_enter Try.func47, Try.ntmps47
  go_wp2_with fail
  go_quiet (fail)
  go_wp2_with (with_reducible refine wpList_copy_at (o := ⟨some 97, _, _, _, _, _⟩) rfl (.tmp 95) (.tmp 96) 65 65 ?h2 69 2 Try.underlying65 size_ext (some ⟨g, i * 2, none⟩) va (i + m + (n - j) - i) (cap - i) m vc ?h4 ?h5 g (i * 2) S 69 (HBK.out.drewN _) (flatX V) ?c1 (fun h => ⟨rfl, row_src (HV.out.drewN _) h⟩) ?c3 (flatX_one _) ?_)
  case h2 => rfl
  case h4 => rfl
  case h5 => rfl
  case c1 => rw [flatX_length, HM.out, show Nat.min m (i + m + (n - j) - i) = m from Nat.min_eq_left (by omega)]
  case c3 => rw [HLEN.out, flatX_length, HM.out]; omega
  intro w1 hB1 hc1
  go_wp2_with fail
  have hdrop : S.drop (j * 2) = flatX (L.drop j) ++ rest := by rw [HS.out, List.drop_append_of_le_length (by rw [flatX_length, HN.out]; omega), flatX_drop]
  have htake := take_S HS.out i (by rw [HN.out]; omega)
  have hS1 : splice S (i * 2) (flatX V) = flatX (L.take i) ++ (flatX V ++ S.drop (i * 2 + (flatX V).length)) := by unfold splice; rw [htake]
  have hrow : Row w1 (some ⟨g, j * 2, none⟩) (flatX (L.drop j)) := by
    have h := (Row.of_blk hB1.out).drop (j * 2)
    rw [Nat.zero_add] at h
    have e : (splice S (i * 2) (flatX V)).toArray.toList.drop (j * 2) = flatX (L.drop j) ++ rest := by
      show (splice S (i * 2) (flatX V)).drop (j * 2) = _
      unfold splice
      rw [List.drop_append, List.drop_append, List.drop_drop, flatX_length, HM.out, List.length_take, HLEN.out, Nat.min_eq_left (by omega), List.drop_eq_nil_of_le (by rw [List.length_take, HLEN.out]; omega), List.nil_append,
        List.drop_eq_nil_of_le (by rw [flatX_length, HM.out]; omega), List.nil_append, show i * 2 + m * 2 + (j * 2 - i * 2 - m * 2) = j * 2 by omega, hdrop]
    rw [e] at h
    have h2 := h.take (flatX (L.drop j)).length
    rwa [List.take_left] at h2
  have HROW := Lib.hid hrow
  have HDR := Lib.hid hdrop
  have HTK := Lib.hid htake
  have HS1 := Lib.hid hS1
  clear hrow hdrop htake hS1
  go_region_law (refine step_copy_at rfl (.tmp 103) (.tmp 106) 65 65 (by rfl) 69 2 Try.underlying65 size_ext (some ⟨g, (i + m) * 2, none⟩) (some ⟨g, j * 2, none⟩) (i + m + (n - j) - (i + m)) (cap - (i + m)) (n - j) (cap - j) (by simp [Act.eval, Act.put]) (by simp [Act.eval, Act.put]) g ((i + m) * 2) (splice S (i * 2) (flatX V)) 69 hB1.out (flatX (L.drop j)) (by rw [flatX_length, List.length_drop, HN.out, show Nat.min (n - j) (i + m + (n - j) - (i + m)) = n - j from Nat.min_eq_left (by omega)]) (fun h => ⟨rfl, row_src HROW.out h⟩) (by rw [length_splice _ _ _ (by rw [HLEN.out, flatX_length, HM.out]; omega), HLEN.out, flatX_length, List.length_drop, HN.out]; omega) (flatX_one _) ?_; intro w3 hB3 hc3)
  have hX3 : XBlk w3 g cap (L.take i ++ (V ++ L.drop j)) ((S.drop (i * 2)).drop ((flatX V).length + (flatX (L.drop j)).length)) := by
    have h := hB3.out
    have e : S = flatX (L.take i) ++ S.drop (i * 2) := by rw [← HTK.out, List.take_append_drop]
    rw [e, splice_two (by rw [flatX_length, List.length_take, HN.out]; omega) (by rw [flatX_length, HM.out]; omega), ← List.append_assoc (flatX V), ← List.append_assoc (flatX (List.take i L)), ← flatX_append, ← flatX_append] at h
    refine ⟨h, ?_, HX.out.cap⟩
    rw [List.length_append, List.length_append, List.length_take, List.length_drop, HN.out, HM.out, List.length_drop, List.length_drop, HLEN.out, flatX_length, flatX_length, HM.out, List.length_drop, HN.out]
    omega
  have HX3 := Lib.hid hX3
  clear hX3
  rcases hct with hct | hct
  · go_wp2_with (with_reducible refine wpList_clear_at (o := ⟨none, _, _, _, _, _⟩) rfl (.tmp 110) 65 ?h2a 69 2 (.agg #[.int .i64 0, .int .i64 0]) Try.underlying65 zero_ext rfl ?h3a (some ⟨g, 0, none⟩) (n - (i + m + (n - j))) (cap - (i + m + (n - j))) ?h4a g ((i + m + (n - j)) * 2) _ 69 hB3.out (fun h => absurd h (by have := of_eq_true hct; omega)) ?c3a ?_)
    case h2a => rfl
    case h3a => exact zero_one
    case h4a => rfl
    case c3a =>
      rw [length_splice _ _ _ (by rw [length_splice _ _ _ (by rw [HLEN.out, flatX_length, HM.out]; omega), HLEN.out, flatX_length, List.length_drop, HN.out]; omega), length_splice _ _ _ (by rw [HLEN.out, flatX_length, HM.out]; omega), HLEN.out]
      omega
    intro w4 zs hz hB4 hc4
    have hX4 := HX3.out.spliced hB3.out hB4.out (by rw [List.length_append, List.length_append, List.length_take, List.length_drop, HN.out, HM.out, Nat.min_eq_left (by omega)]; omega) (by rw [hz.out, List.length_drop, List.length_drop, HLEN.out, flatX_length, flatX_length, HM.out, List.length_drop, HN.out]; omega)
    go_wp2_with fail
    go_ret
    refine RowTold.mk' hX4 hb (by rw [List.length_append, List.length_append, List.length_take, List.length_drop, HN.out, HM.out, Nat.min_eq_left (by omega)]; omega) (.inl rfl) ?_
    exact ((((Chg.refl (fun k => some k = some g) w).drewN _).trans hc1.out (fun k hk e => by rw [e])).drew.trans hc3.out (fun k hk e => by rw [e])).trans hc4.out (fun k hk e => by rw [e])
  · go_wp2_with (with_reducible refine wpList_clear_at (o := ⟨none, _, _, _, _, _⟩) rfl (.tmp 110) 65 ?h2b 69 2 (.agg #[.int .i64 0, .int .i64 0]) Try.underlying65 zero_ext rfl ?h3b (some ⟨g, (i + m + (n - j)) * 2, none⟩) (n - (i + m + (n - j))) (cap - (i + m + (n - j))) ?h4b g ((i + m + (n - j)) * 2) _ 69 hB3.out (fun _ => rfl) ?c3b ?_)
    case h2b => rfl
    case h3b => exact zero_one
    case h4b => rfl
    case c3b =>
      rw [length_splice _ _ _ (by rw [length_splice _ _ _ (by rw [HLEN.out, flatX_length, HM.out]; omega), HLEN.out, flatX_length, List.length_drop, HN.out]; omega), length_splice _ _ _ (by rw [HLEN.out, flatX_length, HM.out]; omega), HLEN.out]
      omega
    intro w4 zs hz hB4 hc4
    have hX4 := HX3.out.spliced hB3.out hB4.out (by rw [List.length_append, List.length_append, List.length_take, List.length_drop, HN.out, HM.out, Nat.min_eq_left (by omega)]; omega) (by rw [hz.out, List.length_drop, List.length_drop, HLEN.out, flatX_length, flatX_length, HM.out, List.length_drop, HN.out]; omega)
    go_wp2_with fail
    go_ret
    refine RowTold.mk' hX4 hb (by rw [List.length_append, List.length_append, List.length_take, List.length_drop, HN.out, HM.out, Nat.min_eq_left (by omega)]; omega) (.inl rfl) ?_
    exact ((((Chg.refl (fun k => some k = some g) w).drewN _).trans hc1.out (fun k hk e => by rw [e])).drew.trans hc3.out (fun k hk e => by rw [e])).trans hc4.out (fun k hk e => by rw [e])

end Go.Proofs.Ytodjibhnmibedaa.Sp
