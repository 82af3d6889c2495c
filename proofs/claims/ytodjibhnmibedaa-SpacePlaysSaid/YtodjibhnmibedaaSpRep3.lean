/- The walk of slices.Replace at extents: by more. -/
import Derived.Test.YtodjibhnmibedaaSpRep2
set_option linter.unusedVariables false
namespace Go.Proofs.Ytodjibhnmibedaa.Sp
open Go.RowKit

set_option maxRecDepth 100000 in
set_option maxHeartbeats 2000000 in
/-- Within the row, by more, within the room. -/
theorem replace_more (L V : List Ext) (i j g cap base m vc vb : Nat) (c1 : Array Value) (rest : List Value) (w : World) (hX : XBlk w g cap L rest) (hV : Row w (some ⟨vb, 0, none⟩) (flatX V)) (hVB : Blk w vb 69 c1) (hc1 : c1.size ≠ 0) (hm : V.length = m) (hva : g ≠ vb)
    (hij : i < j) (hj : j < L.length) (hL : L.length ≤ 1000000) (hmij : j < i + m) (hm6 : m ≤ 1000) (hc : i + m + (L.length - j) ≤ cap) (hb : base ≤ g) :
    Calls Try.prog 47 #[.slice (some ⟨g, 0, none⟩) L.length cap, .int .i64 (i : Int), .int .i64 (j : Int), .slice (some ⟨vb, 0, none⟩) m vc] w (RowTold w base (some g) (L.take i ++ (V ++ L.drop j))) := by
  obtain ⟨n, hn⟩ : ∃ n, L.length = n := ⟨_, rfl⟩
  rw [hn] at hj hL hc ⊢
  have hmax : cap ≤ 9223372036854775807 := by have := hX.cap; unfold maxLen at this; omega
  have hnot2 : ((i : Int) == j) = false := by simp; omega
  have hnot3 : ((j : Int) == n) = false := by simp; omega
  have HX := Lib.hid hX
  have HN := Lib.hid hn
  have HV := Lib.hid hV
  have HM := Lib.hid hm
  have HVA := Lib.hid hva
  have hne1 : ¬ cap = i := by omega
  have hne2 : ¬ cap = i + m := by omega
  have hne3 : ¬ cap = j := by omega
  have HLEN := Lib.hid (show (flatX L ++ rest).length = cap * 2 by rw [List.length_append, flatX_length]; exact hX.len)
  obtain ⟨S, hS⟩ : ∃ S, S = flatX L ++ rest := ⟨_, rfl⟩
  have hblk := hX.blk
  rw [← hS] at HLEN hblk
  have HBK := Lib.hid hblk
  have HS := Lib.hid hS
  have hle1 : ¬ ((i : Int) + m ≤ j) := by omega
  have s0 : ((n - j : Nat) : Int) = (n : Int) - j := by omega
  have s1 : IntKind.i64.wrap ((i : Int) + m) = (i : Int) + m := by rw [IntKind.wrap_i64]; omega
  have s2 : IntKind.i64.wrap ((i : Int) + m + ((n - j : Nat) : Int)) = (i : Int) + m + ((n - j : Nat) : Int) := by rw [IntKind.wrap_i64]; omega
  have s4 : ((i : Int) + m).toNat = i + m := by omega
  have s5 : (0 : Int) ≤ (i : Int) := by omega
  have s6 : (i : Int) ≤ (n : Int) := by omega
  have s7 : (0 : Int) ≤ (j : Int) := by omega
  have s8 : (j : Int) ≤ (n : Int) := by omega
  have s9 : (0 : Int) ≤ (i : Int) + m := by omega
  have t1 : ¬ ((cap : Int) < (i : Int) + m + ((n : Int) - j)) := by omega
  have t2 : (i : Int) + m ≤ (i : Int) + m + ((n : Int) - j) := by omega
  have t4 : (0 : Int) ≤ (i : Int) + m + ((n : Int) - j) := by omega
  have t5 : ((i : Int) + m + ((n : Int) - j)).toNat = i + m + (n - j) := by omega
  have hmm : 0 < m := by omega
  have hwd : ∀ nq, (callFunc 56 #[.slice (some ⟨g, (i + m) * 2, none⟩) (n - j) (cap - (i + m)), .slice (some ⟨vb, 0, none⟩) m vc]).run Try.prog (w.drewN nq) = .ok (.value (.bool false)) (w.drewN nq) := fun nq => overlaps_apart (hX.blk.drewN nq) (hVB.drewN nq) hva hc1 _ _ _ _ _ _
  clear hX hn hblk hS hV hm hva hc1 hVB
  go_enter Try.func47, Try.ntmps47
  go_wp2_with fail
  go_quiet (fail)
  have hov := hwd nq
  clear hwd
  have HROW := Lib.hid (HX.out.row j n (by rw [HN.out]; exact Nat.le_refl _))
  have hdr : (L.take n).drop j = L.drop j := by rw [List.take_of_length_le (by rw [HN.out]; exact Nat.le_refl _)]
  rw [hdr] at HROW
  clear hdr
  go_wp2_with fail
  clear hov
  go_region_law (refine step_copy_at rfl (.tmp 126) (.tmp 129) 65 65 (by rfl) 69 2 Try.underlying65 size_ext (some ⟨g, (i + m) * 2, none⟩) (some ⟨g, j * 2, none⟩) (n - j) (cap - (i + m)) (n - j) (cap - j) (by simp [Act.eval, Act.put]) (by simp [Act.eval, Act.put]) g ((i + m) * 2) S 69 HBK.out (flatX (L.drop j)) (by rw [flatX_length, List.length_drop, HN.out, show Nat.min (n - j) (n - j) = n - j from Nat.min_self _]) (fun h => ⟨rfl, row_src HROW.out h⟩) (by rw [HLEN.out, flatX_length, List.length_drop, HN.out]; omega) (flatX_one _) ?_; intro w3 hB3 hc3)
  have RV : Hid (Row w3 (some ⟨vb, 0, none⟩) (flatX V)) := Lib.hid ((HV.out.drewN (nq + 1)).chg hc3.out (fun x hx => by injection hx with hx; subst hx; exact fun e => HVA.out e.symm))
  go_wp2_with (with_reducible refine wpList_copy_at (o := ⟨some 135, _, _, _, _, _⟩) rfl (.tmp 133) (.tmp 134) 65 65 ?h2 69 2 Try.underlying65 size_ext (some ⟨g, i * 2, none⟩) (some ⟨vb, 0, none⟩) (i + m + (n - j) - i) (cap - i) m vc ?h4 ?h5 g (i * 2) _ 69 hB3.out (flatX V) ?c1 (fun h => ⟨rfl, row_src RV.out h⟩) ?c3 (flatX_one _) ?_)
  case h2 => rfl
  case h4 => rfl
  case h5 => rfl
  case c1 => rw [flatX_length, HM.out, show Nat.min m (i + m + (n - j) - i) = m from Nat.min_eq_left (by omega)]
  case c3 => rw [length_splice _ _ _ (by rw [HLEN.out, flatX_length, List.length_drop, HN.out]; omega), HLEN.out, flatX_length, HM.out]; omega
  intro w4 hB4 hc4
  have htake := take_S HS.out i (by rw [HN.out]; omega)
  have hX4 : XBlk w4 g cap (L.take i ++ (V ++ L.drop j)) (S.drop ((i + m) * 2 + (flatX (L.drop j)).length)) := by
    have h := hB4.out
    rw [splice_up (by rw [flatX_length, HM.out]; omega) (by rw [HLEN.out]; omega), htake, ← List.append_assoc (flatX V), ← List.append_assoc (flatX (List.take i L)), ← flatX_append, ← flatX_append] at h
    refine ⟨h, ?_, HX.out.cap⟩
    rw [List.length_append, List.length_append, List.length_take, List.length_drop, HN.out, HM.out, List.length_drop, HLEN.out, flatX_length, List.length_drop, HN.out]
    omega
  have HX4 := Lib.hid hX4
  clear hX4 htake
  go_wp2_with fail
  go_ret
  refine RowTold.mk' HX4.out hb (by rw [List.length_append, List.length_append, List.length_take, List.length_drop, HN.out, HM.out, Nat.min_eq_left (by omega)]; omega) (.inl rfl) ?_
  exact (((Chg.refl (fun k => some k = some g) w).drewN _).drew.trans hc3.out (fun k hk e => by rw [e])).trans hc4.out (fun k hk e => by rw [e])

set_option maxRecDepth 100000 in
set_option maxHeartbeats 2000000 in
/-- Within the row, by more, past the room. -/
theorem replace_grow (L V : List Ext) (i j g cap base m vc : Nat) (va : Option Addr) (rest : List Value) (w : World) (hX : XBlk w g cap L rest) (hV : Row w va (flatX V)) (hm : V.length = m)
    (hij : i < j) (hj : j < L.length) (hL : L.length ≤ 1000000) (hmij : j < i + m) (hm6 : m ≤ 1000) (hc : ¬ i + m + (L.length - j) ≤ cap) (hcl : L.length ≤ cap) (hb : base ≤ w.heap.size) :
    Calls Try.prog 47 #[.slice (some ⟨g, 0, none⟩) L.length cap, .int .i64 (i : Int), .int .i64 (j : Int), .slice va m vc] w (RowTold w base (some g) (L.take i ++ (V ++ L.drop j))) := by
  obtain ⟨n, hn⟩ : ∃ n, L.length = n := ⟨_, rfl⟩
  rw [hn] at hj hL hc hcl ⊢
  have hmax : cap ≤ 9223372036854775807 := by have := hX.cap; unfold maxLen at this; omega
  have hnot2 : ((i : Int) == j) = false := by simp; omega
  have hnot3 : ((j : Int) == n) = false := by simp; omega
  have HX := Lib.hid hX
  have HN := Lib.hid hn
  have HV := Lib.hid hV
  have HM := Lib.hid hm
  have hne1 : ¬ cap = i := by omega
  have hne3 : ¬ cap = j := by omega
  have HLEN := Lib.hid (show (flatX L ++ rest).length = cap * 2 by rw [List.length_append, flatX_length]; exact hX.len)
  obtain ⟨S, hS⟩ : ∃ S, S = flatX L ++ rest := ⟨_, rfl⟩
  have hblk := hX.blk
  rw [← hS] at HLEN hblk
  have HBK := Lib.hid hblk
  have HS := Lib.hid hS
  have hle1 : ¬ ((i : Int) + m ≤ j) := by omega
  have s0 : ((n - j : Nat) : Int) = (n : Int) - j := by omega
  have s1 : IntKind.i64.wrap ((i : Int) + m) = (i : Int) + m := by rw [IntKind.wrap_i64]; omega
  have s2 : IntKind.i64.wrap ((i : Int) + m + ((n - j : Nat) : Int)) = (i : Int) + m + ((n - j : Nat) : Int) := by rw [IntKind.wrap_i64]; omega
  have s4 : ((i : Int) + m).toNat = i + m := by omega
  have s5 : (0 : Int) ≤ (i : Int) := by omega
  have s6 : (i : Int) ≤ (n : Int) := by omega
  have s7 : (0 : Int) ≤ (j : Int) := by omega
  have s8 : (j : Int) ≤ (n : Int) := by omega
  have s9 : (0 : Int) ≤ (i : Int) + m := by omega
  have t1 : (cap : Int) < (i : Int) + m + ((n : Int) - j) := by omega
  have t2 : (i : Int) + m ≤ (i : Int) + m + ((n : Int) - j) := by omega
  have t4 : (0 : Int) ≤ (i : Int) + m + ((n : Int) - j) := by omega
  have t5 : ((i : Int) + m + ((n : Int) - j)).toNat = i + m + (n - j) := by omega
  have hmm : 0 < m := by omega
  have HR := Lib.hid (hX.row 0 i (by omega))
  have hgl := hX.blk.lt
  clear hX hn hblk hS hV hm
  go_enter Try.func47, Try.ntmps47
  go_wp2_with fail
  go_quiet (fail)
  go_wp2_with (at_builtin; go_must (refine wpList_append_zeros rfl (.tmp 63) (.tmp 66) _ 3 rfl 69 .i64 .i64 2 16 _ Try.underlying65 Try.underlying3 info_ext rfl (by omega) i cap (some ⟨g, 0, none⟩) (m + (n - j)) (flatX (L.take i)) rfl (congrArg (Value.int .i64) (show (i : Int) + m + ((n : Int) - j) - i = ((m + (n - j) : Nat) : Int) by omega)) (by rw [flatX_length, List.length_take, HN.out]; omega) HR.out (by omega) (by unfold maxLen; omega) (by omega) (by omega) (by omega) (i + m + (n - j)) (by omega) ?_))
  intro w1 C S1 hC HS1L HS1 hB1' hb1'
  have hb1 : Hid (Below w.heap.size w w1) := Lib.hid ⟨hb1'.out.os, hb1'.out.tape, hb1'.out.output, hb1'.out.size, hb1'.out.block⟩
  have hB1 : Hid (Blk w1 w.heap.size 69 S1.toArray) := hB1'
  clear hB1' hb1'
  have hCn : i + m + (n - j) ≤ C := hC.out.1
  have q2 : ¬ (C = i) := by omega
  have q3 : ¬ (C = i + m) := by omega
  have hb1z := hb1.out.size
  have RV := Lib.hid (HV.out.below hb1.out)
  have HX1 := Lib.hid (HX.out.below hb1.out)
  go_wp2_with (with_reducible refine wpList_copy_at (o := ⟨some 72, _, _, _, _, _⟩) rfl (.tmp 70) (.tmp 71) 65 65 ?h2 69 2 Try.underlying65 size_ext (some ⟨w.heap.size, i * 2, none⟩) va (i + m + (n - j) - i) (C - i) m vc ?h4 ?h5 w.heap.size (i * 2) S1 69 hB1.out (flatX V) ?c1 (fun h => ⟨rfl, row_src RV.out h⟩) ?c3 (flatX_one _) ?_)
  case h2 => rfl
  case h4 => rfl
  case h5 => rfl
  case c1 => rw [flatX_length, HM.out, show Nat.min m (i + m + (n - j) - i) = m from Nat.min_eq_left (by omega)]
  case c3 => rw [HS1L.out, flatX_length, HM.out]; omega
  intro w2 hB2 hc2
  have RL := Lib.hid ((HX1.out.chg hc2.out (by omega)).row j n (by have := HN.out; omega))
  have hdr : (L.take n).drop j = L.drop j := by rw [List.take_of_length_le (by rw [HN.out]; exact Nat.le_refl _)]
  rw [hdr] at RL
  clear hdr
  go_wp2_with fail
  go_region_law (refine step_copy_at rfl (.tmp 78) (.tmp 81) 65 65 (by rfl) 69 2 Try.underlying65 size_ext (some ⟨w.heap.size, (i + m) * 2, none⟩) (some ⟨g, j * 2, none⟩) (n - j) (C - (i + m)) (n - j) (cap - j) (by simp [Act.eval, Act.put]) (by simp [Act.eval, Act.put]) w.heap.size ((i + m) * 2) (splice S1 (i * 2) (flatX V)) 69 hB2.out (flatX (L.drop j)) (by rw [flatX_length, List.length_drop, HN.out, show Nat.min (n - j) (n - j) = n - j from Nat.min_self _]) (fun h => ⟨rfl, row_src RL.out h⟩) (by rw [length_splice _ _ _ (by rw [HS1L.out, flatX_length, HM.out]; omega), HS1L.out, flatX_length, List.length_drop, HN.out]; omega) (flatX_one _) ?_; intro w3 hB3 hc3)
  obtain ⟨r, hr⟩ := HS1.out
  have hX3 : XBlk w3 w.heap.size C (L.take i ++ (V ++ L.drop j)) (r.drop ((flatX V).length + (flatX (L.drop j)).length)) := by
    have h := hB3.out
    have hSL := HS1L.out
    rw [hr, List.length_append, flatX_length, List.length_take, HN.out] at hSL
    rw [hr, splice_two (by rw [flatX_length, List.length_take, HN.out]; omega) (by rw [flatX_length, HM.out]; omega), ← List.append_assoc (flatX V), ← List.append_assoc (flatX (List.take i L)), ← flatX_append, ← flatX_append] at h
    refine ⟨h, ?_, hC.out.2⟩
    rw [List.length_append, List.length_append, List.length_take, List.length_drop, HN.out, HM.out, List.length_drop, flatX_length, flatX_length, HM.out, List.length_drop, HN.out]
    omega
  have HX3 := Lib.hid hX3
  clear hX3 hr
  go_wp2_with fail
  go_ret
  refine RowTold.mk' HX3.out hb (by rw [List.length_append, List.length_append, List.length_take, List.length_drop, HN.out, HM.out, Nat.min_eq_left (by omega)]; omega) (.inr (Nat.le_refl _)) ?_
  exact (((Chg.of_below' hb1.out).trans hc2.out (fun k hk e => by omega)).drew.trans hc3.out (fun k hk e => by omega))

/-- Replace, of whatever lies between two places, by none, one or two. -/
theorem replace_any (L V : List Ext) (i j n c base m vc : Nat) (a va : Option Addr) (w : World) (hown : w.ownsRow base 69 2 (.slice a n c) n (flatX L)) (hb : base ≤ w.heap.size) (hV : Row w va (flatX V)) (hm : V.length = m)
    (hva : ∀ x, va = some x → some x.block ≠ (Value.slice a n c).ownBlock) (hvb : 0 < m → ∃ vb c1, va = some ⟨vb, 0, none⟩ ∧ Blk w vb 69 c1) (hij : i < j) (hj : j ≤ L.length) (hL : L.length ≤ 1000000) (hm2 : m ≤ 2) :
    Calls Try.prog 47 #[.slice a n c, .int .i64 (i : Int), .int .i64 (j : Int), .slice va m vc] w (RowTold w base (Value.slice a n c).ownBlock (L.take i ++ (V ++ L.drop j))) := by
  obtain ⟨hn, hv⟩ := XBlk.of_own hown
  rcases hv with ⟨hv, hL0⟩ | ⟨g, cap, rest, hv, hbg, _, hX⟩
  · subst hL0
    simp at hj
    omega
  · injection hv with h1 h2 h3
    subst h1
    subst h3
    have hvag : ∀ x, va = some x → x.block ≠ g := fun x hx e => hva x hx (by rw [e]; rfl)
    have hcl : L.length ≤ c := by have := hX.len; omega
    subst hn
    by_cases hjn : j = L.length
    · subst hjn
      rw [List.drop_eq_nil_of_le (Nat.le_refl _), List.append_nil]
      by_cases hr : i + m ≤ c
      · exact replace_end L V i g c base m vc va rest w hX hV hm hij hL hm2 hr hcl hbg
      · exact replace_end_grow L V i g c base m vc va rest w hX hV hm hij hL hm2 hr hcl hbg hb
    · by_cases hfew : i + m ≤ j
      · exact replace_fewer L V i j g c base m vc va rest w hX hV hm hvag hij (by omega) hL hfew hcl hbg
      · by_cases hr : i + m + (L.length - j) ≤ c
        · obtain ⟨vb, c1, hvb1, hvb2⟩ := hvb (by omega)
          subst hvb1
          have hc1 : c1.size ≠ 0 := by
            obtain ⟨b, off, e, hc, _⟩ := hV.at_ (i := 0) (by rw [flatX_length]; omega)
            injection e with e
            injection e with e1 e2
            subst e1
            subst e2
            rw [hvb2.cell] at hc
            intro h0
            rw [Array.getElem?_eq_none (by omega)] at hc
            cases hc
          exact replace_more L V i j g c base m vc vb c1 rest w hX hV hvb2 hc1 hm (fun e => hvag _ rfl e.symm) hij (by omega) hL (by omega) (by omega) hr hbg
        · exact replace_grow L V i j g c base m vc va rest w hX hV hm hij (by omega) hL (by omega) (by omega) hr hcl hb

end Go.Proofs.Ytodjibhnmibedaa.Sp
