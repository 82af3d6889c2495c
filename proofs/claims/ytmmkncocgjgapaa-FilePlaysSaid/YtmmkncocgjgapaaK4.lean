/- Texts of mine, packed: SpRep3, SpOps, SpSearch, SpInside, SpHold. -/
import Derived.Test.YtmmkncocgjgapaaK3
import Derived.Deep.RegionHeld3
import Derived.IntWalk
set_option linter.unusedVariables false

/- The walk of slices.Replace at extents: by more. -/
namespace Go.Proofs.Ytmmkncocgjgapaa.Sp
open Go.RowKit

set_option maxRecDepth 100000 in
set_option maxHeartbeats 2000000 in
/-- Within the row, by more, within the room. -/
theorem replace_more (L V : List Ext) (i j g cap base m vc vb : Nat) (c1 : Array Value) (rest : List Value) (w : World) (hX : XBlk w g cap L rest) (hV : Row w (some ⟨vb, 0, none⟩) (flatX V)) (hVB : Blk w vb 128 c1) (hc1 : c1.size ≠ 0) (hm : V.length = m) (hva : g ≠ vb)
    (hij : i < j) (hj : j < L.length) (hL : L.length ≤ 1000000) (hmij : j < i + m) (hm6 : m ≤ 1000) (hc : i + m + (L.length - j) ≤ cap) (hb : base ≤ g) :
    Calls Try.prog 64 #[.slice (some ⟨g, 0, none⟩) L.length cap, .int .i64 (i : Int), .int .i64 (j : Int), .slice (some ⟨vb, 0, none⟩) m vc] w (RowTold w base (some g) (L.take i ++ (V ++ L.drop j))) := by
  obtain ⟨n, hn⟩ : ∃ n, L.length = n := ⟨_, rfl⟩
  rw [hn] at hj hL hc ⊢
  have hmax : cap ≤ 9223372036854775807 := by have := hX.cap; unfold maxLen at this; omega
  have hnot2 : ((i : Int) == j) = false := by simp; omega
  have hnot3 : ((j : Int) == n) = false := by simp; omega
  have HX := Lib.hid hX
  have HN := Lib.hid hn
  have HV := Lib.hid hV
  have HM := Lib.hid hm
  have HVA := Lib.hid hva
  have hne1 : ¬ cap = i := by omega
  have hne2 : ¬ cap = i + m := by omega
  have hne3 : ¬ cap = j := by omega
  have HLEN := Lib.hid (show (flatX L ++ rest).length = cap * 2 by rw [List.length_append, flatX_length]; exact hX.len)
  obtain ⟨S, hS⟩ : ∃ S, S = flatX L ++ rest := ⟨_, rfl⟩
  have hblk := hX.blk
  rw [← hS] at HLEN hblk
  have HBK := Lib.hid hblk
  have HS := Lib.hid hS
  have hle1 : ¬ ((i : Int) + m ≤ j) := by omega
  have s0 : ((n - j : Nat) : Int) = (n : Int) - j := by omega
  have s1 : IntKind.i64.wrap ((i : Int) + m) = (i : Int) + m := by rw [IntKind.wrap_i64]; omega
  have s2 : IntKind.i64.wrap ((i : Int) + m + ((n - j : Nat) : Int)) = (i : Int) + m + ((n - j : Nat) : Int) := by rw [IntKind.wrap_i64]; omega
  have s4 : ((i : Int) + m).toNat = i + m := by omega
  have s5 : (0 : Int) ≤ (i : Int) := by omega
  have s6 : (i : Int) ≤ (n : Int) := by omega
  have s7 : (0 : Int) ≤ (j : Int) := by omega
  have s8 : (j : Int) ≤ (n : Int) := by omega
  have s9 : (0 : Int) ≤ (i : Int) + m := by omega
  have t1 : ¬ ((cap : Int) < (i : Int) + m + ((n : Int) - j)) := by omega
  have t2 : (i : Int) + m ≤ (i : Int) + m + ((n : Int) - j) := by omega
  have t4 : (0 : Int) ≤ (i : Int) + m + ((n : Int) - j) := by omega
  have t5 : ((i : Int) + m + ((n : Int) - j)).toNat = i + m + (n - j) := by omega
  have hmm : 0 < m := by omega
  have hwd : ∀ nq, (callFunc 73 #[.slice (some ⟨g, (i + m) * 2, none⟩) (n - j) (cap - (i + m)), .slice (some ⟨vb, 0, none⟩) m vc]).run Try.prog (w.drewN nq) = .ok (.value (.bool false)) (w.drewN nq) := fun nq => overlaps_apart (hX.blk.drewN nq) (hVB.drewN nq) hva hc1 _ _ _ _ _ _
  clear hX hn hblk hS hV hm hva hc1 hVB
  go_enter Try.func64, Try.ntmps64
  go_wp2_with fail
  go_quiet (fail)
  have hov := hwd nq
  clear hwd
  have HROW := Lib.hid (HX.out.row j n (by rw [HN.out]; exact Nat.le_refl _))
  have hdr : (L.take n).drop j = L.drop j := by rw [List.take_of_length_le (by rw [HN.out]; exact Nat.le_refl _)]
  rw [hdr] at HROW
  clear hdr
  go_wp2_with fail
  clear hov
  go_region_law (refine step_copy_at rfl (.tmp 126) (.tmp 129) 125 125 (by rfl) 128 2 Try.underlying125 size_ext (some ⟨g, (i + m) * 2, none⟩) (some ⟨g, j * 2, none⟩) (n - j) (cap - (i + m)) (n - j) (cap - j) (by simp [Act.eval, Act.put]) (by simp [Act.eval, Act.put]) g ((i + m) * 2) S 128 HBK.out (flatX (L.drop j)) (by rw [flatX_length, List.length_drop, HN.out, show Nat.min (n - j) (n - j) = n - j from Nat.min_self _]) (fun h => ⟨rfl, row_src HROW.out h⟩) (by rw [HLEN.out, flatX_length, List.length_drop, HN.out]; omega) (flatX_one _) ?_; intro w3 hB3 hc3)
  have RV : Hid (Row w3 (some ⟨vb, 0, none⟩) (flatX V)) := Lib.hid ((HV.out.drewN (nq + 1)).chg hc3.out (fun x hx => by injection hx with hx; subst hx; exact fun e => HVA.out e.symm))
  go_wp2_with (with_reducible refine wpList_copy_at (o := ⟨some 135, _, _, _, _, _⟩) rfl (.tmp 133) (.tmp 134) 125 125 ?h2 128 2 Try.underlying125 size_ext (some ⟨g, i * 2, none⟩) (some ⟨vb, 0, none⟩) (i + m + (n - j) - i) (cap - i) m vc ?h4 ?h5 g (i * 2) _ 128 hB3.out (flatX V) ?c1 (fun h => ⟨rfl, row_src RV.out h⟩) ?c3 (flatX_one _) ?_)
  case h2 => rfl
  case h4 => rfl
  case h5 => rfl
  case c1 => rw [flatX_length, HM.out, show Nat.min m (i + m + (n - j) - i) = m from Nat.min_eq_left (by omega)]
  case c3 => rw [length_splice _ _ _ (by rw [HLEN.out, flatX_length, List.length_drop, HN.out]; omega), HLEN.out, flatX_length, HM.out]; omega
  intro w4 hB4 hc4
  have htake := take_S HS.out i (by rw [HN.out]; omega)
  have hX4 : XBlk w4 g cap (L.take i ++ (V ++ L.drop j)) (S.drop ((i + m) * 2 + (flatX (L.drop j)).length)) := by
    have h := hB4.out
    rw [splice_up (by rw [flatX_length, HM.out]; omega) (by rw [HLEN.out]; omega), htake, ← List.append_assoc (flatX V), ← List.append_assoc (flatX (List.take i L)), ← flatX_append, ← flatX_append] at h
    refine ⟨h, ?_, HX.out.cap⟩
    rw [List.length_append, List.length_append, List.length_take, List.length_drop, HN.out, HM.out, List.length_drop, HLEN.out, flatX_length, List.length_drop, HN.out]
    omega
  have HX4 := Lib.hid hX4
  clear hX4 htake
  go_wp2_with fail
  go_ret
  refine RowTold.mk' HX4.out hb (by rw [List.length_append, List.length_append, List.length_take, List.length_drop, HN.out, HM.out, Nat.min_eq_left (by omega)]; omega) (.inl rfl) ?_
  exact (((Chg.refl (fun k => some k = some g) w).drewN _).drew.trans hc3.out (fun k hk e => by rw [e])).trans hc4.out (fun k hk e => by rw [e])

set_option maxRecDepth 100000 in
set_option maxHeartbeats 2000000 in
/-- Within the row, by more, past the room. -/
theorem replace_grow (L V : List Ext) (i j g cap base m vc : Nat) (va : Option Addr) (rest : List Value) (w : World) (hX : XBlk w g cap L rest) (hV : Row w va (flatX V)) (hm : V.length = m)
    (hij : i < j) (hj : j < L.length) (hL : L.length ≤ 1000000) (hmij : j < i + m) (hm6 : m ≤ 1000) (hc : ¬ i + m + (L.length - j) ≤ cap) (hcl : L.length ≤ cap) (hb : base ≤ w.heap.size) :
    Calls Try.prog 64 #[.slice (some ⟨g, 0, none⟩) L.length cap, .int .i64 (i : Int), .int .i64 (j : Int), .slice va m vc] w (RowTold w base (some g) (L.take i ++ (V ++ L.drop j))) := by
  obtain ⟨n, hn⟩ : ∃ n, L.length = n := ⟨_, rfl⟩
  rw [hn] at hj hL hc hcl ⊢
  have hmax : cap ≤ 9223372036854775807 := by have := hX.cap; unfold maxLen at this; omega
  have hnot2 : ((i : Int) == j) = false := by simp; omega
  have hnot3 : ((j : Int) == n) = false := by simp; omega
  have HX := Lib.hid hX
  have HN := Lib.hid hn
  have HV := Lib.hid hV
  have HM := Lib.hid hm
  have hne1 : ¬ cap = i := by omega
  have hne3 : ¬ cap = j := by omega
  have HLEN := Lib.hid (show (flatX L ++ rest).length = cap * 2 by rw [List.length_append, flatX_length]; exact hX.len)
  obtain ⟨S, hS⟩ : ∃ S, S = flatX L ++ rest := ⟨_, rfl⟩
  have hblk := hX.blk
  rw [← hS] at HLEN hblk
  have HBK := Lib.hid hblk
  have HS := Lib.hid hS
  have hle1 : ¬ ((i : Int) + m ≤ j) := by omega
  have s0 : ((n - j : Nat) : Int) = (n : Int) - j := by omega
  have s1 : IntKind.i64.wrap ((i : Int) + m) = (i : Int) + m := by rw [IntKind.wrap_i64]; omega
  have s2 : IntKind.i64.wrap ((i : Int) + m + ((n - j : Nat) : Int)) = (i : Int) + m + ((n - j : Nat) : Int) := by rw [IntKind.wrap_i64]; omega
  have s4 : ((i : Int) + m).toNat = i + m := by omega
  have s5 : (0 : Int) ≤ (i : Int) := by omega
  have s6 : (i : Int) ≤ (n : Int) := by omega
  have s7 : (0 : Int) ≤ (j : Int) := by omega
  have s8 : (j : Int) ≤ (n : Int) := by omega
  have s9 : (0 : Int) ≤ (i : Int) + m := by omega
  have t1 : (cap : Int) < (i : Int) + m + ((n : Int) - j) := by omega
  have t2 : (i : Int) + m ≤ (i : Int) + m + ((n : Int) - j) := by omega
  have t4 : (0 : Int) ≤ (i : Int) + m + ((n : Int) - j) := by omega
  have t5 : ((i : Int) + m + ((n : Int) - j)).toNat = i + m + (n - j) := by omega
  have hmm : 0 < m := by omega
  have HR := Lib.hid (hX.row 0 i (by omega))
  have hgl := hX.blk.lt
  clear hX hn hblk hS hV hm
  go_enter Try.func64, Try.ntmps64
  go_wp2_with fail
  go_quiet (fail)
  go_wp2_with (at_builtin; go_must (refine wpList_append_zeros rfl (.tmp 63) (.tmp 66) _ 3 rfl 128 .i64 .i64 2 16 _ Try.underlying125 Try.underlying3 info_ext rfl (by omega) i cap (some ⟨g, 0, none⟩) (m + (n - j)) (flatX (L.take i)) rfl (congrArg (Value.int .i64) (show (i : Int) + m + ((n : Int) - j) - i = ((m + (n - j) : Nat) : Int) by omega)) (by rw [flatX_length, List.length_take, HN.out]; omega) HR.out (by omega) (by unfold maxLen; omega) (by omega) (by omega) (by omega) (i + m + (n - j)) (by omega) ?_))
  intro w1 C S1 hC HS1L HS1 hB1' hb1'
  have hb1 : Hid (Below w.heap.size w w1) := Lib.hid ⟨hb1'.out.os, hb1'.out.tape, hb1'.out.output, hb1'.out.size, hb1'.out.block⟩
  have hB1 : Hid (Blk w1 w.heap.size 128 S1.toArray) := hB1'
  clear hB1' hb1'
  have hCn : i + m + (n - j) ≤ C := hC.out.1
  have q2 : ¬ (C = i) := by omega
  have q3 : ¬ (C = i + m) := by omega
  have hb1z := hb1.out.size
  have RV := Lib.hid (HV.out.below hb1.out)
  have HX1 := Lib.hid (HX.out.below hb1.out)
  go_wp2_with (with_reducible refine wpList_copy_at (o := ⟨some 72, _, _, _, _, _⟩) rfl (.tmp 70) (.tmp 71) 125 125 ?h2 128 2 Try.underlying125 size_ext (some ⟨w.heap.size, i * 2, none⟩) va (i + m + (n - j) - i) (C - i) m vc ?h4 ?h5 w.heap.size (i * 2) S1 128 hB1.out (flatX V) ?c1 (fun h => ⟨rfl, row_src RV.out h⟩) ?c3 (flatX_one _) ?_)
  case h2 => rfl
  case h4 => rfl
  case h5 => rfl
  case c1 => rw [flatX_length, HM.out, show Nat.min m (i + m + (n - j) - i) = m from Nat.min_eq_left (by omega)]
  case c3 => rw [HS1L.out, flatX_length, HM.out]; omega
  intro w2 hB2 hc2
  have RL := Lib.hid ((HX1.out.chg hc2.out (by omega)).row j n (by have := HN.out; omega))
  have hdr : (L.take n).drop j = L.drop j := by rw [List.take_of_length_le (by rw [HN.out]; exact Nat.le_refl _)]
  rw [hdr] at RL
  clear hdr
  go_wp2_with fail
  go_region_law (refine step_copy_at rfl (.tmp 78) (.tmp 81) 125 125 (by rfl) 128 2 Try.underlying125 size_ext (some ⟨w.heap.size, (i + m) * 2, none⟩) (some ⟨g, j * 2, none⟩) (n - j) (C - (i + m)) (n - j) (cap - j) (by simp [Act.eval, Act.put]) (by simp [Act.eval, Act.put]) w.heap.size ((i + m) * 2) (splice S1 (i * 2) (flatX V)) 128 hB2.out (flatX (L.drop j)) (by rw [flatX_length, List.length_drop, HN.out, show Nat.min (n - j) (n - j) = n - j from Nat.min_self _]) (fun h => ⟨rfl, row_src RL.out h⟩) (by rw [length_splice _ _ _ (by rw [HS1L.out, flatX_length, HM.out]; omega), HS1L.out, flatX_length, List.length_drop, HN.out]; omega) (flatX_one _) ?_; intro w3 hB3 hc3)
  obtain ⟨r, hr⟩ := HS1.out
  have hX3 : XBlk w3 w.heap.size C (L.take i ++ (V ++ L.drop j)) (r.drop ((flatX V).length + (flatX (L.drop j)).length)) := by
    have h := hB3.out
    have hSL := HS1L.out
    rw [hr, List.length_append, flatX_length, List.length_take, HN.out] at hSL
    rw [hr, splice_two (by rw [flatX_length, List.length_take, HN.out]; omega) (by rw [flatX_length, HM.out]; omega), ← List.append_assoc (flatX V), ← List.append_assoc (flatX (List.take i L)), ← flatX_append, ← flatX_append] at h
    refine ⟨h, ?_, hC.out.2⟩
    rw [List.length_append, List.length_append, List.length_take, List.length_drop, HN.out, HM.out, List.length_drop, flatX_length, flatX_length, HM.out, List.length_drop, HN.out]
    omega
  have HX3 := Lib.hid hX3
  clear hX3 hr
  go_wp2_with fail
  go_ret
  refine RowTold.mk' HX3.out hb (by rw [List.length_append, List.length_append, List.length_take, List.length_drop, HN.out, HM.out, Nat.min_eq_left (by omega)]; omega) (.inr (Nat.le_refl _)) ?_
  exact (((Chg.of_below' hb1.out).trans hc2.out (fun k hk e => by omega)).drew.trans hc3.out (fun k hk e => by omega))

/-- Replace, of whatever lies between two places, by none, one or two. -/
theorem replace_any (L V : List Ext) (i j n c base m vc : Nat) (a va : Option Addr) (w : World) (hown : w.ownsRow base 128 2 (.slice a n c) n (flatX L)) (hb : base ≤ w.heap.size) (hV : Row w va (flatX V)) (hm : V.length = m)
    (hva : ∀ x, va = some x → some x.block ≠ (Value.slice a n c).ownBlock) (hvb : 0 < m → ∃ vb c1, va = some ⟨vb, 0, none⟩ ∧ Blk w vb 128 c1) (hij : i < j) (hj : j ≤ L.length) (hL : L.length ≤ 1000000) (hm2 : m ≤ 2) :
    Calls Try.prog 64 #[.slice a n c, .int .i64 (i : Int), .int .i64 (j : Int), .slice va m vc] w (RowTold w base (Value.slice a n c).ownBlock (L.take i ++ (V ++ L.drop j))) := by
  obtain ⟨hn, hv⟩ := XBlk.of_own hown
  rcases hv with ⟨hv, hL0⟩ | ⟨g, cap, rest, hv, hbg, _, hX⟩
  · subst hL0
    simp at hj
    omega
  · injection hv with h1 h2 h3
    subst h1
    subst h3
    have hvag : ∀ x, va = some x → x.block ≠ g := fun x hx e => hva x hx (by rw [e]; rfl)
    have hcl : L.length ≤ c := by have := hX.len; omega
    subst hn
    by_cases hjn : j = L.length
    · subst hjn
      rw [List.drop_eq_nil_of_le (Nat.le_refl _), List.append_nil]
      by_cases hr : i + m ≤ c
      · exact replace_end L V i g c base m vc va rest w hX hV hm hij hL hm2 hr hcl hbg
      · exact replace_end_grow L V i g c base m vc va rest w hX hV hm hij hL hm2 hr hcl hbg hb
    · by_cases hfew : i + m ≤ j
      · exact replace_fewer L V i j g c base m vc va rest w hX hV hm hvag hij (by omega) hL hfew hcl hbg
      · by_cases hr : i + m + (L.length - j) ≤ c
        · obtain ⟨vb, c1, hvb1, hvb2⟩ := hvb (by omega)
          subst hvb1
          have hc1 : c1.size ≠ 0 := by
            obtain ⟨b, off, e, hc, _⟩ := hV.at_ (i := 0) (by rw [flatX_length]; omega)
            injection e with e
            injection e with e1 e2
            subst e1
            subst e2
            rw [hvb2.cell] at hc
            intro h0
            rw [Array.getElem?_eq_none (by omega)] at hc
            cases hc
          exact replace_more L V i j g c base m vc vb c1 rest w hX hV hvb2 hc1 hm (fun e => hvag _ rfl e.symm) hij (by omega) hL (by omega) (by omega) hr hbg
        · exact replace_grow L V i j g c base m vc va rest w hX hV hm hij (by omega) hL (by omega) (by omega) hr hcl hb

end Go.Proofs.Ytmmkncocgjgapaa.Sp

/- The walks of a space's small functions: end, behind, inside. -/
namespace Go.Proofs.Ytmmkncocgjgapaa.Sp
open Go.RowKit

set_option maxRecDepth 100000 in
theorem end_any (F B : Int) (w : World) (hF : -4000000000 ≤ F ∧ F ≤ 4000000000) (hB : -4000000000 ≤ B ∧ B ≤ 4000000000) :
    Calls Try.prog 63 #[.agg #[.int .i64 F, .int .i64 B]] w fun e w' => e = .returned (.int .i64 (F + B)) ∧ Below w.heap.size w w' := by
  have h1 := (Below.refl w.heap.size w).alloc (Nat.le_refl _) (.cells #[.int .i64 F, .int .i64 B] 128)
  have H1 := Lib.hid h1
  clear h1
  go_enter Try.func63, Try.ntmps63
  go_wp2_with fail
  go_ret
  exact ⟨rfl, H1.out⟩

/-- A space: its block, its free extents, whose row has a block of its own. -/
structure SpAt (w : World) (s : Nat) (F B : Nat) (v : Value) (L : List Ext) (base : Nat) : Prop where
  blk : Blk w s 130 #[.int .i64 (F : Int), .int .i64 (B : Int), v]
  own : w.ownsRow base 128 2 v L.length (flatX L)
  F_le : F ≤ 1000000
  B_le : B ≤ 1000000
  L_le : L.length ≤ 1000000
  in_ : ∀ e ∈ L, e.1 + e.2 ≤ 4000000
theorem SpAt.below {w w' : World} {s F B : Nat} {v : Value} {L : List Ext} {base : Nat} (h : SpAt w s F B v L base) (hb : Below w.heap.size w w') : SpAt w' s F B v L base :=
  ⟨h.blk.below hb h.blk.lt, own_chg h.own (Chg.of_below' (S := fun _ => False) hb) (fun _ _ h => h), h.F_le, h.B_le, h.L_le, h.in_⟩
theorem SpAt.slice {w : World} {s F B : Nat} {v : Value} {L : List Ext} {base : Nat} (h : SpAt w s F B v L base) : ∃ a c, v = .slice a L.length c ∧ L.length ≤ c ∧ c ≤ 9223372036854775807 := by
  obtain ⟨_, hv⟩ := XBlk.of_own h.own
  rcases hv with ⟨rfl, h0⟩ | ⟨g, cap, rest, rfl, _, _, hX⟩
  · subst h0; exact ⟨none, 0, rfl, Nat.le_refl _, by omega⟩
  · have h1 := hX.len
    have h2 := hX.cap
    unfold maxLen at h2
    exact ⟨_, cap, rfl, by omega, by omega⟩
theorem SpAt.elem {w : World} {s F B : Nat} {a : Option Addr} {n c : Nat} {L : List Ext} {base : Nat} (h : SpAt w s F B (.slice a n c) L base) {k : Nat} (hk : k < L.length) :
    ∃ g, a = some ⟨g, 0, none⟩ ∧ w.cell? ⟨g, k * 2, none⟩ = some (.int .i64 (L[k].1 : Int)) ∧ w.cell? ⟨g, k * 2 + 1, none⟩ = some (.int .i64 (L[k].2 : Int)) ∧ L[k].1 ≤ 4000000 ∧ L[k].2 ≤ 4000000 := by
  obtain ⟨_, hv⟩ := XBlk.of_own h.own
  rcases hv with ⟨_, h0⟩ | ⟨g, cap, rest, hv, _, _, hX⟩
  · subst h0; simp at hk
  · injection hv with h1 h2 h3
    obtain ⟨e1, e2⟩ := flatX_get L k hk
    have hl : k * 2 + 1 < (flatX L).length := by rw [flatX_length]; omega
    have hi := h.in_ _ (List.getElem_mem hk)
    refine ⟨g, h1, ?_, ?_, by omega, by omega⟩
    · rw [hX.blk.cell, List.getElem?_toArray, List.getElem?_append_left (by omega), e1]
    · rw [hX.blk.cell, List.getElem?_toArray, List.getElem?_append_left (by omega), e2]

/-- Does the extent k end behind the block? -/
def endsB (L : List Ext) (b : Int) (k : Nat) : Bool := decide (b < ((L.getD k (0, 0)).1 : Int) + ((L.getD k (0, 0)).2 : Int))

set_option maxRecDepth 100000 in
set_option maxHeartbeats 1000000 in
theorem behind1_any (s F B : Nat) (v : Value) (L : List Ext) (base : Nat) (b : Int) (b1 b2 k : Nat) (w : World) (h : SpAt w s F B v L base) (h1 : w.cell? ⟨b1, 0, none⟩ = some (.pointer (some ⟨s, 0, none⟩))) (h2 : w.cell? ⟨b2, 0, none⟩ = some (.int .i64 b)) (hk : k < L.length) :
    Calls Try.prog 71 #[.int .i64 (k : Int), .pointer (some ⟨b1, 0, none⟩), .pointer (some ⟨b2, 0, none⟩)] w fun e w' => e = .returned (.bool (endsB L b k)) ∧ Below w.heap.size w w' := by
  obtain ⟨a, c, rfl, hc1, hc2⟩ := h.slice
  obtain ⟨g, rfl, e1, e2, e3, e4⟩ := h.elem hk
  have hs : w.cell? ⟨s, 2, none⟩ = some (.slice (some ⟨g, 0, none⟩) L.length c) := h.blk.cell 2
  have hp : endsB L b k = decide (b < (L[k].1 : Int) + (L[k].2 : Int)) := by
    unfold endsB
    rw [List.getD_eq_getElem?_getD, List.getElem?_eq_getElem hk]
    rfl
  rw [hp]
  clear hp
  have lt1 := (cell_lt h1).1
  have lt2 := (cell_lt h2).1
  have lt3 := (cell_lt hs).1
  have lt4 := (cell_lt e1).1
  simp only at lt1 lt2 lt3 lt4
  generalize L[k].1 = x at *
  generalize L[k].2 = y at *
  have s1 : (0 : Int) ≤ (k : Int) := by omega
  have s2 : (k : Int) < (L.length : Int) := by omega
  have HC := Lib.hid (fun W (hb : Below w.heap.size w W) => (⟨by rw [hb.cell lt1, h1], by rw [hb.cell lt2, h2], by rw [hb.cell lt3, hs], by rw [hb.cell lt4, e1], by rw [hb.cell (show (⟨g, k * 2 + 1, none⟩ : Addr).block < w.heap.size from lt4), e2]⟩ :
    W.cell? ⟨b1, 0, none⟩ = some (.pointer (some ⟨s, 0, none⟩)) ∧ W.cell? ⟨b2, 0, none⟩ = some (.int .i64 b) ∧ W.cell? ⟨s, 2, none⟩ = some (.slice (some ⟨g, 0, none⟩) L.length c) ∧ W.cell? ⟨g, k * 2, none⟩ = some (.int .i64 (x : Int)) ∧ W.cell? ⟨g, k * 2 + 1, none⟩ = some (.int .i64 (y : Int))))
  have HE := Lib.hid (fun W (hb : Below w.heap.size w W) => (end_any (x : Int) (y : Int) W ⟨by omega, by omega⟩ ⟨by omega, by omega⟩).mono (fun e w2 (he : e = .returned (.int .i64 ((x : Int) + y)) ∧ Below W.heap.size W w2) => (⟨he.1, hb.trans (he.2.mono hb.size)⟩ : e = .returned (.int .i64 ((x : Int) + y)) ∧ Below w.heap.size w w2)))
  clear h
  go_enter Try.func71, Try.ntmps71
  go_wp2_with fail
  have hd0 : Below w.heap.size w w.drew := (Below.refl _ _).drew
  go_region_held3 (fun w' => Below w.heap.size w w' ∧ w'.cell? ⟨b1, 0, none⟩ = some (.pointer (some ⟨s, 0, none⟩)) ∧ w'.cell? ⟨b2, 0, none⟩ = some (.int .i64 b) ∧ w'.cell? ⟨s, 2, none⟩ = some (.slice (some ⟨g, 0, none⟩) L.length c) ∧ w'.cell? ⟨g, k * 2, none⟩ = some (.int .i64 (x : Int)) ∧ w'.cell? ⟨g, k * 2 + 1, none⟩ = some (.int .i64 (y : Int)))
    (exact ⟨by assumption, (HC.out _ (by assumption)).1, (HC.out _ (by assumption)).2.1, (HC.out _ (by assumption)).2.2.1, (HC.out _ (by assumption)).2.2.2.1, (HC.out _ (by assumption)).2.2.2.2⟩)
    ((go_at_call 63; refine (HE.out _ (by assumption)).mono ?_; rintro e w10 ⟨rfl, hb10⟩))
  all_goals
    go_wp2_with fail
    go_ret
    exact ⟨rfl, hb10⟩

end Go.Proofs.Ytmmkncocgjgapaa.Sp

/- The walk of sort.Search over a space's extents, and of behind. -/
namespace Go.Proofs.Ytmmkncocgjgapaa.Sp
open Go.RowKit

def FirstTrue (p : Nat → Bool) (n r : Nat) : Prop := r ≤ n ∧ (∀ k, k < r → p k = false) ∧ (∀ k, r ≤ k → k < n → p k = true)
def SearchLoop (p : Nat → Bool) (n : Nat) (w : World) (iv jv : Value) (wr : World) : Prop :=
  ∃ i j : Nat, iv = .int .i64 (i : Int) ∧ jv = .int .i64 (j : Int) ∧ i ≤ j ∧ j ≤ n ∧ (∀ k, k < i → p k = false) ∧ (∀ k, j ≤ k → k < n → p k = true) ∧ Below w.heap.size w wr
def SearchTold (p : Nat → Bool) (n : Nat) (w : World) (e : Ending) (w' : World) : Prop := ∃ r : Nat, e = .returned (.int .i64 (r : Int)) ∧ FirstTrue p n r ∧ Below w.heap.size w w'

set_option maxRecDepth 100000 in
set_option maxHeartbeats 1000000 in
theorem search_any (p : Nat → Bool) (n : Nat) (b1 b2 : Nat) (w : World) (hn : n ≤ 1000000) (hmono : ∀ a b, a ≤ b → b < n → p a = true → p b = true)
    (C : ∀ k, k < n → ∀ W, Below w.heap.size w W → Calls Try.prog 71 #[.int .i64 (k : Int), .pointer (some ⟨b1, 0, none⟩), .pointer (some ⟨b2, 0, none⟩)] W fun e w' => e = .returned (.bool (p k)) ∧ Below W.heap.size W w') :
    Calls Try.prog 70 #[.int .i64 (n : Int), .func (.func 71) #[] #[.pointer (some ⟨b1, 0, none⟩), .pointer (some ⟨b2, 0, none⟩)]] w (SearchTold p n w) := by
  have HC := Lib.hid C
  have HM := Lib.hid hmono
  clear C hmono
  go_enter Try.func70, Try.ntmps70
  go_wp2_with fail
  go_loopw [5, 6] (fun iv jv wr => SearchLoop p n w iv jv wr) (fun iv jv _ => (intOf jv).toNat - (intOf iv).toNat)
  case atStart => exact ⟨0, n, rfl, rfl, by omega, by omega, fun k h => by omega, fun k h1 h2 => by omega, Below.refl _ _⟩
  case round =>
    obtain ⟨i, j, rfl, rfl, hij, hjn, h1, h2, hb⟩ := hrel
    have H1 := Lib.hid h1
    have H2 := Lib.hid h2
    have HB := Lib.hid hb
    clear h1 h2 hb
    by_cases hlt : (i : Int) < j
    · have t1 : IntKind.u64.wrap ((i : Int) + j) = (i : Int) + j := by simp [IntKind.wrap, IntKind.bits, IntKind.signed]; omega
      have e : (((i + j) / 2 : Nat) : Int) = ((i : Int) + j) / 2 := by omega
      have hC := HC.out ((i + j) / 2) (by omega) wr HB.out
      rw [e] at hC
      have hCC := Lib.hid hC
      have t2 : IntKind.i64.wrap (((i : Int) + j) / 2 + 1) = ((i : Int) + j) / 2 + 1 := by rw [IntKind.wrap_i64]; omega
      clear hC e
      cases hp : p ((i + j) / 2)
      · have HP := Lib.hid hp
        clear hp
        go_wp2_with fail
        refine hCC.out.mono ?_
        rw [HP.out]
        rintro e w1 ⟨rfl, hb1⟩
        have HB1 := Lib.hid (HB.out.trans (hb1.mono HB.out.size))
        clear hb1
        go_wp2_with fail
        go_roundw
        case rel => exact ⟨(i + j) / 2 + 1, j, by congr 1, rfl, by omega, hjn, fun k hk => (by
            by_cases h : p k = true
            · have := HM.out k ((i + j) / 2) (by omega) (by omega) h
              rw [HP.out] at this
              cases this
            · simpa using h), H2.out, HB1.out⟩
        case measure => simp [intOf]; omega
      · have HP := Lib.hid hp
        clear hp
        go_wp2_with fail
        refine hCC.out.mono ?_
        rw [HP.out]
        rintro e w1 ⟨rfl, hb1⟩
        have HB1 := Lib.hid (HB.out.trans (hb1.mono HB.out.size))
        clear hb1
        go_wp2_with fail
        go_roundw
        case rel => exact ⟨i, (i + j) / 2, rfl, by congr 1, by omega, by omega, H1.out, fun k hk hkn => HM.out _ _ hk hkn HP.out, HB1.out⟩
        case measure => simp [intOf]; omega
    · obtain rfl : i = j := by omega
      go_wp2_with fail
      go_ret
      exact ⟨i, rfl, ⟨hjn, H1.out, H2.out⟩, HB.out⟩

/-- The extents lie one behind the other. -/
def Asc (L : List Ext) : Prop := L.Pairwise fun x y => x.1 + x.2 ≤ y.1
theorem endsB_mono {L : List Ext} (h : Asc L) (b : Int) : ∀ x y, x ≤ y → y < L.length → endsB L b x = true → endsB L b y = true := by
  intro x y hxy hy hx
  rcases Nat.eq_or_lt_of_le hxy with rfl | hlt
  · exact hx
  · have := (List.pairwise_iff_getElem.1 h) x y (by omega) hy hlt
    unfold endsB at hx ⊢
    rw [List.getD_eq_getElem?_getD, List.getElem?_eq_getElem (by omega)] at hx
    rw [List.getD_eq_getElem?_getD, List.getElem?_eq_getElem hy]
    simp only [Option.getD_some, decide_eq_true_eq] at hx ⊢
    omega

set_option maxRecDepth 100000 in
set_option maxHeartbeats 1000000 in
theorem behind_any (s F B : Nat) (v : Value) (L : List Ext) (base : Nat) (b : Int) (w : World) (h : SpAt w s F B v L base) (hA : Asc L) :
    Calls Try.prog 62 #[.pointer (some ⟨s, 0, none⟩), .int .i64 b] w (SearchTold (endsB L b) L.length w) := by
  obtain ⟨a, c, rfl, hc1, hc2⟩ := h.slice
  have hs : w.cell? ⟨s, 2, none⟩ = some (.slice a L.length c) := h.blk.cell 2
  have hsl := h.blk.lt
  have hL := h.L_le
  have b1 := (Below.refl w.heap.size w).alloc (Nat.le_refl _) (.cells #[.pointer (some ⟨s, 0, none⟩)] 81)
  have b2 := b1.trans (((Below.refl _ _).alloc (Nat.le_refl _) (.cells #[.int .i64 b] 3)).mono b1.size : Below w.heap.size (w.alloc (.cells #[.pointer (some ⟨s, 0, none⟩)] 81)) _)
  have B2 := Lib.hid b2
  have N1 := Lib.hid ((Blk.new w 81 #[.pointer (some ⟨s, 0, none⟩)]).alloc (.cells #[.int .i64 b] 3))
  have N2 := Blk.new (w.alloc (.cells #[.pointer (some ⟨s, 0, none⟩)] 81)) 3 #[.int .i64 b]
  rw [show (w.alloc (.cells #[.pointer (some ⟨s, 0, none⟩)] 81)).heap.size = w.heap.size + 1 by simp] at N2
  have NN2 := Lib.hid N2
  have HS := Lib.hid h
  have HA := Lib.hid hA
  clear b1 b2 N2 h hA
  go_enter Try.func62, Try.ntmps62
  go_wp2_with fail
  generalize (w.alloc (.cells #[.pointer (some ⟨s, 0, none⟩)] 81)).alloc (.cells #[.int .i64 b] 3) = W at *
  refine (search_any (endsB L b) L.length w.heap.size (w.heap.size + 1) W hL (endsB_mono HA.out b) (fun k hk W' hW' => behind1_any s F B (.slice a L.length c) L base b w.heap.size (w.heap.size + 1) k W' ((HS.out.below B2.out).below hW') (by rw [hW'.cell N1.out.lt, N1.out.cell]; rfl) (by rw [hW'.cell NN2.out.lt, NN2.out.cell]; rfl) hk)).mono ?_
  rintro e w1 ⟨r, rfl, hr, hb⟩
  have HR := Lib.hid hr
  have HB := Lib.hid (B2.out.trans (hb.mono B2.out.size))
  clear hr hb
  go_wp2_with fail
  go_ret
  exact ⟨r, rfl, HR.out, HB.out⟩

end Go.Proofs.Ytmmkncocgjgapaa.Sp

/- The walk of inside. -/
namespace Go.Proofs.Ytmmkncocgjgapaa.Sp
open Go.RowKit

def insideB (F B : Nat) (first n : Int) : Bool := decide (1 ≤ n ∧ (F : Int) ≤ first ∧ first ≤ F + B ∧ n ≤ F + B - first)
def Told (w : World) (b : Bool) (e : Ending) (w' : World) : Prop := e = .returned (.bool b) ∧ Below w.heap.size w w'

set_option maxRecDepth 100000 in
set_option maxHeartbeats 1000000 in
theorem inside_any (s F B : Nat) (v : Value) (L : List Ext) (base : Nat) (first n : Int) (w : World) (h : SpAt w s F B v L base) :
    Calls Try.prog 61 #[.pointer (some ⟨s, 0, none⟩), .int .i64 first, .int .i64 n] w (Told w (insideB F B first n)) := by
  have c0 : w.cell? ⟨s, 0, none⟩ = some (.int .i64 (F : Int)) := h.blk.cell 0
  have c1 : w.cell? ⟨s, 1, none⟩ = some (.int .i64 (B : Int)) := h.blk.cell 1
  have hF := h.F_le
  have hB := h.B_le
  have HS := Lib.hid h
  have HC := Lib.hid (fun W (hb : Below w.heap.size w W) => (⟨(h.below hb).blk.cell 0, (h.below hb).blk.cell 1⟩ : W.cell? ⟨s, 0, none⟩ = some (.int .i64 (F : Int)) ∧ W.cell? ⟨s, 1, none⟩ = some (.int .i64 (B : Int))))
  clear h
  have key : ∀ b, insideB F B first n = b → ∀ e w', e = .returned (.bool b) ∧ Below w.heap.size w w' → Told w (insideB F B first n) e w' := fun b hb e w' h => by rw [hb]; exact h
  have KEY := Lib.hid key
  clear key
  by_cases h1 : 1 ≤ n
  · by_cases h2 : (F : Int) ≤ first
    · by_cases h3 : first ≤ (F : Int) + B
      · have t1 : IntKind.i64.wrap ((F : Int) + B - first) = (F : Int) + B - first := by rw [IntKind.wrap_i64]; omega
        go_enter Try.func61, Try.ntmps61
        go_wp2_with fail
        refine (end_any (F : Int) (B : Int) w ⟨by omega, by omega⟩ ⟨by omega, by omega⟩).mono ?_
        rintro e w1 ⟨rfl, hb1⟩
        obtain ⟨d0, d1⟩ := HC.out _ hb1
        have HB1 := Lib.hid hb1
        clear hb1
        go_wp2_with fail
        refine (end_any (F : Int) (B : Int) w1 ⟨by omega, by omega⟩ ⟨by omega, by omega⟩).mono ?_
        rintro e w2 ⟨rfl, hb2⟩
        have HB2 := Lib.hid (HB1.out.trans (hb2.mono HB1.out.size))
        clear hb2
        go_wp2_with fail
        go_ret
        exact KEY.out (decide (n ≤ (F : Int) + B - first)) (by unfold insideB; exact decide_eq_decide.2 ⟨fun h => h.2.2.2, fun h => ⟨h1, h2, h3, h⟩⟩) _ _ ⟨rfl, HB2.out⟩
      · go_enter Try.func61, Try.ntmps61
        go_wp2_with fail
        refine (end_any (F : Int) (B : Int) w ⟨by omega, by omega⟩ ⟨by omega, by omega⟩).mono ?_
        rintro e w1 ⟨rfl, hb1⟩
        have HB1 := Lib.hid hb1
        clear hb1
        go_wp2_with fail
        go_ret
        exact KEY.out false (by unfold insideB; rw [decide_eq_false_iff_not]; exact by omega) _ _ ⟨rfl, HB1.out⟩
    · go_enter Try.func61, Try.ntmps61
      go_wp2_with fail
      go_ret
      exact KEY.out false (by unfold insideB; rw [decide_eq_false_iff_not]; exact by omega) _ _ ⟨rfl, Below.refl _ _⟩
  · go_enter Try.func61, Try.ntmps61
    go_wp2_with fail
    go_ret
    exact KEY.out false (by unfold insideB; rw [decide_eq_false_iff_not]; exact by omega) _ _ ⟨rfl, Below.refl _ _⟩

end Go.Proofs.Ytmmkncocgjgapaa.Sp

/- The walk of Hold. -/
namespace Go.Proofs.Ytmmkncocgjgapaa.Sp
open Go.RowKit

def pieces (e : Ext) (first n : Nat) : List Ext := (if e.1 < first then [(e.1, first - e.1)] else []) ++ (if first + n < e.1 + e.2 then [(first + n, e.1 + e.2 - first - n)] else [])
def holdAt (L : List Ext) (k first n : Nat) : List Ext := L.take k ++ (pieces (L.getD k (0, 0)) first n ++ L.drop (k + 1))
def HoldYes (L : List Ext) (F B : Nat) (first n : Int) (k : Nat) : Prop :=
  insideB F B first n = true ∧ k < L.length ∧ ((L.getD k (0, 0)).1 : Int) ≤ first ∧ first + n ≤ ((L.getD k (0, 0)).1 : Int) + ((L.getD k (0, 0)).2 : Int)
/-- Behind an act on a space: what it answers, and what is free now. -/
def ActTold (w : World) (s F B : Nat) (v : Value) (base : Nat) (R : Int → List Ext → Prop) (e : Ending) (w' : World) : Prop :=
  ∃ er v' L', e = .returned (.int .i64 er) ∧ R er L' ∧ SpAt w' s F B v' L' base ∧ Chg (fun k => k = s ∨ some k = v.ownBlock) w w' ∧ (v'.ownBlock = v.ownBlock ∨ ∃ q, v'.ownBlock = some q ∧ w.heap.size ≤ q)
def HoldRel (L : List Ext) (F B : Nat) (first n : Int) (er : Int) (L' : List Ext) : Prop :=
  (er = 1 ∧ L' = L ∧ ∀ k, FirstTrue (endsB L first) L.length k → ¬ HoldYes L F B first n k) ∨ (er = 0 ∧ ∃ k, FirstTrue (endsB L first) L.length k ∧ HoldYes L F B first n k ∧ L' = holdAt L k first.toNat n.toNat)

theorem FirstTrue.unique {p : Nat → Bool} {n a b : Nat} (h1 : FirstTrue p n a) (h2 : FirstTrue p n b) : a = b := by
  rcases Nat.lt_trichotomy a b with h | h | h
  · have := h2.2.1 a h
    rw [h1.2.2 a (Nat.le_refl _) (by have := h2.1; omega)] at this
    cases this
  · exact h
  · have := h1.2.1 b h
    rw [h2.2.2 b (Nat.le_refl _) (by have := h1.1; omega)] at this
    cases this

theorem act_same {w w' : World} {s F B : Nat} {v : Value} {L : List Ext} {base : Nat} {R : Int → List Ext → Prop} (h : SpAt w s F B v L base) (hb : Below w.heap.size w w') (hR : R 1 L) : ActTold w s F B v base R (.returned (.int .i64 1)) w' :=
  ⟨1, v, L, rfl, hR, h.below hb, Chg.of_below' hb, .inl rfl⟩

theorem _root_.Go.RowKit.Below.size' {B : Nat} {w w' : World} (h : Below B w w') (hB : B ≤ w.heap.size) : B ≤ w'.heap.size := Nat.le_trans hB h.size
theorem _root_.Go.RowKit.Below.mono' {B : Nat} {w w' : World} (h : Below B w w') (hB : w.heap.size ≤ B) : Below w.heap.size w w' := h.mono hB
/-- A space stays where only blocks from a place on turn, its own lying ahead. -/
theorem SpAt.below3 {w w' : World} {s F B g n c : Nat} {L : List Ext} {base lo : Nat} (h : SpAt w s F B (.slice (some ⟨g, 0, none⟩) n c) L base) (hb : Below lo w w') (hs : s < lo) (hg : g < lo) : SpAt w' s F B (.slice (some ⟨g, 0, none⟩) n c) L base := by
  have key : ∀ q, (Value.slice (some ⟨g, 0, none⟩) n c).ownBlock = some q → ¬ lo ≤ q := fun q hq => by
    have : g = q := by simpa [Value.ownBlock] using hq
    omega
  exact ⟨h.blk.below hb hs, own_chg h.own (S := fun k => lo ≤ k) (Chg.of_below hb) key, h.F_le, h.B_le, h.L_le, h.in_⟩

theorem pieces_le {e : Ext} {fn m : Nat} (h : e.1 + e.2 ≤ 4000000) (h2 : fn ≤ e.1 + e.2) : (pieces e fn m).length ≤ 2 ∧ ∀ q ∈ pieces e fn m, q.1 + q.2 ≤ 4000000 := by
  unfold pieces
  split <;> split <;> refine ⟨by simp, fun q hq => ?_⟩ <;> simp at hq
  · rcases hq with rfl | rfl <;> simp only <;> omega
  · subst hq; simp only; omega
  · subst hq; simp only; omega

theorem hold_fin {w w11 ws : World} {s F B g c base k fn m : Nat} {x y : Nat} {L V : List Ext} {a10 : Option Addr} {k10 c10 : Nat}
    (hown : w11.ownsRow base 128 2 (.slice a10 k10 c10) k10 (flatX (L.take k ++ (V ++ L.drop (k + 1))))) (hc : Chg (fun q => q = s ∨ some q = (Value.slice (some ⟨g, 0, none⟩) L.length c).ownBlock) w w11)
    (hB : Blk w11 s 130 #[.int .i64 (F : Int), .int .i64 (B : Int), .slice a10 k10 c10]) (hf : (Value.slice a10 k10 c10).ownBlock = (Value.slice (some ⟨g, 0, none⟩) L.length c).ownBlock ∨ ∃ q, (Value.slice a10 k10 c10).ownBlock = some q ∧ ws.heap.size ≤ q)
    (hl : (L.take k ++ (V ++ L.drop (k + 1))).length = k10) (hws : w.heap.size ≤ ws.heap.size) (hy : HoldYes L F B fn m k) (hk : FirstTrue (endsB L fn) L.length k) (hgd : L.getD k (0, 0) = (x, y)) (hV : pieces (x, y) fn m = V) (hL : L.length + 1 ≤ 1000000)
    (hin : 1 ≤ (m : Int) ∧ (F : Int) ≤ fn ∧ (fn : Int) ≤ F + B ∧ (m : Int) ≤ F + B - fn) (h : SpAt ws s F B (.slice (some ⟨g, 0, none⟩) L.length c) L base) :
    ActTold w s F B (.slice (some ⟨g, 0, none⟩) L.length c) base (HoldRel L F B fn m) (.returned (.int .i64 0)) w11 := by
  have hxy : (x, y) ∈ L := by
    have h1 := hy.2.1
    rw [List.getD_eq_getElem?_getD, List.getElem?_eq_getElem h1] at hgd
    simp only [Option.getD_some] at hgd
    rw [← hgd]
    exact List.getElem_mem h1
  have hle := h.in_ _ hxy
  have h4 := hy.2.2.2
  rw [hgd] at h4
  simp only at h4 hle
  obtain ⟨p1, p2⟩ := pieces_le (e := (x, y)) (fn := fn) (m := m) hle (by simp only; omega)
  rw [hV] at p1 p2
  subst hl
  refine ⟨0, _, L.take k ++ (V ++ L.drop (k + 1)), rfl, .inr ⟨rfl, k, hk, hy, ?_⟩, ⟨hB, hown, h.F_le, h.B_le, ?_, ?_⟩, hc, hf.elim .inl (fun ⟨q, h1, h2⟩ => .inr ⟨q, h1, by omega⟩)⟩
  · unfold holdAt
    rw [hgd, Int.toNat_natCast, Int.toNat_natCast, hV]
  · have := hy.2.1
    simp only [List.length_append, List.length_take, List.length_drop]
    omega
  · intro e he
    rcases List.mem_append.1 he with he | he
    · exact h.in_ e (List.mem_of_mem_take he)
    · rcases List.mem_append.1 he with he | he
      · exact p2 e he
      · exact h.in_ e (List.mem_of_mem_drop he)

set_option maxRecDepth 100000 in
set_option maxHeartbeats 4000000 in
theorem hold_any (s F B : Nat) (v : Value) (L : List Ext) (base : Nat) (first n : Int) (w : World) (h : SpAt w s F B v L base) (hA : Asc L) (hL : L.length + 1 ≤ 1000000) (hbw : base ≤ w.heap.size) :
    Calls Try.prog 58 #[.pointer (some ⟨s, 0, none⟩), .int .i64 first, .int .i64 n] w (ActTold w s F B v base (HoldRel L F B first n)) := by
  obtain ⟨a, c, rfl, hc1, hc2⟩ := h.slice
  have HS := Lib.hid h
  have HA := Lib.hid hA
  have hF := h.F_le
  have hB := h.B_le
  have hsl := h.blk.lt
  have HI := Lib.hid (inside_any s F B (.slice a L.length c) L base first n w h)
  have HBE := Lib.hid (fun W (hb : Below w.heap.size w W) => behind_any s F B (.slice a L.length c) L base first W (h.below hb) hA)
  clear h hA
  cases hin : insideB F B first n
  · have HIN := Lib.hid hin
    rw [hin] at HI
    clear hin
    go_enter Try.func58, Try.ntmps58
    go_wp2_with fail
    refine HI.out.mono ?_
    rintro e w1 ⟨rfl, hb1⟩
    have HB1 := Lib.hid hb1
    clear hb1
    go_wp2_with fail
    go_ret
    exact act_same HS.out HB1.out (.inl ⟨rfl, rfl, fun k _ hy => by have := hy.1; rw [HIN.out] at this; cases this⟩)
  · have HIN := Lib.hid hin
    have hin2 : 1 ≤ n ∧ (F : Int) ≤ first ∧ first ≤ F + B ∧ n ≤ F + B - first := by
      unfold insideB at hin
      exact of_decide_eq_true hin
    rw [hin] at HI
    clear hin
    have t1 : IntKind.i64.wrap (first + n) = first + n := by rw [IntKind.wrap_i64]; omega
    go_enter Try.func58, Try.ntmps58
    go_wp2_with fail
    refine HI.out.mono ?_
    rintro e w1 ⟨rfl, hb1⟩
    have HB1 := Lib.hid hb1
    clear hb1
    go_wp2_with fail
    refine (HBE.out _ HB1.out).mono ?_
    rintro e w2 ⟨k, rfl, hk, hb2⟩
    have HB2 := Lib.hid (HB1.out.trans (hb2.mono HB1.out.size))
    have HK := Lib.hid hk
    have hkl := hk.1
    have S2 := Lib.hid (HS.out.below HB2.out)
    clear hb2 hk HB1 HBE HI
    have c2 : w2.cell? ⟨s, 2, none⟩ = some (.slice a L.length c) := S2.out.blk.cell 2
    by_cases hkn : k = L.length
    · have e1 : ((k : Int) == (L.length : Int)) = true := by rw [hkn]; simp
      have HKN := Lib.hid hkn
      clear hkn
      go_wp2_with fail
      go_ret
      exact act_same HS.out HB2.out (.inl ⟨rfl, rfl, fun k' hk' hy => by have := hy.2.1; have := HK.out.unique hk'; have := HKN.out; omega⟩)
    · have hkl2 : k < L.length := by omega
      have e1 : ((k : Int) == (L.length : Int)) = false := by simp; omega
      obtain ⟨g, rfl, f1, f2, f3, f4⟩ := S2.out.elem hkl2
      have hgd : L.getD k (0, 0) = L[k] := by rw [List.getD_eq_getElem?_getD, List.getElem?_eq_getElem hkl2]; rfl
      have hks : (k : Int) < (L.length : Int) := by omega
      have hks0 : (0 : Int) ≤ (k : Int) := by omega
      obtain ⟨⟨x, y⟩, hxy⟩ : ∃ q : Ext, L[k] = q := ⟨_, rfl⟩
      rw [hxy] at hgd f1 f2 f3 f4
      simp only at f1 f2 f3 f4
      have HGD := Lib.hid hgd
      clear hkn hxy hgd
      by_cases h1 : first < (x : Int)
      · go_wp2_with fail
        go_ret
        exact act_same HS.out HB2.out (.inl ⟨rfl, rfl, fun k' hk' hy => by have h9 := hy.2.2.1; have := HK.out.unique hk'; subst this; rw [HGD.out] at h9; simp only at h9; omega⟩)
      · go_wp2_with fail
        refine (end_any (x : Int) (y : Int) w2 ⟨by omega, by omega⟩ ⟨by omega, by omega⟩).mono ?_
        rintro e w3 ⟨rfl, hb3⟩
        have HB3 := Lib.hid (HB2.out.trans (hb3.mono HB2.out.size))
        have S3 := Lib.hid (S2.out.below hb3)
        clear hb3 c2 f1 f2
        obtain ⟨g2, hg2, f1, f2, -, -⟩ := S3.out.elem hkl2
        injection hg2 with hg2
        injection hg2 with hg2
        subst hg2
        have c2 : w3.cell? ⟨s, 2, none⟩ = some (.slice (some ⟨g, 0, none⟩) L.length c) := S3.out.blk.cell 2
        have hxy : L[k] = (x, y) := by rw [← HGD.out, List.getD_eq_getElem?_getD, List.getElem?_eq_getElem hkl2]; rfl
        rw [hxy] at f1 f2
        simp only at f1 f2
        clear hxy
        by_cases h2 : (x : Int) + y < first + n
        · go_wp2_with fail
          go_ret
          exact act_same HS.out HB3.out (.inl ⟨rfl, rfl, fun k' hk' hy => by have h9 := hy.2.2.2; have := HK.out.unique hk'; subst this; rw [HGD.out] at h9; simp only at h9; omega⟩)
        · obtain ⟨fn, hfn⟩ : ∃ fn : Nat, first = (fn : Int) := ⟨first.toNat, by omega⟩
          obtain ⟨m, hm⟩ : ∃ m : Nat, n = (m : Int) := ⟨n.toNat, by omega⟩
          subst hfn
          subst hm
          have HYES : Hid (HoldYes L F B fn m k) := Lib.hid ⟨HIN.out, hkl2, by rw [HGD.out]; simp only; omega, by rw [HGD.out]; simp only; omega⟩
          have hlt3 := HB3.out.size
          have hsl3 : s < w3.heap.size := by omega
          have hgl3 : g < w3.heap.size := (cell_lt f1).1
          have bE := (Below.refl w3.heap.size w3).alloc (Nat.le_refl _) (.cells #[.int .i64 (x : Int), .int .i64 (y : Int)] 128)
          have E4 := Lib.hid (Blk.new w3 128 #[.int .i64 (x : Int), .int .i64 (y : Int)])
          have BE := Lib.hid bE
          have S4 := Lib.hid (S3.out.below bE)
          clear bE
          by_cases h3 : (x : Int) < (fn : Int)
          · have e9 : ((fn - x : Nat) : Int) = (fn : Int) - x := by omega
            have e8 := Row.new (w3.alloc (.cells #[.int .i64 (x : Int), .int .i64 (y : Int)] 128)) #[.int .i64 (x : Int), .int .i64 ((fn - x : Nat) : Int)] 128 (0, 0)
            rw [e9, show (w3.alloc (.cells #[.int .i64 (x : Int), .int .i64 (y : Int)] 128)).heap.size = w3.heap.size + 1 by simp] at e8
            have e7 : (#[Value.int .i64 (x : Int), .int .i64 ((fn : Int) - x)]).toList = flatX [(x, fn - x)] := by rw [← e9]; rfl
            rw [e7] at e8
            have HRW := Lib.hid e8
            have t6 : IntKind.i64.wrap ((fn : Int) - x) = (fn : Int) - x := by rw [IntKind.wrap_i64]; omega
            clear e7 e8 e9
            go_wp2_with (at_builtin; go_must (refine wpList_append rfl (.tmp 62) (.tmp 70) _ rfl el_ext w3.heap.size (.slice none 0 0) 0 [] rfl (World.ownsRow_nil _ _ _ _) _ 1 1 (flatX [(x, fn - x)]) rfl rfl HRW.out (flatX_one _) (by unfold maxLen; omega) (by omega) (by simp; omega) ?_))
            intro v5 w5 hown5 hg5 _ hb5
            obtain ⟨h5l, h5v⟩ := XBlk.of_own (l := [(x, fn - x)]) hown5
            obtain ⟨a5, c5, rfl⟩ : ∃ a5 c5, v5 = .slice a5 1 c5 := by
              rcases h5v with ⟨-, h⟩ | ⟨g', cap', rest', rfl, _⟩
              · cases h
              · exact ⟨_, _, rfl⟩
            have hc5 : Chg (fun _ => False) (w3.alloc (.cells #[.int .i64 (x : Int), .int .i64 (y : Int)] 128)) w5 := ((Chg.refl (fun _ => False) _).alloc _).trans (Chg.of_grown hg5) (fun k _ e => by simp [Value.ownBlock] at e)
            have hbb5 : Below (w3.heap.size + 1) (w3.alloc (.cells #[.int .i64 (x : Int), .int .i64 (y : Int)] 128)) w5 := hc5.below_of (by simp) (fun k hk e => e)
            have HV5 : Hid (w5.ownsRow w3.heap.size 128 2 (.slice a5 1 c5) 1 (flatX [(x, fn - x)])) := Lib.hid hown5
            have E5 := Lib.hid (E4.out.below hbb5 (by omega))
            have S5 := Lib.hid (S4.out.below (hbb5.mono' (by simp)))
            have HB5 := Lib.hid ((HB3.out.trans (BE.out.mono HB3.out.size)).trans (hbb5.mono (by omega)))
            clear hown5 hg5 hb5 h5l h5v hc5 hbb5 HRW E4 S4 c2 f1 f2
            have d0 : w5.cell? ⟨w3.heap.size, 0, none⟩ = some (.int .i64 (x : Int)) := E5.out.cell 0
            have d1 : w5.cell? ⟨w3.heap.size, 1, none⟩ = some (.int .i64 (y : Int)) := E5.out.cell 1
            go_wp2_with fail
            refine (end_any (x : Int) (y : Int) w5 ⟨by omega, by omega⟩ ⟨by omega, by omega⟩).mono ?_
            rintro e w6 ⟨rfl, hb6⟩
            have E6 := Lib.hid (E5.out.below hb6 E5.out.lt)
            have S6 := Lib.hid (S5.out.below hb6)
            have HV6 := Lib.hid (own_chg HV5.out (Chg.of_below' (S := fun _ => False) hb6) (fun _ _ h => h))
            have HB6 := Lib.hid (HB5.out.trans (hb6.mono HB5.out.size))
            have hz6 : w3.heap.size ≤ w6.heap.size := Nat.le_trans (Nat.le_of_lt E5.out.lt) hb6.size
            clear hb6 d0 d1 E5 S5 HV5 HB5
            by_cases h4 : (fn : Int) + m < (x : Int) + y
            · have d0 : w6.cell? ⟨w3.heap.size, 0, none⟩ = some (.int .i64 (x : Int)) := E6.out.cell 0
              have d1 : w6.cell? ⟨w3.heap.size, 1, none⟩ = some (.int .i64 (y : Int)) := E6.out.cell 1
              go_wp2_with fail
              refine (end_any (x : Int) (y : Int) w6 ⟨by omega, by omega⟩ ⟨by omega, by omega⟩).mono ?_
              rintro e w7 ⟨rfl, hb7⟩
              have S7 := Lib.hid (S6.out.below hb7)
              have HV7 := Lib.hid (own_chg HV6.out (Chg.of_below' (S := fun _ => False) hb7) (fun _ _ h => h))
              have HB7 := Lib.hid (HB6.out.trans (hb7.mono HB6.out.size))
              have hz7 : w3.heap.size ≤ w7.heap.size := Nat.le_trans hz6 hb7.size
              clear hb7 d0 d1 E6 S6 HV6 HB6
              have e9 : ((fn + m : Nat) : Int) = (fn : Int) + m := by omega
              have e8 : ((x + y - fn - m : Nat) : Int) = (x : Int) + y - fn - m := by omega
              have e7 := Row.new w7 #[.int .i64 ((fn + m : Nat) : Int), .int .i64 ((x + y - fn - m : Nat) : Int)] 128 (0, 0)
              have e6 : (#[Value.int .i64 ((fn + m : Nat) : Int), .int .i64 ((x + y - fn - m : Nat) : Int)]).toList = flatX [(fn + m, x + y - fn - m)] := rfl
              rw [e6, e9, e8] at e7
              have HRW := Lib.hid e7
              have t7 : IntKind.i64.wrap ((x : Int) + y - fn) = (x : Int) + y - fn := by rw [IntKind.wrap_i64]; omega
              have t8 : IntKind.i64.wrap ((x : Int) + y - fn - m) = (x : Int) + y - fn - m := by rw [IntKind.wrap_i64]; omega
              clear e6 e7 e8 e9
              go_wp2_with (at_builtin; go_must (refine wpList_append rfl (.tmp 78) (.tmp 89) _ rfl el_ext w3.heap.size _ _ _ rfl (HV7.out.alloc _) _ 1 1 (flatX [(fn + m, x + y - fn - m)]) rfl rfl HRW.out (flatX_one _) (by unfold maxLen; omega) (by omega) (by simp; omega) ?_))
              rw [← flatX_append]
              intro v8 w8 hown8 hg8 _ hb8
              obtain ⟨h8l, h8v⟩ := XBlk.of_own hown8
              obtain ⟨a8, c8, rfl⟩ : ∃ a8 c8, v8 = .slice a8 2 c8 := by
                rcases h8v with ⟨-, h⟩ | ⟨g', cap', rest', rfl, _⟩
                · simp at h
                · exact ⟨_, _, rfl⟩
              have hbb8 : Below w3.heap.size w7 w8 := ((Below.refl w3.heap.size w7).alloc hz7 _).trans hb8
              have HV8 : Hid (w8.ownsRow w3.heap.size 128 2 (.slice a8 2 c8) 2 (flatX ([(x, fn - x)] ++ [(fn + m, x + y - fn - m)]))) := Lib.hid hown8
              have S8 := Lib.hid (S7.out.below3 hbb8 hsl3 hgl3)
              have HB8 := Lib.hid (HB7.out.trans (hbb8.mono (by omega)))
              have hz8 : w3.heap.size ≤ w8.heap.size := hbb8.size' hz7
              clear hown8 hg8 hb8 h8l h8v hbb8 HRW S7 HV7 HB7
              obtain ⟨h9l, h9v⟩ := XBlk.of_own (l := [(x, fn - x)] ++ [(fn + m, x + y - fn - m)]) HV8.out
              have hva : Row w8 a8 (flatX ([(x, fn - x)] ++ [(fn + m, x + y - fn - m)])) ∧ (∀ q : Addr, a8 = some q → some q.block ≠ (Value.slice (some ⟨g, 0, none⟩) L.length c).ownBlock) ∧ (0 < 2 → ∃ vb c1, a8 = some ⟨vb, 0, none⟩ ∧ Blk w8 vb 128 c1) := by
                rcases h9v with ⟨hv, h⟩ | ⟨g', cap', rest', hv, hg1, hg2, hX⟩
                · injection hv with hv1 hv2 hv3
                  refine ⟨by rw [h]; exact Row.nil _ _, (fun q hq => by rw [hv1] at hq; cases hq), (fun h0 => by omega)⟩
                · injection hv with hv1 hv2 hv3
                  refine ⟨?_, fun q hq => ?_, fun _ => ⟨g', _, hv1, hX.blk⟩⟩
                  · have := hX.row 0 ([(x, fn - x)] ++ [(fn + m, x + y - fn - m)]).length (Nat.le_refl _)
                    rw [List.take_length, List.drop_zero, Nat.zero_mul] at this
                    rw [hv1]
                    exact this
                  · rw [hv1] at hq
                    injection hq with hq
                    subst hq
                    intro e
                    have e2 : g' = g := by simpa [Value.ownBlock] using e
                    omega
              have HR := Lib.hid (replace_any L ([(x, fn - x)] ++ [(fn + m, x + y - fn - m)]) k (k + 1) L.length c base 2 c8 (some ⟨g, 0, none⟩) a8 w8 S8.out.own (Nat.le_trans hbw (by have := HB8.out.size; omega)) hva.1 h9l hva.2.1 hva.2.2 (by omega) (by omega) (by omega) (by omega))
              rw [show (((k + 1 : Nat)) : Int) = (k : Int) + 1 from rfl] at HR
              have c9 : w8.cell? ⟨s, 2, none⟩ = some (.slice (some ⟨g, 0, none⟩) L.length c) := S8.out.blk.cell 2
              clear h9l h9v hva
              go_wp2_with fail
              refine HR.out.mono ?_
              rintro e w10 ⟨a10, k10, c10, rfl, hown10, hc10, hf10⟩
              have hsg : ¬ some s = (Value.slice (some ⟨g, 0, none⟩) L.length c).ownBlock := fun e => own_ne_blk S8.out.own S8.out.blk (by decide) e.symm
              have B10 := S8.out.blk.chg hc10 hsg
              have hl10 := (XBlk.of_own hown10).1
              have hown11 := own_chg (S := fun q => q = s) hown10 ((Chg.refl _ w10).setCell ⟨s, 2, none⟩ (.slice a10 k10 c10) (fun _ => rfl)) (fun q hq e => own_ne_blk hown10 B10 (by decide) (e ▸ hq))
              have hc11 : Chg (fun q => q = s ∨ some q = (Value.slice (some ⟨g, 0, none⟩) L.length c).ownBlock) w (w10.setCell ⟨s, 2, none⟩ (.slice a10 k10 c10)) :=
                ((Chg.of_below' HB8.out).trans hc10 (fun q _ e => .inr e)).setCell _ _ (fun _ => .inl rfl)
              have B11 : Blk (w10.setCell ⟨s, 2, none⟩ (.slice a10 k10 c10)) s 130 #[.int .i64 (F : Int), .int .i64 (B : Int), .slice a10 k10 c10] := by simpa using B10.set_ 2 (.slice a10 k10 c10)
              have HFIN := Lib.hid (hold_fin (c := c) hown11 hc11 B11 hf10 hl10 HB8.out.size HYES.out HK.out HGD.out (show pieces (x, y) fn m = [(x, fn - x)] ++ [(fn + m, x + y - fn - m)] by unfold pieces; rw [if_pos (by simp only; omega), if_pos (by simp only; omega)]) hL hin2 S8.out)
              have c10' : w10.cell? ⟨s, 2, none⟩ = some (.slice (some ⟨g, 0, none⟩) L.length c) := B10.cell 2
              have f10 := B10.frozen 2
              clear hown10 hc10 hf10 B10 hl10 hown11 hc11 B11 HR c9
              go_wp2_with fail
              go_ret
              exact HFIN.out
            · have HV8 := HV6
              have S8 := S6
              have HB8 := HB6
              have hz8 := hz6
              clear HV6 S6 HB6 E6
              obtain ⟨h9l, h9v⟩ := XBlk.of_own (l := [(x, fn - x)]) HV8.out
              have hva : Row w6 a5 (flatX ([(x, fn - x)])) ∧ (∀ q : Addr, a5 = some q → some q.block ≠ (Value.slice (some ⟨g, 0, none⟩) L.length c).ownBlock) ∧ (0 < 1 → ∃ vb c1, a5 = some ⟨vb, 0, none⟩ ∧ Blk w6 vb 128 c1) := by
                rcases h9v with ⟨hv, h⟩ | ⟨g', cap', rest', hv, hg1, hg2, hX⟩
                · injection hv with hv1 hv2 hv3
                  refine ⟨by rw [h]; exact Row.nil _ _, (fun q hq => by rw [hv1] at hq; cases hq), (fun h0 => by omega)⟩
                · injection hv with hv1 hv2 hv3
                  refine ⟨?_, fun q hq => ?_, fun _ => ⟨g', _, hv1, hX.blk⟩⟩
                  · have := hX.row 0 ([(x, fn - x)]).length (Nat.le_refl _)
                    rw [List.take_length, List.drop_zero, Nat.zero_mul] at this
                    rw [hv1]
                    exact this
                  · rw [hv1] at hq
                    injection hq with hq
                    subst hq
                    intro e
                    have e2 : g' = g := by simpa [Value.ownBlock] using e
                    omega
              have HR := Lib.hid (replace_any L ([(x, fn - x)]) k (k + 1) L.length c base 1 c5 (some ⟨g, 0, none⟩) a5 w6 S8.out.own (Nat.le_trans hbw (by have := HB8.out.size; omega)) hva.1 h9l hva.2.1 hva.2.2 (by omega) (by omega) (by omega) (by omega))
              rw [show (((k + 1 : Nat)) : Int) = (k : Int) + 1 from rfl] at HR
              have c9 : w6.cell? ⟨s, 2, none⟩ = some (.slice (some ⟨g, 0, none⟩) L.length c) := S8.out.blk.cell 2
              clear h9l h9v hva
              go_wp2_with fail
              refine HR.out.mono ?_
              rintro e w10 ⟨a10, k10, c10, rfl, hown10, hc10, hf10⟩
              have hsg : ¬ some s = (Value.slice (some ⟨g, 0, none⟩) L.length c).ownBlock := fun e => own_ne_blk S8.out.own S8.out.blk (by decide) e.symm
              have B10 := S8.out.blk.chg hc10 hsg
              have hl10 := (XBlk.of_own hown10).1
              have hown11 := own_chg (S := fun q => q = s) hown10 ((Chg.refl _ w10).setCell ⟨s, 2, none⟩ (.slice a10 k10 c10) (fun _ => rfl)) (fun q hq e => own_ne_blk hown10 B10 (by decide) (e ▸ hq))
              have hc11 : Chg (fun q => q = s ∨ some q = (Value.slice (some ⟨g, 0, none⟩) L.length c).ownBlock) w (w10.setCell ⟨s, 2, none⟩ (.slice a10 k10 c10)) :=
                ((Chg.of_below' HB8.out).trans hc10 (fun q _ e => .inr e)).setCell _ _ (fun _ => .inl rfl)
              have B11 : Blk (w10.setCell ⟨s, 2, none⟩ (.slice a10 k10 c10)) s 130 #[.int .i64 (F : Int), .int .i64 (B : Int), .slice a10 k10 c10] := by simpa using B10.set_ 2 (.slice a10 k10 c10)
              have HFIN := Lib.hid (hold_fin (c := c) hown11 hc11 B11 hf10 hl10 HB8.out.size HYES.out HK.out HGD.out (show pieces (x, y) fn m = [(x, fn - x)] by unfold pieces; rw [if_pos (by simp only; omega), if_neg (by simp only; omega)]; rfl) hL hin2 S8.out)
              have c10' : w10.cell? ⟨s, 2, none⟩ = some (.slice (some ⟨g, 0, none⟩) L.length c) := B10.cell 2
              have f10 := B10.frozen 2
              clear hown10 hc10 hf10 B10 hl10 hown11 hc11 B11 HR c9
              go_wp2_with fail
              go_ret
              exact HFIN.out
          · have HV5 : Hid ((w3.alloc (.cells #[.int .i64 (x : Int), .int .i64 (y : Int)] 128)).ownsRow w3.heap.size 128 2 (.slice none 0 0) 0 (flatX [])) := Lib.hid (World.ownsRow_nil _ _ _ _)
            have HB5 := Lib.hid (HB3.out.trans (BE.out.mono HB3.out.size))
            have E5 := E4
            have S5 := S4
            clear E4 S4
            have d0 : (w3.alloc (.cells #[.int .i64 (x : Int), .int .i64 (y : Int)] 128)).cell? ⟨w3.heap.size, 0, none⟩ = some (.int .i64 (x : Int)) := E5.out.cell 0
            have d1 : (w3.alloc (.cells #[.int .i64 (x : Int), .int .i64 (y : Int)] 128)).cell? ⟨w3.heap.size, 1, none⟩ = some (.int .i64 (y : Int)) := E5.out.cell 1
            go_wp2_with fail
            refine (end_any (x : Int) (y : Int) (w3.alloc (.cells #[.int .i64 (x : Int), .int .i64 (y : Int)] 128)) ⟨by omega, by omega⟩ ⟨by omega, by omega⟩).mono ?_
            rintro e w6 ⟨rfl, hb6⟩
            have E6 := Lib.hid (E5.out.below hb6 E5.out.lt)
            have S6 := Lib.hid (S5.out.below hb6)
            have HV6 := Lib.hid (own_chg HV5.out (Chg.of_below' (S := fun _ => False) hb6) (fun _ _ h => h))
            have HB6 := Lib.hid (HB5.out.trans (hb6.mono HB5.out.size))
            have hz6 : w3.heap.size ≤ w6.heap.size := Nat.le_trans (Nat.le_of_lt E5.out.lt) hb6.size
            clear hb6 d0 d1 E5 S5 HV5 HB5
            by_cases h4 : (fn : Int) + m < (x : Int) + y
            · have d0 : w6.cell? ⟨w3.heap.size, 0, none⟩ = some (.int .i64 (x : Int)) := E6.out.cell 0
              have d1 : w6.cell? ⟨w3.heap.size, 1, none⟩ = some (.int .i64 (y : Int)) := E6.out.cell 1
              go_wp2_with fail
              refine (end_any (x : Int) (y : Int) w6 ⟨by omega, by omega⟩ ⟨by omega, by omega⟩).mono ?_
              rintro e w7 ⟨rfl, hb7⟩
              have S7 := Lib.hid (S6.out.below hb7)
              have HV7 := Lib.hid (own_chg HV6.out (Chg.of_below' (S := fun _ => False) hb7) (fun _ _ h => h))
              have HB7 := Lib.hid (HB6.out.trans (hb7.mono HB6.out.size))
              have hz7 : w3.heap.size ≤ w7.heap.size := Nat.le_trans hz6 hb7.size
              clear hb7 d0 d1 E6 S6 HV6 HB6
              have e9 : ((fn + m : Nat) : Int) = (fn : Int) + m := by omega
              have e8 : ((x + y - fn - m : Nat) : Int) = (x : Int) + y - fn - m := by omega
              have e7 := Row.new w7 #[.int .i64 ((fn + m : Nat) : Int), .int .i64 ((x + y - fn - m : Nat) : Int)] 128 (0, 0)
              have e6 : (#[Value.int .i64 ((fn + m : Nat) : Int), .int .i64 ((x + y - fn - m : Nat) : Int)]).toList = flatX [(fn + m, x + y - fn - m)] := rfl
              rw [e6, e9, e8] at e7
              have HRW := Lib.hid e7
              have t7 : IntKind.i64.wrap ((x : Int) + y - fn) = (x : Int) + y - fn := by rw [IntKind.wrap_i64]; omega
              have t8 : IntKind.i64.wrap ((x : Int) + y - fn - m) = (x : Int) + y - fn - m := by rw [IntKind.wrap_i64]; omega
              clear e6 e7 e8 e9
              go_wp2_with (at_builtin; go_must (refine wpList_append rfl (.tmp 78) (.tmp 89) _ rfl el_ext w3.heap.size _ _ _ rfl (HV7.out.alloc _) _ 1 1 (flatX [(fn + m, x + y - fn - m)]) rfl rfl HRW.out (flatX_one _) (by unfold maxLen; omega) (by omega) (by simp; omega) ?_))
              rw [← flatX_append]
              intro v8 w8 hown8 hg8 _ hb8
              obtain ⟨h8l, h8v⟩ := XBlk.of_own hown8
              obtain ⟨a8, c8, rfl⟩ : ∃ a8 c8, v8 = .slice a8 1 c8 := by
                rcases h8v with ⟨-, h⟩ | ⟨g', cap', rest', rfl, _⟩
                · simp at h
                · exact ⟨_, _, rfl⟩
              have hbb8 : Below w3.heap.size w7 w8 := ((Below.refl w3.heap.size w7).alloc hz7 _).trans hb8
              have HV8 : Hid (w8.ownsRow w3.heap.size 128 2 (.slice a8 1 c8) 1 (flatX ([] ++ [(fn + m, x + y - fn - m)]))) := Lib.hid hown8
              have S8 := Lib.hid (S7.out.below3 hbb8 hsl3 hgl3)
              have HB8 := Lib.hid (HB7.out.trans (hbb8.mono (by omega)))
              have hz8 : w3.heap.size ≤ w8.heap.size := hbb8.size' hz7
              clear hown8 hg8 hb8 h8l h8v hbb8 HRW S7 HV7 HB7
              obtain ⟨h9l, h9v⟩ := XBlk.of_own (l := [] ++ [(fn + m, x + y - fn - m)]) HV8.out
              have hva : Row w8 a8 (flatX ([] ++ [(fn + m, x + y - fn - m)])) ∧ (∀ q : Addr, a8 = some q → some q.block ≠ (Value.slice (some ⟨g, 0, none⟩) L.length c).ownBlock) ∧ (0 < 1 → ∃ vb c1, a8 = some ⟨vb, 0, none⟩ ∧ Blk w8 vb 128 c1) := by
                rcases h9v with ⟨hv, h⟩ | ⟨g', cap', rest', hv, hg1, hg2, hX⟩
                · injection hv with hv1 hv2 hv3
                  refine ⟨by rw [h]; exact Row.nil _ _, (fun q hq => by rw [hv1] at hq; cases hq), (fun h0 => by omega)⟩
                · injection hv with hv1 hv2 hv3
                  refine ⟨?_, fun q hq => ?_, fun _ => ⟨g', _, hv1, hX.blk⟩⟩
                  · have := hX.row 0 ([] ++ [(fn + m, x + y - fn - m)]).length (Nat.le_refl _)
                    rw [List.take_length, List.drop_zero, Nat.zero_mul] at this
                    rw [hv1]
                    exact this
                  · rw [hv1] at hq
                    injection hq with hq
                    subst hq
                    intro e
                    have e2 : g' = g := by simpa [Value.ownBlock] using e
                    omega
              have HR := Lib.hid (replace_any L ([] ++ [(fn + m, x + y - fn - m)]) k (k + 1) L.length c base 1 c8 (some ⟨g, 0, none⟩) a8 w8 S8.out.own (Nat.le_trans hbw (by have := HB8.out.size; omega)) hva.1 h9l hva.2.1 hva.2.2 (by omega) (by omega) (by omega) (by omega))
              rw [show (((k + 1 : Nat)) : Int) = (k : Int) + 1 from rfl] at HR
              have c9 : w8.cell? ⟨s, 2, none⟩ = some (.slice (some ⟨g, 0, none⟩) L.length c) := S8.out.blk.cell 2
              clear h9l h9v hva
              go_wp2_with fail
              refine HR.out.mono ?_
              rintro e w10 ⟨a10, k10, c10, rfl, hown10, hc10, hf10⟩
              have hsg : ¬ some s = (Value.slice (some ⟨g, 0, none⟩) L.length c).ownBlock := fun e => own_ne_blk S8.out.own S8.out.blk (by decide) e.symm
              have B10 := S8.out.blk.chg hc10 hsg
              have hl10 := (XBlk.of_own hown10).1
              have hown11 := own_chg (S := fun q => q = s) hown10 ((Chg.refl _ w10).setCell ⟨s, 2, none⟩ (.slice a10 k10 c10) (fun _ => rfl)) (fun q hq e => own_ne_blk hown10 B10 (by decide) (e ▸ hq))
              have hc11 : Chg (fun q => q = s ∨ some q = (Value.slice (some ⟨g, 0, none⟩) L.length c).ownBlock) w (w10.setCell ⟨s, 2, none⟩ (.slice a10 k10 c10)) :=
                ((Chg.of_below' HB8.out).trans hc10 (fun q _ e => .inr e)).setCell _ _ (fun _ => .inl rfl)
              have B11 : Blk (w10.setCell ⟨s, 2, none⟩ (.slice a10 k10 c10)) s 130 #[.int .i64 (F : Int), .int .i64 (B : Int), .slice a10 k10 c10] := by simpa using B10.set_ 2 (.slice a10 k10 c10)
              have HFIN := Lib.hid (hold_fin (c := c) hown11 hc11 B11 hf10 hl10 HB8.out.size HYES.out HK.out HGD.out (show pieces (x, y) fn m = [] ++ [(fn + m, x + y - fn - m)] by unfold pieces; rw [if_neg (by simp only; omega), if_pos (by simp only; omega)]) hL hin2 S8.out)
              have c10' : w10.cell? ⟨s, 2, none⟩ = some (.slice (some ⟨g, 0, none⟩) L.length c) := B10.cell 2
              have f10 := B10.frozen 2
              clear hown10 hc10 hf10 B10 hl10 hown11 hc11 B11 HR c9
              go_wp2_with fail
              go_ret
              exact HFIN.out
            · have HV8 := HV6
              have S8 := S6
              have HB8 := HB6
              have hz8 := hz6
              clear HV6 S6 HB6 E6
              obtain ⟨h9l, h9v⟩ := XBlk.of_own (l := ([] : List Ext)) HV8.out
              have hva : Row w6 (none : Option Addr) (flatX (([] : List Ext))) ∧ (∀ q : Addr, (none : Option Addr) = some q → some q.block ≠ (Value.slice (some ⟨g, 0, none⟩) L.length c).ownBlock) ∧ (0 < 0 → ∃ vb c1, (none : Option Addr) = some ⟨vb, 0, none⟩ ∧ Blk w6 vb 128 c1) := by
                rcases h9v with ⟨hv, h⟩ | ⟨g', cap', rest', hv, hg1, hg2, hX⟩
                · injection hv with hv1 hv2 hv3
                  refine ⟨by rw [h]; exact Row.nil _ _, (fun q hq => by rw [hv1] at hq; cases hq), (fun h0 => by omega)⟩
                · injection hv with hv1 hv2 hv3
                  refine ⟨?_, fun q hq => ?_, fun _ => ⟨g', _, hv1, hX.blk⟩⟩
                  · have := hX.row 0 (([] : List Ext)).length (Nat.le_refl _)
                    rw [List.take_length, List.drop_zero, Nat.zero_mul] at this
                    rw [hv1]
                    exact this
                  · rw [hv1] at hq
                    injection hq with hq
                    subst hq
                    intro e
                    have e2 : g' = g := by simpa [Value.ownBlock] using e
                    omega
              have HR := Lib.hid (replace_any L (([] : List Ext)) k (k + 1) L.length c base 0 0 (some ⟨g, 0, none⟩) (none : Option Addr) w6 S8.out.own (Nat.le_trans hbw (by have := HB8.out.size; omega)) hva.1 h9l hva.2.1 hva.2.2 (by omega) (by omega) (by omega) (by omega))
              rw [show (((k + 1 : Nat)) : Int) = (k : Int) + 1 from rfl] at HR
              have c9 : w6.cell? ⟨s, 2, none⟩ = some (.slice (some ⟨g, 0, none⟩) L.length c) := S8.out.blk.cell 2
              clear h9l h9v hva
              go_wp2_with fail
              refine HR.out.mono ?_
              rintro e w10 ⟨a10, k10, c10, rfl, hown10, hc10, hf10⟩
              have hsg : ¬ some s = (Value.slice (some ⟨g, 0, none⟩) L.length c).ownBlock := fun e => own_ne_blk S8.out.own S8.out.blk (by decide) e.symm
              have B10 := S8.out.blk.chg hc10 hsg
              have hl10 := (XBlk.of_own hown10).1
              have hown11 := own_chg (S := fun q => q = s) hown10 ((Chg.refl _ w10).setCell ⟨s, 2, none⟩ (.slice a10 k10 c10) (fun _ => rfl)) (fun q hq e => own_ne_blk hown10 B10 (by decide) (e ▸ hq))
              have hc11 : Chg (fun q => q = s ∨ some q = (Value.slice (some ⟨g, 0, none⟩) L.length c).ownBlock) w (w10.setCell ⟨s, 2, none⟩ (.slice a10 k10 c10)) :=
                ((Chg.of_below' HB8.out).trans hc10 (fun q _ e => .inr e)).setCell _ _ (fun _ => .inl rfl)
              have B11 : Blk (w10.setCell ⟨s, 2, none⟩ (.slice a10 k10 c10)) s 130 #[.int .i64 (F : Int), .int .i64 (B : Int), .slice a10 k10 c10] := by simpa using B10.set_ 2 (.slice a10 k10 c10)
              have HFIN := Lib.hid (hold_fin (c := c) hown11 hc11 B11 hf10 hl10 HB8.out.size HYES.out HK.out HGD.out (show pieces (x, y) fn m = ([] : List Ext) by unfold pieces; rw [if_neg (by simp only; omega), if_neg (by simp only; omega)]; rfl) hL hin2 S8.out)
              have c10' : w10.cell? ⟨s, 2, none⟩ = some (.slice (some ⟨g, 0, none⟩) L.length c) := B10.cell 2
              have f10 := B10.frozen 2
              clear hown10 hc10 hf10 B10 hl10 hown11 hc11 B11 HR c9
              go_wp2_with fail
              go_ret
              exact HFIN.out

end Go.Proofs.Ytmmkncocgjgapaa.Sp
