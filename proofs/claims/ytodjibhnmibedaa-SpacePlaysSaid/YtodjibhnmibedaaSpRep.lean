/- The walk of slices.Replace at extents. -/
import Derived.Test.YtodjibhnmibedaaSpIns2
set_option linter.unusedVariables false
namespace Go.Proofs.Ytodjibhnmibedaa.Sp
open Go.RowKit

theorem insert_any (L : List Ext) (x : Ext) (v : Value) (vb base n i : Nat) (w : World) (hown : w.ownsRow base 69 2 v n (flatX L)) (hB : Blk w vb 69 #[.int .i64 (x.1 : Int), .int .i64 (x.2 : Int)]) (hne : v.ownBlock ≠ some vb)
    (hL : L.length ≤ 1000000) (hb : base ≤ w.heap.size) (hi : i ≤ L.length) :
    Calls Try.prog 55 #[v, .int .i64 (i : Int), .slice (some ⟨vb, 0, none⟩) 1 1] w (RowTold w base v.ownBlock (L.take i ++ x :: L.drop i)) := by
  by_cases hin : i = L.length
  · have hn := (XBlk.of_own hown).1
    have h := insert_end L x v vb base n w hown hB hL hb
    rw [← hn, ← hin] at h
    rw [List.take_of_length_le (by omega), List.drop_eq_nil_of_le (by omega)]
    exact h
  · obtain ⟨hn, hv⟩ := XBlk.of_own hown
    rcases hv with ⟨rfl, rfl⟩ | ⟨g, cap, rest, rfl, hbg, _, hX⟩
    · simp at hin; simp at hi; omega
    · have hgv : g ≠ vb := fun e => hne (by rw [e]; rfl)
      have hlen := hX.len
      subst hn
      by_cases hroom : L.length + 1 ≤ cap
      · exact insert_room L x i g cap vb base rest w hX hB hgv (by omega) hL hroom hbg
      · exact insert_grow L x i g cap vb base rest w hX hB hgv (by omega) hL (by omega) (by omega) hb

set_option maxRecDepth 100000 in
set_option maxHeartbeats 1000000 in
/-- Nothing is replaced by one extent. -/
theorem replace_insert (L : List Ext) (x : Ext) (a : Option Addr) (c vb base n i : Nat) (w : World) (hown : w.ownsRow base 69 2 (.slice a n c) n (flatX L)) (hB : Blk w vb 69 #[.int .i64 (x.1 : Int), .int .i64 (x.2 : Int)]) (hne : (Value.slice a n c).ownBlock ≠ some vb)
    (hL : L.length ≤ 1000000) (hb : base ≤ w.heap.size) (hi : i ≤ n) (hnc : n ≤ c) (hcm : c ≤ 9223372036854775807) :
    Calls Try.prog 47 #[.slice a n c, .int .i64 (i : Int), .int .i64 (i : Int), .slice (some ⟨vb, 0, none⟩) 1 1] w (RowTold w base (Value.slice a n c).ownBlock (L.take i ++ x :: L.drop i)) := by
  have hn := (XBlk.of_own hown).1
  have HI := Lib.hid (insert_any L x _ vb base n i w hown hB hne hL hb (by omega))
  have e1 : ((i : Int) == i) = true := by simp
  have hn6 : n ≤ 1000000 := by omega
  have hcase : i = c ∨ ¬ c = i := by omega
  clear hown hB hn
  rcases hcase with rfl | hci
  all_goals
    go_enter Try.func47, Try.ntmps47
    go_wp2_with fail
    refine HI.out.mono ?_
    rintro e w1 ⟨a1, k1, c1, rfl, hown1, hc1, hf1⟩
    have HF := Lib.hid hf1
    have HO := Lib.hid hown1
    have HC := Lib.hid hc1
    clear hown1 hc1 hf1
    go_wp2_with fail
    go_ret
    exact ⟨a1, k1, c1, rfl, HO.out, HC.out, HF.out⟩

theorem zero_one : ∀ v ∈ (Value.agg #[.int .i64 0, .int .i64 0]).cells, v.oneCell' = true := by
  intro v hv
  have h : v ∈ #[Value.int .i64 0, Value.int .i64 0] := hv
  simp at h
  subst h
  rfl
theorem XBlk.spliced {w w' : World} {g cap k : Nat} {L : List Ext} {rest cur zs : List Value} (h : XBlk w g cap L rest) (hw : Blk w g 69 cur.toArray) (h2 : Blk w' g 69 (splice cur k zs).toArray) (hk : k = L.length * 2) (hz : zs.length ≤ rest.length) :
    XBlk w' g cap L (zs ++ rest.drop zs.length) := by
  have e : cur = flatX L ++ rest := by
    have := (Blk.inj hw h.blk).2
    simpa using this
  have hl := h.len
  refine ⟨?_, ?_, h.cap⟩
  · rw [e, splice_after (by rw [flatX_length]; exact hk)] at h2
    exact h2
  · rw [List.length_append, List.length_drop]
    omega

set_option maxRecDepth 100000 in
set_option maxHeartbeats 2000000 in
/-- The end is replaced, within the room. -/
theorem replace_end (L V : List Ext) (i g cap base m vc : Nat) (va : Option Addr) (rest : List Value) (w : World) (hX : XBlk w g cap L rest) (hV : Row w va (flatX V)) (hm : V.length = m)
    (hi : i < L.length) (hL : L.length ≤ 1000000) (hm6 : m ≤ 2) (hroom : i + m ≤ cap) (hc : L.length ≤ cap) (hb : base ≤ g) :
    Calls Try.prog 47 #[.slice (some ⟨g, 0, none⟩) L.length cap, .int .i64 (i : Int), .int .i64 (L.length : Int), .slice va m vc] w (RowTold w base (some g) (L.take i ++ V)) := by
  obtain ⟨n, hn⟩ : ∃ n, L.length = n := ⟨_, rfl⟩
  rw [hn] at hi hL hc ⊢
  have hmax : cap ≤ 9223372036854775807 := by have := hX.cap; unfold maxLen at this; omega
  have hnot : ¬ (i : Int) = n := by omega
  have hnot2 : ((i : Int) == n) = false := by simp; omega
  have e1 : ((n : Int) == n) = true := by simp
  have HX := Lib.hid hX
  have HN := Lib.hid hn
  have HV := Lib.hid hV
  have HM := Lib.hid hm
  have hne1 : ¬ cap = i := by omega
  have HLEN := Lib.hid (show (flatX L ++ rest).length = cap * 2 by rw [List.length_append, flatX_length]; exact hX.len)
  obtain ⟨S, hS⟩ : ∃ S, S = flatX L ++ rest := ⟨_, rfl⟩
  have hblk := hX.blk
  rw [← hS] at HLEN hblk
  have HBK := Lib.hid hblk
  have HS := Lib.hid hS
  clear hX hn hblk hS hV hm
  have hpl : ∀ w1, Hid (Blk w1 g 69 (splice S (i * 2) (flatX V)).toArray) → XBlk w1 g cap (L.take i ++ V) (S.drop (i * 2 + m * 2)) := fun w1 hB1 => by
    have hSL := HLEN.out
    have htk : S.take (i * 2) = flatX (L.take i) := by
      rw [HS.out, List.take_append_of_le_length (by rw [flatX_length, HN.out]; omega), flatX_take]
    refine ⟨?_, ?_, HX.out.cap⟩
    · have h := hB1.out
      unfold splice at h
      rw [htk, ← List.append_assoc, ← flatX_append, flatX_length, HM.out] at h
      exact h
    · rw [List.length_append, List.length_take, HN.out, HM.out, List.length_drop, hSL]
      omega
  have HPL := Lib.hid hpl
  clear hpl
  have hlt : i + m < n ∨ ¬ (i + m < n) := by omega
  rcases hlt with hlt | hlt
  · have hlt2 : (i : Int) + m < n := by omega
    have hne2 : ¬ cap = i + m := by omega
    go_enter Try.func47, Try.ntmps47
    go_wp2_with (at_builtin; go_must (refine wpList_append_at rfl (.tmp 32) (.tmp 33) _ rfl 69 2 Try.underlying65 size_ext i cap g S rfl HBK.out va m vc (flatX V) rfl (by rw [flatX_length, HM.out]) HV.out (flatX_one _) (by omega) (by rw [flatX_length, HM.out, HLEN.out]; omega) (by omega) ?_))
    intro w1 hB1 hc1
    go_wp2_with (with_reducible refine wpList_clear_at (o := ⟨none, _, _, _, _, _⟩) rfl (.tmp 43) 65 ?h2 69 2 (.agg #[.int .i64 0, .int .i64 0]) Try.underlying65 zero_ext rfl ?h3 (some ⟨g, (i + m) * 2, none⟩) (n - (i + m)) (cap - (i + m)) ?h4 g ((i + m) * 2) (splice S (i * 2) (flatX V)) 69 hB1.out (fun _ => rfl) ?c3 ?_)
    case h2 => rfl
    case h3 => exact zero_one
    case h4 => rfl
    case c3 => rw [length_splice _ _ _ (by rw [HLEN.out, flatX_length, HM.out]; omega), HLEN.out]; omega
    intro w2 zs hz hB2 hc2
    have hX1 := HPL.out w1 hB1
    have hX2 := hX1.spliced hB1.out hB2.out (by rw [List.length_append, List.length_take, HN.out, HM.out, Nat.min_eq_left (by omega)]) (by rw [hz.out, List.length_drop, HLEN.out]; omega)
    go_wp2_with fail
    go_ret
    refine RowTold.mk' hX2 hb (by rw [List.length_append, List.length_take, HN.out, HM.out]; omega) (.inl rfl) ?_
    exact ((hc1.out.trans hc2.out (fun k hk e => e)).mono (fun k _ e => by rw [e]))
  · have hlt2 : ¬ ((i : Int) + m < n) := by omega
    go_enter Try.func47, Try.ntmps47
    go_wp2_with (at_builtin; go_must (refine wpList_append_at rfl (.tmp 32) (.tmp 33) _ rfl 69 2 Try.underlying65 size_ext i cap g S rfl HBK.out va m vc (flatX V) rfl (by rw [flatX_length, HM.out]) HV.out (flatX_one _) (by omega) (by rw [flatX_length, HM.out, HLEN.out]; omega) (by omega) ?_))
    intro w1 hB1 hc1
    have hX1 := HPL.out w1 hB1
    go_wp2_with fail
    go_ret
    refine RowTold.mk' hX1 hb (by rw [List.length_append, List.length_take, HN.out, HM.out]; omega) (.inl rfl) ?_
    exact hc1.out.mono (fun k _ e => by rw [e])

end Go.Proofs.Ytodjibhnmibedaa.Sp
