/- The walk of slices.Insert at extents, one element: in place, and at the end. -/
import Derived.Test.YtodjibhnmibedaaSpIns
set_option linter.unusedVariables false
namespace Go.Proofs.Ytodjibhnmibedaa.Sp
open Go.RowKit

set_option maxRecDepth 100000 in
set_option maxHeartbeats 1000000 in
theorem insert_room (L : List Ext) (x : Ext) (i g cap vb base : Nat) (rest : List Value) (w : World) (hX : XBlk w g cap L rest) (hB : Blk w vb 69 #[.int .i64 (x.1 : Int), .int .i64 (x.2 : Int)]) (hne : g ≠ vb)
    (hi : i < L.length) (hL : L.length ≤ 1000000) (hc : L.length + 1 ≤ cap) (hb : base ≤ g) :
    Calls Try.prog 55 #[.slice (some ⟨g, 0, none⟩) L.length cap, .int .i64 (i : Int), .slice (some ⟨vb, 0, none⟩) 1 1] w (RowTold w base (some g) (L.take i ++ x :: L.drop i)) := by
  obtain ⟨n, hn⟩ : ∃ n, L.length = n := ⟨_, rfl⟩
  rw [hn] at hi hL hc ⊢
  have hmax : cap ≤ 9223372036854775807 := by have := hX.cap; unfold maxLen at this; omega
  have hnot : ¬ (i : Int) = n := by omega
  have hnot2 : ((i : Int) == n) = false := by simp; omega
  have hno : ¬ ((cap : Int) < (n : Int) + 1) := by omega
  have HX := Lib.hid hX
  have HB := Lib.hid hB
  have HN := Lib.hid hn
  have hne1 : ¬ cap = i := by omega
  have hne2 : ¬ cap = i + 1 := by omega
  have hov := overlaps_apart hB hX.blk (fun e => hne e.symm) (by rw [List.size_toArray, List.length_append, flatX_length]; have := hX.len; omega) 0 ((i + 1) * 2) 1 1 (n - i) (cap - (i + 1))
  have hgl := hX.blk.lt
  have HLEN := Lib.hid (show (flatX L ++ rest).length = cap * 2 by rw [List.length_append, flatX_length]; exact hX.len)
  obtain ⟨S, hS⟩ : ∃ S, S = flatX L ++ rest := ⟨_, rfl⟩
  have hblk := hX.blk
  rw [← hS] at HLEN hblk
  have HBK := Lib.hid hblk
  have HS := Lib.hid hS
  clear hX hB hn hblk hS
  have s1 : IntKind.i64.wrap ((i : Int) + 1) = (i : Int) + 1 := by rw [IntKind.wrap_i64]; omega
  have s2 : (0 : Int) ≤ (i : Int) + 1 := by omega
  have s3 : (i : Int) + 1 ≤ (n : Int) + 1 := by omega
  have s4 : ((i : Int) + 1).toNat = i + 1 := by omega
  have s5 : (0 : Int) ≤ (i : Int) := by omega
  have s6 : (i : Int) ≤ (n : Int) := by omega
  have s7 : n + 1 - (i + 1) = n - i := by omega
  have s8 : (i : Int) ≤ (n : Int) + 1 := by omega
  go_enter Try.func55, Try.ntmps55
  go_wp2_with fail
  have RL := Lib.hid (HX.out.row i n (by have := HN.out; omega))
  go_region_law (refine step_copy_at rfl (.tmp 73) (.tmp 76) 65 65 (by rfl) 69 2 Try.underlying65 size_ext (some ⟨g, (i + 1) * 2, none⟩) (some ⟨g, i * 2, none⟩) (n - i) (cap - (i + 1)) (n + 1 - i) (cap - i) (by simp [Act.eval, Act.put]) (by simp [Act.eval, Act.put]) g ((i + 1) * 2) S 69 HBK.out (flatX ((L.take n).drop i)) (by rw [flatX_length, List.length_drop, List.length_take, HN.out, Nat.min_self, show Nat.min (n + 1 - i) (n - i) = n - i from Nat.min_eq_right (by omega)]) (fun h => ⟨rfl, row_src RL.out h⟩) (by rw [HLEN.out, flatX_length, List.length_drop, List.length_take, HN.out, Nat.min_self]; omega) (flatX_one _) ?_; intro w3 hB3 hc3)
  have RV : Hid (Row w3 (some ⟨vb, 0, none⟩) (flatX [x])) := Lib.hid (Row.of_blk (HB.out.drew.chg hc3.out (fun e => hne e.symm)))
  go_wp2_with (with_reducible refine wpList_copy_at (o := ⟨some 82, _, _, _, _, _⟩) rfl (.tmp 80) (.tmp 81) 65 65 ?h2 69 2 Try.underlying65 size_ext (some ⟨g, i * 2, none⟩) (some ⟨vb, 0, none⟩) (n + 1 - i) (cap - i) 1 1 ?h4 ?h5 g (i * 2) _ 69 hB3.out (flatX [x]) ?c1 (fun h => ⟨rfl, row_src RV.out h⟩) ?c3 (flatX_one _) ?_)
  case h2 => rfl
  case h4 => rfl
  case h5 => rfl
  case c1 => rw [flatX_length, show Nat.min 1 (n + 1 - i) = 1 from Nat.min_eq_left (by omega)]; rfl
  case c3 => rw [length_splice _ _ _ (by rw [HLEN.out, flatX_length, List.length_drop, List.length_take, HN.out, Nat.min_self]; omega), HLEN.out, flatX_length, List.length_singleton]; omega
  intro w4 hB4 hc4
  have hX4 : XBlk w4 g cap (L.take i ++ x :: L.drop i) (S.drop ((i + 1) * 2 + (flatX ((L.take n).drop i)).length)) := by
    have hSL := HLEN.out
    have hdr : (L.take n).drop i = L.drop i := by rw [List.take_of_length_le (by rw [HN.out]; exact Nat.le_refl _)]
    have htk : S.take (i * 2) = flatX (L.take i) := by
      rw [HS.out, List.take_append_of_le_length (by rw [flatX_length, HN.out]; omega), flatX_take]
    refine ⟨?_, ?_, HX.out.cap⟩
    · have h := hB4.out
      rw [splice_up (by rw [flatX_length, List.length_singleton]; omega) (by rw [hSL]; omega), htk, ← List.append_assoc, ← List.append_assoc, ← flatX_append, ← flatX_append] at h
      rw [hdr] at h ⊢
      rw [List.append_assoc] at h
      simpa using h
    · rw [hdr, List.length_append, List.length_cons, List.length_take, List.length_drop, HN.out, List.length_drop, flatX_length, List.length_drop, HN.out, hSL]
      omega
  go_wp2_with fail
  go_ret
  refine RowTold.mk' hX4 hb (by rw [List.length_append, List.length_cons, List.length_take, List.length_drop, HN.out]; omega) (.inl rfl) ?_
  exact (((Chg.refl (fun k => some k = some g) w).drew.trans hc3.out (fun k hk e => by rw [e])).trans hc4.out (fun k hk e => by rw [e]))

theorem row_old {w : World} {a : Option Addr} {xs : List Value} (h : Row w a xs) (hp : 0 < xs.length) : ∃ g off, a = some ⟨g, off, none⟩ ∧ g < w.heap.size := by
  obtain ⟨b, off, h1, _, h2⟩ := h.at_ hp
  exact ⟨b, off, h1, h2⟩

set_option maxRecDepth 100000 in
set_option maxHeartbeats 1000000 in
theorem insert_end (L : List Ext) (x : Ext) (v : Value) (vb base n : Nat) (w : World) (hown : w.ownsRow base 69 2 v n (flatX L)) (hB : Blk w vb 69 #[.int .i64 (x.1 : Int), .int .i64 (x.2 : Int)])
    (hL : L.length ≤ 1000000) (hb : base ≤ w.heap.size) :
    Calls Try.prog 55 #[v, .int .i64 (n : Int), .slice (some ⟨vb, 0, none⟩) 1 1] w (RowTold w base v.ownBlock (L ++ [x])) := by
  obtain ⟨hn, hv⟩ := XBlk.of_own hown
  have hsz : ∃ a c, v = .slice a n c ∧ n ≤ c ∧ c ≤ 9223372036854775807 := by
    rcases hv with ⟨rfl, rfl⟩ | ⟨g, cap, rest, rfl, _, _, h⟩
    · simp at hn
      subst hn
      exact ⟨none, 0, rfl, by omega, by omega⟩
    · have h1 := h.len
      have h2 := h.cap
      unfold maxLen at h2
      exact ⟨_, cap, rfl, by omega, by omega⟩
  obtain ⟨a, c, rfl, hnc, hcm⟩ := hsz
  have RV : Hid (Row w (some ⟨vb, 0, none⟩) (flatX [x])) := Lib.hid (Row.of_blk hB)
  have HO := Lib.hid hown
  have HN := Lib.hid hn
  have e1 : ((n : Int) == n) = true := by simp
  have hn6 : n ≤ 1000000 := by omega
  clear hv hown hB hn
  have hcase : n = c ∨ ¬ c = n := by omega
  rcases hcase with rfl | hcn
  all_goals
    go_enter Try.func55, Try.ntmps55
    go_wp2_with (at_builtin; go_must (refine wpList_append rfl (.tmp 23) (.tmp 24) _ rfl el_ext base _ _ _ rfl HO.out _ 1 1 (flatX [x]) rfl rfl RV.out (flatX_one _) (by unfold maxLen; omega) (by omega) hb ?_))
    rw [← flatX_append]
    intro v2 w2 hown2 hg2 hf2 _
    obtain ⟨h1, h2⟩ := XBlk.of_own hown2
    have hv2 : ∃ a2 c2, v2 = .slice a2 (n + 1) c2 := by
      rcases h2 with ⟨-, h⟩ | ⟨g, cap, rest, rfl, _⟩
      · simp at h
      · exact ⟨_, _, rfl⟩
    obtain ⟨a2, c2, rfl⟩ := hv2
    have HO2 := Lib.hid hown2
    have HF2 := Lib.hid hf2
    have H1 := Lib.hid h1
    clear hown2 h1 h2 hf2
    go_wp2_with fail
    go_ret
    exact ⟨a2, n + 1, c2, rfl, HO2.out, Chg.of_grown hg2, HF2.out.elim .inl (fun e => .inr ⟨_, e, Nat.le_refl _⟩)⟩

end Go.Proofs.Ytodjibhnmibedaa.Sp
