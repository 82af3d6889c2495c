/- The walk of abutmentref13.Keep. -/
import Derived.Test.YtlbaigkpojkfjaaZJnRef
import Derived.Test.YtlbaigkpojkfjaaZJnKeep2
set_option linter.unusedVariables false
namespace Go.Proofs.Ytlbaigkpojkfjaa.Fl
open Go.RowKit

set_option maxRecDepth 100000 in
set_option maxHeartbeats 4000000 in
theorem refkeep_any {K : Key} (l : List Tup) (col : Nat) (lo hi : Int) (a : Option Addr) (c : Nat) (w : World) (hcol : col < 5) (hl : Tps K w a l) (ht5 : ∀ t ∈ l, t.length = 5) (hn : l.length ≤ 1000000) :
    Calls Try.prog 19 #[.slice a l.length c, .int .i64 (col : Int), .int .i64 lo, .int .i64 hi] w (fun e w' => ∃ v, e = .returned v ∧ w'.ownsRow w.heap.size 57 5 v (l.filter (keepB col lo hi)).length (flatT (l.filter (keepB col lo hi))) ∧ Below w.heap.size w w') := by
  have HT := Lib.hid ht5
  have HL := Lib.hid hl
  have hc0 : (0 : Int) ≤ (col : Int) := by omega
  have hc5 : (col : Int) < 5 := by omega
  clear ht5 hl
  go_enter Try.func19, Try.ntmps19
  go_wp2_with fail
  go_loopw [9, 10] (fun ov iv wr => OutLoop l.length (fun i => (l.take i).filter (keepB col lo hi)) w ov iv wr) (fun _ iv _ => l.length - (intOf iv).toNat)
  case atStart => exact ⟨0, rfl, Nat.zero_le _, World.ownsRow_nil _ _ _ _, Below.refl _ _⟩
  case round =>
    obtain ⟨i, rfl, hi', hown, hbr⟩ := hrel
    obtain ⟨oa, oc, rfl⟩ := own_slice_t hown
    have HBR := Lib.hid hbr
    obtain ⟨m, hm⟩ : ∃ m, m = ((l.take i).filter (keepB col lo hi)).length := ⟨_, rfl⟩
    have hmi : m ≤ i := by rw [hm]; exact Nat.le_trans (List.length_filter_le _ _) (by rw [List.length_take]; omega)
    rw [← hm] at hown ⊢
    by_cases hlt : i < l.length
    · have hki : (i : Int) < (l.length : Int) := by omega
      obtain ⟨g, off, rfl, c0, c1, c2, c3, c4, hli, y0, y1, y2, y3, y4⟩ := (HL.out.below HBR.out).cells HT.out hlt
      have hi0 : (0 : Int) ≤ (i : Int) := by omega
      obtain ⟨v, hv⟩ : ∃ v, v = (l[i].getD col 0).toInt := ⟨_, rfl⟩
      have yc : wr.cell? ⟨g, off + i * 5 + col, none⟩ = some (.int .i64 v) := by
        rw [hv, hli]
        obtain rfl | rfl | rfl | rfl | rfl : col = 0 ∨ col = 1 ∨ col = 2 ∨ col = 3 ∨ col = 4 := by omega
        · exact y0
        · exact y1
        · exact y2
        · exact y3
        · exact y4
      have hts : (l.take (i + 1)).filter (keepB col lo hi) = (l.take i).filter (keepB col lo hi) ++ [l[i]].filter (keepB col lo hi) := by rw [List.take_succ_eq_append_getElem hlt, List.filter_append]
      have hkb : keepB col lo hi l[i] = (decide (lo ≤ v) && decide (v ≤ hi)) := by rw [hv]; rfl
      by_cases hlo : lo ≤ v
      · by_cases hhi : v ≤ hi
        · have hfl : flatT ((l.take i).filter (keepB col lo hi)) ++ [.int .i64 c0.toInt, .int .i64 c1.toInt, .int .i64 c2.toInt, .int .i64 c3.toInt, .int .i64 c4.toInt] = flatT ((l.take (i + 1)).filter (keepB col lo hi)) := by
            rw [hts, List.filter_cons_of_pos (by rw [hkb]; simp [hlo, hhi]), List.filter_nil, flatT_snoc, hli]
            rfl
          have hlen : ((l.take (i + 1)).filter (keepB col lo hi)).length = m + 1 := by
            rw [hts, List.filter_cons_of_pos (by rw [hkb]; simp [hlo, hhi]), List.filter_nil, List.length_append, ← hm]
            rfl
          have hb5 : Below wr.heap.size wr (wr.alloc (.cells #[.int .i64 c0.toInt, .int .i64 c1.toInt, .int .i64 c2.toInt, .int .i64 c3.toInt, .int .i64 c4.toInt] 57)) := (Below.refl _ _).alloc (Nat.le_refl _) _
          have hO5 := own_chg hown (Chg.of_below' (S := fun _ => False) hb5) (fun _ _ h => h)
          have hrw := Row.new wr #[.int .i64 c0.toInt, .int .i64 c1.toInt, .int .i64 c2.toInt, .int .i64 c3.toInt, .int .i64 c4.toInt] 57 (0, 0)
          have HFL := Lib.hid hfl
          have HLEN := Lib.hid hlen
          have HO5 := Lib.hid hO5
          have HRW := Lib.hid hrw
          have HB5 := Lib.hid (hbr.trans (hb5.mono hbr.size))
          have hsz := hbr.size
          have hib : m < 1000000 := by omega
          clear hfl hlen hO5 hrw hb5 hown hbr hts hkb hm hli hv
          go_wp2_with (at_builtin; go_must (refine wpList_append rfl (.tmp 35) (.tmp 40) _ rfl el_tup w.heap.size (.slice oa m oc) m (flatT ((l.take i).filter (keepB col lo hi))) rfl HO5.out _ 1 1 [.int .i64 c0.toInt, .int .i64 c1.toInt, .int .i64 c2.toInt, .int .i64 c3.toInt, .int .i64 c4.toInt] rfl rfl HRW.out (by intro u hu; simp at hu; rcases hu with rfl | rfl | rfl | rfl | rfl <;> rfl) (by unfold maxLen; omega) (by omega) (by simp; omega) ?_))
          intro v7 w7 hown7 hg7 hv7 hb7
          rw [HFL.out] at hown7
          have hrel : OutLoop l.length (fun i => (l.take i).filter (keepB col lo hi)) w v7 (.int .i64 ((i + 1 : Nat) : Int)) w7 := ⟨i + 1, rfl, by omega, by simp only []; rw [HLEN.out]; exact hown7, HB5.out.grown hg7 HB5.out.size (fun k hk => (own_blk HO5.out hk).1)⟩
          have HREL := Lib.hid hrel
          clear hrel hown7 hg7 hv7 hb7 HO5 HRW HB5
          generalize (wr.alloc (.cells #[.int .i64 c0.toInt, .int .i64 c1.toInt, .int .i64 c2.toInt, .int .i64 c3.toInt, .int .i64 c4.toInt] 57)) = w5 at *
          go_wp2_with fail
          go_roundw
          case rel => exact HREL.out
          case measure => simp [intOf]; omega
        · have hfl : (l.take (i + 1)).filter (keepB col lo hi) = (l.take i).filter (keepB col lo hi) := by
            rw [hts]
            simp [hkb, hhi]
            try omega
          have hrel : OutLoop l.length (fun i => (l.take i).filter (keepB col lo hi)) w (.slice oa m oc) (.int .i64 ((i + 1 : Nat) : Int)) wr := ⟨i + 1, rfl, by omega, by simp only []; rw [hfl, ← hm]; exact hown, hbr⟩
          have HREL := Lib.hid hrel
          clear hrel hfl hown hbr hts hkb hm hli hv
          go_wp2_with fail
          go_roundw
          case rel => exact HREL.out
          case measure => simp [intOf]; omega
      · have hfl : (l.take (i + 1)).filter (keepB col lo hi) = (l.take i).filter (keepB col lo hi) := by
          rw [hts]
          simp [hkb, hlo]
          try omega
        have hrel : OutLoop l.length (fun i => (l.take i).filter (keepB col lo hi)) w (.slice oa m oc) (.int .i64 ((i + 1 : Nat) : Int)) wr := ⟨i + 1, rfl, by omega, by simp only []; rw [hfl, ← hm]; exact hown, hbr⟩
        have HREL := Lib.hid hrel
        clear hrel hfl hown hbr hts hkb hm hli hv
        go_wp2_with fail
        go_roundw
        case rel => exact HREL.out
        case measure => simp [intOf]; omega
    · obtain rfl : i = l.length := by omega
      have ht : l.take l.length = l := List.take_of_length_le (Nat.le_refl _)
      simp only [ht] at hown hm
      subst hm
      have HO := Lib.hid hown
      clear hown hbr
      go_wp2_with fail
      go_ret
      exact ⟨_, rfl, HO.out, HBR.out⟩

end Go.Proofs.Ytlbaigkpojkfjaa.Fl
