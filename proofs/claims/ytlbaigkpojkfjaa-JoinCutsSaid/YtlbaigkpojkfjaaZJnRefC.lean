/- The walk of abutmentref13.Cut. -/
import Derived.Test.YtlbaigkpojkfjaaZJnRCut
import Derived.Test.YtlbaigkpojkfjaaZJnRef
set_option linter.unusedVariables false
namespace Go.Proofs.Ytlbaigkpojkfjaa.Fl
open Go.RowKit

set_option maxRecDepth 100000 in
set_option maxHeartbeats 4000000 in
theorem refcut_any {K : Key} (l : List Tup) (o0 o1 o2 o3 o4 : Int) (a : Option Addr) (c : Nat) (w : World) (hfo : formedO [o0, o1, o2, o3, o4] = true) (hl : Tps K w a l) (ht5 : ∀ t ∈ l, t.length = 5) (hn : l.length ≤ 1000000) :
    Calls Try.prog 22 #[.slice a l.length c, .agg #[.int .i64 o0, .int .i64 o1, .int .i64 o2, .int .i64 o3, .int .i64 o4]] w (fun e w' => ∃ v, e = .returned v ∧ w'.ownsRow w.heap.size 57 5 v l.length (flatT (l.map (cutT [o0, o1, o2, o3, o4]))) ∧ Below w.heap.size w w') := by
  have hbl : Below w.heap.size w (w.alloc (.cells #[.int .i64 o0, .int .i64 o1, .int .i64 o2, .int .i64 o3, .int .i64 o4] 49)) := (Below.refl _ _).alloc (Nat.le_refl _) _
  have hO := Blk.new w 49 #[.int .i64 o0, .int .i64 o1, .int .i64 o2, .int .i64 o3, .int .i64 o4]
  have HT := Lib.hid ht5
  have HL := Lib.hid hl
  have HB := Lib.hid hbl
  have HO := Lib.hid hO
  have HFO := Lib.hid hfo
  clear ht5 hl hbl hO hfo
  go_enter Try.func22, Try.ntmps22
  go_wp2_with fail
  generalize (w.alloc (.cells #[.int .i64 o0, .int .i64 o1, .int .i64 o2, .int .i64 o3, .int .i64 o4] 49)) = w1 at *
  go_loopw [5, 6] (fun ov iv wr => OutLoop l.length (fun i => (l.take i).map (cutT [o0, o1, o2, o3, o4])) w ov iv wr ∧ Blk wr w.heap.size 49 #[.int .i64 o0, .int .i64 o1, .int .i64 o2, .int .i64 o3, .int .i64 o4]) (fun _ iv _ => l.length - (intOf iv).toNat)
  case atStart => exact ⟨⟨0, rfl, Nat.zero_le _, World.ownsRow_nil _ _ _ _, HB.out⟩, HO.out⟩
  case round =>
    obtain ⟨⟨i, rfl, hi, hown, hbr⟩, hOr⟩ := hrel
    obtain ⟨oa, oc, rfl⟩ := own_slice_t hown
    have hml : ((l.take i).map (cutT [o0, o1, o2, o3, o4])).length = i := by rw [List.length_map, List.length_take]; omega
    simp only [hml] at hown ⊢
    have HBR := Lib.hid hbr
    by_cases hlt : i < l.length
    · have hki : (i : Int) < (l.length : Int) := by omega
      obtain ⟨g, off, rfl, c0, c1, c2, c3, c4, hli, y0, y1, y2, y3, y4⟩ := (HL.out.below HBR.out).cells HT.out hlt
      have hgw : g < w.heap.size := by
        rcases HL.out with h | ⟨g', off', e, hg', _⟩
        · rw [h] at hlt; exact absurd hlt (by simp)
        · simp only [Option.some.injEq, Addr.mk.injEq] at e
          rw [e.1]; exact hg'
      have hi0 : (0 : Int) ≤ (i : Int) := by omega
      obtain ⟨d0, d1, d2, d3, d4, hd⟩ : ∃ d0 d1 d2 d3 d4 : Int, cutO [c0.toInt, c1.toInt, c2.toInt, c3.toInt, c4.toInt] [o0, o1, o2, o3, o4] = [d0, d1, d2, d3, d4] := by
        have hl := cutO_len [c0.toInt, c1.toInt, c2.toInt, c3.toInt, c4.toInt] [o0, o1, o2, o3, o4]
        match cutO [c0.toInt, c1.toInt, c2.toInt, c3.toInt, c4.toInt] [o0, o1, o2, o3, o4], hl with
        | [a, b, c, d, e], _ => exact ⟨_, _, _, _, _, rfl⟩
      have HC := fun W' => refcut1_any c0.toInt c1.toInt c2.toInt c3.toInt c4.toInt o0 o1 o2 o3 o4 W' HFO.out
      rw [hd, show tcells [d0, d1, d2, d3, d4] = #[.int .i64 d0, .int .i64 d1, .int .i64 d2, .int .i64 d3, .int .i64 d4] from rfl] at HC
      replace HC := Lib.hid HC
      have hic : icells (cutT [o0, o1, o2, o3, o4] l[i]) = [.int .i64 d0, .int .i64 d1, .int .i64 d2, .int .i64 d3, .int .i64 d4] := by
        have h1 := cutT_icells [o0, o1, o2, o3, o4] l[i]
        rw [hli, show ([c0, c1, c2, c3, c4] : Tup).map BitVec.toInt = [c0.toInt, c1.toInt, c2.toInt, c3.toInt, c4.toInt] from rfl, hd] at h1
        rw [hli]
        exact congrArg Array.toList h1
      have hfl : flatT ((l.take i).map (cutT [o0, o1, o2, o3, o4])) ++ [.int .i64 d0, .int .i64 d1, .int .i64 d2, .int .i64 d3, .int .i64 d4] = flatT ((l.take (i + 1)).map (cutT [o0, o1, o2, o3, o4])) := by
        rw [List.take_succ_eq_append_getElem hlt, List.map_append, List.map_singleton, flatT_snoc, hic]
      have HFL := Lib.hid hfl
      have hib : i < 1000000 := by omega
      have hsz := hbr.size
      clear hfl hic hd hli
      go_wp2_with fail
      have hFof : ∀ {w'}, Below wr.heap.size wr w' → (Blk w' w.heap.size 49 #[.int .i64 o0, .int .i64 o1, .int .i64 o2, .int .i64 o3, .int .i64 o4] ∧ w'.cell? ⟨g, off + i * 5, none⟩ = some (.int .i64 c0.toInt) ∧ w'.cell? ⟨g, off + i * 5 + 1, none⟩ = some (.int .i64 c1.toInt) ∧ w'.cell? ⟨g, off + i * 5 + 2, none⟩ = some (.int .i64 c2.toInt) ∧ w'.cell? ⟨g, off + i * 5 + 3, none⟩ = some (.int .i64 c3.toInt) ∧ w'.cell? ⟨g, off + i * 5 + 4, none⟩ = some (.int .i64 c4.toInt)) := fun hb => ⟨hOr.below hb hOr.lt, (hb.cell (cell_lt y0).1).trans y0, (hb.cell (cell_lt y1).1).trans y1, (hb.cell (cell_lt y2).1).trans y2, (hb.cell (cell_lt y3).1).trans y3, (hb.cell (cell_lt y4).1).trans y4⟩
      have hlt1 : (i : Int) < (l.length : Int) := hki
      refine yg_begin (fun w' => Blk w' w.heap.size 49 #[.int .i64 o0, .int .i64 o1, .int .i64 o2, .int .i64 o3, .int .i64 o4] ∧ w'.cell? ⟨g, off + i * 5, none⟩ = some (.int .i64 c0.toInt) ∧ w'.cell? ⟨g, off + i * 5 + 1, none⟩ = some (.int .i64 c1.toInt) ∧ w'.cell? ⟨g, off + i * 5 + 2, none⟩ = some (.int .i64 c2.toInt) ∧ w'.cell? ⟨g, off + i * 5 + 3, none⟩ = some (.int .i64 c3.toInt) ∧ w'.cell? ⟨g, off + i * 5 + 4, none⟩ = some (.int .i64 c4.toInt)) [0, 1, 2, 3, 4, 5] [6, 7, 8, 9] (by kernel_rfl) (by kernel_rfl) (fun _ _ d _ _ h => by cases d <;> exact h) (hFof ((Below.refl _ _).drew)) ?_
      refine yg_read _ (.slice oa i oc) rfl rfl (fun w' hF => by simp [execOp, Act.eval, go_sem]) ?_
      refine yg_read _ (.slice (some ⟨g, off, none⟩) l.length c) rfl rfl (fun w' hF => by simp [execOp, Act.eval, go_sem]) ?_
      refine yg_read _ (.int .i64 (i : Int)) rfl rfl (fun w' hF => by simp [execOp, Act.eval, go_sem]) ?_
      refine yg_read _ (.pointer (some ⟨g, off + i * 5, none⟩)) rfl rfl (fun w' hF => by simp [execOp, Act.eval, go_sem, hi0, hlt1]) ?_
      refine yg_read _ (.agg #[.int .i64 c0.toInt, .int .i64 c1.toInt, .int .i64 c2.toInt, .int .i64 c3.toInt, .int .i64 c4.toInt]) rfl rfl (fun w' hF => by obtain ⟨_, u0, u1, u2, u3, u4⟩ := hF; simp [execOp, Act.eval, go_sem, u0, u1, u2, u3, u4]) ?_
      refine yg_read _ (.agg #[.int .i64 o0, .int .i64 o1, .int .i64 o2, .int .i64 o3, .int .i64 o4]) rfl rfl (fun w' hF => by
        have u0 : w'.cell? ⟨w.heap.size, 0, none⟩ = some (.int .i64 o0) := hF.1.cell 0
        have u1 : w'.cell? ⟨w.heap.size, 1, none⟩ = some (.int .i64 o1) := hF.1.cell 1
        have u2 : w'.cell? ⟨w.heap.size, 2, none⟩ = some (.int .i64 o2) := hF.1.cell 2
        have u3 : w'.cell? ⟨w.heap.size, 3, none⟩ = some (.int .i64 o3) := hF.1.cell 3
        have u4 : w'.cell? ⟨w.heap.size, 4, none⟩ = some (.int .i64 o4) := hF.1.cell 4
        simp [execOp, Act.eval, go_sem, u0, u1, u2, u3, u4]) ?_
      refine yg_end ?_
      refine sf_step _ rfl (fun K8 hK8 => ?_)
      go_simp
      refine (HC.out wr.drew).mono ?_
      rintro e w8 ⟨rfl, hb8'⟩
      have hb8 : Below wr.heap.size wr w8 := ((Below.refl _ _).drew).trans hb8'
      refine hK8.out _ _ (fun _ => hFof hb8) ?_
      clear hK8 K8 HC
      refine sf_step _ rfl (fun K9 hK9 => ?_)
      go_simp
      have hb9 : Below wr.heap.size wr (w8.alloc (.cells #[.int .i64 d0, .int .i64 d1, .int .i64 d2, .int .i64 d3, .int .i64 d4] 57)) := hb8.alloc hb8.size _
      refine hK9.out _ _ (fun _ => hFof hb9) ?_
      clear hK9 K9
      have hO9 := own_chg hown (Chg.of_below' (S := fun _ => False) hb9) (fun _ _ h => h)
      have hrw := Row.new w8 #[.int .i64 d0, .int .i64 d1, .int .i64 d2, .int .i64 d3, .int .i64 d4] 57 (0, 0)
      have hsz8 := hb8.size
      refine sf_step _ rfl (fun K10 hK10 => ?_)
      refine step_append rfl (.tmp 13) (.tmp 20) _ rfl el_tup w.heap.size (.slice oa i oc) i (flatT ((l.take i).map (cutT [o0, o1, o2, o3, o4]))) (by simp [Act.eval]) hO9 _ 1 1 [.int .i64 d0, .int .i64 d1, .int .i64 d2, .int .i64 d3, .int .i64 d4] (by simp [Act.eval]) rfl hrw (by intro u hu; simp at hu; rcases hu with rfl | rfl | rfl | rfl | rfl <;> rfl) (by unfold maxLen; omega) (by omega) (by have := hb9.size; omega) ?_
      intro v7 w7 hown7 hg7 hv7 hb7
      rw [HFL.out] at hown7
      have hc7 := Chg.of_grown hg7
      have hgn : ∀ q, q < w.heap.size → ¬ some q = (Value.slice oa i oc).ownBlock := fun q hq e => by
        have := (own_blk hO9 e.symm).1
        omega
      obtain ⟨m0, m1, m2, m3, m4, m5⟩ := hFof hb9
      have hord7 := m0.chg hc7 (fun e => by
        obtain ⟨_, cs'', hbb⟩ := own_blk hO9 e.symm
        exact m0.ne_ hbb (by decide) rfl)
      refine hK10.out _ _ (fun _ => ⟨hord7, hc7.cell m1 (hgn _ hgw), hc7.cell m2 (hgn _ hgw), hc7.cell m3 (hgn _ hgw), hc7.cell m4 (hgn _ hgw), hc7.cell m5 (hgn _ hgw)⟩) ?_
      clear hK10 K10
      have hrel7 : OutLoop l.length (fun i => (l.take i).map (cutT [o0, o1, o2, o3, o4])) w v7 (.int .i64 ((i + 1 : Nat) : Int)) w7 := ⟨i + 1, rfl, by omega, by simp only [List.length_map, List.length_take, Nat.min_eq_left (show i + 1 ≤ l.length by omega)]; exact hown7, (hbr.trans (hb9.mono hbr.size)).grown hg7 (by have := hb9.size; omega) (fun k hk => (own_blk hO9 hk).1)⟩
      have HREL := Lib.hid (And.intro hrel7 hord7)
      clear hrel7 hown7 hg7 hv7 hb7 hc7 hgn m0 m1 m2 m3 m4 m5 hord7 hO9 hrw hb9 hb8 hb8' hFof hown hbr hOr
      refine sf_step _ rfl (fun K11 hK11 => ?_)
      go_simp
      refine hK11.out _ _ (fun h => absurd rfl h) ?_
      clear hK11 K11
      refine sf_end ?_
      go_wp2_with fail
      go_roundw
      case rel => exact HREL.out
      case measure => simp [intOf]; omega
    · obtain rfl : i = l.length := by omega
      have ht : l.take l.length = l := List.take_of_length_le (Nat.le_refl _)
      simp only [ht] at hown
      have HOW := Lib.hid hown
      clear hown hbr hOr
      go_wp2_with fail
      go_ret
      exact ⟨_, rfl, HOW.out, HBR.out⟩

end Go.Proofs.Ytlbaigkpojkfjaa.Fl
