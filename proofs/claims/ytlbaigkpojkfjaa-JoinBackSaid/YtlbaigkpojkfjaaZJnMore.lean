/- The walk of the looker's more. -/
import Derived.Test.YtlbaigkpojkfjaaZJnLk
import Derived.Test.YtlbaigkpojkfjaaZReg4
set_option linter.unusedVariables false
namespace Go.Proofs.Ytlbaigkpojkfjaa.Fl
open Go.RowKit

abbrev LC (xb : Nat) (t0 t1 t2 t3 t4 : Int) (ok bg : Bool) (v8 v9 v10 v11 v12 : Value) : Array Value :=
  #[.func (.func 40) #[P xb] #[], .int .i64 t0, .int .i64 t1, .int .i64 t2, .int .i64 t3, .int .i64 t4, .bool ok, .bool bg, v8, v9, v10, v11, v12]

section
variable {w w' : World} {lb xb : Nat}

set_option maxRecDepth 100000 in
set_option maxHeartbeats 4000000 in
/-- more, where Next tells u, ok, er. -/
theorem more_any {t0 t1 t2 t3 t4 : Int} {ok0 bg : Bool} {v8 v9 v10 v11 v12 : Value} {R : World → Int → Int → Int → Int → Int → Bool → Int → Prop} (hL : Blk w lb 95 (LC xb t0 t1 t2 t3 t4 ok0 bg v8 v9 v10 v11 v12))
    (hN : ∀ w1, Below w.heap.size w w1 → Calls Try.prog 40 #[P xb] w1 (fun e w' => ∃ u0 u1 u2 u3 u4 ok er, e = .returned (.tuple #[.agg #[.int .i64 u0, .int .i64 u1, .int .i64 u2, .int .i64 u3, .int .i64 u4], .bool ok, .int .i64 er]) ∧ Blk w' lb 95 (LC xb t0 t1 t2 t3 t4 ok0 bg v8 v9 v10 v11 v12) ∧ R w' u0 u1 u2 u3 u4 ok er)) :
    Calls Try.prog 62 #[P lb] w (fun e w' => ∃ w2 u0 u1 u2 u3 u4 ok er, R w2 u0 u1 u2 u3 u4 ok er ∧ e = .returned (.int .i64 (if er = 0 ∧ ok = true ∧ (bg && ok0) = true ∧ u0 ≤ t0 then 3 else er)) ∧ Blk w' lb 95 (LC xb u0 u1 u2 u3 u4 ok true v8 v9 v10 v11 v12) ∧ Blk w2 lb 95 (LC xb t0 t1 t2 t3 t4 ok0 bg v8 v9 v10 v11 v12) ∧ Chg (fun q => q = lb) w2 w') := by
  have c0 : w.cell? ⟨lb, 0, none⟩ = some (.func (.func 40) #[P xb] #[]) := hL.cell 0
  have c1 : w.cell? ⟨lb, 1, none⟩ = some (.int .i64 t0) := hL.cell 1
  have c6 : w.cell? ⟨lb, 6, none⟩ = some (.bool ok0) := hL.cell 6
  have c7 : w.cell? ⟨lb, 7, none⟩ = some (.bool bg) := hL.cell 7
  have HL := Lib.hid hL
  have HN := Lib.hid hN
  clear hL hN
  go_enter Try.func62, Try.ntmps62
  go_wp2_with fail
  go_cut [3, 4] (fun v3 v4 wx => v3 = .int .i64 t0 ∧ v4 = .bool (bg && ok0) ∧ Below w.heap.size w wx)
  case first =>
    cases bg with
    | true =>
      go_quiet (fail)
      go_wp2_with fail
      go_meet
      exact ⟨rfl, rfl, ⟨rfl, rfl, rfl, Nat.le_refl _, fun _ _ => rfl⟩⟩
    | false =>
      go_quiet (fail)
      go_wp2_with fail
      go_meet
      exact ⟨rfl, rfl, ⟨rfl, rfl, rfl, Nat.le_refl _, fun _ _ => rfl⟩⟩
  case rest =>
    obtain ⟨rfl, rfl, hb1⟩ := hcut
    have HC := Lib.hid (HN.out _ hb1)
    have hL1 := HL.out.below hb1 HL.out.lt
    have d0 : wc.cell? ⟨lb, 0, none⟩ = some (.func (.func 40) #[P xb] #[]) := hL1.cell 0
    clear c0 c1 c6 c7 hb1 hL1 HN HL
    obtain ⟨hd, hhd⟩ : ∃ hd, hd = (bg && ok0) := ⟨_, rfl⟩
    have HHD := Lib.hid hhd
    rw [← hhd]
    clear hhd
    go_wp2_with fail
    refine HC.out.mono ?_
    rintro e w2 ⟨u0, u1, u2, u3, u4, ok, er, rfl, hB2, hR2⟩
    have HB2 := Lib.hid hB2
    have HR2 := Lib.hid hR2
    have HA := Lib.hid (hB2.alloc (.cells #[.int .i64 u0, .int .i64 u1, .int .i64 u2, .int .i64 u3, .int .i64 u4] 57))
    have HTB := Lib.hid (Blk.new w2 57 #[.int .i64 u0, .int .i64 u1, .int .i64 u2, .int .i64 u3, .int .i64 u4])
    have HCH := Lib.hid ((Chg.of_below' ((Below.refl w2.heap.size w2).alloc (Nat.le_refl _) (.cells #[.int .i64 u0, .int .i64 u1, .int .i64 u2, .int .i64 u3, .int .i64 u4] 57))) : Chg (fun q => q = lb) w2 _)
    clear hB2 hR2 d0 HC
    go_upto_region 3 with (fail)
    obtain ⟨B, hB⟩ : ∃ B, B = (er == 0 && ok && hd && decide (u0 ≤ t0)) := ⟨_, rfl⟩
    have HBB := Lib.hid hB
    clear hB
    go_cut [45] (fun v wx => v = .bool B ∧ wx = w2.alloc (.cells #[.int .i64 u0, .int .i64 u1, .int .i64 u2, .int .i64 u3, .int .i64 u4] 57))
    case first =>
      have y0 : (w2.alloc (.cells #[.int .i64 u0, .int .i64 u1, .int .i64 u2, .int .i64 u3, .int .i64 u4] 57)).cell? ⟨w2.heap.size, 0, none⟩ = some (.int .i64 u0) := HTB.out.cell 0
      by_cases he : er = 0
      · subst he
        cases ok with
        | true =>
          cases hd with
          | true =>
            by_cases hle : u0 ≤ t0
            · go_wp2_with fail
              go_meet
              exact ⟨by rw [HBB.out]; simp [hle], rfl⟩
            · go_wp2_with fail
              go_meet
              exact ⟨by rw [HBB.out]; simp [hle], rfl⟩
          | false =>
            go_wp2_with fail
            go_meet
            exact ⟨by rw [HBB.out]; simp, rfl⟩
        | false =>
          go_wp2_with fail
          go_meet
          exact ⟨by rw [HBB.out]; simp, rfl⟩
      · have he2 : (er == 0) = false := by simpa using he
        go_wp2_with fail
        go_meet
        exact ⟨by rw [HBB.out]; simp [he], rfl⟩
    case rest =>
      obtain ⟨rfl, rfl⟩ := hcut
      obtain ⟨er2, her2⟩ : ∃ er2, er2 = (if er = 0 ∧ ok = true ∧ hd = true ∧ u0 ≤ t0 then 3 else er) := ⟨_, rfl⟩
      have HER := Lib.hid her2
      clear her2
      go_upto_if 45 with (fail)
      go_cut [7] (fun v wx => v = .int .i64 er2 ∧ wx = w2.alloc (.cells #[.int .i64 u0, .int .i64 u1, .int .i64 u2, .int .i64 u3, .int .i64 u4] 57))
      case first =>
        cases B with
        | true =>
          go_wp2_with fail
          go_meet
          have hb := HBB.out.symm
          simp only [Bool.and_eq_true, beq_iff_eq, decide_eq_true_eq] at hb
          exact ⟨by rw [HER.out, if_pos ⟨hb.1.1.1, hb.1.1.2, hb.1.2, hb.2⟩], rfl⟩
        | false =>
          go_wp2_with fail
          go_meet
          exact ⟨by
            rw [HER.out, if_neg (fun h => ?_)]
            have hb := HBB.out
            rw [h.1, h.2.1, h.2.2.1] at hb
            simp [h.2.2.2] at hb, rfl⟩
      case rest =>
        obtain ⟨rfl, rfl⟩ := hcut
        generalize (w2.alloc (.cells #[.int .i64 u0, .int .i64 u1, .int .i64 u2, .int .i64 u3, .int .i64 u4] 57)) = wA at *
        have y0 : wA.cell? ⟨w2.heap.size, 0, none⟩ = some (.int .i64 u0) := HTB.out.cell 0
        have y1 : wA.cell? ⟨w2.heap.size, 1, none⟩ = some (.int .i64 u1) := HTB.out.cell 1
        have y2 : wA.cell? ⟨w2.heap.size, 2, none⟩ = some (.int .i64 u2) := HTB.out.cell 2
        have y3 : wA.cell? ⟨w2.heap.size, 3, none⟩ = some (.int .i64 u3) := HTB.out.cell 3
        have y4 : wA.cell? ⟨w2.heap.size, 4, none⟩ = some (.int .i64 u4) := HTB.out.cell 4
        have n1 : wA.cell? ⟨lb, 1, none⟩ = some (.int .i64 t0) := HA.out.cell 1
        have m1 := HA.out.frozen 1
        have n2 : wA.cell? ⟨lb, 2, none⟩ = some (.int .i64 t1) := HA.out.cell 2
        have m2 := HA.out.frozen 2
        have n3 : wA.cell? ⟨lb, 3, none⟩ = some (.int .i64 t2) := HA.out.cell 3
        have m3 := HA.out.frozen 3
        have n4 : wA.cell? ⟨lb, 4, none⟩ = some (.int .i64 t3) := HA.out.cell 4
        have m4 := HA.out.frozen 4
        have n5 : wA.cell? ⟨lb, 5, none⟩ = some (.int .i64 t4) := HA.out.cell 5
        have m5 := HA.out.frozen 5
        have n6 : wA.cell? ⟨lb, 6, none⟩ = some (.bool ok0) := HA.out.cell 6
        have m6 := HA.out.frozen 6
        have n7 : wA.cell? ⟨lb, 7, none⟩ = some (.bool bg) := HA.out.cell 7
        have m7 := HA.out.frozen 7
        have HZ := Lib.hid (((((((HA.out.set_ 1 (.int .i64 u0)).set_ 2 (.int .i64 u1)).set_ 3 (.int .i64 u2)).set_ 4 (.int .i64 u3)).set_ 5 (.int .i64 u4)).set_ 6 (.bool ok)).set_ 7 (.bool true))
        have HC9 := Lib.hid (((((((HCH.out.setCell ⟨lb, 1, none⟩ (.int .i64 u0) (fun _ => rfl)).setCell ⟨lb, 2, none⟩ (.int .i64 u1) (fun _ => rfl)).setCell ⟨lb, 3, none⟩ (.int .i64 u2) (fun _ => rfl)).setCell ⟨lb, 4, none⟩ (.int .i64 u3) (fun _ => rfl)).setCell ⟨lb, 5, none⟩ (.int .i64 u4) (fun _ => rfl)).setCell ⟨lb, 6, none⟩ (.bool ok) (fun _ => rfl)).setCell ⟨lb, 7, none⟩ (.bool true) (fun _ => rfl))
        clear HA HCH HTB
        go_wp2_with fail
        generalize (((((((wA.setCell ⟨lb, 1, none⟩ (.int .i64 u0)).setCell ⟨lb, 2, none⟩ (.int .i64 u1)).setCell ⟨lb, 3, none⟩ (.int .i64 u2)).setCell ⟨lb, 4, none⟩ (.int .i64 u3)).setCell ⟨lb, 5, none⟩ (.int .i64 u4)).setCell ⟨lb, 6, none⟩ (.bool ok)).setCell ⟨lb, 7, none⟩ (.bool true)) = w9 at *
        go_ret
        exact ⟨w2, u0, u1, u2, u3, u4, ok, er, HR2.out, by rw [HER.out, HHD.out]; rfl, HZ.out, HB2.out, HC9.out⟩
end

end Go.Proofs.Ytlbaigkpojkfjaa.Fl
