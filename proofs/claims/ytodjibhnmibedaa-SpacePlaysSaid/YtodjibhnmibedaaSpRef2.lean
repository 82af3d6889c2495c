/- The reference's acts. -/
import Derived.Test.YtodjibhnmibedaaSpRef
set_option linter.unusedVariables false
namespace Go.Proofs.Ytodjibhnmibedaa.Sp
open Go.RowKit

theorem allB_nat {T : List Bool} {k n : Int} {b : Bool} (h : allB T k n b = true) : ∃ kn m : Nat, k = kn ∧ n = m ∧ 1 ≤ m ∧ kn + m ≤ T.length ∧ ∀ i, kn ≤ i → i < kn + m → T.getD i false = b := by
  unfold allB at h
  rw [decide_eq_true_eq] at h
  obtain ⟨h1, h2, h3, h4, h5⟩ := h
  obtain ⟨kn, rfl⟩ := Int.eq_ofNat_of_zero_le h2
  obtain ⟨m, rfl⟩ := Int.eq_ofNat_of_zero_le (show 0 ≤ n by omega)
  exact ⟨kn, m, rfl, rfl, by omega, by omega, fun i h6 h7 => h5 i (by omega) (by omega) (by omega)⟩

/-- What Hold (b = false) and Give (b = true) do. -/
def RActRel (T : List Bool) (F : Nat) (first n : Int) (b : Bool) (er : Int) (T' : List Bool) : Prop :=
  (er = 1 ∧ T' = T ∧ allB T (placeI F first) n b = false) ∨ (er = 0 ∧ ∃ k m : Nat, placeI F first = k ∧ n = m ∧ 1 ≤ m ∧ k + m ≤ T.length ∧ (∀ i, k ≤ i → i < k + m → T.getD i false = b) ∧ T' = setT T k m (!b))
def RTakeRel (T : List Bool) (F : Nat) (n r er : Int) (T' : List Bool) : Prop :=
  (n < 1 ∧ r = 0 ∧ er = 1 ∧ T' = T) ∨ (1 ≤ n ∧ (∀ k : Nat, k < T.length → allB T k n false = false) ∧ r = 0 ∧ er = 5 ∧ T' = T) ∨
    (er = 0 ∧ ∃ k m : Nat, n = m ∧ 1 ≤ m ∧ k + m ≤ T.length ∧ (∀ j : Nat, j < k → allB T j n false = false) ∧ (∀ i, k ≤ i → i < k + m → T.getD i false = false) ∧ r = ((F + k : Nat) : Int) ∧ T' = setT T k m true)
def RActTold (w : World) (q tb F : Nat) (R : Int → List Bool → Prop) (e : Ending) (w' : World) : Prop := ∃ er T', e = .returned (.int .i64 er) ∧ RfAt w' q tb F T' ∧ Chg (fun k => k = tb) w w' ∧ R er T'
def RTakeTold (w : World) (q tb F : Nat) (R : Int → Int → List Bool → Prop) (e : Ending) (w' : World) : Prop := ∃ r er T', e = .returned (.tuple #[.int .i64 r, .int .i64 er]) ∧ RfAt w' q tb F T' ∧ Chg (fun k => k = tb) w w' ∧ R r er T'

set_option maxRecDepth 100000 in
set_option maxHeartbeats 1000000 in
theorem rgive_any (q tb F : Nat) (T : List Bool) (first n : Int) (w : World) (h : RfAt w q tb F T) :
    Calls Try.prog 35 #[.pointer (some ⟨q, 0, none⟩), .int .i64 first, .int .i64 n] w (RActTold w q tb F (RActRel T F first n true)) := by
  have HP := Lib.hid (rplace_any q tb F T first w h)
  have HA := Lib.hid (rall_any q tb F T (placeI F first) n true w h)
  have HX := Lib.hid h
  clear h
  cases hA : allB T (placeI F first) n true
  · rw [hA] at HA
    have HN := Lib.hid hA
    clear hA
    go_enter Try.func35, Try.ntmps35
    go_wp2_with fail
    refine HP.out.mono ?_
    rintro e w1 ⟨rfl, rfl⟩
    go_wp2_with fail
    refine HA.out.mono ?_
    rintro e w1 ⟨rfl, rfl⟩
    go_wp2_with fail
    go_ret
    exact ⟨1, T, rfl, HX.out, Chg.refl _ _, .inl ⟨rfl, rfl, HN.out⟩⟩
  · rw [hA] at HA
    obtain ⟨kn, m, h1, rfl, h3, h4, h5⟩ := allB_nat hA
    have H1 := Lib.hid h1
    have H5 := Lib.hid h5
    have HS := Lib.hid (rset_any q tb F T kn m false w HX.out h4)
    rw [h1] at HP HA
    clear h1 h5 hA
    go_enter Try.func35, Try.ntmps35
    go_wp2_with fail
    refine HP.out.mono ?_
    rintro e w1 ⟨rfl, rfl⟩
    go_wp2_with fail
    refine HA.out.mono ?_
    rintro e w1 ⟨rfl, rfl⟩
    go_wp2_with fail
    refine HS.out.mono ?_
    rintro e w2 ⟨rfl, hr, hc⟩
    have HR := Lib.hid hr
    have HC := Lib.hid hc
    clear hr hc HS HA HP HX
    go_wp2_with fail
    go_ret
    exact ⟨0, _, rfl, HR.out, HC.out, .inr ⟨rfl, kn, m, H1.out, rfl, h3, h4, H5.out, rfl⟩⟩

set_option maxRecDepth 100000 in
set_option maxHeartbeats 1000000 in
theorem rhold_any (q tb F : Nat) (T : List Bool) (first n : Int) (w : World) (h : RfAt w q tb F T) :
    Calls Try.prog 36 #[.pointer (some ⟨q, 0, none⟩), .int .i64 first, .int .i64 n] w (RActTold w q tb F (RActRel T F first n false)) := by
  have HP := Lib.hid (rplace_any q tb F T first w h)
  have HA := Lib.hid (rall_any q tb F T (placeI F first) n false w h)
  have HX := Lib.hid h
  clear h
  cases hA : allB T (placeI F first) n false
  · rw [hA] at HA
    have HN := Lib.hid hA
    clear hA
    go_enter Try.func36, Try.ntmps36
    go_wp2_with fail
    refine HP.out.mono ?_
    rintro e w1 ⟨rfl, rfl⟩
    go_wp2_with fail
    refine HA.out.mono ?_
    rintro e w1 ⟨rfl, rfl⟩
    go_wp2_with fail
    go_ret
    exact ⟨1, T, rfl, HX.out, Chg.refl _ _, .inl ⟨rfl, rfl, HN.out⟩⟩
  · rw [hA] at HA
    obtain ⟨kn, m, h1, rfl, h3, h4, h5⟩ := allB_nat hA
    have H1 := Lib.hid h1
    have H5 := Lib.hid h5
    have HS := Lib.hid (rset_any q tb F T kn m true w HX.out h4)
    rw [h1] at HP HA
    clear h1 h5 hA
    go_enter Try.func36, Try.ntmps36
    go_wp2_with fail
    refine HP.out.mono ?_
    rintro e w1 ⟨rfl, rfl⟩
    go_wp2_with fail
    refine HA.out.mono ?_
    rintro e w1 ⟨rfl, rfl⟩
    go_wp2_with fail
    refine HS.out.mono ?_
    rintro e w2 ⟨rfl, hr, hc⟩
    have HR := Lib.hid hr
    have HC := Lib.hid hc
    clear hr hc HS HA HP HX
    go_wp2_with fail
    go_ret
    exact ⟨0, _, rfl, HR.out, HC.out, .inr ⟨rfl, kn, m, H1.out, rfl, h3, h4, H5.out, rfl⟩⟩

def RTLoop (T : List Bool) (n : Int) (w : World) (iv : Value) (wr : World) : Prop := ∃ k : Nat, iv = .int .i64 (k : Int) ∧ k ≤ T.length ∧ (∀ j : Nat, j < k → allB T j n false = false) ∧ w = wr

set_option maxRecDepth 100000 in
set_option maxHeartbeats 1000000 in
theorem rtake_any (q tb F : Nat) (T : List Bool) (n : Int) (w : World) (h : RfAt w q tb F T) :
    Calls Try.prog 33 #[.pointer (some ⟨q, 0, none⟩), .int .i64 n] w (RTakeTold w q tb F (RTakeRel T F n)) := by
  have HX := Lib.hid h
  have c1 : w.cell? ⟨q, 1, none⟩ = some (.slice (some ⟨tb, 0, none⟩) T.length T.length) := h.blk.cell 1
  have hF := h.F_le
  have hT := h.T_le
  clear h
  by_cases h1 : n < 1
  · have HN := Lib.hid h1
    go_enter Try.func33, Try.ntmps33
    go_wp2_with fail
    go_ret2
    exact ⟨0, 1, T, rfl, HX.out, Chg.refl _ _, .inl ⟨HN.out, rfl, rfl, rfl⟩⟩
  · go_enter Try.func33, Try.ntmps33
    go_wp2_with fail
    go_loopw [6] (fun iv wr => RTLoop T n w iv wr) (fun iv _ => T.length - (intOf iv).toNat)
    case atStart => exact ⟨0, rfl, by omega, (fun j hj => by omega), rfl⟩
    case round =>
      obtain ⟨k, rfl, hk, hno, rfl⟩ := hrel
      have HNO := Lib.hid hno
      clear hno
      by_cases hlt : (k : Int) < (T.length : Int)
      · have HA := Lib.hid (rall_any q tb F T k n false w HX.out)
        cases hA : allB T k n false
        · rw [hA] at HA
          have HN := Lib.hid hA
          clear hA
          go_wp2_with fail
          refine HA.out.mono ?_
          rintro e w1 ⟨rfl, rfl⟩
          go_wp2_with fail
          go_roundw
          case rel => exact ⟨k + 1, by go_num, by omega, (fun j hj => by
            rcases Nat.lt_succ_iff_lt_or_eq.1 hj with h | h
            · exact HNO.out j h
            · subst h; exact HN.out), rfl⟩
          case measure => simp [intOf]; omega
        · rw [hA] at HA
          obtain ⟨kn, m, h2, rfl, h3, h4, h5⟩ := allB_nat hA
          obtain rfl : k = kn := by omega
          have H5 := Lib.hid h5
          have HS := Lib.hid (rset_any q tb F T k m true w HX.out h4)
          clear h2 h5 hA
          go_wp2_with fail
          refine HA.out.mono ?_
          rintro e w1 ⟨rfl, rfl⟩
          go_wp2_with fail
          refine HS.out.mono ?_
          rintro e w2 ⟨rfl, hr, hc⟩
          have HR := Lib.hid hr
          have HC := Lib.hid hc
          have d0 : w2.cell? ⟨q, 0, none⟩ = some (.int .i64 (F : Int)) := hr.blk.cell 0
          clear hr hc HS HA HX c1
          go_wp2_with fail
          go_ret2
          exact ⟨_, 0, _, rfl, HR.out, HC.out, .inr (.inr ⟨rfl, k, m, rfl, h3, h4, HNO.out, H5.out, by omega, rfl⟩)⟩
      · obtain rfl : k = T.length := by omega
        go_wp2_with fail
        go_ret2
        exact ⟨0, 5, T, rfl, HX.out, Chg.refl _ _, .inr (.inl ⟨by omega, HNO.out, rfl, rfl, rfl⟩)⟩

def RFLoop (T : List Bool) (w : World) (nv iv : Value) (wr : World) : Prop := ∃ k : Nat, iv = .int .i64 (k : Int) ∧ k ≤ T.length ∧ nv = .int .i64 ((((T.take k).filter (!·)).length : Nat) : Int) ∧ w = wr
set_option maxRecDepth 100000 in
set_option maxHeartbeats 1000000 in
theorem rfree_any (q tb F : Nat) (T : List Bool) (w : World) (h : RfAt w q tb F T) :
    Calls Try.prog 37 #[.pointer (some ⟨q, 0, none⟩)] w fun e w' => e = .returned (.int .i64 (((T.filter (!·)).length : Nat) : Int)) ∧ w = w' := by
  have HX := Lib.hid h
  have c1 : w.cell? ⟨q, 1, none⟩ = some (.slice (some ⟨tb, 0, none⟩) T.length T.length) := h.blk.cell 1
  have hT := h.T_le
  clear h
  go_enter Try.func37, Try.ntmps37
  go_wp2_with fail
  go_loopw [3, 4] (fun nv iv wr => RFLoop T w nv iv wr) (fun _ iv _ => T.length - (intOf iv).toNat)
  case atStart => exact ⟨0, rfl, by omega, by simp, rfl⟩
  case round =>
    obtain ⟨k, rfl, hk, rfl, rfl⟩ := hrel
    by_cases hlt : (k : Int) < (T.length : Int)
    · have hkl : k < T.length := by omega
      have hk0 : (0 : Int) ≤ (k : Int) := by omega
      have c2 : w.cell? ⟨tb, k, none⟩ = some (.bool (T.getD k false)) := by rw [HX.out.row.cell, bools_get _ hkl]
      have hts : ((T.take (k + 1)).filter (!·)).length = ((T.take k).filter (!·)).length + if T.getD k false then 0 else 1 := by
        rw [List.take_succ_eq_append_getElem hkl, List.filter_append, List.length_append, List.getD_eq_getElem?_getD, List.getElem?_eq_getElem hkl]
        cases T[k] <;> simp
      have hle : ((T.take k).filter (!·)).length ≤ T.length := Nat.le_trans (List.length_filter_le _ _) (by rw [List.length_take]; omega)
      have HTS := Lib.hid hts
      clear hts
      generalize hfl : ((T.take k).filter (!·)).length = f at *
      clear hfl
      cases hb : T.getD k false
      all_goals
        rw [hb] at c2 HTS
        clear hb
        go_wp2_with fail
        go_roundw
        case rel => exact ⟨k + 1, by go_num, by omega, by rw [HTS.out]; go_num, rfl⟩
        case measure => simp [intOf]; omega
    · obtain rfl : k = T.length := by omega
      rw [List.take_length]
      go_wp2_with fail
      go_ret
      exact ⟨rfl, rfl⟩

set_option maxRecDepth 100000 in
set_option maxHeartbeats 1000000 in
theorem rnew_ok (F B : Nat) (w : World) (hF : F ≤ 1000000) (hB : B ≤ 1000000) :
    Calls Try.prog 32 #[.int .i64 (F : Int), .int .i64 (B : Int)] w fun e w' => e = .returned (.pointer (some ⟨w.heap.size + 1, 0, none⟩)) ∧ RfAt w' (w.heap.size + 1) w.heap.size F (List.replicate B false) ∧ Below w.heap.size w w' := by
  have hmk := fun W => run_make_of (P := Try.prog) (t := 42) (e := 4) (bytes := 1) (z := .bool false) Try.underlying42 (by kernel_rfl) rfl .i64 .i64 B (by omega) (by omega) W
  have b1 := Blk.new w 4 (same B (.bool false))
  have b2 := Blk.new (w.alloc (.cells (same B (.bool false)) 4)) 93 #[.int .i64 (F : Int), .slice (some ⟨w.heap.size, 0, none⟩) B B]
  have hsz : (w.alloc (.cells (same B (.bool false)) 4)).heap.size = w.heap.size + 1 := by simp
  have hs : same B (.bool false) = bools (List.replicate B false) := by simp [same, bools]
  have HQ : Hid (RfAt ((w.alloc (.cells (same B (.bool false)) 4)).alloc (.cells #[.int .i64 (F : Int), .slice (some ⟨w.heap.size, 0, none⟩) B B] 93)) (w.heap.size + 1) w.heap.size F (List.replicate B false)) :=
    Lib.hid ⟨by rw [hsz] at b2; rw [List.length_replicate]; exact b2, by rw [← hs]; exact b1.alloc _, hF, by rw [List.length_replicate]; exact hB⟩
  have HB := Lib.hid (((Below.refl w.heap.size w).alloc (Nat.le_refl _) (.cells (same B (.bool false)) 4)).alloc (by rw [hsz]; omega) (.cells #[.int .i64 (F : Int), .slice (some ⟨w.heap.size, 0, none⟩) B B] 93))
  clear b1 b2 hs
  go_enter Try.func32, Try.ntmps32
  go_wp2_with fail
  go_ret
  exact ⟨rfl, HQ.out, HB.out⟩
set_option maxRecDepth 100000 in
set_option maxHeartbeats 1000000 in
theorem rnew_no (first : Int) (B : Nat) (w : World) (hF : first < 0 ∨ 1000000 < first) (hB : B ≤ 1000000) :
    Calls Try.prog 32 #[.int .i64 first, .int .i64 (B : Int)] w fun e w' => e = .returned (.pointer none) ∧ w = w' := by
  rcases hF with h | h
  · go_enter Try.func32, Try.ntmps32
    go_wp2_with fail
    go_ret
    exact ⟨rfl, rfl⟩
  · have h2 : ¬ first < 0 := by omega
    go_enter Try.func32, Try.ntmps32
    go_wp2_with fail
    go_ret
    exact ⟨rfl, rfl⟩

end Go.Proofs.Ytodjibhnmibedaa.Sp
