/- The walks of abutmentref11.column and Formed. -/
import Derived.Test.YtlbaigkpojkfjaaZJnCutC
set_option linter.unusedVariables false
namespace Go.Proofs.Ytlbaigkpojkfjaa.Fl
open Go.RowKit

def colI (k : Int) : Int := if k < 0 then -k - 1 else k - 1
theorem refcol_any (k : Int) (w : World) (h1 : -5 ≤ k) (h2 : k ≤ 5) : Calls Try.prog 43 #[.int .i64 k] w (fun e w' => e = .returned (.int .i64 (colI k)) ∧ w = w') := by
  have q1 : IntKind.i64.wrap (-k) = -k := by rw [IntKind.wrap_i64]; omega
  have q2 : IntKind.i64.wrap (-k - 1) = -k - 1 := by rw [IntKind.wrap_i64]; omega
  have q3 : IntKind.i64.wrap (k - 1) = k - 1 := by rw [IntKind.wrap_i64]; omega
  unfold colI
  clear h1 h2
  by_cases h : k < 0
  · rw [if_pos h]
    go_enter Try.func43, Try.ntmps43
    go_wp2_with fail
    go_ret
    exact ⟨rfl, rfl⟩
  · rw [if_neg h]
    go_enter Try.func43, Try.ntmps43
    go_wp2_with fail
    go_ret
    exact ⟨rfl, rfl⟩

theorem drewN_add (w : World) (m n : Nat) : (w.drewN m).drewN n = w.drewN (m + n) := by simp [World.drewN, Nat.add_assoc]
/-- Does x stand well behind what stands ahead? -/
def rfi (prev : List Int) (x : Int) : Bool := prev.all (fun y => !(((y == 0) && (x != 0)) || ((x != 0) && (colI y == colI x))))
def rgo : List Int → List Int → Bool
  | _, [] => true
  | prev, x :: xs => if x < -5 ∨ 5 < x then false else if rfi prev x = true then rgo (prev ++ [x]) xs else false
def formedR (o : List Int) : Bool := rgo [] o
def RFLoop (o : List Int) (w : World) (iv : Value) (wr : World) : Prop :=
  ∃ i : Nat, iv = .int .i64 (i : Int) ∧ i ≤ 5 ∧ rgo (o.take i) (o.drop i) = formedR o ∧ (∀ y ∈ o.take i, -5 ≤ y ∧ y ≤ 5) ∧ ∃ m, wr = w.drewN m
def RFIn (o : List Int) (i : Nat) (w : World) (kv : Value) (wr : World) : Prop :=
  ∃ k : Nat, kv = .int .i64 (k : Int) ∧ k ≤ i ∧ rfi ((o.take i).drop k) (o.getD i 0) = rfi (o.take i) (o.getD i 0) ∧ ∃ m, wr = w.drewN m

set_option maxRecDepth 100000 in
set_option maxHeartbeats 4000000 in
theorem refformed_any (o0 o1 o2 o3 o4 : Int) (w : World) : Calls Try.prog 20 #[.agg #[.int .i64 o0, .int .i64 o1, .int .i64 o2, .int .i64 o3, .int .i64 o4]] w (fun e w' => e = .returned (.bool (formedR [o0, o1, o2, o3, o4])) ∧ Below w.heap.size w w') := by
  have hO := Blk.new w 49 #[.int .i64 o0, .int .i64 o1, .int .i64 o2, .int .i64 o3, .int .i64 o4]
  have hbl : Below w.heap.size w (w.alloc (.cells #[.int .i64 o0, .int .i64 o1, .int .i64 o2, .int .i64 o3, .int .i64 o4] 49)) := (Below.refl _ _).alloc (Nat.le_refl _) _
  obtain ⟨o, ho⟩ : ∃ o : List Int, o = [o0, o1, o2, o3, o4] := ⟨_, rfl⟩
  have hlen : o.length = 5 := by rw [ho]; rfl
  have hcell : ∀ i (hi : i < o.length), (#[.int .i64 o0, .int .i64 o1, .int .i64 o2, .int .i64 o3, .int .i64 o4] : Array Value)[i]? = some (.int .i64 o[i]) := by
    subst ho
    intro i hi
    have hi5 : i < 5 := hi
    obtain rfl | rfl | rfl | rfl | rfl : i = 0 ∨ i = 1 ∨ i = 2 ∨ i = 3 ∨ i = 4 := by omega
    all_goals rfl
  rw [← ho]
  have HO := Lib.hid hO
  have HB := Lib.hid hbl
  have HL := Lib.hid hlen
  have HC := Lib.hid hcell
  clear hO hbl hlen hcell ho
  go_enter Try.func20, Try.ntmps20
  go_wp2_with fail
  generalize (w.alloc (.cells #[.int .i64 o0, .int .i64 o1, .int .i64 o2, .int .i64 o3, .int .i64 o4] 49)) = w1 at *
  have HOC := Lib.hid (fun i (hi : i < o.length) => (HO.out.cell i).trans (HC.out i hi))
  clear HC HO
  go_loopw [3] (fun iv wr => RFLoop o w1 iv wr) (fun iv _ => 5 - (intOf iv).toNat)
  case atStart => exact ⟨0, rfl, by omega, rfl, (fun y hy => by cases hy), 0, rfl⟩
  case round =>
    obtain ⟨i, rfl, hi, hg, hrg, m, rfl⟩ := hrel
    have hl5 := HL.out
    have HG := Lib.hid hg
    have HRG := Lib.hid hrg
    clear hg hrg
    by_cases hlt : (i : Int) < 5
    · have hio : i < o.length := by omega
      obtain ⟨x, hx⟩ : ∃ x, x = o[i] := ⟨_, rfl⟩
      have ci : (w1.drewN m).cell? ⟨w.heap.size, i, none⟩ = some (.int .i64 x) := by rw [hx]; exact HOC.out i hio
      have i0 : (0 : Int) ≤ (i : Int) := by omega
      have hstep : (if x < -5 ∨ 5 < x then false else if rfi (o.take i) x = true then rgo (o.take (i + 1)) (o.drop (i + 1)) else false) = formedR o := by
        rw [← HG.out, List.drop_eq_getElem_cons hio, ← hx]
        rw [List.take_succ_eq_append_getElem hio, ← hx]
        rfl
      have hgd : o.getD i 0 = x := by rw [hx]; simp [hio]
      have HST := Lib.hid hstep
      have HGD := Lib.hid hgd
      have HX := Lib.hid hx
      clear hstep hgd hx hl5
      by_cases hbad : x < -5 ∨ 5 < x
      · have hfin : formedR o = false := by rw [← HST.out, if_pos hbad]
        have HFIN := Lib.hid hfin
        clear hfin
        by_cases hb1 : x < -5
        · clear hbad
          go_wp2_with fail
          go_ret
          exact ⟨by rw [HFIN.out]; rfl, HB.out.trans ⟨rfl, rfl, rfl, Nat.le_refl _, fun _ _ => rfl⟩⟩
        · have hb2 : 5 < x := by omega
          clear hbad
          go_wp2_with fail
          go_ret
          exact ⟨by rw [HFIN.out]; rfl, HB.out.trans ⟨rfl, rfl, rfl, Nat.le_refl _, fun _ _ => rfl⟩⟩
      · have hx1 : ¬ x < -5 := fun h => hbad (.inl h)
        have hx2 : ¬ 5 < x := fun h => hbad (.inr h)
        have hst2 := HST.out
        rw [if_neg hbad] at hst2
        have HST2 := Lib.hid hst2
        clear hbad hst2
        go_wp2_with fail
        clear ci
        go_loopw [4] (fun kv wr => RFIn o i w1 kv wr) (fun kv _ => i - (intOf kv).toNat)
        case atStart => exact ⟨0, rfl, by omega, by rw [HGD.out]; rfl, m, rfl⟩
        case round =>
          obtain ⟨k, rfl, hk, hin, m2, rfl⟩ := hrel
          have HIN := Lib.hid hin
          clear hin
          have ci : w1.cell? ⟨w.heap.size, i, none⟩ = some (.int .i64 x) := by rw [HX.out]; exact HOC.out i hio
          by_cases hkl : (k : Int) < (i : Int)
          · have hko : k < o.length := by omega
            obtain ⟨y, hy⟩ : ∃ y, y = o[k] := ⟨_, rfl⟩
            have ck : w1.cell? ⟨w.heap.size, k, none⟩ = some (.int .i64 y) := by rw [hy]; exact HOC.out k hko
            have k0 : (0 : Int) ≤ (k : Int) := by omega
            have k5 : (k : Int) < 5 := by omega
            have hym : y ∈ o.take i := by rw [hy]; exact List.mem_take_iff_getElem.2 ⟨k, by omega, rfl⟩
            have hyr := HRG.out y hym
            have hst : rfi ((o.take i).drop k) x = (!(((y == 0) && (x != 0)) || ((x != 0) && (colI y == colI x))) && rfi ((o.take i).drop (k + 1)) x) := by
              rw [List.drop_eq_getElem_cons (by rw [List.length_take]; omega)]
              unfold rfi
              rw [List.all_cons, List.getElem_take, ← hy]
            have HSS := Lib.hid hst
            have HCY := Lib.hid (fun W' => refcol_any y W' hyr.1 hyr.2)
            have HCX := Lib.hid (fun W' => refcol_any x W' (by omega) (by omega))
            clear hy hym hyr hst
            generalize hcy : colI y = cy at *
            generalize hcx : colI x = cx at *
            clear hcy hcx
            by_cases hx0 : x = 0
            · have x1 : (x == 0) = true := by simpa using hx0
              have x2 : (x != 0) = false := by simpa using hx0
              cases hyb : (y == 0) with
              | true =>
                clear hx0
                have hnx : rfi ((o.take i).drop (k + 1)) x = rfi (o.take i) (o.getD i 0) := by
                  rw [← HIN.out, HGD.out, HSS.out]
                  simp [x1, x2, hyb]
                have HNX := Lib.hid hnx
                clear hnx
                go_wp2_with fail
                go_quiet (fail)
                go_wp2_with fail
                exact ⟨⟨k + 1, rfl, by omega, by rw [HGD.out] at HNX ⊢; exact HNX.out, _, rfl⟩, by simp [intOf]; omega⟩
              | false =>
                clear hx0
                have hnx : rfi ((o.take i).drop (k + 1)) x = rfi (o.take i) (o.getD i 0) := by
                  rw [← HIN.out, HGD.out, HSS.out]
                  simp [x1, x2, hyb]
                have HNX := Lib.hid hnx
                clear hnx
                go_wp2_with fail
                go_quiet (fail)
                go_wp2_with fail
                exact ⟨⟨k + 1, rfl, by omega, by rw [HGD.out] at HNX ⊢; exact HNX.out, _, rfl⟩, by simp [intOf]; omega⟩
            · have x1 : (x == 0) = false := by simpa using hx0
              have x2 : (x != 0) = true := by simpa using hx0
              by_cases hy0 : y = 0
              · have y1 : (y == 0) = true := by simpa using hy0
                clear hx0 hy0
                have hbad : rfi ((o.take i).drop k) x = false := by rw [HSS.out]; simp [x1, x2, y1]
                have hfin : formedR o = false := by
                  have h1 := HIN.out
                  rw [HGD.out, hbad] at h1
                  rw [← HST2.out, if_neg (by rw [← h1]; exact Bool.false_ne_true)]
                have HFIN := Lib.hid hfin
                clear hfin hbad
                go_wp2_with fail
                go_quiet (fail)
                go_wp2_with fail
                go_ret
                exact ⟨by rw [HFIN.out]; rfl, HB.out.trans ⟨rfl, rfl, rfl, Nat.le_refl _, fun _ _ => rfl⟩⟩
              · have y1 : (y == 0) = false := by simpa using hy0
                cases hcc : (cy == cx) with
                | true =>
                  clear hx0 hy0
                  generalize hwq : w1.drewN m2 = wq at *
                  have ci2 : wq.cell? ⟨w.heap.size, i, none⟩ = some (.int .i64 x) := by rw [← hwq]; exact ci
                  have ck2 : wq.cell? ⟨w.heap.size, k, none⟩ = some (.int .i64 y) := by rw [← hwq]; exact ck
                  have HWQ := Lib.hid hwq
                  clear hwq ci ck
                  have hbad : rfi ((o.take i).drop k) x = false := by rw [HSS.out]; simp [x1, x2, y1, hcc]
                  have hfin : formedR o = false := by
                    have h1 := HIN.out
                    rw [HGD.out, hbad] at h1
                    rw [← HST2.out, if_neg (by rw [← h1]; exact Bool.false_ne_true)]
                  have HFIN := Lib.hid hfin
                  clear hfin hbad
                  go_wp2_with fail
                  go_quiet ((go_at_call 43; first | with_reducible exact Calls.quiet_of_same' (HCY.out _) | with_reducible exact Calls.quiet_of_same' (HCX.out _)))
                  go_wp2_with fail
                  go_ret
                  exact ⟨by rw [HFIN.out]; rfl, HB.out.trans (by rw [← HWQ.out]; exact ⟨rfl, rfl, rfl, Nat.le_refl _, fun _ _ => rfl⟩)⟩
                | false =>
                  clear hx0 hy0
                  generalize hwq : w1.drewN m2 = wq at *
                  have ci2 : wq.cell? ⟨w.heap.size, i, none⟩ = some (.int .i64 x) := by rw [← hwq]; exact ci
                  have ck2 : wq.cell? ⟨w.heap.size, k, none⟩ = some (.int .i64 y) := by rw [← hwq]; exact ck
                  have HWQ := Lib.hid hwq
                  clear hwq ci ck
                  have hnx : rfi ((o.take i).drop (k + 1)) x = rfi (o.take i) (o.getD i 0) := by
                    rw [← HIN.out, HGD.out, HSS.out]
                    simp [x1, x2, y1, hcc]
                  have HNX := Lib.hid hnx
                  clear hnx
                  go_wp2_with fail
                  go_quiet ((go_at_call 43; first | with_reducible exact Calls.quiet_of_same' (HCY.out _) | with_reducible exact Calls.quiet_of_same' (HCX.out _)))
                  go_wp2_with fail
                  exact ⟨⟨k + 1, rfl, by omega, by rw [HGD.out] at HNX ⊢; exact HNX.out, _, by rw [← HWQ.out]; exact drewN_add _ _ _⟩, by simp [intOf]; omega⟩
          · obtain rfl : k = i := by omega
            have hall : rfi (o.take k) x = true := by
              have h1 := HIN.out
              rw [HGD.out, List.drop_of_length_le (by rw [List.length_take]; omega)] at h1
              exact h1.symm
            have hnx : rgo (o.take (k + 1)) (o.drop (k + 1)) = formedR o := by
              rw [← HST2.out, if_pos hall]
            have hrn : ∀ y ∈ o.take (k + 1), -5 ≤ y ∧ y ≤ 5 := fun y hy => by
              rw [List.take_succ_eq_append_getElem hio] at hy
              rcases List.mem_append.1 hy with h | h
              · exact HRG.out y h
              · rw [List.mem_singleton.1 h, ← HX.out]; omega
            have HNX := Lib.hid hnx
            have HRN := Lib.hid hrn
            clear hall hnx hrn ci
            go_wp2_with fail
            exact ⟨⟨k + 1, rfl, by omega, HNX.out, HRN.out, _, rfl⟩, by simp [intOf]; omega⟩
    · obtain rfl : i = 5 := by omega
      have hfin : formedR o = true := by
        rw [← HG.out, List.drop_of_length_le (by omega)]
        rfl
      have HFIN := Lib.hid hfin
      clear hfin hl5
      go_wp2_with fail
      go_ret
      exact ⟨by rw [HFIN.out]; rfl, HB.out.trans ⟨rfl, rfl, rfl, Nat.le_refl _, fun _ _ => rfl⟩⟩

end Go.Proofs.Ytlbaigkpojkfjaa.Fl
