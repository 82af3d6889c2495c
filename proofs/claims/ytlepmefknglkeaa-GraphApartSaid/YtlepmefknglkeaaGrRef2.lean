/- The walks of the reference of chapter 03: Ordered. -/
import Derived.Test.YtlepmefknglkeaaGrRef
set_option linter.unusedVariables false
namespace Go.Proofs.Ytlepmefknglkeaa.Gr
open Go.RowKit

def OkTo (l : List E2) (k : Nat) : Prop := (∀ i (h : i < l.length), i < k → ¬ l[i].2 < l[i].1) ∧ (∀ i (h : i + 1 < l.length), i + 1 < k → ¬ cmpE l[i + 1] (l[i]'(by omega)) < 0)
theorem OkTo.all {l : List E2} (h : OkTo l l.length) (n : Int) : ordered n l = formed n l := by
  have h1 : sortedE l = true := (sortedE_iff l).2 fun i hi => h.2 i hi hi
  have h2 : straight l = true := by
    unfold straight
    rw [Bool.not_eq_true', List.any_eq_false]
    intro e he
    obtain ⟨i, hi, rfl⟩ := List.getElem_of_mem he
    have := h.1 i hi hi
    simpa using this
  unfold ordered
  rw [h1, h2]
  simp
theorem ordered_crooked {l : List E2} {i : Nat} (h : i < l.length) (hc : l[i].2 < l[i].1) (n : Int) : ordered n l = false := by
  have h2 : straight l = false := by
    unfold straight
    rw [Bool.not_eq_false', List.any_eq_true]
    exact ⟨l[i], List.getElem_mem h, by simpa using hc⟩
  unfold ordered
  rw [h2]
  simp
theorem ordered_unsorted {l : List E2} {i : Nat} (h : i + 1 < l.length) (hc : cmpE l[i + 1] (l[i]'(by omega)) < 0) (n : Int) : ordered n l = false := by
  have h2 : sortedE l = false := by
    cases e : sortedE l
    · rfl
    · exact absurd hc ((sortedE_iff l).1 e i h)
  unfold ordered
  rw [h2]
  simp

def OrdLoop (l : List E2) (W : World) (iv : Value) (wr : World) : Prop :=
  ∃ k : Nat, iv = .int .i64 (k : Int) ∧ k ≤ l.length ∧ OkTo l k ∧ Below W.heap.size W wr

set_option maxRecDepth 100000 in
set_option maxHeartbeats 1000000 in
theorem rordered_any (n : Int) (l : List E2) (a : Option Addr) (m c : Nat) (w : World) (hr : ERow w a l) (hm : l.length = m) (hmm : m < 4611686018427387904) :
    Calls Try.prog 19 #[.agg #[.int .i64 n, .slice a m c]] w (Told w (ordered n l)) := by
  subst hm
  have h0 : Below w.heap.size w (w.alloc (.cells #[.int .i64 n, .slice a l.length c] 24)) := (Below.refl w.heap.size w).alloc (Nat.le_refl _) _
  have H0 := Lib.hid h0
  have B0 := Lib.hid (Blk.new w 24 #[.int .i64 n, .slice a l.length c])
  have HR := Lib.hid (hr.below h0)
  have HF := Lib.hid (fun W (hW : Below w.heap.size w W) => rformed_any n l a l.length c W (hr.below hW) rfl (by omega))
  clear hr h0
  go_enter Try.func19, Try.ntmps19
  go_wp2_with fail
  generalize w.alloc (.cells #[.int .i64 n, .slice a l.length c] 24) = W at *
  go_loopw [3] (fun iv wr => OrdLoop l W iv wr) (fun iv _ => l.length - (intOf iv).toNat)
  case atStart => exact ⟨0, rfl, by omega, ⟨fun _ _ h => absurd h (by omega), fun _ _ h => absurd h (by omega)⟩, Below.refl _ _⟩
  case round =>
    obtain ⟨k, rfl, hk, hok, hb⟩ := hrel
    have g0 : wr.cell? ⟨w.heap.size, 0, none⟩ = some (.int .i64 n) := (B0.out.below hb B0.out.lt).cell 0
    have g1 : wr.cell? ⟨w.heap.size, 1, none⟩ = some (.slice a l.length c) := (B0.out.below hb B0.out.lt).cell 1
    have glt := Nat.lt_of_lt_of_le B0.out.lt hb.size
    have HB := Lib.hid hb
    by_cases hlt : (k : Int) < l.length
    · have k1 : k < l.length := by omega
      have hk0 : (0 : Int) ≤ (k : Int) := by omega
      have hbad : l[k].2 < l[k].1 → ordered n l = false := fun h => ordered_crooked k1 h n
      by_cases hk2 : k = 0
      · subst hk2
        obtain ⟨b1, o1, rfl, c1, c2, _⟩ := (HR.out.below hb) 0 k1
        have hyes : ¬ l[0].2 < l[0].1 → OkTo l 1 := fun h => ⟨fun i hi hi1 => by
          have : i = 0 := by omega
          subst this; exact h, fun i hi hi1 => absurd hi1 (by omega)⟩
        generalize l[0] = p1 at *
        obtain ⟨u, v⟩ := p1
        simp only at c1 c2
        have HY := Lib.hid hyes
        have HNO := Lib.hid hbad
        clear hyes hbad hok hb k1
        have e0 : ((0 : Nat) : Int) = 0 := rfl
        have e9 : o1 + 0 * 2 = o1 := by omega
        rw [e0] at hlt hk0 ⊢
        rw [e9] at c1 c2
        clear e0 e9
        by_cases q1 : v < u
        · have HQ := Lib.hid (HNO.out q1)
          have d1 : decide (v < u) = true := decide_eq_true q1
          go_wp2_with fail
          go_quiet (fail)
          go_wp2_with fail
          go_ret
          exact ⟨congrArg (fun b => Ending.returned (.bool b)) HQ.out.symm, below_d (H0.out.trans (HB.out.mono H0.out.size)) _⟩
        · have HQ := Lib.hid (HY.out q1)
          have d1 : decide (v < u) = false := decide_eq_false q1
          go_wp2_with fail
          go_quiet (fail)
          go_wp2_with fail
          go_roundw
          case rel => exact ⟨1, by go_num, by omega, HQ.out, below_d HB.out _⟩
          case measure => simp [intOf]; omega
      · obtain ⟨j, rfl⟩ : ∃ j, k = j + 1 := ⟨k - 1, by omega⟩
        obtain ⟨b1, o1, e, c1, c2, hbl⟩ := (HR.out.below hb) (j + 1) k1
        obtain ⟨b2, o2, e', c3, c4, _⟩ := (HR.out.below hb) j (by omega)
        rw [e] at e'
        cases e'
        subst e
        have hyes : ¬ l[j + 1].2 < l[j + 1].1 → ¬ cmpE l[j + 1] (l[j]'(by omega)) < 0 → OkTo l (j + 1 + 1) := fun h h' => ⟨fun i hi hi1 => by
          by_cases e : i = j + 1
          · subst e; exact h
          · exact hok.1 i hi (by omega), fun i hi hi1 => by
          by_cases e : i = j
          · subst e; exact h'
          · exact hok.2 i hi (by omega)⟩
        have hbad2 : cmpE l[j + 1] (l[j]'(by omega)) < 0 → ordered n l = false := fun h => ordered_unsorted k1 h n
        have HY := Lib.hid hyes
        have HNO := Lib.hid hbad
        have HNO2 := Lib.hid hbad2
        clear hyes hbad hbad2 hok
        generalize l[j + 1] = p1 at *
        generalize l[j]'(by omega) = p2 at *
        obtain ⟨u, v⟩ := p1
        obtain ⟨x, y⟩ := p2
        simp only at c1 c2 c3 c4
        have e2 : IntKind.i64.wrap ((j : Int) + 1 - 1) = (j : Int) := by rw [IntKind.wrap_i64]; omega
        have e6 : IntKind.i64.wrap (j : Int) = (j : Int) := by rw [IntKind.wrap_i64]; omega
        have e1 : ((j + 1 : Nat) : Int) = (j : Int) + 1 := by omega
        have e3 : ((j : Int) + 1).toNat = j + 1 := by omega
        have e4 : (0 : Int) ≤ (j : Int) := by omega
        have e5 : (j : Int) < (l.length : Int) := by omega
        have e7 : (0 : Int) < (j : Int) + 1 := by omega
        have e8 : (0 : Int) ≤ (j : Int) + 1 := by omega
        rw [e1] at hlt hk0 ⊢
        clear hb k1 e1
        by_cases q1 : v < u
        · have HQ := Lib.hid (HNO.out q1)
          have d1 : decide (v < u) = true := decide_eq_true q1
          go_wp2_with fail
          go_quiet (fail)
          go_wp2_with fail
          go_ret
          exact ⟨congrArg (fun b => Ending.returned (.bool b)) HQ.out.symm, below_d (H0.out.trans (HB.out.mono H0.out.size)) _⟩
        · have d1 : decide (v < u) = false := decide_eq_false q1
          have d2 : decide ((0 : Int) < (j : Int) + 1) = true := decide_eq_true e7
          go_wp2_with fail
          go_region_held3 (fun w' => w'.cell? ⟨b1, o1 + (j + 1) * 2, none⟩ = some (.int .i64 u) ∧ w'.cell? ⟨b1, o1 + (j + 1) * 2 + 1, none⟩ = some (.int .i64 v) ∧ w'.cell? ⟨b1, o1 + j * 2, none⟩ = some (.int .i64 x) ∧ w'.cell? ⟨b1, o1 + j * 2 + 1, none⟩ = some (.int .i64 y) ∧ w'.cell? ⟨w.heap.size, 1, none⟩ = some (.slice (some ⟨b1, o1, none⟩) l.length c))
            ((first | go_keep | ((try go_split_ands); refine ⟨?_, ?_, ?_, ?_, ?_⟩ <;> (first | rw [hb2.cell (by simpa using hbl)] | rw [hb2.cell (by simpa using glt)]) <;> assumption)))
            ((go_at_call 41; refine (less_any u v x y _).mono ?_; rintro e w2 ⟨rfl, hb2⟩))
          have HB2 := Lib.hid (HB.out.trans (Below.mono (show Below wr.heap.size wr w2 from ⟨hb2.os, hb2.tape, hb2.output, hb2.size, hb2.block⟩) HB.out.size))
          clear hb2 c1 c2 c3 c4
          have hle : lessE (u, v) (x, y) = decide (cmpE (u, v) (x, y) < 0) := rfl
          cases hq : lessE (u, v) (x, y)
          · have HQ := Lib.hid (HY.out q1 (by rw [hq] at hle; have h9 := of_decide_eq_false hle.symm; first | exact h9 | omega))
            clear hle hq
            go_wp2_with fail
            go_roundw
            case rel => exact ⟨j + 1 + 1, by go_num, by omega, HQ.out, HB2.out⟩
            case measure => simp [intOf]; omega
          · have HQ := Lib.hid (HNO2.out (by rw [hq] at hle; exact of_decide_eq_true hle.symm))
            clear hle hq
            go_wp2_with fail
            go_ret
            exact ⟨congrArg (fun b => Ending.returned (.bool b)) HQ.out.symm, H0.out.trans (HB2.out.mono H0.out.size)⟩
    · have hf : ordered n l = formed n l := by
        have : k = l.length := by omega
        subst this
        exact hok.all n
      have HQ := Lib.hid hf
      clear hf hok hb
      go_wp2_with fail
      refine (HF.out wr (H0.out.trans (HB.out.mono H0.out.size))).mono ?_
      rintro e w1 ⟨rfl, hb1⟩
      have HB1 := Lib.hid hb1
      clear hb1 HF
      go_wp2_with fail
      go_ret
      exact ⟨congrArg (fun b => Ending.returned (.bool b)) HQ.out.symm, (H0.out.trans (HB.out.mono H0.out.size)).trans (HB1.out.mono (Nat.le_trans H0.out.size HB.out.size))⟩

end Go.Proofs.Ytlepmefknglkeaa.Gr
