/- The walks of the reference's Loops and Ints. -/
import Derived.Test.YtlepmefknglkeaaGrLoops
set_option linter.unusedVariables false
namespace Go.Proofs.Ytlepmefknglkeaa.Gr
open Go.RowKit

def LpNo (W : World) (ov iv : Value) (wr : World) : Prop := iv = .int .i64 0 ∧ ov = .slice none 0 0 ∧ W = wr

set_option maxRecDepth 100000 in
theorem rloops_no (n : Int) (l : List E2) (a : Option Addr) (m c : Nat) (w : World) (hr : ERow w a l) (hm : l.length = m) (hmm : m ≤ 9223372036854775807) (hf : formed n l = false) :
    Calls Try.prog 25 #[.agg #[.int .i64 n, .slice a m c]] w fun e w' => e = .returned (.tuple #[.slice none 0 0, .int .i64 1]) ∧ Below w.heap.size w w' := by
  subst hm
  have h0 : Below w.heap.size w (w.alloc (.cells #[.int .i64 n, .slice a l.length c] 24)) := (Below.refl w.heap.size w).alloc (Nat.le_refl _) _
  have B0 := Lib.hid (Blk.new w 24 #[.int .i64 n, .slice a l.length c])
  have H0 := Lib.hid h0
  have HR := Lib.hid (hr.below h0)
  clear h0 hr
  go_enter Try.func25, Try.ntmps25
  go_wp2_with fail
  generalize w.alloc (.cells #[.int .i64 n, .slice a l.length c] 24) = W at *
  have HF := Lib.hid (fun W' (hW : Below W.heap.size W W') => (rformed_any n l a l.length c W' (HR.out.below hW) rfl hmm).mono fun e w2 (he : Told W' (formed n l) e w2) => (⟨he.1.trans (by rw [hf]), hW.trans (he.2.mono hW.size)⟩ : e = .returned (.bool false) ∧ Below W.heap.size W w2))
  have cells := Lib.hid (fun W' (h : Below W.heap.size W W') => (⟨(B0.out.below h B0.out.lt).cell 0, (B0.out.below h B0.out.lt).cell 1⟩ : W'.cell? ⟨w.heap.size, 0, none⟩ = some (.int .i64 n) ∧ W'.cell? ⟨w.heap.size, 1, none⟩ = some (.slice a l.length c)))
  clear hf
  go_loopw [4, 5] (fun ov iv wr => LpNo W ov iv wr) (fun _ iv _ => l.length - (intOf iv).toNat)
  case atStart => exact ⟨rfl, rfl, rfl⟩
  case round =>
    obtain ⟨rfl, rfl, rfl⟩ := hrel
    obtain ⟨c0, c1⟩ := cells.out W (Below.refl _ _)
    by_cases hlt : (0 : Int) < l.length
    · go_wp2_with fail
      refine (HF.out W (Below.refl _ _)).mono ?_
      rintro e w1 ⟨rfl, hb1⟩
      clear c0 c1
      obtain ⟨c0, c1⟩ := cells.out w1 hb1
      have HB1 := Lib.hid hb1
      clear hb1
      go_wp2_with fail
      refine (HF.out w1 HB1.out).mono ?_
      rintro e w2 ⟨rfl, hb2⟩
      clear c0 c1
      have HB2 := Lib.hid hb2
      clear hb2
      go_wp2_with fail
      go_ret2
      exact ⟨rfl, H0.out.trans (HB2.out.mono H0.out.size)⟩
    · go_wp2_with fail
      refine (HF.out W (Below.refl _ _)).mono ?_
      rintro e w1 ⟨rfl, hb1⟩
      have HB2 := Lib.hid hb1
      clear c0 c1 hb1
      go_wp2_with fail
      go_ret2
      exact ⟨rfl, H0.out.trans (HB2.out.mono H0.out.size)⟩

set_option maxRecDepth 100000 in
set_option maxHeartbeats 1000000 in
theorem rloops_ok (n : Int) (l : List E2) (a : Option Addr) (m c : Nat) (w : World) (hr : ERow w a l) (hm : l.length = m) (hmm : m ≤ 9223372036854775807) (hf : formed n l = true) :
    Calls Try.prog 25 #[.agg #[.int .i64 n, .slice a m c]] w (Looped l w) := by
  subst hm
  have h0 : Below w.heap.size w (w.alloc (.cells #[.int .i64 n, .slice a l.length c] 24)) := (Below.refl w.heap.size w).alloc (Nat.le_refl _) _
  have B0 := Lib.hid (Blk.new w 24 #[.int .i64 n, .slice a l.length c])
  have H0 := Lib.hid h0
  have HR := Lib.hid (hr.below h0)
  have s2 : l.length ≤ 1073741824 := by
    unfold formed small at hf
    simp only [Bool.and_eq_true, decide_eq_true_eq, List.all_eq_true] at hf
    omega
  clear h0 hr
  go_enter Try.func25, Try.ntmps25
  go_wp2_with fail
  generalize w.alloc (.cells #[.int .i64 n, .slice a l.length c] 24) = W at *
  have HF := Lib.hid (fun W' (hW : Below W.heap.size W W') => (rformed_any n l a l.length c W' (HR.out.below hW) rfl hmm).mono fun e w2 (he : Told W' (formed n l) e w2) => (⟨he.1.trans (by rw [hf]), he.2, hW.trans (he.2.mono hW.size)⟩ : e = .returned (.bool true) ∧ Below W'.heap.size W' w2 ∧ Below W.heap.size W w2))
  have cells := Lib.hid (fun W' (h : Below W.heap.size W W') => (⟨(B0.out.below h B0.out.lt).cell 0, (B0.out.below h B0.out.lt).cell 1⟩ : W'.cell? ⟨w.heap.size, 0, none⟩ = some (.int .i64 n) ∧ W'.cell? ⟨w.heap.size, 1, none⟩ = some (.slice a l.length c)))
  clear hf
  go_loopw [4, 5] (fun ov iv wr => LpLoop l W ov iv wr) (fun _ iv _ => l.length - (intOf iv).toNat)
  case atStart => exact ⟨0, rfl, by omega, World.ownsRow_nil _ _ _ _, Below.refl _ _⟩
  case round =>
    obtain ⟨k, rfl, hk, hown, hb⟩ := hrel
    obtain ⟨c0, c1⟩ := cells.out wr hb
    have hlen := lpsL_le l k
    have HB := Lib.hid hb
    have HO := Lib.hid hown
    have HK := Lib.hid hk
    clear hb hown hk
    by_cases hlt : (k : Int) < l.length
    · have k1 : k < l.length := by omega
      go_wp2_with fail
      refine (HF.out wr HB.out).mono ?_
      rintro e w1 ⟨rfl, hbo, hb1⟩
      clear c0 c1
      obtain ⟨c0, c1⟩ := cells.out w1 hb1
      have HO1 := Lib.hid (own_chg HO.out (Chg.of_below' (S := fun _ => False) hbo) (fun _ _ h => h))
      have HB1 := Lib.hid hb1
      obtain ⟨b1, o1, rfl, d1, d2, hbl⟩ := (HR.out.below' hb1) k k1
      have hk0 : (0 : Int) ≤ (k : Int) := by omega
      have hy := fun h => lpsL_yes k1 h
      have hn := fun h => lpsL_no k1 h
      have hbs := hb1.size
      clear hbo hb1 HO
      generalize l[k] = p at *
      obtain ⟨u, v⟩ := p
      simp only at d1 d2 hy hn
      have HY := Lib.hid hy
      have HN := Lib.hid hn
      clear hy hn
      by_cases huv : u = v
      · subst huv
        have HYY := Lib.hid (HY.out rfl)
        clear HY HN
        go_wp2_with fail
        go_quiet (fail)
        have HO2 := Lib.hid (show (w1.drewN nq).ownsRow W.heap.size 3 1 _ _ _ from HO1.out)
        have HB2 := Lib.hid (below_d HB1.out nq)
        have hbs2 : W.heap.size ≤ (w1.drewN nq).heap.size := hbs
        clear HO1 HB1 d1 d2 c0 c1 hbs
        generalize w1.drewN nq = w2 at *
        go_wp2_with (at_builtin; go_must (refine wpList_append rfl (.tmp 30) (.tmp 32) _ rfl el_ints W.heap.size _ _ _ rfl (HO2.out.alloc _) _ 1 1 [.int .i64 (k : Int)] rfl rfl (Row.new w2 _ _ _) (by intro u hu; simp at hu; subst hu; rfl) (by unfold maxLen; omega) (by omega) (by simp; omega) ?_))
        intro v3 w3 hown3 hg3 _ hb3
        rw [← HYY.out] at hown3
        have HB3 := Lib.hid ((HB2.out.alloc hbs2 _).trans hb3)
        have HO3 := Lib.hid hown3
        have HL3 := Lib.hid (congrArg List.length HYY.out)
        clear hown3 hg3 hb3
        go_wp2_with fail
        go_roundw
        case rel =>
          refine ⟨k + 1, by go_num, by omega, ?_, HB3.out⟩
          rw [HL3.out, List.length_append]
          exact HO3.out
        case measure => simp [intOf]; omega
      · have HNN := Lib.hid (HN.out huv)
        clear HY HN
        go_wp2_with fail
        go_quiet (fail)
        go_wp2_with fail
        go_roundw
        case rel =>
          refine ⟨k + 1, by go_num, by omega, ?_, below_d HB1.out _⟩
          rw [HNN.out]
          exact HO1.out
        case measure => simp [intOf]; omega
    · obtain rfl : k = l.length := by have := HK.out; omega
      go_wp2_with fail
      refine (HF.out wr HB.out).mono ?_
      rintro e w1 ⟨rfl, hbo, hb1⟩
      have HO1 := Lib.hid (own_chg HO.out (Chg.of_below' (S := fun _ => False) hbo) (fun _ _ h => h))
      have HB1 := Lib.hid hb1
      clear hbo hb1 HO
      go_wp2_with fail
      go_ret2
      exact ⟨_, rfl, own_mono HO1.out (by have := H0.out.size; omega), H0.out.trans (HB1.out.mono H0.out.size)⟩

/-- Numbers, as cells. -/
def ints (l : List Int) : List Value := l.map (Value.int .i64)
theorem ints_len (l : List Int) : (ints l).length = l.length := by simp [ints]
def degI (N : Nat) (l : List E2) : List Int := (List.range N).map fun i : Nat => (cnt l (i : Int) : Int)
theorem degs_ints (N : Nat) (l : List E2) : degs N l = ints (degI N l) := by simp [degs, tab, ints, degI]
def lpI (l : List E2) : List Int := ((List.range l.length).filter fun i => decide ((l.getD i (0, 0)).1 = (l.getD i (0, 0)).2)).map fun i : Nat => (i : Int)
theorem lps_ints (l : List E2) : lpsL l l.length = ints (lpI l) := by simp [lpsL, ints, lpI]

def IntLoop (xs ys : List Int) (w : World) (iv : Value) (wr : World) : Prop :=
  ∃ i d : Nat, iv = .int .i64 (i : Int) ∧ i ≤ xs.length ∧ xs.take i = ys.take i ∧ w.drewN d = wr

set_option maxRecDepth 100000 in
set_option maxHeartbeats 1000000 in
theorem ints_any (xs ys : List Int) (a b : Option Addr) (na nb ca cb : Nat) (w : World) (ha : Row w a (ints xs)) (hb : Row w b (ints ys)) (hla : xs.length = na) (hlb : ys.length = nb) (hl : na ≤ 9223372036854775807) (hl2 : nb ≤ 9223372036854775807) :
    Calls Try.prog 26 #[.slice a na ca, .slice b nb cb] w (Told w (decide (xs = ys))) := by
  by_cases hlen : na = nb
  · subst hlen
    have hee : ((na : Int) != (na : Int)) = false := by simp
    have HA := Lib.hid ha
    have HB := Lib.hid hb
    have HL := Lib.hid hla
    have HM := Lib.hid hlb
    clear ha hb hla hlb
    go_enter Try.func26, Try.ntmps26
    go_wp2_with fail
    go_loopw [5] (fun iv wr => IntLoop xs ys w iv wr) (fun iv _ => na - (intOf iv).toNat)
    case atStart => exact ⟨0, 0, rfl, by omega, rfl, rfl⟩
    case round =>
      obtain ⟨i, d, rfl, hi, htk, rfl⟩ := hrel
      by_cases hlt : (i : Int) < na
      · have k1 : i < xs.length := by have := HL.out; omega
        have k2 : i < ys.length := by have := HM.out; omega
        obtain ⟨b1, o1, rfl, c1, _⟩ := HA.out.at_ (i := i) (by rw [ints_len]; exact k1)
        obtain ⟨b2, o2, rfl, c2, _⟩ := HB.out.at_ (i := i) (by rw [ints_len]; exact k2)
        simp only [ints, List.getElem_map] at c1 c2
        have hk0 : (0 : Int) ≤ (i : Int) := by omega
        have hyes : xs[i] = ys[i] → xs.take (i + 1) = ys.take (i + 1) := fun h => by
          rw [List.take_succ_eq_append_getElem k1, List.take_succ_eq_append_getElem k2, htk, h]
        have hno : xs[i] ≠ ys[i] → decide (xs = ys) = false := fun h => by
          rw [decide_eq_false_iff_not]
          intro e
          subst e
          exact h rfl
        generalize xs[i] = u at *
        generalize ys[i] = v at *
        have HY := Lib.hid hyes
        have HNO := Lib.hid hno
        clear hyes hno htk k1 k2
        by_cases h1 : u = v
        · have HQ := Lib.hid (HY.out h1)
          subst h1
          go_wp2_with fail
          go_quiet (fail)
          go_wp2_with fail
          go_roundw
          case rel => exact ⟨i + 1, _, by go_num, by have := HL.out; omega, HQ.out, rfl⟩
          case measure => simp [intOf]; omega
        · have HQ := Lib.hid (HNO.out h1)
          go_wp2_with fail
          go_quiet (fail)
          go_wp2_with fail
          go_ret
          exact ⟨congrArg (fun b => Ending.returned (.bool b)) HQ.out.symm, below_d (below_d (Below.refl _ _) _) _⟩
      · have heq : decide (xs = ys) = true := by
          rw [decide_eq_true_eq]
          rw [List.take_of_length_le (by have := HL.out; omega), List.take_of_length_le (by have := HM.out; omega)] at htk
          exact htk
        have HQ := Lib.hid heq
        clear heq htk
        go_wp2_with fail
        go_ret
        exact ⟨congrArg (fun b => Ending.returned (.bool b)) HQ.out.symm, below_d (Below.refl _ _) _⟩
  · have hee : ((na : Int) != (nb : Int)) = true := by rw [bne_iff_ne]; omega
    have heq : decide (xs = ys) = false := by
      rw [decide_eq_false_iff_not]
      rintro rfl
      exact hlen (hla.symm.trans hlb)
    have HQ := Lib.hid heq
    clear heq ha hb hla hlb hlen
    go_enter Try.func26, Try.ntmps26
    go_wp2_with fail
    go_ret
    exact ⟨congrArg (fun b => Ending.returned (.bool b)) HQ.out.symm, Below.refl _ _⟩

end Go.Proofs.Ytlepmefknglkeaa.Gr
