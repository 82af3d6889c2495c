/- The walks of slices.IsSortedFunc at edges, and of graph.Ordered. -/
import Derived.Test.YtlepmefknglkeaaGrFormed
set_option linter.unusedVariables false
namespace Go.Proofs.Ytlepmefknglkeaa.Gr
open Go.RowKit

/-- In order: no edge is ahead of the one before it. -/
def sortedE : List E2 → Bool
  | [] => true
  | [_] => true
  | a :: b :: l => !decide (cmpE b a < 0) && sortedE (b :: l)
theorem sortedE_iff : ∀ l : List E2, sortedE l = true ↔ ∀ i (h : i + 1 < l.length), ¬ cmpE l[i + 1] (l[i]'(by omega)) < 0
  | [] => by simp [sortedE]
  | [_] => by simp [sortedE]
  | a :: b :: l => by
    have ih := sortedE_iff (b :: l)
    rw [sortedE, Bool.and_eq_true, ih]
    constructor
    · rintro ⟨h1, h2⟩ i hi
      match i, hi with
      | 0, _ => simpa using h1
      | i + 1, hi => exact h2 i (by simpa using hi)
    · intro h
      refine ⟨by simpa using h 0 (by simp), fun i hi => h (i + 1) (by simpa using hi)⟩

def SrtLoop (l : List E2) (w : World) (iv : Value) (wr : World) : Prop :=
  ∃ i : Int, iv = .int .i64 i ∧ -1 ≤ i ∧ i < l.length ∧ (∀ j (h : j + 1 < l.length), i ≤ (j : Int) → ¬ cmpE l[j + 1] (l[j]'(by omega)) < 0) ∧ Below w.heap.size w wr

set_option maxRecDepth 100000 in
set_option maxHeartbeats 1000000 in
theorem sorted_any (l : List E2) (a : Option Addr) (n c : Nat) (w : World) (hr : ERow w a l) (hn : l.length = n) (hl : n < 4611686018427387904) :
    Calls Try.prog 38 #[.slice a n c, .func (.func 39) #[] #[]] w (Told w (sortedE l)) := by
  subst hn
  have hz1 : IntKind.i64.wrap ((l.length : Int) - 1) = (l.length : Int) - 1 := by rw [IntKind.wrap_i64]; omega
  go_enter Try.func38, Try.ntmps38
  go_wp2_with fail
  go_loopw [5] (fun iv wr => SrtLoop l w iv wr) (fun iv _ => (intOf iv).toNat)
  case atStart => exact ⟨(l.length : Int) - 1, rfl, by omega, by omega, fun j h hj => by omega, Below.refl _ _⟩
  case round =>
    obtain ⟨i, rfl, hi1, hi2, hs, hb⟩ := hrel
    by_cases hlt : 0 < i
    · obtain ⟨j, rfl⟩ : ∃ j : Nat, i = ((j + 1 : Nat) : Int) := ⟨(i - 1).toNat, by omega⟩
      have hj1 : j + 1 < l.length := by omega
      obtain ⟨b, o, rfl, c1, c2, hbl⟩ := hr (j + 1) hj1
      obtain ⟨b', o', e, c3, c4, _⟩ := hr j (by omega)
      cases e
      have d1 : wr.cell? ⟨b, o + (j + 1) * 2, none⟩ = some (.int .i64 l[j + 1].1) := by rw [hb.cell hbl, c1]
      have d2 : wr.cell? ⟨b, o + (j + 1) * 2 + 1, none⟩ = some (.int .i64 l[j + 1].2) := by rw [hb.cell hbl, c2]
      have d3 : wr.cell? ⟨b, o + j * 2, none⟩ = some (.int .i64 (l[j]'(by omega)).1) := by rw [hb.cell hbl, c3]
      have d4 : wr.cell? ⟨b, o + j * 2 + 1, none⟩ = some (.int .i64 (l[j]'(by omega)).2) := by rw [hb.cell hbl, c4]
      have hsj := hs
      have hno : cmpE l[j + 1] (l[j]'(by omega)) < 0 → sortedE l = false := fun h => by
        cases hc : sortedE l
        · rfl
        · exact absurd h ((sortedE_iff l).1 hc j hj1)
      have hyes : ¬ cmpE l[j + 1] (l[j]'(by omega)) < 0 → (∀ q (h : q + 1 < l.length), (j : Int) ≤ (q : Int) → ¬ cmpE l[q + 1] (l[q]'(by omega)) < 0) := fun h q hq hjq => by
        by_cases hqj : q = j
        · subst hqj; exact h
        · exact hs q hq (by omega)
      have HNO := Lib.hid hno
      have HYES := Lib.hid hyes
      have HB := Lib.hid hb
      generalize l[j + 1] = p1 at *
      generalize l[j]'(by omega) = p2 at *
      obtain ⟨u, v⟩ := p1
      obtain ⟨x, y⟩ := p2
      simp only at d1 d2 d3 d4
      have e0 : (0 : Int) ≤ (j : Int) + 1 := by omega
      have e1 : (j : Int) + 1 < (l.length : Int) := by omega
      have e2 : IntKind.i64.wrap ((j : Int) + 1 - 1) = (j : Int) := by rw [IntKind.wrap_i64]; omega
      have e6 : IntKind.i64.wrap (j : Int) = (j : Int) := by rw [IntKind.wrap_i64]; omega
      have e3 : ((j : Int) + 1).toNat = j + 1 := by omega
      have e4 : (0 : Int) ≤ (j : Int) := by omega
      have e5 : (j : Int) < (l.length : Int) := by omega
      have hbw := Nat.lt_of_lt_of_le hbl hb.size
      clear hs hsj hno hyes c1 c2 c3 c4 hr hb hi1 hi2
      go_wp2_with fail
      go_region_held3 (fun w' => w'.cell? ⟨b, o + (j + 1) * 2, none⟩ = some (.int .i64 u) ∧ w'.cell? ⟨b, o + (j + 1) * 2 + 1, none⟩ = some (.int .i64 v) ∧ w'.cell? ⟨b, o + j * 2, none⟩ = some (.int .i64 x) ∧ w'.cell? ⟨b, o + j * 2 + 1, none⟩ = some (.int .i64 y))
        ((first | go_keep | ((try go_split_ands); refine ⟨?_, ?_, ?_, ?_⟩ <;> (rw [hb2.cell (by simpa using hbw)]; assumption))))
        ((go_at_call 39; refine (compare_any u v x y _).mono ?_; rintro e w2 ⟨rfl, hb2⟩))
      have HB2 := Lib.hid (HB.out.trans (Below.mono (show Below wr.heap.size wr w2 from ⟨hb2.os, hb2.tape, hb2.output, hb2.size, hb2.block⟩) HB.out.size))
      clear hb2 d1 d2 d3 d4
      generalize cmpE (u, v) (x, y) = cv at *
      by_cases hc : cv < 0
      · have hf := HNO.out hc
        have HF := Lib.hid hf
        clear hf
        go_wp2_with fail
        go_ret
        exact ⟨congrArg (fun b => Ending.returned (.bool b)) HF.out.symm, HB2.out⟩
      · have hy := HYES.out (by omega)
        have HY := Lib.hid hy
        clear hy
        go_wp2_with fail
        go_roundw
        case rel => exact ⟨(j : Int), rfl, by omega, by omega, fun q hq hjq => (by have := HY.out q hq hjq; omega), HB2.out⟩
        case measure => simp [intOf]
    · have hf : sortedE l = true := by
        rw [sortedE_iff]
        exact fun q hq => hs q hq (by omega)
      have HF := Lib.hid hf
      have HB := Lib.hid hb
      clear hf hs hb hr
      go_wp2_with fail
      go_ret
      exact ⟨congrArg (fun b => Ending.returned (.bool b)) HF.out.symm, HB.out⟩

def straight (l : List E2) : Bool := !(l.any fun e => decide (e.2 < e.1))
def ordered (n : Int) (l : List E2) : Bool := formed n l && (sortedE l && straight l)

set_option maxRecDepth 100000 in
set_option maxHeartbeats 400000 in
theorem ordered_any (n : Int) (l : List E2) (a : Option Addr) (m c : Nat) (w : World) (hr : ERow w a l) (hm : l.length = m) (hmm : m < 4611686018427387904) :
    Calls Try.prog 18 #[.agg #[.int .i64 n, .slice a m c]] w (Told w (ordered n l)) := by
  have h0 : Below w.heap.size w (w.alloc (.cells #[.int .i64 n, .slice a m c] 24)) := (Below.refl w.heap.size w).alloc (Nat.le_refl _) _
  have B0 := Blk.new w 24 #[.int .i64 n, .slice a m c]
  have HF := Lib.hid (fun W (hW : Below w.heap.size w W) => formed_any n l a m c W (hr.below hW) hm (by omega))
  have HS := Lib.hid (fun W (hW : Below w.heap.size w W) => sorted_any l a m c W (hr.below hW) hm hmm)
  have HC := Lib.hid (fun W (hW : Below w.heap.size w W) => contains_ordered (fun e => decide (e.2 < e.1)) l a m c W (fun u v W' _ => ordered1_any u v W') (hr.below hW) hm hmm)
  have H0 := Lib.hid h0
  have HB0 := Lib.hid B0
  have ho : ordered n l = (formed n l && (sortedE l && !(l.any fun e => decide (e.2 < e.1)))) := rfl
  have HO := Lib.hid ho
  clear h0 B0 hr hm hmm ho
  generalize (l.any fun e => decide (e.2 < e.1)) = b3 at *
  go_enter Try.func18, Try.ntmps18
  go_wp2_with fail
  generalize w.alloc (.cells #[.int .i64 n, .slice a m c] 24) = W at *
  refine (HF.out W H0.out).mono ?_
  rintro e w1 ⟨rfl, hb1⟩
  have h1 := H0.out.trans (hb1.mono H0.out.size)
  have B1 := HB0.out.below hb1 HB0.out.lt
  have c1 : w1.cell? ⟨w.heap.size, 1, none⟩ = some (.slice a m c) := B1.cell 1
  have HB1 := Lib.hid B1
  have H1 := Lib.hid h1
  clear hb1 h1 B1 HF
  generalize formed n l = b1 at *
  generalize sortedE l = b2 at *
  cases b1
  · go_wp2_with fail
    go_ret
    exact ⟨congrArg (fun b => Ending.returned (.bool b)) (by rw [HO.out]; rfl), H1.out⟩
  · go_wp2_with fail
    refine (HS.out w1 H1.out).mono ?_
    rintro e w2 ⟨rfl, hb2⟩
    have h2 := H1.out.trans (hb2.mono H1.out.size)
    have B2 := HB1.out.below hb2 HB1.out.lt
    have c2 : w2.cell? ⟨w.heap.size, 1, none⟩ = some (.slice a m c) := B2.cell 1
    have H2 := Lib.hid h2
    clear hb2 h2 B2 HS c1
    cases b2
    · go_wp2_with fail
      go_ret
      exact ⟨congrArg (fun b => Ending.returned (.bool b)) (by rw [HO.out]; rfl), H2.out⟩
    · go_wp2_with fail
      refine (HC.out w2 H2.out).mono ?_
      rintro e w3 ⟨rfl, hb3⟩
      have h3 := H2.out.trans (hb3.mono H2.out.size)
      have H3 := Lib.hid h3
      clear hb3 h3 HC c2
      go_wp2_with fail
      go_ret
      exact ⟨congrArg (fun b => Ending.returned (.bool b)) (by rw [HO.out]; rfl), H3.out⟩

end Go.Proofs.Ytlepmefknglkeaa.Gr
