/- How structs of three and five fields, and slices of bools, are read. No condition. -/
import Derived.Test.YtlepmefknglkeaaOpen
namespace Go.Proofs.Ytlepmefknglkeaa
open Go.RowKit

theorem opens_struct3 {H : Type} {enc : TypeId × Value → H} {P : Program} {t : TypeId} {f0 f1 f2 : Field} {A B C : Type} {R : Rd A} {S : Rd B} {T : Rd C} {m0 m1 m2 n0 : Nat} (ht : P.underlying t = some (.struct #[f0, f1, f2])) (hc : P.cellsOf t = m0 + n0) (s0 : n0 = m1 + m2)
    (h0 : P.cellsOf f0.type = m0) (o0 : f0.offset = 0) (r0 : Opens enc P f0.type R) (h1 : P.cellsOf f1.type = m1) (o1 : f1.offset = m0) (r1 : Opens enc P f1.type S) (h2 : P.cellsOf f2.type = m2) (o2 : f2.offset = m0 + m1) (r2 : Opens enc P f2.type T) :
    Opens enc P t (rdPair m0 n0 R (rdPair m1 m2 S T)) := fun w _ cs _ h => by
  obtain ⟨xs, n, _, rfl, hl, hlen, hf⟩ := DataW.trod_struct ht h
  match xs, hlen with
  | [y0, y1, y2], _ =>
    have a0 := hf 0 f0 rfl
    have a1 := hf 1 f1 rfl
    have a2 := hf 2 f2 rfl
    simp only [List.getElem?_cons_zero, List.getElem?_cons_succ] at a0 a1 a2
    rw [o0, h0, List.drop_zero] at a0
    rw [o1, h1] at a1
    rw [o2, h2, List.take_of_length_le (by rw [List.length_drop]; omega)] at a2
    obtain ⟨d0, e0⟩ := r0 _ _ _ _ a0
    obtain ⟨d1, e1⟩ := r1 _ _ _ _ a1
    obtain ⟨d2, e2⟩ := r2 _ _ _ _ a2
    exact ⟨(d0, d1, d2), hl.trans hc, e0, by rw [List.length_drop]; omega, e1, by rw [List.drop_drop]; exact e2⟩

theorem opens_struct5 {H : Type} {enc : TypeId × Value → H} {P : Program} {t : TypeId} {f0 f1 f2 f3 f4 : Field} {A B C D E : Type} {R : Rd A} {S : Rd B} {T : Rd C} {U : Rd D} {V : Rd E} {m0 m1 m2 m3 m4 n0 n1 n2 : Nat} (ht : P.underlying t = some (.struct #[f0, f1, f2, f3, f4])) (hc : P.cellsOf t = m0 + n0)
    (s0 : n0 = m1 + n1) (s1 : n1 = m2 + n2) (s2 : n2 = m3 + m4)
    (h0 : P.cellsOf f0.type = m0) (o0 : f0.offset = 0) (r0 : Opens enc P f0.type R) (h1 : P.cellsOf f1.type = m1) (o1 : f1.offset = m0) (r1 : Opens enc P f1.type S) (h2 : P.cellsOf f2.type = m2) (o2 : f2.offset = m0 + m1) (r2 : Opens enc P f2.type T)
    (h3 : P.cellsOf f3.type = m3) (o3 : f3.offset = m0 + m1 + m2) (r3 : Opens enc P f3.type U) (h4 : P.cellsOf f4.type = m4) (o4 : f4.offset = m0 + m1 + m2 + m3) (r4 : Opens enc P f4.type V) :
    Opens enc P t (rdPair m0 n0 R (rdPair m1 n1 S (rdPair m2 n2 T (rdPair m3 m4 U V)))) := fun w _ cs _ h => by
  obtain ⟨xs, n, _, rfl, hl, hlen, hf⟩ := DataW.trod_struct ht h
  match xs, hlen with
  | [y0, y1, y2, y3, y4], _ =>
    have a0 := hf 0 f0 rfl
    have a1 := hf 1 f1 rfl
    have a2 := hf 2 f2 rfl
    have a3 := hf 3 f3 rfl
    have a4 := hf 4 f4 rfl
    simp only [List.getElem?_cons_zero, List.getElem?_cons_succ] at a0 a1 a2 a3 a4
    rw [o0, h0, List.drop_zero] at a0
    rw [o1, h1] at a1
    rw [o2, h2] at a2
    rw [o3, h3] at a3
    rw [o4, h4, List.take_of_length_le (by rw [List.length_drop]; omega)] at a4
    obtain ⟨d0, e0⟩ := r0 _ _ _ _ a0
    obtain ⟨d1, e1⟩ := r1 _ _ _ _ a1
    obtain ⟨d2, e2⟩ := r2 _ _ _ _ a2
    obtain ⟨d3, e3⟩ := r3 _ _ _ _ a3
    obtain ⟨d4, e4⟩ := r4 _ _ _ _ a4
    exact ⟨(d0, d1, d2, d3, d4), hl.trans hc, e0, by rw [List.length_drop]; omega, e1, by rw [List.length_drop, List.length_drop]; omega, by rw [List.drop_drop]; exact e2,
      by rw [List.length_drop, List.length_drop, List.length_drop]; omega, by have := e3; simp only [List.drop_drop, Nat.add_assoc] at this ⊢; exact this, by have := e4; simp only [List.drop_drop, Nat.add_assoc] at this ⊢; exact this⟩

theorem okWide_struct {P : Program} {w : World} {r : Reach} {base : Nat} {t : TypeId} {v : Value} {fs : Array Field} (ht : P.underlying t = some (.struct fs)) (h : Value.okWide P w r base t v) : ∃ cs, v = .agg cs ∧ cs.size = P.cellsOf t := by
  simp only [Value.okWide, ht] at h
  obtain ⟨cs, h1, h2, _⟩ := h
  exact ⟨cs, h1, h2⟩

/-- A slice of bools. -/
theorem rdSlice_bools {w : World} {cs : List Value} {l : List Bool} (h : rdSlice 1 rdBool w cs l) :
    ∃ a n c, cs = [.slice a n c] ∧ l.length = n ∧ n ≤ c ∧ c ≤ maxLen ∧ Row w a (l.map Value.bool) := by
  obtain ⟨a, n, c, rfl, hl, hn, hc, _, hr⟩ := h
  refine ⟨a, n, c, rfl, hl, hn, hc, fun i hi => ?_⟩
  rw [List.length_map] at hi
  obtain ⟨x, es, hx, _, hj, hes⟩ := hr i hi
  refine ⟨x, hx, ?_⟩
  have := hj 0 (by omega)
  rw [hes, Nat.mul_one] at this
  rw [show (x.add i).add 0 = x.add i from by simp [Addr.add]] at this
  rw [this]
  simp [hi]

/-- A struct of an int, an int, a word, a bool and a slice of bools. -/
abbrev rdOp5 : Rd (Int × Int × Int × Bool × List Bool) := rdPair 1 4 (rdInt .i64) (rdPair 1 3 (rdInt .i64) (rdPair 1 2 (rdInt .u64) (rdPair 1 1 rdBool (rdSlice 1 rdBool))))
theorem op5_cells {w : World} {cs : List Value} {d : Int × Int × Int × Bool × List Bool} (h : rdOp5 w cs d) :
    ∃ a n c, cs = [.int .i64 d.1, .int .i64 d.2.1, .int .u64 d.2.2.1, .bool d.2.2.2.1, .slice a n c] ∧ d.2.2.2.2.length = n ∧ n ≤ c ∧ c ≤ maxLen ∧ Row w a (d.2.2.2.2.map Value.bool) ∧ (Lit.int .i64 d.1).wf = true ∧ (Lit.int .i64 d.2.1).wf = true ∧ (Lit.int .u64 d.2.2.1).wf = true := by
  obtain ⟨h0, ⟨e0, w0⟩, h1, ⟨e1, w1⟩, h2, ⟨e2, w2⟩, h3, e3, e4⟩ := h
  obtain ⟨a, n, c, e4, q1, q2, q3, q4⟩ := rdSlice_bools e4
  match cs, h0 with
  | [c0, c1, c2, c3, c4], _ =>
    simp [rdBool] at e0 e1 e2 e3 e4
    subst e0; subst e1; subst e2; subst e3; subst e4
    exact ⟨a, n, c, rfl, q1, q2, q3, q4, w0, w1, w2⟩

end Go.Proofs.Ytlepmefknglkeaa
