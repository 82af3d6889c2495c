/- How an argument that came in is read: for each kind of type a relation between its cells and plain data, and that the form's own reading gives it. No condition. -/
import Derived.Test.YtlepmefknglkeaaRows
import Derived.Test.YtlepmefknglkeaaMem
import Derived.ProofKit
import Derived.OpenShut
import Derived.ShutString
import Derived.ChangeOld
namespace Go.Proofs.Ytlepmefknglkeaa
open Go.RowKit

abbrev Rd (D : Type) := World → List Value → D → Prop

def rdInt (k : IntKind) : Rd Int := fun _ cs n => cs = [.int k n] ∧ (Lit.int k n).wf = true
def rdBool : Rd Bool := fun _ cs b => cs = [.bool b]
def rdStr : Rd ByteArray := fun _ cs s => cs = [.string s] ∧ s.size ≤ maxLen
/-- A slice whose elements have 'size' cells each. -/
def rdSlice {D : Type} (size : Nat) (R : Rd D) : Rd (List D) := fun w cs l =>
  ∃ a n c, cs = [.slice a n c] ∧ l.length = n ∧ n ≤ c ∧ c ≤ maxLen ∧ (a = none → c = 0) ∧
    ∀ i (hi : i < l.length), ∃ x es, a = some x ∧ es.length = size ∧ (∀ j, j < size → w.cell? ((x.add (i * size)).add j) = es[j]?) ∧ R w es l[i]
def rdArr {D : Type} (n size : Nat) (R : Rd D) : Rd (List D) := fun w cs l =>
  cs.length = n * size ∧ l.length = n ∧ ∀ i (hi : i < l.length), R w ((cs.drop (i * size)).take size) l[i]
def rdPair {A B : Type} (m n : Nat) (R : Rd A) (S : Rd B) : Rd (A × B) := fun w cs d =>
  cs.length = m + n ∧ R w (cs.take m) d.1 ∧ S w (cs.drop m) d.2

def Opens {H : Type} (enc : TypeId × Value → H) (P : Program) (t : TypeId) {D : Type} (R : Rd D) : Prop :=
  ∀ w fuel cs y, DataW.trod enc P w 0 (fun _ => true) true fuel t cs = some y → ∃ d, R w cs d

section
variable {H : Type} {enc : TypeId × Value → H} {P : Program} {t : TypeId}

theorem opens_int {k : IntKind} (ht : P.underlying t = some (.int k)) : Opens enc P t (rdInt k) := fun _ _ _ _ h => by
  obtain ⟨n, hc, _, hw⟩ := DataW.trod_int ht h
  exact ⟨n, hc, hw⟩
theorem opens_bool (ht : P.underlying t = some .bool) : Opens enc P t rdBool := fun _ _ _ _ h => by
  obtain ⟨n, hc, _⟩ := DataW.trod_bool ht h
  exact ⟨n, hc⟩
theorem opens_str (ht : P.underlying t = some .string) : Opens enc P t rdStr := fun _ _ _ _ h => by
  obtain ⟨n, hc, _, hw⟩ := DataW.trod_string ht h
  exact ⟨n, hc, hw⟩

theorem list_of {D : Type} (n : Nat) (Q : Nat → D → Prop) (h : ∀ i, i < n → ∃ d, Q i d) : ∃ l : List D, l.length = n ∧ ∀ i (hi : i < l.length), Q i l[i] := by
  induction n with
  | zero => exact ⟨[], rfl, fun i hi => absurd hi (by simp)⟩
  | succ n ih =>
    obtain ⟨l, hl, hq⟩ := ih (fun i hi => h i (by omega))
    obtain ⟨d, hd⟩ := h n (by omega)
    refine ⟨l ++ [d], by simp [hl], fun i hi => ?_⟩
    by_cases hlt : i < l.length
    · rw [List.getElem_append_left hlt]; exact hq i hlt
    · have : i = n := by simp at hi; omega
      subst this
      rw [List.getElem_append_right (by omega)]
      simpa using hd

theorem cells_some {w : World} {a : Addr} {n : Nat} {cs : List Value} (h : w.cells? 0 a n = some cs) : cs.length = n ∧ ∀ j, j < n → w.cell? (a.add j) = cs[j]? := by
  unfold World.cells? at h
  rw [if_pos (Nat.zero_le _)] at h
  exact ⟨by simpa using mapM_some_length h, fun j hj => mapM_some_get h j j (by simp [hj])⟩

theorem opens_slice {e : TypeId} {D : Type} {R : Rd D} {size : Nat} (ht : P.underlying t = some (.slice e)) (hs : P.cellsOf e = size) (hr : Opens enc P e R) : Opens enc P t (rdSlice size R) := fun w _ _ _ h => by
  rcases DataW.trod_slice ht h with ⟨hc, _⟩ | ⟨a, len, cap, elems, rest, n, _, rfl, _, _, hl, hm, hlen, hel, _⟩
  · exact ⟨[], none, 0, 0, hc, rfl, Nat.le_refl _, by unfold maxLen; omega, fun _ => rfl, fun i hi => absurd hi (by simp)⟩
  · obtain ⟨l, hll, hq⟩ := list_of len (fun i d => ∃ es, es.length = size ∧ (∀ j, j < size → w.cell? ((a.add (i * size)).add j) = es[j]?) ∧ R w es d) (fun i hi => by
      have := hel i hi
      rw [List.getElem?_eq_getElem (by omega), hs] at this
      cases hc : w.cells? 0 (a.add (i * size)) size with
      | none => rw [hc] at this; cases this
      | some cs =>
        rw [hc] at this
        obtain ⟨d, hd⟩ := hr _ _ _ _ this
        exact ⟨d, cs, (cells_some hc).1, (cells_some hc).2, hd⟩)
    exact ⟨l, some a, len, cap, rfl, hll, hl, hm, (fun h => by cases h), fun i hi => by
      obtain ⟨es, h1, h2, h3⟩ := hq i hi
      exact ⟨a, es, rfl, h1, h2, h3⟩⟩

theorem opens_arr {e : TypeId} {D : Type} {R : Rd D} {n size : Nat} (ht : P.underlying t = some (.array n e)) (hs : P.cellsOf e = size) (ht' : P.cellsOf t = n * size) (hr : Opens enc P e R) : Opens enc P t (rdArr n size R) := fun w _ cs _ h => by
  obtain ⟨xs, m, _, _, hl, hlen, hel⟩ := DataW.trod_array ht h
  obtain ⟨l, hll, hq⟩ := list_of n (fun i d => R w ((cs.drop (i * size)).take size) d) (fun i hi => by
    have := hel i hi
    rw [List.getElem?_eq_getElem (by omega), hs] at this
    exact hr _ _ _ _ this)
  exact ⟨l, hl.trans ht', hll, hq⟩
end

theorem opens_struct2 {H : Type} {enc : TypeId × Value → H} {P : Program} {t : TypeId} {f0 f1 : Field} {A B : Type} {R : Rd A} {S : Rd B} {m n : Nat} (ht : P.underlying t = some (.struct #[f0, f1])) (hc : P.cellsOf t = m + n)
    (h0 : P.cellsOf f0.type = m) (o0 : f0.offset = 0) (r0 : Opens enc P f0.type R) (h1 : P.cellsOf f1.type = n) (o1 : f1.offset = m) (r1 : Opens enc P f1.type S) : Opens enc P t (rdPair m n R S) := fun w _ cs _ h => by
  obtain ⟨y0, y1, k, _, hl, a0, a1⟩ := ChangeShapes.trod_struct2 ht h
  rw [o0, h0, List.drop_zero] at a0
  rw [o1, h1, List.take_of_length_le (by rw [List.length_drop]; omega)] at a1
  obtain ⟨d0, e0⟩ := r0 _ _ _ _ a0
  obtain ⟨d1, e1⟩ := r1 _ _ _ _ a1
  exact ⟨(d0, d1), hl.trans hc, e0, e1⟩

/-- A slice of pairs of integers. -/
theorem rdSlice_pairs {k1 k2 : IntKind} {w : World} {a : Option Addr} {n c : Nat} {l : List (Int × Int)} (h : rdSlice 2 (rdPair 1 1 (rdInt k1) (rdInt k2)) w [.slice a n c] l) :
    l.length = n ∧ n ≤ c ∧ c ≤ maxLen ∧ (∀ i (hi : i < l.length), ∃ b off, a = some ⟨b, off, none⟩ ∧ w.cell? ⟨b, off + i * 2, none⟩ = some (.int k1 l[i].1) ∧ w.cell? ⟨b, off + i * 2 + 1, none⟩ = some (.int k2 l[i].2) ∧ b < w.heap.size) ∧
      ∀ x ∈ l, (Lit.int k1 x.1).wf = true ∧ (Lit.int k2 x.2).wf = true := by
  obtain ⟨a', n', c', e, hl, hn, hc, _, hr⟩ := h
  simp only [List.cons.injEq, Value.slice.injEq, and_true] at e
  obtain ⟨rfl, rfl, rfl⟩ := e
  have key : ∀ i (hi : i < l.length), ∃ x es, a = some x ∧ (∀ j, j < 2 → w.cell? ((x.add (i * 2)).add j) = es[j]?) ∧ es = [.int k1 l[i].1, .int k2 l[i].2] ∧ (Lit.int k1 l[i].1).wf = true ∧ (Lit.int k2 l[i].2).wf = true := by
    intro i hi
    obtain ⟨x, es, hx, hes, hj, he1, ⟨he2, w1⟩, he3, w2⟩ := hr i hi
    refine ⟨x, es, hx, hj, ?_, w1, w2⟩
    match es, hes with
    | [e0, e1], _ =>
      simp at he2 he3
      rw [he2, he3]
  refine ⟨hl, hn, hc, fun i hi => ?_, fun x hx => ?_⟩
  · obtain ⟨x, es, rfl, hj, rfl, _⟩ := key i hi
    obtain ⟨x0, es0, hx0, hj0, rfl, _⟩ := key 0 (by omega)
    injection hx0 with hx0
    subst hx0
    obtain ⟨b, off, spot⟩ := x
    have h0 := hj0 0 (by omega)
    rw [show ((⟨b, off, spot⟩ : Addr).add (0 * 2)).add 0 = ⟨b, off, spot⟩ from by simp [Addr.add]] at h0
    have hs := (cell_lt h0).2
    simp only at hs
    subst hs
    have a0 := hj 0 (by omega)
    have a1 := hj 1 (by omega)
    rw [add_none, add_none] at a0 a1
    refine ⟨b, off, rfl, by simpa using a0, by simpa using a1, (cell_lt h0).1⟩
  · obtain ⟨i, hi, rfl⟩ := List.getElem_of_mem hx
    obtain ⟨_, _, _, _, _, w1, w2⟩ := key i hi
    exact ⟨w1, w2⟩

/-- A slice of integers, as the walk of a law is told of it. -/
theorem rdSlice_ints {k : IntKind} {w : World} {a : Option Addr} {n c : Nat} {l : List Int} (h : rdSlice 1 (rdInt k) w [.slice a n c] l) :
    l.length = n ∧ n ≤ c ∧ c ≤ maxLen ∧ Row w a (l.map (Value.int k)) ∧ ∀ x ∈ l, (Lit.int k x).wf = true := by
  obtain ⟨a', n', c', e, hl, hn, hc, _, hr⟩ := h
  simp only [List.cons.injEq, Value.slice.injEq, and_true] at e
  obtain ⟨rfl, rfl, rfl⟩ := e
  refine ⟨hl, hn, hc, fun i hi => ?_, fun x hx => ?_⟩
  · rw [List.length_map] at hi
    obtain ⟨x, es, hx, _, hj, hes, _⟩ := hr i hi
    refine ⟨x, hx, ?_⟩
    have := hj 0 (by omega)
    rw [hes, Nat.mul_one] at this
    rw [show (x.add i).add 0 = x.add i from by simp [Addr.add]] at this
    rw [this]
    simp [hi]
  · obtain ⟨i, hi, rfl⟩ := List.getElem_of_mem hx
    obtain ⟨_, _, _, _, _, _, hw⟩ := hr i hi
    exact hw

theorem rdSlice_nil {D : Type} {size : Nat} {R : Rd D} {w : World} {a : Option Addr} {n c : Nat} {l : List D} (h : rdSlice size R w [.slice a n c] l) : a = none → n = 0 ∧ c = 0 := by
  obtain ⟨a', n', c', e, hl, hn, hc, h0, _⟩ := h
  simp only [List.cons.injEq, Value.slice.injEq, and_true] at e
  obtain ⟨rfl, rfl, rfl⟩ := e
  intro h
  have := h0 h
  omega

theorem rdArr2_ints {k : IntKind} {w : World} {cs : Array Value} {l : List Int} (h : rdArr 2 1 (rdInt k) w cs.toList l) :
    ∃ d e, cs = #[.int k d, .int k e] ∧ (Lit.int k d).wf = true ∧ (Lit.int k e).wf = true ∧ l = [d, e] := by
  obtain ⟨hc, hl, hr⟩ := h
  obtain ⟨cs⟩ := cs
  match cs, l, hc, hl with
  | [c0, c1], [d, e], _, _ =>
    have h0 := hr 0 (by simp)
    have h1 := hr 1 (by simp)
    simp only [rdInt, Nat.zero_mul, List.drop_zero, List.take_succ_cons, List.take_zero, List.cons.injEq, and_true, List.getElem_cons_zero, Nat.one_mul, List.drop_succ_cons, List.getElem_cons_succ] at h0 h1
    obtain ⟨rfl, w0⟩ := h0
    obtain ⟨rfl, w1⟩ := h1
    exact ⟨d, e, rfl, w0, w1, rfl⟩

theorem okWide_agg {P : Program} {w : World} {r : Reach} {base : Nat} {t : TypeId} {v : Value} {n : Nat} {e : TypeId} (ht : P.underlying t = some (.array n e)) (h : Value.okWide P w r base t v) : ∃ cs, v = .agg cs ∧ cs.size = P.cellsOf t := by
  simp only [Value.okWide, ht] at h
  obtain ⟨cs, h1, h2, _⟩ := h
  exact ⟨cs, h1, h2⟩

theorem u_bounds {x : Int} : ((Lit.int .u32 x).wf = true → 0 ≤ x ∧ x < 4294967296) ∧ ((Lit.int .u16 x).wf = true → 0 ≤ x ∧ x < 65536) ∧ ((Lit.int .u8 x).wf = true → 0 ≤ x ∧ x < 256) ∧ ((Lit.int .u64 x).wf = true → 0 ≤ x ∧ x < 18446744073709551616) ∧
    ((Lit.int .i64 x).wf = true → -9223372036854775808 ≤ x ∧ x < 9223372036854775808) := by
  simp only [Lit.wf, Bool.and_eq_true, decide_eq_true_eq, IntKind.min, IntKind.max, IntKind.signed, IntKind.bits]
  refine ⟨?_, ?_, ?_, ?_, ?_⟩ <;> (simp; omega)

end Go.Proofs.Ytlepmefknglkeaa
