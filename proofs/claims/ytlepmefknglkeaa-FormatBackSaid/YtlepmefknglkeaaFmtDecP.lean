/- What bytes are read as, plainly. -/
import Derived.Test.YtlepmefknglkeaaFmtTake
import Derived.Test.YtlepmefknglkeaaFmtP
set_option linter.unusedVariables false
namespace Go.Proofs.Ytlepmefknglkeaa.Gr
open Var

/-- The edges of vertex u, k of them: the edges, the place to go on at (or of the wrong byte), whether it failed. -/
def decRow (b : List Nat) (n u : Int) : Nat → Int → Int → List E2 × Int × Bool
  | 0, _, at_ => ([], at_, false)
  | k + 1, v, at_ =>
    if (num b at_ (n - 1 - v)).2.2 = true then ([], (num b at_ (n - 1 - v)).2.1, true)
    else
      ((u, v + (num b at_ (n - 1 - v)).1) :: (decRow b n u k (v + (num b at_ (n - 1 - v)).1) (num b at_ (n - 1 - v)).2.1).1,
        (decRow b n u k (v + (num b at_ (n - 1 - v)).1) (num b at_ (n - 1 - v)).2.1).2)

/-- From vertex u on, j vertices more, 'es' being read already. -/
def decRows (b : List Nat) (n m : Int) : Nat → Nat → List E2 → Int → List E2 × Int × Bool
  | 0, _, es, at_ => (es, at_, false)
  | j + 1, u, es, at_ =>
    if (num b at_ (m - es.length)).2.2 = true then (es, (num b at_ (m - es.length)).2.1, true)
    else if j = 0 ∧ (num b at_ (m - es.length)).1 ≠ m - es.length then (es, (num b at_ (m - es.length)).2.1 - 1, true)
    else if (decRow b n u (num b at_ (m - es.length)).1.toNat u (num b at_ (m - es.length)).2.1).2.2 = true then
      (es, (decRow b n u (num b at_ (m - es.length)).1.toNat u (num b at_ (m - es.length)).2.1).2.1, true)
    else decRows b n m j (u + 1) (es ++ (decRow b n u (num b at_ (m - es.length)).1.toNat u (num b at_ (m - es.length)).2.1).1) (decRow b n u (num b at_ (m - es.length)).1.toNat u (num b at_ (m - es.length)).2.1).2.1

/-- The graph (vertices, edges), the place, the error. -/
def dec (b : List Nat) : Int × List E2 × Int × Int :=
  if b = [] ∨ b.head? ≠ some 71 then (0, [], 0, 3)
  else if (num b 1 1073741824).2.2 = true then (0, [], (num b 1 1073741824).2.1, 3)
  else
    let n := (num b 1 1073741824).1
    let q := num b (num b 1 1073741824).2.1 (if n = 0 then 0 else 1073741824)
    if q.2.2 = true then (0, [], q.2.1, 3)
    else
      let R := decRows b n q.1 n.toNat 0 [] q.2.1
      if R.2.2 = true ∨ R.2.1 ≠ b.length then (0, [], R.2.1, 3) else (n, R.1, 0, 0)

/-- What stands at a place lies there. -/
theorem num_end (b : List Nat) (at_ most : Int) (h : (num b at_ most).2.2 = false) : 0 ≤ (num b at_ most).1 ∧ (num b at_ most).1 ≤ most ∧ 0 ≤ (num b at_ most).2.1 ∧ (num b at_ most).2.1 ≤ b.length := by
  have h1 := take_end b at_
  have h2 : 0 ≤ (take b at_).1 := by unfold take; split <;> simp
  unfold num at h ⊢
  by_cases h3 : (take b at_).2.2 ≠ 0
  · rw [if_pos h3] at h; cases h
  · rw [if_neg h3] at h ⊢
    by_cases h4 : most < (take b at_).1
    · rw [if_pos h4] at h; cases h
    · rw [if_neg h4]
      exact ⟨h2, by simp only; omega, h1.1, h1.2⟩

theorem decRow_bad {b : List Nat} {n u v at_ : Int} {k : Nat} (h : (num b at_ (n - 1 - v)).2.2 = true) : decRow b n u (k + 1) v at_ = ([], (num b at_ (n - 1 - v)).2.1, true) := by
  rw [decRow, if_pos h]
theorem decRow_good {b : List Nat} {n u v at_ : Int} {k : Nat} (h : (num b at_ (n - 1 - v)).2.2 = false) :
    decRow b n u (k + 1) v at_ = ((u, v + (num b at_ (n - 1 - v)).1) :: (decRow b n u k (v + (num b at_ (n - 1 - v)).1) (num b at_ (n - 1 - v)).2.1).1, (decRow b n u k (v + (num b at_ (n - 1 - v)).1) (num b at_ (n - 1 - v)).2.1).2) := by
  rw [decRow, if_neg (by rw [h]; simp)]

/-- t of a row's edges are read: es, up to v, to the place p. -/
def RowAt (b : List Nat) (n u : Int) (cnt : Nat) (p0 : Int) (t : Nat) (es : List E2) (v p : Int) : Prop :=
  es.length = t ∧ t ≤ cnt ∧ u ≤ v ∧ v < n ∧ decRow b n u cnt u p0 = (es ++ (decRow b n u (cnt - t) v p).1, (decRow b n u (cnt - t) v p).2)
theorem RowAt.start {b : List Nat} {n u : Int} {cnt : Nat} {p0 : Int} (h : u < n) : RowAt b n u cnt p0 0 [] u p0 := ⟨rfl, by omega, by omega, h, rfl⟩
theorem RowAt.bad {b : List Nat} {n u v p0 p : Int} {cnt t : Nat} {es : List E2} (h : RowAt b n u cnt p0 t es v p) (ht : t < cnt) (hb : (num b p (n - 1 - v)).2.2 = true) :
    (decRow b n u cnt u p0).2 = ((num b p (n - 1 - v)).2.1, true) := by
  rw [h.2.2.2.2, show cnt - t = (cnt - t - 1) + 1 by omega, decRow_bad hb]
theorem RowAt.good {b : List Nat} {n u v p0 p : Int} {cnt t : Nat} {es : List E2} (h : RowAt b n u cnt p0 t es v p) (ht : t < cnt) (hb : (num b p (n - 1 - v)).2.2 = false) :
    RowAt b n u cnt p0 (t + 1) (es ++ [(u, v + (num b p (n - 1 - v)).1)]) (v + (num b p (n - 1 - v)).1) (num b p (n - 1 - v)).2.1 := by
  have he := num_end b p (n - 1 - v) hb
  refine ⟨by simp [h.1], ht, by have := h.2.2.1; omega, by omega, ?_⟩
  rw [h.2.2.2.2, show cnt - t = (cnt - (t + 1)) + 1 by omega, decRow_good hb, List.append_assoc]
  rfl
theorem RowAt.whole {b : List Nat} {n u v p0 p : Int} {cnt : Nat} {es : List E2} (h : RowAt b n u cnt p0 cnt es v p) : decRow b n u cnt u p0 = (es, p, false) := by
  rw [h.2.2.2.2, Nat.sub_self]
  simp [decRow]

end Go.Proofs.Ytlepmefknglkeaa.Gr
