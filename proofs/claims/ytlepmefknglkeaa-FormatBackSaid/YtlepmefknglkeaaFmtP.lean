/- The bytes of a graph, plainly. -/
import Derived.Test.YtlepmefknglkeaaGrStaysP
import Derived.Test.YtlepmefknglkeaaFVRef
set_option linter.unusedVariables false
namespace Go.Proofs.Ytlepmefknglkeaa.Gr
open Go.RowKit Var

/-- How many edges begin below a vertex. -/
def pre (V : List E2) (u : Int) : Nat := (V.filter fun e => decide (e.1 < u)).length
theorem pre_le (V : List E2) (u : Int) : pre V u ≤ V.length := List.length_filter_le _ _
def Mono1 (V : List E2) : Prop := V.Pairwise fun x y => x.1 ≤ y.1
theorem mono_of {V : List E2} (h : Srtd V) : Mono1 V := List.Pairwise.imp (R := fun x y : E2 => lessE y x = false) (fun {x y} h => by rw [lessE_not] at h; omega) h
theorem lt_pre {V : List E2} (hV : Mono1 V) (u : Int) : ∀ i (h : i < V.length), V[i].1 < u ↔ i < pre V u := by
  induction V with
  | nil => intro i h; exact absurd h (by simp)
  | cons e V ih =>
    obtain ⟨h1, h2⟩ := List.pairwise_cons.1 hV
    intro i h
    by_cases he : e.1 < u
    · have hp : pre (e :: V) u = pre V u + 1 := by simp [pre, he]
      rw [hp]
      cases i with
      | zero => simp [he]
      | succ i =>
        rw [List.getElem_cons_succ, ih h2 i (by simpa using h)]
        omega
    · have hp : pre (e :: V) u = 0 := by
        unfold pre
        rw [List.length_eq_zero_iff, List.filter_eq_nil_iff]
        intro x hx
        rcases List.mem_cons.1 hx with rfl | hx
        · simpa using he
        · have := h1 x hx
          simp only [decide_eq_true_eq]
          omega
      rw [hp]
      cases i with
      | zero => simp [he]
      | succ i =>
        have hi : i < V.length := by simpa using h
        have := h1 V[i] (List.getElem_mem hi)
        rw [List.getElem_cons_succ]
        omega
theorem pre_mono {V : List E2} {u v : Int} (h : u ≤ v) : pre V u ≤ pre V v := by
  induction V with
  | nil => exact Nat.le_refl _
  | cons e V ih =>
    unfold pre at *
    simp only [List.filter_cons]
    split <;> split <;> simp_all <;> omega
theorem pre_zero {V : List E2} (h : ∀ e ∈ V, 0 ≤ e.1) : pre V 0 = 0 := by
  unfold pre
  rw [List.length_eq_zero_iff, List.filter_eq_nil_iff]
  intro x hx
  have := h x hx
  simp only [decide_eq_true_eq]
  omega
theorem pre_all {V : List E2} {n : Int} (h : ∀ e ∈ V, e.1 < n) : pre V n = V.length := by
  unfold pre
  rw [List.filter_eq_self.2 (fun x hx => decide_eq_true (h x hx))]

/-- The edges that begin at a vertex. -/
def rowU (V : List E2) (u : Nat) : List E2 := (V.drop (pre V u)).take (pre V ((u : Int) + 1) - pre V u)
theorem rowU_length (V : List E2) (u : Nat) : (rowU V u).length = pre V ((u : Int) + 1) - pre V u := by
  have h1 := pre_le V ((u : Int) + 1)
  simp [rowU]
  omega
theorem rowU_get (V : List E2) (u i : Nat) (h : i < pre V ((u : Int) + 1) - pre V u) : ∃ h2 : pre V u + i < V.length, (rowU V u)[i]? = some V[pre V u + i] := by
  have h1 := pre_le V ((u : Int) + 1)
  refine ⟨by omega, ?_⟩
  unfold rowU
  rw [List.getElem?_take_of_lt h, List.getElem?_drop, List.getElem?_eq_getElem (by omega)]

def lastOf (p : Int) (es : List E2) : Int := (es.getLast?.map (·.2)).getD p
def dl : Int → List E2 → List Nat
  | _, [] => []
  | p, e :: es => put (e.2 - p).toNat ++ dl e.2 es
theorem lastOf_cons (p : Int) (e : E2) (es : List E2) : lastOf p (e :: es) = lastOf e.2 es := by
  cases es with
  | nil => rfl
  | cons x xs =>
    unfold lastOf
    rw [List.getLast?_cons_cons, List.getLast?_eq_some_getLast (l := x :: xs) (by simp)]
    rfl
theorem lastOf_snoc (p : Int) (es : List E2) (e : E2) : lastOf p (es ++ [e]) = e.2 := by simp [lastOf]
theorem dl_snoc (p : Int) (es : List E2) (e : E2) : dl p (es ++ [e]) = dl p es ++ put (e.2 - lastOf p es).toNat := by
  induction es generalizing p with
  | nil => simp [dl, lastOf]
  | cons x xs ih => rw [List.cons_append, dl, dl, ih, lastOf_cons, List.append_assoc]
def encU (V : List E2) (u : Nat) : List Nat := put (pre V ((u : Int) + 1) - pre V u) ++ dl u (rowU V u)
def body (V : List E2) (N : Nat) : List Nat := (List.range N).flatMap (encU V)
theorem body_succ (V : List E2) (u : Nat) : body V (u + 1) = body V u ++ encU V u := by simp [body, List.range_succ]
def headB (N M : Nat) : List Nat := [71] ++ put N ++ put M
/-- The bytes of a graph. -/
def encB (V : List E2) (N : Nat) : List Nat := headB N V.length ++ body V N

/-! How long -/
theorem put_len_le {x : Nat} (h : x < 18446744073709551616) : (put x).length ≤ 10 := put_len10 x h
theorem dl_len (es : List E2) (p : Int) (hp : -1073741824 ≤ p ∧ p ≤ 1073741824) (h : ∀ e ∈ es, -1073741824 ≤ e.2 ∧ e.2 ≤ 1073741824) : (dl p es).length ≤ 10 * es.length := by
  induction es generalizing p with
  | nil => simp [dl]
  | cons e es ih =>
    have he := h e (List.mem_cons_self ..)
    have := ih e.2 he (fun x hx => h x (List.mem_cons_of_mem _ hx))
    have h2 := put_len_le (x := (e.2 - p).toNat) (by omega)
    rw [dl, List.length_append, List.length_cons]
    omega

/-! In order: what stands at a vertex -/
theorem okE_iff' (n : Int) (e : E2) : okE n e = true ↔ 0 ≤ e.1 ∧ 0 ≤ e.2 ∧ e.1 < n ∧ e.2 < n := by
  simp only [okE, Bool.and_eq_true, Bool.not_eq_true', decide_eq_false_iff_not]
  omega
structure Fine (V : List E2) (N : Nat) : Prop where
  srt : Srtd V
  ok : ∀ e ∈ V, 0 ≤ e.1 ∧ e.1 ≤ e.2 ∧ e.2 < N
  small : N ≤ 1073741824
  len : V.length ≤ 1073741824
theorem fine_ord {N : Nat} {l : List E2} (h : formed N l = true) : Fine (ordL l) N := by
  have hs : (N : Int) ≤ 1073741824 ∧ l.length ≤ 1073741824 := by
    unfold formed small at h
    simp only [Bool.and_eq_true, decide_eq_true_eq] at h
    exact ⟨h.1.1.2, by omega⟩
  refine ⟨srt_srtd _, fun e he => ?_, by omega, by rw [ordL_length]; exact hs.2⟩
  have h1 := (okE_iff' _ _).1 (formed_mem (formed_ord h) e he)
  obtain ⟨x, _, rfl⟩ := List.mem_map.1 ((ordL_perm l).mem_iff.1 he)
  have := normE_le x
  exact ⟨h1.1, this, h1.2.2.2⟩
theorem Fine.at_ {V : List E2} {N : Nat} (h : Fine V N) {u : Nat} {i : Nat} (hi : i < V.length) : (V[i].1 = (u : Int)) ↔ (pre V u ≤ i ∧ i < pre V ((u : Int) + 1)) := by
  have h1 := lt_pre (mono_of h.srt) u i hi
  have h2 := lt_pre (mono_of h.srt) ((u : Int) + 1) i hi
  omega
theorem Fine.grow {V : List E2} {N : Nat} (h : Fine V N) {i : Nat} (hi : i + 1 < V.length) (he : V[i].1 = V[i + 1].1) : V[i].2 ≤ V[i + 1].2 := by
  have := (List.pairwise_iff_getElem.1 h.srt) i (i + 1) (by omega) hi (by omega)
  rw [lessE_not] at this
  omega
theorem rowU_mem {V : List E2} {u : Nat} : ∀ e ∈ rowU V u, e ∈ V := fun e he => List.mem_of_mem_drop (List.mem_of_mem_take he)
theorem encU_len {V : List E2} {N : Nat} (h : Fine V N) (u : Nat) (hu : u < N) : (encU V u).length ≤ 10 + 10 * (pre V ((u : Int) + 1) - pre V u) := by
  have h1 := pre_le V ((u : Int) + 1)
  have hl := h.len
  have hs := h.small
  have h2 := put_len_le (x := pre V ((u : Int) + 1) - pre V u) (by omega)
  have h3 := dl_len (rowU V u) (u : Int) (by omega) (fun e he => by have := h.ok e (rowU_mem e he); omega)
  rw [rowU_length] at h3
  unfold encU
  rw [List.length_append]
  omega
theorem body_len {V : List E2} {N : Nat} (h : Fine V N) (u : Nat) (hu : u ≤ N) : (body V u).length ≤ 10 * u + 10 * pre V u := by
  induction u with
  | zero => simp [body]
  | succ u ih =>
    have h1 := ih (by omega)
    have h2 := encU_len h u (by omega)
    have h3 := pre_mono (V := V) (show (u : Int) ≤ (u : Int) + 1 by omega)
    rw [body_succ, List.length_append]
    rw [show (((u + 1 : Nat) : Int)) = (u : Int) + 1 by omega]
    omega
theorem head_len {N M : Nat} (hN : N ≤ 1073741824) (hM : M ≤ 1073741824) : (headB N M).length ≤ 21 := by
  have h1 := put_len_le (x := N) (by omega)
  have h2 := put_len_le (x := M) (by omega)
  simp [headB]
  omega
theorem dl_take_len {V : List E2} {N : Nat} (h : Fine V N) (u i : Nat) (hu : u < N) (hi : i ≤ (rowU V u).length) : (dl u ((rowU V u).take i)).length ≤ 10 * (pre V ((u : Int) + 1) - pre V u) := by
  have hs := h.small
  have h3 := dl_len ((rowU V u).take i) (u : Int) (by omega) (fun e he => by have := h.ok e (rowU_mem e (List.mem_of_mem_take he)); omega)
  rw [List.length_take, ← rowU_length] at *
  omega

theorem rowU_take {V : List E2} {u i : Nat} (h : i < pre V ((u : Int) + 1) - pre V u) (h2 : pre V u + i < V.length) : (rowU V u).take (i + 1) = (rowU V u).take i ++ [V[pre V u + i]] := by
  obtain ⟨h3, h4⟩ := rowU_get V u i h
  have hl : i < (rowU V u).length := by rw [rowU_length]; exact h
  rw [List.take_succ_eq_append_getElem hl]
  rw [List.getElem?_eq_getElem hl] at h4
  rw [Option.some.inj h4]
theorem last_le {V : List E2} {N : Nat} (h : Fine V N) {u i : Nat} (hi : i < pre V ((u : Int) + 1) - pre V u) (h2 : pre V u + i < V.length) :
    0 ≤ lastOf u ((rowU V u).take i) ∧ lastOf u ((rowU V u).take i) ≤ V[pre V u + i].2 := by
  have hu : V[pre V u + i].1 = (u : Int) := (h.at_ h2).2 (by omega)
  have ho := h.ok _ (List.getElem_mem h2)
  cases i with
  | zero =>
    have e : lastOf (u : Int) ((rowU V u).take 0) = u := rfl
    rw [e]
    omega
  | succ i =>
    have h3 : pre V u + i < V.length := by omega
    rw [rowU_take (by omega) h3, lastOf_snoc]
    have hu2 : V[pre V u + i].1 = (u : Int) := (h.at_ h3).2 (by omega)
    have ho2 := h.ok _ (List.getElem_mem h3)
    have := h.grow (i := pre V u + i) (by omega) (by rw [hu2]; exact hu.symm)
    exact ⟨by omega, this⟩

end Go.Proofs.Ytlepmefknglkeaa.Gr
