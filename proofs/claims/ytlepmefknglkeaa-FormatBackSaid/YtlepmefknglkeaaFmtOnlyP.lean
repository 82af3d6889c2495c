/- The bytes of a graph are one to one. -/
import Derived.Test.YtlepmefknglkeaaFmtP
import Derived.Test.YtlepmefknglkeaaVarBack
set_option linter.unusedVariables false
namespace Go.Proofs.Ytlepmefknglkeaa.Gr
open Var

theorem put_cut {x y : Nat} {r s : List Nat} (hx : x < 18446744073709551616) (hy : y < 18446744073709551616) (h : put x ++ r = put y ++ s) : x = y ∧ r = s := by
  have h1 := tk_put x r 0 0 (fun h => absurd h (by omega)) (by simpa using hx)
  have h2 := tk_put y s 0 0 (fun h => absurd h (by omega)) (by simpa using hy)
  rw [h, h2] at h1
  have hxy : x = y := by
    have := congrArg Prod.fst h1
    simp at this
    omega
  subst hxy
  exact ⟨rfl, List.append_cancel_left h⟩

def Asc : Int → List E2 → Prop
  | _, [] => True
  | p, e :: es => p ≤ e.2 ∧ e.2 - p ≤ 1073741824 ∧ Asc e.2 es
theorem asc_snoc (p : Int) (es : List E2) (e : E2) (h : Asc p es) (h1 : lastOf p es ≤ e.2) (h2 : e.2 - lastOf p es ≤ 1073741824) : Asc p (es ++ [e]) := by
  induction es generalizing p with
  | nil => exact ⟨h1, h2, trivial⟩
  | cons x xs ih =>
    rw [lastOf_cons] at h1 h2
    exact ⟨h.1, h.2.1, ih x.2 h.2.2 h1 h2⟩
theorem asc_row {V : List E2} {N : Nat} (h : Fine V N) (u : Nat) : Asc u (rowU V u) := by
  have key : ∀ t, t ≤ (rowU V u).length → Asc u ((rowU V u).take t) := by
    intro t
    induction t with
    | zero => intro _; trivial
    | succ t ih =>
      intro ht
      rw [rowU_length] at ht
      have h1 := pre_le V ((u : Int) + 1)
      have hx : pre V (u : Int) + t < V.length := by omega
      have hll := last_le h (by omega) hx
      have hok := h.ok _ (List.getElem_mem hx)
      have hs := h.small
      rw [rowU_take (by omega) hx]
      exact asc_snoc _ _ _ (ih (by rw [rowU_length]; omega)) hll.2 (by omega)
  have := key _ (Nat.le_refl _)
  rwa [List.take_length] at this
theorem dl_cut {es fs : List E2} {p : Int} {r s : List Nat} (hl : es.length = fs.length) (he : Asc p es) (hf : Asc p fs) (h : dl p es ++ r = dl p fs ++ s) : es.map (·.2) = fs.map (·.2) ∧ r = s := by
  induction es generalizing fs p with
  | nil =>
    cases fs with
    | nil => exact ⟨rfl, h⟩
    | cons f fs => simp at hl
  | cons e es ih =>
    cases fs with
    | nil => simp at hl
    | cons f fs =>
      rw [dl, dl, List.append_assoc, List.append_assoc] at h
      obtain ⟨h1, h2⟩ := put_cut (by have := he.1; have := he.2.1; omega) (by have := hf.1; have := hf.2.1; omega) h
      have h3 : e.2 = f.2 := by have := he.1; have := hf.1; omega
      rw [h3] at h2
      obtain ⟨h4, h5⟩ := ih (by simpa using hl) (h3 ▸ he.2.2) hf.2.2 h2
      exact ⟨by simp [h3, h4], h5⟩
theorem row_first {V : List E2} {N : Nat} (h : Fine V N) (u : Nat) : ∀ e ∈ rowU V u, e.1 = (u : Int) := by
  intro e he
  obtain ⟨i, hi, rfl⟩ := List.getElem_of_mem he
  rw [rowU_length] at hi
  obtain ⟨h2, h3⟩ := rowU_get V u i hi
  rw [List.getElem?_eq_getElem (by rw [rowU_length]; exact hi)] at h3
  rw [Option.some.inj h3]
  exact (h.at_ h2).2 (by omega)
theorem same_pairs {es fs : List E2} {u : Int} (he : ∀ e ∈ es, e.1 = u) (hf : ∀ e ∈ fs, e.1 = u) (h : es.map (·.2) = fs.map (·.2)) : es = fs := by
  have k : ∀ l : List E2, (∀ e ∈ l, e.1 = u) → l = (l.map (·.2)).map fun y => (u, y) := by
    intro l hl
    rw [List.map_map, List.map_congr_left (g := id) (fun e he => ?_), List.map_id]
    exact Prod.ext (hl e he).symm rfl
  rw [k es he, k fs hf, h]
theorem body_cut {V W : List E2} {N M : Nat} (hV : Fine V N) (hW : Fine W M) : ∀ (us : List Nat) (r s : List Nat), us.flatMap (encU V) ++ r = us.flatMap (encU W) ++ s → (∀ u ∈ us, rowU V u = rowU W u) ∧ r = s := by
  intro us
  induction us with
  | nil => intro r s h; exact ⟨fun u hu => (by cases hu), h⟩
  | cons u us ih =>
    intro r s h
    rw [List.flatMap_cons, List.flatMap_cons, encU, encU] at h
    simp only [List.append_assoc] at h
    have b1 := pre_le V ((u : Int) + 1)
    have b2 := pre_le W ((u : Int) + 1)
    have b3 := hV.len
    have b4 := hW.len
    obtain ⟨h1, h2⟩ := put_cut (by omega) (by omega) h
    obtain ⟨h3, h4⟩ := dl_cut (by rw [rowU_length, rowU_length, h1]) (asc_row hV u) (asc_row hW u) h2
    obtain ⟨h5, h6⟩ := ih r s h4
    refine ⟨fun x hx => ?_, h6⟩
    rcases List.mem_cons.1 hx with rfl | hx
    · exact same_pairs (row_first hV x) (row_first hW x) h3
    · exact h5 x hx
theorem flat_rows {V : List E2} {N : Nat} (h : Fine V N) (k : Nat) : V.take (pre V (k : Int)) = (List.range k).flatMap (rowU V) := by
  induction k with
  | zero =>
    have : pre V ((0 : Nat) : Int) = 0 := pre_zero (fun e he => (h.ok e he).1)
    rw [this]
    rfl
  | succ k ih =>
    have h1 := pre_mono (V := V) (show (k : Int) ≤ (k : Int) + 1 by omega)
    rw [List.range_succ, List.flatMap_append, ← ih, show (((k + 1 : Nat)) : Int) = (k : Int) + 1 by omega]
    rw [show pre V ((k : Int) + 1) = pre V (k : Int) + (pre V ((k : Int) + 1) - pre V (k : Int)) by omega, List.take_add]
    simp [rowU]
theorem encB_inj {V W : List E2} {N M : Nat} (hV : Fine V N) (hW : Fine W M) (h : encB V N = encB W M) : N = M ∧ V = W := by
  have c1 := hV.small
  have c2 := hW.small
  have c3 := hV.len
  have c4 := hW.len
  unfold encB headB at h
  simp only [List.append_assoc, List.cons_append, List.nil_append, List.cons.injEq, true_and] at h
  obtain ⟨h1, h2⟩ := put_cut (by omega) (by omega) h
  obtain ⟨h3, h4⟩ := put_cut (by omega) (by omega) h2
  subst h1
  have h5 := body_cut hV hW (List.range N) [] [] (by simpa [body] using h4)
  refine ⟨rfl, ?_⟩
  have e1 := flat_rows hV N
  have e2 := flat_rows hW N
  rw [pre_all (fun e he => by have := hV.ok e he; omega), List.take_length] at e1
  rw [pre_all (fun e he => by have := hW.ok e he; omega), List.take_length] at e2
  rw [e1, e2, List.flatMap_def, List.flatMap_def, List.map_congr_left (fun u hu => h5.1 u hu)]

end Go.Proofs.Ytlepmefknglkeaa.Gr
