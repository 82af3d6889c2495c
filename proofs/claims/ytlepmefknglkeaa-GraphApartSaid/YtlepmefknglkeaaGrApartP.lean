/- Plain laws on two graphs laid side by side. -/
import Derived.Test.YtlepmefknglkeaaGrStaysP
set_option linter.unusedVariables false
namespace Go.Proofs.Ytlepmefknglkeaa.Gr

def shiftE (A : Nat) (e : E2) : E2 := (e.1 + A, e.2 + A)
def sideL (A : Nat) (la lb : List E2) : List E2 := lb.map (shiftE A) ++ la
theorem sideL_length (A : Nat) (la lb : List E2) : (sideL A la lb).length = lb.length + la.length := by simp [sideL]
theorem okE_iff (n : Int) (e : E2) : okE n e = true ↔ 0 ≤ e.1 ∧ 0 ≤ e.2 ∧ e.1 < n ∧ e.2 < n := by
  simp only [okE, Bool.and_eq_true, Bool.not_eq_true', decide_eq_false_iff_not]
  omega
theorem sideL_formed {A B : Nat} {la lb : List E2} (ha : formed A la = true) (hb : formed B lb = true) (hA : A ≤ 200) (hB : B ≤ 200) (hla : la.length ≤ 150) (hlb : lb.length ≤ 150) : formed ((A : Int) + B) (sideL A la lb) = true := by
  unfold formed small
  rw [Bool.and_eq_true, Bool.and_eq_true, Bool.and_eq_true, List.all_eq_true]
  refine ⟨⟨⟨decide_eq_true (by omega), decide_eq_true (by omega)⟩, decide_eq_true (by rw [sideL_length]; omega)⟩, ?_⟩
  intro e he
  rw [okE_iff]
  rcases List.mem_append.1 he with h | h
  · obtain ⟨x, hx, rfl⟩ := List.mem_map.1 h
    have := (okE_iff _ _).1 (formed_mem hb x hx)
    simp only [shiftE]
    omega
  · have := (okE_iff _ _).1 (formed_mem ha e h)
    omega
theorem cnt_zero {l : List E2} {v : Int} (h : ∀ e ∈ l, e.1 ≠ v ∧ e.2 ≠ v) : cnt l v = 0 := by
  induction l with
  | nil => rfl
  | cons e l ih =>
    have := h e (List.mem_cons_self ..)
    simp only [cnt, if_neg this.1, if_neg this.2, ih (fun x hx => h x (List.mem_cons_of_mem _ hx))]
theorem cnt_shift (A : Nat) (l : List E2) (v : Int) : cnt (l.map (shiftE A)) (A + v) = cnt l v := by
  induction l with
  | nil => rfl
  | cons e l ih =>
    simp only [List.map_cons, cnt, ih, shiftE]
    have h : ∀ x : Int, (if x + (A : Int) = A + v then 1 else 0 : Nat) = if x = v then 1 else 0 := fun x => by
      by_cases hx : x = v
      · rw [if_pos (by omega), if_pos hx]
      · rw [if_neg (by omega), if_neg hx]
    rw [h, h]
theorem degI_side {A B : Nat} {la lb : List E2} (ha : formed A la = true) (hb : formed B lb = true) : degI (A + B) (sideL A la lb) = degI A la ++ degI B lb := by
  unfold degI
  rw [List.range_add, List.map_append, List.map_map]
  congr 1
  · apply List.map_congr_left
    intro i hi
    have hi : i < A := by simpa using hi
    rw [sideL, cnt_append, cnt_zero (l := lb.map (shiftE A)), Nat.zero_add]
    intro e he
    obtain ⟨x, hx, rfl⟩ := List.mem_map.1 he
    have := (okE_iff _ _).1 (formed_mem hb x hx)
    simp only [shiftE]
    omega
  · apply List.map_congr_left
    intro i hi
    have hi : i < B := by simpa using hi
    show ((cnt (sideL A la lb) ((A + i : Nat) : Int) : Nat) : Int) = _
    rw [sideL, cnt_append, show ((A + i : Nat) : Int) = (A : Int) + i by omega, cnt_shift, cnt_zero (l := la), Nat.add_zero]
    intro e he
    have := (okE_iff _ _).1 (formed_mem ha e he)
    omega
theorem normE_shift (A : Nat) (e : E2) : normE (shiftE A e) = shiftE A (normE e) := by
  unfold normE shiftE
  exact Prod.ext (by simp only; omega) (by simp only; omega)
theorem lessE_shift (A : Nat) (x y : E2) : lessE (shiftE A x) (shiftE A y) = lessE x y := by
  refine Bool.eq_iff_iff.2 ?_
  rw [lessE_iff, lessE_iff]
  simp only [shiftE]
  omega
theorem ordL_side {A B : Nat} {la lb : List E2} (ha : formed A la = true) (hb : formed B lb = true) : ordL (sideL A la lb) = ordL la ++ (ordL lb).map (shiftE A) := by
  refine (srt_unique ?_ ?_).symm
  · unfold sideL
    rw [List.map_append]
    refine List.perm_append_comm.trans (List.Perm.append ?_ (ordL_perm la))
    rw [List.map_map, List.map_congr_left (f := normE ∘ shiftE A) (g := shiftE A ∘ normE) (fun e _ => normE_shift A e), ← List.map_map]
    exact (ordL_perm lb).map _
  · unfold Srtd
    rw [List.pairwise_append]
    refine ⟨srt_srtd _, ?_, ?_⟩
    · rw [List.pairwise_map]
      exact (srt_srtd (lb.map normE)).imp (fun h => by rw [lessE_shift]; exact h)
    · intro x hx y hy
      obtain ⟨x', hx', rfl⟩ := List.mem_map.1 ((ordL_perm la).mem_iff.1 hx)
      obtain ⟨y', hy', rfl⟩ := List.mem_map.1 hy
      obtain ⟨y'', hy'', rfl⟩ := List.mem_map.1 ((ordL_perm lb).mem_iff.1 hy')
      have h1 := (okE_iff _ _).1 (formed_mem ha x' hx')
      have h2 := (okE_iff _ _).1 (formed_mem hb y'' hy'')
      rw [lessE_not]
      simp only [normE, shiftE]
      omega

end Go.Proofs.Ytlepmefknglkeaa.Gr
