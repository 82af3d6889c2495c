/- Plain laws on graphs in order: what hangs on no order of the edges, nor on which end stands first. -/
import Derived.Test.YtlepmefknglkeaaGrOrderR
import Derived.Test.YtlepmefknglkeaaGrLoops2
import Derived.Test.YtlepmefknglkeaaGrForms
set_option linter.unusedVariables false
namespace Go.Proofs.Ytlepmefknglkeaa.Gr

theorem normE_idem (e : E2) : normE (normE e) = normE e := by
  unfold normE
  exact Prod.ext (by simp only; omega) (by simp only; omega)
theorem normE_le (e : E2) : (normE e).1 ≤ (normE e).2 := by unfold normE; simp only; omega
theorem normE_of_le {e : E2} (h : e.1 ≤ e.2) : normE e = e := by
  unfold normE
  exact Prod.ext (by simp only; omega) (by simp only; omega)
def swapE (e : E2) : E2 := (e.2, e.1)
theorem normE_swap (e : E2) : normE (swapE e) = normE e := by
  unfold normE swapE
  exact Prod.ext (by simp only; omega) (by simp only; omega)
theorem srt_perm (l : List E2) : (srt l).Perm l := List.mergeSort_perm l _
theorem srt_congr {l m : List E2} (h : l.Perm m) : srt l = srt m := srt_unique ((srt_perm l).trans h) (srt_srtd l)
theorem ordL_perm (l : List E2) : (ordL l).Perm (l.map normE) := srt_perm _
theorem ordL_congr {l m : List E2} (h : (l.map normE).Perm (m.map normE)) : ordL l = ordL m := srt_congr h
theorem ordL_norm (l : List E2) : (ordL l).map normE = ordL l := by
  rw [List.map_congr_left (g := id) (fun e he => ?_), List.map_id]
  have := (ordL_perm l).mem_iff.1 he
  obtain ⟨x, _, rfl⟩ := List.mem_map.1 this
  exact normE_idem x
theorem ordL_idem (l : List E2) : ordL (ordL l) = ordL l := by
  have : ordL (ordL l) = srt (ordL l) := by show srt ((ordL l).map normE) = _; rw [ordL_norm]
  rw [this]
  exact (srt_unique (List.Perm.refl _) (srt_srtd _)).symm

theorem okE_norm (n : Int) (e : E2) : okE n (normE e) = okE n e := by
  have h : ∀ a b : E2, (okE n a = true ↔ okE n b = true) → okE n a = okE n b := fun a b h => Bool.eq_iff_iff.2 h
  refine h _ _ ?_
  unfold okE normE
  simp only [Bool.and_eq_true, Bool.not_eq_true', decide_eq_false_iff_not]
  omega
theorem okE_swap (n : Int) (e : E2) : okE n (swapE e) = okE n e := by
  rw [← okE_norm n (swapE e), normE_swap, okE_norm]
theorem formed_of {n : Int} {l m : List E2} (h : formed n l = true) (hl : m.length = l.length) (hm : ∀ e ∈ m, okE n e = true) : formed n m = true := by
  unfold formed at h ⊢
  rw [Bool.and_eq_true] at h ⊢
  exact ⟨by rw [hl]; exact h.1, by rw [List.all_eq_true]; exact hm⟩
theorem formed_mem {n : Int} {l : List E2} (h : formed n l = true) : ∀ e ∈ l, okE n e = true := by
  unfold formed at h
  rw [Bool.and_eq_true, List.all_eq_true] at h
  exact h.2
theorem formed_ord {n : Int} {l : List E2} (h : formed n l = true) : formed n (ordL l) = true :=
  formed_of h (ordL_length l) (fun e he => by
    obtain ⟨x, hx, rfl⟩ := List.mem_map.1 ((ordL_perm l).mem_iff.1 he)
    rw [okE_norm]
    exact formed_mem h x hx)
theorem ordered_ord {n : Int} {l : List E2} (h : formed n l = true) : ordered n (ordL l) = true := by
  unfold ordered
  rw [formed_ord h, Bool.true_and, Bool.and_eq_true]
  refine ⟨?_, ?_⟩
  · rw [sortedE_iff]
    intro i hi
    have := (List.pairwise_iff_getElem.1 (srt_srtd (l.map normE))) i (i + 1) (by show i < (ordL l).length; omega) hi (by omega)
    rw [← ltOf_cmp] at this
    exact of_decide_eq_false this
  · unfold straight
    rw [Bool.not_eq_true', List.any_eq_false]
    intro e he
    obtain ⟨x, _, rfl⟩ := List.mem_map.1 ((ordL_perm l).mem_iff.1 he)
    have := normE_le x
    simp only [decide_eq_true_eq]
    omega

/-! Degrees -/
theorem cnt_perm {l m : List E2} (h : l.Perm m) (v : Int) : cnt l v = cnt m v := by
  induction h with
  | nil => rfl
  | cons x _ ih => simp only [cnt, ih]
  | swap x y l => simp only [cnt]; omega
  | trans _ _ ih1 ih2 => rw [ih1, ih2]
theorem cnt_norm (l : List E2) (v : Int) : cnt (l.map normE) v = cnt l v := by
  induction l with
  | nil => rfl
  | cons e l ih =>
    simp only [List.map_cons, cnt, ih]
    congr 1
    unfold normE
    by_cases h : e.1 ≤ e.2
    · rw [Int.min_eq_left h, Int.max_eq_right h]
    · rw [Int.min_eq_right (by omega), Int.max_eq_left (by omega), Nat.add_comm]
theorem cnt_ord (l : List E2) (v : Int) : cnt (ordL l) v = cnt l v := by
  rw [cnt_perm (ordL_perm l), cnt_norm]
theorem degI_ord (N : Nat) (l : List E2) : degI N (ordL l) = degI N l := by
  unfold degI
  exact List.map_congr_left fun i _ => by rw [cnt_ord]

def sumTo (l : List E2) : Nat → Nat
  | 0 => 0
  | k + 1 => sumTo l k + cnt l (k : Int)
theorem sumTo_nil (k : Nat) : sumTo [] k = 0 := by
  induction k with
  | zero => rfl
  | succ k ih => simp [sumTo, ih, cnt]
theorem sumTo_cons (e : E2) (l : List E2) (k : Nat) : sumTo (e :: l) k = sumTo l k + ((if 0 ≤ e.1 ∧ e.1 < k then 1 else 0) + (if 0 ≤ e.2 ∧ e.2 < k then 1 else 0)) := by
  induction k with
  | zero => simp only [sumTo]; split <;> split <;> omega
  | succ k ih =>
    simp only [sumTo, ih, cnt]
    have a : ∀ x : Int, (if 0 ≤ x ∧ x < ((k + 1 : Nat) : Int) then 1 else 0) = (if 0 ≤ x ∧ x < (k : Int) then 1 else 0) + (if x = (k : Int) then 1 else 0) := fun x => by
      by_cases h1 : x = (k : Int)
      · rw [if_pos (by omega), if_neg (by omega), if_pos h1]
      · by_cases h2 : 0 ≤ x ∧ x < (k : Int)
        · rw [if_pos (by omega), if_pos h2, if_neg h1]
        · rw [if_neg (by omega), if_neg h2, if_neg h1]
    rw [a, a]
    omega
theorem sumTo_all {n : Int} {l : List E2} {N : Nat} (hn : n = (N : Int)) (h : ∀ e ∈ l, okE n e = true) : sumTo l N = 2 * l.length := by
  subst hn
  induction l with
  | nil => exact sumTo_nil N
  | cons e l ih =>
    rw [sumTo_cons, ih (fun x hx => h x (List.mem_cons_of_mem _ hx))]
    have he := h e (List.mem_cons_self ..)
    simp only [okE, Bool.and_eq_true, Bool.not_eq_true', decide_eq_false_iff_not] at he
    rw [if_pos (by omega), if_pos (by omega), List.length_cons]
    omega
theorem sumTo_le (l : List E2) (k : Nat) : sumTo l k ≤ 2 * l.length := by
  induction l with
  | nil => rw [sumTo_nil]; omega
  | cons e l ih =>
    rw [sumTo_cons, List.length_cons]
    split <;> split <;> omega

/-! Turned around -/
def turnL (l : List E2) (d k : Nat) : List E2 := (List.range k).map fun i => swapE (l.getD ((i + d) % l.length) (0, 0))
theorem turnL_length (l : List E2) (d k : Nat) : (turnL l d k).length = k := by simp [turnL]
theorem turnL_succ (l : List E2) (d k : Nat) (h : (k + d) % l.length < l.length) : turnL l d (k + 1) = turnL l d k ++ [swapE l[(k + d) % l.length]] := by
  simp [turnL, List.range_succ, h]
theorem turnL_all (l : List E2) (d : Nat) (h : 0 < l.length) : turnL l d l.length = (l.drop (d % l.length) ++ l.take (d % l.length)).map swapE := by
  have hr := Nat.mod_lt d h
  apply List.ext_getElem
  · rw [turnL_length]; simp; omega
  · intro i h1 h2
    rw [turnL_length] at h1
    simp only [turnL, List.getElem_map, List.getElem_range]
    congr 1
    have hm := Nat.mod_lt (i + d) h
    rw [List.getD_eq_getElem?_getD, List.getElem?_eq_getElem hm, Option.getD_some]
    have he : (i + d) % l.length = (i + d % l.length) % l.length := by rw [Nat.add_mod i d, Nat.add_mod i (d % l.length), Nat.mod_mod]
    by_cases hi : i < l.length - d % l.length
    · rw [List.getElem_append_left (by simp; omega), List.getElem_drop]
      congr 1
      rw [he, Nat.mod_eq_of_lt (by omega)]
      omega
    · rw [List.getElem_append_right (by simp; omega), List.getElem_take]
      congr 1
      rw [he, Nat.mod_eq_sub_mod (by omega), Nat.mod_eq_of_lt (by omega)]
      simp
      omega
theorem turnL_ord (l : List E2) (d : Nat) : ordL (turnL l d l.length) = ordL l := by
  rcases Nat.eq_zero_or_pos l.length with h | h
  · obtain rfl := List.eq_nil_of_length_eq_zero h
    rfl
  · rw [turnL_all l d h]
    apply ordL_congr
    rw [List.map_map, List.map_congr_left (f := normE ∘ swapE) (g := normE) (fun e _ => normE_swap e)]
    refine List.Perm.map _ ?_
    exact List.perm_append_comm.trans (by rw [List.take_append_drop])
theorem turnL_formed {n : Int} {l : List E2} (d : Nat) (h : formed n l = true) : formed n (turnL l d l.length) = true := by
  rcases Nat.eq_zero_or_pos l.length with h0 | h0
  · obtain rfl := List.eq_nil_of_length_eq_zero h0
    exact h
  · refine formed_of h (turnL_length _ _ _) ?_
    rw [turnL_all l d h0]
    intro e he
    obtain ⟨x, hx, rfl⟩ := List.mem_map.1 he
    rw [okE_swap]
    refine formed_mem h x ?_
    rcases List.mem_append.1 hx with h1 | h1
    · exact List.mem_of_mem_drop h1
    · exact List.mem_of_mem_take h1

end Go.Proofs.Ytlepmefknglkeaa.Gr
