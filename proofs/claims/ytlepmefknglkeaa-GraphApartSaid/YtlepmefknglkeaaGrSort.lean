/- slices.SortFunc at edges: the row holds the edges in order. -/
import Derived.Test.YtlepmefknglkeaaGrCmp
set_option linter.unusedVariables false
namespace Go.Proofs.Ytlepmefknglkeaa.Gr
open Go.RowKit Go.Sort

theorem ltOf_cmp (p q : E2) : ltOf cmpE p q = lessE p q := rfl
theorem lessE_iff (p q : E2) : lessE p q = true ↔ (p.1 < q.1 ∨ (p.1 = q.1 ∧ p.2 < q.2)) := by
  obtain ⟨u, v⟩ := p
  obtain ⟨x, y⟩ := q
  by_cases h1 : u < x
  · simp [lessE_t1 h1, h1]
  · by_cases h2 : u = x
    · subst h2
      by_cases h3 : v < y
      · simp [lessE_t2 h3, h3]
      · simp [lessE_f2 h3, h3]
    · simp [lessE_f1 h1 h2, h1, h2]
theorem lessE_not (p q : E2) : lessE p q = false ↔ ¬ (p.1 < q.1 ∨ (p.1 = q.1 ∧ p.2 < q.2)) := by
  rw [← lessE_iff]
  simp
theorem swoE : SWO (ltOf cmpE) where
  irrefl x := by rw [ltOf_cmp, lessE_not]; omega
  trans x y z h1 h2 := by rw [ltOf_cmp, lessE_iff] at *; omega
  ntrans x y z h1 h2 := by rw [ltOf_cmp, lessE_not] at *; omega
theorem totE (x y : E2) (h1 : ltOf cmpE x y = false) (h2 : ltOf cmpE y x = false) : x = y := by
  rw [ltOf_cmp, lessE_not] at h1 h2
  exact Prod.ext (by omega) (by omega)

/-- In order. -/
def srt (l : List E2) : List E2 := l.mergeSort fun x y => !lessE y x
theorem srt_length (l : List E2) : (srt l).length = l.length := by simp [srt]

theorem flatK_flatE (l : List E2) : flatK encE 2 l.toArray = (flatE l).toArray := by
  apply Array.ext_getElem?
  intro t
  by_cases ht : t < l.length * 2
  · have hs : t < (flatK encE 2 l.toArray).size := by rw [size_flatK]; simpa using ht
    have h2 : t / 2 < l.length := by omega
    have h1 := get_flatK encE 2 l.toArray t (by simpa using ht)
    rw [getElem!_pos _ t hs, getElem!_pos l.toArray (t / 2) (by simpa using h2)] at h1
    rw [Array.getElem?_eq_getElem hs, h1]
    have hg := flatE_get l (t / 2) h2
    simp only [List.getElem_toArray, List.getElem?_toArray]
    rcases Nat.mod_two_eq_zero_or_one t with hm | hm
    · have e : (flatE l)[t]? = (flatE l)[t / 2 * 2]? := congrArg (fun i => (flatE l)[i]?) (by omega)
      rw [hm, e, hg.1]
      rfl
    · have e : (flatE l)[t]? = (flatE l)[t / 2 * 2 + 1]? := congrArg (fun i => (flatE l)[i]?) (by omega)
      rw [hm, e, hg.2]
      rfl
  · rw [Array.getElem?_eq_none (by rw [size_flatK]; simp; omega), Array.getElem?_eq_none (by simp [flatE_length]; omega)]

theorem take_cell {cur : Array Value} {xs : List Value} {n i : Nat} (h : cur.toList.take n = xs) (hi : i < n) : cur[i]? = xs[i]? := by
  rw [← h, List.getElem?_take_of_lt hi, Array.getElem?_toList]

set_option maxRecDepth 100000 in
theorem sort_edge (l : List E2) (g cap : Nat) (cur : Array Value) (w : World) (hB : Blk w g 36 cur) (hc : cur.toList.take (l.length * 2) = flatE l) (hl : l.length ≤ 1099511627776) :
    Calls Try.prog 44 #[.slice (some ⟨g, 0, none⟩) l.length cap, .func (.func 39) #[] #[]] w fun e w' =>
      e = .returned (.tuple #[]) ∧ ∃ cur', Blk w' g 36 cur' ∧ cur'.size = cur.size ∧ cur'.toList.take (l.length * 2) = flatE (srt l) ∧ Chg (fun j => j = g) w w' := by
  have eg : ∀ args w, (callFunc 39 args).run Try.prog w = .ok (.enter 39 args) w := enters_of Try.func39 (by kernel_rfl) rfl
  have hcmp : CmpLays Try.prog 39 #[] encE 2 cmpE g 0 l.toArray.size w :=
    fun _ _ _ _ x y => (compare_grown x.1 x.2 y.1 y.2 _).mono fun _ _ ⟨h1, q, os, h2⟩ => ⟨h1, q, os, h2⟩
  have hszc : l.length * 2 ≤ cur.size := by
    have := congrArg List.length hc
    rw [List.length_take, flatE_length] at this
    simp at this
    omega
  have hH : HoldsK encE 2 w g 0 l.toArray := by
    unfold HoldsK
    rw [flatK_flatE]
    intro j hj
    have hj' : j < l.length * 2 := by simpa [flatE_length] using hj
    refine ⟨?_, by rw [Nat.zero_add]; exact hB.frozen j⟩
    rw [Nat.zero_add, hB.cell, take_cell hc hj']
    rw [getElem!_pos _ j hj]
    simp [flatE_length, hj']
  have h := AnyQ.slices_SortFunc_total sortE 2 Try.isAgg36 Try.sizeOf36 encE (fun _ => rfl) (fun x v hv => by simp [encE] at hv; rcases hv with rfl | rfl <;> rfl) cmpE swoE 39 #[] g 0 cap l.toArray w eg hcmp hH hB.lt (by simp; omega) totE
  refine h.mono ?_
  rintro e w' ⟨he, n, os, rfl⟩
  have hs : (l.toArray.toList.mergeSort fun x y => !ltOf cmpE y x) = srt l := rfl
  rw [hs]
  refine ⟨he, putCells id 0 (flatE (srt l)).toArray cur, ?_, by simp [putCells], ?_, ?_⟩
  · unfold sortWorldK putRowK
    rw [flatK_flatE]
    unfold Blk at hB ⊢
    rw [heap_grow_old _ _ (by simpa using (Array.getElem?_eq_some_iff.1 hB).1)]
    simp [putRow, mapBlock, Sort.ahead, Array.getElem?_modify, hB, onCells]
  · apply List.ext_getElem?
    intro j
    by_cases hj : j < l.length * 2
    · rw [List.getElem?_take_of_lt hj, Array.getElem?_toList]
      simp [putCells, flatE_length, srt_length, hj, show j < cur.size by omega]
    · rw [List.getElem?_take_eq_none (by omega), List.getElem?_eq_none (by simp [flatE_length, srt_length]; omega)]
  · unfold sortWorldK putRowK
    refine ⟨rfl, rfl, rfl, by simp [Sort.grow, putRow, mapBlock, Sort.ahead], fun k hk hne => ?_⟩
    rw [heap_grow_old _ _ (by simpa using hk)]
    have : g ≠ k := fun e => hne e.symm
    simp [putRow, mapBlock, Sort.ahead, Array.getElem?_modify, this]

end Go.Proofs.Ytlepmefknglkeaa.Gr
