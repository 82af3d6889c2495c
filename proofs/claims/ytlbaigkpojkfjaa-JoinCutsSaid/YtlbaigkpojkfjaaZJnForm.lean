/- The reference's formed orders are the program's. -/
import Derived.Test.YtlbaigkpojkfjaaZJnRef11
set_option linter.unusedVariables false
namespace Go.Proofs.Ytlbaigkpojkfjaa.Fl
open Go.RowKit

theorem colI_eq {x y : Int} (hx : x ≠ 0) (hx5 : -5 ≤ x ∧ x ≤ 5) (hy5 : -5 ≤ y ∧ y ≤ 5) : (colI y == colI x) = true ↔ y ≠ 0 ∧ y.natAbs = x.natAbs := by
  unfold colI
  rw [beq_iff_eq]
  constructor
  · intro h
    refine ⟨fun h0 => ?_, ?_⟩
    · subst h0
      split at h <;> split at h <;> omega
    · split at h <;> split at h <;> omega
  · rintro ⟨h1, h2⟩
    split <;> split <;> omega
theorem fgo_rgo : ∀ (ks prev : List Int) (b : Bool) (sn : List Bool), sn.length = 6 → (∀ y ∈ prev, -5 ≤ y ∧ y ≤ 5) → (b = true ↔ ∃ y ∈ prev, y = 0) → (∀ m, m < 6 → (sn.getD m false = true ↔ ∃ y ∈ prev, y ≠ 0 ∧ y.natAbs = m)) → fgo b sn ks = rgo prev ks
  | [], prev, b, sn, _, _, _, _ => rfl
  | x :: xs, prev, b, sn, hl, hr, hb, hs => by
    unfold fgo rgo
    by_cases hrg : x < -5 ∨ 5 < x
    · rw [if_pos hrg, if_pos (.inr hrg)]
    · rw [if_neg hrg]
      have hx5 : -5 ≤ x ∧ x ≤ 5 := by omega
      have hr2 : ∀ y ∈ prev ++ [x], -5 ≤ y ∧ y ≤ 5 := fun y hy => by
        rcases List.mem_append.1 hy with h | h
        · exact hr y h
        · rw [List.mem_singleton.1 h]; exact hx5
      by_cases hx0 : x = 0
      · have hrf : rfi prev x = true := by
          unfold rfi
          rw [List.all_eq_true]
          intro y _
          simp [hx0]
        rw [if_neg (by rintro (⟨_, h⟩ | h | h); exact h hx0; omega; omega), if_pos hx0, if_pos hrf]
        refine fgo_rgo xs (prev ++ [x]) true sn hl hr2 ⟨fun _ => ⟨x, by simp, hx0⟩, fun _ => rfl⟩ (fun m hm => ?_)
        rw [hs m hm]
        constructor
        · rintro ⟨y, h1, h2⟩
          exact ⟨y, List.mem_append_left _ h1, h2⟩
        · rintro ⟨y, h1, h2, h3⟩
          rcases List.mem_append.1 h1 with h | h
          · exact ⟨y, h, h2, h3⟩
          · rw [List.mem_singleton.1 h] at h2; exact absurd hx0 h2
      · have hxm : x.natAbs < 6 := by omega
        have hkey : rfi prev x = true ↔ ¬ (b = true) ∧ ¬ (sn.getD x.natAbs false = true) := by
          rw [hb, hs _ hxm]
          unfold rfi
          rw [List.all_eq_true]
          constructor
          · intro h
            refine ⟨?_, ?_⟩
            · rintro ⟨y, h1, h2⟩
              have := h y h1
              simp [h2, hx0] at this
            · rintro ⟨y, h1, h2⟩
              have := h y h1
              have hc := (colI_eq hx0 hx5 (hr y h1)).2 h2
              simp [hc, hx0] at this
          · rintro ⟨h1, h2⟩ y hy
            have hy0 : y ≠ 0 := fun e => h1 ⟨y, hy, e⟩
            have hc : ¬ ((colI y == colI x) = true) := fun e => h2 ⟨y, hy, (colI_eq hx0 hx5 (hr y hy)).1 e⟩
            simp [hy0, hx0]
            simpa using hc
        by_cases hbt : b = true
        · rw [if_pos (.inl ⟨hbt, hx0⟩), if_neg (fun h => (hkey.1 h).1 hbt)]
        · rw [if_neg (by rintro (⟨h, _⟩ | h | h); exact hbt h; omega; omega), if_neg hx0]
          by_cases hst : sn.getD x.natAbs false = true
          · rw [if_pos hst, if_neg (fun h => (hkey.1 h).2 hst)]
          · rw [if_neg hst, if_pos (hkey.2 ⟨hbt, hst⟩)]
            refine fgo_rgo xs (prev ++ [x]) b _ (by rw [List.length_set]; exact hl) hr2 ?_ (fun m hm => ?_)
            · rw [hb]
              constructor
              · rintro ⟨y, h1, h2⟩
                exact ⟨y, List.mem_append_left _ h1, h2⟩
              · rintro ⟨y, h1, h2⟩
                rcases List.mem_append.1 h1 with h | h
                · exact ⟨y, h, h2⟩
                · rw [List.mem_singleton.1 h] at h2; exact absurd h2 hx0
            · by_cases hmx : m = x.natAbs
              · subst hmx
                rw [List.getD_eq_getElem?_getD, List.getElem?_set_self (by omega)]
                simp only [Option.getD_some, true_iff]
                exact ⟨x, by simp, hx0, rfl⟩
              · rw [List.getD_eq_getElem?_getD, List.getElem?_set_ne (fun e => hmx e.symm), ← List.getD_eq_getElem?_getD, hs m hm]
                constructor
                · rintro ⟨y, h1, h2⟩
                  exact ⟨y, List.mem_append_left _ h1, h2⟩
                · rintro ⟨y, h1, h2, h3⟩
                  rcases List.mem_append.1 h1 with h | h
                  · exact ⟨y, h, h2, h3⟩
                  · rw [List.mem_singleton.1 h] at h3; exact absurd h3.symm hmx
theorem formedR_eq (o : List Int) : formedR o = formedO o := by
  unfold formedR formedO
  refine (fgo_rgo o [] false _ rfl (fun y hy => by cases hy) ⟨(fun h => by cases h), (fun ⟨y, h, _⟩ => by cases h)⟩ (fun m hm => ⟨(fun h => ?_), (fun ⟨y, h, _⟩ => by cases h)⟩)).symm
  obtain rfl | rfl | rfl | rfl | rfl | rfl : m = 0 ∨ m = 1 ∨ m = 2 ∨ m = 3 ∨ m = 4 ∨ m = 5 := by omega
  all_goals cases h

end Go.Proofs.Ytlbaigkpojkfjaa.Fl
