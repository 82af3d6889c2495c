/- What cut bytes are read as, plainly. -/
import Derived.Test.YtlepmefknglkeaaFmtDecP
import Derived.Test.YtlepmefknglkeaaFmtOnlyP
set_option linter.unusedVariables false
namespace Go.Proofs.Ytlepmefknglkeaa.Gr
open Var

/-! One number, of cut bytes and of longer ones -/
theorem tk_cut1 (l : List Nat) : ∀ (i y k : Nat), (tk l i y).2.2 = 0 → (tk l i y).2.1 ≤ i + k → tk (l.take k) i y = tk l i y := by
  induction l with
  | nil => intro i y k h; simp [tk] at h
  | cons c l ih =>
    intro i y k h hk
    rw [tk] at h hk ⊢
    by_cases hE : i = 9 ∧ c ≠ 1 ∨ 0 < i ∧ c = 0
    · rw [if_pos hE] at h; simp at h
    · rw [if_neg hE] at h hk ⊢
      by_cases h8 : c < 128
      · rw [if_pos h8] at h hk ⊢
        simp only at hk
        obtain ⟨k, rfl⟩ : ∃ j, k = j + 1 := ⟨k - 1, by omega⟩
        rw [List.take_succ_cons, tk, if_neg hE, if_pos h8]
      · rw [if_neg h8] at h hk ⊢
        have hge := tk_len l (i + 1) (y + c % 128 * 128 ^ i)
        obtain ⟨k, rfl⟩ : ∃ j, k = j + 1 := ⟨k - 1, by omega⟩
        rw [List.take_succ_cons, tk, if_neg hE, if_neg h8]
        exact ih _ _ k h (by omega)
theorem tk_cut2 (l : List Nat) : ∀ (i y k : Nat), i + k < (tk l i y).2.1 ∨ ((tk l i y).2.2 ≠ 0 ∧ i + k ≤ (tk l i y).2.1) → tk (l.take k) i y = (0, i + k, 3) := by
  induction l with
  | nil =>
    intro i y k h
    simp [tk] at h
    obtain rfl : k = 0 := by omega
    rfl
  | cons c l ih =>
    intro i y k h
    cases k with
    | zero => rfl
    | succ k =>
      rw [tk] at h
      rw [List.take_succ_cons, tk]
      by_cases hE : i = 9 ∧ c ≠ 1 ∨ 0 < i ∧ c = 0
      · rw [if_pos hE] at h; simp only at h; omega
      · rw [if_neg hE] at h ⊢
        by_cases h8 : c < 128
        · rw [if_pos h8] at h; simp only at h; omega
        · rw [if_neg h8] at h ⊢
          rw [ih _ _ k (by omega)]
          simp only [Prod.mk.injEq, and_true, true_and]
          omega
theorem tk_more (l s : List Nat) : ∀ (i y : Nat), (tk l i y).2.2 = 0 → tk (l ++ s) i y = tk l i y := by
  induction l with
  | nil => intro i y h; simp [tk] at h
  | cons c l ih =>
    intro i y h
    rw [List.cons_append]
    rw [tk] at h ⊢
    rw [tk]
    by_cases hE : i = 9 ∧ c ≠ 1 ∨ 0 < i ∧ c = 0
    · rw [if_pos hE] at h; simp at h
    · rw [if_neg hE] at h ⊢
      rw [if_neg hE]
      by_cases h8 : c < 128
      · rw [if_pos h8, if_pos h8]
      · rw [if_neg h8] at h ⊢
        rw [if_neg h8]
        exact ih _ _ h
theorem tk_pos (l : List Nat) (i y : Nat) (h : (tk l i y).2.2 = 0) : i < (tk l i y).2.1 := by
  cases l with
  | nil => simp [tk] at h
  | cons c l =>
    rw [tk] at h ⊢
    split at h
    · simp at h
    · rename_i h1
      rw [if_neg h1]
      split
      · simp only; omega
      · have := tk_len l (i + 1) (y + c % 128 * 128 ^ i)
        omega

theorem take_cut1 {b : List Nat} {at_ : Int} {k : Nat} (h0 : 0 ≤ at_) (h : (take b at_).2.2 = 0) (hk : (take b at_).2.1 ≤ k) : take (b.take k) at_ = take b at_ := by
  unfold take at h hk ⊢
  by_cases hr : at_ < 0 ∨ (b.length : Int) < at_
  · rw [if_pos hr] at h; simp at h
  · rw [if_neg hr] at h hk ⊢
    simp only at h hk
    have h1 : (tk (b.drop at_.toNat) 0 0).2.2 = 0 := by omega
    have h2 := tk_len (b.drop at_.toNat) 0 0
    have h3 := tk_cut1 (b.drop at_.toNat) 0 0 (k - at_.toNat) h1 (by omega)
    rw [if_neg (by rw [List.length_take]; omega), List.drop_take, h3]
theorem take_cut2 {b : List Nat} {at_ : Int} {k : Nat} (h0 : 0 ≤ at_) (h1 : at_ ≤ k) (h2 : k ≤ b.length) (h : (k : Int) < (take b at_).2.1 ∨ ((take b at_).2.2 ≠ 0 ∧ (k : Int) ≤ (take b at_).2.1)) : take (b.take k) at_ = (0, (k : Int), 3) := by
  unfold take at h ⊢
  have hr : ¬ (at_ < 0 ∨ (b.length : Int) < at_) := by omega
  rw [if_neg hr] at h
  simp only at h
  have h3 := tk_cut2 (b.drop at_.toNat) 0 0 (k - at_.toNat) (by omega)
  rw [if_neg (by rw [List.length_take]; omega), List.drop_take, h3]
  simp only [Prod.mk.injEq]
  refine ⟨rfl, by omega, rfl⟩
theorem take_more {b s : List Nat} {at_ : Int} (h : (take b at_).2.2 = 0) : take (b ++ s) at_ = take b at_ := by
  unfold take at h ⊢
  by_cases hr : at_ < 0 ∨ (b.length : Int) < at_
  · rw [if_pos hr] at h; simp at h
  · rw [if_neg hr] at h ⊢
    simp only at h
    rw [if_neg (by rw [List.length_append]; omega), List.drop_append_of_le_length (by omega), tk_more _ _ _ _ (by omega)]
theorem take_pos {b : List Nat} {at_ : Int} (h : (take b at_).2.2 = 0) : at_ < (take b at_).2.1 := by
  unfold take at h ⊢
  by_cases hr : at_ < 0 ∨ (b.length : Int) < at_
  · rw [if_pos hr] at h; simp at h
  · rw [if_neg hr] at h ⊢
    simp only at h ⊢
    have := tk_pos (b.drop at_.toNat) 0 0 (by omega)
    omega
theorem take_ge {b : List Nat} {at_ : Int} (h : at_ ≤ b.length) : at_ ≤ (take b at_).2.1 := by
  unfold take
  by_cases hr : at_ < 0 ∨ (b.length : Int) < at_
  · rw [if_pos hr]; simp only; omega
  · rw [if_neg hr]
    simp only
    omega

theorem num_cut1 {b : List Nat} {at_ most : Int} {k : Nat} (h0 : 0 ≤ at_) (h : (num b at_ most).2.2 = false) (hk : (num b at_ most).2.1 ≤ k) : num (b.take k) at_ most = num b at_ most := by
  unfold num at h hk ⊢
  by_cases h1 : (take b at_).2.2 ≠ 0
  · rw [if_pos h1] at h; cases h
  · rw [if_neg h1] at h hk ⊢
    by_cases h2 : most < (take b at_).1
    · rw [if_pos h2] at h; cases h
    · rw [if_neg h2] at hk ⊢
      rw [take_cut1 h0 (by omega) hk, if_neg h1, if_neg h2]
theorem num_cut2 {b : List Nat} {at_ most : Int} {k : Nat} (h0 : 0 ≤ at_) (h1 : at_ ≤ k) (h2 : k ≤ b.length) (h : (k : Int) < (num b at_ most).2.1 ∨ ((num b at_ most).2.2 = true ∧ (k : Int) ≤ (num b at_ most).2.1)) : num (b.take k) at_ most = (0, (k : Int), true) := by
  have key : take (b.take k) at_ = (0, (k : Int), 3) := by
    refine take_cut2 h0 h1 h2 ?_
    unfold num at h
    by_cases h3 : (take b at_).2.2 ≠ 0
    · rw [if_pos h3] at h
      exact .inr ⟨h3, by simp only at h; omega⟩
    · rw [if_neg h3] at h
      have h5 := take_pos (b := b) (at_ := at_) (by omega)
      by_cases h4 : most < (take b at_).1
      · rw [if_pos h4] at h; simp only at h; omega
      · rw [if_neg h4] at h
        rcases h with h | ⟨h, _⟩
        · exact .inl h
        · cases h
  unfold num
  rw [key]
  rfl
theorem num_more {b s : List Nat} {at_ most : Int} (h : (num b at_ most).2.2 = false) : num (b ++ s) at_ most = num b at_ most := by
  unfold num at h ⊢
  by_cases h1 : (take b at_).2.2 ≠ 0
  · rw [if_pos h1] at h; cases h
  · rw [if_neg h1] at h ⊢
    rw [take_more (by omega), if_neg h1]
theorem num_ge {b : List Nat} {at_ most : Int} (h : at_ ≤ b.length) : at_ ≤ (num b at_ most).2.1 := by
  unfold num
  by_cases h1 : (take b at_).2.2 ≠ 0
  · rw [if_pos h1]; exact take_ge h
  · rw [if_neg h1]
    have := take_pos (b := b) (at_ := at_) (by omega)
    by_cases h2 : most < (take b at_).1
    · rw [if_pos h2]; simp only; omega
    · rw [if_neg h2]; simp only; omega
theorem num_le (b : List Nat) (at_ most : Int) (h : 0 ≤ at_ ∧ at_ ≤ b.length) : (num b at_ most).2.1 ≤ b.length := by
  have h0 := take_end b at_
  unfold num
  split
  · exact h0.2
  · split
    · simp only; omega
    · exact h0.2

/-! A row, of cut bytes -/
theorem row_ge (b : List Nat) (n u : Int) : ∀ (cnt : Nat) (v p : Int), 0 ≤ p → p ≤ b.length → p ≤ (decRow b n u cnt v p).2.1 ∧ (decRow b n u cnt v p).2.1 ≤ b.length := by
  intro cnt
  induction cnt with
  | zero => intro v p h0 h; exact ⟨Int.le_refl _, h⟩
  | succ k ih =>
    intro v p h0 h
    have h1 := num_ge (most := n - 1 - v) h
    have h2 := num_le b p (n - 1 - v) ⟨h0, h⟩
    by_cases hb : (num b p (n - 1 - v)).2.2 = true
    · rw [decRow_bad hb]; exact ⟨h1, h2⟩
    · rw [decRow_good (by simpa using hb)]
      have := ih (v + (num b p (n - 1 - v)).1) (num b p (n - 1 - v)).2.1 (by omega) h2
      simp only
      omega
theorem row_cut1 {b : List Nat} {n u : Int} {k : Nat} : ∀ (cnt : Nat) (v p : Int), 0 ≤ p → p ≤ b.length → (decRow b n u cnt v p).2.2 = false → (decRow b n u cnt v p).2.1 ≤ k → decRow (b.take k) n u cnt v p = decRow b n u cnt v p := by
  intro cnt
  induction cnt with
  | zero => intro v p _ _ _ _; rfl
  | succ c ih =>
    intro v p h0 hp h hk
    have h2 := num_le b p (n - 1 - v) ⟨h0, hp⟩
    have h3 := num_ge (most := n - 1 - v) hp
    cases hb : (num b p (n - 1 - v)).2.2
    · rw [decRow_good hb] at h hk ⊢
      have hg := row_ge b n u c (v + (num b p (n - 1 - v)).1) (num b p (n - 1 - v)).2.1 (by omega) h2
      have hn : num (b.take k) p (n - 1 - v) = num b p (n - 1 - v) := num_cut1 h0 hb (by simp only at hk; omega)
      rw [decRow_good (by rw [hn]; exact hb), hn, ih _ _ (by omega) h2 h hk]
    · rw [decRow_bad hb] at h; cases h
theorem row_cut2 {b : List Nat} {n u : Int} {k : Nat} (hk : k ≤ b.length) : ∀ (cnt : Nat) (v p : Int), 0 ≤ p → p ≤ k → ((k : Int) < (decRow b n u cnt v p).2.1 ∨ ((decRow b n u cnt v p).2.2 = true ∧ (k : Int) ≤ (decRow b n u cnt v p).2.1)) →
    (decRow (b.take k) n u cnt v p).2 = ((k : Int), true) := by
  intro cnt
  induction cnt with
  | zero =>
    intro v p _ hp h
    simp [decRow] at h
    omega
  | succ c ih =>
    intro v p h0 hp h
    cases hb : (num b p (n - 1 - v)).2.2
    · rw [decRow_good hb] at h
      by_cases hlt : (k : Int) < (num b p (n - 1 - v)).2.1
      · have hn := num_cut2 h0 hp hk (.inl hlt) (most := n - 1 - v)
        rw [decRow_bad (by rw [hn]), hn]
      · have hn : num (b.take k) p (n - 1 - v) = num b p (n - 1 - v) := num_cut1 h0 hb (by omega)
        have h3 := num_ge (b := b) (at_ := p) (most := n - 1 - v) (by omega)
        rw [decRow_good (by rw [hn]; exact hb), hn]
        exact ih _ _ (by omega) (by omega) h
    · rw [decRow_bad hb] at h
      have hn := num_cut2 h0 hp hk (.inr ⟨hb, by simp at h; omega⟩) (most := n - 1 - v)
      rw [decRow_bad (by rw [hn]), hn]
theorem row_more {b s : List Nat} {n u : Int} : ∀ (cnt : Nat) (v p : Int), (decRow b n u cnt v p).2.2 = false → decRow (b ++ s) n u cnt v p = decRow b n u cnt v p := by
  intro cnt
  induction cnt with
  | zero => intro v p _; rfl
  | succ c ih =>
    intro v p h
    cases hb : (num b p (n - 1 - v)).2.2
    · rw [decRow_good hb] at h ⊢
      have hn : num (b ++ s) p (n - 1 - v) = num b p (n - 1 - v) := num_more hb
      rw [decRow_good (by rw [hn]; exact hb), hn, ih _ _ h]
    · rw [decRow_bad hb] at h; cases h

/-! The rows, of cut bytes -/
theorem rows_bad1 {b : List Nat} {n m : Int} {j u : Nat} {es : List E2} {p : Int} (h : (num b p (m - es.length)).2.2 = true) : decRows b n m (j + 1) u es p = (es, (num b p (m - es.length)).2.1, true) := by
  rw [decRows, if_pos h]
theorem rows_bad2 {b : List Nat} {n m : Int} {j u : Nat} {es : List E2} {p : Int} (h : (num b p (m - es.length)).2.2 = false) (h2 : j = 0 ∧ (num b p (m - es.length)).1 ≠ m - es.length) :
    decRows b n m (j + 1) u es p = (es, (num b p (m - es.length)).2.1 - 1, true) := by
  rw [decRows, if_neg (by rw [h]; simp), if_pos h2]
theorem rows_bad3 {b : List Nat} {n m : Int} {j u : Nat} {es : List E2} {p : Int} (h : (num b p (m - es.length)).2.2 = false) (h2 : ¬ (j = 0 ∧ (num b p (m - es.length)).1 ≠ m - es.length))
    (h3 : (decRow b n u (num b p (m - es.length)).1.toNat u (num b p (m - es.length)).2.1).2.2 = true) :
    decRows b n m (j + 1) u es p = (es, (decRow b n u (num b p (m - es.length)).1.toNat u (num b p (m - es.length)).2.1).2.1, true) := by
  rw [decRows, if_neg (by rw [h]; simp), if_neg h2, if_pos h3]
theorem rows_good {b : List Nat} {n m : Int} {j u : Nat} {es : List E2} {p : Int} (h : (num b p (m - es.length)).2.2 = false) (h2 : ¬ (j = 0 ∧ (num b p (m - es.length)).1 ≠ m - es.length))
    (h3 : (decRow b n u (num b p (m - es.length)).1.toNat u (num b p (m - es.length)).2.1).2.2 = false) :
    decRows b n m (j + 1) u es p = decRows b n m j (u + 1) (es ++ (decRow b n u (num b p (m - es.length)).1.toNat u (num b p (m - es.length)).2.1).1) (decRow b n u (num b p (m - es.length)).1.toNat u (num b p (m - es.length)).2.1).2.1 := by
  rw [decRows, if_neg (by rw [h]; simp), if_neg h2, if_neg (by rw [h3]; simp)]
/-- The four ways of a row. -/
theorem rows_ways (b : List Nat) (n m : Int) (j u : Nat) (es : List E2) (p : Int) :
    (num b p (m - es.length)).2.2 = true ∨ ((num b p (m - es.length)).2.2 = false ∧ j = 0 ∧ (num b p (m - es.length)).1 ≠ m - es.length) ∨
      ((num b p (m - es.length)).2.2 = false ∧ ¬ (j = 0 ∧ (num b p (m - es.length)).1 ≠ m - es.length) ∧ (decRow b n u (num b p (m - es.length)).1.toNat u (num b p (m - es.length)).2.1).2.2 = true) ∨
      ((num b p (m - es.length)).2.2 = false ∧ ¬ (j = 0 ∧ (num b p (m - es.length)).1 ≠ m - es.length) ∧ (decRow b n u (num b p (m - es.length)).1.toNat u (num b p (m - es.length)).2.1).2.2 = false) := by
  cases (num b p (m - es.length)).2.2
  · by_cases h2 : j = 0 ∧ (num b p (m - es.length)).1 ≠ m - es.length
    · exact .inr (.inl ⟨rfl, h2⟩)
    · cases h3 : (decRow b n u (num b p (m - es.length)).1.toNat u (num b p (m - es.length)).2.1).2.2
      · exact .inr (.inr (.inr ⟨rfl, h2, rfl⟩))
      · exact .inr (.inr (.inl ⟨rfl, h2, rfl⟩))
  · exact .inl rfl
theorem num_pos {b : List Nat} {at_ most : Int} (h : (num b at_ most).2.2 = false) : at_ < (num b at_ most).2.1 := by
  unfold num at h ⊢
  by_cases h1 : (take b at_).2.2 ≠ 0
  · rw [if_pos h1] at h; cases h
  · rw [if_neg h1] at h ⊢
    by_cases h2 : most < (take b at_).1
    · rw [if_pos h2] at h; cases h
    · rw [if_neg h2]
      exact take_pos (by omega)
theorem rows_ge (b : List Nat) (n m : Int) : ∀ (j u : Nat) (es : List E2) (p : Int), 0 ≤ p → p ≤ b.length → p ≤ (decRows b n m j u es p).2.1 ∧ (decRows b n m j u es p).2.1 ≤ b.length := by
  intro j
  induction j with
  | zero => intro u es p h0 h; exact ⟨Int.le_refl _, h⟩
  | succ j ih =>
    intro u es p h0 h
    have h2 := num_le b p (m - es.length) ⟨h0, h⟩
    have h3 := num_ge (most := m - es.length) h
    rcases rows_ways b n m j u es p with h1 | ⟨h1, h4⟩ | ⟨h1, h4, h5⟩ | ⟨h1, h4, h5⟩
    · rw [rows_bad1 h1]; exact ⟨h3, h2⟩
    · have h6 := num_pos h1
      rw [rows_bad2 h1 h4]
      simp only
      omega
    · have h6 := row_ge b n u (num b p (m - es.length)).1.toNat u (num b p (m - es.length)).2.1 (by omega) h2
      rw [rows_bad3 h1 h4 h5]
      simp only
      omega
    · have h6 := row_ge b n u (num b p (m - es.length)).1.toNat u (num b p (m - es.length)).2.1 (by omega) h2
      rw [rows_good h1 h4 h5]
      have h7 := ih (u + 1) (es ++ (decRow b n u (num b p (m - es.length)).1.toNat u (num b p (m - es.length)).2.1).1) (decRow b n u (num b p (m - es.length)).1.toNat u (num b p (m - es.length)).2.1).2.1 (by omega) h6.2
      omega
theorem rows_cut1 {b : List Nat} {n m : Int} {k : Nat} : ∀ (j u : Nat) (es : List E2) (p : Int), 0 ≤ p → p ≤ b.length → (decRows b n m j u es p).2.2 = false → (decRows b n m j u es p).2.1 ≤ k → decRows (b.take k) n m j u es p = decRows b n m j u es p := by
  intro j
  induction j with
  | zero => intro u es p _ _ _ _; rfl
  | succ j ih =>
    intro u es p h0 hp h hk
    have h2 := num_le b p (m - es.length) ⟨h0, hp⟩
    have h3 := num_ge (most := m - es.length) hp
    rcases rows_ways b n m j u es p with h1 | ⟨h1, h4⟩ | ⟨h1, h4, h5⟩ | ⟨h1, h4, h5⟩
    · rw [rows_bad1 h1] at h; cases h
    · rw [rows_bad2 h1 h4] at h; cases h
    · rw [rows_bad3 h1 h4 h5] at h; cases h
    · have h6 := row_ge b n u (num b p (m - es.length)).1.toNat u (num b p (m - es.length)).2.1 (by omega) h2
      rw [rows_good h1 h4 h5] at h hk ⊢
      have h7 := rows_ge b n m j (u + 1) (es ++ (decRow b n u (num b p (m - es.length)).1.toNat u (num b p (m - es.length)).2.1).1) (decRow b n u (num b p (m - es.length)).1.toNat u (num b p (m - es.length)).2.1).2.1 (by omega) h6.2
      have hn : num (b.take k) p (m - es.length) = num b p (m - es.length) := num_cut1 h0 h1 (by omega)
      have hr := row_cut1 (k := k) (num b p (m - es.length)).1.toNat u (num b p (m - es.length)).2.1 (by omega) h2 h5 (by omega)
      rw [rows_good (by rw [hn]; exact h1) (by rw [hn]; exact h4) (by rw [hn, hr]; exact h5), hn, hr]
      exact ih _ _ _ (by omega) h6.2 h hk
theorem rows_cut2 {b : List Nat} {n m : Int} {k : Nat} (hk : k ≤ b.length) : ∀ (j u : Nat) (es : List E2) (p : Int), 0 ≤ p → p ≤ k → ((k : Int) < (decRows b n m j u es p).2.1 ∨ ((decRows b n m j u es p).2.2 = true ∧ (k : Int) ≤ (decRows b n m j u es p).2.1)) →
    (decRows (b.take k) n m j u es p).2 = ((k : Int), true) := by
  intro j
  induction j with
  | zero =>
    intro u es p _ hp h
    simp [decRows] at h
    omega
  | succ j ih =>
    intro u es p h0 hp h
    have h2 := num_le b p (m - es.length) ⟨h0, by omega⟩
    have h3 := num_ge (b := b) (at_ := p) (most := m - es.length) (by omega)
    rcases rows_ways b n m j u es p with h1 | ⟨h1, h4⟩ | hgo
    · rw [rows_bad1 h1] at h
      have hn := num_cut2 h0 hp hk (.inr ⟨h1, by simp at h; omega⟩) (most := m - es.length)
      rw [rows_bad1 (by rw [hn]), hn]
    · rw [rows_bad2 h1 h4] at h
      have hn := num_cut2 h0 hp hk (.inl (by simp only at h; omega)) (most := m - es.length)
      rw [rows_bad1 (by rw [hn]), hn]
    · have h1 : (num b p (m - es.length)).2.2 = false := by rcases hgo with h | h <;> exact h.1
      have h4 : ¬ (j = 0 ∧ (num b p (m - es.length)).1 ≠ m - es.length) := by rcases hgo with h | h <;> exact h.2.1
      by_cases hlt : (k : Int) < (num b p (m - es.length)).2.1
      · have hn := num_cut2 h0 hp hk (.inl hlt) (most := m - es.length)
        rw [rows_bad1 (by rw [hn]), hn]
      have hn : num (b.take k) p (m - es.length) = num b p (m - es.length) := num_cut1 h0 h1 (by omega)
      rcases hgo with ⟨-, -, h5⟩ | ⟨-, -, h5⟩
      · rw [rows_bad3 h1 h4 h5] at h
        have hr := row_cut2 (n := n) (u := u) hk (num b p (m - es.length)).1.toNat u (num b p (m - es.length)).2.1 (by omega) (by omega) (.inr ⟨h5, by simp at h; omega⟩)
        rw [rows_bad3 (by rw [hn]; exact h1) (by rw [hn]; exact h4) (by rw [hn, hr]), hn, hr]
      · rw [rows_good h1 h4 h5] at h
        by_cases hlt2 : (k : Int) < (decRow b n u (num b p (m - es.length)).1.toNat u (num b p (m - es.length)).2.1).2.1
        · have hr := row_cut2 (n := n) (u := u) hk (num b p (m - es.length)).1.toNat u (num b p (m - es.length)).2.1 (by omega) (by omega) (.inl hlt2)
          rw [rows_bad3 (by rw [hn]; exact h1) (by rw [hn]; exact h4) (by rw [hn, hr]), hn, hr]
        · have hr := row_cut1 (n := n) (u := u) (k := k) (num b p (m - es.length)).1.toNat u (num b p (m - es.length)).2.1 (by omega) h2 h5 (by omega)
          have h6 := row_ge b n u (num b p (m - es.length)).1.toNat u (num b p (m - es.length)).2.1 (by omega) h2
          rw [rows_good (by rw [hn]; exact h1) (by rw [hn]; exact h4) (by rw [hn, hr]; exact h5), hn, hr]
          exact ih _ _ _ (by omega) (by omega) h
theorem rows_more {b s : List Nat} {n m : Int} : ∀ (j u : Nat) (es : List E2) (p : Int), (decRows b n m j u es p).2.2 = false → decRows (b ++ s) n m j u es p = decRows b n m j u es p := by
  intro j
  induction j with
  | zero => intro u es p _; rfl
  | succ j ih =>
    intro u es p h
    rcases rows_ways b n m j u es p with h1 | ⟨h1, h4⟩ | ⟨h1, h4, h5⟩ | ⟨h1, h4, h5⟩
    · rw [rows_bad1 h1] at h; cases h
    · rw [rows_bad2 h1 h4] at h; cases h
    · rw [rows_bad3 h1 h4 h5] at h; cases h
    · rw [rows_good h1 h4 h5] at h ⊢
      have hn : num (b ++ s) p (m - es.length) = num b p (m - es.length) := num_more h1
      have hr := row_more (s := s) (num b p (m - es.length)).1.toNat u (num b p (m - es.length)).2.1 h5
      rw [rows_good (by rw [hn]; exact h1) (by rw [hn]; exact h4) (by rw [hn, hr]; exact h5), hn, hr]
      exact ih _ _ _ h

/-! All, of cut bytes -/
theorem not_magic {b : List Nat} (h : b.head? = some 71) : ¬ (b = [] ∨ b.head? ≠ some 71) := fun e => e.elim (fun e => by rw [e] at h; cases h) (fun e => e h)
theorem dec_magic {b : List Nat} (h : b = [] ∨ b.head? ≠ some 71) : dec b = (0, [], 0, 3) := by rw [dec, if_pos h]
theorem dec_first {b : List Nat} (h : b.head? = some 71) (h1 : (num b 1 1073741824).2.2 = true) : dec b = (0, [], (num b 1 1073741824).2.1, 3) := by
  rw [dec, if_neg (not_magic h), if_pos h1]
abbrev most0 (n : Int) : Int := if n = 0 then 0 else 1073741824
theorem dec_second {b : List Nat} (h : b.head? = some 71) (h1 : (num b 1 1073741824).2.2 = false) (h2 : (num b (num b 1 1073741824).2.1 (most0 (num b 1 1073741824).1)).2.2 = true) :
    dec b = (0, [], (num b (num b 1 1073741824).2.1 (most0 (num b 1 1073741824).1)).2.1, 3) := by
  rw [dec, if_neg (not_magic h), if_neg (by rw [h1]; simp)]
  simp only
  rw [if_pos h2]
def restOf (b : List Nat) : List E2 × Int × Bool :=
  decRows b (num b 1 1073741824).1 (num b (num b 1 1073741824).2.1 (most0 (num b 1 1073741824).1)).1 (num b 1 1073741824).1.toNat 0 [] (num b (num b 1 1073741824).2.1 (most0 (num b 1 1073741824).1)).2.1
theorem dec_rest {b : List Nat} (h : b.head? = some 71) (h1 : (num b 1 1073741824).2.2 = false) (h2 : (num b (num b 1 1073741824).2.1 (most0 (num b 1 1073741824).1)).2.2 = false) :
    dec b = if (restOf b).2.2 = true ∨ (restOf b).2.1 ≠ b.length then (0, [], (restOf b).2.1, 3) else ((num b 1 1073741824).1, (restOf b).1, 0, 0) := by
  rw [dec, if_neg (not_magic h), if_neg (by rw [h1]; simp)]
  simp only
  rw [if_neg (by rw [h2]; simp)]
  rfl
theorem dec_ways (b : List Nat) : (b = [] ∨ b.head? ≠ some 71) ∨ (b.head? = some 71 ∧ (num b 1 1073741824).2.2 = true) ∨ (b.head? = some 71 ∧ (num b 1 1073741824).2.2 = false ∧ (num b (num b 1 1073741824).2.1 (most0 (num b 1 1073741824).1)).2.2 = true) ∨
    (b.head? = some 71 ∧ (num b 1 1073741824).2.2 = false ∧ (num b (num b 1 1073741824).2.1 (most0 (num b 1 1073741824).1)).2.2 = false) := by
  by_cases h : b.head? = some 71
  · cases h1 : (num b 1 1073741824).2.2
    · cases h2 : (num b (num b 1 1073741824).2.1 (most0 (num b 1 1073741824).1)).2.2
      · exact .inr (.inr (.inr ⟨h, rfl, rfl⟩))
      · exact .inr (.inr (.inl ⟨h, rfl, rfl⟩))
    · exact .inr (.inl ⟨h, rfl⟩)
  · exact .inl (.inr h)
theorem head_take {b : List Nat} (h : b.head? = some 71) {k : Nat} (hk : 1 ≤ k) : (b.take k).head? = some 71 := by
  cases b with
  | nil => cases h
  | cons x t =>
    obtain ⟨k, rfl⟩ : ∃ j, k = j + 1 := ⟨k - 1, by omega⟩
    exact h
theorem head_len1 {b : List Nat} (h : b.head? = some 71) : 1 ≤ b.length := by
  cases b with
  | nil => cases h
  | cons x t => simp

/-- Bytes that are cut at or ahead of the byte that is told (or ahead of the end) are refused where they are cut. -/
theorem dec_cut {b : List Nat} {k : Nat} (hk : k ≤ b.length) (h : ((dec b).2.2.2 = 0 ∧ k < b.length) ∨ ((dec b).2.2.2 ≠ 0 ∧ (k : Int) ≤ (dec b).2.2.1)) :
    dec (b.take k) = (0, [], (k : Int), 3) ∨ ((dec (b.take k)).2.2.2 = 0 ∧ (dec b).2.2.2 ≠ 0) := by
  by_cases hk0 : k = 0
  · subst hk0
    left
    exact dec_magic (.inl rfl)
  rcases dec_ways b with h1 | ⟨h1, h2⟩ | ⟨h1, h2, h3⟩ | ⟨h1, h2, h3⟩
  · rw [dec_magic h1] at h
    simp only at h
    omega
  · rw [dec_first h1 h2] at h
    have hn := num_cut2 (b := b) (at_ := 1) (most := 1073741824) (k := k) (by omega) (by omega) hk (.inr ⟨h2, by simpa using h⟩)
    left
    rw [dec_first (head_take h1 (by omega)) (by rw [hn]), hn]
  all_goals
    have hl := head_len1 h1
    have hle := num_le b 1 1073741824 (by omega)
    have hge := num_ge (b := b) (at_ := 1) (most := 1073741824) (by omega)
    by_cases hlt : (k : Int) < (num b 1 1073741824).2.1
    · have hn := num_cut2 (b := b) (at_ := 1) (most := 1073741824) (k := k) (by omega) (by omega) hk (.inl hlt)
      left
      rw [dec_first (head_take h1 (by omega)) (by rw [hn]), hn]
    have hn : num (b.take k) 1 1073741824 = num b 1 1073741824 := num_cut1 (by omega) h2 (by omega)
  · rw [dec_second h1 h2 h3] at h
    have hn2 := num_cut2 (b := b) (at_ := (num b 1 1073741824).2.1) (most := most0 (num b 1 1073741824).1) (k := k) (by omega) (by omega) hk (.inr ⟨h3, by simpa using h⟩)
    left
    rw [dec_second (head_take h1 (by omega)) (by rw [hn]; exact h2) (by rw [hn, hn2]), hn, hn2]
  · have hle2 := num_le b (num b 1 1073741824).2.1 (most0 (num b 1 1073741824).1) (by omega)
    have hge2 := num_ge (b := b) (at_ := (num b 1 1073741824).2.1) (most := most0 (num b 1 1073741824).1) (by omega)
    by_cases hlt2 : (k : Int) < (num b (num b 1 1073741824).2.1 (most0 (num b 1 1073741824).1)).2.1
    · have hn2 := num_cut2 (b := b) (at_ := (num b 1 1073741824).2.1) (most := most0 (num b 1 1073741824).1) (k := k) (by omega) (by omega) hk (.inl hlt2)
      left
      rw [dec_second (head_take h1 (by omega)) (by rw [hn]; exact h2) (by rw [hn, hn2]), hn, hn2]
    have hn2 : num (b.take k) (num b 1 1073741824).2.1 (most0 (num b 1 1073741824).1) = num b (num b 1 1073741824).2.1 (most0 (num b 1 1073741824).1) := num_cut1 (by omega) h3 (by omega)
    have hd := dec_rest h1 h2 h3
    have hd2 := dec_rest (b := b.take k) (head_take h1 (by omega)) (by rw [hn]; exact h2) (by rw [hn, hn2]; exact h3)
    have hlk : ((b.take k).length : Int) = k := by rw [List.length_take]; omega
    have hrest : restOf (b.take k) = decRows (b.take k) (num b 1 1073741824).1 (num b (num b 1 1073741824).2.1 (most0 (num b 1 1073741824).1)).1 (num b 1 1073741824).1.toNat 0 [] (num b (num b 1 1073741824).2.1 (most0 (num b 1 1073741824).1)).2.1 := by
      unfold restOf
      rw [hn, hn2]
    rw [hn, hlk] at hd2
    have cutAt : ((k : Int) < (restOf b).2.1 ∨ ((restOf b).2.2 = true ∧ (k : Int) ≤ (restOf b).2.1)) → dec (b.take k) = (0, [], (k : Int), 3) := fun hc => by
      have hr := rows_cut2 (n := (num b 1 1073741824).1) (m := (num b (num b 1 1073741824).2.1 (most0 (num b 1 1073741824).1)).1) hk (num b 1 1073741824).1.toNat 0 [] (num b (num b 1 1073741824).2.1 (most0 (num b 1 1073741824).1)).2.1 (by omega) (by omega) hc
      rw [← hrest] at hr
      rw [hd2, hr, if_pos (.inl rfl)]
    by_cases hf : (restOf b).2.2 = true ∨ (restOf b).2.1 ≠ b.length
    · rw [if_pos hf] at hd
      rw [hd] at h ⊢
      simp only at h
      by_cases hf1 : (restOf b).2.2 = true
      · left
        exact cutAt (.inr ⟨hf1, by omega⟩)
      · by_cases hlt3 : (k : Int) < (restOf b).2.1
        · left
          exact cutAt (.inl hlt3)
        · right
          have hle3 : (restOf b).2.1 ≤ k := by omega
          have hf2 : (restOf b).2.2 = false := by simpa using hf1
          have hr := rows_cut1 (n := (num b 1 1073741824).1) (m := (num b (num b 1 1073741824).2.1 (most0 (num b 1 1073741824).1)).1) (k := k) (num b 1 1073741824).1.toNat 0 [] (num b (num b 1 1073741824).2.1 (most0 (num b 1 1073741824).1)).2.1 (by omega) (by omega) hf2 hle3
          have hr' : restOf (b.take k) = restOf b := hrest.trans hr
          rw [hd2, hr', if_neg (fun e => e.elim (fun e => hf1 e) (fun e => e (by omega)))]
          exact ⟨rfl, by simp⟩
    · rw [if_neg hf] at hd
      rw [hd] at h ⊢
      simp only at h
      left
      exact cutAt (.inl (by omega))

theorem dec_er (b : List Nat) : ((dec b).2.2.2 = 0 ∧ (dec b).2.2.1 = 0) ∨ ((dec b).2.2.2 = 3 ∧ 0 ≤ (dec b).2.2.1 ∧ (dec b).2.2.1 ≤ b.length) := by
  rcases dec_ways b with h1 | ⟨h1, h2⟩ | ⟨h1, h2, h3⟩ | ⟨h1, h2, h3⟩
  · rw [dec_magic h1]; right; simp
  all_goals
    have hl := head_len1 h1
    have hle := num_le b 1 1073741824 (by omega)
    have hge := num_ge (b := b) (at_ := 1) (most := 1073741824) (by omega)
  · rw [dec_first h1 h2]; right; exact ⟨rfl, by simp only; omega, hle⟩
  all_goals
    have hle2 := num_le b (num b 1 1073741824).2.1 (most0 (num b 1 1073741824).1) (by omega)
    have hge2 := num_ge (b := b) (at_ := (num b 1 1073741824).2.1) (most := most0 (num b 1 1073741824).1) (by omega)
  · rw [dec_second h1 h2 h3]; right; exact ⟨rfl, by simp only; omega, hle2⟩
  · rw [dec_rest h1 h2 h3]
    have hg : _ ∧ _ := rows_ge b (num b 1 1073741824).1 (num b (num b 1 1073741824).2.1 (most0 (num b 1 1073741824).1)).1 (num b 1 1073741824).1.toNat 0 [] (num b (num b 1 1073741824).2.1 (most0 (num b 1 1073741824).1)).2.1 (by omega) hle2
    split
    · right; exact ⟨rfl, by simp only; unfold restOf; omega, hg.2⟩
    · left; exact ⟨rfl, rfl⟩

/-- FormatLeast, plainly. -/
theorem dec_least {b : List Nat} (h : (dec b).2.2.2 ≠ 0) : (dec (b.take (dec b).2.2.1.toNat)).2.2.2 = 0 ∨ (dec (b.take (dec b).2.2.1.toNat)).2.2.1 = (dec b).2.2.1 := by
  have he := dec_er b
  have hp : 0 ≤ (dec b).2.2.1 ∧ (dec b).2.2.1 ≤ b.length := by omega
  rcases dec_cut (b := b) (k := (dec b).2.2.1.toNat) (by omega) (.inr ⟨h, by omega⟩) with h1 | h1
  · right; rw [h1]; simp only; omega
  · exact .inl h1.1
/-- FormatCuts, plainly. -/
theorem dec_short {b : List Nat} (h : (dec b).2.2.2 = 0) {k : Nat} (hk : k < b.length) : dec (b.take k) = (0, [], (k : Int), 3) := by
  rcases dec_cut (b := b) (k := k) (by omega) (.inl ⟨h, hk⟩) with h1 | h1
  · exact h1
  · exact absurd h h1.2
theorem dec_long {b : List Nat} (h : (dec b).2.2.2 = 0) (c : Nat) : dec (b ++ [c]) = (0, [], (b.length : Int), 3) := by
  rcases dec_ways b with h1 | ⟨h1, h2⟩ | ⟨h1, h2, h3⟩ | ⟨h1, h2, h3⟩
  · rw [dec_magic h1] at h; cases h
  · rw [dec_first h1 h2] at h; cases h
  · rw [dec_second h1 h2 h3] at h; cases h
  · have hd := dec_rest h1 h2 h3
    by_cases hf : (restOf b).2.2 = true ∨ (restOf b).2.1 ≠ b.length
    · rw [if_pos hf] at hd; rw [hd] at h; cases h
    · have hh : (b ++ [c]).head? = some 71 := by
        cases b with
        | nil => cases h1
        | cons x t => exact h1
      have hn : num (b ++ [c]) 1 1073741824 = num b 1 1073741824 := num_more h2
      have hn2 : num (b ++ [c]) (num b 1 1073741824).2.1 (most0 (num b 1 1073741824).1) = num b (num b 1 1073741824).2.1 (most0 (num b 1 1073741824).1) := num_more h3
      have hr : restOf (b ++ [c]) = restOf b := by
        unfold restOf
        rw [hn, hn2]
        exact rows_more _ _ _ _ (by simpa [restOf] using fun e => hf (.inl e))
      have hq : (restOf b).2.1 = b.length := by
        rcases Decidable.em ((restOf b).2.1 = b.length) with e | e
        · exact e
        · exact absurd (.inr e) hf
      rw [dec_rest hh (by rw [hn]; exact h2) (by rw [hn, hn2]; exact h3), hr, hq, if_pos (.inr (by rw [List.length_append]; simp; omega))]

end Go.Proofs.Ytlepmefknglkeaa.Gr
