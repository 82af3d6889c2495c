/- What the acts on a space do to the set of free blocks, plainly. -/
import Derived.Test.YtodjibhnmibedaaSpGive
import Derived.Test.YtodjibhnmibedaaSpTake2
set_option linter.unusedVariables false
namespace Go.Proofs.Ytodjibhnmibedaa.Sp

structure Inv (F B : Nat) (L : List Ext) : Prop where
  apart : L.Pairwise fun x y => x.1 + x.2 < y.1
  ok : ∀ e ∈ L, 1 ≤ e.2 ∧ F ≤ e.1 ∧ e.1 + e.2 ≤ F + B
def In (e : Ext) (b : Nat) : Prop := e.1 ≤ b ∧ b < e.1 + e.2
def Fr (L : List Ext) (b : Nat) : Prop := ∃ e ∈ L, In e b
theorem Inv.asc {F B : Nat} {L : List Ext} (h : Inv F B L) : Asc L := List.Pairwise.imp (fun {x y} hxy => by omega) h.apart
theorem Fr_nil (b : Nat) : ¬ Fr [] b := fun ⟨e, he, _⟩ => by cases he
theorem Fr_cons (e : Ext) (L : List Ext) (b : Nat) : Fr (e :: L) b ↔ In e b ∨ Fr L b := by
  constructor
  · rintro ⟨x, hx, hb⟩
    rcases List.mem_cons.1 hx with rfl | hx
    · exact .inl hb
    · exact .inr ⟨x, hx, hb⟩
  · rintro (h | ⟨x, hx, hb⟩)
    · exact ⟨e, List.mem_cons_self .., h⟩
    · exact ⟨x, List.mem_cons_of_mem _ hx, hb⟩
theorem Fr_append (L M : List Ext) (b : Nat) : Fr (L ++ M) b ↔ Fr L b ∨ Fr M b := by
  constructor
  · rintro ⟨x, hx, hb⟩
    rcases List.mem_append.1 hx with hx | hx
    · exact .inl ⟨x, hx, hb⟩
    · exact .inr ⟨x, hx, hb⟩
  · rintro (⟨x, hx, hb⟩ | ⟨x, hx, hb⟩)
    · exact ⟨x, List.mem_append_left _ hx, hb⟩
    · exact ⟨x, List.mem_append_right _ hx, hb⟩

theorem inv_len : ∀ (L : List Ext) (lo hi : Nat), (L.Pairwise fun x y => x.1 + x.2 < y.1) → (∀ e ∈ L, 1 ≤ e.2 ∧ lo ≤ e.1 ∧ e.1 + e.2 ≤ hi) → L.length ≤ hi - lo ∧ sumX L ≤ hi - lo := by
  intro L
  induction L with
  | nil => intro lo hi _ _; simp [sumX]
  | cons e L ih =>
    intro lo hi hp ho
    obtain ⟨h1, h2⟩ := List.pairwise_cons.1 hp
    have he := ho e (List.mem_cons_self ..)
    have h3 := ih (e.1 + e.2) hi h2 (fun x hx => by
      have := h1 x hx
      have := ho x (List.mem_cons_of_mem _ hx)
      omega)
    have hs : sumX (e :: L) = e.2 + sumX L := by simp [sumX]
    rw [hs, List.length_cons]
    omega
theorem Inv.len {F B : Nat} {L : List Ext} (h : Inv F B L) : L.length ≤ B ∧ sumX L ≤ B := by
  have := inv_len L F (F + B) h.apart h.ok
  omega

/-- Lists that are in order and apart, with the same blocks, are the same. -/
theorem inv_unique : ∀ (L M : List Ext), (L.Pairwise fun x y => x.1 + x.2 < y.1) → (M.Pairwise fun x y => x.1 + x.2 < y.1) → (∀ e ∈ L, 1 ≤ e.2) → (∀ e ∈ M, 1 ≤ e.2) → (∀ b, Fr L b ↔ Fr M b) → L = M := by
  intro L
  induction L with
  | nil =>
    intro M _ _ _ hM h
    cases M with
    | nil => rfl
    | cons e M =>
      have he := hM e (List.mem_cons_self ..)
      exact absurd ((h e.1).2 ⟨e, List.mem_cons_self .., by unfold In; omega⟩) (Fr_nil _)
  | cons e L ih =>
    intro M hLp hMp hL hM h
    cases M with
    | nil =>
      have he := hL e (List.mem_cons_self ..)
      exact absurd ((h e.1).1 ⟨e, List.mem_cons_self .., by unfold In; omega⟩) (Fr_nil _)
    | cons f M =>
      obtain ⟨l1, l2⟩ := List.pairwise_cons.1 hLp
      obtain ⟨m1, m2⟩ := List.pairwise_cons.1 hMp
      have he := hL e (List.mem_cons_self ..)
      have hf := hM f (List.mem_cons_self ..)
      have lowL : ∀ b, Fr L b → e.1 + e.2 < b := fun b ⟨x, hx, hb⟩ => by have := l1 x hx; unfold In at hb; omega
      have lowM : ∀ b, Fr M b → f.1 + f.2 < b := fun b ⟨x, hx, hb⟩ => by have := m1 x hx; unfold In at hb; omega
      have q1 : In f e.1 ∨ Fr M e.1 := (Fr_cons _ _ _).1 ((h e.1).1 ((Fr_cons _ _ _).2 (.inl (by unfold In; omega))))
      have q2 : In e f.1 ∨ Fr L f.1 := (Fr_cons _ _ _).1 ((h f.1).2 ((Fr_cons _ _ _).2 (.inl (by unfold In; omega))))
      have hfst : e.1 = f.1 := by
        rcases q1 with q1 | q1 <;> rcases q2 with q2 | q2
        · unfold In at q1 q2; omega
        · have := lowL _ q2; unfold In at q1; omega
        · have := lowM _ q1; unfold In at q2; omega
        · have := lowL _ q2; have := lowM _ q1; omega
      have hsnd : e.2 = f.2 := by
        rcases Nat.lt_trichotomy e.2 f.2 with hlt | heq | hlt
        · have h3 : Fr (e :: L) (e.1 + e.2) := (h _).2 ((Fr_cons _ _ _).2 (.inl (by unfold In; omega)))
          rcases (Fr_cons _ _ _).1 h3 with h4 | h4
          · unfold In at h4; omega
          · have := lowL _ h4; omega
        · exact heq
        · have h3 : Fr (f :: M) (f.1 + f.2) := (h _).1 ((Fr_cons _ _ _).2 (.inl (by unfold In; omega)))
          rcases (Fr_cons _ _ _).1 h3 with h4 | h4
          · unfold In at h4; omega
          · have := lowM _ h4; omega
      have hef : e = f := Prod.ext hfst hsnd
      subst hef
      congr 1
      refine ih M l2 m2 (fun x hx => hL x (List.mem_cons_of_mem _ hx)) (fun x hx => hM x (List.mem_cons_of_mem _ hx)) (fun b => ?_)
      constructor
      · intro hb
        rcases (Fr_cons _ _ _).1 ((h b).1 ((Fr_cons _ _ _).2 (.inr hb))) with h4 | h4
        · have := lowL _ hb; unfold In at h4; omega
        · exact h4
      · intro hb
        rcases (Fr_cons _ _ _).1 ((h b).2 ((Fr_cons _ _ _).2 (.inr hb))) with h4 | h4
        · have := lowM _ hb; unfold In at h4; omega
        · exact h4

/-! The place behind a block -/
theorem getD_at {L : List Ext} {i : Nat} (h : i < L.length) : L.getD i (0, 0) = L[i] := by rw [List.getD_eq_getElem?_getD, List.getElem?_eq_getElem h]; rfl
theorem ends_iff {L : List Ext} {b i : Nat} (h : i < L.length) : endsB L (b : Int) i = true ↔ b < L[i].1 + L[i].2 := by
  unfold endsB
  rw [getD_at h, decide_eq_true_eq]
  omega
theorem ft_before {L : List Ext} {b k : Nat} (h : FirstTrue (endsB L (b : Int)) L.length k) {i : Nat} (hi : i < k) (hl : i < L.length) : L[i].1 + L[i].2 ≤ b := by
  have h1 := h.2.1 i hi
  have h2 := (ends_iff (b := b) hl)
  rw [h1] at h2
  simp at h2
  exact h2
theorem ft_behind {L : List Ext} {b k : Nat} (h : FirstTrue (endsB L (b : Int)) L.length k) {i : Nat} (hi : k ≤ i) (hl : i < L.length) : b < L[i].1 + L[i].2 := (ends_iff hl).1 (h.2.2 i hi hl)
theorem ft_ex {L : List Ext} (hA : Asc L) (b : Int) : ∃ k, FirstTrue (endsB L b) L.length k := by
  have key : ∀ n, n ≤ L.length → ∃ k, FirstTrue (endsB L b) n k := by
    intro n
    induction n with
    | zero => intro _; exact ⟨0, Nat.le_refl _, fun k hk => by omega, fun k _ hk => by omega⟩
    | succ n ih =>
      intro hn
      obtain ⟨k, h1, h2, h3⟩ := ih (by omega)
      by_cases hk : k < n
      · refine ⟨k, by omega, h2, fun j hj hjn => ?_⟩
        by_cases hjj : j < n
        · exact h3 j hj hjj
        · exact endsB_mono hA b k j hj (by omega) (h3 k (Nat.le_refl _) hk)
      · obtain rfl : k = n := by omega
        cases he : endsB L b k
        · refine ⟨k + 1, Nat.le_refl _, fun j hj => ?_, fun j hj hjn => by omega⟩
          rcases Nat.lt_succ_iff_lt_or_eq.1 hj with h | rfl
          · exact h2 j h
          · exact he
        · refine ⟨k, by omega, h2, fun j hj hjn => ?_⟩
          obtain rfl : j = k := by omega
          exact he
  exact key _ (Nat.le_refl _)

theorem split_at {L : List Ext} {k : Nat} (h : k < L.length) : L = L.take k ++ L[k] :: L.drop (k + 1) := by rw [List.getElem_cons_drop, List.take_append_drop]

/-! Hold -/
theorem hold_yes {F B : Nat} {L : List Ext} (hI : Inv F B L) {fn m k : Nat} (hm : 1 ≤ m) (hin : insideB F B fn m = true) (hk : FirstTrue (endsB L (fn : Int)) L.length k) : HoldYes L F B fn m k ↔ ∀ b, fn ≤ b → b < fn + m → Fr L b := by
  constructor
  · rintro ⟨_, h1, h2, h3⟩ b hb1 hb2
    rw [getD_at h1] at h2 h3
    exact ⟨L[k], List.getElem_mem h1, by unfold In; omega⟩
  · intro h
    obtain ⟨e, he, hb⟩ := h fn (Nat.le_refl _) (by omega)
    obtain ⟨j, hj, rfl⟩ := List.getElem_of_mem he
    unfold In at hb
    have hkj : k ≤ j := by
      rcases Nat.lt_or_ge j k with hlt | hge
      · have := ft_before hk hlt hj; omega
      · exact hge
    have hjk : j = k := by
      rcases Nat.eq_or_lt_of_le hkj with h | hlt
      · exact h.symm
      · have h1 := (List.pairwise_iff_getElem.1 hI.apart) k j (by omega) hj hlt
        have h2 := ft_behind hk (Nat.le_refl _) (show k < L.length by omega)
        omega
    subst hjk
    refine ⟨hin, hj, by rw [getD_at hj]; omega, ?_⟩
    rw [getD_at hj]
    rcases Nat.lt_or_ge (L[j].1 + L[j].2) (fn + m) with hlt | hge
    · exfalso
      obtain ⟨e2, he2, hb2⟩ := h (L[j].1 + L[j].2) (by omega) hlt
      obtain ⟨i, hi, rfl⟩ := List.getElem_of_mem he2
      unfold In at hb2
      rcases Nat.lt_trichotomy i j with h | rfl | h
      · have := (List.pairwise_iff_getElem.1 hI.apart) i j hi hj h; omega
      · omega
      · have := (List.pairwise_iff_getElem.1 hI.apart) j i hj hi h; omega
    · omega

theorem inv_mid {F B : Nat} {A C P : List Ext} {e : Ext} (h : Inv F B (A ++ e :: C)) (hP : P.Pairwise fun x y => x.1 + x.2 < y.1) (hPe : ∀ p ∈ P, 1 ≤ p.2 ∧ e.1 ≤ p.1 ∧ p.1 + p.2 ≤ e.1 + e.2) : Inv F B (A ++ (P ++ C)) := by
  obtain ⟨a1, a2, a3⟩ := List.pairwise_append.1 h.apart
  obtain ⟨c1, c2⟩ := List.pairwise_cons.1 a2
  have he := h.ok e (List.mem_append_right _ (List.mem_cons_self ..))
  refine ⟨List.pairwise_append.2 ⟨a1, List.pairwise_append.2 ⟨hP, c2, fun x hx y hy => ?_⟩, fun x hx y hy => ?_⟩, fun x hx => ?_⟩
  · have := hPe x hx; have := c1 y hy; omega
  · rcases List.mem_append.1 hy with hy | hy
    · have := a3 x hx e (List.mem_cons_self ..); have := hPe y hy; omega
    · exact a3 x hx y (List.mem_cons_of_mem _ hy)
  · rcases List.mem_append.1 hx with hx | hx
    · exact h.ok x (List.mem_append_left _ hx)
    · rcases List.mem_append.1 hx with hx | hx
      · have := hPe x hx; omega
      · exact h.ok x (List.mem_append_right _ (List.mem_cons_of_mem _ hx))
theorem hold_inv {F B : Nat} {L : List Ext} (hI : Inv F B L) {fn m k : Nat} (hm : 1 ≤ m) (hy : HoldYes L F B fn m k) : Inv F B (holdAt L k fn m) ∧ ∀ b, Fr (holdAt L k fn m) b ↔ Fr L b ∧ ¬ (fn ≤ b ∧ b < fn + m) := by
  obtain ⟨_, h1, h2, h3⟩ := hy
  rw [getD_at h1] at h2 h3
  have hs := split_at h1
  have hI2 := hI
  rw [hs] at hI2
  unfold holdAt
  rw [getD_at h1]
  generalize L[k] = e at *
  generalize L.take k = A at *
  generalize L.drop (k + 1) = C at *
  have he := hI2.ok e (List.mem_append_right _ (List.mem_cons_self ..))
  have hp1 : (pieces e fn m).Pairwise fun x y => x.1 + x.2 < y.1 := by
    unfold pieces
    split <;> split <;> simp
    omega
  have hp2 : ∀ p ∈ pieces e fn m, 1 ≤ p.2 ∧ e.1 ≤ p.1 ∧ p.1 + p.2 ≤ e.1 + e.2 := by
    unfold pieces
    intro p hp
    rcases List.mem_append.1 hp with hp | hp
    · split at hp
      · rw [List.mem_singleton.1 hp]; simp only; omega
      · cases hp
    · split at hp
      · rw [List.mem_singleton.1 hp]; simp only; omega
      · cases hp
  have hp3 : ∀ b, Fr (pieces e fn m) b ↔ In e b ∧ ¬ (fn ≤ b ∧ b < fn + m) := by
    intro b
    unfold pieces
    rw [Fr_append]
    have q1 : Fr (if e.1 < fn then [(e.1, fn - e.1)] else []) b ↔ (e.1 ≤ b ∧ b < fn) := by
      split
      · rw [Fr_cons]
        have := Fr_nil b
        unfold In
        simp only
        constructor
        · rintro (h | h)
          · omega
          · exact absurd h this
        · intro h; left; omega
      · have := Fr_nil b
        constructor
        · intro h; exact absurd h this
        · intro h; omega
    have q2 : Fr (if fn + m < e.1 + e.2 then [(fn + m, e.1 + e.2 - fn - m)] else []) b ↔ (fn + m ≤ b ∧ b < e.1 + e.2) := by
      split
      · rw [Fr_cons]
        have := Fr_nil b
        unfold In
        simp only
        constructor
        · rintro (h | h)
          · omega
          · exact absurd h this
        · intro h; left; omega
      · have := Fr_nil b
        constructor
        · intro h; exact absurd h this
        · intro h; omega
    rw [q1, q2]
    unfold In
    omega
  refine ⟨inv_mid hI2 hp1 hp2, fun b => ?_⟩
  have hne : ∀ (M : List Ext), (∀ x ∈ M, x.1 + x.2 < e.1 ∨ e.1 + e.2 < x.1) → Fr M b → ¬ (fn ≤ b ∧ b < fn + m) := by
    rintro M hM ⟨x, hx, hb⟩
    have := hM x hx
    unfold In at hb
    omega
  obtain ⟨a1, a2, a3⟩ := List.pairwise_append.1 hI2.apart
  obtain ⟨c1, c2⟩ := List.pairwise_cons.1 a2
  have hnA := hne A (fun x hx => .inl (a3 x hx e (List.mem_cons_self ..)))
  have hnC := hne C (fun x hx => .inr (c1 x hx))
  rw [hs, Fr_append, Fr_append, Fr_append, Fr_cons, hp3]
  constructor
  · rintro (h | h | h)
    · exact ⟨.inl h, hnA h⟩
    · exact ⟨.inr (.inl h.1), h.2⟩
    · exact ⟨.inr (.inr h), hnC h⟩
  · rintro ⟨h | h | h, hn⟩
    · exact .inl h
    · exact .inr (.inl ⟨h, hn⟩)
    · exact .inr (.inr h)

end Go.Proofs.Ytodjibhnmibedaa.Sp
