/- What Give and Take do to the set of free blocks, plainly. -/
import Derived.Test.YtodjibhnmibedaaSpPlain
set_option linter.unusedVariables false
namespace Go.Proofs.Ytodjibhnmibedaa.Sp

theorem inside_iff {F B fn m : Nat} : insideB F B (fn : Int) (m : Int) = true ↔ 1 ≤ m ∧ F ≤ fn ∧ fn + m ≤ F + B := by
  unfold insideB
  rw [decide_eq_true_eq]
  omega
theorem give_yes {F B : Nat} {L : List Ext} (hI : Inv F B L) {fn m k : Nat} (hm : 1 ≤ m) (hin : insideB F B fn m = true) (hk : FirstTrue (endsB L (fn : Int)) L.length k) : GiveYes L F B fn m k ↔ ∀ b, fn ≤ b → b < fn + m → ¬ Fr L b := by
  constructor
  · rintro ⟨_, h1⟩ b hb1 hb2 ⟨e, he, hb⟩
    obtain ⟨j, hj, rfl⟩ := List.getElem_of_mem he
    unfold In at hb
    rcases Nat.lt_or_ge j k with hlt | hge
    · have := ft_before hk hlt hj; omega
    · have h2 := h1 (by omega)
      rw [getD_at (by omega)] at h2
      rcases Nat.eq_or_lt_of_le hge with rfl | hlt
      · omega
      · have := (List.pairwise_iff_getElem.1 hI.apart) k j (by omega) hj hlt; omega
  · intro h
    refine ⟨hin, fun hkl => ?_⟩
    rw [getD_at hkl]
    have h2 := ft_behind hk (Nat.le_refl _) hkl
    have hok := hI.ok _ (List.getElem_mem hkl)
    rcases Nat.lt_or_ge L[k].1 (fn + m) with hlt | hge
    · exfalso
      refine h (max fn L[k].1) (by omega) (by omega) ⟨L[k], List.getElem_mem hkl, ?_⟩
      unfold In
      omega
    · omega

theorem mem_take {L : List Ext} {i : Nat} {e : Ext} (h : e ∈ L.take i) : ∃ t, ∃ ht : t < L.length, t < i ∧ L[t] = e := by
  obtain ⟨t, ht, rfl⟩ := List.getElem_of_mem h
  rw [List.length_take] at ht
  exact ⟨t, by omega, by omega, by rw [List.getElem_take]⟩
theorem mem_drop {L : List Ext} {i : Nat} {e : Ext} (h : e ∈ L.drop i) : ∃ t, ∃ ht : t < L.length, i ≤ t ∧ L[t] = e := by
  obtain ⟨t, ht, rfl⟩ := List.getElem_of_mem h
  rw [List.length_drop] at ht
  exact ⟨i + t, by omega, by omega, by rw [List.getElem_drop]⟩
theorem take_mem {L : List Ext} {i t : Nat} (ht : t < L.length) (h : t < i) : L[t] ∈ L.take i := by
  have : (L.take i)[t]'(by rw [List.length_take]; omega) = L[t] := by rw [List.getElem_take]
  rw [← this]
  exact List.getElem_mem _
theorem drop_mem {L : List Ext} {i t : Nat} (ht : t < L.length) (h : i ≤ t) : L[t] ∈ L.drop i := by
  have : (L.drop i)[t - i]'(by rw [List.length_drop]; omega) = L[t] := by rw [List.getElem_drop]; congr 1; omega
  rw [← this]
  exact List.getElem_mem _

/-- A new extent in the place of those between i and j. -/
theorem give_core {F B : Nat} {L : List Ext} (hI : Inv F B L) {i j fn m : Nat} {x : Ext} (hij : i ≤ j) (hx : 1 ≤ x.2 ∧ F ≤ x.1 ∧ x.1 + x.2 ≤ F + B) (hl : ∀ t (ht : t < L.length), t < i → L[t].1 + L[t].2 < x.1) (hr : ∀ t (ht : t < L.length), j ≤ t → x.1 + x.2 < L[t].1)
    (hb : ∀ b, In x b ↔ (fn ≤ b ∧ b < fn + m) ∨ ∃ t, ∃ ht : t < L.length, i ≤ t ∧ t < j ∧ In L[t] b) :
    Inv F B (L.take i ++ x :: L.drop j) ∧ ∀ b, Fr (L.take i ++ x :: L.drop j) b ↔ Fr L b ∨ (fn ≤ b ∧ b < fn + m) := by
  have hp := hI.apart
  have hlr : ∀ t u (ht : t < L.length) (hu : u < L.length), t < u → L[t].1 + L[t].2 < L[u].1 := fun t u ht hu h => (List.pairwise_iff_getElem.1 hp) t u ht hu h
  refine ⟨⟨List.pairwise_append.2 ⟨List.Pairwise.sublist (List.take_sublist _ _) hp, List.pairwise_cons.2 ⟨fun y hy => ?_, List.Pairwise.sublist (List.drop_sublist _ _) hp⟩, fun y hy z hz => ?_⟩, fun e he => ?_⟩, fun b => ?_⟩
  · obtain ⟨t, ht, h1, rfl⟩ := mem_drop hy
    exact hr t ht h1
  · obtain ⟨t, ht, h1, rfl⟩ := mem_take hy
    rcases List.mem_cons.1 hz with rfl | hz
    · exact hl t ht h1
    · obtain ⟨u, hu, h2, rfl⟩ := mem_drop hz
      exact hlr t u ht hu (by omega)
  · rcases List.mem_append.1 he with he | he
    · exact hI.ok e (List.mem_of_mem_take he)
    · rcases List.mem_cons.1 he with rfl | he
      · exact hx
      · exact hI.ok e (List.mem_of_mem_drop he)
  · rw [Fr_append, Fr_cons, hb]
    constructor
    · rintro (⟨e, he, h⟩ | (h | ⟨t, ht, _, _, h⟩) | ⟨e, he, h⟩)
      · exact .inl ⟨e, List.mem_of_mem_take he, h⟩
      · exact .inr h
      · exact .inl ⟨_, List.getElem_mem ht, h⟩
      · exact .inl ⟨e, List.mem_of_mem_drop he, h⟩
    · rintro (⟨e, he, h⟩ | h)
      · obtain ⟨t, ht, rfl⟩ := List.getElem_of_mem he
        rcases Nat.lt_or_ge t i with h1 | h1
        · exact .inl ⟨_, take_mem ht h1, h⟩
        · rcases Nat.lt_or_ge t j with h2 | h2
          · exact .inr (.inl (.inr ⟨t, ht, h1, h2, h⟩))
          · exact .inr (.inr ⟨_, drop_mem ht h2, h⟩)
      · exact .inr (.inl (.inl h))

theorem give_inv {F B : Nat} {L : List Ext} (hI : Inv F B L) {fn m k : Nat} (hk : FirstTrue (endsB L (fn : Int)) L.length k) (hy : GiveYes L F B fn m k) : Inv F B (giveAt L k fn m) ∧ ∀ b, Fr (giveAt L k fn m) b ↔ Fr L b ∨ (fn ≤ b ∧ b < fn + m) := by
  obtain ⟨hin, hyk⟩ := hy
  obtain ⟨hm, hF, hB⟩ := inside_iff.1 hin
  have hlr : ∀ t u (ht : t < L.length) (hu : u < L.length), t < u → L[t].1 + L[t].2 < L[u].1 := fun t u ht hu h => (List.pairwise_iff_getElem.1 hI.apart) t u ht hu h
  have hbef : ∀ t (ht : t < L.length), t < k → L[t].1 + L[t].2 ≤ fn := fun t ht h => ft_before hk h ht
  have hbeh : ∀ t (ht : t < L.length), k ≤ t → fn + m ≤ L[t].1 := fun t ht h => by
    have h1 := hyk (by omega)
    rw [getD_at (by omega)] at h1
    rcases Nat.eq_or_lt_of_le h with rfl | hlt
    · omega
    · have := hlr k t (by omega) ht hlt; omega
  have hkl := hk.1
  unfold giveAt giveX
  cases hJL : joinL L k fn <;> cases hJR : joinR L k fn m
  · -- apart on both sides
    have hL0 : ∀ t (ht : t < L.length), t < k → L[t].1 + L[t].2 < fn := fun t ht h => by
      have h1 := hbef t ht h
      rcases Nat.eq_or_lt_of_le h1 with he | hlt
      · exfalso
        by_cases htk : t = k - 1
        · have : joinL L k fn = true := by unfold joinL; rw [decide_eq_true_eq, ← htk, getD_at ht]; exact ⟨by omega, he⟩
          rw [hJL] at this; cases this
        · have h2 := hlr t (k - 1) ht (by omega) (by omega)
          have h3 := hbef (k - 1) (by omega) (by omega)
          have h4 := (hI.ok _ (List.getElem_mem (show k - 1 < L.length by omega))).1
          omega
      · exact hlt
    have hR0 : ∀ t (ht : t < L.length), k ≤ t → fn + m < L[t].1 := fun t ht h => by
      have h1 := hbeh t ht h
      rcases Nat.eq_or_lt_of_le h1 with he | hlt
      · exfalso
        rcases Nat.eq_or_lt_of_le h with rfl | hkt
        · have : joinR L k fn m = true := by unfold joinR; rw [decide_eq_true_eq, getD_at ht]; exact ⟨ht, he.symm⟩
          rw [hJR] at this; cases this
        · have h2 := hlr k t (by omega) ht hkt
          have h3 := hbeh k (by omega) (Nat.le_refl _)
          have h4 := (hI.ok _ (List.getElem_mem (show k < L.length by omega))).1
          omega
      · exact hlt
    simp only [Bool.false_eq_true, if_false]
    refine give_core hI (Nat.le_refl _) ⟨by simp only; omega, hF, by simp only; omega⟩ (fun t ht h => hL0 t ht h) (fun t ht h => by have := hR0 t ht h; simp only; omega) (fun b => ?_)
    unfold In
    simp only
    constructor
    · intro h; left; omega
    · rintro (h | ⟨t, ht, h1, h2, _⟩)
      · omega
      · omega
  · -- joined on the right
    have hL0 : ∀ t (ht : t < L.length), t < k → L[t].1 + L[t].2 < fn := fun t ht h => by
      have h1 := hbef t ht h
      rcases Nat.eq_or_lt_of_le h1 with he | hlt
      · exfalso
        by_cases htk : t = k - 1
        · have : joinL L k fn = true := by unfold joinL; rw [decide_eq_true_eq, ← htk, getD_at ht]; exact ⟨by omega, he⟩
          rw [hJL] at this; cases this
        · have h2 := hlr t (k - 1) ht (by omega) (by omega)
          have h3 := hbef (k - 1) (by omega) (by omega)
          have h4 := (hI.ok _ (List.getElem_mem (show k - 1 < L.length by omega))).1
          omega
      · exact hlt
    unfold joinR at hJR
    rw [decide_eq_true_eq] at hJR
    obtain ⟨j1, j2⟩ := hJR
    rw [getD_at j1] at j2 ⊢
    have hok := hI.ok _ (List.getElem_mem j1)
    simp only [Bool.false_eq_true, if_false, if_true]
    refine give_core hI (by omega) ⟨by simp only; omega, hF, by simp only; omega⟩ (fun t ht h => hL0 t ht h) (fun t ht h => by have := hlr k t j1 ht (by omega); simp only; omega) (fun b => ?_)
    unfold In
    simp only
    constructor
    · intro h
      rcases Nat.lt_or_ge b (fn + m) with h1 | h1
      · left; omega
      · right; exact ⟨k, j1, Nat.le_refl _, by omega, by omega, by omega⟩
    · rintro (h | ⟨t, ht, h1, h2, h3⟩)
      · omega
      · obtain rfl : t = k := by omega
        omega
  · -- joined on the left
    have hR0 : ∀ t (ht : t < L.length), k ≤ t → fn + m < L[t].1 := fun t ht h => by
      have h1 := hbeh t ht h
      rcases Nat.eq_or_lt_of_le h1 with he | hlt
      · exfalso
        rcases Nat.eq_or_lt_of_le h with rfl | hkt
        · have : joinR L k fn m = true := by unfold joinR; rw [decide_eq_true_eq, getD_at ht]; exact ⟨ht, he.symm⟩
          rw [hJR] at this; cases this
        · have h2 := hlr k t (by omega) ht hkt
          have h3 := hbeh k (by omega) (Nat.le_refl _)
          have h4 := (hI.ok _ (List.getElem_mem (show k < L.length by omega))).1
          omega
      · exact hlt
    unfold joinL at hJL
    rw [decide_eq_true_eq] at hJL
    obtain ⟨j1, j2⟩ := hJL
    have hkk : k - 1 < L.length := by omega
    rw [getD_at hkk] at j2 ⊢
    have hok := hI.ok _ (List.getElem_mem hkk)
    simp only [Bool.false_eq_true, if_false, if_true]
    refine give_core hI (by omega) ⟨by simp only; omega, hok.2.1, by simp only; omega⟩ (fun t ht h => hlr t (k - 1) ht hkk h) (fun t ht h => by have := hR0 t ht h; simp only; omega) (fun b => ?_)
    unfold In
    simp only
    constructor
    · intro h
      rcases Nat.lt_or_ge b fn with h1 | h1
      · right; exact ⟨k - 1, hkk, Nat.le_refl _, by omega, by omega, by omega⟩
      · left; omega
    · rintro (h | ⟨t, ht, h1, h2, h3⟩)
      · omega
      · obtain rfl : t = k - 1 := by omega
        omega
  · -- joined on both sides
    unfold joinL at hJL
    rw [decide_eq_true_eq] at hJL
    obtain ⟨j1, j2⟩ := hJL
    unfold joinR at hJR
    rw [decide_eq_true_eq] at hJR
    obtain ⟨j3, j4⟩ := hJR
    have hkk : k - 1 < L.length := by omega
    rw [getD_at hkk] at j2 ⊢
    rw [getD_at j3] at j4 ⊢
    have hok := hI.ok _ (List.getElem_mem hkk)
    have hok2 := hI.ok _ (List.getElem_mem j3)
    simp only [if_true]
    refine give_core hI (by omega) ⟨by simp only; omega, hok.2.1, by simp only; omega⟩ (fun t ht h => hlr t (k - 1) ht hkk h) (fun t ht h => by have := hlr k t j3 ht (by omega); simp only; omega) (fun b => ?_)
    unfold In
    simp only
    constructor
    · intro h
      rcases Nat.lt_or_ge b fn with h1 | h1
      · right; exact ⟨k - 1, hkk, Nat.le_refl _, by omega, by omega, by omega⟩
      · rcases Nat.lt_or_ge b (fn + m) with h4 | h4
        · left; omega
        · right; exact ⟨k, j3, by omega, by omega, by omega, by omega⟩
    · rintro (h | ⟨t, ht, h1, h2, h3⟩)
      · omega
      · have : t = k - 1 ∨ t = k := by omega
        rcases this with rfl | rfl
        · omega
        · omega

/-! What an act is, of the set of free blocks -/
/-- Hold of n blocks from 'first' on: 0 just if they are all of the space, and free. -/
theorem hold_spec {F B : Nat} {L L' : List Ext} {first n er : Int} (hI : Inv F B L) (h : HoldRel L F B first n er L') :
    Inv F B L' ∧ ((er = 1 ∧ L' = L ∧ ¬ (1 ≤ n ∧ (F : Int) ≤ first ∧ first + n ≤ F + B ∧ ∀ b : Nat, first ≤ b → (b : Int) < first + n → Fr L b)) ∨
      (er = 0 ∧ (1 ≤ n ∧ (F : Int) ≤ first ∧ first + n ≤ F + B ∧ ∀ b : Nat, first ≤ b → (b : Int) < first + n → Fr L b) ∧ ∀ b : Nat, Fr L' b ↔ Fr L b ∧ ¬ (first ≤ b ∧ (b : Int) < first + n))) := by
  rcases h with ⟨rfl, rfl, h⟩ | ⟨rfl, k, hk, hy, rfl⟩
  · refine ⟨hI, .inl ⟨rfl, rfl, fun ⟨h1, h2, h3, h4⟩ => ?_⟩⟩
    obtain ⟨fn, rfl⟩ := Int.eq_ofNat_of_zero_le (show 0 ≤ first by omega)
    obtain ⟨m, rfl⟩ := Int.eq_ofNat_of_zero_le (show 0 ≤ n by omega)
    obtain ⟨k, hk⟩ := ft_ex hI.asc (fn : Int)
    have hin : insideB F B (fn : Int) (m : Int) = true := inside_iff.2 (by omega)
    exact h k hk ((hold_yes hI (by omega) hin hk).2 (fun b h5 h6 => h4 b (by omega) (by omega)))
  · have hin := hy.1
    have hin2 : 1 ≤ n ∧ (F : Int) ≤ first ∧ first ≤ F + B ∧ n ≤ F + B - first := by
      unfold insideB at hin
      exact of_decide_eq_true hin
    obtain ⟨fn, rfl⟩ := Int.eq_ofNat_of_zero_le (show 0 ≤ first by omega)
    obtain ⟨m, rfl⟩ := Int.eq_ofNat_of_zero_le (show 0 ≤ n by omega)
    rw [Int.toNat_natCast, Int.toNat_natCast]
    obtain ⟨h1, h2⟩ := hold_inv hI (by omega) hy
    refine ⟨h1, .inr ⟨rfl, ⟨hin2.1, hin2.2.1, by omega, fun b h5 h6 => (hold_yes hI (by omega) hin hk).1 hy b (by omega) (by omega)⟩, fun b => ?_⟩⟩
    rw [h2]
    constructor
    · rintro ⟨h3, h4⟩; exact ⟨h3, by omega⟩
    · rintro ⟨h3, h4⟩; exact ⟨h3, by omega⟩
theorem give_spec {F B : Nat} {L L' : List Ext} {first n er : Int} (hI : Inv F B L) (h : GiveRel L F B first n er L') :
    Inv F B L' ∧ ((er = 1 ∧ L' = L ∧ ¬ (1 ≤ n ∧ (F : Int) ≤ first ∧ first + n ≤ F + B ∧ ∀ b : Nat, first ≤ b → (b : Int) < first + n → ¬ Fr L b)) ∨
      (er = 0 ∧ (1 ≤ n ∧ (F : Int) ≤ first ∧ first + n ≤ F + B ∧ ∀ b : Nat, first ≤ b → (b : Int) < first + n → ¬ Fr L b) ∧ ∀ b : Nat, Fr L' b ↔ Fr L b ∨ (first ≤ b ∧ (b : Int) < first + n))) := by
  rcases h with ⟨rfl, rfl, h⟩ | ⟨rfl, k, hk, hy, rfl⟩
  · refine ⟨hI, .inl ⟨rfl, rfl, fun ⟨h1, h2, h3, h4⟩ => ?_⟩⟩
    obtain ⟨fn, rfl⟩ := Int.eq_ofNat_of_zero_le (show 0 ≤ first by omega)
    obtain ⟨m, rfl⟩ := Int.eq_ofNat_of_zero_le (show 0 ≤ n by omega)
    obtain ⟨k, hk⟩ := ft_ex hI.asc (fn : Int)
    have hin : insideB F B (fn : Int) (m : Int) = true := inside_iff.2 (by omega)
    exact h k hk ((give_yes hI (by omega) hin hk).2 (fun b h5 h6 => h4 b (by omega) (by omega)))
  · have hin := hy.1
    have hin2 : 1 ≤ n ∧ (F : Int) ≤ first ∧ first ≤ F + B ∧ n ≤ F + B - first := by
      unfold insideB at hin
      exact of_decide_eq_true hin
    obtain ⟨fn, rfl⟩ := Int.eq_ofNat_of_zero_le (show 0 ≤ first by omega)
    obtain ⟨m, rfl⟩ := Int.eq_ofNat_of_zero_le (show 0 ≤ n by omega)
    rw [Int.toNat_natCast, Int.toNat_natCast]
    obtain ⟨h1, h2⟩ := give_inv hI hk hy
    refine ⟨h1, .inr ⟨rfl, ⟨hin2.1, hin2.2.1, by omega, fun b h5 h6 => (give_yes hI (by omega) hin hk).1 hy b (by omega) (by omega)⟩, fun b => ?_⟩⟩
    rw [h2]
    constructor
    · rintro (h3 | h3)
      · exact .inl h3
      · exact .inr (by omega)
    · rintro (h3 | h3)
      · exact .inl h3
      · exact .inr (by omega)

/-- n blocks from p on are free. -/
def Room (L : List Ext) (p n : Nat) : Prop := ∀ b, p ≤ b → b < p + n → Fr L b
theorem room_ext {F B : Nat} {L : List Ext} (hI : Inv F B L) {p n : Nat} (hn : 1 ≤ n) (h : Room L p n) : ∃ t, ∃ ht : t < L.length, L[t].1 ≤ p ∧ p + n ≤ L[t].1 + L[t].2 := by
  have hF : F ≤ p := by
    obtain ⟨e, he, hb⟩ := h p (Nat.le_refl _) (by omega)
    have := (hI.ok e he).2.1
    unfold In at hb
    omega
  have hB : p + n ≤ F + B := by
    obtain ⟨e, he, hb⟩ := h (p + n - 1) (by omega) (by omega)
    have := (hI.ok e he).2.2
    unfold In at hb
    omega
  obtain ⟨k, hk⟩ := ft_ex hI.asc (p : Int)
  obtain ⟨_, h1, h2, h3⟩ := (hold_yes hI hn (inside_iff.2 ⟨hn, hF, hB⟩) hk).2 h
  rw [getD_at h1] at h2 h3
  exact ⟨k, h1, by omega, by omega⟩
theorem no_room {F B : Nat} {L : List Ext} (hI : Inv F B L) {m : Nat} (hm : 1 ≤ m) (h : ∀ e ∈ L, (e.2 : Int) < (m : Int)) (p : Nat) : ¬ Room L p m := fun hr => by
  obtain ⟨t, ht, e1, e2⟩ := room_ext hI hm hr
  have := h _ (List.getElem_mem ht)
  omega
theorem take_spec {F B : Nat} {L L' : List Ext} {n r er : Int} (hI : Inv F B L) (h : TakeRel L F B n r er L') :
    Inv F B L' ∧ ((n < 1 ∧ r = 0 ∧ er = 1 ∧ L' = L) ∨ (∃ m : Nat, n = m ∧ 1 ≤ m ∧ (∀ e ∈ L, e.2 < m) ∧ (∀ p, ¬ Room L p m) ∧ r = 0 ∧ er = 5 ∧ L' = L) ∨
      (∃ m p : Nat, n = m ∧ r = p ∧ er = 0 ∧ 1 ≤ m ∧ F ≤ p ∧ p + m ≤ F + B ∧ Room L p m ∧ (∀ q, q < p → ¬ Room L q m) ∧ (∀ b : Nat, Fr L' b ↔ Fr L b ∧ ¬ (p ≤ b ∧ b < p + m)) ∧ ∃ k, ∃ hk : k < L.length, (∀ j (hj : j < L.length), j < k → L[j].2 < m) ∧ m ≤ L[k].2 ∧ p = L[k].1)) := by
  rcases h with ⟨h1, rfl, rfl, rfl⟩ | ⟨h1, h2, rfl, rfl, rfl⟩ | ⟨h1, k, hk, h2, h3, rfl, hh⟩
  · exact ⟨hI, .inl ⟨h1, rfl, rfl, rfl⟩⟩
  · obtain ⟨m, rfl⟩ := Int.eq_ofNat_of_zero_le (show 0 ≤ n by omega)
    exact ⟨hI, .inr (.inl ⟨m, rfl, by omega, fun e he => by have := h2 e he; omega, no_room hI (by omega) h2, rfl, rfl, rfl⟩)⟩
  · obtain ⟨m, rfl⟩ := Int.eq_ofNat_of_zero_le (show 0 ≤ n by omega)
    have hok := hI.ok _ (List.getElem_mem hk)
    have hroom : Room L L[k].1 m := fun b h4 h5 => ⟨L[k], List.getElem_mem hk, by unfold In; omega⟩
    obtain ⟨i1, i2⟩ := hold_spec hI hh
    refine ⟨i1, .inr (.inr ?_)⟩
    rcases i2 with ⟨_, _, hno⟩ | ⟨rfl, _, hfr⟩
    · exact absurd ⟨by omega, by omega, by omega, fun b h4 h5 => hroom b (by omega) (by omega)⟩ hno
    · refine ⟨m, L[k].1, rfl, rfl, rfl, by omega, hok.2.1, by omega, hroom, fun q hq hr => ?_, fun b => ?_, k, hk, fun j hj hjk => by have := h2 j hjk; omega, by omega, rfl⟩
      · obtain ⟨t, ht, e1, e2⟩ := room_ext hI (by omega) hr
        rcases Nat.lt_or_ge t k with hlt | hge
        · have := h2 t hlt; omega
        · rcases Nat.eq_or_lt_of_le hge with rfl | hlt
          · omega
          · have := (List.pairwise_iff_getElem.1 hI.apart) k t hk ht hlt; omega
      · rw [hfr]
        constructor
        · rintro ⟨e1, e2⟩; exact ⟨e1, by omega⟩
        · rintro ⟨e1, e2⟩; exact ⟨e1, by omega⟩

end Go.Proofs.Ytodjibhnmibedaa.Sp
