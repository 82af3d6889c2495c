/- Texts of mine, packed: SpPlain2, Open5, SpLaw, Fl, FlTup, FlW, FlDrop, FlDev. -/
import Derived.Test.YtmmkncocgjgapaaK2
import Derived.Test.YtmmkncocgjgapaaK3
import Derived.Test.YtmmkncocgjgapaaK5
set_option linter.unusedVariables false

/- What Give and Take do to the set of free blocks, plainly. -/
namespace Go.Proofs.Ytmmkncocgjgapaa.Sp

theorem inside_iff {F B fn m : Nat} : insideB F B (fn : Int) (m : Int) = true ↔ 1 ≤ m ∧ F ≤ fn ∧ fn + m ≤ F + B := by
  unfold insideB
  rw [decide_eq_true_eq]
  omega
theorem give_yes {F B : Nat} {L : List Ext} (hI : Inv F B L) {fn m k : Nat} (hm : 1 ≤ m) (hin : insideB F B fn m = true) (hk : FirstTrue (endsB L (fn : Int)) L.length k) : GiveYes L F B fn m k ↔ ∀ b, fn ≤ b → b < fn + m → ¬ Fr L b := by
  constructor
  · rintro ⟨_, h1⟩ b hb1 hb2 ⟨e, he, hb⟩
    obtain ⟨j, hj, rfl⟩ := List.getElem_of_mem he
    unfold In at hb
    rcases Nat.lt_or_ge j k with hlt | hge
    · have := ft_before hk hlt hj; omega
    · have h2 := h1 (by omega)
      rw [getD_at (by omega)] at h2
      rcases Nat.eq_or_lt_of_le hge with rfl | hlt
      · omega
      · have := (List.pairwise_iff_getElem.1 hI.apart) k j (by omega) hj hlt; omega
  · intro h
    refine ⟨hin, fun hkl => ?_⟩
    rw [getD_at hkl]
    have h2 := ft_behind hk (Nat.le_refl _) hkl
    have hok := hI.ok _ (List.getElem_mem hkl)
    rcases Nat.lt_or_ge L[k].1 (fn + m) with hlt | hge
    · exfalso
      refine h (max fn L[k].1) (by omega) (by omega) ⟨L[k], List.getElem_mem hkl, ?_⟩
      unfold In
      omega
    · omega

theorem mem_take {L : List Ext} {i : Nat} {e : Ext} (h : e ∈ L.take i) : ∃ t, ∃ ht : t < L.length, t < i ∧ L[t] = e := by
  obtain ⟨t, ht, rfl⟩ := List.getElem_of_mem h
  rw [List.length_take] at ht
  exact ⟨t, by omega, by omega, by rw [List.getElem_take]⟩
theorem mem_drop {L : List Ext} {i : Nat} {e : Ext} (h : e ∈ L.drop i) : ∃ t, ∃ ht : t < L.length, i ≤ t ∧ L[t] = e := by
  obtain ⟨t, ht, rfl⟩ := List.getElem_of_mem h
  rw [List.length_drop] at ht
  exact ⟨i + t, by omega, by omega, by rw [List.getElem_drop]⟩
theorem take_mem {L : List Ext} {i t : Nat} (ht : t < L.length) (h : t < i) : L[t] ∈ L.take i := by
  have : (L.take i)[t]'(by rw [List.length_take]; omega) = L[t] := by rw [List.getElem_take]
  rw [← this]
  exact List.getElem_mem _
theorem drop_mem {L : List Ext} {i t : Nat} (ht : t < L.length) (h : i ≤ t) : L[t] ∈ L.drop i := by
  have : (L.drop i)[t - i]'(by rw [List.length_drop]; omega) = L[t] := by rw [List.getElem_drop]; congr 1; omega
  rw [← this]
  exact List.getElem_mem _

/-- A new extent in the place of those between i and j. -/
theorem give_core {F B : Nat} {L : List Ext} (hI : Inv F B L) {i j fn m : Nat} {x : Ext} (hij : i ≤ j) (hx : 1 ≤ x.2 ∧ F ≤ x.1 ∧ x.1 + x.2 ≤ F + B) (hl : ∀ t (ht : t < L.length), t < i → L[t].1 + L[t].2 < x.1) (hr : ∀ t (ht : t < L.length), j ≤ t → x.1 + x.2 < L[t].1)
    (hb : ∀ b, In x b ↔ (fn ≤ b ∧ b < fn + m) ∨ ∃ t, ∃ ht : t < L.length, i ≤ t ∧ t < j ∧ In L[t] b) :
    Inv F B (L.take i ++ x :: L.drop j) ∧ ∀ b, Fr (L.take i ++ x :: L.drop j) b ↔ Fr L b ∨ (fn ≤ b ∧ b < fn + m) := by
  have hp := hI.apart
  have hlr : ∀ t u (ht : t < L.length) (hu : u < L.length), t < u → L[t].1 + L[t].2 < L[u].1 := fun t u ht hu h => (List.pairwise_iff_getElem.1 hp) t u ht hu h
  refine ⟨⟨List.pairwise_append.2 ⟨List.Pairwise.sublist (List.take_sublist _ _) hp, List.pairwise_cons.2 ⟨fun y hy => ?_, List.Pairwise.sublist (List.drop_sublist _ _) hp⟩, fun y hy z hz => ?_⟩, fun e he => ?_⟩, fun b => ?_⟩
  · obtain ⟨t, ht, h1, rfl⟩ := mem_drop hy
    exact hr t ht h1
  · obtain ⟨t, ht, h1, rfl⟩ := mem_take hy
    rcases List.mem_cons.1 hz with rfl | hz
    · exact hl t ht h1
    · obtain ⟨u, hu, h2, rfl⟩ := mem_drop hz
      exact hlr t u ht hu (by omega)
  · rcases List.mem_append.1 he with he | he
    · exact hI.ok e (List.mem_of_mem_take he)
    · rcases List.mem_cons.1 he with rfl | he
      · exact hx
      · exact hI.ok e (List.mem_of_mem_drop he)
  · rw [Fr_append, Fr_cons, hb]
    constructor
    · rintro (⟨e, he, h⟩ | (h | ⟨t, ht, _, _, h⟩) | ⟨e, he, h⟩)
      · exact .inl ⟨e, List.mem_of_mem_take he, h⟩
      · exact .inr h
      · exact .inl ⟨_, List.getElem_mem ht, h⟩
      · exact .inl ⟨e, List.mem_of_mem_drop he, h⟩
    · rintro (⟨e, he, h⟩ | h)
      · obtain ⟨t, ht, rfl⟩ := List.getElem_of_mem he
        rcases Nat.lt_or_ge t i with h1 | h1
        · exact .inl ⟨_, take_mem ht h1, h⟩
        · rcases Nat.lt_or_ge t j with h2 | h2
          · exact .inr (.inl (.inr ⟨t, ht, h1, h2, h⟩))
          · exact .inr (.inr ⟨_, drop_mem ht h2, h⟩)
      · exact .inr (.inl (.inl h))

theorem give_inv {F B : Nat} {L : List Ext} (hI : Inv F B L) {fn m k : Nat} (hk : FirstTrue (endsB L (fn : Int)) L.length k) (hy : GiveYes L F B fn m k) : Inv F B (giveAt L k fn m) ∧ ∀ b, Fr (giveAt L k fn m) b ↔ Fr L b ∨ (fn ≤ b ∧ b < fn + m) := by
  obtain ⟨hin, hyk⟩ := hy
  obtain ⟨hm, hF, hB⟩ := inside_iff.1 hin
  have hlr : ∀ t u (ht : t < L.length) (hu : u < L.length), t < u → L[t].1 + L[t].2 < L[u].1 := fun t u ht hu h => (List.pairwise_iff_getElem.1 hI.apart) t u ht hu h
  have hbef : ∀ t (ht : t < L.length), t < k → L[t].1 + L[t].2 ≤ fn := fun t ht h => ft_before hk h ht
  have hbeh : ∀ t (ht : t < L.length), k ≤ t → fn + m ≤ L[t].1 := fun t ht h => by
    have h1 := hyk (by omega)
    rw [getD_at (by omega)] at h1
    rcases Nat.eq_or_lt_of_le h with rfl | hlt
    · omega
    · have := hlr k t (by omega) ht hlt; omega
  have hkl := hk.1
  unfold giveAt giveX
  cases hJL : joinL L k fn <;> cases hJR : joinR L k fn m
  · -- apart on both sides
    have hL0 : ∀ t (ht : t < L.length), t < k → L[t].1 + L[t].2 < fn := fun t ht h => by
      have h1 := hbef t ht h
      rcases Nat.eq_or_lt_of_le h1 with he | hlt
      · exfalso
        by_cases htk : t = k - 1
        · have : joinL L k fn = true := by unfold joinL; rw [decide_eq_true_eq, ← htk, getD_at ht]; exact ⟨by omega, he⟩
          rw [hJL] at this; cases this
        · have h2 := hlr t (k - 1) ht (by omega) (by omega)
          have h3 := hbef (k - 1) (by omega) (by omega)
          have h4 := (hI.ok _ (List.getElem_mem (show k - 1 < L.length by omega))).1
          omega
      · exact hlt
    have hR0 : ∀ t (ht : t < L.length), k ≤ t → fn + m < L[t].1 := fun t ht h => by
      have h1 := hbeh t ht h
      rcases Nat.eq_or_lt_of_le h1 with he | hlt
      · exfalso
        rcases Nat.eq_or_lt_of_le h with rfl | hkt
        · have : joinR L k fn m = true := by unfold joinR; rw [decide_eq_true_eq, getD_at ht]; exact ⟨ht, he.symm⟩
          rw [hJR] at this; cases this
        · have h2 := hlr k t (by omega) ht hkt
          have h3 := hbeh k (by omega) (Nat.le_refl _)
          have h4 := (hI.ok _ (List.getElem_mem (show k < L.length by omega))).1
          omega
      · exact hlt
    simp only [Bool.false_eq_true, if_false]
    refine give_core hI (Nat.le_refl _) ⟨by simp only; omega, hF, by simp only; omega⟩ (fun t ht h => hL0 t ht h) (fun t ht h => by have := hR0 t ht h; simp only; omega) (fun b => ?_)
    unfold In
    simp only
    constructor
    · intro h; left; omega
    · rintro (h | ⟨t, ht, h1, h2, _⟩)
      · omega
      · omega
  · -- joined on the right
    have hL0 : ∀ t (ht : t < L.length), t < k → L[t].1 + L[t].2 < fn := fun t ht h => by
      have h1 := hbef t ht h
      rcases Nat.eq_or_lt_of_le h1 with he | hlt
      · exfalso
        by_cases htk : t = k - 1
        · have : joinL L k fn = true := by unfold joinL; rw [decide_eq_true_eq, ← htk, getD_at ht]; exact ⟨by omega, he⟩
          rw [hJL] at this; cases this
        · have h2 := hlr t (k - 1) ht (by omega) (by omega)
          have h3 := hbef (k - 1) (by omega) (by omega)
          have h4 := (hI.ok _ (List.getElem_mem (show k - 1 < L.length by omega))).1
          omega
      · exact hlt
    unfold joinR at hJR
    rw [decide_eq_true_eq] at hJR
    obtain ⟨j1, j2⟩ := hJR
    rw [getD_at j1] at j2 ⊢
    have hok := hI.ok _ (List.getElem_mem j1)
    simp only [Bool.false_eq_true, if_false, if_true]
    refine give_core hI (by omega) ⟨by simp only; omega, hF, by simp only; omega⟩ (fun t ht h => hL0 t ht h) (fun t ht h => by have := hlr k t j1 ht (by omega); simp only; omega) (fun b => ?_)
    unfold In
    simp only
    constructor
    · intro h
      rcases Nat.lt_or_ge b (fn + m) with h1 | h1
      · left; omega
      · right; exact ⟨k, j1, Nat.le_refl _, by omega, by omega, by omega⟩
    · rintro (h | ⟨t, ht, h1, h2, h3⟩)
      · omega
      · obtain rfl : t = k := by omega
        omega
  · -- joined on the left
    have hR0 : ∀ t (ht : t < L.length), k ≤ t → fn + m < L[t].1 := fun t ht h => by
      have h1 := hbeh t ht h
      rcases Nat.eq_or_lt_of_le h1 with he | hlt
      · exfalso
        rcases Nat.eq_or_lt_of_le h with rfl | hkt
        · have : joinR L k fn m = true := by unfold joinR; rw [decide_eq_true_eq, getD_at ht]; exact ⟨ht, he.symm⟩
          rw [hJR] at this; cases this
        · have h2 := hlr k t (by omega) ht hkt
          have h3 := hbeh k (by omega) (Nat.le_refl _)
          have h4 := (hI.ok _ (List.getElem_mem (show k < L.length by omega))).1
          omega
      · exact hlt
    unfold joinL at hJL
    rw [decide_eq_true_eq] at hJL
    obtain ⟨j1, j2⟩ := hJL
    have hkk : k - 1 < L.length := by omega
    rw [getD_at hkk] at j2 ⊢
    have hok := hI.ok _ (List.getElem_mem hkk)
    simp only [Bool.false_eq_true, if_false, if_true]
    refine give_core hI (by omega) ⟨by simp only; omega, hok.2.1, by simp only; omega⟩ (fun t ht h => hlr t (k - 1) ht hkk h) (fun t ht h => by have := hR0 t ht h; simp only; omega) (fun b => ?_)
    unfold In
    simp only
    constructor
    · intro h
      rcases Nat.lt_or_ge b fn with h1 | h1
      · right; exact ⟨k - 1, hkk, Nat.le_refl _, by omega, by omega, by omega⟩
      · left; omega
    · rintro (h | ⟨t, ht, h1, h2, h3⟩)
      · omega
      · obtain rfl : t = k - 1 := by omega
        omega
  · -- joined on both sides
    unfold joinL at hJL
    rw [decide_eq_true_eq] at hJL
    obtain ⟨j1, j2⟩ := hJL
    unfold joinR at hJR
    rw [decide_eq_true_eq] at hJR
    obtain ⟨j3, j4⟩ := hJR
    have hkk : k - 1 < L.length := by omega
    rw [getD_at hkk] at j2 ⊢
    rw [getD_at j3] at j4 ⊢
    have hok := hI.ok _ (List.getElem_mem hkk)
    have hok2 := hI.ok _ (List.getElem_mem j3)
    simp only [if_true]
    refine give_core hI (by omega) ⟨by simp only; omega, hok.2.1, by simp only; omega⟩ (fun t ht h => hlr t (k - 1) ht hkk h) (fun t ht h => by have := hlr k t j3 ht (by omega); simp only; omega) (fun b => ?_)
    unfold In
    simp only
    constructor
    · intro h
      rcases Nat.lt_or_ge b fn with h1 | h1
      · right; exact ⟨k - 1, hkk, Nat.le_refl _, by omega, by omega, by omega⟩
      · rcases Nat.lt_or_ge b (fn + m) with h4 | h4
        · left; omega
        · right; exact ⟨k, j3, by omega, by omega, by omega, by omega⟩
    · rintro (h | ⟨t, ht, h1, h2, h3⟩)
      · omega
      · have : t = k - 1 ∨ t = k := by omega
        rcases this with rfl | rfl
        · omega
        · omega

/-! What an act is, of the set of free blocks -/
/-- Hold of n blocks from 'first' on: 0 just if they are all of the space, and free. -/
theorem hold_spec {F B : Nat} {L L' : List Ext} {first n er : Int} (hI : Inv F B L) (h : HoldRel L F B first n er L') :
    Inv F B L' ∧ ((er = 1 ∧ L' = L ∧ ¬ (1 ≤ n ∧ (F : Int) ≤ first ∧ first + n ≤ F + B ∧ ∀ b : Nat, first ≤ b → (b : Int) < first + n → Fr L b)) ∨
      (er = 0 ∧ (1 ≤ n ∧ (F : Int) ≤ first ∧ first + n ≤ F + B ∧ ∀ b : Nat, first ≤ b → (b : Int) < first + n → Fr L b) ∧ ∀ b : Nat, Fr L' b ↔ Fr L b ∧ ¬ (first ≤ b ∧ (b : Int) < first + n))) := by
  rcases h with ⟨rfl, rfl, h⟩ | ⟨rfl, k, hk, hy, rfl⟩
  · refine ⟨hI, .inl ⟨rfl, rfl, fun ⟨h1, h2, h3, h4⟩ => ?_⟩⟩
    obtain ⟨fn, rfl⟩ := Int.eq_ofNat_of_zero_le (show 0 ≤ first by omega)
    obtain ⟨m, rfl⟩ := Int.eq_ofNat_of_zero_le (show 0 ≤ n by omega)
    obtain ⟨k, hk⟩ := ft_ex hI.asc (fn : Int)
    have hin : insideB F B (fn : Int) (m : Int) = true := inside_iff.2 (by omega)
    exact h k hk ((hold_yes hI (by omega) hin hk).2 (fun b h5 h6 => h4 b (by omega) (by omega)))
  · have hin := hy.1
    have hin2 : 1 ≤ n ∧ (F : Int) ≤ first ∧ first ≤ F + B ∧ n ≤ F + B - first := by
      unfold insideB at hin
      exact of_decide_eq_true hin
    obtain ⟨fn, rfl⟩ := Int.eq_ofNat_of_zero_le (show 0 ≤ first by omega)
    obtain ⟨m, rfl⟩ := Int.eq_ofNat_of_zero_le (show 0 ≤ n by omega)
    rw [Int.toNat_natCast, Int.toNat_natCast]
    obtain ⟨h1, h2⟩ := hold_inv hI (by omega) hy
    refine ⟨h1, .inr ⟨rfl, ⟨hin2.1, hin2.2.1, by omega, fun b h5 h6 => (hold_yes hI (by omega) hin hk).1 hy b (by omega) (by omega)⟩, fun b => ?_⟩⟩
    rw [h2]
    constructor
    · rintro ⟨h3, h4⟩; exact ⟨h3, by omega⟩
    · rintro ⟨h3, h4⟩; exact ⟨h3, by omega⟩
theorem give_spec {F B : Nat} {L L' : List Ext} {first n er : Int} (hI : Inv F B L) (h : GiveRel L F B first n er L') :
    Inv F B L' ∧ ((er = 1 ∧ L' = L ∧ ¬ (1 ≤ n ∧ (F : Int) ≤ first ∧ first + n ≤ F + B ∧ ∀ b : Nat, first ≤ b → (b : Int) < first + n → ¬ Fr L b)) ∨
      (er = 0 ∧ (1 ≤ n ∧ (F : Int) ≤ first ∧ first + n ≤ F + B ∧ ∀ b : Nat, first ≤ b → (b : Int) < first + n → ¬ Fr L b) ∧ ∀ b : Nat, Fr L' b ↔ Fr L b ∨ (first ≤ b ∧ (b : Int) < first + n))) := by
  rcases h with ⟨rfl, rfl, h⟩ | ⟨rfl, k, hk, hy, rfl⟩
  · refine ⟨hI, .inl ⟨rfl, rfl, fun ⟨h1, h2, h3, h4⟩ => ?_⟩⟩
    obtain ⟨fn, rfl⟩ := Int.eq_ofNat_of_zero_le (show 0 ≤ first by omega)
    obtain ⟨m, rfl⟩ := Int.eq_ofNat_of_zero_le (show 0 ≤ n by omega)
    obtain ⟨k, hk⟩ := ft_ex hI.asc (fn : Int)
    have hin : insideB F B (fn : Int) (m : Int) = true := inside_iff.2 (by omega)
    exact h k hk ((give_yes hI (by omega) hin hk).2 (fun b h5 h6 => h4 b (by omega) (by omega)))
  · have hin := hy.1
    have hin2 : 1 ≤ n ∧ (F : Int) ≤ first ∧ first ≤ F + B ∧ n ≤ F + B - first := by
      unfold insideB at hin
      exact of_decide_eq_true hin
    obtain ⟨fn, rfl⟩ := Int.eq_ofNat_of_zero_le (show 0 ≤ first by omega)
    obtain ⟨m, rfl⟩ := Int.eq_ofNat_of_zero_le (show 0 ≤ n by omega)
    rw [Int.toNat_natCast, Int.toNat_natCast]
    obtain ⟨h1, h2⟩ := give_inv hI hk hy
    refine ⟨h1, .inr ⟨rfl, ⟨hin2.1, hin2.2.1, by omega, fun b h5 h6 => (give_yes hI (by omega) hin hk).1 hy b (by omega) (by omega)⟩, fun b => ?_⟩⟩
    rw [h2]
    constructor
    · rintro (h3 | h3)
      · exact .inl h3
      · exact .inr (by omega)
    · rintro (h3 | h3)
      · exact .inl h3
      · exact .inr (by omega)

/-- n blocks from p on are free. -/
def Room (L : List Ext) (p n : Nat) : Prop := ∀ b, p ≤ b → b < p + n → Fr L b
theorem room_ext {F B : Nat} {L : List Ext} (hI : Inv F B L) {p n : Nat} (hn : 1 ≤ n) (h : Room L p n) : ∃ t, ∃ ht : t < L.length, L[t].1 ≤ p ∧ p + n ≤ L[t].1 + L[t].2 := by
  have hF : F ≤ p := by
    obtain ⟨e, he, hb⟩ := h p (Nat.le_refl _) (by omega)
    have := (hI.ok e he).2.1
    unfold In at hb
    omega
  have hB : p + n ≤ F + B := by
    obtain ⟨e, he, hb⟩ := h (p + n - 1) (by omega) (by omega)
    have := (hI.ok e he).2.2
    unfold In at hb
    omega
  obtain ⟨k, hk⟩ := ft_ex hI.asc (p : Int)
  obtain ⟨_, h1, h2, h3⟩ := (hold_yes hI hn (inside_iff.2 ⟨hn, hF, hB⟩) hk).2 h
  rw [getD_at h1] at h2 h3
  exact ⟨k, h1, by omega, by omega⟩
theorem no_room {F B : Nat} {L : List Ext} (hI : Inv F B L) {m : Nat} (hm : 1 ≤ m) (h : ∀ e ∈ L, (e.2 : Int) < (m : Int)) (p : Nat) : ¬ Room L p m := fun hr => by
  obtain ⟨t, ht, e1, e2⟩ := room_ext hI hm hr
  have := h _ (List.getElem_mem ht)
  omega
theorem take_spec {F B : Nat} {L L' : List Ext} {n r er : Int} (hI : Inv F B L) (h : TakeRel L F B n r er L') :
    Inv F B L' ∧ ((n < 1 ∧ r = 0 ∧ er = 1 ∧ L' = L) ∨ (∃ m : Nat, n = m ∧ 1 ≤ m ∧ (∀ e ∈ L, e.2 < m) ∧ (∀ p, ¬ Room L p m) ∧ r = 0 ∧ er = 5 ∧ L' = L) ∨
      (∃ m p : Nat, n = m ∧ r = p ∧ er = 0 ∧ 1 ≤ m ∧ F ≤ p ∧ p + m ≤ F + B ∧ Room L p m ∧ (∀ q, q < p → ¬ Room L q m) ∧ (∀ b : Nat, Fr L' b ↔ Fr L b ∧ ¬ (p ≤ b ∧ b < p + m)) ∧ ∃ k, ∃ hk : k < L.length, (∀ j (hj : j < L.length), j < k → L[j].2 < m) ∧ m ≤ L[k].2 ∧ p = L[k].1)) := by
  rcases h with ⟨h1, rfl, rfl, rfl⟩ | ⟨h1, h2, rfl, rfl, rfl⟩ | ⟨h1, k, hk, h2, h3, rfl, hh⟩
  · exact ⟨hI, .inl ⟨h1, rfl, rfl, rfl⟩⟩
  · obtain ⟨m, rfl⟩ := Int.eq_ofNat_of_zero_le (show 0 ≤ n by omega)
    exact ⟨hI, .inr (.inl ⟨m, rfl, by omega, fun e he => by have := h2 e he; omega, no_room hI (by omega) h2, rfl, rfl, rfl⟩)⟩
  · obtain ⟨m, rfl⟩ := Int.eq_ofNat_of_zero_le (show 0 ≤ n by omega)
    have hok := hI.ok _ (List.getElem_mem hk)
    have hroom : Room L L[k].1 m := fun b h4 h5 => ⟨L[k], List.getElem_mem hk, by unfold In; omega⟩
    obtain ⟨i1, i2⟩ := hold_spec hI hh
    refine ⟨i1, .inr (.inr ?_)⟩
    rcases i2 with ⟨_, _, hno⟩ | ⟨rfl, _, hfr⟩
    · exact absurd ⟨by omega, by omega, by omega, fun b h4 h5 => hroom b (by omega) (by omega)⟩ hno
    · refine ⟨m, L[k].1, rfl, rfl, rfl, by omega, hok.2.1, by omega, hroom, fun q hq hr => ?_, fun b => ?_, k, hk, fun j hj hjk => by have := h2 j hjk; omega, by omega, rfl⟩
      · obtain ⟨t, ht, e1, e2⟩ := room_ext hI (by omega) hr
        rcases Nat.lt_or_ge t k with hlt | hge
        · have := h2 t hlt; omega
        · rcases Nat.eq_or_lt_of_le hge with rfl | hlt
          · omega
          · have := (List.pairwise_iff_getElem.1 hI.apart) k t hk ht hlt; omega
      · rw [hfr]
        constructor
        · rintro ⟨e1, e2⟩; exact ⟨e1, by omega⟩
        · rintro ⟨e1, e2⟩; exact ⟨e1, by omega⟩

end Go.Proofs.Ytmmkncocgjgapaa.Sp

/- How structs of three and five fields, and slices of bools, are read. No condition. -/
namespace Go.Proofs.Ytmmkncocgjgapaa
open Go.RowKit

theorem opens_struct3 {H : Type} {enc : TypeId × Value → H} {P : Program} {t : TypeId} {f0 f1 f2 : Field} {A B C : Type} {R : Rd A} {S : Rd B} {T : Rd C} {m0 m1 m2 n0 : Nat} (ht : P.underlying t = some (.struct #[f0, f1, f2])) (hc : P.cellsOf t = m0 + n0) (s0 : n0 = m1 + m2)
    (h0 : P.cellsOf f0.type = m0) (o0 : f0.offset = 0) (r0 : Opens enc P f0.type R) (h1 : P.cellsOf f1.type = m1) (o1 : f1.offset = m0) (r1 : Opens enc P f1.type S) (h2 : P.cellsOf f2.type = m2) (o2 : f2.offset = m0 + m1) (r2 : Opens enc P f2.type T) :
    Opens enc P t (rdPair m0 n0 R (rdPair m1 m2 S T)) := fun w _ cs _ h => by
  obtain ⟨xs, n, _, rfl, hl, hlen, hf⟩ := DataW.trod_struct ht h
  match xs, hlen with
  | [y0, y1, y2], _ =>
    have a0 := hf 0 f0 rfl
    have a1 := hf 1 f1 rfl
    have a2 := hf 2 f2 rfl
    simp only [List.getElem?_cons_zero, List.getElem?_cons_succ] at a0 a1 a2
    rw [o0, h0, List.drop_zero] at a0
    rw [o1, h1] at a1
    rw [o2, h2, List.take_of_length_le (by rw [List.length_drop]; omega)] at a2
    obtain ⟨d0, e0⟩ := r0 _ _ _ _ a0
    obtain ⟨d1, e1⟩ := r1 _ _ _ _ a1
    obtain ⟨d2, e2⟩ := r2 _ _ _ _ a2
    exact ⟨(d0, d1, d2), hl.trans hc, e0, by rw [List.length_drop]; omega, e1, by rw [List.drop_drop]; exact e2⟩

theorem opens_struct5 {H : Type} {enc : TypeId × Value → H} {P : Program} {t : TypeId} {f0 f1 f2 f3 f4 : Field} {A B C D E : Type} {R : Rd A} {S : Rd B} {T : Rd C} {U : Rd D} {V : Rd E} {m0 m1 m2 m3 m4 n0 n1 n2 : Nat} (ht : P.underlying t = some (.struct #[f0, f1, f2, f3, f4])) (hc : P.cellsOf t = m0 + n0)
    (s0 : n0 = m1 + n1) (s1 : n1 = m2 + n2) (s2 : n2 = m3 + m4)
    (h0 : P.cellsOf f0.type = m0) (o0 : f0.offset = 0) (r0 : Opens enc P f0.type R) (h1 : P.cellsOf f1.type = m1) (o1 : f1.offset = m0) (r1 : Opens enc P f1.type S) (h2 : P.cellsOf f2.type = m2) (o2 : f2.offset = m0 + m1) (r2 : Opens enc P f2.type T)
    (h3 : P.cellsOf f3.type = m3) (o3 : f3.offset = m0 + m1 + m2) (r3 : Opens enc P f3.type U) (h4 : P.cellsOf f4.type = m4) (o4 : f4.offset = m0 + m1 + m2 + m3) (r4 : Opens enc P f4.type V) :
    Opens enc P t (rdPair m0 n0 R (rdPair m1 n1 S (rdPair m2 n2 T (rdPair m3 m4 U V)))) := fun w _ cs _ h => by
  obtain ⟨xs, n, _, rfl, hl, hlen, hf⟩ := DataW.trod_struct ht h
  match xs, hlen with
  | [y0, y1, y2, y3, y4], _ =>
    have a0 := hf 0 f0 rfl
    have a1 := hf 1 f1 rfl
    have a2 := hf 2 f2 rfl
    have a3 := hf 3 f3 rfl
    have a4 := hf 4 f4 rfl
    simp only [List.getElem?_cons_zero, List.getElem?_cons_succ] at a0 a1 a2 a3 a4
    rw [o0, h0, List.drop_zero] at a0
    rw [o1, h1] at a1
    rw [o2, h2] at a2
    rw [o3, h3] at a3
    rw [o4, h4, List.take_of_length_le (by rw [List.length_drop]; omega)] at a4
    obtain ⟨d0, e0⟩ := r0 _ _ _ _ a0
    obtain ⟨d1, e1⟩ := r1 _ _ _ _ a1
    obtain ⟨d2, e2⟩ := r2 _ _ _ _ a2
    obtain ⟨d3, e3⟩ := r3 _ _ _ _ a3
    obtain ⟨d4, e4⟩ := r4 _ _ _ _ a4
    exact ⟨(d0, d1, d2, d3, d4), hl.trans hc, e0, by rw [List.length_drop]; omega, e1, by rw [List.length_drop, List.length_drop]; omega, by rw [List.drop_drop]; exact e2,
      by rw [List.length_drop, List.length_drop, List.length_drop]; omega, by have := e3; simp only [List.drop_drop, Nat.add_assoc] at this ⊢; exact this, by have := e4; simp only [List.drop_drop, Nat.add_assoc] at this ⊢; exact this⟩

theorem okWide_struct {P : Program} {w : World} {r : Reach} {base : Nat} {t : TypeId} {v : Value} {fs : Array Field} (ht : P.underlying t = some (.struct fs)) (h : Value.okWide P w r base t v) : ∃ cs, v = .agg cs ∧ cs.size = P.cellsOf t := by
  simp only [Value.okWide, ht] at h
  obtain ⟨cs, h1, h2, _⟩ := h
  exact ⟨cs, h1, h2⟩

/-- A slice of bools. -/
theorem rdSlice_bools {w : World} {cs : List Value} {l : List Bool} (h : rdSlice 1 rdBool w cs l) :
    ∃ a n c, cs = [.slice a n c] ∧ l.length = n ∧ n ≤ c ∧ c ≤ maxLen ∧ Row w a (l.map Value.bool) := by
  obtain ⟨a, n, c, rfl, hl, hn, hc, _, hr⟩ := h
  refine ⟨a, n, c, rfl, hl, hn, hc, fun i hi => ?_⟩
  rw [List.length_map] at hi
  obtain ⟨x, es, hx, _, hj, hes⟩ := hr i hi
  refine ⟨x, hx, ?_⟩
  have := hj 0 (by omega)
  rw [hes, Nat.mul_one] at this
  rw [show (x.add i).add 0 = x.add i from by simp [Addr.add]] at this
  rw [this]
  simp [hi]

/-- A struct of an int, an int, a word, a bool and a slice of bools. -/
abbrev rdOp5 : Rd (Int × Int × Int × Bool × List Bool) := rdPair 1 4 (rdInt .i64) (rdPair 1 3 (rdInt .i64) (rdPair 1 2 (rdInt .u64) (rdPair 1 1 rdBool (rdSlice 1 rdBool))))
theorem op5_cells {w : World} {cs : List Value} {d : Int × Int × Int × Bool × List Bool} (h : rdOp5 w cs d) :
    ∃ a n c, cs = [.int .i64 d.1, .int .i64 d.2.1, .int .u64 d.2.2.1, .bool d.2.2.2.1, .slice a n c] ∧ d.2.2.2.2.length = n ∧ n ≤ c ∧ c ≤ maxLen ∧ Row w a (d.2.2.2.2.map Value.bool) ∧ (Lit.int .i64 d.1).wf = true ∧ (Lit.int .i64 d.2.1).wf = true ∧ (Lit.int .u64 d.2.2.1).wf = true := by
  obtain ⟨h0, ⟨e0, w0⟩, h1, ⟨e1, w1⟩, h2, ⟨e2, w2⟩, h3, e3, e4⟩ := h
  obtain ⟨a, n, c, e4, q1, q2, q3, q4⟩ := rdSlice_bools e4
  match cs, h0 with
  | [c0, c1, c2, c3, c4], _ =>
    simp [rdBool] at e0 e1 e2 e3 e4
    subst e0; subst e1; subst e2; subst e3; subst e4
    exact ⟨a, n, c, rfl, q1, q2, q3, q4, w0, w1, w2⟩

end Go.Proofs.Ytmmkncocgjgapaa

/- A space within a law: the acts in one word, and what wakes the laws. -/
namespace Go.Proofs.Ytmmkncocgjgapaa.Sp
open Go.RowKit

/-- A space that a call made: all its blocks lie behind what there was. -/
def SpI (w0 w : World) (s F B : Nat) (L : List Ext) : Prop := ∃ v, SpAt w s F B v L w0.heap.size ∧ w0.heap.size ≤ s ∧ Inv F B L ∧ Below w0.heap.size w0 w
theorem SpI.below {w0 w w' : World} {s F B : Nat} {L : List Ext} (h : SpI w0 w s F B L) (hb : Below w.heap.size w w') : SpI w0 w' s F B L := by
  obtain ⟨v, h1, h2, h3, h4⟩ := h
  exact ⟨v, h1.below hb, h2, h3, h4.trans (hb.mono h4.size)⟩
theorem SpI.frame {w0 w : World} {s F B : Nat} {L : List Ext} (h : SpI w0 w s F B L) : Below w0.heap.size w0 w := by
  obtain ⟨v, h1, h2, h3, h4⟩ := h
  exact h4
theorem SpI.inv {w0 w : World} {s F B : Nat} {L : List Ext} (h : SpI w0 w s F B L) : Inv F B L := by
  obtain ⟨v, h1, h2, h3, h4⟩ := h
  exact h3
def ActI (w0 : World) (s F B : Nat) (R : Int → List Ext → Prop) (e : Ending) (w' : World) : Prop := ∃ er L', e = .returned (.int .i64 er) ∧ SpI w0 w' s F B L' ∧ R er L'
def TakeI (w0 : World) (s F B : Nat) (R : Int → Int → List Ext → Prop) (e : Ending) (w' : World) : Prop := ∃ r er L', e = .returned (.tuple #[.int .i64 r, .int .i64 er]) ∧ SpI w0 w' s F B L' ∧ R r er L'

theorem act_frame {w0 w w' : World} {s F B : Nat} {v : Value} {L : List Ext} (h : SpAt w s F B v L w0.heap.size) (hs : w0.heap.size ≤ s) (hb : Below w0.heap.size w0 w) (hc : Chg (fun k => k = s ∨ some k = v.ownBlock) w w') : Below w0.heap.size w0 w' :=
  hb.trans (hc.below_of hb.size (fun k hk e => by
    rcases e with e | e
    · omega
    · have := (h.own.lt k e.symm).1
      omega))
theorem hold_i {w0 w : World} {s F B : Nat} {L : List Ext} (h : SpI w0 w s F B L) (hB : B ≤ 900000) (first n : Int) : Calls Try.prog 58 #[.pointer (some ⟨s, 0, none⟩), .int .i64 first, .int .i64 n] w (ActI w0 s F B (HoldRel L F B first n)) := by
  obtain ⟨v, h1, h2, h3, h4⟩ := h
  have hl := h3.len
  refine (hold_any s F B v L w0.heap.size first n w h1 h3.asc (by omega) h4.size).mono ?_
  rintro e w' ⟨er, v', L', rfl, hr, hs, hc, _⟩
  exact ⟨er, L', rfl, ⟨v', hs, h2, (hold_spec h3 hr).1, act_frame h1 h2 h4 hc⟩, hr⟩
theorem give_i {w0 w : World} {s F B : Nat} {L : List Ext} (h : SpI w0 w s F B L) (hB : B ≤ 900000) (first n : Int) : Calls Try.prog 54 #[.pointer (some ⟨s, 0, none⟩), .int .i64 first, .int .i64 n] w (ActI w0 s F B (GiveRel L F B first n)) := by
  obtain ⟨v, h1, h2, h3, h4⟩ := h
  have hl := h3.len
  refine (give_any s F B v L w0.heap.size first n w h1 h3.asc (fun e he => (h3.ok e he).2.2) (by omega) h4.size).mono ?_
  rintro e w' ⟨er, v', L', rfl, hr, hs, hc, _⟩
  exact ⟨er, L', rfl, ⟨v', hs, h2, (give_spec h3 hr).1, act_frame h1 h2 h4 hc⟩, hr⟩
theorem take_i {w0 w : World} {s F B : Nat} {L : List Ext} (h : SpI w0 w s F B L) (hB : B ≤ 900000) (n : Int) : Calls Try.prog 49 #[.pointer (some ⟨s, 0, none⟩), .int .i64 n] w (TakeI w0 s F B (TakeRel L F B n)) := by
  obtain ⟨v, h1, h2, h3, h4⟩ := h
  have hl := h3.len
  refine (take_any s F B v L w0.heap.size n w h1 h3.asc (by omega) h4.size).mono ?_
  rintro e w' ⟨r, er, v', L', rfl, hr, hs, hc, _⟩
  exact ⟨r, er, L', rfl, ⟨v', hs, h2, (take_spec h3 hr).1, act_frame h1 h2 h4 hc⟩, hr⟩
theorem whole_inv (F B : Nat) : Inv F B (wholeL F B) := by
  unfold wholeL
  split
  · exact ⟨List.Pairwise.nil, fun e he => by cases he⟩
  · refine ⟨List.pairwise_singleton _ _, fun e he => ?_⟩
    rw [List.mem_singleton.1 he]
    simp only
    omega
def NewI (w0 : World) (F B : Nat) (e : Ending) (w' : World) : Prop := ∃ s, e = .returned (.pointer (some ⟨s, 0, none⟩)) ∧ SpI w0 w' s F B (wholeL F B)
theorem SpAt.base_le {w : World} {s F B : Nat} {v : Value} {L : List Ext} {base b2 : Nat} (h : SpAt w s F B v L base) (hb : b2 ≤ base) : SpAt w s F B v L b2 := by
  refine ⟨h.blk, ?_, h.F_le, h.B_le, h.L_le, h.in_⟩
  rcases h.own.2 with h2 | ⟨g, cap, cur, e, hg, r⟩
  · exact ⟨h.own.1, .inl h2⟩
  · exact ⟨h.own.1, .inr ⟨g, cap, cur, e, by omega, r⟩⟩
theorem new_i {w0 w : World} (hb : Below w0.heap.size w0 w) (F B : Nat) (hF : F ≤ 1000000) (hB : B ≤ 1000000) : Calls Try.prog 40 #[.int .i64 (F : Int), .int .i64 (B : Int)] w (NewI w0 F B) :=
  (new_ok F B w hF hB).mono fun e w' ⟨s, v, h1, h2, h3, h4⟩ => ⟨s, h1, v, h3.base_le hb.size, Nat.le_trans hb.size h2, whole_inv F B, hb.trans (h4.mono hb.size)⟩

theorem awake_plain {r er : Int} {L' : List Ext} (h : TakeRel (wholeL 2 10) 2 10 3 r er L') : r = 2 ∧ er = 0 ∧ sumX L' = 7 := by
  have hw : wholeL 2 10 = [(2, 10)] := rfl
  rw [hw] at h
  have hI : Inv 2 10 [(2, 10)] := hw ▸ whole_inv 2 10
  rcases h with ⟨h, _⟩ | ⟨_, h, _⟩ | ⟨_, k, hk, _, _, rfl, hh⟩
  · omega
  · have := h (2, 10) (List.mem_singleton.2 rfl); simp at this
  · obtain rfl : k = 0 := by simp at hk; omega
    have hs := hold_spec hI hh
    rcases hh with ⟨rfl, _, _⟩ | ⟨rfl, k, hk, hy, rfl⟩
    · rcases hs.2 with ⟨_, _, hno⟩ | ⟨h, _⟩
      · exfalso
        refine hno ⟨by omega, by simp, by simp, fun b h1 h2 => ⟨(2, 10), List.mem_singleton.2 rfl, ?_⟩⟩
        simp at h1 h2
        unfold In
        simp only
        omega
      · cases h
    · have hk1 := hy.2.1
      obtain rfl : k = 0 := by simp at hk1; omega
      have h7 : sumX (holdAt [(2, 10)] 0 2 3) = 7 := by decide
      exact ⟨rfl, rfl, h7⟩

end Go.Proofs.Ytmmkncocgjgapaa.Sp

/- A work: its device, its arena, its space; what its methods may turn; the walks of the small ones. -/
namespace Go.Proofs.Ytmmkncocgjgapaa.Fl
open Go.RowKit

abbrev P (g : Nat) : Value := .pointer (some ⟨g, 0, none⟩)
/-- Where a work's parts lie. -/
structure Key where
  wk : Nat
  d : Nat
  rl : Nat
  rn : Nat
  a : Nat
  r : Nat
  s : Nat
  base : Nat
/-- What a work holds. -/
structure Wk where
  D : Dev.Dv
  A : Arena.Ar
  B : Nat
  L : List Sp.Ext

structure WkI (w : World) (O : Nat → Prop) (K : Key) (W : Wk) : Prop where
  box : Blk w K.wk 97 #[P K.d, P K.a, P K.s]
  dev : ∃ pv, Dev.At w O K.d K.rl K.rn pv W.D
  arn : Arena.At w K.a K.r W.A
  spc : ∃ v, Sp.SpAt w K.s 0 W.B v W.L K.base
  inv : Sp.Inv 0 W.B W.L
  maps : K.r ≠ K.rl ∧ K.r ≠ K.rn
  small : W.B ≤ 900000
  out : (K.base ≤ K.wk ∧ K.base ≤ K.d ∧ K.base ≤ K.rl ∧ K.base ≤ K.rn ∧ K.base ≤ K.a ∧ K.base ≤ K.r ∧ K.base ≤ K.s) ∧ ∀ g, O g → K.base ≤ g

/-- The blocks that a work's methods may turn, and those of E. -/
def Ft (K : Key) (E : Nat → Prop) (w : World) (k : Nat) : Prop :=
  k = K.d ∨ k = K.rl ∨ k = K.rn ∨ k = K.a ∨ k = K.r ∨ k = K.s ∨ (K.base ≤ k ∧ ∃ cs, Blk w k 105 cs) ∨ (K.base ≤ k ∧ ∃ cs, Blk w k 128 cs) ∨ E k

section
variable {K : Key} {E E' : Nat → Prop} {w w1 w2 w' : World} {O : Nat → Prop} {W : Wk}
theorem Ft.back (hc : Chg (Ft K E w) w w1) {k : Nat} (hk : k < w.heap.size) (h : Ft K E w1 k) : Ft K E w k := by
  rcases Classical.em (Ft K E w k) with h0 | h0
  · exact h0
  · have hb := hc.block k hk h0
    rcases h with h | h | h | h | h | h | ⟨b0, cs, h⟩ | ⟨b0, cs, h⟩ | h
    · exact .inl h
    · exact .inr (.inl h)
    · exact .inr (.inr (.inl h))
    · exact .inr (.inr (.inr (.inl h)))
    · exact .inr (.inr (.inr (.inr (.inl h))))
    · exact .inr (.inr (.inr (.inr (.inr (.inl h)))))
    · exact .inr (.inr (.inr (.inr (.inr (.inr (.inl ⟨b0, cs, hb.symm.trans h⟩))))))
    · exact .inr (.inr (.inr (.inr (.inr (.inr (.inr (.inl ⟨b0, cs, hb.symm.trans h⟩)))))))
    · exact .inr (.inr (.inr (.inr (.inr (.inr (.inr (.inr h)))))))
theorem Ft.mono (hE : ∀ k, E k → E' k) {k : Nat} (h : Ft K E w k) : Ft K E' w k := by
  rcases h with h | h | h | h | h | h | h | h | h
  · exact .inl h
  · exact .inr (.inl h)
  · exact .inr (.inr (.inl h))
  · exact .inr (.inr (.inr (.inl h)))
  · exact .inr (.inr (.inr (.inr (.inl h))))
  · exact .inr (.inr (.inr (.inr (.inr (.inl h)))))
  · exact .inr (.inr (.inr (.inr (.inr (.inr (.inl h))))))
  · exact .inr (.inr (.inr (.inr (.inr (.inr (.inr (.inl h)))))))
  · exact .inr (.inr (.inr (.inr (.inr (.inr (.inr (.inr (hE k h))))))))
/-- What may have turned between two worlds of a work. -/
def Turn (K : Key) (E : Nat → Prop) (w w' : World) : Prop := Chg (Ft K E w) w w'
theorem Turn.refl (K : Key) (E : Nat → Prop) (w : World) : Turn K E w w := Chg.refl _ _
theorem Turn.trans (h : Turn K E w w1) (h' : Turn K E w1 w2) : Turn K E w w2 := Chg.trans h h' (fun k hk hf => Ft.back h hk hf)
theorem Turn.mono (h : Turn K E w w1) (hE : ∀ k, E k → E' k) : Turn K E' w w1 := Chg.mono h (fun k _ hk => hk.mono hE)
theorem Turn.below (h : Below w.heap.size w w1) : Turn K E w w1 := Chg.of_below' h
theorem Turn.drewN (h : Turn K E w w1) (n : Nat) : Turn K E w (w1.drewN n) := Chg.drewN h n
theorem Turn.drew (h : Turn K E w w1) : Turn K E w w1.drew := Chg.drew h
theorem Turn.size (h : Turn K E w w1) : w.heap.size ≤ w1.heap.size := Chg.size h
theorem Turn.alloc (h : Turn K E w w1) (o : Obj) : Turn K E w (w1.alloc o) := Chg.alloc h o
theorem Turn.setCell (h : Turn K E w w1) (p : Addr) (u : Value) (hs : p.block < w.heap.size → Ft K E w p.block) : Turn K E w (w1.setCell p u) := Chg.setCell h p u hs
/-- A block of another kind stays. -/
theorem WkI.keeps (h : WkI w O K W) (ht : Turn K E w w') {g : Nat} {t : TypeId} {cs : Array Value} (hb : Blk w g t cs) (h1 : t ≠ 101) (h2 : t ≠ 115) (h3 : t ≠ 130) (h4 : t ≠ 105) (h5 : t ≠ 128) (hE : ¬ E g) : ¬ Ft K E w g := by
  obtain ⟨pv, hd⟩ := h.dev
  obtain ⟨v, hs⟩ := h.spc
  rintro (e | e | e | e | e | e | ⟨_, cs', e⟩ | ⟨_, cs', e⟩ | e)
  · subst e; exact hb.ne_ hd.box h1 rfl
  · exact hd.lasts.ne_blk hb e
  · exact hd.now.ne_blk hb e
  · subst e; exact hb.ne_ h.arn.blk h2 rfl
  · exact h.arn.map.ne_blk hb e
  · subst e; exact hb.ne_ hs.blk h3 rfl
  · exact hb.ne_ e h4 rfl
  · exact hb.ne_ e h5 rfl
  · exact hE e
theorem WkI.blk (h : WkI w O K W) (ht : Turn K E w w') {g : Nat} {t : TypeId} {cs : Array Value} (hb : Blk w g t cs) (h1 : t ≠ 101) (h2 : t ≠ 115) (h3 : t ≠ 130) (h4 : t ≠ 105) (h5 : t ≠ 128) (hE : ¬ E g) : Blk w' g t cs :=
  hb.chg ht (h.keeps ht hb h1 h2 h3 h4 h5 hE)
theorem WkI.below (h : WkI w O K W) (hb : Below w.heap.size w w') : WkI w' O K W := by
  obtain ⟨pv, hd⟩ := h.dev
  obtain ⟨v, hs⟩ := h.spc
  exact ⟨h.box.below hb h.box.lt, ⟨pv, hd.below hb⟩, h.arn.chg (Chg.of_below' (S := fun _ => False) hb) (fun h => h) (fun h => h) (fun _ _ h => h.elim), ⟨v, hs.below hb⟩, h.inv, h.maps, h.small, h.out⟩
theorem WkI.drewN (h : WkI w O K W) (n : Nat) : WkI (w.drewN n) O K W := h.below ⟨rfl, rfl, rfl, Nat.le_refl _, fun _ _ => rfl⟩
theorem WkI.drew (h : WkI w O K W) : WkI w.drew O K W := h.below ⟨rfl, rfl, rfl, Nat.le_refl _, fun _ _ => rfl⟩
theorem WkI.mono (h : WkI w O K W) {O' : Nat → Prop} (hO : ∀ g, g < w.heap.size → O g → O' g) (hB : ∀ g, O' g → K.base ≤ g) : WkI w O' K W := by
  obtain ⟨pv, hd⟩ := h.dev
  exact ⟨h.box, ⟨pv, hd.mono hO⟩, h.arn, h.spc, h.inv, h.maps, h.small, h.out.1, hB⟩
/-- Blocks of the program's own kinds that are no part of the work, and no rows of the device's, may be turned. -/
theorem WkI.aside (h : WkI w O K W) {S : Nat → Prop} (hc : Chg S w w') (hS : ∀ k, S k → ∃ t cs, Blk w k t cs ∧ t ≠ 97 ∧ t ≠ 101 ∧ t ≠ 115 ∧ t ≠ 112 ∧ t ≠ 130 ∧ t ≠ 105 ∧ t ≠ 128 ∧ (t = 23 → ¬ O k)) : WkI w' O K W := by
  obtain ⟨pv, hd⟩ := h.dev
  obtain ⟨v, hs⟩ := h.spc
  have key : ∀ {g : Nat} {t : TypeId} {cs : Array Value}, Blk w g t cs → (t = 97 ∨ t = 101 ∨ t = 115 ∨ t = 112 ∨ t = 130 ∨ t = 105 ∨ t = 128) → ¬ S g := by
    intro g t cs hb ht hs
    obtain ⟨t', cs', hb', q1, q2, q3, q4, q5, q6, q7, _⟩ := hS g hs
    obtain ⟨rfl, _⟩ := hb.inj hb'
    rcases ht with h | h | h | h | h | h | h <;> contradiction
  have hm : ∀ {κ : Type} {mk : κ → Value} {r : Nat} {kv : List (κ × Value)}, IsMap mk w r kv → ¬ S r := by
    intro κ mk r kv hm hs
    obtain ⟨t', cs', hb', _⟩ := hS r hs
    exact hm.ne_blk hb' rfl
  obtain ⟨kl, hl, hl2⟩ := hd.lasts
  obtain ⟨kn, hn, hn2⟩ := hd.now
  refine ⟨h.box.chg hc (key h.box (.inl rfl)), ⟨pv, hd.chg hc (key hd.box (.inr (.inl rfl))) (hm hl) (hm hn) (fun g hg hs => ?_) (fun g cs hO hb hs => ?_)⟩, h.arn.chg hc (key h.arn.blk (.inr (.inr (.inl rfl)))) (hm h.arn.map) (fun p hp hs => ?_), ⟨v, ⟨hs.blk.chg hc (key hs.blk (.inr (.inr (.inr (.inr (.inl rfl)))))), own_chg hs.own hc (fun g hg hs' => ?_), hs.F_le, hs.B_le, hs.L_le, hs.in_⟩⟩, h.inv, h.maps, h.small, h.out⟩
  · obtain ⟨t', cs', hb', q1, q2, q3, q4, q5, q6, q7, _⟩ := hS g hs
    obtain ⟨pr, hp, _⟩ := hd.pend
    exact own_ne_blk hp hb' (Ne.symm q6) hg
  · obtain ⟨t', cs', hb', q1, q2, q3, q4, q5, q6, q7, q8⟩ := hS g hs
    obtain ⟨rfl, _⟩ := hb.inj hb'
    exact q8 rfl hO
  · obtain ⟨cs, hb⟩ := h.arn.bufs p hp
    exact absurd hs (key hb (.inr (.inr (.inr (.inl rfl)))))
  · obtain ⟨t', cs', hb', q1, q2, q3, q4, q5, q6, q7, _⟩ := hS g hs'
    exact own_ne_blk hs.own hb' (Ne.symm q7) hg
end

/-- How many tuples a block holds. -/
def holds (size : Nat) (width : Int) : Int := if width < 1 ∨ 5 < width then 0 else ((size : Int) - 2) / width
def blocksOf (size : Nat) (width count : Int) : Int := (count + holds size width - 1) / holds size width

section
variable {K : Key} {w : World} {O : Nat → Prop} {W : Wk}
theorem WkI.size (h : WkI w O K W) : 8 ≤ W.D.size ∧ W.D.size ≤ 256 := by
  obtain ⟨pv, hd⟩ := h.dev
  exact hd.nums.fit.size
theorem WkI.cells (h : WkI w O K W) : w.cell? ⟨K.wk, 0, none⟩ = some (P K.d) ∧ w.cell? ⟨K.wk, 1, none⟩ = some (P K.a) ∧ w.cell? ⟨K.wk, 2, none⟩ = some (P K.s) := ⟨h.box.cell 0, h.box.cell 1, h.box.cell 2⟩

theorem device_any (h : WkI w O K W) : Calls Try.prog 13 #[P K.wk] w fun e w' => e = .returned (P K.d) ∧ w = w' := by
  obtain ⟨c0, c1, c2⟩ := h.cells
  go_enter Try.func13, Try.ntmps13
  go_wp2_with fail
  go_ret
  exact ⟨rfl, rfl⟩
theorem arena_any (h : WkI w O K W) : Calls Try.prog 18 #[P K.wk] w fun e w' => e = .returned (P K.a) ∧ w = w' := by
  obtain ⟨c0, c1, c2⟩ := h.cells
  go_enter Try.func18, Try.ntmps18
  go_wp2_with fail
  go_ret
  exact ⟨rfl, rfl⟩
theorem space_any (h : WkI w O K W) : Calls Try.prog 30 #[P K.wk] w fun e w' => e = .returned (P K.s) ∧ w = w' := by
  obtain ⟨c0, c1, c2⟩ := h.cells
  go_enter Try.func30, Try.ntmps30
  go_wp2_with fail
  go_ret
  exact ⟨rfl, rfl⟩
theorem dsize_any (h : WkI w O K W) : Calls Try.prog 47 #[P K.d] w fun e w' => e = .returned (.int .i64 (W.D.size : Int)) ∧ w = w' := by
  obtain ⟨pv, hd⟩ := h.dev
  exact Dev.size_any hd.box

theorem holds_nil (width : Int) (w : World) : Calls Try.prog 16 #[.pointer none, .int .i64 width] w fun e w' => e = .returned (.int .i64 0) ∧ w = w' := by
  go_enter Try.func16, Try.ntmps16
  go_wp2_with fail
  go_ret
  exact ⟨rfl, rfl⟩
theorem holds_any (h : WkI w O K W) (width : Int) : Calls Try.prog 16 #[P K.wk, .int .i64 width] w fun e w' => e = .returned (.int .i64 (holds W.D.size width)) ∧ w = w' := by
  obtain ⟨c0, c1, c2⟩ := h.cells
  obtain ⟨s8, s256⟩ := h.size
  have HS := Lib.hid (dsize_any h)
  unfold holds
  clear h
  by_cases h1 : width < 1
  · rw [if_pos (.inl h1)]
    go_enter Try.func16, Try.ntmps16
    go_wp2_with fail
    go_ret
    exact ⟨rfl, rfl⟩
  by_cases h2 : 5 < width
  · rw [if_pos (.inr h2)]
    go_enter Try.func16, Try.ntmps16
    go_wp2_with fail
    go_ret
    exact ⟨rfl, rfl⟩
  · rw [if_neg (by omega)]
    have h3 : 1 ≤ width := by omega
    have h4 : width ≤ 5 := by omega
    go_enter Try.func16, Try.ntmps16
    go_wp2_with fail
    refine HS.out.mono ?_
    rintro e w1 ⟨rfl, rfl⟩
    go_wp2_with fail
    go_ret
    exact ⟨rfl, rfl⟩

theorem holds_bd {size : Nat} {width : Int} (h8 : 8 ≤ size) (h : size ≤ 256) : 0 ≤ holds size width ∧ holds size width ≤ 254 ∧ (1 ≤ width → width ≤ 5 → 1 ≤ holds size width) ∧ (holds size width ≠ 0 → 1 ≤ width ∧ width ≤ 5) := by
  unfold holds
  split
  · exact ⟨by omega, by omega, fun _ _ => by omega, fun h => absurd rfl h⟩
  · rename_i hn
    have h1 : 1 ≤ width := by omega
    have h2 : width ≤ 5 := by omega
    have h3 : 6 ≤ (size : Int) - 2 := by omega
    refine ⟨Int.ediv_nonneg (by omega) (by omega), ?_, fun _ _ => ?_, fun _ => ⟨h1, h2⟩⟩
    · exact Int.le_trans (Int.ediv_le_self _ (by omega)) (by omega)
    · exact Int.le_ediv_of_mul_le (by omega) (by omega)

theorem blocks_any (h : WkI w O K W) (width count : Int) (hw : 1 ≤ width ∧ width ≤ 5) (hc : 0 ≤ count) (hc2 : count ≤ 100000000) : Calls Try.prog 45 #[P K.wk, .int .i64 width, .int .i64 count] w fun e w' => e = .returned (.int .i64 (blocksOf W.D.size width count)) ∧ w = w' := by
  obtain ⟨s8, s256⟩ := h.size
  obtain ⟨b1, b2, b3, _⟩ := holds_bd (width := width) s8 s256
  have b4 := b3 hw.1 hw.2
  have HS := Lib.hid (holds_any h width)
  unfold blocksOf
  clear h b3
  generalize holds W.D.size width = n at *
  go_enter Try.func45, Try.ntmps45
  go_wp2_with fail
  refine HS.out.mono ?_
  rintro e w1 ⟨rfl, rfl⟩
  go_wp2_with fail
  refine HS.out.mono ?_
  rintro e w1 ⟨rfl, rfl⟩
  go_wp2_with fail
  go_ret
  exact ⟨rfl, rfl⟩
end

end Go.Proofs.Ytmmkncocgjgapaa.Fl

/- Tuples: their cells, what fits a width, and the walk of the test that asks it. -/
namespace Go.Proofs.Ytmmkncocgjgapaa.Fl
open Go.RowKit

/-- A tuple is five columns. -/
abbrev Tup := List (BitVec 64)
def icells (l : List (BitVec 64)) : List Value := l.map fun x => .int .i64 x.toInt
theorem icells_length (l : List (BitVec 64)) : (icells l).length = l.length := by simp [icells]
theorem icells_get (l : List (BitVec 64)) (k : Nat) (h : k < l.length) : (icells l)[k]? = some (.int .i64 l[k].toInt) := by simp [icells, h]
theorem toInt_bd (x : BitVec 64) : -9223372036854775808 ≤ x.toInt ∧ x.toInt ≤ 9223372036854775807 := by
  have h1 := x.toInt_lt
  have h2 := x.le_toInt
  omega
theorem toInt_u64 (x : BitVec 64) : IntKind.u64.wrap x.toInt = Crc.I64 x := by
  show x.toInt % 18446744073709551616 = (x.toNat : Int)
  rw [BitVec.toInt_eq_toNat_bmod]
  have h := x.isLt
  simp only [Int.bmod]
  split <;> omega
theorem I64_int (x : BitVec 64) : IntKind.i64.wrap (Crc.I64 x) = x.toInt := by
  rw [IntKind.wrap_i64, BitVec.toInt_eq_toNat_bmod]
  unfold Crc.I64
  have h := x.isLt
  simp only [Int.bmod]
  split <;> omega
theorem toInt_zero (x : BitVec 64) : x.toInt = 0 ↔ x = 0#64 := by
  constructor
  · intro h
    exact BitVec.eq_of_toInt_eq (by rw [h]; rfl)
  · rintro rfl
    rfl
theorem int_of_wf {x : Int} (h : (Lit.int .i64 x).wf = true) : ∃ b : BitVec 64, b.toInt = x := by
  have := u_bounds.2.2.2.2 h
  refine ⟨BitVec.ofInt 64 x, ?_⟩
  rw [BitVec.toInt_ofInt]
  exact Int.bmod_eq_of_le (by omega) (by omega)

theorem icells_at {w : World} {a : Option Addr} {l : List (BitVec 64)} (h : Row w a (icells l)) {k : Nat} (hk : k < l.length) : ∃ b o, a = some ⟨b, o, none⟩ ∧ w.cell? ⟨b, o + k, none⟩ = some (.int .i64 l[k].toInt) := by
  obtain ⟨b, o, e, hc, _⟩ := h.at_ (i := k) (by rw [icells_length]; exact hk)
  refine ⟨b, o, e, ?_⟩
  rw [hc]
  simp [icells]

theorem nonzero_any (x : BitVec 64) (w : World) :
    Calls Try.prog 52 #[.int .i64 x.toInt] w fun e w' => e = .returned (.bool (x.toInt != 0)) ∧ w = w' := by
  go_enter Try.func52, Try.ntmps52
  go_wp2_with fail
  go_ret
  exact ⟨rfl, rfl⟩

open Crc (zeroW zeroW_succ zeroW_at FindLoop FirstOne)

set_option maxRecDepth 100000 in
theorem index_any (l : List (BitVec 64)) (a : Option Addr) (n c : Nat) (w : World) (hr : Row w a (icells l)) (hn : l.length = n) (hl : n < 1000000) :
    Calls Try.prog 59 #[.slice a n c, .func (.func 52) #[] #[]] w (FirstOne l w) := by
  subst hn
  go_enter Try.func59, Try.ntmps59
  go_wp2_with fail
  go_loop [8] (fun iv => FindLoop l.length l iv) (fun iv => l.length - (intOf iv).toNat)
  case atStart => exact ⟨0, rfl, by omega, rfl⟩
  case round =>
    obtain ⟨k, rfl, hk, hz⟩ := hrel
    by_cases hlt : (k : Int) < l.length
    · have hkl : k < l.length := by omega
      obtain ⟨b, o, rfl, hc⟩ := icells_at hr hkl
      have ht := zeroW_succ l k hkl
      have hnz := zeroW_at l k hkl
      generalize l[k] = x at *
      have HT := Lib.hid ht
      have HNZ := Lib.hid hnz
      have HZ := Lib.hid hz
      clear ht hnz hz hr
      by_cases hx : x = 0#64
      · have hxe : (x.toInt != 0) = false := by rw [hx]; rfl
        have HX := Lib.hid hx
        clear hx
        go_wp2_with fail
        refine (nonzero_any x _).mono ?_
        rintro e w' ⟨rfl, rfl⟩
        rw [hxe]
        go_wp2_with fail
        go_round
        case rel => exact ⟨k + 1, by go_num, by omega, by rw [HT.out, HZ.out, HX.out]; rfl⟩
        case measure => simp [intOf]; omega
      · have hxe : (x.toInt != 0) = true := by rw [bne_iff_ne]; exact fun h => hx ((toInt_zero x).1 h)
        have hall := HNZ.out hx
        have HALL := Lib.hid hall
        clear hx hall
        go_wp2_with fail
        refine (nonzero_any x _).mono ?_
        rintro e w' ⟨rfl, rfl⟩
        rw [hxe]
        go_wp2_with fail
        go_ret
        exact ⟨(k : Int), rfl, fun h => (by rw [HALL.out] at h; cases h), fun _ => by omega, rfl⟩
    · have hz2 : zeroW l = true := by rw [List.take_of_length_le (by omega)] at hz; exact hz
      have HZ := Lib.hid hz2
      clear hz hz2
      go_wp2_with fail
      go_ret
      exact ⟨-1, rfl, fun _ => rfl, fun h => (by rw [HZ.out] at h; cases h), rfl⟩

set_option maxRecDepth 100000 in
theorem contains_any (l : List (BitVec 64)) (a : Option Addr) (n c : Nat) (w : World) (hr : Row w a (icells l)) (hn : l.length = n) (hl : n < 1000000) :
    Calls Try.prog 51 #[.slice a n c, .func (.func 52) #[] #[]] w fun e w' => e = .returned (.bool (!zeroW l)) ∧ w = w' := by
  have HI := Lib.hid (index_any l a n c w hr hn hl)
  clear hr
  go_enter Try.func51, Try.ntmps51
  go_wp2_with fail
  refine HI.out.mono ?_
  rintro e w' ⟨i, rfl, h1, h2, rfl⟩
  cases hz : zeroW l
  · have h3 := h2 hz
    clear h1 h2
    have HZ := Lib.hid hz
    clear hz
    go_wp2_with fail
    go_ret
    exact ⟨congrArg (fun b => Ending.returned (.bool (!b))) HZ.out.symm, rfl⟩
  · obtain rfl := h1 hz
    have HZ := Lib.hid hz
    clear h1 h2 hz
    go_wp2_with fail
    go_ret
    exact ⟨congrArg (fun b => Ending.returned (.bool (!b))) HZ.out.symm, rfl⟩

end Go.Proofs.Ytmmkncocgjgapaa.Fl

/- A writer; the walk of Drop. -/

namespace Go.Proofs.Ytmmkncocgjgapaa.Fl
open Go.RowKit

structure Wr where
  first : Nat
  blocks : Nat
  width : Nat
  count : Nat
  bound : Nat
  buf : Nat
  arr : Nat
  n : Nat
  at_ : Nat
  closed : Bool
  ws : List (BitVec 64)
def wcells (K : Key) (X : Wr) : Array Value :=
  #[P K.wk, .int .i64 (X.first : Int), .int .i64 (X.blocks : Int), .int .i64 (X.width : Int), .int .i64 (X.count : Int), .int .i64 (X.bound : Int), P X.buf, .int .i64 (X.n : Int), .int .i64 (X.at_ : Int), .bool X.closed]

/-- A buffer: a grant, its block and its words. -/
structure BufAt (w : World) (O : Nat → Prop) (W : Wk) (buf arr : Nat) (ws : List (BitVec 64)) : Prop where
  blk : Blk w buf 112 #[.slice (some ⟨arr, 0, none⟩) W.D.size W.D.size]
  row : Blk w arr 23 (Crc.words ws).toArray
  len : ws.length = W.D.size
  out : ¬ O arr
  st : (buf, W.D.size) ∈ W.A.st
/-- A writer at block x. -/
structure WrAt (w : World) (O : Nat → Prop) (K : Key) (W : Wk) (x : Nat) (X : Wr) : Prop where
  blk : Blk w x 117 (wcells K X)
  live : X.closed = false → BufAt w O W X.buf X.arr X.ws
  width : 1 ≤ X.width ∧ X.width ≤ 5
  bound : X.bound ≤ 100000000
  lies : X.first ≤ 900000 ∧ X.blocks ≤ 100000000

section
variable {w w' : World} {O : Nat → Prop} {K : Key} {W : Wk} {x : Nat} {X : Wr} {E : Nat → Prop}
theorem BufAt.turn {buf arr : Nat} {ws : List (BitVec 64)} (h : BufAt w O W buf arr ws) (hI : WkI w O K W) (ht : Turn K E w w') (h1 : ¬ E buf) (h2 : ¬ E arr) {O' : Nat → Prop} (hO : ∀ g, O' g → O g) {W' : Wk} (hs : W'.D.size = W.D.size) (hst : ∀ p ∈ W.A.st, p.1 = buf → p ∈ W'.A.st) : BufAt w' O' W' buf arr ws :=
  ⟨by rw [hs]; exact hI.blk ht h.blk (by decide) (by decide) (by decide) (by decide) (by decide) h1, hI.blk ht h.row (by decide) (by decide) (by decide) (by decide) (by decide) h2, h.len.trans hs.symm, fun h' => h.out (hO _ h'), by rw [hs]; exact hst _ h.st rfl⟩
theorem WrAt.turn (h : WrAt w O K W x X) (hI : WkI w O K W) (ht : Turn K E w w') (h0 : ¬ E x) (h1 : X.closed = false → ¬ E X.buf) (h2 : X.closed = false → ¬ E X.arr) {O' : Nat → Prop} (hO : ∀ g, O' g → O g) {W' : Wk} (hs : W'.D.size = W.D.size) (hst : ∀ p ∈ W.A.st, p.1 = X.buf → p ∈ W'.A.st) : WrAt w' O' K W' x X :=
  ⟨hI.blk ht h.blk (by decide) (by decide) (by decide) (by decide) (by decide) h0, fun hc => (h.live hc).turn hI ht (h1 hc) (h2 hc) hO hs hst, h.width, h.bound, h.lies⟩
end

/-- The blocks of a writer's own. -/
def Own (x : Nat) (X : Wr) (k : Nat) : Prop := k = x ∨ k = X.buf ∨ k = X.arr
/-- Blocks given back, or none. -/
def GaveRel (L : List Sp.Ext) (B first n : Nat) (L' : List Sp.Ext) : Prop := (n = 0 ∧ L' = L) ∨ (0 < n ∧ ∃ er, Sp.GiveRel L 0 B (first : Int) (n : Int) er L')

section
variable {w w' : World} {O : Nat → Prop} {K : Key} {W : Wk} {x : Nat} {X : Wr} {E : Nat → Prop}
theorem drop_nil (w : World) : Calls Try.prog 27 #[.pointer none] w fun e w' => e = .returned (.tuple #[]) ∧ w = w' := by
  go_enter Try.func27, Try.ntmps27
  go_wp2_with fail
  exact bodyPost_ret (results_none rfl _ _ _) rfl ⟨rfl, rfl⟩
theorem drop_closed (h : WrAt w O K W x X) (hc : X.closed = true) : Calls Try.prog 27 #[P x] w fun e w' => e = .returned (.tuple #[]) ∧ w = w' := by
  have c9 : w.cell? ⟨x, 9, none⟩ = some (.bool X.closed) := h.blk.cell 9
  rw [hc] at c9
  clear h
  go_enter Try.func27, Try.ntmps27
  go_wp2_with fail
  exact bodyPost_ret (results_none rfl _ _ _) rfl ⟨rfl, rfl⟩

theorem wcells_close (K : Key) (X : Wr) : (wcells K X).setIfInBounds 9 (.bool true) = wcells K { X with closed := true } := rfl

/-- Behind a Release. -/
def RelTold (w : World) (O : Nat → Prop) (K : Key) (W : Wk) (b : Nat) (e : Ending) (w' : World) : Prop :=
  e = .returned (.bool true) ∧ WkI w' O K { W with A := W.A.release b W.D.size } ∧ Turn K (fun k => k = b) w w'
theorem release_w (hI : WkI w O K W) {b arr : Nat} {ws : List (BitVec 64)} (hB : BufAt w O W b arr ws) :
    Calls Try.prog 50 #[P K.a, P b] w (RelTold w O K W b) := by
  refine (Arena.release_ok K.a K.r b W.A W.D.size w hI.arn hB.st _ hB.blk).mono ?_
  rintro e w' ⟨rfl, hA, hb', hc⟩
  obtain ⟨pv, hd⟩ := hI.dev
  obtain ⟨v, hs⟩ := hI.spc
  have hna : ∀ {g : Nat} {t : TypeId} {cs : Array Value}, Blk w g t cs → t ≠ 115 → t ≠ 112 → ¬ (g = K.a ∨ g = K.r ∨ g = b) := by
    intro g t cs hg h1 h2 e
    rcases e with e | e | e
    · subst e; exact hg.ne_ hI.arn.blk h1 rfl
    · exact hI.arn.map.ne_blk hg e
    · subst e; exact hg.ne_ hB.blk h2 rfl
  have hnm : ∀ r', r' ≠ K.r → (∃ es cl, w.heap[r']? = some (.map es cl)) → ¬ (r' = K.a ∨ r' = K.r ∨ r' = b) := by
    rintro r' hr ⟨es, cl, hm⟩ (e | e | e)
    · subst e; have := hI.arn.blk; unfold Blk at this; rw [hm] at this; cases this
    · exact hr e
    · subst e; have := hB.blk; unfold Blk at this; rw [hm] at this; cases this
  obtain ⟨kl, ⟨esl, cl, hl, _⟩, _⟩ := hd.lasts
  obtain ⟨kn, ⟨esn, cn, hn, _⟩, _⟩ := hd.now
  refine ⟨rfl, ⟨hI.box.chg hc (hna hI.box (by decide) (by decide)), ⟨pv, hd.chg hc (hna hd.box (by decide) (by decide)) (hnm _ (Ne.symm hI.maps.1) ⟨_, _, hl⟩) (hnm _ (Ne.symm hI.maps.2) ⟨_, _, hn⟩) (fun g hg => ?_) (fun g cs _ hg => hna hg (by decide) (by decide))⟩, hA, ⟨v, ⟨hs.blk.chg hc (hna hs.blk (by decide) (by decide)), own_chg hs.own hc (fun g hg => ?_), hs.F_le, hs.B_le, hs.L_le, hs.in_⟩⟩, hI.inv, hI.maps, hI.small, hI.out⟩, hc.mono (fun k _ e => ?_)⟩
  · obtain ⟨pr, hp, _⟩ := hd.pend
    rintro (e | e | e)
    · subst e; exact own_ne_blk hp hI.arn.blk (by decide) hg
    · subst e; exact hI.arn.map.ne_own hp hg
    · subst e; exact own_ne_blk hp hB.blk (by decide) hg
  · rintro (e | e | e)
    · subst e; exact own_ne_blk hs.own hI.arn.blk (by decide) hg
    · subst e; exact hI.arn.map.ne_own hs.own hg
    · subst e; exact own_ne_blk hs.own hB.blk (by decide) hg
  · rcases e with e | e | e
    · exact .inr (.inr (.inr (.inl e)))
    · exact .inr (.inr (.inr (.inr (.inl e))))
    · exact .inr (.inr (.inr (.inr (.inr (.inr (.inr (.inr e)))))))

def GvTold (w : World) (O : Nat → Prop) (K : Key) (W : Wk) (first n : Int) (e : Ending) (w' : World) : Prop :=
  ∃ er L', e = .returned (.int .i64 er) ∧ Sp.GiveRel W.L 0 W.B first n er L' ∧ WkI w' O K { W with L := L' } ∧ Turn K (fun _ => False) w w'
/-- Only the space's own blocks have turned. -/
theorem spc_turn (hI : WkI w O K W) {v v' : Value} {L' : List Sp.Ext} (hs : Sp.SpAt w K.s 0 W.B v W.L K.base) (hs' : Sp.SpAt w' K.s 0 W.B v' L' K.base) (hinv : Sp.Inv 0 W.B L') (hc : Chg (fun k => k = K.s ∨ some k = v.ownBlock) w w') : WkI w' O K { W with L := L' } ∧ Turn K (fun _ => False) w w' := by
  obtain ⟨pv, hd⟩ := hI.dev
  have hna : ∀ {g : Nat} {t : TypeId} {cs : Array Value}, Blk w g t cs → t ≠ 130 → t ≠ 128 → ¬ (g = K.s ∨ some g = v.ownBlock) := by
    intro g t cs hg h1 h2 e
    rcases e with e | e
    · subst e; exact hg.ne_ hs.blk h1 rfl
    · exact own_ne_blk hs.own hg (Ne.symm h2) e.symm
  have hnm : ∀ {κ : Type} {mk : κ → Value} {r : Nat} {kv : List (κ × Value)}, IsMap mk w r kv → ¬ (r = K.s ∨ some r = v.ownBlock) := by
    intro κ mk r kv hm e
    rcases e with e | e
    · exact hm.ne_blk hs.blk e.symm
    · exact hm.ne_own hs.own e.symm
  obtain ⟨kl, hl, _⟩ := hd.lasts
  obtain ⟨kn, hn, _⟩ := hd.now
  have hext : ∀ g, some g = v.ownBlock → K.base ≤ g ∧ ∃ cs, Blk w g 128 cs := by
    intro g hg
    rcases hs.own.2 with ⟨rfl, _⟩ | ⟨g', cap, cur, rfl, hbg, hh, _⟩
    · simp [Value.ownBlock] at hg
    · have : g = g' := by simpa [Value.ownBlock] using hg
      subst this
      exact ⟨hbg, cur, hh⟩
  refine ⟨⟨hI.box.chg hc (hna hI.box (by decide) (by decide)), ⟨pv, hd.chg hc (hna hd.box (by decide) (by decide)) (hnm hl) (hnm hn) (fun g hg => ?_) (fun g cs _ hg => hna hg (by decide) (by decide))⟩, hI.arn.chg hc (hna hI.arn.blk (by decide) (by decide)) (hnm hI.arn.map) (fun p hp hs' => ?_), ⟨v', hs'⟩, hinv, hI.maps, hI.small, hI.out⟩, hc.mono (fun k _ e => ?_)⟩
  · obtain ⟨pr, hp, _⟩ := hd.pend
    rintro (e | e)
    · subst e; exact own_ne_blk hp hs.blk (by decide) hg
    · obtain ⟨_, cs, hx⟩ := hext g e
      exact own_ne_blk hp hx (by decide) hg
  · obtain ⟨cs, hb⟩ := hI.arn.bufs p hp
    exact absurd hs' (hna hb (by decide) (by decide))
  · rcases e with e | e
    · exact .inr (.inr (.inr (.inr (.inr (.inl e)))))
    · exact .inr (.inr (.inr (.inr (.inr (.inr (.inr (.inl (hext k e))))))))
theorem give_w (hI : WkI w O K W) (first n : Int) : Calls Try.prog 54 #[P K.s, .int .i64 first, .int .i64 n] w (GvTold w O K W first n) := by
  obtain ⟨v, hs⟩ := hI.spc
  have hl := hI.inv.len
  have hB := hI.small
  refine (Sp.give_any K.s 0 W.B v W.L K.base first n w hs hI.inv.asc (fun e he => (hI.inv.ok e he).2.2) (by omega) (by have := hI.out.1; have := hI.box.lt; omega)).mono ?_
  rintro e w' ⟨er, v', L', rfl, hr, hs', hc, _⟩
  obtain ⟨q1, q2⟩ := spc_turn hI hs hs' (Sp.give_spec hI.inv hr).1 hc
  exact ⟨er, L', rfl, hr, q1, q2⟩
def TkTold (w : World) (O : Nat → Prop) (K : Key) (W : Wk) (n : Int) (e : Ending) (w' : World) : Prop :=
  ∃ r er L', e = .returned (.tuple #[.int .i64 r, .int .i64 er]) ∧ Sp.TakeRel W.L 0 W.B n r er L' ∧ WkI w' O K { W with L := L' } ∧ Turn K (fun _ => False) w w'
theorem take_w (hI : WkI w O K W) (n : Int) : Calls Try.prog 49 #[P K.s, .int .i64 n] w (TkTold w O K W n) := by
  obtain ⟨v, hs⟩ := hI.spc
  have hl := hI.inv.len
  have hB := hI.small
  refine (Sp.take_any K.s 0 W.B v W.L K.base n w hs hI.inv.asc (by omega) (by have := hI.out.1; have := hI.box.lt; omega)).mono ?_
  rintro e w' ⟨r, er, v', L', rfl, hr, hs', hc, _⟩
  obtain ⟨q1, q2⟩ := spc_turn hI hs hs' (Sp.take_spec hI.inv hr).1 hc
  exact ⟨r, er, L', rfl, hr, q1, q2⟩
end

end Go.Proofs.Ytmmkncocgjgapaa.Fl

/- The walk of Drop of a writer that stands. -/
namespace Go.Proofs.Ytmmkncocgjgapaa.Fl
open Go.RowKit

section
variable {w w' : World} {O : Nat → Prop} {K : Key} {W : Wk} {x : Nat} {X : Wr} {E : Nat → Prop}

def DropTold (w : World) (O : Nat → Prop) (K : Key) (W : Wk) (x : Nat) (X : Wr) (e : Ending) (w' : World) : Prop :=
  ∃ L', e = .returned (.tuple #[]) ∧ GaveRel W.L W.B X.first X.blocks L' ∧ WkI w' O K { W with A := W.A.release X.buf W.D.size, L := L' } ∧ Blk w' x 117 (wcells K { X with closed := true }) ∧ Turn K (Own x X) w w'

/-- A store into the writer's own block. -/
theorem wr_store (hI : WkI w O K W) {cs : Array Value} (hb : Blk w x 117 cs) (i : Nat) (u : Value) :
    WkI (w.setCell ⟨x, i, none⟩ u) O K W ∧ Blk (w.setCell ⟨x, i, none⟩ u) x 117 (cs.setIfInBounds i u) ∧ Turn K (fun k => k = x) w (w.setCell ⟨x, i, none⟩ u) := by
  have hc : Chg (fun k => k = x) w (w.setCell ⟨x, i, none⟩ u) := (Chg.refl _ w).setCell _ _ (fun _ => rfl)
  refine ⟨hI.aside hc (fun k hk => ?_), hb.set_ i u, hc.mono (fun k _ hk => .inr (.inr (.inr (.inr (.inr (.inr (.inr (.inr hk))))))))⟩
  subst hk
  exact ⟨_, _, hb, by decide, by decide, by decide, by decide, by decide, by decide, by decide, fun h => absurd h (by decide)⟩
theorem BufAt.stay {buf arr : Nat} {ws : List (BitVec 64)} (h : BufAt w O W buf arr ws) (hI : WkI w O K W) (ht : Turn K E w w') (h1 : ¬ E buf) (h2 : ¬ E arr) : BufAt w' O W buf arr ws :=
  h.turn hI ht h1 h2 (fun _ h => h) rfl (fun _ h _ => h)

set_option maxRecDepth 100000 in
set_option maxHeartbeats 1000000 in
theorem drop_live (hI : WkI w O K W) (h : WrAt w O K W x X) (hc : X.closed = false) : Calls Try.prog 27 #[P x] w (DropTold w O K W x X) := by
  have hB := h.live hc
  have hbx : x ≠ X.buf ∧ x ≠ X.arr := ⟨h.blk.ne_ hB.blk (by decide), h.blk.ne_ hB.row (by decide)⟩
  have c9 : w.cell? ⟨x, 9, none⟩ = some (.bool X.closed) := h.blk.cell 9
  rw [hc] at c9
  have f9 := h.blk.frozen 9
  obtain ⟨hI1, hX1, ht1⟩ := wr_store hI h.blk 9 (.bool true)
  rw [wcells_close] at hX1
  have hB1 := hB.stay hI ht1 (fun e => hbx.1 e.symm) (fun e => hbx.2 e.symm)
  have HC := Lib.hid hc
  have HBX := Lib.hid hbx
  clear hc hI h hB hbx
  go_enter Try.func27, Try.ntmps27
  go_wp2_with fail
  generalize w.setCell ⟨x, 9, none⟩ (.bool true) = w1 at *
  have d0 : w1.drew.cell? ⟨x, 0, none⟩ = some (P K.wk) := hX1.cell 0
  have d6 : w1.drew.cell? ⟨x, 6, none⟩ = some (P X.buf) := hX1.cell 6
  have k1 : w1.drew.cell? ⟨K.wk, 1, none⟩ = some (P K.a) := hI1.box.cell 1
  have hB1' : BufAt w1.drew O W X.buf X.arr X.ws := ⟨hB1.blk, hB1.row, hB1.len, hB1.out, hB1.st⟩
  have HR := Lib.hid (release_w hI1.drew hB1')
  have HI1 := Lib.hid hI1.drew
  have HX1 : Hid (Blk w1.drew x 117 (wcells K { X with closed := true })) := Lib.hid hX1
  have HT1 := Lib.hid ht1.drew
  clear c9 f9 hI1 hX1 hB1 hB1' ht1
  go_still_tail 11, (by kernel_rfl)
  change wpList _ _ _ _ _ w1.drew
  generalize w1.drew = w2 at *
  clear d0 d6 k1
  go_wp2_with fail
  refine HR.out.mono ?_
  rintro e w3 ⟨rfl, hI3, ht3⟩
  have hX3 := HI1.out.blk ht3 HX1.out (by decide) (by decide) (by decide) (by decide) (by decide) HBX.out.1
  have ht13 : Turn K (Own x X) w w3 := (HT1.out.mono (fun k h => .inl h)).trans (ht3.mono (fun k h => .inr (.inl h)))
  have HT3 := Lib.hid ht13
  have HI3 := Lib.hid hI3
  have HX3 := Lib.hid hX3
  have x1 : w3.cell? ⟨x, 1, none⟩ = some (.int .i64 (X.first : Int)) := hX3.cell 1
  have x2 : w3.cell? ⟨x, 2, none⟩ = some (.int .i64 (X.blocks : Int)) := hX3.cell 2
  clear ht3 hI3 hX3 HR HI1 HX1 HT1 ht13
  by_cases hb : X.blocks = 0
  · have hb2 : (X.blocks : Int) ≤ 0 := by omega
    have hb3 : decide (0 < X.blocks) = false := by simp; omega
    have HB := Lib.hid hb
    clear hb
    go_wp2_with fail
    go_end0
    exact ⟨_, rfl, .inl ⟨HB.out, rfl⟩, HI3.out, HX3.out, HT3.out⟩
  · have hb2 : (0 : Int) < (X.blocks : Int) := by omega
    go_wp2_with fail
    have x0 : w3.drew.cell? ⟨x, 0, none⟩ = some (P K.wk) := HX3.out.cell 0
    have x1' : w3.drew.cell? ⟨x, 1, none⟩ = some (.int .i64 (X.first : Int)) := HX3.out.cell 1
    have x2' : w3.drew.cell? ⟨x, 2, none⟩ = some (.int .i64 (X.blocks : Int)) := HX3.out.cell 2
    have k2 : w3.drew.cell? ⟨K.wk, 2, none⟩ = some (P K.s) := HI3.out.box.cell 2
    have HG := Lib.hid (give_w HI3.out.drew (X.first : Int) (X.blocks : Int))
    clear x1 x2
    go_still_tail 17, (by kernel_rfl)
    change wpList _ _ _ _ _ w3.drew
    have HI4 := Lib.hid HI3.out.drew
    have HX4 : Hid (Blk w3.drew x 117 (wcells K { X with closed := true })) := Lib.hid HX3.out
    have HT4 := Lib.hid HT3.out.drew
    generalize w3.drew = w4 at *
    clear x0 x1' x2' k2 HX3 HI3 HT3
    go_wp2_with fail
    refine HG.out.mono ?_
    rintro e w5 ⟨er, L', rfl, hg, hI5, ht5⟩
    have hX5 := HI4.out.blk ht5 HX4.out (by decide) (by decide) (by decide) (by decide) (by decide) (fun h => h)
    have HT5 := Lib.hid (HT4.out.trans (ht5.mono (fun k h => h.elim)))
    have HI5 := Lib.hid hI5
    have HX5 := Lib.hid hX5
    have HG5 := Lib.hid hg
    clear ht5 hI5 hX5 hg HG
    go_wp2_with fail
    go_end0
    exact ⟨L', rfl, .inr ⟨by omega, er, HG5.out⟩, HI5.out, HX5.out, HT5.out⟩
end

end Go.Proofs.Ytmmkncocgjgapaa.Fl

/- Reads and writes of a work's device. -/
namespace Go.Proofs.Ytmmkncocgjgapaa.Fl
open Go.RowKit

section
variable {w w' : World} {O : Nat → Prop} {K : Key} {W : Wk} {E : Nat → Prop}

/-- Only the device's own blocks have turned. -/
theorem dev_turn (hI : WkI w O K W) {pv pv' : Value} {D' : Dev.Dv} (hd : Dev.At w O K.d K.rl K.rn pv W.D) (hd' : Dev.At w' O K.d K.rl K.rn pv' D') (hc : Chg (Dev.Foot K.d K.rl K.rn pv) w w') : WkI w' O K { W with D := D' } ∧ Turn K (fun _ => False) w w' := by
  obtain ⟨v, hs⟩ := hI.spc
  have hpv : ∀ g, some g = pv.ownBlock → K.base ≤ g ∧ ∃ cs, Blk w g 105 cs := by
    intro g hg
    refine ⟨hI.out.2 g (hd.pout g hg.symm), ?_⟩
    obtain ⟨pr, hp, _⟩ := hd.pend
    rcases hp.2 with ⟨rfl, _⟩ | ⟨g', cap, cur, rfl, _, hh, _⟩
    · simp [Value.ownBlock] at hg
    · have : g = g' := by simpa [Value.ownBlock] using hg
      subst this
      exact ⟨cur, hh⟩
  have hna : ∀ {g : Nat} {t : TypeId} {cs : Array Value}, Blk w g t cs → t ≠ 101 → t ≠ 105 → ¬ Dev.Foot K.d K.rl K.rn pv g := by
    intro g t cs hg h1 h2 e
    rcases e with e | e | e | e
    · subst e; exact hg.ne_ hd.box h1 rfl
    · exact hd.lasts.ne_blk hg e
    · exact hd.now.ne_blk hg e
    · obtain ⟨_, cs', hx⟩ := hpv g e
      exact hg.ne_ hx h2 rfl
  have hr : ¬ Dev.Foot K.d K.rl K.rn pv K.r := by
    rintro (e | e | e | e)
    · exact hI.arn.map.ne_blk hd.box e.symm
    · exact hI.maps.1 e
    · exact hI.maps.2 e
    · obtain ⟨_, cs', hx⟩ := hpv _ e
      exact hI.arn.map.ne_blk hx rfl
  refine ⟨⟨hI.box.chg hc (hna hI.box (by decide) (by decide)), ⟨pv', hd'⟩, hI.arn.chg hc (hna hI.arn.blk (by decide) (by decide)) hr (fun p hp hs' => ?_), ⟨v, ⟨hs.blk.chg hc (hna hs.blk (by decide) (by decide)), own_chg hs.own hc (fun g hg => ?_), hs.F_le, hs.B_le, hs.L_le, hs.in_⟩⟩, hI.inv, hI.maps, hI.small, hI.out⟩, hc.mono (fun k _ e => ?_)⟩
  · obtain ⟨cs, hb⟩ := hI.arn.bufs p hp
    exact absurd hs' (hna hb (by decide) (by decide))
  · rintro (e | e | e | e)
    · subst e; exact own_ne_blk hs.own hd.box (by decide) hg
    · obtain ⟨kl, hl, _⟩ := hd.lasts
      subst e; exact hl.ne_own hs.own hg
    · obtain ⟨kn, hn, _⟩ := hd.now
      subst e; exact hn.ne_own hs.own hg
    · obtain ⟨_, cs', hx⟩ := hpv _ e
      exact own_ne_blk hs.own hx (by decide) hg
  · rcases e with e | e | e | e
    · exact .inl e
    · exact .inr (.inl e)
    · exact .inr (.inr (.inl e))
    · exact .inr (.inr (.inr (.inr (.inr (.inr (.inl (hpv k e)))))))

def WtTold (w : World) (O : Nat → Prop) (K : Key) (W : Wk) (i : Int) (ws : List Value) (e : Ending) (w' : World) : Prop :=
  e = .returned (.int .i64 (W.D.wr i ws).1) ∧ WkI w' O K { W with D := (W.D.wr i ws).2 } ∧ Turn K (fun _ => False) w w'
theorem write_w {i : Int} {l : Option Addr} {n c : Nat} {ws : List Value} (hI : WkI w O K W) (hn : ws.length = n) (hac : W.D.acts + 1 < 1099511627776) (hr : Row w l ws) (h1c : ∀ u ∈ ws, u.oneCell' = true) (hO : ∀ g, w.heap.size ≤ g → O g) (hla : ∀ x, l = some x → x.block ≠ K.d) (hn2 : n ≤ 9223372036854775807) :
    Calls Try.prog 14 #[P K.d, .int .i64 i, .slice l n c] w (WtTold w O K W i ws) := by
  obtain ⟨pv, hd⟩ := hI.dev
  refine (Dev.wr_any hd hn hac hr h1c hO hla hn2).mono ?_
  rintro e w' ⟨rfl, ⟨pv', hd'⟩, hc⟩
  obtain ⟨q1, q2⟩ := dev_turn hI hd hd' hc
  exact ⟨rfl, q1, q2⟩
def RtOk (w : World) (O : Nat → Prop) (K : Key) (W : Wk) (i : Int) (e : Ending) (w' : World) : Prop :=
  ∃ g c, e = .returned (.tuple #[.slice (some ⟨g, 0, none⟩) W.D.size c, .int .i64 0]) ∧ w'.ownsRow w.heap.size 23 1 (.slice (some ⟨g, 0, none⟩) W.D.size c) W.D.size (W.D.words i) ∧ w.heap.size ≤ g ∧
    WkI w' O K { W with D := (W.D.rd i).2 } ∧ Turn K (fun _ => False) w w'
def RtErr (w : World) (O : Nat → Prop) (K : Key) (W : Wk) (i : Int) (e : Ending) (w' : World) : Prop :=
  e = .returned (.tuple #[.slice none 0 0, .int .i64 (W.D.rd i).1]) ∧ WkI w' O K { W with D := (W.D.rd i).2 } ∧ Turn K (fun _ => False) w w'
theorem read_w_ok {i : Int} (hI : WkI w O K W) (hr : (W.D.rd i).1 = 0) (hac : W.D.acts + 1 < 1099511627776) : Calls Try.prog 56 #[P K.d, .int .i64 i] w (RtOk w O K W i) := by
  obtain ⟨pv, hd⟩ := hI.dev
  refine (Dev.rd_ok hd hr hac).mono ?_
  rintro e w' ⟨g, c, rfl, ho, hg, hd', hc⟩
  obtain ⟨q1, q2⟩ := dev_turn hI hd hd' (hc.mono (fun _ _ h => .inl h))
  exact ⟨g, c, rfl, ho, hg, q1, q2⟩
theorem read_w_err {i : Int} (hI : WkI w O K W) (hr : (W.D.rd i).1 ≠ 0) (hac : W.D.acts + 1 < 1099511627776) : Calls Try.prog 56 #[P K.d, .int .i64 i] w (RtErr w O K W i) := by
  obtain ⟨pv, hd⟩ := hI.dev
  refine (Dev.rd_err hd hr hac).mono ?_
  rintro e w' ⟨rfl, hd', hc⟩
  obtain ⟨q1, q2⟩ := dev_turn hI hd hd' (hc.mono (fun _ _ h => .inl h))
  exact ⟨rfl, q1, q2⟩
end

end Go.Proofs.Ytmmkncocgjgapaa.Fl
