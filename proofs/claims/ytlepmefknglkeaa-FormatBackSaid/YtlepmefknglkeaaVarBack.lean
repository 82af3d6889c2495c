/- The plain law of numbers in a few bytes, read back: what is put is taken, and what is taken is what would be put. No condition but the numbers' own size. -/
import Derived.Test.YtlepmefknglkeaaVarPlain
namespace Go.Proofs.Ytlepmefknglkeaa.Var

theorem tk_put (x : Nat) : ∀ (r : List Nat) (i y : Nat), (0 < i → 0 < x) → x * 128 ^ i < 18446744073709551616 → tk (put x ++ r) i y = (y + x * 128 ^ i, i + size x, 0) := by
  induction x using Nat.strongRecOn with
  | _ x ih =>
    intro r i y h0 hlt
    by_cases hx : x < 128
    · unfold size
      rw [put_small hx]
      show tk (x :: r) i y = _
      rw [tk, if_neg, if_pos hx, Nat.mod_eq_of_lt hx]
      · rfl
      · rintro (⟨rfl, h1⟩ | ⟨h1, h2⟩)
        · have := h0 (by omega)
          have h3 : (128 : Nat) ^ 9 = 9223372036854775808 := by decide
          rw [h3] at hlt
          omega
        · have := h0 h1
          omega
    · have h128 : 128 ^ (i + 1) = 128 ^ i * 128 := Nat.pow_succ ..
      have hd : x / 128 * 128 ^ (i + 1) ≤ x * 128 ^ i := by
        rw [h128, Nat.mul_comm (128 ^ i), ← Nat.mul_assoc]
        exact Nat.mul_le_mul_right _ (Nat.div_mul_le_self x 128)
      have hi9 : i ≠ 9 := by
        rintro rfl
        have h3 : (128 : Nat) ^ 9 = 9223372036854775808 := by decide
        rw [h3] at hlt
        omega
      have h1 := ih (x / 128) (by omega) r (i + 1) (y + (x % 128 + 128) % 128 * 128 ^ i) (fun _ => by omega) (by omega)
      unfold size at h1 ⊢
      rw [put_big (by omega)]
      show tk ((x % 128 + 128) :: (put (x / 128) ++ r)) i y = _
      rw [tk, if_neg (by omega), if_neg (by omega), h1]
      have e : (x % 128 + 128) % 128 * 128 ^ i + x / 128 * 128 ^ (i + 1) = x * 128 ^ i := by
        rw [h128, Nat.mul_comm (128 ^ i), ← Nat.mul_assoc, ← Nat.add_mul]
        congr 1
        omega
      rw [Nat.add_assoc, e, List.length_cons]
      congr 2
      omega

theorem tk_ok (l : List Nat) : ∀ (i y x m : Nat), (∀ c ∈ l, c < 256) → tk l i y = (x, m, 0) →
    ∃ z, x = y + z * 128 ^ i ∧ i ≤ m ∧ m - i ≤ l.length ∧ put z = l.take (m - i) ∧ (0 < i → 0 < z) := by
  induction l with
  | nil => intro i y x m _ h; simp [tk] at h
  | cons c l ih =>
    intro i y x m hb h
    have hc := hb c (by simp)
    rw [tk] at h
    by_cases hE : i = 9 ∧ c ≠ 1 ∨ 0 < i ∧ c = 0
    · rw [if_pos hE] at h; simp at h
    · rw [if_neg hE] at h
      by_cases h8 : c < 128
      · rw [if_pos h8] at h
        simp only [Prod.mk.injEq, and_true] at h
        obtain ⟨rfl, rfl⟩ := h
        refine ⟨c, by rw [Nat.mod_eq_of_lt h8], by omega, by simp, ?_, by omega⟩
        rw [put_small h8, Nat.add_sub_cancel_left]
        rfl
      · rw [if_neg h8] at h
        obtain ⟨z, hz, h1, h2, h3, h4⟩ := ih (i + 1) _ x m (fun d hd => hb d (by simp [hd])) h
        have h5 := h4 (by omega)
        refine ⟨c % 128 + 128 * z, ?_, by omega, by simp; omega, ?_, by omega⟩
        · rw [hz, Nat.pow_succ, Nat.add_assoc, Nat.add_mul]
          congr 2
          rw [Nat.mul_comm 128 z, Nat.mul_assoc, Nat.mul_comm 128]
        · rw [put_big (by omega)]
          obtain ⟨k, hk⟩ : ∃ k, m - i = k + 1 := ⟨m - i - 1, by omega⟩
          rw [hk, List.take_succ_cons]
          have e1 : (c % 128 + 128 * z) % 128 + 128 = c := by omega
          have e2 : (c % 128 + 128 * z) / 128 = z := by omega
          rw [e1, e2, h3, show m - (i + 1) = k from by omega]

theorem tk_err (l : List Nat) : ∀ (i y x m e : Nat), tk l i y = (x, m, e) → e ≠ 0 → x = 0 ∧ e = 3 ∧ i ≤ m ∧ m - i ≤ l.length := by
  induction l with
  | nil => intro i y x m e h he; simp [tk] at h; omega
  | cons c l ih =>
    intro i y x m e h he
    rw [tk] at h
    split at h
    · simp only [Prod.mk.injEq] at h; simp; omega
    · split at h
      · simp only [Prod.mk.injEq] at h; omega
      · obtain ⟨h1, h2, h3, h4⟩ := ih _ _ _ _ _ h he
        simp; omega

theorem tk_len (l : List Nat) : ∀ (i y : Nat), i ≤ (tk l i y).2.1 ∧ (tk l i y).2.1 ≤ i + l.length := by
  induction l with
  | nil => intro i y; simp [tk]
  | cons c l ih =>
    intro i y
    rw [tk]
    split
    · simp
    · split
      · simp
      · have := ih (i + 1) (y + c % 128 * 128 ^ i)
        simp
        omega

theorem tk_e (l : List Nat) : ∀ (i y : Nat), (tk l i y).2.2 = 0 ∨ (tk l i y).2.2 = 3 := by
  intro i y
  obtain ⟨⟨x, m, e⟩, h⟩ : ∃ t, tk l i y = t := ⟨_, rfl⟩
  rw [h]
  by_cases he : e = 0
  · exact .inl he
  · exact .inr (tk_err l i y x m e h he).2.1

/-- Numbers, one behind the other. -/
def cat (l : List Nat) : List Nat := (l.map put).flatten
theorem cat_append (l m : List Nat) : cat (l ++ m) = cat l ++ cat m := by simp [cat]
theorem cat_cons (x : Nat) (m : List Nat) : cat (x :: m) = put x ++ cat m := by simp [cat]
theorem cat_snoc (l : List Nat) (x : Nat) : cat (l ++ [x]) = cat l ++ put x := by simp [cat]
theorem cat_take (l : List Nat) (k : Nat) (h : k < l.length) : cat (l.take (k + 1)) = cat (l.take k) ++ put l[k] := by
  rw [List.take_succ_eq_append_getElem h, cat_snoc]
theorem cat_split (l : List Nat) (k : Nat) (h : k < l.length) : cat l = cat (l.take k) ++ (put l[k] ++ cat (l.drop (k + 1))) := by
  have : l = l.take k ++ l[k] :: l.drop (k + 1) := by rw [List.getElem_cons_drop, List.take_append_drop]
  conv => lhs; rw [this]
  rw [cat_append, cat_cons]
theorem cat_bytes (l : List Nat) : ∀ c ∈ cat l, c < 256 := by
  intro c hc
  simp only [cat, List.mem_flatten, List.mem_map] at hc
  obtain ⟨_, ⟨x, _, rfl⟩, hc⟩ := hc
  exact put_bytes x c hc
theorem cat_len (l : List Nat) (h : ∀ x ∈ l, x < 18446744073709551616) : (cat l).length ≤ 10 * l.length := by
  induction l with
  | nil => simp [cat]
  | cons x l ih =>
    have h1 := ih (fun y hy => h y (by simp [hy]))
    have h2 := put_len10 x (h x (by simp))
    simp [cat] at h1 ⊢
    omega

theorem take_cat (l : List Nat) (k : Nat) (h : k < l.length) (hx : l[k] < 18446744073709551616) :
    take (cat l) ((cat (l.take k)).length : Int) = ((l[k] : Int), ((cat (l.take k)).length : Int) + (size l[k] : Int), 0) := by
  have e := cat_split l k h
  have hl : (cat (l.take k)).length ≤ (cat l).length := by rw [e]; simp
  unfold take
  rw [if_neg (by omega), Int.toNat_natCast]
  have hd : (cat l).drop (cat (l.take k)).length = put l[k] ++ cat (l.drop (k + 1)) := by rw [e, List.drop_left]
  rw [hd, tk_put _ _ 0 0 (fun h => absurd h (by omega)) (by simpa using hx)]
  simp

theorem take_apart (a b : List Nat) (k : Nat) (h : k ≤ b.length) :
    take (a ++ b) ((a.length + k : Nat) : Int) = ((take b (k : Int)).1, (take b (k : Int)).2.1 + (a.length : Int), (take b (k : Int)).2.2) := by
  unfold take
  rw [if_neg (by simp; omega), if_neg (by omega), Int.toNat_natCast, Int.toNat_natCast]
  have hd : (a ++ b).drop (a.length + k) = b.drop k := by rw [List.drop_append, List.drop_eq_nil_of_le (by omega)]; simp
  rw [hd]
  simp
  omega

theorem tk_bound (l : List Nat) : ∀ (i y : Nat), i ≤ 9 → y < 128 ^ i → (∀ c ∈ l, c < 256) → (tk l i y).1 < 18446744073709551616 := by
  induction l with
  | nil => intro i y _ _ _; simp [tk]
  | cons c l ih =>
    intro i y hi hy hb
    have hc := hb c (by simp)
    rw [tk]
    by_cases hE : i = 9 ∧ c ≠ 1 ∨ 0 < i ∧ c = 0
    · rw [if_pos hE]; simp
    · rw [if_neg hE]
      have h9 : (128 : Nat) ^ 9 = 9223372036854775808 := by decide
      have h8 : (128 : Nat) ^ 8 = 72057594037927936 := by decide
      by_cases h : c < 128
      · rw [if_pos h]
        by_cases hi9 : i = 9
        · subst hi9
          obtain rfl : c = 1 := by omega
          rw [h9] at hy ⊢
          simp
          omega
        · have hle : 128 ^ i ≤ 128 ^ 8 := Nat.pow_le_pow_right (by omega) (by omega)
          have hmul : c % 128 * 128 ^ i ≤ 127 * 128 ^ i := Nat.mul_le_mul_right _ (by omega)
          simp only
          omega
      · rw [if_neg h]
        have h9' : 128 ^ (i + 1) = 128 * 128 ^ i := by rw [Nat.pow_succ, Nat.mul_comm]
        have hmul : c % 128 * 128 ^ i ≤ 127 * 128 ^ i := Nat.mul_le_mul_right _ (by omega)
        exact ih (i + 1) _ (by omega) (by omega) (fun d hd => hb d (by simp [hd]))

/-- Where a reading ends. -/
theorem take_end (b : List Nat) (at_ : Int) : 0 ≤ (take b at_).2.1 ∧ (take b at_).2.1 ≤ (b.length : Int) := by
  unfold take
  by_cases h : at_ < 0 ∨ (b.length : Int) < at_
  · rw [if_pos h]; simp
  · rw [if_neg h]
    obtain ⟨⟨x, m, e⟩, ht⟩ : ∃ t, tk (b.drop at_.toNat) 0 0 = t := ⟨_, rfl⟩
    rw [ht]
    have hm : m ≤ (b.drop at_.toNat).length := by
      by_cases he : e = 0
      · subst he
        have := tk_len (b.drop at_.toNat) 0 0
        rw [ht] at this
        simp at this ⊢
        omega
      · have := tk_err _ _ _ _ _ _ ht he
        omega
    rw [List.length_drop] at hm
    simp
    omega

end Go.Proofs.Ytlepmefknglkeaa.Var
