/- The plain law of the sums: they are linear over exclusive or, and a word one half of which is turned turns the sum. No condition. -/
import Derived.Test.YtoodkfjldflbeaaCrcPlain
namespace Go.Proofs.Ytoodkfjldflbeaa.Crc

theorem and_xor {n : Nat} (a b c : BitVec n) : (a ^^^ b) &&& c = (a &&& c) ^^^ (b &&& c) := by
  apply BitVec.eq_of_getLsbD_eq
  intro i hi
  simp only [BitVec.getLsbD_and, BitVec.getLsbD_xor]
  cases a.getLsbD i <;> cases b.getLsbD i <;> cases c.getLsbD i <;> rfl
theorem half_xor (a b : BitVec 32) : half (a ^^^ b) = half a ^^^ half b := BitVec.ushiftRight_xor_distrib a b 1
theorem neg1_cases (a : BitVec 32) : a &&& 1#32 = 0#32 ∨ a &&& 1#32 = 1#32 := by
  have h : (a &&& 1#32).toNat = a.toNat % 2 := by rw [BitVec.toNat_and]; exact Nat.and_two_pow_sub_one_eq_mod a.toNat 1
  rcases Nat.mod_two_eq_zero_or_one a.toNat with h0 | h1
  · exact .inl (BitVec.eq_of_toNat_eq (by rw [h, h0]; rfl))
  · exact .inr (BitVec.eq_of_toNat_eq (by rw [h, h1]; rfl))
theorem bit_xor (a b : BitVec 32) : bit (a ^^^ b) = bit a ^^^ bit b := by
  unfold bit
  have h : (a ^^^ b) &&& 1#32 = (a &&& 1#32) ^^^ (b &&& 1#32) := and_xor a b 1#32
  rw [half_xor, h]
  have e : ∀ x y : BitVec 32, (x = 0#32 ∨ x = 1#32) → (y = 0#32 ∨ y = 1#32) → 3988292384#32 &&& -(x ^^^ y) = (3988292384#32 &&& -x) ^^^ (3988292384#32 &&& -y) := by
    rintro x y (rfl | rfl) (rfl | rfl) <;> decide
  rw [e _ _ (neg1_cases a) (neg1_cases b)]
  ac_rfl
theorem bit_zero : bit 0#32 = 0#32 := by decide
theorem bitN_xor (n : Nat) (a b : BitVec 32) : bitN n (a ^^^ b) = bitN n a ^^^ bitN n b := by
  induction n with
  | zero => rfl
  | succ n ih => simp only [bitN, ih, bit_xor]
theorem bitN_zero (n : Nat) : bitN n 0#32 = 0#32 := by
  induction n with
  | zero => rfl
  | succ n ih => simp only [bitN, ih, bit_zero]
theorem bitN_add (m n : Nat) (a : BitVec 32) : bitN (m + n) a = bitN n (bitN m a) := by
  induction n with
  | zero => rfl
  | succ n ih => rw [← Nat.add_assoc]; simp only [bitN, ih]

/-- One turn is one to one. -/
theorem bit_eq_zero (a : BitVec 32) (h : bit a = 0#32) : a = 0#32 := by
  have top : (half a).getLsbD 31 = false := by
    unfold half
    rw [BitVec.getLsbD_ushiftRight]
    exact BitVec.getLsbD_of_ge _ _ (by omega)
  rcases neg1_cases a with h0 | h1
  · unfold bit at h
    rw [h0] at h
    have hz : 3988292384#32 &&& -0#32 = 0#32 := by decide
    rw [hz, BitVec.xor_zero] at h
    have h2 := congrArg BitVec.toNat h
    have h3 := congrArg BitVec.toNat h0
    unfold half at h2
    rw [BitVec.toNat_ushiftRight, Nat.shiftRight_eq_div_pow] at h2
    have h4 : (a &&& 1#32).toNat = a.toNat % 2 := by rw [BitVec.toNat_and]; exact Nat.and_two_pow_sub_one_eq_mod a.toNat 1
    rw [h4] at h3
    apply BitVec.eq_of_toNat_eq
    simp at h2 h3 ⊢
    omega
  · exfalso
    have h2 : (bit a).getLsbD 31 = true := by
      unfold bit
      rw [BitVec.getLsbD_xor, top, h1]
      decide
    rw [h] at h2
    simp at h2
theorem bitN_eq_zero (n : Nat) (a : BitVec 32) (h : bitN n a = 0#32) : a = 0#32 := by
  induction n with
  | zero => exact h
  | succ n ih => exact ih (bit_eq_zero _ h)

theorem low_xor (a b : BitVec 64) : low (a ^^^ b) = low a ^^^ low b := by
  unfold low
  rw [and_xor, BitVec.setWidth_xor]
theorem rest_xor (a b : BitVec 64) : rest (a ^^^ b) = rest a ^^^ rest b := BitVec.ushiftRight_xor_distrib a b 8

theorem byteN_xor (n : Nat) (s t : BitVec 32) (x y : BitVec 64) :
    (byteN n (s ^^^ t) (x ^^^ y)).1 = (byteN n s x).1 ^^^ (byteN n t y).1 ∧ (byteN n (s ^^^ t) (x ^^^ y)).2 = (byteN n s x).2 ^^^ (byteN n t y).2 := by
  induction n with
  | zero => exact ⟨rfl, rfl⟩
  | succ n ih =>
    simp only [byteN]
    rw [ih.1, ih.2, low_xor, rest_xor]
    refine ⟨?_, rfl⟩
    rw [← bitN_xor]
    congr 1
    ac_rfl

theorem byteN_add (m n : Nat) (s : BitVec 32) (x : BitVec 64) : byteN (m + n) s x = byteN n (byteN m s x).1 (byteN m s x).2 := by
  induction n with
  | zero => rfl
  | succ n ih => rw [← Nat.add_assoc]; simp only [byteN, ih]

theorem low_zero : low 0#64 = 0#32 := by decide
theorem rest_zero : rest 0#64 = 0#64 := by decide
theorem byteN_word0 (n : Nat) (s : BitVec 32) : byteN n s 0#64 = (bitN (8 * n) s, 0#64) := by
  induction n with
  | zero => rfl
  | succ n ih =>
    simp only [byteN, ih, low_zero, rest_zero, BitVec.xor_zero]
    rw [show 8 * (n + 1) = 8 * n + 8 from rfl, bitN_add]

theorem bit_even' (a : BitVec 32) (h : a.getLsbD 0 = false) : bit a = half a := by
  have h0 : a &&& 1#32 = 0#32 := by
    rcases neg1_cases a with h0 | h1
    · exact h0
    · exfalso
      have := congrArg (fun x => BitVec.getLsbD x 0) h1
      simp only [BitVec.getLsbD_and, h] at this
      cases this
  unfold bit
  rw [h0]
  have : 3988292384#32 &&& -0#32 = 0#32 := by decide
  rw [this, BitVec.xor_zero]

/-- Zeros alone in the low bits: they are shifted out. -/
theorem bitN_shift (n : Nat) (u : BitVec 32) (h : ∀ i, i < n → u.getLsbD i = false) : bitN n u = u >>> n := by
  induction n with
  | zero => simp [bitN]
  | succ n ih =>
    simp only [bitN]
    rw [ih (fun i hi => h i (by omega)), bit_even']
    · unfold half
      apply BitVec.eq_of_getLsbD_eq
      intro i hi
      simp only [BitVec.getLsbD_ushiftRight]
      congr 1
      omega
    · rw [BitVec.getLsbD_ushiftRight]
      exact h n (by omega)

def tr (x : BitVec 64) : BitVec 32 := x.setWidth 32
def up (u : BitVec 32) : BitVec 32 := u &&& 4294967040#32

theorem bits_255 (i : Nat) (hi : i < 32) : (4294967040#32).getLsbD i = decide (8 ≤ i) ∧ (255#64).getLsbD i = decide (i < 8) := by
  have h : ∀ j : Fin 32, (4294967040#32).getLsbD j.1 = decide (8 ≤ j.1) ∧ (255#64).getLsbD j.1 = decide (j.1 < 8) := by decide
  exact h ⟨i, hi⟩
theorem tr_split (x : BitVec 64) : low x = tr x ^^^ up (tr x) := by
  apply BitVec.eq_of_getLsbD_eq
  intro i hi
  have h := bits_255 i hi
  simp only [low, tr, up, BitVec.getLsbD_xor, BitVec.getLsbD_and, BitVec.getLsbD_setWidth, h.1, h.2, hi, decide_true, Bool.true_and]
  by_cases h8 : i < 8
  · have h9 : ¬ 8 ≤ i := by omega
    simp [h8, h9]
  · have h9 : 8 ≤ i := by omega
    simp [h8, h9]
theorem up_shift (u : BitVec 32) : bitN 8 (up u) = u >>> 8 := by
  rw [bitN_shift]
  · apply BitVec.eq_of_getLsbD_eq
    intro i hi
    simp only [up, BitVec.getLsbD_ushiftRight, BitVec.getLsbD_and]
    by_cases h : 8 + i < 32
    · rw [(bits_255 (8 + i) h).1]; simp
    · rw [BitVec.getLsbD_of_ge _ _ (by omega)]; rfl
  · intro i hi
    simp only [up, BitVec.getLsbD_and]
    rw [(bits_255 i (by omega)).1]
    have : ¬ 8 ≤ i := by omega
    simp [this]
theorem tr_rest (x : BitVec 64) (h : x.toNat < 4294967296) : tr (rest x) = tr x >>> 8 ∧ (rest x).toNat < 4294967296 := by
  have e : (rest x).toNat = x.toNat / 256 := by unfold rest; rw [BitVec.toNat_ushiftRight, Nat.shiftRight_eq_div_pow]
  refine ⟨BitVec.eq_of_toNat_eq ?_, by omega⟩
  unfold tr
  rw [BitVec.toNat_ushiftRight, Nat.shiftRight_eq_div_pow, BitVec.toNat_setWidth, BitVec.toNat_setWidth, e]
  omega

theorem byteN_low (n : Nat) (s : BitVec 32) (x : BitVec 64) (h : x.toNat < 4294967296) :
    (byteN n s x).1 ^^^ tr (byteN n s x).2 = bitN (8 * n) (s ^^^ tr x) ∧ (byteN n s x).2.toNat < 4294967296 ∧ (byteN n s x).2.toNat = x.toNat / 256 ^ n := by
  induction n with
  | zero => exact ⟨rfl, h, by simp [byteN]⟩
  | succ n ih =>
    obtain ⟨h1, h2, h3⟩ := ih
    have e : (rest (byteN n s x).2).toNat = (byteN n s x).2.toNat / 256 := by unfold rest; rw [BitVec.toNat_ushiftRight, Nat.shiftRight_eq_div_pow]
    simp only [byteN]
    refine ⟨?_, (tr_rest _ h2).2, by rw [e, h3, Nat.div_div_eq_div_mul, ← Nat.pow_succ]⟩
    rw [(tr_rest _ h2).1, tr_split, ← BitVec.xor_assoc, h1, bitN_xor, up_shift, BitVec.xor_assoc, BitVec.xor_self, BitVec.xor_zero, ← bitN_add]
    rfl

/-- One half of a word. -/
def spread (d : BitVec 32) (high : Bool) : BitVec 64 := if high then d.setWidth 64 <<< 32 else d.setWidth 64

theorem byte8_low (d : BitVec 32) : (byteN 8 0#32 (d.setWidth 64)).1 = bitN 64 d := by
  have hd : (d.setWidth 64).toNat < 4294967296 := by rw [BitVec.toNat_setWidth]; have := d.isLt; omega
  obtain ⟨h1, h2, h3⟩ := byteN_low 8 0#32 (d.setWidth 64) hd
  have h4 : (byteN 8 0#32 (d.setWidth 64)).2 = 0#64 := by
    apply BitVec.eq_of_toNat_eq
    rw [h3]
    exact Nat.div_eq_of_lt (by omega)
  have h5 : tr (d.setWidth 64) = d := by
    apply BitVec.eq_of_toNat_eq
    unfold tr
    rw [BitVec.toNat_setWidth, BitVec.toNat_setWidth]
    have := d.isLt
    omega
  rw [h4, h5] at h1
  simpa [tr] using h1

theorem byte8_high (d : BitVec 32) : (byteN 8 0#32 (d.setWidth 64 <<< 32)).1 = bitN 32 d := by
  have hx : (d.setWidth 64 <<< 32).toNat = d.toNat * 4294967296 := by
    have := d.isLt
    rw [BitVec.toNat_shiftLeft, BitVec.toNat_setWidth, Nat.shiftLeft_eq]
    omega
  have h4 : ∀ n m, n + m = 4 → (byteN n 0#32 (d.setWidth 64 <<< 32)).1 = 0#32 ∧ (byteN n 0#32 (d.setWidth 64 <<< 32)).2.toNat = d.toNat * 256 ^ m := by
    intro n
    induction n with
    | zero => intro m hm; obtain rfl : m = 4 := by omega
              exact ⟨rfl, hx⟩
    | succ n ih =>
      intro m hm
      obtain ⟨h1, h2⟩ := ih (m + 1) (by omega)
      rw [Nat.pow_succ, ← Nat.mul_assoc] at h2
      generalize hB : byteN n 0#32 (d.setWidth 64 <<< 32) = B at h1 h2
      have hl : low B.2 = 0#32 := by
        apply BitVec.eq_of_toNat_eq
        unfold low
        have : (B.2 &&& 255#64).toNat = B.2.toNat % 256 := by rw [BitVec.toNat_and]; exact Nat.and_two_pow_sub_one_eq_mod _ 8
        rw [BitVec.toNat_setWidth, this, h2, Nat.mul_mod_left]
        rfl
      have hr : (rest B.2).toNat = d.toNat * 256 ^ m := by
        unfold rest
        rw [BitVec.toNat_ushiftRight, Nat.shiftRight_eq_div_pow, h2]
        exact Nat.mul_div_cancel _ (by omega)
      simp only [byteN, hB]
      exact ⟨by rw [h1, hl, BitVec.xor_zero, bitN_zero], hr⟩
  obtain ⟨a, b⟩ := h4 4 0 (by omega)
  rw [Nat.pow_zero, Nat.mul_one] at b
  rw [show (8 : Nat) = 4 + 4 from rfl, byteN_add, a]
  have hd := d.isLt
  obtain ⟨h1, h2, h3⟩ := byteN_low 4 0#32 (byteN 4 0#32 (d.setWidth 64 <<< 32)).2 (by rw [b]; omega)
  have h5 : (byteN 4 0#32 (byteN 4 0#32 (d.setWidth 64 <<< 32)).2).2 = 0#64 := by
    apply BitVec.eq_of_toNat_eq
    rw [h3, b]
    exact Nat.div_eq_of_lt (by omega)
  have h6 : tr (byteN 4 0#32 (d.setWidth 64 <<< 32)).2 = d := by
    apply BitVec.eq_of_toNat_eq
    unfold tr
    rw [BitVec.toNat_setWidth, b]
    omega
  rw [h5, h6] at h1
  simpa [tr] using h1

theorem spread_zero (d : BitVec 32) (high : Bool) (h : (byteN 8 0#32 (spread d high)).1 = 0#32) : d = 0#32 := by
  unfold spread at h
  cases high
  · rw [if_neg (by decide), byte8_low] at h; exact bitN_eq_zero _ _ h
  · rw [if_pos rfl, byte8_high] at h; exact bitN_eq_zero _ _ h

theorem next_diff (s t : BitVec 32) (x y : BitVec 64) : next s x ^^^ next t y = (byteN 8 (s ^^^ t) (x ^^^ y)).1 := by
  have h : ∀ a b : BitVec 32, ~~~a ^^^ ~~~b = a ^^^ b := by
    intro a b
    apply BitVec.eq_of_getLsbD_eq
    intro i hi
    simp only [BitVec.getLsbD_xor, BitVec.getLsbD_not, hi, decide_true, Bool.true_and]
    cases a.getLsbD i <;> cases b.getLsbD i <;> rfl
  unfold next
  rw [h, ← (byteN_xor 8 _ _ _ _).1, h]

/-- The same words behind: a difference stays one. -/
theorem fold_diff (l : List (BitVec 64)) (s t : BitVec 32) : l.foldl next s = l.foldl next t ↔ s = t := by
  induction l generalizing s t with
  | nil => rfl
  | cons x l ih =>
    rw [List.foldl_cons, List.foldl_cons, ih]
    refine ⟨fun h => ?_, fun h => by rw [h]⟩
    have h1 := next_diff s t x x
    rw [h, BitVec.xor_self, BitVec.xor_self, byteN_word0] at h1
    have h2 := bitN_eq_zero _ _ h1.symm
    exact BitVec.xor_eq_zero_iff.1 h2

theorem tells (l : List (BitVec 64)) (k : Nat) (hk : k < l.length) (d : BitVec 32) (high : Bool) : sum (l.set k (l[k] ^^^ spread d high)) = sum l ↔ d = 0#32 := by
  have e1 : l.set k (l[k] ^^^ spread d high) = l.take k ++ (l[k] ^^^ spread d high) :: l.drop (k + 1) := by
    rw [List.set_eq_take_append_cons_drop, if_pos hk]
  have e2 : l = l.take k ++ l[k] :: l.drop (k + 1) := by
    rw [List.getElem_cons_drop, List.take_append_drop]
  unfold sum
  rw [e1]
  conv => lhs; rhs; rw [e2]
  rw [List.foldl_append, List.foldl_append, List.foldl_cons, List.foldl_cons, fold_diff]
  generalize List.foldl next 0#32 (l.take k) = s
  refine ⟨fun h => ?_, fun h => ?_⟩
  · have h1 := next_diff s s (l[k] ^^^ spread d high) l[k]
    rw [h, BitVec.xor_self, BitVec.xor_self, BitVec.xor_comm l[k], BitVec.xor_assoc, BitVec.xor_self, BitVec.xor_zero] at h1
    exact spread_zero d high h1.symm
  · have : spread d high = 0#64 := by subst h; cases high <;> decide
    rw [this, BitVec.xor_zero]

/-- Four lists of as many words, laid over one another to nothing. -/
theorem turns (a b c : List (BitVec 64)) (hb : b.length = a.length) (hc : c.length = a.length) :
    sum a ^^^ sum b ^^^ sum c ^^^ sum (List.zipWith (· ^^^ ·) (List.zipWith (· ^^^ ·) a b) c) = 0#32 := by
  have key : ∀ (a b c : List (BitVec 64)) (s t u v : BitVec 32), b.length = a.length → c.length = a.length → s ^^^ t ^^^ u ^^^ v = 0#32 →
      a.foldl next s ^^^ b.foldl next t ^^^ c.foldl next u ^^^ (List.zipWith (· ^^^ ·) (List.zipWith (· ^^^ ·) a b) c).foldl next v = 0#32 := by
    intro a
    induction a with
    | nil =>
      intro b c s t u v hb hc h
      obtain rfl := List.eq_nil_of_length_eq_zero hb
      obtain rfl := List.eq_nil_of_length_eq_zero hc
      exact h
    | cons x a ih =>
      intro b c s t u v hb hc h
      match b, c, hb, hc with
      | y :: b, z :: c, hb, hc =>
        simp only [List.zipWith_cons_cons, List.foldl_cons]
        refine ih b c _ _ _ _ (by simpa using hb) (by simpa using hc) ?_
        have h1 := next_diff s t x y
        have h2 := next_diff u v z (x ^^^ y ^^^ z)
        have h3 : u ^^^ v = s ^^^ t := by
          have h4 : (s ^^^ t) ^^^ (u ^^^ v) = 0#32 := by rw [← BitVec.xor_assoc]; exact h
          exact (BitVec.xor_eq_zero_iff.1 h4).symm
        have h5 : z ^^^ (x ^^^ y ^^^ z) = x ^^^ y := by rw [BitVec.xor_comm z, BitVec.xor_assoc, BitVec.xor_self, BitVec.xor_zero]
        rw [h3, h5] at h2
        rw [BitVec.xor_assoc, h1, h2, BitVec.xor_self]
  exact key a b c 0#32 0#32 0#32 0#32 hb hc (by decide)

end Go.Proofs.Ytoodkfjldflbeaa.Crc
