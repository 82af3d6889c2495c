/- The plain law of numbers in a few bytes: what chapter 1 computes, over natural numbers, with no program in sight. No condition but the numbers' own size. -/
import Derived.Lib.BitFns
namespace Go.Proofs.Ytlepmefknglkeaa.Var

/-- A number's bytes. -/
def put (x : Nat) : List Nat := if x < 128 then [x] else (x % 128 + 128) :: put (x / 128)
theorem put_small {x : Nat} (h : x < 128) : put x = [x] := by rw [put, if_pos h]
theorem put_big {x : Nat} (h : 128 ≤ x) : put x = (x % 128 + 128) :: put (x / 128) := by rw [put, if_neg (by omega)]

theorem put_pos (x : Nat) : 0 < (put x).length := by
  rw [put]; split <;> simp
theorem put_bytes (x : Nat) : ∀ c ∈ put x, c < 256 := by
  induction x using Nat.strongRecOn with
  | _ x ih =>
    by_cases h : x < 128
    · rw [put_small h]; intro c hc; simp at hc; omega
    · rw [put_big (by omega)]
      intro c hc
      rcases List.mem_cons.1 hc with rfl | hc
      · omega
      · exact ih (x / 128) (by omega) c hc
theorem put_len (k x : Nat) (h : x < 128 ^ (k + 1)) : (put x).length ≤ k + 1 := by
  induction k generalizing x with
  | zero => rw [put_small (by omega)]; simp
  | succ k ih =>
    by_cases hx : x < 128
    · rw [put_small hx]; simp
    · rw [put_big (by omega)]
      have := ih (x / 128) (by rw [Nat.div_lt_iff_lt_mul (by omega), ← Nat.pow_succ]; exact h)
      simp; omega
theorem put_len10 (x : Nat) (h : x < 18446744073709551616) : (put x).length ≤ 10 := put_len 9 x (by omega)

def size (x : Nat) : Nat := (put x).length

open Go.Lib in
theorem bitLen_or1 (y : Nat) (h : 1 ≤ y) (h2 : y < 2 ^ 64) : bitLen (y ||| 1) = bitLen y := by
  have e : (y ||| 1) / 2 = y / 2 := by
    apply Nat.eq_of_testBit_eq
    intro i
    simp only [Nat.testBit_div_two, Nat.testBit_or]
    rw [Nat.testBit_succ 1 i]
    simp
  have h3 : y ||| 1 < 2 ^ 64 := Nat.or_lt_two_pow h2 (by omega)
  rw [bitLen_half (y ||| 1) (by have := Nat.right_le_or (n := y) (m := 1); omega) h3, bitLen_half y (by omega) h2, e]

open Go.Lib in
theorem size_bits (x : Nat) (h : x < 2 ^ 64) : (bitLen (x ||| 1) + 6) / 7 = size x := by
  induction x using Nat.strongRecOn with
  | _ x ih =>
    by_cases hx : x < 128
    · unfold size
      rw [put_small hx]
      have : ∀ n : Fin 128, (bitLen (n.1 ||| 1) + 6) / 7 = 1 := by decide +kernel
      exact this ⟨x, hx⟩
    · have h1 := ih (x / 128) (by omega) (by omega)
      unfold size at h1 ⊢
      rw [put_big (by omega), List.length_cons, ← h1, bitLen_or1 x (by omega) h, bitLen_or1 (x / 128) (by omega) (by omega)]
      have := bitLen_shift 7 x (by omega) h
      rw [this, show (2 : Nat) ^ 7 = 128 from rfl]
      omega

/-- The bytes from a place on, read: the number, how many bytes were gone over, the error. -/
def tk : List Nat → Nat → Nat → Nat × Nat × Nat
  | [], i, _ => (0, i, 3)
  | c :: l, i, x =>
    if i = 9 ∧ c ≠ 1 ∨ 0 < i ∧ c = 0 then (0, i, 3)
    else if c < 128 then (x + c % 128 * 128 ^ i, i + 1, 0) else tk l (i + 1) (x + c % 128 * 128 ^ i)

/-- The answer at a place. -/
def take (b : List Nat) (at_ : Int) : Int × Int × Int :=
  if at_ < 0 ∨ (b.length : Int) < at_ then (0, 0, 1)
  else (((tk (b.drop at_.toNat) 0 0).1 : Int), at_ + ((tk (b.drop at_.toNat) 0 0).2.1 : Int), ((tk (b.drop at_.toNat) 0 0).2.2 : Int))

end Go.Proofs.Ytlepmefknglkeaa.Var
