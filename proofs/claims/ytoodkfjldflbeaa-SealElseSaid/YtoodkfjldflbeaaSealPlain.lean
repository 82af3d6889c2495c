/- The plain law of sealed blocks: a block that differs in half a word, or is asked at another address, is not sealed. No condition. -/
import Derived.Test.YtoodkfjldflbeaaSealGetR
set_option linter.unusedVariables false
namespace Go.Proofs.Ytoodkfjldflbeaa.Crc
open Go.RowKit

theorem sealed_parts {B : List (BitVec 64)} {z X : BitVec 64} (h : IsSealed (B ++ [z]) X) : ∃ n, n + 2 ≤ B.length + 1 ∧ z = lastW B (BitVec.ofNat 64 n) X := by
  obtain ⟨p, tag, hp, he⟩ := h
  unfold sealW at he
  obtain ⟨h1, h2⟩ := List.append_inj' he rfl
  simp only [List.length_append, List.length_singleton] at hp
  refine ⟨p.length, hp, ?_⟩
  injection h2 with h2
  rw [h2, ← h1]

theorem shl_low (a : BitVec 64) : (a <<< 32).setWidth 32 = 0#32 := by
  apply BitVec.eq_of_toNat_eq
  rw [BitVec.toNat_setWidth, BitVec.toNat_shiftLeft, Nat.shiftLeft_eq]
  simp
theorem up_low (s : BitVec 32) : (s.setWidth 64).setWidth 32 = s := by
  apply BitVec.eq_of_toNat_eq
  have := s.isLt
  rw [BitVec.toNat_setWidth, BitVec.toNat_setWidth]
  omega
theorem low_last (B : List (BitVec 64)) (N X : BitVec 64) : (lastW B N X).setWidth 32 = next (next (sum B) (N + 1#64)) X := by
  unfold lastW
  rw [BitVec.setWidth_or, shl_low, up_low, BitVec.zero_or]

theorem next_inj (s t : BitVec 32) (x : BitVec 64) (h : next s x = next t x) : s = t := (fold_diff [x] s t).1 h

theorem next_word (s : BitVec 32) (x y : BitVec 64) (hx : x.toNat < 4294967296) (hy : y.toNat < 4294967296) (h : next s x = next s y) : x = y := by
  have h1 := next_diff s s x y
  rw [h, BitVec.xor_self, BitVec.xor_self] at h1
  have h2 : x ^^^ y = spread (x.setWidth 32 ^^^ y.setWidth 32) false := by
    unfold spread
    rw [if_neg (by decide)]
    apply BitVec.eq_of_toNat_eq
    rw [BitVec.toNat_xor, BitVec.toNat_setWidth, BitVec.toNat_xor, BitVec.toNat_setWidth, BitVec.toNat_setWidth, Nat.mod_eq_of_lt hx, Nat.mod_eq_of_lt hy]
    have := Nat.xor_lt_two_pow (n := 32) (x := x.toNat) (y := y.toNat) hx hy
    rw [Nat.mod_eq_of_lt (by omega)]
  rw [h2] at h1
  have h3 := spread_zero _ false h1.symm
  have h4 := BitVec.xor_eq_zero_iff.1 h3
  apply BitVec.eq_of_toNat_eq
  have h5 := congrArg BitVec.toNat h4
  rw [BitVec.toNat_setWidth, BitVec.toNat_setWidth] at h5
  omega

theorem ofNat_succ_toNat {n : Nat} (h : n < 1000000) : (BitVec.ofNat 64 n + 1#64).toNat = n + 1 := by
  rw [BitVec.toNat_add, BitVec.toNat_ofNat]
  simp
  omega

theorem spread_eq_zero {d : BitVec 32} {high : Bool} (h : spread d high = 0#64) : d = 0#32 := by
  refine spread_zero d high ?_
  rw [h, byteN_word0]
  exact bitN_zero _

theorem top_xor (z : BitVec 64) (d : BitVec 32) : I64 (z ^^^ spread d false) / 4294967296 = I64 z / 4294967296 := by
  unfold I64 spread
  rw [if_neg (by decide), BitVec.toNat_xor, BitVec.toNat_setWidth]
  have hd := d.isLt
  have h1 : (z.toNat ^^^ d.toNat % 2 ^ 64) / 4294967296 = z.toNat / 4294967296 := by
    rw [show 4294967296 = 2 ^ 32 from rfl, ← Nat.shiftRight_eq_div_pow, Nat.shiftRight_xor_distrib, Nat.shiftRight_eq_div_pow, Nat.shiftRight_eq_div_pow, Nat.mod_eq_of_lt (a := d.toNat) (by omega), Nat.div_eq_of_lt (a := d.toNat) (by omega), Nat.xor_zero]
  omega

theorem low_xor_high (z : BitVec 64) (d : BitVec 32) : (z ^^^ spread d true).setWidth 32 = z.setWidth 32 := by
  unfold spread
  rw [if_pos rfl, BitVec.setWidth_xor, shl_low, BitVec.xor_zero]

theorem tells_back (B : List (BitVec 64)) (n : Nat) (X : BitVec 64) (hn : n < 1000) (hB : B.length < 1000) (k : Nat) (hk : k < (B ++ [lastW B (BitVec.ofNat 64 n) X]).length) (d : BitVec 32) (high : Bool)
    (h : IsSealed ((B ++ [lastW B (BitVec.ofNat 64 n) X]).set k ((B ++ [lastW B (BitVec.ofNat 64 n) X])[k] ^^^ spread d high)) X) : d = 0#32 := by
  by_cases hkB : k < B.length
  · rw [List.set_append_left _ _ hkB, List.getElem_append_left hkB] at h
    obtain ⟨m, hm, he⟩ := sealed_parts h
    simp only [List.length_set] at hm
    have t1 := last_top B n X (by omega)
    rw [he, last_top _ m X (by omega)] at t1
    obtain rfl : m = n := by omega
    have h1 := congrArg (BitVec.setWidth 32) he
    rw [low_last, low_last] at h1
    have h2 := next_inj _ _ _ (next_inj _ _ _ h1)
    exact (tells B k hkB d high).1 h2.symm
  · obtain rfl : k = B.length := by simp at hk; omega
    rw [List.set_append_right _ _ (by omega), List.getElem_append_right (by omega)] at h
    simp only [Nat.sub_self, List.set_cons_zero, List.getElem_cons_zero] at h
    obtain ⟨m, hm, he⟩ := sealed_parts h
    have hmn : m = n := by
      cases high
      · have t1 := top_xor (lastW B (BitVec.ofNat 64 n) X) d
        rw [he, last_top _ m X (by omega), last_top _ n X (by omega)] at t1
        omega
      · have h1 := congrArg (BitVec.setWidth 32) he
        rw [low_xor_high, low_last, low_last] at h1
        have h2 := next_inj _ _ _ h1
        have h3 := next_word _ _ _ (by rw [ofNat_succ_toNat (by omega)]; omega) (by rw [ofNat_succ_toNat (by omega)]; omega) h2
        have h4 := congrArg BitVec.toNat h3
        rw [ofNat_succ_toNat (by omega), ofNat_succ_toNat (by omega)] at h4
        omega
    subst hmn
    refine spread_eq_zero (high := high) ?_
    have h5 : lastW B (BitVec.ofNat 64 m) X ^^^ (lastW B (BitVec.ofNat 64 m) X ^^^ spread d high) = 0#64 := by rw [he, BitVec.xor_self]
    rw [← BitVec.xor_assoc, BitVec.xor_self, BitVec.zero_xor] at h5
    exact h5

theorem sealed_else (p : List (BitVec 64)) (size : Nat) (tag X Y : BitVec 64) (hp : p.length + 2 ≤ size) (hs : size < 1000) (hX : X.toNat < 4294967296) (hY : Y.toNat < 4294967296) (h : IsSealed (sealW p size tag X) Y) : X = Y := by
  unfold sealW at h
  have hB := bodyW_length (tag := tag) hp
  obtain ⟨m, hm, he⟩ := sealed_parts h
  have t1 := last_top (bodyW p size tag) p.length X (by omega)
  rw [he, last_top _ m Y (by omega)] at t1
  obtain rfl : m = p.length := by omega
  have h1 := congrArg (BitVec.setWidth 32) he
  rw [low_last, low_last] at h1
  exact next_word _ _ _ hX hY h1

theorem sealed_self (p : List (BitVec 64)) (size : Nat) (tag X : BitVec 64) (hp : p.length + 2 ≤ size) : IsSealed (sealW p size tag X) X :=
  ⟨p, tag, by rw [sealW_length hp]; exact hp, by rw [sealW_length hp]⟩

theorem zeros_none (n : Nat) (hn : n < 1000) (X : BitVec 64) : ¬ IsSealed (List.replicate (n + 1) 0#64) X := by
  intro h
  rw [List.replicate_succ'] at h
  obtain ⟨m, hm, he⟩ := sealed_parts h
  simp at hm
  have := last_top (List.replicate n 0#64) m X (by omega)
  rw [← he] at this
  simp [I64] at this
  omega

end Go.Proofs.Ytoodkfjldflbeaa.Crc
