/- The last word of a sealed block, and what is right. -/
import Derived.Test.YtoodkfjldflbeaaClone64
set_option linter.unusedVariables false
namespace Go.Proofs.Ytoodkfjldflbeaa.Crc
open Go.RowKit

/-- The last word: n payload words, the words ahead of it, the address. -/
def lastW (l : List (BitVec 64)) (n x : BitVec 64) : BitVec 64 := ((n + 1#64) <<< 32) ||| (next (next (sum l) (n + 1#64)) x).setWidth 64

set_option maxRecDepth 100000 in
theorem right_any (size address : Int) (w : World) :
    Calls Try.prog 31 #[.int .i64 size, .int .i64 address] w fun e w' => e = .returned (.bool (decide (8 ≤ size ∧ size ≤ 256 ∧ 0 ≤ address))) ∧ w = w' := by
  by_cases h1 : 8 ≤ size
  all_goals (by_cases h2 : size ≤ 256)
  all_goals (by_cases h3 : 0 ≤ address)
  all_goals
    go_enter Try.func31, Try.ntmps31
    go_wp2_with fail
    go_ret
    simp [h1, h2, h3]

theorem I64_ofNat {x : Nat} (h : x < 18446744073709551616) : I64 (BitVec.ofNat 64 x) = (x : Int) := by
  show ((BitVec.ofNat 64 x).toNat : Int) = _
  rw [BitVec.toNat_ofNat, Nat.mod_eq_of_lt (by omega)]
theorem I64_succ {x : Nat} (h : x + 1 < 18446744073709551616) : I64 (BitVec.ofNat 64 x + 1#64) = (x : Int) + 1 := by
  have : BitVec.ofNat 64 x + 1#64 = BitVec.ofNat 64 (x + 1) := by
    apply BitVec.eq_of_toNat_eq
    simp
  rw [this, I64_ofNat h]
  omega

theorem bits64 (op : BitVec 64 → BitVec 64 → BitVec 64) (a b : Int) (s t : BitVec 64) (ha : a = I64 s) (hb : b = I64 t) :
    IntKind.u64.wrap (op (BitVec.ofInt 64 a) (BitVec.ofInt 64 b)).toNat = I64 (op s t) := by
  subst ha; subst hb
  have := (op s t).isLt
  rw [IntKind.wrap_u64]
  unfold I64
  rw [BitVec.ofInt_natCast, BitVec.ofInt_natCast, BitVec.ofNat_toNat, BitVec.ofNat_toNat, BitVec.setWidth_eq, BitVec.setWidth_eq]
  omega

theorem u64_wrap_id {x : Int} (h : 0 ≤ x) (h2 : x < 18446744073709551616) : IntKind.u64.wrap x = x := by
  rw [show IntKind.u64.wrap x = x % 18446744073709551616 from rfl]
  omega
theorem or_word (n : Nat) (s : BitVec 32) (hn : n < 1000000) : bits BinOp.or IntKind.u64 (((n : Int) + 1) * 4294967296) (IntKind.u64.wrap (I32 s)) = I64 (((BitVec.ofNat 64 n + 1#64) <<< 32) ||| s.setWidth 64) := by
  refine bits64 (· ||| ·) _ _ _ _ ?_ ?_
  · have h : BitVec.ofNat 64 n + 1#64 = BitVec.ofNat 64 (n + 1) := by
      apply BitVec.eq_of_toNat_eq
      simp
    rw [h]
    unfold I64
    rw [BitVec.toNat_shiftLeft, BitVec.toNat_ofNat, Nat.shiftLeft_eq, Nat.mod_eq_of_lt (a := n + 1) (by omega), Nat.mod_eq_of_lt (by omega)]
    omega
  · have hs := s.isLt
    rw [u64_wrap_id (by unfold I32; omega) (by unfold I32; omega)]
    unfold I32 I64
    rw [BitVec.toNat_setWidth, Nat.mod_eq_of_lt (by omega)]

set_option maxRecDepth 100000 in
theorem last_any (l : List (BitVec 64)) (z : BitVec 64) (n x : Nat) (a : Option Addr) (c : Nat) (w : World) (hr : Row w a (words (l ++ [z]))) (hcap : l.length + 1 ≤ c) (hl : l.length < 1000000) (hn : n < 1000000) (hx : x < 9223372036854775808) :
    Calls Try.prog 32 #[.slice a (l.length + 1) c, .int .i64 (n : Int), .int .i64 (x : Int)] w fun e w' => e = .returned (.int .u64 (I64 (lastW l (BitVec.ofNat 64 n) (BitVec.ofNat 64 x)))) ∧ w = w' := by
  have e1 : (l.length : Int) ≤ c := by omega
  have e2 : IntKind.i64.wrap ((l.length : Int) + 1 - 1) = (l.length : Int) := by rw [IntKind.wrap_i64]; omega
  have e3 : IntKind.i64.wrap ((n : Int) + 1) = (n : Int) + 1 := by rw [IntKind.wrap_i64]; omega
  have hr2 : Row w a (words l) := by
    have := hr.take l.length
    simpa [words, List.take_append] using this
  have hn1 : I64 (BitVec.ofNat 64 n + 1#64) = (n : Int) + 1 := I64_succ (by omega)
  have hx1 : I64 (BitVec.ofNat 64 x) = (x : Int) := I64_ofNat (by omega)
  have HN := next_any (sum l) (BitVec.ofNat 64 n + 1#64) w
  rw [hn1] at HN
  have HX := next_any (next (sum l) (BitVec.ofNat 64 n + 1#64)) (BitVec.ofNat 64 x) w
  rw [hx1] at HX
  clear hn1 hx1
  go_enter Try.func32, Try.ntmps32
  go_wp2_with fail
  refine (sum_at l a _ _ _ rfl hr2 (by omega)).mono ?_
  rintro e w1 ⟨rfl, rfl⟩
  go_wp2_with fail
  refine HN.mono ?_
  rintro e w1 ⟨rfl, rfl⟩
  go_wp2_with fail
  refine HX.mono ?_
  rintro e w1 ⟨rfl, rfl⟩
  go_wp2_with fail
  go_ret
  refine ⟨?_, rfl⟩
  show Ending.returned (.int .u64 (bits BinOp.or IntKind.u64 (((n : Int) + 1) * 4294967296) (IntKind.u64.wrap (I32 (next (next (sum l) (BitVec.ofNat 64 n + 1#64)) (BitVec.ofNat 64 x)))))) = _
  rw [or_word n _ hn]
  rfl

end Go.Proofs.Ytoodkfjldflbeaa.Crc
