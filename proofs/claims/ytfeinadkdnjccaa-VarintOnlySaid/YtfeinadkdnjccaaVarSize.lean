/- The walks of bits.Len64 and varint.Size. No condition. -/
import Derived.Test.YtfeinadkdnjccaaVarPlain
import Derived.Test.YtfeinadkdnjccaaMem
import Derived.Test.YtfeinadkdnjccaaRows
import Derived.Test.YtfeinadkdnjccaaLen64
namespace Go.Proofs.Ytfeinadkdnjccaa.Var
open Go.RowKit

@[go_sem] theorem or1 (x : Nat) (h : x < 18446744073709551616) : bits BinOp.or IntKind.u64 (x : Int) 1 = ((x ||| 1 : Nat) : Int) :=
  u64_or_nat x 1 h (by decide)

set_option maxRecDepth 100000 in
set_option maxHeartbeats 400000 in
theorem size_any (x : Nat) (w : World) (hx : x < 18446744073709551616) :
    Calls Try.prog 21 #[.int .u64 (x : Int)] w fun e w' => e = .returned (.int .i64 (size x : Int)) ∧ w = w' := by
  have hs := size_bits x hx
  have h3 : x ||| 1 < 18446744073709551616 := Nat.or_lt_two_pow (n := 64) hx (by omega)
  have hl := Lib.bitLen_le (x ||| 1) 64 (by omega) h3
  have ho := or1 x hx
  generalize x ||| 1 = y at *
  have Hs := Lib.hid hs
  clear hs
  go_enter Try.func21, Try.ntmps21
  go_wp2_with fail
  refine (len64 _ _ (by omega) (by omega)).mono ?_
  rintro e w1 ⟨rfl, rfl⟩
  rw [Int.toNat_natCast]
  generalize hz : Lib.bitLen y = z at *
  have Hz := Lib.hid hz
  clear hz
  go_wp2_with fail
  go_ret
  exact ⟨by rw [← Hs.out]; first | rfl | (congr 2; omega), rfl⟩

end Go.Proofs.Ytfeinadkdnjccaa.Var
