/- The walks of crc.Next: it computes what the plain text says. No condition. -/
import Derived.Test.YtoodkfjldflbeaaRows
import Derived.Test.YtoodkfjldflbeaaCrcPlain
import Derived.WalkKit
import Derived.WalkSpells
import Derived.WalkLawsBesides
namespace Go.Proofs.Ytoodkfjldflbeaa.Crc
open Go.RowKit

def I32 (b : BitVec 32) : Int := b.toNat
def I64 (b : BitVec 64) : Int := b.toNat
theorem I32_lt (b : BitVec 32) : 0 ≤ I32 b ∧ I32 b < 4294967296 := by have := b.isLt; unfold I32; omega
theorem I64_lt (b : BitVec 64) : 0 ≤ I64 b ∧ I64 b < 18446744073709551616 := by have := b.isLt; unfold I64; omega

theorem bits32 (op : BitVec 32 → BitVec 32 → BitVec 32) (a b : Int) (s t : BitVec 32) (ha : a = I32 s) (hb : b = I32 t) :
    IntKind.u32.wrap (op (BitVec.ofInt 32 a) (BitVec.ofInt 32 b)).toNat = I32 (op s t) := by
  subst ha; subst hb
  have := (op s t).isLt
  rw [IntKind.wrap_u32']
  unfold I32
  rw [BitVec.ofInt_natCast, BitVec.ofInt_natCast, BitVec.ofNat_toNat, BitVec.ofNat_toNat, BitVec.setWidth_eq, BitVec.setWidth_eq]
  omega

@[go_sem] theorem xor32 (s t : BitVec 32) : bits BinOp.xor IntKind.u32 (I32 s) (I32 t) = I32 (s ^^^ t) :=
  bits32 (· ^^^ ·) _ _ s t rfl rfl
@[go_sem] theorem not32 (s : BitVec 32) : bits BinOp.xor IntKind.u32 IntKind.u32.max (I32 s) = I32 (~~~s) := by
  rw [show ~~~s = 4294967295#32 ^^^ s from (by rw [← BitVec.allOnes_xor]; rfl)]
  exact bits32 (· ^^^ ·) _ _ 4294967295#32 s rfl rfl
@[go_sem] theorem and1 (s : BitVec 32) : bits BinOp.and IntKind.u32 (I32 s) 1 = I32 (s &&& 1#32) :=
  bits32 (· &&& ·) _ _ s 1#32 rfl rfl
@[go_sem] theorem poly32 (s : BitVec 32) : bits BinOp.and IntKind.u32 3988292384 (I32 s) = I32 (3988292384#32 &&& s) :=
  bits32 (· &&& ·) _ _ 3988292384#32 s rfl rfl
@[go_sem] theorem neg32 (s : BitVec 32) : -I32 s % 4294967296 = I32 (-s) := by
  unfold I32
  rw [BitVec.toNat_neg]
  have := s.isLt
  omega
@[go_sem] theorem half32 (s : BitVec 32) : I32 s / 2 = I32 (half s) := by
  unfold I32 half
  rw [BitVec.toNat_ushiftRight, Nat.shiftRight_eq_div_pow]
  omega
@[go_sem] theorem low8 (x : BitVec 64) : bits BinOp.and IntKind.u64 (I64 x) 255 % 4294967296 = I32 (low x) := by
  have h : bits BinOp.and IntKind.u64 (I64 x) 255 = I64 (x &&& 255#64) := by
    show IntKind.u64.wrap ((BitVec.ofInt 64 (I64 x)) &&& (BitVec.ofInt 64 255)).toNat = _
    rw [IntKind.wrap_u64]
    unfold I64
    rw [BitVec.ofInt_natCast, BitVec.ofNat_toNat, BitVec.setWidth_eq]
    have := (x &&& 255#64).isLt
    show ((x &&& 255#64).toNat : Int) % _ = _
    omega
  rw [h]
  unfold I64 I32 low
  rw [BitVec.toNat_setWidth]
  omega
@[go_sem] theorem shr8 (x : BitVec 64) : I64 x / 256 = I64 (rest x) := by
  unfold I64 rest
  rw [BitVec.toNat_ushiftRight, Nat.shiftRight_eq_div_pow]
  omega

set_option maxRecDepth 100000 in
set_option maxHeartbeats 400000 in
theorem next_any (s : BitVec 32) (x : BitVec 64) (w : World) :
    Calls Try.prog 37 #[.int .u32 (I32 s), .int .u64 (I64 x)] w fun e w' => e = .returned (.int .u32 (I32 (next s x))) ∧ w = w' := by
  go_enter Try.func37, Try.ntmps37
  go_wp2
  go_loop [1, 5, 8] (fun x1 s1 i => ∃ k : Nat, k ≤ 8 ∧ i = .int .i64 k ∧ s1 = .int .u32 (I32 (byteN k (~~~s) x).1) ∧ x1 = .int .u64 (I64 (byteN k (~~~s) x).2)) (fun _ _ i => 8 - (intOf i).toNat)
  case atStart => exact ⟨0, by omega, rfl, rfl, rfl⟩
  case round =>
    obtain ⟨k, hk, rfl, rfl, rfl⟩ := hrel
    by_cases hlt : (k : Int) < 8
    · go_wp2
      go_loop [5, 17] (fun s2 i => ∃ j : Nat, j ≤ 8 ∧ i = .int .i64 j ∧ s2 = .int .u32 (I32 (bitN j ((byteN k (~~~s) x).1 ^^^ low (byteN k (~~~s) x).2)))) (fun _ i => 8 - (intOf i).toNat)
      case atStart => exact ⟨0, by omega, rfl, rfl⟩
      case round =>
        obtain ⟨j, hj, rfl, rfl⟩ := hrel
        by_cases hjl : (j : Int) < 8
        · go_wp2
          go_round
          case rel => exact ⟨j + 1, by omega, by go_num, rfl⟩
          case measure => simp [intOf]; omega
        · obtain rfl : j = 8 := by omega
          go_wp2
          go_round
          case rel => exact ⟨k + 1, by omega, by go_num, rfl, rfl⟩
          case measure => simp [intOf]; omega
    · obtain rfl : k = 8 := by omega
      go_wp2
      go_ret
      exact ⟨rfl, rfl⟩

end Go.Proofs.Ytoodkfjldflbeaa.Crc
