/- FilePlays: the reference's Blocks, of files of up to 100,000,000 tuples. -/
import Derived.Test.YtmmkncocgjgapaaK11
set_option linter.unusedVariables false
namespace Go.Proofs.Ytmmkncocgjgapaa.Fl
open Go.RowKit

set_option maxRecDepth 100000 in
theorem refblocks_big (S wN count : Nat) (w : World) (h8 : 8 ≤ S) (h256 : S ≤ 256) (h1 : 1 ≤ wN) (h5 : wN ≤ 5) (hc : count ≤ 100000000) : Calls Try.prog 32 #[.int .i64 (S : Int), .int .i64 (wN : Int), .int .i64 (count : Int)] w fun e w' => e = .returned (.int .i64 (nB S wN count : Int)) ∧ w = w' := by
  have hp := hN_pos h8 h1 h5
  obtain ⟨c1, c2⟩ := nB_cap (size := S) (wN := wN) (count := count) hp
  have hle := nB_le (size := S) (wN := wN) (count := count) hp
  have hh : hN S wN ≤ 254 := by
    have h := hN_mul S wN
    have : hN S wN * 1 ≤ hN S wN * wN := Nat.mul_le_mul_left _ h1
    omega
  have HH := Lib.hid (refholds_ok S wN w h8 h256 h1 h5)
  have C1 := Lib.hid c1
  have C2 := Lib.hid c2
  generalize nB S wN count = n at *
  generalize hN S wN = h at *
  have h0 : (0 : Int) < (h : Int) := by omega
  clear c1 c2
  go_enter Try.func32, Try.ntmps32
  go_wp2_with fail
  refine HH.out.mono ?_
  rintro e w' ⟨rfl, rfl⟩
  go_wp2_with fail
  go_loopw [8] (fun kv wr => BlocksLoop n w kv wr) (fun kv _ => n - (intOf kv).toNat)
  case atStart => exact ⟨0, rfl, Nat.zero_le _, rfl⟩
  case round =>
    obtain ⟨k, rfl, hk, rfl⟩ := hrel
    obtain ⟨q, hq⟩ : ∃ q : Nat, q = k * h := ⟨_, rfl⟩
    have hqb : q ≤ 25400000000 := by
      rw [hq]
      have : k * h ≤ 100000000 * 254 := Nat.mul_le_mul (by omega) hh
      omega
    have hm : IntKind.i64.wrap ((k : Int) * (h : Int)) = (q : Int) := by rw [← Int.natCast_mul, ← hq, IntKind.wrap_i64]; omega
    by_cases hlt : k < n
    · have hq2 : (q : Int) < (count : Int) := by have := C2.out k hlt; omega
      clear hq
      go_wp2_with fail
      go_roundw
      case rel => exact ⟨k + 1, by go_num, by omega, rfl⟩
      case measure => simp [intOf]; omega
    · obtain rfl : k = n := by omega
      have hq2 : ¬ (q : Int) < (count : Int) := by have := C1.out; omega
      clear hq
      go_wp2_with fail
      go_ret
      exact ⟨rfl, rfl⟩

end Go.Proofs.Ytmmkncocgjgapaa.Fl
