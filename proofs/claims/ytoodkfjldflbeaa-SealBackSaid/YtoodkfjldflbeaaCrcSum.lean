/- The walks of crc.Sum and of the reference's Sum: each computes what the plain text says, of every slice shorter than 2^62 words. -/
import Derived.Test.YtoodkfjldflbeaaMem
import Derived.Test.YtoodkfjldflbeaaCrcWalks
namespace Go.Proofs.Ytoodkfjldflbeaa.Crc
open Go.RowKit

def words (l : List (BitVec 64)) : List Value := l.map fun x => .int .u64 (I64 x)
theorem words_length (l : List (BitVec 64)) : (words l).length = l.length := by simp [words]

theorem words_get (l : List (BitVec 64)) (k : Nat) (h : k < l.length) : (words l)[k]? = some (.int .u64 (I64 l[k])) := by simp [words, h]
theorem sum_take (l : List (BitVec 64)) (k : Nat) (h : k < l.length) : next (sum (l.take k)) l[k] = sum (l.take (k + 1)) := by
  unfold sum
  rw [List.take_succ_eq_append_getElem h, List.foldl_append]
  rfl

set_option maxRecDepth 100000 in
set_option maxHeartbeats 400000 in
theorem sum_any (l : List (BitVec 64)) (a : Option Addr) (c : Nat) (w : World) (hr : Row w a (words l)) (hl : l.length < 4611686018427387904) :
    Calls Try.prog 38 #[.slice a l.length c] w fun e w' => e = .returned (.int .u32 (I32 (sum l))) ∧ w = w' := by
  go_enter Try.func38, Try.ntmps38
  go_wp2
  go_loop [3, 8] (fun s i => ∃ k : Nat, k ≤ l.length ∧ i = .int .i64 k ∧ s = .int .u32 (I32 (sum (l.take k)))) (fun _ i => l.length - (intOf i).toNat)
  case atStart => exact ⟨0, by omega, rfl, rfl⟩
  case round =>
    obtain ⟨k, hk, rfl, rfl⟩ := hrel
    by_cases hlt : (k : Int) < l.length
    · have hlt' : k < l.length := by omega
      obtain ⟨b, off, rfl, hc, -⟩ := hr.at_ (i := k) (by rw [words_length]; exact hlt')
      have hc' : w.cell? ⟨b, off + k, none⟩ = some (.int .u64 (I64 l[k])) := by rw [hc]; simp [words]
      have hs := Lib.hid (sum_take l k hlt')
      clear hc hr
      go_wp2_with (go_at_call 37; refine (next_any _ _ _).mono ?_; rintro e w' ⟨rfl, rfl⟩)
      go_round
      case rel => exact ⟨k + 1, by omega, by go_num, by rw [hs.out]⟩
      case measure => simp [intOf]; omega
    · obtain rfl : k = l.length := by omega
      go_wp2
      go_ret
      exact ⟨rfl, rfl⟩


@[go_sem] theorem xpoly (s : BitVec 32) : bits BinOp.xor IntKind.u32 (I32 s) 3988292384 = I32 (s ^^^ 3988292384#32) :=
  bits32 (· ^^^ ·) _ _ s 3988292384#32 rfl rfl
@[go_sem] theorem low8' (x : BitVec 64) : I64 x % 256 = I32 (low x) := by
  unfold I64 I32 low
  have : (x &&& 255#64).toNat = x.toNat % 256 := by rw [BitVec.toNat_and]; exact Nat.and_two_pow_sub_one_eq_mod x.toNat 8
  rw [BitVec.toNat_setWidth, this]
  omega

@[go_sem] theorem low8m (x : BitVec 64) : I32 (low x) % 4294967296 = I32 (low x) := by
  have := I32_lt (low x)
  omega

theorem odd_cases (s : BitVec 32) : s &&& 1#32 = 1#32 ∧ I32 s % 2 = 1 ∨ s &&& 1#32 = 0#32 ∧ I32 s % 2 = 0 := by
  have h : (s &&& 1#32).toNat = s.toNat % 2 := by rw [BitVec.toNat_and]; exact Nat.and_two_pow_sub_one_eq_mod s.toNat 1
  unfold I32
  rcases Nat.mod_two_eq_zero_or_one s.toNat with h0 | h1
  · exact .inr ⟨BitVec.eq_of_toNat_eq (by rw [h, h0]; rfl), by omega⟩
  · exact .inl ⟨BitVec.eq_of_toNat_eq (by rw [h, h1]; rfl), by omega⟩
theorem bit_odd (s : BitVec 32) (h : (I32 s % 2 == 1) = true) : half s ^^^ 3988292384#32 = bit s := by
  rcases odd_cases s with ⟨h1, _⟩ | ⟨_, h2⟩
  · unfold bit
    rw [h1]
    congr 1
  · rw [h2] at h; cases h
theorem bit_even (s : BitVec 32) (h : (I32 s % 2 == 1) = false) : half s = bit s := by
  rcases odd_cases s with ⟨_, h2⟩ | ⟨h1, _⟩
  · rw [h2] at h; cases h
  · unfold bit
    rw [h1]
    have : 3988292384#32 &&& -0#32 = 0#32 := by decide
    rw [this, BitVec.xor_zero]
@[go_sem] theorem neg_top (s : BitVec 32) : (4294967295 - I32 (~~~s)) % 4294967296 = I32 s := by
  unfold I32
  have := s.isLt
  rw [BitVec.toNat_not]
  omega

set_option maxRecDepth 100000 in
set_option maxHeartbeats 400000 in
theorem ref_any (l : List (BitVec 64)) (a : Option Addr) (c : Nat) (w : World) (hr : Row w a (words l)) (hl : l.length < 4611686018427387904) :
    Calls Try.prog 33 #[.slice a l.length c] w fun e w' => e = .returned (.int .u32 (I32 (sum l))) ∧ w = w' := by
  go_enter Try.func33, Try.ntmps33
  go_wp2
  go_loop [3, 4, 5, 6, 7] (fun s i _ _ _ => ∃ k : Nat, k ≤ l.length ∧ i = .int .i64 k ∧ s = .int .u32 (I32 (~~~ sum (l.take k)))) (fun _ i _ _ _ => l.length - (intOf i).toNat)
  case atStart => exact ⟨0, by omega, rfl, congrArg (Value.int IntKind.u32) (by rw [List.take_zero]; decide)⟩
  case round =>
    obtain ⟨k, hk, rfl, rfl⟩ := hrel
    by_cases hlt : (k : Int) < l.length
    · have hlt' : k < l.length := by omega
      obtain ⟨b, off, rfl, hc, -⟩ := hr.at_ (i := k) (by rw [words_length]; exact hlt')
      have hc' : w.cell? ⟨b, off + k, none⟩ = some (.int .u64 (I64 l[k])) := by rw [hc]; simp [words]
      have hs := Lib.hid (sum_take l k hlt')
      clear hc hr
      generalize hS : ~~~ sum (l.take k) = S
      have HS := Lib.hid hS
      clear hS
      go_wp2
      go_loop [3, 5, 6, 7] (fun s1 x1 i _ => ∃ j : Nat, j ≤ 8 ∧ i = .int .i64 j ∧ s1 = .int .u32 (I32 (byteN j S l[k]).1) ∧ x1 = .int .u64 (I64 (byteN j S l[k]).2)) (fun _ _ i _ => 8 - (intOf i).toNat)
      case atStart => exact ⟨0, by omega, rfl, rfl, rfl⟩
      case round =>
        obtain ⟨j, hj, rfl, rfl, rfl⟩ := hrel
        by_cases hjl : (j : Int) < 8
        · have b1 := I64_lt (byteN j S l[k]).2
          go_wp2
          go_loop [3, 7] (fun s2 i => ∃ q : Nat, q ≤ 8 ∧ i = .int .i64 q ∧ s2 = .int .u32 (I32 (bitN q ((byteN j S l[k]).1 ^^^ low (byteN j S l[k]).2)))) (fun _ i => 8 - (intOf i).toNat)
          case atStart => exact ⟨0, by omega, rfl, rfl⟩
          case round =>
            obtain ⟨q, hq, rfl, rfl⟩ := hrel
            by_cases hql : (q : Int) < 8
            · have b2 := I32_lt (bitN q ((byteN j S l[k]).1 ^^^ low (byteN j S l[k]).2))
              go_wp2
              · rename_i ht
                go_round
                case rel => exact ⟨q + 1, by omega, by go_num, by rw [bit_odd _ ht]; rfl⟩
                case measure => simp [intOf]; omega
              · rename_i ht
                go_round
                case rel => exact ⟨q + 1, by omega, by go_num, by rw [half32, bit_even _ ht]; rfl⟩
                case measure => simp [intOf]; omega
            · obtain rfl : q = 8 := by omega
              go_wp2
              go_round
              case rel => exact ⟨j + 1, by omega, by go_num, rfl, rfl⟩
              case measure => simp [intOf]; omega
        · obtain rfl : j = 8 := by omega
          go_wp2
          go_round
          case rel => exact ⟨k + 1, by omega, by go_num, by rw [← hs.out, ← HS.out]; unfold next; rw [BitVec.not_not]⟩
          case measure => simp [intOf]; omega
    · obtain rfl : k = l.length := by omega
      go_wp2
      go_ret
      exact ⟨rfl, rfl⟩

theorem sum_at (l : List (BitVec 64)) (a : Option Addr) (n c : Nat) (w : World) (hn : l.length = n) (hr : Row w a (words l)) (hl : n < 4611686018427387904) :
    Calls Try.prog 38 #[.slice a n c] w fun e w' => e = .returned (.int .u32 (I32 (sum l))) ∧ w = w' := by
  subst hn
  exact sum_any l a c w hr hl
theorem ref_at (l : List (BitVec 64)) (a : Option Addr) (n c : Nat) (w : World) (hn : l.length = n) (hr : Row w a (words l)) (hl : n < 4611686018427387904) :
    Calls Try.prog 33 #[.slice a n c] w fun e w' => e = .returned (.int .u32 (I32 (sum l))) ∧ w = w' := by
  subst hn
  exact ref_any l a c w hr hl

end Go.Proofs.Ytoodkfjldflbeaa.Crc
