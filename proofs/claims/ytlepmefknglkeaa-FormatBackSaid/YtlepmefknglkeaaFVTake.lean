/- The walk of varint.Take: it answers what the plain text says, of every slice of bytes shorter than 2^62 and every place. -/
import Derived.Test.YtlepmefknglkeaaVarPut
namespace Go.Proofs.Ytlepmefknglkeaa.Var
open Go.RowKit

theorem and127 (ch : Nat) (h : ch < 256) (q : Nat) (hq : ch % 128 = q) : IntKind.u64.wrap (bits BinOp.and IntKind.u8 (ch : Int) 127) = (q : Int) := by
  have key : ∀ n : Fin 256, IntKind.u64.wrap (bits BinOp.and IntKind.u8 (n.1 : Int) 127) = ((n.1 % 128 : Nat) : Int) := by decide +kernel
  rw [key ⟨ch, h⟩, ← hq]

theorem ret3 {k1 k2 k3 : IntKind} {a a' b b' c c' : Int} (h1 : a = a') (h2 : b = b') (h3 : c = c') :
    Ending.returned (.tuple #[.int k1 a, .int k2 b, .int k3 c]) = Ending.returned (.tuple #[.int k1 a', .int k2 b', .int k3 c']) := by rw [h1, h2, h3]

theorem or_digit (x q i s : Nat) (hi : i ≤ 8) (hx : x < 128 ^ i) (hq : q < 128) (hs : x + q * 128 ^ i = s) :
    bits BinOp.or IntKind.u64 (x : Int) (IntKind.u64.wrap ((q : Int) * 2 ^ (7 * i))) = (s : Int) ∧ s < 128 ^ (i + 1) := by
  have e : (2 : Nat) ^ (7 * i) = 128 ^ i := by rw [Nat.pow_mul]
  have hle : 128 ^ i ≤ 128 ^ 8 := Nat.pow_le_pow_right (by omega) hi
  have hmul : q * 128 ^ i ≤ 127 * 128 ^ i := Nat.mul_le_mul_right _ (by omega)
  have e2 : ((q : Int) * 2 ^ (7 * i)) = ((q * 128 ^ i : Nat) : Int) := by rw [← e]; push_cast; rfl
  have h9 : 128 ^ (i + 1) = 128 * 128 ^ i := by rw [Nat.pow_succ, Nat.mul_comm]
  have h8 : (128 : Nat) ^ 8 = 72057594037927936 := by decide
  rw [e2, IntKind.wrap_u64]
  have e3 : ((q * 128 ^ i : Nat) : Int) % 18446744073709551616 = ((q * 128 ^ i : Nat) : Int) := by omega
  rw [e3, u64_or_nat _ _ (by omega) (by omega), Nat.or_comm, nat_join (7 * i) (q * 128 ^ i) x (by rw [e]; exact Nat.mul_mod_left _ _) (by rw [e]; exact hx)]
  refine ⟨by rw [← hs]; congr 1; omega, by omega⟩

theorem or_top (x : Nat) (h : x < 128 ^ 9) : bits BinOp.or IntKind.u64 (x : Int) (IntKind.u64.wrap (IntKind.u64.wrap (bits BinOp.and IntKind.u8 1 127) * 9223372036854775808)) = ((x + 1 % 128 * 128 ^ 9 : Nat) : Int) := by
  have e : IntKind.u64.wrap (IntKind.u64.wrap (bits BinOp.and IntKind.u8 1 127) * 9223372036854775808) = ((2 ^ 63 : Nat) : Int) := by decide +kernel
  rw [e, u64_or_nat _ _ (by omega) (by omega), Nat.or_comm, nat_join 63 (2 ^ 63) x (by decide) (by omega)]
  congr 1
  omega

def TakeRel (b : List Nat) (p : Nat) (xv iv : Value) : Prop :=
  ∃ i x : Nat, iv = .int .i64 (i : Int) ∧ xv = .int .u64 (x : Int) ∧ i ≤ 9 ∧ p + i ≤ b.length ∧ x < 128 ^ i ∧ tk (b.drop p) 0 0 = tk (b.drop (p + i)) i x

set_option maxRecDepth 100000 in
set_option maxHeartbeats 400000 in
theorem take_in (b : List Nat) (hb : ∀ c ∈ b, c < 256) (p : Nat) (a : Option Addr) (n c : Nat) (w : World) (hr : Row w a (byts b)) (hn : b.length = n) (hm : n < 4611686018427387904) (hp : p ≤ n) :
    Calls Try.prog 56 #[.slice a n c, .int .i64 (p : Int)] w fun e w' =>
      e = .returned (.tuple #[.int .u64 ((tk (b.drop p) 0 0).1 : Int), .int .i64 ((p + (tk (b.drop p) 0 0).2.1 : Nat) : Int), .int .i64 ((tk (b.drop p) 0 0).2.2 : Int)]) ∧ w = w' := by
  have hp0 : decide ((p : Int) < 0) = false := by simp
  go_enter Try.func56, Try.ntmps56
  go_wp2_with fail
  go_loop [7, 8] (fun xv iv => TakeRel b p xv iv) (fun _ i => n - (intOf i).toNat)
  case atStart => exact ⟨0, 0, rfl, rfl, by omega, by omega, by omega, rfl⟩
  case round =>
    obtain ⟨i, x, rfl, rfl, hi, hpi, hx, ht⟩ := hrel
    by_cases hlt : (p : Int) + i < n
    · obtain ⟨bl, off, rfl, hc, -⟩ := hr.at_ (i := p + i) (by rw [byts_length]; omega)
      have hlt' : p + i < b.length := by omega
      have hd : b.drop (p + i) = b[p + i] :: b.drop (p + i + 1) := List.drop_eq_getElem_cons hlt'
      have hcb : b[p + i] < 256 := hb _ (List.getElem_mem hlt')
      have hc' : w.cell? ⟨bl, off + (p + i), none⟩ = some (.int .u8 (b[p + i] : Int)) := by rw [hc]; simp [byts]
      rw [hd] at ht
      clear hc hr hd hb
      generalize b[p + i] = ch at *
      rw [tk] at ht
      by_cases hE : i = 9 ∧ ch ≠ 1 ∨ 0 < i ∧ ch = 0
      · rw [if_pos hE] at ht
        have Ht := Lib.hid ht
        clear ht
        go_wp2
        all_goals (go_ret3; exact ⟨ret3 (by rw [Ht.out]; try (first | rfl | (simp; omega))) (by rw [Ht.out]; try (first | rfl | (simp; omega))) (by rw [Ht.out]; try (first | rfl | (simp; omega))), rfl⟩)
      · rw [if_neg hE] at ht
        by_cases hi9 : i = 9
        · subst hi9
          obtain rfl : ch = 1 := by omega
          rw [if_pos (by omega)] at ht
          have Ht := Lib.hid ht
          clear ht
          go_wp2
          go_ret3
          refine ⟨ret3 ?_ (by rw [Ht.out]; try (first | rfl | (simp; omega))) (by rw [Ht.out]; try (first | rfl | (simp; omega))), rfl⟩
          rw [Ht.out]
          exact or_top x hx
        · obtain ⟨q, hq⟩ : ∃ q, ch % 128 = q := ⟨_, rfl⟩
          have hwr : IntKind.u64.wrap (bits BinOp.and IntKind.u8 (ch : Int) 127) = (q : Int) := and127 ch hcb q hq
          rw [hq] at ht
          have hq' := Lib.hid hq
          have hq2 : q < 128 := by omega
          clear hq
          obtain ⟨s, hs⟩ : ∃ s, x + q * 128 ^ i = s := ⟨_, rfl⟩
          obtain ⟨hor, hs2⟩ := or_digit x q i s (by omega) hx hq2 hs
          rw [hs] at ht
          have hs' := Lib.hid hs
          clear hs
          have hne : ((i : Int) == 9) = false := by rw [beq_eq_false_iff_ne]; omega
          by_cases h8 : (ch : Int) < 128
          · rw [if_pos (by omega)] at ht
            have Ht := Lib.hid ht
            clear ht
            go_wp2
            all_goals (go_ret3; exact ⟨ret3 (by rw [Ht.out]; try (first | rfl | (simp; omega))) (by rw [Ht.out]; try (first | rfl | (simp; omega))) (by rw [Ht.out]; try (first | rfl | (simp; omega))), rfl⟩)
          · rw [if_neg (by omega)] at ht
            have Ht := Lib.hid ht
            clear ht
            go_wp2
            all_goals
              go_round
              case rel => refine ⟨_, _, _, _, _, ?_, rfl, rfl, rfl, rfl, rfl⟩; exact ⟨i + 1, s, by go_num, rfl, by omega, by omega, hs2, Ht.out⟩
              case measure => simp [intOf]; omega
    · have he : b.drop (p + i) = [] := List.drop_eq_nil_of_le (by omega)
      rw [he] at ht
      have Ht := Lib.hid ht
      clear ht
      go_wp2_with fail
      go_ret3
      exact ⟨ret3 (by rw [Ht.out]; rfl) (by rw [Ht.out]; simp [tk]; omega) (by rw [Ht.out]; rfl), rfl⟩

set_option maxRecDepth 100000 in
set_option maxHeartbeats 400000 in
theorem take_out (at_ : Int) (a : Option Addr) (n c : Nat) (w : World) (hm : n < 4611686018427387904) (hp : at_ < 0 ∨ (n : Int) < at_) :
    Calls Try.prog 56 #[.slice a n c, .int .i64 at_] w fun e w' => e = .returned (.tuple #[.int .u64 0, .int .i64 0, .int .i64 1]) ∧ w = w' := by
  rcases Int.lt_or_le at_ 0 with h | h
  all_goals
    go_enter Try.func56, Try.ntmps56
    go_wp2_with fail
    go_ret3
    exact ⟨rfl, rfl⟩

theorem take_any (b : List Nat) (hb : ∀ c ∈ b, c < 256) (at_ : Int) (a : Option Addr) (n c : Nat) (w : World) (hr : Row w a (byts b)) (hn : b.length = n) (hm : n < 4611686018427387904) :
    Calls Try.prog 56 #[.slice a n c, .int .i64 at_] w fun e w' =>
      e = .returned (.tuple #[.int .u64 (take b at_).1, .int .i64 (take b at_).2.1, .int .i64 (take b at_).2.2]) ∧ w = w' := by
  by_cases h : at_ < 0 ∨ (n : Int) < at_
  · unfold take
    rw [if_pos (by rw [hn]; exact h)]
    exact take_out at_ a n c w hm h
  · obtain ⟨p, rfl⟩ := Int.eq_ofNat_of_zero_le (show 0 ≤ at_ by omega)
    unfold take
    rw [if_neg (by rw [hn]; exact h), Int.toNat_natCast]
    refine (take_in b hb p a n c w hr hn hm (by omega)).mono fun e w' ⟨he, hw⟩ => ⟨?_, hw⟩
    rw [he]
    exact ret3 rfl (by simp) rfl

end Go.Proofs.Ytlepmefknglkeaa.Var
