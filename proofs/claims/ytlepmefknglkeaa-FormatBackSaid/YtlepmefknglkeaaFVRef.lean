/- The walks of the reference of chapter 1: Put, Size, Take, Same. -/
import Derived.Test.YtlepmefknglkeaaFVTake
namespace Go.Proofs.Ytlepmefknglkeaa.Var
open Go.RowKit

set_option maxRecDepth 100000 in
set_option maxHeartbeats 400000 in
theorem ref_put (bs : List Nat) (x : Nat) (a : Option Addr) (n c : Nat) (w : World) (hr : Row w a (byts bs)) (hn : bs.length = n) (hm : n ≤ 1000000000000) (hx : x < 18446744073709551616) :
    Calls Try.prog 47 #[.slice a n c, .int .u64 (x : Int)] w (RetOwn w.heap.size 5 1 (n + (put x).length) (byts (bs ++ put x)) w) := by
  have hl := put_len10 x hx
  go_enter Try.func47, Try.ntmps47
  go_wp2_with (at_builtin; go_must (refine wpList_append rfl (.tmp 6) (.tmp 7) _ rfl el_u8 w.heap.size _ 0 [] rfl (World.ownsRow_nil _ _ _ _) a n c (byts bs) rfl (by rw [byts_length]; omega) hr (byts_one _) (by unfold maxLen; omega) (by omega) (Nat.le_refl _) ?_))
  intro v w1 hown _ _ hb
  go_wp2_with fail
  go_loopw [1, 5] (fun xv v wr => PutRel w.heap.size bs x v xv wr w) (fun xv _ _ => (intOf xv).toNat)
  case atStart => exact ⟨x, [], rfl, Nat.le_refl _, rfl, by subst hn; simpa using hown, hb⟩
  case round =>
    obtain ⟨y, acc, rfl, hy, hp, hown, hb⟩ := hrel
    have hz := hb.size
    have hle : acc.length + (put y).length = (put x).length := by rw [← hp, List.length_append]
    have hpy := put_pos y
    by_cases h : (127 : Int) < y
    · go_wp2_with (at_builtin; go_must (refine wpList_append rfl (.tmp 11) (.tmp 16) _ rfl el_u8 w.heap.size _ _ _ rfl (hown.alloc _) _ 1 1 [.int .u8 ((y : Int) % 128 + 128)] rfl rfl (Row.new wr _ _ _) (by intro u hu; simp at hu; subst hu; rfl) (by unfold maxLen; omega) (by omega) (by simp; omega) ?_))
      intro v2 w2 hown2 _ _ hb2
      go_wp2_with fail
      go_roundw
      case rel =>
        refine ⟨y / 128, acc ++ [y % 128 + 128], by go_num, by omega, by rw [List.append_assoc, ← hp, put_big (x := y) (by omega)]; rfl, ?_, (hb.trans (((Below.refl w.heap.size wr).alloc hz _).trans hb2))⟩
        rw [← List.append_assoc, List.length_append]
        exact own_snoc hown2 (by omega) (by simp; omega)
      case measure => simp [intOf]; omega
    · go_wp2_with (at_builtin; go_must (refine wpList_append rfl (.tmp 20) (.tmp 23) _ rfl el_u8 w.heap.size _ _ _ rfl (hown.alloc _) _ 1 1 [.int .u8 (y : Int)] rfl rfl (Row.new wr _ _ _) (by intro u hu; simp at hu; subst hu; rfl) (by unfold maxLen; omega) (by omega) (by simp; omega) ?_))
      intro v2 w2 hown2 _ _ hb2
      go_wp2_with fail
      go_ret
      refine ⟨v2, rfl, ?_, (hb.trans (((Below.refl w.heap.size wr).alloc hz _).trans hb2))⟩
      have hps : put y = [y] := put_small (by omega)
      rw [← hp, hps, ← List.append_assoc, List.length_append]
      exact own_snoc hown2 rfl (by simp; omega)

def RefRel (b : List Nat) (p : Nat) (xv bv iv : Value) : Prop :=
  ∃ i x P : Nat, iv = .int .i64 ((p + i : Nat) : Int) ∧ xv = .int .u64 (x : Int) ∧ bv = .int .u64 (P : Int) ∧ P = 128 ^ i ∧ i ≤ 9 ∧ p + i ≤ b.length ∧ x < 128 ^ i ∧ tk (b.drop p) 0 0 = tk (b.drop (p + i)) i x

theorem pow_le8 (i : Nat) (h : i ≤ 8) : 128 ^ i ≤ 72057594037927936 := Nat.pow_le_pow_right (by omega) h

set_option maxRecDepth 100000 in
set_option maxHeartbeats 400000 in
theorem ref_take_in (b : List Nat) (hb : ∀ c ∈ b, c < 256) (p : Nat) (a : Option Addr) (n c : Nat) (w : World) (hr : Row w a (byts b)) (hn : b.length = n) (hm : n < 4611686018427387904) (hp : p ≤ n) :
    Calls Try.prog 57 #[.slice a n c, .int .i64 (p : Int)] w fun e w' =>
      e = .returned (.tuple #[.int .u64 ((tk (b.drop p) 0 0).1 : Int), .int .i64 ((p + (tk (b.drop p) 0 0).2.1 : Nat) : Int), .int .i64 ((tk (b.drop p) 0 0).2.2 : Int)]) ∧ w = w' := by
  have hp0 : decide ((p : Int) < 0) = false := by simp
  go_enter Try.func57, Try.ntmps57
  go_wp2_with fail
  go_loop [7, 8, 9] (fun xv bv iv => RefRel b p xv bv iv) (fun _ _ i => n - (intOf i).toNat)
  case atStart => exact ⟨0, 0, 1, by simp, rfl, rfl, rfl, by omega, by omega, by omega, rfl⟩
  case round =>
    obtain ⟨i, x, P, rfl, rfl, rfl, hP, hi, hpi, hx, ht⟩ := hrel
    by_cases hlt : p + i < n
    · obtain ⟨bl, off, rfl, hc, -⟩ := hr.at_ (i := p + i) (by rw [byts_length]; omega)
      have hlt' : p + i < b.length := by omega
      have hd : b.drop (p + i) = b[p + i] :: b.drop (p + i + 1) := List.drop_eq_getElem_cons hlt'
      have hcb : b[p + i] < 256 := hb _ (List.getElem_mem hlt')
      have hc' : w.cell? ⟨bl, off + (p + i), none⟩ = some (.int .u8 (b[p + i] : Int)) := by rw [hc]; simp [byts]
      rw [hd] at ht
      clear hc hr hd hb
      generalize b[p + i] = ch at *
      rw [tk] at ht
      have hsub : IntKind.i64.wrap ((p : Int) + i - p) = (i : Int) := by rw [IntKind.wrap_i64]; omega
      by_cases hE : i = 9 ∧ ch ≠ 1 ∨ 0 < i ∧ ch = 0
      · rw [if_pos hE] at ht
        have Ht := Lib.hid ht
        have HP := Lib.hid hP
        clear ht hP
        go_wp2
        all_goals (go_ret3; exact ⟨ret3 (by rw [Ht.out]; try (first | rfl | (simp; done) | (simp; omega))) (by rw [Ht.out]; try (first | rfl | (simp; done) | (simp; omega))) (by rw [Ht.out]; try (first | rfl | (simp; done) | (simp; omega))), rfl⟩)
      · rw [if_neg hE] at ht
        by_cases hi9 : i = 9
        · subst hi9
          obtain rfl : ch = 1 := by omega
          rw [if_pos (by omega)] at ht
          obtain rfl : P = 9223372036854775808 := by rw [hP]
          have Ht := Lib.hid ht
          clear ht hP
          go_wp2
          go_ret3
          refine ⟨ret3 ?_ (by rw [Ht.out]; try rfl) (by rw [Ht.out]; try rfl), rfl⟩
          rw [Ht.out]
          simp
        · obtain ⟨q, hq⟩ : ∃ q, ch % 128 = q := ⟨_, rfl⟩
          have hq2 : q < 128 := by omega
          have hqi : (ch : Int) % 128 = (q : Int) := by omega
          rw [hq] at ht
          clear hq
          have hP8 := pow_le8 i (by omega)
          obtain ⟨s, hs⟩ : ∃ s, x + q * 128 ^ i = s := ⟨_, rfl⟩
          obtain ⟨-, hs2⟩ := or_digit x q i s (by omega) hx hq2 hs
          rw [hs] at ht
          have h128 : 128 ^ (i + 1) = 128 * 128 ^ i := by rw [Nat.pow_succ, Nat.mul_comm]
          rw [h128] at hs2
          rw [← hP] at hs2 hs hP8 hx h128
          obtain ⟨m, hm⟩ : ∃ m, q * P = m := ⟨_, rfl⟩
          rw [hm] at hs
          have hmi : (q : Int) * (P : Int) = (m : Int) := by rw [← hm]; push_cast; rfl
          have hsi : (x : Int) + (m : Int) = (s : Int) := by omega
          have hm2 : m < 18446744073709551616 := by omega
          have hs3 : s < 18446744073709551616 := by omega
          have HP := Lib.hid hP
          have H128 := Lib.hid h128
          have Hs := Lib.hid hs
          have Hm := Lib.hid hm
          clear hP hs hm h128
          have hne : ((i : Int) == 9) = false := by rw [beq_eq_false_iff_ne]; omega
          by_cases h8 : (ch : Int) < 128
          · rw [if_pos (by omega)] at ht
            have Ht := Lib.hid ht
            clear ht
            go_wp2
            all_goals (go_ret3; exact ⟨ret3 (by rw [Ht.out]; try (first | rfl | (simp; done) | (simp; omega))) (by rw [Ht.out]; try (first | rfl | (simp; done) | (simp; omega))) (by rw [Ht.out]; try (first | rfl | (simp; done) | (simp; omega))), rfl⟩)
          · rw [if_neg (by omega)] at ht
            have Ht := Lib.hid ht
            clear ht
            go_wp2
            all_goals
              go_round
              case rel => refine ⟨_, _, _, _, _, _, ?_, rfl, rfl, rfl, rfl, rfl, rfl⟩; exact ⟨i + 1, s, 128 * P, by go_num, rfl, by go_num, by rw [H128.out], by omega, by omega, by rw [H128.out]; exact hs2, Ht.out⟩
              case measure => simp [intOf]; omega
    · have he : b.drop (p + i) = [] := List.drop_eq_nil_of_le (by omega)
      rw [he] at ht
      have Ht := Lib.hid ht
      have HP := Lib.hid hP
      clear ht hP
      go_wp2_with fail
      go_ret3
      exact ⟨ret3 (by rw [Ht.out]; rfl) (by rw [Ht.out]; simp [tk]; omega) (by rw [Ht.out]; rfl), rfl⟩

theorem ref_take (b : List Nat) (hb : ∀ c ∈ b, c < 256) (at_ : Int) (a : Option Addr) (n c : Nat) (w : World) (hr : Row w a (byts b)) (hn : b.length = n) (hm : n < 4611686018427387904) :
    Calls Try.prog 57 #[.slice a n c, .int .i64 at_] w fun e w' =>
      e = .returned (.tuple #[.int .u64 (take b at_).1, .int .i64 (take b at_).2.1, .int .i64 (take b at_).2.2]) ∧ w = w' := by
  by_cases h : at_ < 0 ∨ (n : Int) < at_
  · unfold take
    rw [if_pos (by rw [hn]; exact h)]
    rcases h with h | h
    · go_enter Try.func57, Try.ntmps57
      go_wp2_with fail
      go_ret3
      exact ⟨rfl, rfl⟩
    · have h' : ¬ at_ < 0 := by omega
      go_enter Try.func57, Try.ntmps57
      go_wp2_with fail
      go_ret3
      exact ⟨rfl, rfl⟩
  · obtain ⟨p, rfl⟩ := Int.eq_ofNat_of_zero_le (show 0 ≤ at_ by omega)
    unfold take
    rw [if_neg (by rw [hn]; exact h), Int.toNat_natCast]
    refine (ref_take_in b hb p a n c w hr hn hm (by omega)).mono fun e w' ⟨he, hw⟩ => ⟨?_, hw⟩
    rw [he]
    exact ret3 rfl (by simp) rfl

set_option maxRecDepth 100000 in
set_option maxHeartbeats 400000 in
/-- Two lists of bytes that are the same are told so. -/
theorem ref_same (b : List Nat) (a a' : Option Addr) (n c c' : Nat) (w : World) (hr : Row w a (byts b)) (hr' : Row w a' (byts b)) (hn : b.length = n) (hm : n < 4611686018427387904) :
    Calls Try.prog 33 #[.slice a n c, .slice a' n c'] w fun e w' => e = .returned (.bool true) ∧ Below w.heap.size w w' := by
  have hne : ((n : Int) != n) = false := by simp
  go_enter Try.func33, Try.ntmps33
  go_wp2_with fail
  go_loopw [5] (fun iv wr => ∃ k : Nat, iv = .int .i64 (k : Int) ∧ k ≤ n ∧ Below w.heap.size w wr) (fun iv _ => n - (intOf iv).toNat)
  case atStart => exact ⟨0, rfl, by omega, Below.refl _ _⟩
  case round =>
    obtain ⟨k, rfl, hk, hb⟩ := hrel
    by_cases hlt : (k : Int) < n
    · obtain ⟨b1, o1, rfl, hc1, -⟩ := (hr.below hb).at_ (i := k) (by rw [byts_length]; omega)
      obtain ⟨b2, o2, rfl, hc2, -⟩ := (hr'.below hb).at_ (i := k) (by rw [byts_length]; omega)
      have hd1 : wr.cell? ⟨b1, o1 + k, none⟩ = some (.int .u8 (b[k] : Int)) := by rw [hc1]; simp [byts]
      have hd2 : wr.cell? ⟨b2, o2 + k, none⟩ = some (.int .u8 (b[k] : Int)) := by rw [hc2]; simp [byts]
      have hne : ((b[k] : Int) != b[k]) = false := by simp
      have hk0 : (0 : Int) ≤ (k : Int) := by omega
      clear hc1 hc2
      go_wp2_with fail
      go_quiet (fail)
      go_wp2_with fail
      go_roundw
      case rel => exact ⟨k + 1, by go_num, by omega, below_drewN hb _⟩
      case measure => simp [intOf]; omega
    · go_wp2_with fail
      go_ret
      exact ⟨rfl, hb⟩

end Go.Proofs.Ytlepmefknglkeaa.Var
