/- The walk of seal.Get where the block is refused. -/
import Derived.Test.YtoodkfjldflbeaaSealGet2
set_option linter.unusedVariables false
namespace Go.Proofs.Ytoodkfjldflbeaa.Crc
open Go.RowKit

set_option maxRecDepth 100000 in
theorem get_arg (size : Nat) (address : Int) (a : Option Addr) (c : Nat) (w : World) (h : ¬ (8 ≤ size ∧ size ≤ 256 ∧ 0 ≤ address)) (hs : size ≤ 9223372036854775807) :
    Calls Try.prog 29 #[.slice a size c, .int .i64 address] w fun e w' => e = .returned (.tuple #[.slice none 0 0, .int .u64 0, .int .i64 1]) ∧ w = w' := by
  have hR := right_any size address w
  rw [show decide (8 ≤ (size : Int) ∧ (size : Int) ≤ 256 ∧ 0 ≤ address) = false from by simp; omega] at hR
  have HR := Lib.hid hR
  clear hR h
  go_enter Try.func29, Try.ntmps29
  go_wp2_with fail
  refine HR.out.mono ?_
  rintro e w1 ⟨rfl, rfl⟩
  go_wp2_with fail
  go_ret3
  exact ⟨rfl, rfl⟩

def Refused (w : World) (e : Ending) (w' : World) : Prop := e = .returned (.tuple #[.slice none 0 0, .int .u64 0, .int .i64 6]) ∧ Quiet w w'

/-- The block is sealed at this address. -/
def IsSealed (l : List (BitVec 64)) (X : BitVec 64) : Prop := ∃ p tag, p.length + 2 ≤ l.length ∧ l = sealW p l.length tag X

theorem top_lt (z : BitVec 64) : 0 ≤ I64 z / 4294967296 ∧ I64 z / 4294967296 < 4294967296 := by
  have := I64_lt z
  omega

theorem parts (B : List (BitVec 64)) (n size : Nat) (hB : B.length + 1 = size) (hn : n + 2 ≤ size) : ∃ tag, B = B.take n ++ (B.drop n).take (size - 2 - n) ++ [tag] := by
  have h0 : size - 2 < B.length := by omega
  refine ⟨B[size - 2], ?_⟩
  have h1 : B = B.take (size - 2) ++ B.drop (size - 2) := (List.take_append_drop _ _).symm
  have h2 : B.drop (size - 2) = [B[size - 2]] := by
    rw [List.drop_eq_getElem_cons h0, List.drop_eq_nil_of_le (by omega)]
  have h3 : B.take (size - 2) = B.take n ++ (B.drop n).take (size - 2 - n) := by
    rw [← List.take_add, show n + (size - 2 - n) = size - 2 from by omega]
  rw [h2, h3] at h1
  exact h1

theorem zeroW_eq (l : List (BitVec 64)) (h : zeroW l = true) : l = List.replicate l.length 0#64 := by
  apply List.eq_replicate_iff.2
  refine ⟨rfl, fun b hb => ?_⟩
  unfold zeroW at h
  rw [List.all_eq_true] at h
  simpa using h b hb

theorem is_sealed (B : List (BitVec 64)) (z X : BitVec 64) (n size : Nat) (hB : B.length + 1 = size) (hn : n + 2 ≤ size) (hz : z = lastW B (BitVec.ofNat 64 n) X) (h0 : zeroW ((B.drop n).take (size - 2 - n)) = true) : IsSealed (B ++ [z]) X := by
  obtain ⟨tag, ht⟩ := parts B n size hB hn
  have hl : (B ++ [z]).length = size := by simp; omega
  have hp : (B.take n).length = n := by simp; omega
  have hm : ((B.drop n).take (size - 2 - n)).length = size - 2 - n := by simp; omega
  have hb : B = bodyW (B.take n) size tag := by
    unfold bodyW
    have := zeroW_eq _ h0
    rw [hm] at this
    rw [hp, ← this]
    exact ht
  refine ⟨B.take n, tag, by rw [hl, hp]; omega, ?_⟩
  rw [hl]
  unfold sealW
  rw [hp, ← hb, ← hz]

set_option maxRecDepth 100000 in
set_option maxHeartbeats 800000 in
theorem get_fault (B : List (BitVec 64)) (z : BitVec 64) (size x : Nat) (a : Option Addr) (c : Nat) (w : World) (hr : Row w a (words (B ++ [z]))) (hB : B.length + 1 = size) (h8 : 8 ≤ size) (h256 : size ≤ 256) (hx : x < 9223372036854775808) (hc : size ≤ c) (hc2 : c ≤ maxLen)
    (hno : ¬ IsSealed (B ++ [z]) (BitVec.ofNat 64 x)) :
    Calls Try.prog 29 #[.slice a size c, .int .i64 (x : Int)] w (Refused w) := by
  unfold maxLen at hc2
  obtain ⟨b, o, rfl, c1⟩ := words_at hr (k := size - 1) (by simp; omega)
  have g1 : (B ++ [z])[size - 1]'(by simp; omega) = z := by
    rw [List.getElem_append_right (by omega)]
    simp
  rw [g1] at c1
  have hR := right_any size x w
  rw [show decide (8 ≤ (size : Int) ∧ (size : Int) ≤ 256 ∧ 0 ≤ (x : Int)) = true from by simp; omega] at hR
  have HR := Lib.hid hR
  have hvb := I64_lt z
  have ht := top_lt z
  have HB := Lib.hid hB
  clear hR g1
  by_cases hA : I64 z / 4294967296 - 1 < 0
  · have hq : I64 z / 4294967296 = 0 := by omega
    clear hno hr hB hA ht
    generalize I64 z = V at *
    go_enter Try.func29, Try.ntmps29
    go_wp2_with fail
    refine HR.out.mono ?_
    rintro e w1 ⟨rfl, rfl⟩
    go_wp2_with fail
    go_quiet (fail)
    go_wp2_with fail
    go_ret3
    exact ⟨rfl, (Quiet.refl w).drewN _⟩
  obtain ⟨n, hn⟩ : ∃ n : Nat, I64 z / 4294967296 = (n : Int) + 1 := ⟨(I64 z / 4294967296 - 1).toNat, by omega⟩
  by_cases hA2 : size < n + 2
  · have hg1 : decide ((size : Int) - 2 < (n : Int)) = true := by simp; omega
    have hg2 : decide ((n : Int) < 0) = false := by simp
    have hnb : (n : Int) < 4294967296 := by omega
    clear hno hr hB hA ht
    generalize I64 z = V at *
    go_enter Try.func29, Try.ntmps29
    go_wp2_with fail
    refine HR.out.mono ?_
    rintro e w1 ⟨rfl, rfl⟩
    go_wp2_with fail
    go_quiet (fail)
    go_wp2_with fail
    go_ret3
    exact ⟨rfl, (Quiet.refl w).drewN _⟩
  have hg1 : decide ((size : Int) - 2 < (n : Int)) = false := by simp; omega
  have hg2 : decide ((n : Int) < 0) = false := by simp
  have hnb : (n : Int) < 4294967296 := by omega
  have HL := Lib.hid (fun d => last_at B z size n x (some ⟨b, o, none⟩) c (w.drewN d) hr hB hc (by omega) (by omega) hx)
  by_cases hzl : z = lastW B (BitVec.ofNat 64 n) (BitVec.ofNat 64 x)
  · have h0 : zeroW ((B.drop n).take (size - 2 - n)) = false := by
      cases h : zeroW ((B.drop n).take (size - 2 - n))
      · rfl
      · exact absurd (is_sealed B z _ n size hB (by omega) hzl h) hno
    have hrz : Row w (some ⟨b, o + n, none⟩) (words ((B.drop n).take (size - 2 - n))) := by
      have h1 := (hr.drop n).take (size - 2 - n)
      have h2 : ((words (B ++ [z])).drop n).take (size - 2 - n) = words ((B.drop n).take (size - 2 - n)) := by
        unfold words
        rw [← List.map_drop, ← List.map_take, List.drop_append_of_le_length (by omega), List.take_append_of_le_length (by simp; omega)]
      rw [h2] at h1
      exact h1
    have HC := Lib.hid (fun d => contains_any _ (some ⟨b, o + n, none⟩) (size - 2 - n) (c - n) (w.drewN d) hrz (by simp; omega) (by omega))
    rw [h0] at HC
    rw [← hzl] at HL
    have hvv : (I64 z != I64 z) = false := by simp
    have b1 : (n : Int) ≤ c := by omega
    have b2 : (size : Int) - 2 ≤ c := by omega
    have b3 : (0 : Int) ≤ (size : Int) - 2 := by omega
    have b4 : (n : Int) ≤ (size : Int) - 2 := by omega
    clear hno hr hB hA ht h0 hrz hzl
    generalize I64 z = V at *
    go_enter Try.func29, Try.ntmps29
    go_wp2_with fail
    refine HR.out.mono ?_
    rintro e w1 ⟨rfl, rfl⟩
    go_wp2_with fail
    go_quiet ((first | (go_at_call 32; exact Calls.quiet_of_same' (HL.out _)) | (go_at_call 34; exact Calls.quiet_of_same' (HC.out _))))
    go_wp2_with fail
    go_ret3
    exact ⟨rfl, (Quiet.refl w).drewN _⟩
  · have hvv : (I64 z != I64 (lastW B (BitVec.ofNat 64 n) (BitVec.ofNat 64 x))) = true := by rw [bne_iff_ne]; exact fun h => hzl (I64_inj h)
    clear hno hr hB hA ht hzl
    generalize I64 (lastW B (BitVec.ofNat 64 n) (BitVec.ofNat 64 x)) = U at *
    generalize I64 z = V at *
    go_enter Try.func29, Try.ntmps29
    go_wp2_with fail
    refine HR.out.mono ?_
    rintro e w1 ⟨rfl, rfl⟩
    go_wp2_with fail
    go_quiet ((go_at_call 32; exact Calls.quiet_of_same' (HL.out _)))
    go_wp2_with fail
    go_ret3
    exact ⟨rfl, (Quiet.refl w).drewN _⟩

end Go.Proofs.Ytoodkfjldflbeaa.Crc
