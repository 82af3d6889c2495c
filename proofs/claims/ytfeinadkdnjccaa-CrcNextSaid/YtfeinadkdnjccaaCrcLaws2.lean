/- The walk of the law CrcTells: it returns true and writes nothing that was there, of every input. -/
import Derived.Test.YtfeinadkdnjccaaCrcLaws
namespace Go.Proofs.Ytfeinadkdnjccaa.Crc
open Go.RowKit

theorem bits64 (op : BitVec 64 → BitVec 64 → BitVec 64) (a b : Int) (s t : BitVec 64) (ha : a = I64 s) (hb : b = I64 t) :
    IntKind.u64.wrap (op (BitVec.ofInt 64 a) (BitVec.ofInt 64 b)).toNat = I64 (op s t) := by
  subst ha; subst hb
  have := (op s t).isLt
  rw [IntKind.wrap_u64]
  unfold I64
  rw [BitVec.ofInt_natCast, BitVec.ofInt_natCast, BitVec.ofNat_toNat, BitVec.ofNat_toNat, BitVec.setWidth_eq, BitVec.setWidth_eq]
  omega
@[go_sem] theorem xor64 (s t : BitVec 64) : bits BinOp.xor IntKind.u64 (I64 s) (I64 t) = I64 (s ^^^ t) :=
  bits64 (· ^^^ ·) _ _ s t rfl rfl
theorem I64_spread (d : BitVec 32) : I64 (spread d false) = I32 d ∧ I64 (spread d true) = I32 d * 4294967296 := by
  unfold I32 I64 spread
  have := d.isLt
  rw [if_neg (by decide), if_pos rfl, BitVec.toNat_shiftLeft, BitVec.toNat_setWidth, Nat.shiftLeft_eq]
  omega
@[go_sem] theorem wrap_spread (d : BitVec 32) : IntKind.u64.wrap (I32 d) = I64 (spread d false) := by
  rw [(I64_spread d).1, IntKind.wrap_u64]
  have := I32_lt d
  omega
@[go_sem] theorem shl_spread (d : BitVec 32) : IntKind.u64.wrap (I64 (spread d false) * 4294967296) = I64 (spread d true) := by
  rw [(I64_spread d).1, (I64_spread d).2, IntKind.wrap_u64]
  have := I32_lt d
  omega
@[go_sem] theorem shl_spread' (d : BitVec 32) : I64 (spread d false) * 4294967296 % 18446744073709551616 = I64 (spread d true) := by
  rw [← shl_spread, IntKind.wrap_u64]

theorem words_set (m : List (BitVec 64)) (k : Nat) (x : BitVec 64) : words (m.set k x) = (words m).set k (.int .u64 (I64 x)) := by
  unfold words
  rw [List.map_set]
theorem I32_inj {a b : BitVec 32} : I32 a = I32 b ↔ a = b := by
  unfold I32
  rw [Int.ofNat_inj, BitVec.toNat_inj]
theorem same_iff {a b d : BitVec 32} (h : a = b ↔ d = 0#32) : ((I32 a == I32 b) == (I32 d == 0)) = true := by
  have h0 : (0 : Int) = I32 0#32 := rfl
  rw [h0, beq_iff_eq, Bool.eq_iff_iff, beq_iff_eq, beq_iff_eq, I32_inj, I32_inj]
  exact h

set_option maxRecDepth 100000 in
set_option maxHeartbeats 400000 in
theorem tells_law (m : List (BitVec 64)) (d : BitVec 32) (e at_ : Int) (he : 0 ≤ e ∧ e < 4294967296) (hat : 0 ≤ at_ ∧ at_ < 65536) (a : Option Addr) (n c : Nat) (w : World) (hn : m.length = n) (hr : Row w a (words m))
    (h1 : n ≤ 1000) (h2 : 0 < n) (hgh : Bool) (hg : (e % 2 == 1) = hgh) :
    Calls Try.prog 5 #[.slice a n c, .int .u16 at_, .agg #[.int .u32 (I32 d), .int .u32 e]] w fun e w' => e = .returned (.bool true) ∧ Below w.heap.size w w' := by
  have h3 : ((n : Int) == 0) = false := by simp; omega
  obtain ⟨k, hk, hkn⟩ : ∃ k : Nat, at_ % (n : Int) = (k : Int) ∧ k < n := ⟨(at_ % n).toNat, by have := Int.emod_nonneg at_ (show (n : Int) ≠ 0 by omega); omega, by have := Int.emod_lt_of_pos at_ (show (0 : Int) < n by omega); have := Int.emod_nonneg at_ (show (n : Int) ≠ 0 by omega); omega⟩
  have ht := fun high => tells m k (by omega) d high
  have Ht := Lib.hid ht
  clear ht
  cases hgh
  all_goals
    go_enter Try.func5, Try.ntmps5
    go_wp2_with fail
    go_quiet (fail)
    go_wp2_with fail
    refine (awake_any _).mono ?_
    rintro e1 w1 ⟨rfl, hb⟩
    have hb1 : Below w.heap.size w w1 := ((Below.refl w.heap.size w).alloc (Nat.le_refl _) _).trans ((below_drewN (Below.refl _ _) _).trans (hb.mono (by simp)))
    have hz := hb1.size
    clear hb
    go_wp2_with (at_builtin; go_must (refine wpList_append rfl (.tmp 31) (.tmp 32) _ rfl el_u64 w.heap.size (.slice none 0 0) 0 [] rfl (World.ownsRow_nil _ _ _ _) a n c (words m) rfl (by rw [words_length]; omega) (hr.below hb1) (words_one m) (by unfold maxLen; omega) (by omega) hz ?_))
    intro v2 w2 hown2 _ _ hb2
    obtain ⟨g, cap, rfl, -, -⟩ := World.ownsRow.form hown2 h2
    have hc2 : w2.cell? ⟨g, k, none⟩ = some (.int .u64 (I64 m[k])) := by
      rw [hown2.cellAt k (by omega)]
      exact words_get m k (by omega)
    have hf2 := hown2.frozenAt k
    have hgb : w.heap.size ≤ g := (hown2.lt g rfl).1
    have hb4 : ∀ u, Below w.heap.size w (w2.setCell ⟨g, k, none⟩ u) := fun u => (hb1.trans hb2).setCell hgb u
    have hsum : ∀ hi, Calls Try.prog 14 #[.slice (some ⟨g, 0, none⟩) n cap] (w2.setCell ⟨g, k, none⟩ (.int .u64 (I64 (m[k] ^^^ spread d hi)))) fun e w' =>
        e = .returned (.int .u32 (I32 (sum (m.set k (m[k] ^^^ spread d hi))))) ∧ w2.setCell ⟨g, k, none⟩ (.int .u64 (I64 (m[k] ^^^ spread d hi))) = w' := by
      intro hi
      refine sum_at _ _ _ _ _ (by simpa using hn) ?_ (by omega)
      rw [words_set]
      exact (Row.of_own (hown2.stored k _).1).1
    have Hsum := Lib.hid hsum
    clear hsum
    go_wp2_with fail
    first | (with_reducible refine (Hsum.out false).mono ?_) | (with_reducible refine (Hsum.out true).mono ?_)
    rintro e4 w4 ⟨rfl, rfl⟩
    go_wp2_with fail
    refine (sum_at m _ _ _ _ hn (hr.below (hb4 _)) (by omega)).mono ?_
    rintro e4 w4 ⟨rfl, rfl⟩
    go_wp2_with fail
    go_ret
    refine ⟨congrArg (fun b => Ending.returned (.bool b)) ?_, hb4 _⟩
    first | (with_reducible exact same_iff (Ht.out false)) | (with_reducible exact same_iff (Ht.out true))

set_option maxRecDepth 100000 in
set_option maxHeartbeats 400000 in
theorem tells_odd (d e at_ : Int) (he : 0 ≤ e ∧ e < 4294967296) (a : Option Addr) (n c : Nat) (w : World) (hn : n ≤ 9223372036854775807) (h1 : ¬ (n ≤ 1000 ∧ 0 < n)) :
    Calls Try.prog 5 #[.slice a n c, .int .u16 at_, .agg #[.int .u32 d, .int .u32 e]] w fun e w' => e = .returned (.bool true) ∧ Below w.heap.size w w' := by
  rcases Nat.eq_zero_or_pos n with h0 | h0
  all_goals
    have h3 : ((n : Int) == 0) = decide (n = 0) := by rw [Bool.eq_iff_iff, beq_iff_eq, decide_eq_true_iff]; omega
    first | (have h4 : decide (n = 0) = true := by simpa using h0) | (have h4 : decide (n = 0) = false := by simp; omega)
    rw [h4] at h3
    clear h4
    go_enter Try.func5, Try.ntmps5
    go_wp2_with fail
    go_quiet (fail)
    go_wp2_with fail
    refine (awake_any _).mono ?_
    rintro e1 w1 ⟨rfl, hb⟩
    have hb1 : Below w.heap.size w w1 := ((Below.refl w.heap.size w).alloc (Nat.le_refl _) _).trans ((below_drewN (Below.refl _ _) _).trans (hb.mono (by simp)))
    clear hb
    go_wp2_with fail
    refine (awake_any _).mono ?_
    rintro e2 w2 ⟨rfl, hb2⟩
    go_wp2_with fail
    go_ret
    exact ⟨rfl, hb1.trans (hb2.mono hb1.size)⟩

end Go.Proofs.Ytfeinadkdnjccaa.Crc
