/- The walks of the laws SealGets and SealZeros. -/
import Derived.Test.YtoodkfjldflbeaaSealPlain
set_option linter.unusedVariables false
namespace Go.Proofs.Ytoodkfjldflbeaa.Crc
open Go.RowKit

set_option maxRecDepth 100000 in
theorem gets_big (x : Int) (a : Option Addr) (n c : Nat) (w : World) (hn : n ≤ 9223372036854775807) (h : 1000 < n) :
    Calls Try.prog 8 #[.slice a n c, .int .i64 x] w fun e w' => e = .returned (.bool true) ∧ Below w.heap.size w w' := by
  go_enter Try.func8, Try.ntmps8
  go_wp2_with fail
  refine (awake_any _).mono ?_
  rintro e1 w1 ⟨rfl, hb1⟩
  go_wp2_with fail
  refine (awake_any _).mono ?_
  rintro e2 w2 ⟨rfl, hb2⟩
  go_wp2_with fail
  go_ret
  exact ⟨rfl, hb1.trans (hb2.mono hb1.size)⟩

set_option maxRecDepth 100000 in
theorem gets_arg (x : Int) (a : Option Addr) (n c : Nat) (w : World) (hn : n ≤ 1000) (h : ¬ (8 ≤ n ∧ n ≤ 256 ∧ 0 ≤ x)) :
    Calls Try.prog 8 #[.slice a n c, .int .i64 x] w fun e w' => e = .returned (.bool true) ∧ Below w.heap.size w w' := by
  have hn2 : (n : Int) ≤ 1000 := by omega
  have H := Lib.hid h
  clear h
  go_enter Try.func8, Try.ntmps8
  go_wp2_with fail
  refine (awake_any _).mono ?_
  rintro e1 w1 ⟨rfl, hb1⟩
  go_wp2_with fail
  refine (get_arg n x a c _ H.out (by omega)).mono ?_
  rintro e2 w2 ⟨rfl, rfl⟩
  go_wp2_with fail
  refine (refget_arg n x a c _ H.out (by omega)).mono ?_
  rintro e2 w2 ⟨rfl, rfl⟩
  go_wp2_with fail
  refine (same_any [] [] none none 0 0 _ (Row.nil _ _) (Row.nil _ _) (by simp) (by simp)).mono ?_
  rintro e2 w2 ⟨rfl, hq⟩
  rw [show sameW [] [] = true from rfl]
  go_wp2_with fail
  go_ret
  obtain ⟨dd, rfl⟩ := hq
  exact ⟨rfl, below_d hb1 _⟩

set_option maxRecDepth 100000 in
theorem gets_yes (p : List (BitVec 64)) (tag : BitVec 64) (x : Nat) (a : Option Addr) (n c : Nat) (w : World) (hr : Row w a (words (sealW p n tag (BitVec.ofNat 64 x)))) (h8 : 8 ≤ n) (h256 : n ≤ 256) (hp : p.length + 2 ≤ n) (hx : x < 9223372036854775808) (hc : n ≤ c) (hc2 : c ≤ maxLen) :
    Calls Try.prog 8 #[.slice a n c, .int .i64 (x : Int)] w fun e w' => e = .returned (.bool true) ∧ Below w.heap.size w w' := by
  have hn2 : (n : Int) ≤ 1000 := by omega
  have hs : (I64 tag == I64 tag) = true := by simp
  have HCM := Lib.hid hc2
  clear hc2
  go_enter Try.func8, Try.ntmps8
  go_wp2_with fail
  refine (awake_any _).mono ?_
  rintro e1 w1 ⟨rfl, hb1⟩
  go_wp2_with fail
  refine (get_yes p n x tag a c _ (hr.below hb1) h8 h256 hp hx hc HCM.out).mono ?_
  rintro e2 w2 ⟨a2, c2, rfl, hr2, hb2⟩
  have h2 := hb1.trans (hb2.mono hb1.size)
  go_wp2_with fail
  refine (refget_yes p n x tag a c _ (hr.below h2) h8 h256 hp hx hc HCM.out).mono ?_
  rintro e3 w3 ⟨a3, c3, rfl, hr3, hb3⟩
  have h3 := h2.trans (hb3.mono h2.size)
  have HS := same_any p p a2 a3 c2 c3 w3 (hr2.below hb3) hr3 (by omega) (by omega)
  rw [show sameW p p = true from by simp [sameW]] at HS
  have HS2 := Lib.hid HS
  clear HS hr2 hr3 hb1 hb2 hb3
  go_wp2_with fail
  refine HS2.out.mono ?_
  rintro e4 w4 ⟨rfl, dd, rfl⟩
  go_wp2_with fail
  go_ret
  exact ⟨rfl, below_d h3 _⟩

set_option maxRecDepth 100000 in
theorem gets_no (B : List (BitVec 64)) (z : BitVec 64) (x : Nat) (a : Option Addr) (n c : Nat) (w : World) (hr : Row w a (words (B ++ [z]))) (hB : B.length + 1 = n) (h8 : 8 ≤ n) (h256 : n ≤ 256) (hx : x < 9223372036854775808) (hc : n ≤ c) (hc2 : c ≤ maxLen)
    (hno : ¬ IsSealed (B ++ [z]) (BitVec.ofNat 64 x)) :
    Calls Try.prog 8 #[.slice a n c, .int .i64 (x : Int)] w fun e w' => e = .returned (.bool true) ∧ Below w.heap.size w w' := by
  have hn2 : (n : Int) ≤ 1000 := by omega
  have HCM := Lib.hid hc2
  have HB := Lib.hid hB
  have HNO := Lib.hid hno
  clear hc2 hB hno
  go_enter Try.func8, Try.ntmps8
  go_wp2_with fail
  refine (awake_any _).mono ?_
  rintro e1 w1 ⟨rfl, hb1⟩
  go_wp2_with fail
  refine (get_fault B z n x a c _ (hr.below hb1) HB.out h8 h256 hx hc HCM.out HNO.out).mono ?_
  rintro e2 w2 ⟨rfl, dd, rfl⟩
  have h2 := below_d hb1 dd
  go_wp2_with fail
  refine (refget_fault (B ++ [z]) n x a c _ (hr.below h2) (by have := HB.out; simp; omega) h8 h256 hx hc HCM.out HNO.out).mono ?_
  rintro e3 w3 ⟨rfl, hb3⟩
  have h3 := h2.trans (hb3.mono h2.size)
  go_wp2_with fail
  refine (same_any [] [] none none 0 0 _ (Row.nil _ _) (Row.nil _ _) (by simp) (by simp)).mono ?_
  rintro e2 w2 ⟨rfl, hq⟩
  rw [show sameW [] [] = true from rfl]
  go_wp2_with fail
  go_ret
  obtain ⟨dd, rfl⟩ := hq
  exact ⟨rfl, below_d h3 _⟩

theorem snoc_of (l : List (BitVec 64)) (n : Nat) (h : l.length = n + 1) : ∃ B z, l = B ++ [z] ∧ B.length = n := by
  have h0 : l ≠ [] := by intro e; subst e; simp at h
  exact ⟨l.dropLast, l.getLast h0, (List.dropLast_concat_getLast h0).symm, by simp; omega⟩

theorem SealGets_walk {w : World} (a : Option Addr) (n c : Nat) (m : List Int) (hm : rdSlice 1 (rdInt .u64) w [.slice a n c] m) (x : Int) (hx : (Lit.int .i64 x).wf = true) :
    Calls Try.prog 8 #[.slice a n c, .int .i64 x] w fun e w' => e = .returned (.bool true) ∧ Below w.heap.size w w' := by
  have bx := u_bounds.2.2.2.2 hx
  obtain ⟨_, hnc, hcm, _⟩ := rdSlice_ints hm
  have hcm2 := hcm
  unfold maxLen at hcm2
  obtain ⟨l, hl, hr⟩ := words_row hm
  by_cases hbig : n ≤ 1000
  · by_cases hf : 8 ≤ n ∧ n ≤ 256 ∧ 0 ≤ x
    · obtain ⟨h8, h256, h0⟩ := hf
      obtain ⟨x, rfl⟩ := Int.eq_ofNat_of_zero_le h0
      by_cases hs : IsSealed l (BitVec.ofNat 64 x)
      · obtain ⟨p, tag, hp, he⟩ := hs
        rw [hl] at hp he
        rw [he] at hr
        exact gets_yes p tag x a n c w hr h8 h256 hp (by omega) hnc hcm
      · obtain ⟨B, z, rfl, hB⟩ := snoc_of l (n - 1) (by omega)
        exact gets_no B z x a n c w hr (by omega) h8 h256 (by omega) hnc hcm hs
    · exact gets_arg x a n c w hbig hf
  · exact gets_big x a n c w (by omega) (by omega)

theorem zero_words (n : Nat) : (same n (.int .u64 0)).toList = words (List.replicate n 0#64) := by
  rw [same_list]
  simp [words]
  exact .inr rfl

set_option maxRecDepth 100000 in
theorem zeros_arg (s : Int) (n : Nat) (x : Int) (w : World) (hs : 0 ≤ s ∧ s < 65536) (hsn : s % 300 = (n : Int)) (h : ¬ (8 ≤ n ∧ n ≤ 256 ∧ 0 ≤ x)) :
    Calls Try.prog 10 #[.int .u16 s, .int .i64 x] w fun e w' => e = .returned (.bool true) ∧ Below w.heap.size w w' := by
  have hn : n < 300 := by omega
  have hmk := fun W => run_make_of (P := Try.prog) (t := 34) (e := 33) (bytes := 8) (z := .int .u64 0) Try.underlying34 (by kernel_rfl) rfl .i64 .i64 n (by omega) (by omega) W
  have H := Lib.hid h
  by_cases h8 : (n : Int) < 8
  all_goals (by_cases h256 : (256 : Int) < n)
  all_goals (by_cases h0 : x < 0)
  all_goals first | (exfalso; omega) | skip
  all_goals
    clear h
    go_enter Try.func10, Try.ntmps10
    go_wp2_with fail
    refine (get_arg n x _ n _ H.out (by omega)).mono ?_
    rintro e2 w2 ⟨rfl, rfl⟩
    have h1 := (Below.refl w.heap.size w).alloc (Nat.le_refl _) (.cells (same n (.int .u64 0)) 33)
    generalize w.alloc (.cells (same n (.int .u64 0)) 33) = W at *
    go_wp2_with fail
    refine (awake_any _).mono ?_
    rintro e1 w1 ⟨rfl, hb1⟩
    go_wp2_with fail
    go_ret
    exact ⟨rfl, h1.trans (hb1.mono h1.size)⟩

set_option maxRecDepth 100000 in
theorem zeros_right (s : Int) (n : Nat) (x : Nat) (w : World) (hs : 0 ≤ s ∧ s < 65536) (hsn : s % 300 = (n : Int)) (h8 : 8 ≤ n) (h256 : n ≤ 256) (hx : x < 9223372036854775808) :
    Calls Try.prog 10 #[.int .u16 s, .int .i64 (x : Int)] w fun e w' => e = .returned (.bool true) ∧ Below w.heap.size w w' := by
  have hmk := fun W => run_make_of (P := Try.prog) (t := 34) (e := 33) (bytes := 8) (z := .int .u64 0) Try.underlying34 (by kernel_rfl) rfl .i64 .i64 n (by omega) (by omega) W
  have e8 : decide ((n : Int) < 8) = false := by simp; omega
  have e256 : decide (256 < (n : Int)) = false := by simp; omega
  have e0 : decide ((x : Int) < 0) = false := by simp
  obtain ⟨m, hm⟩ : ∃ m, n = m + 1 := ⟨n - 1, by omega⟩
  have hno := zeros_none m (by omega) (BitVec.ofNat 64 x)
  have HNO := Lib.hid hno
  have hrw : Row (w.alloc (.cells (same n (.int .u64 0)) 33)) (some ⟨w.heap.size, 0, none⟩) (words (List.replicate m 0#64 ++ [0#64])) := by
    have := Row.new w (same n (.int .u64 0)) 33 (0, 0)
    rw [zero_words, hm, List.replicate_succ'] at this
    rw [hm]
    exact this
  rw [List.replicate_succ'] at HNO
  have HM := Lib.hid hm
  clear hm hno
  go_enter Try.func10, Try.ntmps10
  go_wp2_with fail
  refine (get_fault (List.replicate m 0#64) 0#64 n x _ n _ hrw (by have := HM.out; simp; omega) h8 h256 hx (Nat.le_refl _) (by unfold maxLen; omega) HNO.out).mono ?_
  rintro e2 w2 ⟨rfl, dd, rfl⟩
  have h1 := below_d ((Below.refl w.heap.size w).alloc (Nat.le_refl _) (.cells (same n (.int .u64 0)) 33)) dd
  clear hrw
  generalize (w.alloc (.cells (same n (.int .u64 0)) 33)).drewN dd = W at *
  go_wp2_with fail
  refine (awake_any _).mono ?_
  rintro e1 w1 ⟨rfl, hb1⟩
  go_wp2_with fail
  go_ret
  exact ⟨rfl, h1.trans (hb1.mono h1.size)⟩

theorem SealZeros_walk {w : World} (s : Int) (hs : (Lit.int .u16 s).wf = true) (x : Int) (hx : (Lit.int .i64 x).wf = true) :
    Calls Try.prog 10 #[.int .u16 s, .int .i64 x] w fun e w' => e = .returned (.bool true) ∧ Below w.heap.size w w' := by
  have bs := u_bounds.2.1 hs
  have bx := u_bounds.2.2.2.2 hx
  obtain ⟨n, hn⟩ : ∃ n : Nat, s % 300 = (n : Int) := ⟨(s % 300).toNat, by omega⟩
  by_cases hf : 8 ≤ n ∧ n ≤ 256 ∧ 0 ≤ x
  · obtain ⟨h8, h256, h0⟩ := hf
    obtain ⟨x, rfl⟩ := Int.eq_ofNat_of_zero_le h0
    exact zeros_right s n x w bs hn h8 h256 (by omega)
  · exact zeros_arg s n x w bs hn hf

end Go.Proofs.Ytoodkfjldflbeaa.Crc
