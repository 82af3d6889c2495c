/- The walk of the law SealPuts. -/
import Derived.Test.YtoodkfjldflbeaaSealRef
set_option linter.unusedVariables false
namespace Go.Proofs.Ytoodkfjldflbeaa.Crc
open Go.RowKit

theorem awake_last : lastW (bodyW [] 8 5#64) 0#64 0#64 = 5528736187#64 := by decide +kernel

set_option maxRecDepth 100000 in
theorem awake_any (w : World) :
    Calls Try.prog 17 #[] w fun e w' => e = .returned (.bool true) ∧ Below w.heap.size w w' := by
  have HP := put_ok [] 8 0 5#64 none 0 w (Row.nil _ _) (by omega) (by omega) (by simp) (by omega)
  rw [show I64 5#64 = 5 from rfl] at HP
  have HP2 := Lib.hid HP
  clear HP
  go_enter Try.func17, Try.ntmps17
  go_wp2_with fail
  refine HP2.out.mono ?_
  rintro e w1 ⟨rfl, hB, hb⟩
  have c7 : w1.cell? ⟨w.heap.size, 7, none⟩ = some (.int .u64 5528736187) := by
    rw [hB.cell]
    show (words (sealW [] 8 5#64 0#64)).toArray[7]? = _
    unfold sealW
    rw [show ([] : List (BitVec 64)).length = 0 from rfl, awake_last]
    rfl
  have c6 : w1.cell? ⟨w.heap.size, 6, none⟩ = some (.int .u64 5) := by
    rw [hB.cell]
    show (words (sealW [] 8 5#64 0#64)).toArray[6]? = _
    unfold sealW
    rw [show ([] : List (BitVec 64)).length = 0 from rfl, awake_last]
    rfl
  clear hB
  go_wp2_with fail
  go_ret
  exact ⟨rfl, hb⟩

theorem u64_of {x : Int} (h : (Lit.int .u64 x).wf = true) : ∃ b : BitVec 64, x = I64 b := ⟨BitVec.ofInt 64 x, (I64_ofInt h).symm⟩

theorem below_d {B : Nat} {w w' : World} (h : Below B w w') (n : Nat) : Below B w (w'.drewN n) := h.trans ⟨rfl, rfl, rfl, Nat.le_refl _, fun _ _ => rfl⟩

set_option maxRecDepth 100000 in
theorem puts_big (d e : Int) (tag : Int) (a : Option Addr) (n c : Nat) (w : World) (hn : n ≤ 9223372036854775807) (h : 1000 < n) :
    Calls Try.prog 4 #[.agg #[.int .i64 d, .int .i64 e], .int .u64 tag, .slice a n c] w fun e w' => e = .returned (.bool true) ∧ Below w.heap.size w w' := by
  go_enter Try.func4, Try.ntmps4
  go_wp2_with fail
  go_quiet (fail)
  have h0 := below_d ((Below.refl w.heap.size w).alloc (Nat.le_refl _) (.cells #[Value.int IntKind.i64 d, Value.int IntKind.i64 e] 32)) nq
  generalize (w.alloc (.cells #[Value.int IntKind.i64 d, Value.int IntKind.i64 e] 32)).drewN nq = W at *
  go_wp2_with fail
  refine (awake_any _).mono ?_
  rintro e1 w1 ⟨rfl, hb1⟩
  go_wp2_with fail
  refine (awake_any _).mono ?_
  rintro e2 w2 ⟨rfl, hb2⟩
  go_wp2_with fail
  go_ret
  have h1 := h0.trans (hb1.mono h0.size)
  exact ⟨rfl, h1.trans (hb2.mono h1.size)⟩

set_option maxRecDepth 100000 in
theorem puts_no (d e : Int) (tag : Int) (a : Option Addr) (n c : Nat) (w : World) (hn : n ≤ 1000) (h : ¬ PutFits d e n) :
    Calls Try.prog 4 #[.agg #[.int .i64 d, .int .i64 e], .int .u64 tag, .slice a n c] w fun e w' => e = .returned (.bool true) ∧ Below w.heap.size w w' := by
  have hn2 : (n : Int) ≤ 1000 := by omega
  have H := Lib.hid h
  clear h
  go_enter Try.func4, Try.ntmps4
  go_wp2_with fail
  go_quiet (fail)
  have h0 := below_d ((Below.refl w.heap.size w).alloc (Nat.le_refl _) (.cells #[Value.int IntKind.i64 d, Value.int IntKind.i64 e] 32)) nq
  generalize (w.alloc (.cells #[Value.int IntKind.i64 d, Value.int IntKind.i64 e] 32)).drewN nq = W at *
  go_wp2_with fail
  refine (awake_any _).mono ?_
  rintro e1 w1 ⟨rfl, hb1⟩
  go_wp2_with fail
  refine (put_no d e tag a n c _ H.out (by omega)).mono ?_
  rintro e2 w2 ⟨rfl, rfl⟩
  go_wp2_with fail
  refine (refput_no d e tag a n c _ H.out (by omega)).mono ?_
  rintro e2 w2 ⟨rfl, rfl⟩
  go_wp2_with fail
  refine (same_any [] [] none none 0 0 _ (Row.nil _ _) (Row.nil _ _) (by simp) (by simp)).mono ?_
  rintro e2 w2 ⟨rfl, hq⟩
  rw [show sameW [] [] = true from rfl]
  go_wp2_with fail
  go_ret
  obtain ⟨dd, rfl⟩ := hq
  exact ⟨rfl, below_d (h0.trans (hb1.mono h0.size)) _⟩

set_option maxRecDepth 100000 in
theorem puts_yes (p : List (BitVec 64)) (size x : Nat) (tag : BitVec 64) (a : Option Addr) (n c : Nat) (w : World) (hpn : p.length = n) (hn : n ≤ 1000) (hr : Row w a (words p)) (h8 : 8 ≤ size) (h256 : size ≤ 256) (hp : n + 2 ≤ size) (hx : x < 9223372036854775808) :
    Calls Try.prog 4 #[.agg #[.int .i64 (size : Int), .int .i64 (x : Int)], .int .u64 (I64 tag), .slice a n c] w fun e w' => e = .returned (.bool true) ∧ Below w.heap.size w w' := by
  subst hpn
  have hn2 : (p.length : Int) ≤ 1000 := by omega
  have hsl := sealW_length (tag := tag) (x := BitVec.ofNat 64 x) hp
  go_enter Try.func4, Try.ntmps4
  go_wp2_with fail
  go_quiet (fail)
  have h0 := below_d ((Below.refl w.heap.size w).alloc (Nat.le_refl _) (.cells #[Value.int IntKind.i64 size, Value.int IntKind.i64 x] 32)) nq
  generalize (w.alloc (.cells #[Value.int IntKind.i64 size, Value.int IntKind.i64 x] 32)).drewN nq = W at *
  have HSL := Lib.hid hsl
  clear hsl
  go_wp2_with fail
  refine (awake_any _).mono ?_
  rintro e1 w1 ⟨rfl, hb1⟩
  have h1 := h0.trans (hb1.mono h0.size)
  go_wp2_with fail
  refine (put_ok p size x tag a c _ (hr.below h1) h8 h256 hp hx).mono ?_
  rintro e2 w2 ⟨rfl, hB2, hb2⟩
  have h2 := h1.trans (hb2.mono h1.size)
  go_wp2_with fail
  refine (refput_ok p size x tag a c _ (hr.below h2) h8 h256 hp hx).mono ?_
  rintro e3 w3 ⟨v3, rfl, own3, hb3⟩
  have h3 := h2.trans (hb3.mono h2.size)
  have hB3 := hB2.below hb3 hB2.lt
  obtain ⟨a3, c3, rfl, hr3, -⟩ := own_slice own3
  have hr2 := Row.of_blk hB3
  clear own3 hB2 hB3 hb3 hb2
  generalize sealW p size tag (BitVec.ofNat 64 x) = L at *
  have HS := same_any L L (some ⟨w1.heap.size, 0, none⟩) a3 size c3 w3 hr2 hr3 (by have := HSL.out; omega) (by have := HSL.out; omega)
  rw [HSL.out, show sameW L L = true from by simp [sameW]] at HS
  have HS2 := Lib.hid HS
  clear HS
  go_wp2_with fail
  refine HS2.out.mono ?_
  rintro e4 w4 ⟨rfl, dd, rfl⟩
  go_wp2_with fail
  go_ret
  exact ⟨rfl, below_d h3 _⟩

theorem SealPuts_walk {w : World} (cs : Array Value) (l : List Int) (h : rdArr 2 1 (rdInt .i64) w cs.toList l) (tag : Int) (ht : (Lit.int .u64 tag).wf = true) (a : Option Addr) (n c : Nat) (m : List Int) (hm : rdSlice 1 (rdInt .u64) w [.slice a n c] m) :
    Calls Try.prog 4 #[.agg cs, .int .u64 tag, .slice a n c] w fun e w' => e = .returned (.bool true) ∧ Below w.heap.size w w' := by
  obtain ⟨d, e, rfl, hd, he, -⟩ := rdArr2_ints h
  have bd := u_bounds.2.2.2.2 hd
  have be := u_bounds.2.2.2.2 he
  have hn : n ≤ 9223372036854775807 := by
    obtain ⟨_, h2, h3, _⟩ := rdSlice_ints hm
    unfold maxLen at h3
    omega
  obtain ⟨p, hp, hr⟩ := words_row hm
  obtain ⟨tg, rfl⟩ := u64_of ht
  by_cases hbig : n ≤ 1000
  · by_cases hf : PutFits d e n
    · obtain ⟨f1, f2, f3, f4⟩ := hf
      obtain ⟨d, rfl⟩ := Int.eq_ofNat_of_zero_le (show 0 ≤ d by omega)
      obtain ⟨e, rfl⟩ := Int.eq_ofNat_of_zero_le f3
      exact puts_yes p d e tg a n c w hp hbig hr (by omega) (by omega) (by omega) (by omega)
    · exact puts_no d e _ a n c w hbig hf
  · exact puts_big d e _ a n c w hn (by omega)

end Go.Proofs.Ytoodkfjldflbeaa.Crc
