/- The walk of the law SealElse. -/
import Derived.Test.YtoodkfjldflbeaaSealGets
set_option linter.unusedVariables false
namespace Go.Proofs.Ytoodkfjldflbeaa.Crc
open Go.RowKit

set_option maxRecDepth 100000 in
theorem else_big (size d e : Int) (a : Option Addr) (n c : Nat) (w : World) (hn : n ≤ 9223372036854775807) (h : 1000 < n) :
    Calls Try.prog 11 #[.slice a n c, .int .i64 size, .agg #[.int .u32 d, .int .u32 e]] w fun e w' => e = .returned (.bool true) ∧ Below w.heap.size w w' := by
  go_enter Try.func11, Try.ntmps11
  go_wp2_with fail
  go_quiet (fail)
  have h0 := below_d ((Below.refl w.heap.size w).alloc (Nat.le_refl _) (.cells #[Value.int IntKind.u32 d, Value.int IntKind.u32 e] 67)) nq
  generalize (w.alloc (.cells #[Value.int IntKind.u32 d, Value.int IntKind.u32 e] 67)).drewN nq = W at *
  go_wp2_with fail
  refine (awake_any _).mono ?_
  rintro e1 w1 ⟨rfl, hb1⟩
  go_wp2_with fail
  refine (awake_any _).mono ?_
  rintro e2 w2 ⟨rfl, hb2⟩
  go_wp2_with fail
  go_ret
  have h1 := h0.trans (hb1.mono h0.size)
  exact ⟨rfl, h1.trans (hb2.mono h1.size)⟩

set_option maxRecDepth 100000 in
theorem else_no (size : Int) (d e : Nat) (a : Option Addr) (n c : Nat) (w : World) (hn : n ≤ 1000) (hd : d < 4294967296) (he : e < 4294967296) (h : ¬ PutFits size d n) :
    Calls Try.prog 11 #[.slice a n c, .int .i64 size, .agg #[.int .u32 (d : Int), .int .u32 (e : Int)]] w fun e w' => e = .returned (.bool true) ∧ Below w.heap.size w w' := by
  have hn2 : (n : Int) ≤ 1000 := by omega
  have H := Lib.hid h
  have hd2 : IntKind.i64.wrap (d : Int) = (d : Int) := by rw [IntKind.wrap_i64]; omega
  clear h hd he
  go_enter Try.func11, Try.ntmps11
  go_wp2_with fail
  go_quiet (fail)
  have h0 := below_d ((Below.refl w.heap.size w).alloc (Nat.le_refl _) (.cells #[Value.int IntKind.u32 (d : Int), Value.int IntKind.u32 (e : Int)] 67)) nq
  generalize (w.alloc (.cells #[Value.int IntKind.u32 (d : Int), Value.int IntKind.u32 (e : Int)] 67)).drewN nq = W at *
  go_wp2_with fail
  refine (awake_any _).mono ?_
  rintro e1 w1 ⟨rfl, hb1⟩
  go_wp2_with fail
  refine (put_no size d 1 a n c _ H.out (by omega)).mono ?_
  rintro e2 w2 ⟨rfl, rfl⟩
  go_wp2_with fail
  go_ret
  exact ⟨rfl, h0.trans (hb1.mono h0.size)⟩

set_option maxRecDepth 100000 in
set_option maxHeartbeats 400000 in
theorem else_yes (p : List (BitVec 64)) (size d e : Nat) (a : Option Addr) (n c : Nat) (w : World) (hpn : p.length = n) (hn : n ≤ 1000) (hr : Row w a (words p)) (h8 : 8 ≤ size) (h256 : size ≤ 256) (hp : n + 2 ≤ size) (hd : d < 4294967296) (he : e < 4294967296) :
    Calls Try.prog 11 #[.slice a n c, .int .i64 (size : Int), .agg #[.int .u32 (d : Int), .int .u32 (e : Int)]] w fun e w' => e = .returned (.bool true) ∧ Below w.heap.size w w' := by
  subst hpn
  have hn2 : (p.length : Int) ≤ 1000 := by omega
  have hd2 : IntKind.i64.wrap (d : Int) = (d : Int) := by rw [IntKind.wrap_i64]; omega
  have he2 : IntKind.i64.wrap (e : Int) = (e : Int) := by rw [IntKind.wrap_i64]; omega
  have HPUT := Lib.hid (fun w hr => put_ok p size d 1#64 a c w hr h8 h256 hp (by omega))
  rw [show I64 1#64 = 1 from rfl] at HPUT
  have HD := Lib.hid (show d < 9223372036854775808 by omega)
  have HE := Lib.hid (show e < 9223372036854775808 by omega)
  have hlen := bodyW_length (tag := 1#64) hp
  have HLEN := Lib.hid hlen
  clear hlen
  by_cases hde : d = e
  · subst hde
    clear hd he
    have hs : ((d : Int) == (d : Int)) = true := by simp
    go_enter Try.func11, Try.ntmps11
    go_wp2_with fail
    go_quiet (fail)
    have h0 := below_d ((Below.refl w.heap.size w).alloc (Nat.le_refl _) (.cells #[Value.int IntKind.u32 (d : Int), Value.int IntKind.u32 (d : Int)] 67)) nq
    generalize (w.alloc (.cells #[Value.int IntKind.u32 (d : Int), Value.int IntKind.u32 (d : Int)] 67)).drewN nq = W at *
    go_wp2_with fail
    refine (awake_any _).mono ?_
    rintro e1 w1 ⟨rfl, hb1⟩
    have h1 := h0.trans (hb1.mono h0.size)
    go_wp2_with fail
    refine (HPUT.out _ (hr.below h1)).mono ?_
    rintro e2 w2 ⟨rfl, hB2, hb2⟩
    have h2 := h1.trans (hb2.mono h1.size)
    have hr2 := Row.of_blk hB2
    go_wp2_with fail
    refine (get_yes p size d 1#64 _ size _ hr2 h8 h256 hp HD.out (Nat.le_refl _) (by unfold maxLen; omega)).mono ?_
    rintro e3 w3 ⟨a3, c3, rfl, hr3, hb3⟩
    have h3 := h2.trans (hb3.mono h2.size)
    clear hr3 hr2 hB2 hb2 hb1 hb3
    go_wp2_with fail
    go_ret
    exact ⟨rfl, h3⟩
  · have hs : ((d : Int) == (e : Int)) = false := by rw [beq_eq_false_iff_ne]; omega
    have hno : ¬ IsSealed (sealW p size 1#64 (BitVec.ofNat 64 d)) (BitVec.ofNat 64 e) := fun h => by
      have := sealed_else p size 1#64 _ _ hp (by omega) (by rw [BitVec.toNat_ofNat]; omega) (by rw [BitVec.toNat_ofNat]; omega) h
      have := congrArg BitVec.toNat this
      rw [BitVec.toNat_ofNat, BitVec.toNat_ofNat] at this
      omega
    have HNO := Lib.hid hno
    clear hde hno hd he
    go_enter Try.func11, Try.ntmps11
    go_wp2_with fail
    go_quiet (fail)
    have h0 := below_d ((Below.refl w.heap.size w).alloc (Nat.le_refl _) (.cells #[Value.int IntKind.u32 (d : Int), Value.int IntKind.u32 (e : Int)] 67)) nq
    generalize (w.alloc (.cells #[Value.int IntKind.u32 (d : Int), Value.int IntKind.u32 (e : Int)] 67)).drewN nq = W at *
    go_wp2_with fail
    refine (awake_any _).mono ?_
    rintro e1 w1 ⟨rfl, hb1⟩
    have h1 := h0.trans (hb1.mono h0.size)
    go_wp2_with fail
    refine (HPUT.out _ (hr.below h1)).mono ?_
    rintro e2 w2 ⟨rfl, hB2, hb2⟩
    have h2 := h1.trans (hb2.mono h1.size)
    have hr2 := Row.of_blk hB2
    go_wp2_with fail
    refine (get_fault (bodyW p size 1#64) _ size e _ size _ hr2 HLEN.out h8 h256 HE.out (Nat.le_refl _) (by unfold maxLen; omega) HNO.out).mono ?_
    rintro e3 w3 ⟨rfl, dd, rfl⟩
    have h3 := below_d h2 dd
    clear hr2 hB2 hb2 hb1
    go_wp2_with fail
    go_ret
    exact ⟨rfl, h3⟩

theorem SealElse_walk {w : World} (a : Option Addr) (n c : Nat) (m : List Int) (hm : rdSlice 1 (rdInt .u64) w [.slice a n c] m) (size : Int) (hz : (Lit.int .i64 size).wf = true) (cs : Array Value) (l : List Int) (h : rdArr 2 1 (rdInt .u32) w cs.toList l) :
    Calls Try.prog 11 #[.slice a n c, .int .i64 size, .agg cs] w fun e w' => e = .returned (.bool true) ∧ Below w.heap.size w w' := by
  obtain ⟨d, e, rfl, hd, he, -⟩ := rdArr2_ints h
  have bd := u_bounds.1 hd
  have be := u_bounds.1 he
  have hn : n ≤ 9223372036854775807 := by
    obtain ⟨_, h2, h3, _⟩ := rdSlice_ints hm
    unfold maxLen at h3
    omega
  obtain ⟨p, hp, hr⟩ := words_row hm
  by_cases hbig : n ≤ 1000
  · obtain ⟨d, rfl⟩ := Int.eq_ofNat_of_zero_le bd.1
    obtain ⟨e, rfl⟩ := Int.eq_ofNat_of_zero_le be.1
    by_cases hf : PutFits size d n
    · obtain ⟨f1, f2, f3, f4⟩ := hf
      obtain ⟨size, rfl⟩ := Int.eq_ofNat_of_zero_le (show 0 ≤ size by omega)
      exact else_yes p size d e a n c w hp hbig hr (by omega) (by omega) (by omega) (by omega) (by omega)
    · exact else_no size d e a n c w hbig (by omega) (by omega) hf
  · exact else_big size d e a n c w hn (by omega)

end Go.Proofs.Ytoodkfjldflbeaa.Crc
