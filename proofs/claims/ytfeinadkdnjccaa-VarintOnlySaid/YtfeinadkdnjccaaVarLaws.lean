/- The walks of the laws of numbers in a few bytes: each returns true and writes nothing that was there, of every input. -/
import Derived.Test.YtfeinadkdnjccaaVarRef
import Derived.Test.YtfeinadkdnjccaaOpen
set_option linter.unusedVariables false
namespace Go.Proofs.Ytfeinadkdnjccaa.Var
open Go.RowKit

theorem size300 : size 300 = 2 := by unfold size; rw [put_big (by omega), put_small (by omega)]; rfl

set_option maxRecDepth 100000 in
set_option maxHeartbeats 400000 in
theorem awake_any (w : World) :
    Calls Try.prog 17 #[] w fun e w' => e = .returned (.bool true) ∧ Below w.heap.size w w' := by
  have hs := Lib.hid size300
  go_enter Try.func17, Try.ntmps17
  go_wp2_with fail
  refine (size_any 300 _ (by omega)).mono ?_
  rw [hs.out]
  rintro e w1 ⟨rfl, rfl⟩
  go_wp2_with fail
  refine (put_any [] 300 none 0 0 _ (Row.nil _ _) rfl (by omega) (fun _ => ⟨rfl, rfl⟩) (by omega)).mono ?_
  rintro e w1 ⟨v, rfl, hown, hb⟩
  obtain ⟨a, c, rfl, -⟩ := own_slice hown
  rw [show 0 + (put 300).length = 2 from by rw [Nat.zero_add]; exact hs.out]
  go_wp2_with fail
  go_ret
  exact ⟨rfl, hb⟩

theorem bytes_of {w : World} {a : Option Addr} {n c : Nat} {l : List Int} (h : rdSlice 1 (rdInt .u8) w [.slice a n c] l) :
    ∃ b : List Nat, b.length = n ∧ (∀ x ∈ b, x < 256) ∧ Row w a (byts b) ∧ n ≤ 9223372036854775807 ∧ (a = none → n = 0 ∧ c = 0) := by
  obtain ⟨h1, h2, h3, h4, h5⟩ := rdSlice_ints h
  unfold maxLen at h3
  have e : l.map (Value.int .u8) = byts (l.map Int.toNat) := by
    unfold byts
    rw [List.map_map]
    apply List.map_congr_left
    intro x hx
    have := u_bounds.2.2.1 (h5 x hx)
    show Value.int .u8 x = Value.int .u8 ((x.toNat : Nat) : Int)
    rw [Int.toNat_of_nonneg this.1]
  refine ⟨l.map Int.toNat, by simpa using h1, ?_, by rw [← e]; exact h4, by omega, rdSlice_nil h⟩
  · intro x hx
    obtain ⟨y, hy, rfl⟩ := List.mem_map.1 hx
    have := u_bounds.2.2.1 (h5 y hy)
    omega
set_option maxRecDepth 100000 in
set_option maxHeartbeats 400000 in
theorem puts_law (b : List Nat) (x : Nat) (a : Option Addr) (n c : Nat) (w : World) (hr : Row w a (byts b)) (hn : b.length = n) (hm : n ≤ 1000) (h0 : a = none → n = 0 ∧ c = 0) (hx : x < 18446744073709551616) :
    Calls Try.prog 7 #[.slice a n c, .int .u64 (x : Int)] w fun e w' => e = .returned (.bool true) ∧ Below w.heap.size w w' := by
  go_enter Try.func7, Try.ntmps7
  go_wp2_with fail
  refine (awake_any _).mono ?_
  rintro e w1 ⟨rfl, hb1⟩
  have hz1 := hb1.size
  go_wp2_with fail
  refine (put_any b x a n c _ (hr.below hb1) hn (by omega) h0 hx).mono ?_
  rintro e w2 ⟨v2, rfl, hown2, hb2⟩
  obtain ⟨a2, c2, rfl, hr2, -⟩ := own_slice hown2
  have hbw2 := hb1.trans (hb2.mono hz1)
  have hz2 := hbw2.size
  go_wp2_with fail
  refine (ref_put b x a n c _ (hr.below hbw2) hn (by omega) hx).mono ?_
  rintro e w3 ⟨v3, rfl, hown3, hb3⟩
  obtain ⟨a3, c3, rfl, hr3, -⟩ := own_slice hown3
  have hbw3 := hbw2.trans (hb3.mono hz2)
  have hz3 := hbw3.size
  have hl := put_len10 x hx
  go_wp2_with fail
  refine (ref_same _ _ _ _ _ _ _ (hr2.below hb3) hr3 (by simp; omega) (by omega)).mono ?_
  rintro e w4 ⟨rfl, hb4⟩
  have hbw4 := hbw3.trans (hb4.mono hz3)
  have hz4 := hbw4.size
  go_wp2_with fail
  refine (size_any x _ hx).mono ?_
  rintro e w5 ⟨rfl, rfl⟩
  go_wp2_with fail
  refine (ref_size x _ hx).mono ?_
  rintro e w5 ⟨rfl, hb5⟩
  go_wp2_with fail
  go_ret
  exact ⟨rfl, hbw4.trans (hb5.mono hz4)⟩


/-- Where a law's guard is not met it asks 'awake' alone. -/
theorem puts_odd (x : Int) (a : Option Addr) (n c : Nat) (w : World) (hm : ¬ n ≤ 1000) (hl : n ≤ 9223372036854775807) :
    Calls Try.prog 7 #[.slice a n c, .int .u64 x] w fun e w' => e = .returned (.bool true) ∧ Below w.heap.size w w' := by
  go_enter Try.func7, Try.ntmps7
  go_wp2_with fail
  refine (awake_any _).mono ?_
  rintro e w1 ⟨rfl, hb1⟩
  go_wp2_with fail
  refine (awake_any _).mono ?_
  rintro e w2 ⟨rfl, hb2⟩
  go_wp2_with fail
  go_ret
  exact ⟨rfl, hb1.trans (hb2.mono hb1.size)⟩

theorem nat_of {x : Int} (h : (Lit.int .u64 x).wf = true) : ∃ y : Nat, x = (y : Int) ∧ y < 18446744073709551616 := by
  have := u_bounds.2.2.2.1 h
  exact ⟨x.toNat, by omega, by omega⟩

theorem VarintPuts_walk {w : World} (a : Option Addr) (n c : Nat) (l : List Int) (h : rdSlice 1 (rdInt .u8) w [.slice a n c] l) (x : Int) (hx : (Lit.int .u64 x).wf = true) :
    Calls Try.prog 7 #[.slice a n c, .int .u64 x] w fun e w' => e = .returned (.bool true) ∧ Below w.heap.size w w' := by
  obtain ⟨b, hb, _, hr, hl, h0⟩ := bytes_of h
  obtain ⟨y, rfl, hy⟩ := nat_of hx
  by_cases hm : n ≤ 1000
  · exact puts_law b y a n c w hr hb hm h0 hy
  · exact puts_odd _ a n c w hm hl

theorem size_mono (x y : Nat) (h : x ≤ y) : size x ≤ size y := by
  induction x using Nat.strongRecOn generalizing y with
  | _ x ih =>
    unfold size at ih ⊢
    by_cases hx : x < 128
    · rw [put_small hx]; exact put_pos y
    · rw [put_big (x := x) (by omega), put_big (x := y) (by omega)]
      have := ih (x / 128) (by omega) (y / 128) (by omega)
      simpa using this
theorem size_le10 (x : Nat) (h : x < 18446744073709551616) : size x ≤ 10 := put_len10 x h
theorem size_pos (x : Nat) : 0 < size x := put_pos x
theorem size_step (x : Nat) (h : 128 ≤ x) : size x = size (x / 128) + 1 := by unfold size; rw [put_big h]; rfl

set_option maxRecDepth 100000 in
set_option maxHeartbeats 400000 in
theorem sizes_law (x y : Nat) (w : World) (hx : x < 18446744073709551616) (hy : y < 18446744073709551616) :
    Calls Try.prog 8 #[.int .u64 (x : Int), .int .u64 (y : Int)] w fun e w' => e = .returned (.bool true) ∧ Below w.heap.size w w' := by
  have h1 := size_le10 x hx
  have h2 := size_pos x
  have h3 := size_le10 y hy
  have h4 : x ≤ y → size x ≤ size y := size_mono x y
  by_cases hs : (x : Int) < 128
  · have h5 : ((size x : Int) == 1) = true := by rw [show size x = 1 from by unfold size; rw [put_small (by omega)]; rfl]; rfl
    by_cases hxy : (x : Int) ≤ y
    all_goals
      first | (have h6 : size x ≤ size y := h4 (by omega)) | skip
      clear h4
      go_enter Try.func8, Try.ntmps8
      go_wp2_with (first | (go_at_call 17; refine (awake_any _).mono ?_; rintro e w1 ⟨rfl, hb1⟩) | (go_at_call 21; first | (with_reducible refine (size_any x _ hx).mono ?_; rintro e w2 ⟨rfl, rfl⟩) | (with_reducible refine (size_any y _ hy).mono ?_; rintro e w2 ⟨rfl, rfl⟩)))
      go_ret
      exact ⟨rfl, hb1⟩
  · obtain ⟨z, hz, hz2⟩ : ∃ z : Nat, (x : Int) / 128 = (z : Int) ∧ x / 128 = z := ⟨x / 128, by omega, rfl⟩
    have h7 := size_step x (by omega)
    rw [hz2] at h7
    have h5 : ((size x : Int) == (size z : Int) + 1) = true := by rw [beq_iff_eq, h7]; omega
    have H7 := Lib.hid h7
    clear h7 hz2
    have hz3 : z < 18446744073709551616 := by omega
    have hz4 := size_le10 z hz3
    by_cases hxy : (x : Int) ≤ y
    all_goals
      first | (have h6 : size x ≤ size y := h4 (by omega)) | skip
      clear h4
      go_enter Try.func8, Try.ntmps8
      go_wp2_with (first | (go_at_call 17; refine (awake_any _).mono ?_; rintro e w1 ⟨rfl, hb1⟩) | (go_at_call 21; first | (with_reducible refine (size_any x _ hx).mono ?_; rintro e w2 ⟨rfl, rfl⟩) | (with_reducible refine (size_any y _ hy).mono ?_; rintro e w2 ⟨rfl, rfl⟩) | (with_reducible refine (size_any z _ hz3).mono ?_; rintro e w2 ⟨rfl, rfl⟩)))
      go_ret
      exact ⟨rfl, hb1⟩

theorem VarintSizes_walk {w : World} (x : Int) (hx : (Lit.int .u64 x).wf = true) (y : Int) (hy : (Lit.int .u64 y).wf = true) :
    Calls Try.prog 8 #[.int .u64 x, .int .u64 y] w fun e w' => e = .returned (.bool true) ∧ Below w.heap.size w w' := by
  obtain ⟨p, rfl, hp⟩ := nat_of hx
  obtain ⟨q, rfl, hq⟩ := nat_of hy
  exact sizes_law p q w hp hq

set_option maxRecDepth 100000 in
set_option maxHeartbeats 400000 in
theorem takes_law (b : List Nat) (hb : ∀ c ∈ b, c < 256) (at_ : Int) (a : Option Addr) (n c : Nat) (w : World) (hr : Row w a (byts b)) (hn : b.length = n) (hm : n ≤ 1000) :
    Calls Try.prog 9 #[.slice a n c, .int .i64 at_] w fun e w' => e = .returned (.bool true) ∧ Below w.heap.size w w' := by
  generalize ht : take b at_ = t
  have Ht := Lib.hid ht
  clear ht
  obtain ⟨t1, t2, t3⟩ := t
  go_enter Try.func9, Try.ntmps9
  go_wp2_with fail
  refine (awake_any _).mono ?_
  rintro e w1 ⟨rfl, hb1⟩
  go_wp2_with fail
  refine (take_any b hb at_ a n c _ (hr.below hb1) hn (by omega)).mono ?_
  rw [Ht.out]
  rintro e w2 ⟨rfl, rfl⟩
  go_wp2_with fail
  refine (ref_take b hb at_ a n c _ (hr.below hb1) hn (by omega)).mono ?_
  rw [Ht.out]
  rintro e w2 ⟨rfl, rfl⟩
  go_wp2_with fail
  go_ret
  exact ⟨by simp, hb1⟩

theorem takes_odd (x : Int) (a : Option Addr) (n c : Nat) (w : World) (hm : ¬ n ≤ 1000) (hl : n ≤ 9223372036854775807) :
    Calls Try.prog 9 #[.slice a n c, .int .i64 x] w fun e w' => e = .returned (.bool true) ∧ Below w.heap.size w w' := by
  go_enter Try.func9, Try.ntmps9
  go_wp2_with fail
  refine (awake_any _).mono ?_
  rintro e w1 ⟨rfl, hb1⟩
  go_wp2_with fail
  refine (awake_any _).mono ?_
  rintro e w2 ⟨rfl, hb2⟩
  go_wp2_with fail
  go_ret
  exact ⟨rfl, hb1.trans (hb2.mono hb1.size)⟩

theorem VarintTakes_walk {w : World} (a : Option Addr) (n c : Nat) (l : List Int) (h : rdSlice 1 (rdInt .u8) w [.slice a n c] l) (x : Int) (hx : (Lit.int .i64 x).wf = true) :
    Calls Try.prog 9 #[.slice a n c, .int .i64 x] w fun e w' => e = .returned (.bool true) ∧ Below w.heap.size w w' := by
  obtain ⟨b, hb, hb2, hr, hl, h0⟩ := bytes_of h
  by_cases hm : n ≤ 1000
  · exact takes_law b hb2 x a n c w hr hb hm
  · exact takes_odd _ a n c w hm hl

end Go.Proofs.Ytfeinadkdnjccaa.Var
