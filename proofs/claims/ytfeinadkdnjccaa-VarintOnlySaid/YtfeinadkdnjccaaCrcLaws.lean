/- The walks of the laws of the sums: each returns true and writes nothing that was there, of every input. -/
import Derived.Test.YtfeinadkdnjccaaCrcSum
import Derived.Test.YtfeinadkdnjccaaCrcTell
import Derived.Test.YtfeinadkdnjccaaOpen
import Derived.Deep.QuietTactic
import Derived.BigQuiet
import Derived.StillTailTactics
namespace Go.Proofs.Ytfeinadkdnjccaa.Crc
open Go.RowKit

theorem awake_sum : sum [4050765991979987505#64] = 2598427311#32 := by decide +kernel

set_option maxRecDepth 100000 in
set_option maxHeartbeats 400000 in
theorem awake_any (w : World) :
    Calls Try.prog 13 #[] w fun e w' => e = .returned (.bool true) ∧ Below w.heap.size w w' := by
  go_enter Try.func13, Try.ntmps13
  go_wp2_with fail
  refine (sum_at [4050765991979987505#64] _ _ _ _ rfl ?_ (by decide)).mono ?_
  · exact Row.new w #[.int .u64 4050765991979987505] _ _
  rw [awake_sum]
  rintro e w' ⟨rfl, rfl⟩
  go_wp2
  go_ret
  exact ⟨rfl, (Below.refl _ _).alloc (Nat.le_refl _) _⟩

theorem I64_ofInt {x : Int} (h : (Lit.int .u64 x).wf = true) : I64 (BitVec.ofInt 64 x) = x := by
  simp only [Lit.wf, Bool.and_eq_true, IntKind.min, IntKind.max, IntKind.signed, IntKind.bits] at h
  unfold I64
  rw [BitVec.toNat_ofInt]
  simp at h
  omega

theorem words_of {l : List Int} (h : ∀ x ∈ l, (Lit.int .u64 x).wf = true) : words (l.map (BitVec.ofInt 64)) = l.map (Value.int .u64) := by
  unfold words
  rw [List.map_map]
  apply List.map_congr_left
  intro x hx
  show Value.int .u64 (I64 (BitVec.ofInt 64 x)) = _
  rw [I64_ofInt (h x hx)]

theorem words_row {w : World} {a : Option Addr} {n c : Nat} {l : List Int} (h : rdSlice 1 (rdInt .u64) w [.slice a n c] l) : ∃ m : List (BitVec 64), m.length = n ∧ Row w a (words m) := by
  obtain ⟨h1, _, _, h2, h3⟩ := rdSlice_ints h
  exact ⟨l.map (BitVec.ofInt 64), by simpa using h1, by rw [words_of h3]; exact h2⟩

set_option maxRecDepth 100000 in
set_option maxHeartbeats 400000 in
theorem sums_law (l : List (BitVec 64)) (a : Option Addr) (n c : Nat) (w : World) (hn : l.length = n) (hr : Row w a (words l)) :
    Calls Try.prog 3 #[.slice a n c] w fun e w' => e = .returned (.bool true) ∧ Below w.heap.size w w' := by
  by_cases hlt : n ≤ 1000
  · go_enter Try.func3, Try.ntmps3
    go_wp2_with fail
    refine (awake_any _).mono ?_
    rintro e w1 ⟨rfl, hb⟩
    go_wp2_with fail
    refine (sum_at l _ _ _ _ hn (hr.below hb) (by omega)).mono ?_
    rintro e w2 ⟨rfl, rfl⟩
    go_wp2_with fail
    refine (ref_at l _ _ _ _ hn (hr.below hb) (by omega)).mono ?_
    rintro e w2 ⟨rfl, rfl⟩
    go_wp2_with fail
    go_ret
    exact ⟨rfl, hb⟩
  · go_enter Try.func3, Try.ntmps3
    go_wp2_with fail
    refine (awake_any _).mono ?_
    rintro e w1 ⟨rfl, hb⟩
    go_wp2_with fail
    refine (awake_any _).mono ?_
    rintro e w2 ⟨rfl, hb2⟩
    go_wp2_with fail
    go_ret
    exact ⟨rfl, hb.trans (hb2.mono hb.size)⟩

theorem CrcSums_walk {w : World} (a : Option Addr) (n c : Nat) (l : List Int) (h : rdSlice 1 (rdInt .u64) w [.slice a n c] l) :
    Calls Try.prog 3 #[.slice a n c] w fun e w' => e = .returned (.bool true) ∧ Below w.heap.size w w' := by
  obtain ⟨m, hm, hr⟩ := words_row h
  exact sums_law m a n c w hm hr

theorem el_u64 : Elem Try.prog 22 27 1 8 := elem_of (z := .int .u64 0) Try.underlying22 (by kernel_rfl) rfl (by decide)

theorem words_one (m : List (BitVec 64)) : ∀ u ∈ words m, u.oneCell' = true := by
  intro u hu
  simp only [words, List.mem_map] at hu
  obtain ⟨_, _, rfl⟩ := hu
  rfl

set_option maxRecDepth 100000 in
set_option maxHeartbeats 400000 in
theorem next_law (m : List (BitVec 64)) (y : BitVec 64) (a : Option Addr) (n c : Nat) (w : World) (hn : m.length = n) (hr : Row w a (words m)) :
    Calls Try.prog 4 #[.slice a n c, .int .u64 (I64 y)] w fun e w' => e = .returned (.bool true) ∧ Below w.heap.size w w' := by
  by_cases hlt : n ≤ 1000
  · go_enter Try.func4, Try.ntmps4
    go_wp2_with fail
    refine (awake_any _).mono ?_
    rintro e w1 ⟨rfl, hb⟩
    have hz := hb.size
    go_wp2_with (first
      | (at_builtin; refine wpList_append rfl (.tmp 14) (.tmp 15) _ rfl el_u64 w.heap.size (.slice none 0 0) 0 [] rfl (World.ownsRow_nil _ _ _ _) a n c (words m) rfl (by rw [words_length]; omega) (hr.below hb) (words_one m) (by unfold maxLen; omega) (by omega) hz ?_; intro v2 w2 hown2 hg2 hat2 hb2)
      | (at_builtin; refine wpList_append rfl (.tmp 17) (.tmp 19) _ rfl el_u64 w.heap.size v2 (0 + n) ([] ++ words m) rfl (hown2.alloc _) _ 1 1 (words [y]) rfl rfl (Row.new _ _ _ _) (words_one _) (by unfold maxLen; omega) (by omega) (by have := hb2.size; simp; omega) ?_; intro v3 w3 hown3 hg3 hat3 hb3))
    have hb4 : Below w.heap.size w w3 := (hb.trans hb2).trans ((((Below.refl w.heap.size w2).alloc (by have := hb2.size; omega) _)).trans hb3)
    obtain ⟨a3, c3, rfl, hr3, -⟩ := own_slice hown3
    have hm3 : ([] ++ words m ++ words [y]) = words (m ++ [y]) := by simp [words]
    rw [hm3] at hr3
    clear hat2 hat3 hg2 hg3 hown2 hown3 hm3
    refine (sum_at (m ++ [y]) _ _ _ _ (by simp; omega) hr3 (by omega)).mono ?_
    rintro e w4 ⟨rfl, rfl⟩
    go_wp2_with fail
    refine (sum_at m _ _ _ _ hn (hr.below hb4) (by omega)).mono ?_
    rintro e w4 ⟨rfl, rfl⟩
    go_wp2_with fail
    refine (next_any _ _ _).mono ?_
    rintro e w4 ⟨rfl, rfl⟩
    have hs : sum (m ++ [y]) = next (sum m) y := by unfold sum; rw [List.foldl_append]; rfl
    rw [hs]
    go_wp2_with fail
    refine (sum_at [] _ _ _ _ rfl (Row.nil _ _) (by decide)).mono ?_
    rintro e w4 ⟨rfl, rfl⟩
    rw [show I32 (sum []) = 0 from rfl]
    go_wp2_with fail
    go_ret
    exact ⟨rfl, hb4⟩
  · go_enter Try.func4, Try.ntmps4
    go_wp2_with fail
    refine (awake_any _).mono ?_
    rintro e w1 ⟨rfl, hb⟩
    go_wp2_with fail
    refine (awake_any _).mono ?_
    rintro e w2 ⟨rfl, hb2⟩
    go_wp2_with fail
    go_ret
    exact ⟨rfl, hb.trans (hb2.mono hb.size)⟩

end Go.Proofs.Ytfeinadkdnjccaa.Crc
