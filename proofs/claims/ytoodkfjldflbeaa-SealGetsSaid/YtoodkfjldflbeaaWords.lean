/- Rows of words: what a slice of []uint64 reads as, and appends to it. -/
import Derived.Test.YtoodkfjldflbeaaCrcSum
import Derived.Test.YtoodkfjldflbeaaCrcTell
import Derived.Test.YtoodkfjldflbeaaOpen
import Derived.Deep.QuietTactic
import Derived.BigQuiet
import Derived.StillTailTactics
namespace Go.Proofs.Ytoodkfjldflbeaa.Crc
open Go.RowKit

theorem I64_ofInt {x : Int} (h : (Lit.int .u64 x).wf = true) : I64 (BitVec.ofInt 64 x) = x := by
  simp only [Lit.wf, Bool.and_eq_true, IntKind.min, IntKind.max, IntKind.signed, IntKind.bits] at h
  unfold I64
  rw [BitVec.toNat_ofInt]
  simp at h
  omega

theorem words_of {l : List Int} (h : ∀ x ∈ l, (Lit.int .u64 x).wf = true) : words (l.map (BitVec.ofInt 64)) = l.map (Value.int .u64) := by
  unfold words
  rw [List.map_map]
  apply List.map_congr_left
  intro x hx
  show Value.int .u64 (I64 (BitVec.ofInt 64 x)) = _
  rw [I64_ofInt (h x hx)]

theorem words_row {w : World} {a : Option Addr} {n c : Nat} {l : List Int} (h : rdSlice 1 (rdInt .u64) w [.slice a n c] l) : ∃ m : List (BitVec 64), m.length = n ∧ Row w a (words m) := by
  obtain ⟨h1, _, _, h2, h3⟩ := rdSlice_ints h
  exact ⟨l.map (BitVec.ofInt 64), by simpa using h1, by rw [words_of h3]; exact h2⟩

set_option maxRecDepth 100000 in

theorem el_u64 : Elem Try.prog 34 33 1 8 := elem_of (z := .int .u64 0) Try.underlying34 (by kernel_rfl) rfl (by decide)

theorem words_one (m : List (BitVec 64)) : ∀ u ∈ words m, u.oneCell' = true := by
  intro u hu
  simp only [words, List.mem_map] at hu
  obtain ⟨_, _, rfl⟩ := hu
  rfl


end Go.Proofs.Ytoodkfjldflbeaa.Crc
