/- The walk of seal.Put: the sealed block lies in memory of the call's own, or the call refuses. -/
import Derived.Test.YtoodkfjldflbeaaSeal
import Derived.Test.YtoodkfjldflbeaaHeap
import Derived.Laws.CopyOwn
set_option linter.unusedVariables false
namespace Go.Proofs.Ytoodkfjldflbeaa.Crc
open Go.RowKit

/-- The words ahead of the last one: the payload, zeros, the tag. -/
def bodyW (p : List (BitVec 64)) (size : Nat) (tag : BitVec 64) : List (BitVec 64) := p ++ List.replicate (size - 2 - p.length) 0#64 ++ [tag]
theorem bodyW_length {p : List (BitVec 64)} {size : Nat} {tag : BitVec 64} (h : p.length + 2 ≤ size) : (bodyW p size tag).length + 1 = size := by
  simp [bodyW]; omega
/-- A sealed block. -/
def sealW (p : List (BitVec 64)) (size : Nat) (tag x : BitVec 64) : List (BitVec 64) :=
  bodyW p size tag ++ [lastW (bodyW p size tag) (BitVec.ofNat 64 p.length) x]
theorem sealW_length {p : List (BitVec 64)} {size : Nat} {tag x : BitVec 64} (h : p.length + 2 ≤ size) : (sealW p size tag x).length = size := by
  have := bodyW_length (tag := tag) h
  simp [sealW]; omega

def zeroCells (n : Nat) : List Value := List.replicate n (.int .u64 0)
theorem zeroCells_length (n : Nat) : (zeroCells n).length = n := by simp [zeroCells]

theorem put_cells (p : List (BitVec 64)) (size : Nat) (tag : BitVec 64) (h : p.length + 2 ≤ size) :
    (splice (zeroCells size) 0 (words p)).toArray.setIfInBounds (size - 2) (.int .u64 (I64 tag)) = (words (bodyW p size tag ++ [0#64])).toArray := by
  apply Array.toList_inj.1
  simp only [Array.toList_setIfInBounds]
  have h1 : splice (zeroCells size) 0 (words p) = words p ++ zeroCells (size - 2 - p.length) ++ [.int .u64 0] ++ [.int .u64 0] := by
    have e : size = p.length + ((size - 2 - p.length) + (1 + 1)) := by omega
    have hz : zeroCells size = zeroCells p.length ++ (zeroCells (size - 2 - p.length) ++ ([.int .u64 0] ++ [.int .u64 0])) := by
      unfold zeroCells
      conv => lhs; rw [e]
      rw [← List.replicate_append_replicate, ← List.replicate_append_replicate, ← List.replicate_append_replicate]
      rfl
    unfold splice
    rw [hz, words_length, List.take_zero, Nat.zero_add, List.drop_append_of_le_length (by rw [zeroCells_length]; omega), List.drop_of_length_le (by rw [zeroCells_length]; omega)]
    simp
  have h2 : (words p ++ zeroCells (size - 2 - p.length)).length = size - 2 := by
    rw [List.length_append, words_length, zeroCells_length]; omega
  rw [h1]
  have h3 : words (bodyW p size tag ++ [0#64]) = words p ++ zeroCells (size - 2 - p.length) ++ [.int .u64 (I64 tag)] ++ [.int .u64 0] := by
    simp only [bodyW, words, zeroCells, List.map_append, List.map_replicate, List.map_cons, List.map_nil]
    rfl
  rw [h3]
  generalize words p ++ zeroCells (size - 2 - p.length) = A at *
  rw [← h2]
  simp

theorem put_last (l : List (BitVec 64)) (size : Nat) (h : l.length + 1 = size) (y z : BitVec 64) :
    (words (l ++ [y])).toArray.setIfInBounds (size - 1) (.int .u64 (I64 z)) = (words (l ++ [z])).toArray := by
  apply Array.toList_inj.1
  subst h
  simp [words]

theorem last_at (l : List (BitVec 64)) (z : BitVec 64) (m n x : Nat) (a : Option Addr) (c : Nat) (w : World) (hr : Row w a (words (l ++ [z]))) (hm : l.length + 1 = m) (hcap : m ≤ c) (hl : m < 1000000) (hn : n < 1000000) (hx : x < 9223372036854775808) :
    Calls Try.prog 32 #[.slice a m c, .int .i64 (n : Int), .int .i64 (x : Int)] w fun e w' => e = .returned (.int .u64 (I64 (lastW l (BitVec.ofNat 64 n) (BitVec.ofNat 64 x)))) ∧ w = w' := by
  subst hm
  exact last_any l z n x a c w hr hcap (by omega) hn hx

set_option maxRecDepth 100000 in
theorem put_ok (p : List (BitVec 64)) (size x : Nat) (tag : BitVec 64) (a : Option Addr) (c : Nat) (w : World) (hr : Row w a (words p)) (h8 : 8 ≤ size) (h256 : size ≤ 256) (hp : p.length + 2 ≤ size) (hx : x < 9223372036854775808) :
    Calls Try.prog 18 #[.int .i64 (size : Int), .int .i64 (x : Int), .int .u64 (I64 tag), .slice a p.length c] w fun e w' =>
      e = .returned (.tuple #[.slice (some ⟨w.heap.size, 0, none⟩) size size, .int .i64 0]) ∧ Blk w' w.heap.size 33 (words (sealW p size tag (BitVec.ofNat 64 x))).toArray ∧ Below w.heap.size w w' := by
  have hR := right_any size x w
  rw [show decide (8 ≤ (size : Int) ∧ (size : Int) ≤ 256 ∧ 0 ≤ (x : Int)) = true from by simp; omega] at hR
  have HR := Lib.hid hR
  have hm := run_make_of (P := Try.prog) (t := 34) (e := 33) (bytes := 8) (z := .int .u64 0) Try.underlying34 (by kernel_rfl) rfl .i64 .i64 size (by omega) (by omega) w
  have hp2 : decide ((size : Int) - 2 < (p.length : Int)) = false := by simp; omega
  have hp3 : (0 : Int) ≤ (size : Int) - 2 := by omega
  clear hR
  go_enter Try.func18, Try.ntmps18
  go_wp2_with fail
  refine HR.out.mono ?_
  rintro e w1 ⟨rfl, rfl⟩
  have hcz : (zeroCells size).toArray = same size (.int .u64 0) := by
    apply Array.toList_inj.1
    rw [same_list]
    rfl
  have HB0 : (w.alloc (.cells (same size (.int .u64 0)) 33)).heap[w.heap.size]? = some (.cells (zeroCells size).toArray 33 (0, 0)) := by
    rw [hcz]; exact Blk.new w _ _
  have HBW := Lib.hid HB0
  clear HB0 hcz
  have hra := hr.below ((Below.refl w.heap.size w).alloc (Nat.le_refl _) (.cells (same size (.int .u64 0)) 33))
  go_wp2_with (with_reducible refine wpList_copy_splice (o := ⟨some 26, _, _, _, _, _⟩) ?h1 (.tmp 24) (.tmp 25) 34 34 ?h2 33 Try.underlying34 ?h3 (some ⟨w.heap.size, 0, none⟩) a size size p.length c ?h4 ?h5 w.heap.size 0 (zeroCells size) 33 HBW.out (words p) ?c1 ?c2 ?c3 (words_one p) w.heap.size w ?c4 (Nat.le_refl _) ?_)
  case h1 => rfl
  case h2 => rfl
  case h3 => kernel_rfl
  case h4 => rfl
  case h5 => rfl
  case c1 => rw [words_length]; exact (Nat.min_eq_left (by omega)).symm
  case c2 =>
    intro hpos
    obtain ⟨b, o, rfl, _⟩ := hra.at_ hpos
    refine ⟨_, rfl, fun j v hj => ?_⟩
    have hj2 := hj
    rw [List.getElem?_eq_some_iff] at hj2
    obtain ⟨hj2, rfl⟩ := hj2
    obtain ⟨b', o', e, hc, _⟩ := hra.at_ hj2
    cases e
    rw [add_none, hc]
  case c3 => rw [words_length, zeroCells_length]; omega
  case c4 => exact (Below.refl w.heap.size w).alloc (Nat.le_refl _) _
  intro w2 HG2 hb2
  have B2 : Blk w2 w.heap.size 33 (splice (zeroCells size) 0 (words p)).toArray := HG2.out
  have hcells := put_cells p size tag hp
  have hl2 : (splice (zeroCells size) 0 (words p)).toArray.size = size := by
    rw [List.size_toArray, length_splice _ _ _ (by rw [words_length, zeroCells_length]; omega), zeroCells_length]
  generalize (splice (zeroCells size) 0 (words p)).toArray = cs at *
  obtain ⟨v2, e2⟩ := B2.some_ (i := size - 2) (by omega)
  have f2 := B2.frozen (size - 2)
  have B3 := B2.set_ (size - 2) (.int .u64 (I64 tag))
  rw [hcells] at B3
  have hb3 := hb2.setCell (p := ⟨w.heap.size, size - 2, none⟩) (Nat.le_refl _) (.int .u64 (I64 tag))
  have HL := Lib.hid (bodyW_length (tag := tag) hp)
  have r3 := Row.of_blk B3
  have E3 := Lib.hid (put_last (bodyW p size tag) size HL.out 0#64 (lastW (bodyW p size tag) (BitVec.ofNat 64 p.length) (BitVec.ofNat 64 x)))
  clear hcells hl2
  clear HG2 hm hra hr HR
  go_wp2_with fail
  clear e2 f2
  generalize w2.setCell ⟨w.heap.size, size - 2, none⟩ (.int .u64 (I64 tag)) = w3 at *
  refine (last_at (bodyW p size tag) 0#64 size p.length x _ _ _ r3 HL.out (Nat.le_refl _) (by omega) (by omega) hx).mono ?_
  rintro e w4 ⟨rfl, rfl⟩
  obtain ⟨v3, e3⟩ := B3.some_ (i := size - 1) (by have := HL.out; simp [words]; omega)
  have f3 := B3.frozen (size - 1)
  have B4 := B3.set_ (size - 1) (.int .u64 (I64 (lastW (bodyW p size tag) (BitVec.ofNat 64 p.length) (BitVec.ofNat 64 x))))
  have hb4 := hb3.setCell (p := ⟨w.heap.size, size - 1, none⟩) (Nat.le_refl _) (.int .u64 (I64 (lastW (bodyW p size tag) (BitVec.ofNat 64 p.length) (BitVec.ofNat 64 x))))
  rw [E3.out] at B4
  clear B3 hb3 r3
  go_wp2_with fail
  go_ret2
  exact ⟨rfl, B4, hb4⟩

end Go.Proofs.Ytoodkfjldflbeaa.Crc
