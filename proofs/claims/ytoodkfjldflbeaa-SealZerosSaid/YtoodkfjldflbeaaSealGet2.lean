/- The walk of seal.Get: a block is opened as what it is, or refused. -/
import Derived.Test.YtoodkfjldflbeaaSealGet
import Derived.Deep.RegionHeld3
set_option linter.unusedVariables false
namespace Go.Proofs.Ytoodkfjldflbeaa.Crc
open Go.RowKit

def GotOk (w : World) (p : List (BitVec 64)) (tag : BitVec 64) (e : Ending) (w' : World) : Prop :=
  ∃ a c, e = .returned (.tuple #[.slice a p.length c, .int .u64 (I64 tag), .int .i64 0]) ∧ Row w' a (words p) ∧ Below w.heap.size w w'

theorem last_top (B : List (BitVec 64)) (n : Nat) (X : BitVec 64) (hn : n < 1000000) : I64 (lastW B (BitVec.ofNat 64 n) X) / 4294967296 = (n : Int) + 1 := by
  have := add_word n (next (next (sum B) (BitVec.ofNat 64 n + 1#64)) X) hn
  have h2 := I32_lt (next (next (sum B) (BitVec.ofNat 64 n + 1#64)) X)
  unfold lastW
  omega

theorem zeroW_replicate (n : Nat) : zeroW (List.replicate n 0#64) = true := by
  unfold zeroW
  simp

set_option maxRecDepth 100000 in
set_option maxHeartbeats 800000 in
theorem get_yes (p : List (BitVec 64)) (size x : Nat) (tag : BitVec 64) (a : Option Addr) (c : Nat) (w : World) (hr : Row w a (words (sealW p size tag (BitVec.ofNat 64 x)))) (h8 : 8 ≤ size) (h256 : size ≤ 256) (hp : p.length + 2 ≤ size) (hx : x < 9223372036854775808) (hc : size ≤ c) (hc2 : c ≤ maxLen) :
    Calls Try.prog 29 #[.slice a size c, .int .i64 (x : Int)] w (GotOk w p tag) := by
  unfold maxLen at hc2
  have hB := bodyW_length (tag := tag) hp
  have hlen := sealW_length (tag := tag) (x := BitVec.ofNat 64 x) hp
  obtain ⟨b, o, rfl, c1⟩ := words_at hr (k := size - 1) (by omega)
  obtain ⟨b', o', e, c2⟩ := words_at hr (k := size - 2) (by omega)
  cases e
  have g1 : (sealW p size tag (BitVec.ofNat 64 x))[size - 1]'(by omega) = lastW (bodyW p size tag) (BitVec.ofNat 64 p.length) (BitVec.ofNat 64 x) := by
    unfold sealW
    rw [List.getElem_append_right (by omega)]
    simp
  have g2 : (sealW p size tag (BitVec.ofNat 64 x))[size - 2]'(by omega) = tag := by
    unfold sealW
    rw [List.getElem_append_left (by omega)]
    unfold bodyW
    rw [List.getElem_append_right (by simp; omega)]
    simp
  rw [g1] at c1
  rw [g2] at c2
  have hq := last_top (bodyW p size tag) p.length (BitVec.ofNat 64 x) (by omega)
  have hrl : Row w (some ⟨b, o, none⟩) (words (bodyW p size tag ++ [lastW (bodyW p size tag) (BitVec.ofNat 64 p.length) (BitVec.ofNat 64 x)])) := hr
  have HL := Lib.hid (fun d => last_at (bodyW p size tag) _ size p.length x (some ⟨b, o, none⟩) c (w.drewN d) hrl hB hc (by omega) (by omega) hx)
  have hrz : Row w (some ⟨b, o + p.length, none⟩) (words (List.replicate (size - 2 - p.length) 0#64)) := by
    have h1 := (hr.drop p.length).take (size - 2 - p.length)
    have h2 : ((words (sealW p size tag (BitVec.ofNat 64 x))).drop p.length).take (size - 2 - p.length) = words (List.replicate (size - 2 - p.length) 0#64) := by
      unfold words sealW bodyW
      rw [← List.map_drop, ← List.map_take, List.append_assoc, List.append_assoc, List.drop_append_of_le_length (by omega), List.drop_of_length_le (Nat.le_refl _), List.nil_append, List.take_append_of_le_length (by simp), List.take_of_length_le (by simp)]
    rw [h2] at h1
    exact h1
  have HC := Lib.hid (fun d => contains_any (List.replicate (size - 2 - p.length) 0#64) (some ⟨b, o + p.length, none⟩) (size - 2 - p.length) (c - p.length) (w.drewN d) hrz (by simp) (by omega))
  rw [show (!zeroW (List.replicate (size - 2 - p.length) 0#64)) = false from by rw [zeroW_replicate]; rfl] at HC
  have hrp : Row w (some ⟨b, o, none⟩) (words p) := by
    have h1 := hr.take p.length
    have h2 : (words (sealW p size tag (BitVec.ofNat 64 x))).take p.length = words p := by
      unfold words sealW bodyW
      rw [← List.map_take, List.append_assoc, List.append_assoc, List.take_append_of_le_length (by omega), List.take_of_length_le (Nat.le_refl _)]
    rw [h2] at h1
    exact h1
  have hR := right_any size x w
  rw [show decide (8 ≤ (size : Int) ∧ (size : Int) ≤ 256 ∧ 0 ≤ (x : Int)) = true from by simp; omega] at hR
  have HR := Lib.hid hR
  have hg1 : decide ((size : Int) - 2 < (p.length : Int)) = false := by simp; omega
  have hg2 : decide ((p.length : Int) < 0) = false := by simp
  have hvb := I64_lt (lastW (bodyW p size tag) (BitVec.ofNat 64 p.length) (BitVec.ofNat 64 x))
  clear hR g1 g2 hrl hrz hB hlen hr
  generalize I64 (lastW (bodyW p size tag) (BitVec.ofNat 64 p.length) (BitVec.ofNat 64 x)) = V at *
  have hvv : (V != V) = false := by simp
  have b1 : (p.length : Int) ≤ c := by omega
  have b2 : (size : Int) - 2 ≤ c := by omega
  have b3 : (0 : Int) ≤ (size : Int) - 2 := by omega
  have b4 : (p.length : Int) ≤ (size : Int) - 2 := by omega
  go_enter Try.func29, Try.ntmps29
  go_wp2_with fail
  refine HR.out.mono ?_
  rintro e w1 ⟨rfl, rfl⟩
  go_wp2_with fail
  go_quiet ((first | (go_at_call 32; exact Calls.quiet_of_same' (HL.out _)) | (go_at_call 34; exact Calls.quiet_of_same' (HC.out _))))
  go_wp2_with fail
  have b5 : (size : Int) - 2 < (size : Int) := by omega
  have b6 : IntKind.i64.wrap ((size : Int) - 2) = (size : Int) - 2 := by rw [IntKind.wrap_i64]; omega
  have b7 : ((size : Int) - 2).toNat = size - 2 := by omega
  have b8 : (2 : Int) ≤ (size : Int) := by omega
  clear HL HC HR c1 hq hvb hvv hg1 hg2
  go_region_held3 (fun w' => w'.cell? ⟨b, o + (size - 2), none⟩ = some (.int .u64 (I64 tag)))
    (first | go_keep | (rw [hb1.cell (by have := (cell_lt c2).1; simpa using this)]; assumption))
    ((go_at_call 36; refine (clone_u64 (some ⟨b, o, none⟩) p.length c (words p) _ (by exact hrp) (words_length p) (words_one p) (by omega) (by simp)).mono ?_; rintro e w1 ⟨v1, rfl, own1, hb1⟩))
  all_goals
    obtain ⟨a1, c1, rfl, hr1, -⟩ := own_slice own1
    go_wp2_with fail
    go_ret3
    exact ⟨a1, c1, rfl, hr1, (below_d (Below.refl w.heap.size w) _).trans hb1⟩

end Go.Proofs.Ytoodkfjldflbeaa.Crc
