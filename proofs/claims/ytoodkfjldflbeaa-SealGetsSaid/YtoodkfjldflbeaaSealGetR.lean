/- The walk of the reference's Get of chapter 8. -/
import Derived.Test.YtoodkfjldflbeaaSealGet3
set_option linter.unusedVariables false
namespace Go.Proofs.Ytoodkfjldflbeaa.Crc
open Go.RowKit

theorem same_at (l m : List (BitVec 64)) (a b : Option Addr) (na nb ca cb : Nat) (w : World) (ha : Row w a (words l)) (hb : Row w b (words m)) (hla : l.length = na) (hmb : m.length = nb) (hl : na < 1000000) (hm : nb < 1000000) :
    Calls Try.prog 20 #[.slice a na ca, .slice b nb cb] w fun e w' => e = .returned (.bool (sameW l m)) ∧ Quiet w w' := by
  subst hla; subst hmb
  exact same_any l m a b ca cb w ha hb hl hm

set_option maxRecDepth 100000 in
theorem refget_arg (size : Nat) (address : Int) (a : Option Addr) (c : Nat) (w : World) (h : ¬ (8 ≤ size ∧ size ≤ 256 ∧ 0 ≤ address)) (hs : size ≤ 9223372036854775807) :
    Calls Try.prog 30 #[.slice a size c, .int .i64 address] w fun e w' => e = .returned (.tuple #[.slice none 0 0, .int .u64 0, .int .i64 1]) ∧ w = w' := by
  by_cases h8 : (size : Int) < 8
  · clear h
    go_enter Try.func30, Try.ntmps30
    go_wp2_with fail
    go_ret3
    exact ⟨rfl, rfl⟩
  by_cases h256 : (256 : Int) < size
  · clear h
    go_enter Try.func30, Try.ntmps30
    go_wp2_with fail
    go_ret3
    exact ⟨rfl, rfl⟩
  have h0 : address < 0 := by omega
  clear h
  go_enter Try.func30, Try.ntmps30
  go_wp2_with fail
  go_ret3
  exact ⟨rfl, rfl⟩

def RefusedB (w : World) (e : Ending) (w' : World) : Prop := e = .returned (.tuple #[.slice none 0 0, .int .u64 0, .int .i64 6]) ∧ Below w.heap.size w w'

set_option maxRecDepth 100000 in
set_option maxHeartbeats 800000 in
theorem refget_yes (p : List (BitVec 64)) (size x : Nat) (tag : BitVec 64) (a : Option Addr) (c : Nat) (w : World) (hr : Row w a (words (sealW p size tag (BitVec.ofNat 64 x)))) (h8 : 8 ≤ size) (h256 : size ≤ 256) (hp : p.length + 2 ≤ size) (hx : x < 9223372036854775808) (hc : size ≤ c) (hc2 : c ≤ maxLen) :
    Calls Try.prog 30 #[.slice a size c, .int .i64 (x : Int)] w (GotOk w p tag) := by
  unfold maxLen at hc2
  have hlen := sealW_length (tag := tag) (x := BitVec.ofNat 64 x) hp
  have hB := bodyW_length (tag := tag) hp
  obtain ⟨b, o, rfl, c1⟩ := words_at hr (k := size - 1) (by omega)
  obtain ⟨b', o', e, c2⟩ := words_at hr (k := size - 2) (by omega)
  cases e
  have g1 : (sealW p size tag (BitVec.ofNat 64 x))[size - 1]'(by omega) = lastW (bodyW p size tag) (BitVec.ofNat 64 p.length) (BitVec.ofNat 64 x) := by
    unfold sealW
    rw [List.getElem_append_right (by omega)]
    simp
  have g2 : (sealW p size tag (BitVec.ofNat 64 x))[size - 2]'(by omega) = tag := by
    unfold sealW
    rw [List.getElem_append_left (by omega)]
    unfold bodyW
    rw [List.getElem_append_right (by simp; omega)]
    simp
  rw [g1] at c1
  rw [g2] at c2
  have hq := last_top (bodyW p size tag) p.length (BitVec.ofNat 64 x) (by omega)
  have hrp : Row w (some ⟨b, o, none⟩) (words p) := by
    have h1 := hr.take p.length
    have h2 : (words (sealW p size tag (BitVec.ofNat 64 x))).take p.length = words p := by
      unfold words sealW bodyW
      rw [← List.map_take, List.append_assoc, List.append_assoc, List.take_append_of_le_length (by omega), List.take_of_length_le (Nat.le_refl _)]
    rw [h2] at h1
    exact h1
  have hvb := I64_lt (lastW (bodyW p size tag) (BitVec.ofNat 64 p.length) (BitVec.ofNat 64 x))
  generalize I64 (lastW (bodyW p size tag) (BitVec.ofNat 64 p.length) (BitVec.ofNat 64 x)) = V at *
  have hg1 : decide ((p.length : Int) + 1 < 1) = false := by simp; omega
  have hg2 : decide ((size : Int) - 1 < (p.length : Int) + 1) = false := by simp; omega
  have b1 : (p.length : Int) ≤ c := by omega
  have hun : IntKind.u64.wrap ((size : Int) - 1) = (size : Int) - 1 := u64_wrap_id (by omega) (by omega)
  have HLEN := Lib.hid hlen
  have hl2 := cell_lt c2
  clear hlen hB g1 g2
  go_enter Try.func30, Try.ntmps30
  go_wp2_with fail
  refine (refput_ok p size x tag _ c _ hrp h8 h256 hp hx).mono ?_
  rintro e w1 ⟨v1, rfl, own1, hb1⟩
  obtain ⟨a1, c1, rfl, hr1, -⟩ := own_slice own1
  have hrB := hr.below hb1
  have HS := same_at _ _ a1 (some ⟨b, o, none⟩) size size c1 c w1 hr1 hrB HLEN.out HLEN.out (by omega) (by omega)
  rw [show sameW (sealW p size tag (BitVec.ofNat 64 x)) (sealW p size tag (BitVec.ofNat 64 x)) = true from by simp [sameW]] at HS
  have HS2 := Lib.hid HS
  have c3 : w1.cell? ⟨b, o + (size - 2), none⟩ = some (.int .u64 (I64 tag)) := by rw [hb1.cell hl2.1, c2]
  have hrp1 := hrp.below hb1
  clear HS own1 hr1 hrB
  go_wp2_with fail
  refine HS2.out.mono ?_
  rintro e w2 ⟨rfl, dd, rfl⟩
  clear HS2
  go_wp2_with fail
  go_quiet (fail)
  go_wp2_with fail
  go_ret3
  exact ⟨some ⟨b, o, none⟩, c, rfl, hrp1, below_d (below_d hb1 _) _⟩

set_option maxRecDepth 100000 in
set_option maxHeartbeats 800000 in
theorem refget_fault (l : List (BitVec 64)) (size x : Nat) (a : Option Addr) (c : Nat) (w : World) (hr : Row w a (words l)) (hl : l.length = size) (h8 : 8 ≤ size) (h256 : size ≤ 256) (hx : x < 9223372036854775808) (hc : size ≤ c) (hc2 : c ≤ maxLen)
    (hno : ¬ IsSealed l (BitVec.ofNat 64 x)) :
    Calls Try.prog 30 #[.slice a size c, .int .i64 (x : Int)] w (RefusedB w) := by
  unfold maxLen at hc2
  obtain ⟨b, o, rfl, c1⟩ := words_at hr (k := size - 1) (by omega)
  obtain ⟨b', o', e, c2⟩ := words_at hr (k := size - 2) (by omega)
  cases e
  have hvb := I64_lt (l[size - 1]'(by omega))
  have ht := top_lt (l[size - 1]'(by omega))
  generalize I64 (l[size - 1]'(by omega)) = V at *
  have hun : IntKind.u64.wrap ((size : Int) - 1) = (size : Int) - 1 := u64_wrap_id (by omega) (by omega)
  by_cases hA : V / 4294967296 < 1
  · clear hno hr
    go_enter Try.func30, Try.ntmps30
    go_wp2_with fail
    go_ret3
    exact ⟨rfl, Below.refl _ _⟩
  by_cases hA2 : (size : Int) - 1 < V / 4294967296
  · clear hno hr
    go_enter Try.func30, Try.ntmps30
    go_wp2_with fail
    go_ret3
    exact ⟨rfl, Below.refl _ _⟩
  obtain ⟨n, hn⟩ : ∃ n : Nat, V / 4294967296 = (n : Int) + 1 := ⟨(V / 4294967296 - 1).toNat, by omega⟩
  have hp : (l.take n).length = n := by simp; omega
  generalize l[size - 2]'(by omega) = tag at *
  have hne : sameW (sealW (l.take n) size tag (BitVec.ofNat 64 x)) l = false := by
    unfold sameW
    rw [decide_eq_false_iff_not]
    intro h
    exact hno ⟨l.take n, tag, by omega, by rw [hl]; exact h.symm⟩
  have hrp : Row w (some ⟨b, o, none⟩) (words (l.take n)) := by
    have h1 := hr.take n
    have h2 : (words l).take n = words (l.take n) := by
      unfold words
      rw [List.map_take]
    rw [h2] at h1
    exact h1
  have hg1 : decide ((n : Int) + 1 < 1) = false := by simp; omega
  have hg2 : decide ((size : Int) - 1 < (n : Int) + 1) = false := by simp; omega
  have b1 : (n : Int) ≤ c := by omega
  have b2 : n + 2 ≤ size := by omega
  have HPUT := Lib.hid (refput_ok (l.take n) size x tag (some ⟨b, o, none⟩) c w hrp h8 h256 (by omega) hx)
  rw [hp] at HPUT
  have hlen := sealW_length (p := l.take n) (tag := tag) (x := BitVec.ofNat 64 x) (size := size) (by omega)
  have HLEN := Lib.hid hlen
  have HNE := Lib.hid hne
  have HL := Lib.hid hl
  have HR := Lib.hid hr
  clear hlen hne hno ht hA hA2 hp hrp hl hr
  go_enter Try.func30, Try.ntmps30
  go_wp2_with fail
  refine HPUT.out.mono ?_
  rintro e w1 ⟨v1, rfl, own1, hb1⟩
  obtain ⟨a1, c1, rfl, hr1, -⟩ := own_slice own1
  have HS := same_at _ _ a1 (some ⟨b, o, none⟩) size size c1 c w1 hr1 (HR.out.below hb1) HLEN.out HL.out (by omega) (by omega)
  rw [HNE.out] at HS
  have HS2 := Lib.hid HS
  clear HS own1 hr1
  go_wp2_with fail
  refine HS2.out.mono ?_
  rintro e w2 ⟨rfl, dd, rfl⟩
  clear HS2
  go_wp2_with fail
  go_ret3
  exact ⟨rfl, below_d hb1 _⟩

end Go.Proofs.Ytoodkfjldflbeaa.Crc
