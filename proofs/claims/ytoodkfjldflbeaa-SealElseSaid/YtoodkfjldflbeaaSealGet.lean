/- The walk of seal.Get: a block is opened as what it is, or refused. -/
import Derived.Test.YtoodkfjldflbeaaSealPuts
set_option linter.unusedVariables false
namespace Go.Proofs.Ytoodkfjldflbeaa.Crc
open Go.RowKit

theorem nonzero_any (x : BitVec 64) (w : World) :
    Calls Try.prog 35 #[.int .u64 (I64 x)] w fun e w' => e = .returned (.bool (I64 x != 0)) ∧ w = w' := by
  go_enter Try.func35, Try.ntmps35
  go_wp2_with fail
  go_ret
  exact ⟨rfl, rfl⟩

def zeroW (l : List (BitVec 64)) : Bool := l.all (· == 0#64)
theorem I64_zero (x : BitVec 64) : I64 x = 0 ↔ x = 0#64 := by
  constructor
  · intro h
    exact I64_inj h
  · rintro rfl
    rfl
theorem zeroW_succ (l : List (BitVec 64)) (k : Nat) (h : k < l.length) : zeroW (l.take (k + 1)) = (zeroW (l.take k) && (l[k] == 0#64)) := by
  unfold zeroW
  rw [List.take_succ_eq_append_getElem h, List.all_append]
  simp
theorem zeroW_at (l : List (BitVec 64)) (k : Nat) (h : k < l.length) : l[k] ≠ 0#64 → zeroW l = false := by
  intro hx
  unfold zeroW
  rw [List.all_eq_false]
  exact ⟨_, List.getElem_mem h, by simpa using hx⟩
def FindLoop (n : Nat) (l : List (BitVec 64)) (iv : Value) : Prop := ∃ k : Nat, iv = .int .i64 (k : Int) ∧ k ≤ n ∧ zeroW (l.take k) = true

/-- The index of the first word that is not zero. -/
def FirstOne (l : List (BitVec 64)) (w : World) (e : Ending) (w' : World) : Prop :=
  ∃ i : Int, e = .returned (.int .i64 i) ∧ (zeroW l = true → i = -1) ∧ (zeroW l = false → 0 ≤ i) ∧ w = w'

set_option maxRecDepth 100000 in
theorem index_any (l : List (BitVec 64)) (a : Option Addr) (n c : Nat) (w : World) (hr : Row w a (words l)) (hn : l.length = n) (hl : n < 1000000) :
    Calls Try.prog 39 #[.slice a n c, .func (.func 35) #[] #[]] w (FirstOne l w) := by
  subst hn
  go_enter Try.func39, Try.ntmps39
  go_wp2_with fail
  go_loop [8] (fun iv => FindLoop l.length l iv) (fun iv => l.length - (intOf iv).toNat)
  case atStart => exact ⟨0, rfl, by omega, rfl⟩
  case round =>
    obtain ⟨k, rfl, hk, hz⟩ := hrel
    by_cases hlt : (k : Int) < l.length
    · have hkl : k < l.length := by omega
      obtain ⟨b, o, rfl, hc⟩ := words_at hr hkl
      have ht := zeroW_succ l k hkl
      have hnz := zeroW_at l k hkl
      generalize l[k] = x at *
      have HT := Lib.hid ht
      have HNZ := Lib.hid hnz
      have HZ := Lib.hid hz
      clear ht hnz hz hr
      by_cases hx : x = 0#64
      · have hxe : (I64 x != 0) = false := by rw [hx]; rfl
        clear hx
        go_wp2_with fail
        refine (nonzero_any x _).mono ?_
        rintro e w' ⟨rfl, rfl⟩
        rw [hxe]
        go_wp2_with fail
        go_round
        case rel => exact ⟨k + 1, by go_num, by omega, by rw [HT.out, HZ.out]; simpa [I64_zero] using hxe⟩
        case measure => simp [intOf]; omega
      · have hxe : (I64 x != 0) = true := by rw [bne_iff_ne]; exact fun h => hx ((I64_zero x).1 h)
        have hall := HNZ.out hx
        have HALL := Lib.hid hall
        clear hx hall
        go_wp2_with fail
        refine (nonzero_any x _).mono ?_
        rintro e w' ⟨rfl, rfl⟩
        rw [hxe]
        go_wp2_with fail
        go_ret
        exact ⟨(k : Int), rfl, fun h => (by rw [HALL.out] at h; cases h), fun _ => by omega, rfl⟩
    · have hz2 : zeroW l = true := by rw [List.take_of_length_le (by omega)] at hz; exact hz
      have HZ := Lib.hid hz2
      clear hz hz2
      go_wp2_with fail
      go_ret
      exact ⟨-1, rfl, fun _ => rfl, fun h => (by rw [HZ.out] at h; cases h), rfl⟩

set_option maxRecDepth 100000 in
theorem contains_any (l : List (BitVec 64)) (a : Option Addr) (n c : Nat) (w : World) (hr : Row w a (words l)) (hn : l.length = n) (hl : n < 1000000) :
    Calls Try.prog 34 #[.slice a n c, .func (.func 35) #[] #[]] w fun e w' => e = .returned (.bool (!zeroW l)) ∧ w = w' := by
  have HI := Lib.hid (index_any l a n c w hr hn hl)
  clear hr
  go_enter Try.func34, Try.ntmps34
  go_wp2_with fail
  refine HI.out.mono ?_
  rintro e w' ⟨i, rfl, h1, h2, rfl⟩
  cases hz : zeroW l
  · have h3 := h2 hz
    clear h1 h2
    have HZ := Lib.hid hz
    clear hz
    go_wp2_with fail
    go_ret
    exact ⟨congrArg (fun b => Ending.returned (.bool (!b))) HZ.out.symm, rfl⟩
  · obtain rfl := h1 hz
    have HZ := Lib.hid hz
    clear h1 h2 hz
    go_wp2_with fail
    go_ret
    exact ⟨congrArg (fun b => Ending.returned (.bool (!b))) HZ.out.symm, rfl⟩

end Go.Proofs.Ytoodkfjldflbeaa.Crc
