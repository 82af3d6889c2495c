/- The walks of IndexFunc and ContainsFunc at edges. -/
import Derived.Test.YtlepmefknglkeaaGr
set_option linter.unusedVariables false
namespace Go.Proofs.Ytlepmefknglkeaa.Gr
open Go.RowKit

def FirstE (p : E2 → Bool) (l : List E2) (w : World) (e : Ending) (w' : World) : Prop :=
  ∃ i : Int, e = .returned (.int .i64 i) ∧ (l.any p = false → i = -1) ∧ (l.any p = true → 0 ≤ i) ∧ Below w.heap.size w w'
def IdxLoop (p : E2 → Bool) (l : List E2) (w : World) (iv : Value) (wr : World) : Prop :=
  ∃ k : Nat, iv = .int .i64 (k : Int) ∧ k ≤ l.length ∧ (l.take k).any p = false ∧ Below w.heap.size w wr
theorem any_succ (p : E2 → Bool) (l : List E2) (k : Nat) (h : k < l.length) (h0 : (l.take k).any p = false) (hp : p l[k] = false) : (l.take (k + 1)).any p = false := by
  rw [List.take_succ_eq_append_getElem h, List.any_append, h0]
  simp [hp]
theorem any_at (p : E2 → Bool) (l : List E2) (k : Nat) (h : k < l.length) (hp : p l[k] = true) : l.any p = true := by
  rw [List.any_eq_true]
  exact ⟨_, List.getElem_mem h, hp⟩

set_option maxRecDepth 100000 in
set_option maxHeartbeats 400000 in
theorem index_formed (p : E2 → Bool) (l : List E2) (a : Option Addr) (n c : Nat) (w : World) (gb : Nat) (C : ∀ (u v : Int) (W : World), Below w.heap.size w W → Calls Try.prog 37 #[.agg #[.int .i64 u, .int .i64 v], .pointer (some ⟨gb, 0, none⟩)] W fun e w' => e = .returned (.bool (p (u, v))) ∧ Below W.heap.size W w')
    (hr : ERow w a l) (hn : l.length = n) (hl : n < 4611686018427387904) :
    Calls Try.prog 50 #[.slice a n c, .func (.func 37) #[] #[.pointer (some ⟨gb, 0, none⟩)]] w (FirstE p l w) := by
  subst hn
  have HC := Lib.hid C
  clear C
  go_enter Try.func50, Try.ntmps50
  go_wp2_with fail
  go_loopw [8] (fun iv wr => IdxLoop p l w iv wr) (fun iv _ => l.length - (intOf iv).toNat)
  case atStart => exact ⟨0, rfl, by omega, rfl, Below.refl _ _⟩
  case round =>
    obtain ⟨k, rfl, hk, hz, hb⟩ := hrel
    by_cases hlt : (k : Int) < l.length
    · have hkl : k < l.length := by omega
      obtain ⟨b, o, rfl, hc1, hc2, hbl⟩ := hr k hkl
      have d1 : wr.cell? ⟨b, o + k * 2, none⟩ = some (.int .i64 l[k].1) := by rw [hb.cell hbl, hc1]
      have d2 : wr.cell? ⟨b, o + k * 2 + 1, none⟩ = some (.int .i64 l[k].2) := by rw [hb.cell hbl, hc2]
      have hyes := any_at p l k hkl
      have hno := any_succ p l k hkl hz
      generalize l[k] = x at *
      obtain ⟨u, v⟩ := x
      simp only at d1 d2
      have HY := Lib.hid hyes
      have HNO := Lib.hid hno
      have HB := Lib.hid hb
      clear hyes hno hz hr hc1 hc2 hb
      cases hp : p (u, v)
      · have HP := Lib.hid hp
        clear hp
        go_wp2_with fail
        refine (HC.out u v _ HB.out).mono ?_
        rintro e w' ⟨rfl, hb2⟩
        rw [HP.out]
        have HB2 := Lib.hid hb2
        clear hb2
        go_wp2_with fail
        go_roundw
        case rel => exact ⟨k + 1, by go_num, by omega, HNO.out HP.out, HB.out.trans (HB2.out.mono HB.out.size)⟩
        case measure => simp [intOf]; omega
      · have HP := Lib.hid hp
        clear hp
        go_wp2_with fail
        refine (HC.out u v _ HB.out).mono ?_
        rintro e w' ⟨rfl, hb2⟩
        rw [HP.out]
        have HB2 := Lib.hid hb2
        clear hb2
        go_wp2_with fail
        go_ret
        exact ⟨(k : Int), rfl, fun h => (by rw [HY.out HP.out] at h; cases h), fun _ => by omega, HB.out.trans (HB2.out.mono HB.out.size)⟩
    · have hz2 : l.any p = false := by rw [List.take_of_length_le (by omega)] at hz; exact hz
      have HZ := Lib.hid hz2
      have HB := Lib.hid hb
      clear hz hz2 hb
      go_wp2_with fail
      go_ret
      exact ⟨-1, rfl, fun _ => rfl, fun h => (by rw [HZ.out] at h; cases h), HB.out⟩

set_option maxRecDepth 100000 in
theorem contains_formed (p : E2 → Bool) (l : List E2) (a : Option Addr) (n c : Nat) (w : World) (gb : Nat) (C : ∀ (u v : Int) (W : World), Below w.heap.size w W → Calls Try.prog 37 #[.agg #[.int .i64 u, .int .i64 v], .pointer (some ⟨gb, 0, none⟩)] W fun e w' => e = .returned (.bool (p (u, v))) ∧ Below W.heap.size W w')
    (hr : ERow w a l) (hn : l.length = n) (hl : n < 4611686018427387904) :
    Calls Try.prog 36 #[.slice a n c, .func (.func 37) #[] #[.pointer (some ⟨gb, 0, none⟩)]] w fun e w' => e = .returned (.bool (l.any p)) ∧ Below w.heap.size w w' := by
  have HI := Lib.hid (index_formed p l a n c w gb C hr hn hl)
  clear hr C
  go_enter Try.func36, Try.ntmps36
  go_wp2_with fail
  refine HI.out.mono ?_
  rintro e w' ⟨i, rfl, h1, h2, hb⟩
  cases hz : l.any p
  · obtain rfl := h1 hz
    have HZ := Lib.hid hz
    have HB := Lib.hid hb
    clear h1 h2 hz hb
    go_wp2_with fail
    go_ret
    exact ⟨congrArg (fun b => Ending.returned (.bool b)) HZ.out.symm, HB.out⟩
  · have h3 := h2 hz
    have HB := Lib.hid hb
    have HZ := Lib.hid hz
    clear h1 h2 hz hb
    go_wp2_with fail
    go_ret
    exact ⟨congrArg (fun b => Ending.returned (.bool b)) HZ.out.symm, HB.out⟩

set_option maxRecDepth 100000 in
set_option maxHeartbeats 400000 in
theorem index_ordered (p : E2 → Bool) (l : List E2) (a : Option Addr) (n c : Nat) (w : World) (C : ∀ (u v : Int) (W : World), Below w.heap.size w W → Calls Try.prog 40 #[.agg #[.int .i64 u, .int .i64 v]] W fun e w' => e = .returned (.bool (p (u, v))) ∧ Below W.heap.size W w')
    (hr : ERow w a l) (hn : l.length = n) (hl : n < 4611686018427387904) :
    Calls Try.prog 50 #[.slice a n c, .func (.func 40) #[] #[]] w (FirstE p l w) := by
  subst hn
  have HC := Lib.hid C
  clear C
  go_enter Try.func50, Try.ntmps50
  go_wp2_with fail
  go_loopw [8] (fun iv wr => IdxLoop p l w iv wr) (fun iv _ => l.length - (intOf iv).toNat)
  case atStart => exact ⟨0, rfl, by omega, rfl, Below.refl _ _⟩
  case round =>
    obtain ⟨k, rfl, hk, hz, hb⟩ := hrel
    by_cases hlt : (k : Int) < l.length
    · have hkl : k < l.length := by omega
      obtain ⟨b, o, rfl, hc1, hc2, hbl⟩ := hr k hkl
      have d1 : wr.cell? ⟨b, o + k * 2, none⟩ = some (.int .i64 l[k].1) := by rw [hb.cell hbl, hc1]
      have d2 : wr.cell? ⟨b, o + k * 2 + 1, none⟩ = some (.int .i64 l[k].2) := by rw [hb.cell hbl, hc2]
      have hyes := any_at p l k hkl
      have hno := any_succ p l k hkl hz
      generalize l[k] = x at *
      obtain ⟨u, v⟩ := x
      simp only at d1 d2
      have HY := Lib.hid hyes
      have HNO := Lib.hid hno
      have HB := Lib.hid hb
      clear hyes hno hz hr hc1 hc2 hb
      cases hp : p (u, v)
      · have HP := Lib.hid hp
        clear hp
        go_wp2_with fail
        refine (HC.out u v _ HB.out).mono ?_
        rintro e w' ⟨rfl, hb2⟩
        rw [HP.out]
        have HB2 := Lib.hid hb2
        clear hb2
        go_wp2_with fail
        go_roundw
        case rel => exact ⟨k + 1, by go_num, by omega, HNO.out HP.out, HB.out.trans (HB2.out.mono HB.out.size)⟩
        case measure => simp [intOf]; omega
      · have HP := Lib.hid hp
        clear hp
        go_wp2_with fail
        refine (HC.out u v _ HB.out).mono ?_
        rintro e w' ⟨rfl, hb2⟩
        rw [HP.out]
        have HB2 := Lib.hid hb2
        clear hb2
        go_wp2_with fail
        go_ret
        exact ⟨(k : Int), rfl, fun h => (by rw [HY.out HP.out] at h; cases h), fun _ => by omega, HB.out.trans (HB2.out.mono HB.out.size)⟩
    · have hz2 : l.any p = false := by rw [List.take_of_length_le (by omega)] at hz; exact hz
      have HZ := Lib.hid hz2
      have HB := Lib.hid hb
      clear hz hz2 hb
      go_wp2_with fail
      go_ret
      exact ⟨-1, rfl, fun _ => rfl, fun h => (by rw [HZ.out] at h; cases h), HB.out⟩

set_option maxRecDepth 100000 in
theorem contains_ordered (p : E2 → Bool) (l : List E2) (a : Option Addr) (n c : Nat) (w : World) (C : ∀ (u v : Int) (W : World), Below w.heap.size w W → Calls Try.prog 40 #[.agg #[.int .i64 u, .int .i64 v]] W fun e w' => e = .returned (.bool (p (u, v))) ∧ Below W.heap.size W w')
    (hr : ERow w a l) (hn : l.length = n) (hl : n < 4611686018427387904) :
    Calls Try.prog 36 #[.slice a n c, .func (.func 40) #[] #[]] w fun e w' => e = .returned (.bool (l.any p)) ∧ Below w.heap.size w w' := by
  have HI := Lib.hid (index_ordered p l a n c w C hr hn hl)
  clear hr C
  go_enter Try.func36, Try.ntmps36
  go_wp2_with fail
  refine HI.out.mono ?_
  rintro e w' ⟨i, rfl, h1, h2, hb⟩
  cases hz : l.any p
  · obtain rfl := h1 hz
    have HZ := Lib.hid hz
    have HB := Lib.hid hb
    clear h1 h2 hz hb
    go_wp2_with fail
    go_ret
    exact ⟨congrArg (fun b => Ending.returned (.bool b)) HZ.out.symm, HB.out⟩
  · have h3 := h2 hz
    have HB := Lib.hid hb
    have HZ := Lib.hid hz
    clear h1 h2 hz hb
    go_wp2_with fail
    go_ret
    exact ⟨congrArg (fun b => Ending.returned (.bool b)) HZ.out.symm, HB.out⟩

end Go.Proofs.Ytlepmefknglkeaa.Gr
