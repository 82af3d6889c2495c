/- What join's looker does, in plain words. -/
import Derived.Test.YtlbaigkpojkfjaaK14
set_option linter.unusedVariables false
namespace Go.Proofs.Ytlbaigkpojkfjaa.Fl
open Go.RowKit

/-- A column of a tuple. -/
def col (t : Tup) (i : Nat) : Int := (t.getD i 0#64).toInt
/-- A looker: how many tuples it was told, the one that it stands at, its last key. -/
structure Lk where
  m : Nat
  t : Tup
  ok : Bool
  begun : Bool
  last : Int
  any : Bool
def Lk.init : Lk := ⟨0, zeros 5, false, false, 0, false⟩
def Lk.at_ (L : Lk) (t : Tup) (ok : Bool) (m : Nat) : Lk := { L with m := m, t := t, ok := ok, begun := true }
/-- A step on. -/
def Lk.step (lb : List Tup) (L : Lk) : Lk := if h : L.m < lb.length then L.at_ lb[L.m] true (L.m + 1) else L.at_ (zeros 5) false L.m
/-- The step shows that the keys don't rise. -/
def Lk.bad (lb : List Tup) (L : Lk) : Bool := (L.begun && L.ok) && decide (L.m < lb.length ∧ col (lb.getD L.m []) 0 ≤ col L.t 0)
def Lk.due (L : Lk) (k : Int) : Bool := !L.begun || (L.ok && decide (col L.t 0 < k))
/-- Steps until none is due; false: the keys don't rise. -/
def seek (lb : List Tup) : Nat → Lk → Int → Lk × Bool
  | 0, L, _ => (L, true)
  | n + 1, L, k => if L.due k then (if L.bad lb then (L.step lb, false) else seek lb n (L.step lb) k) else (L, true)
def Lk.todo (lb : List Tup) (L : Lk) : Nat := (lb.length - L.m) + (if L.begun && !L.ok then 0 else 1)
theorem todo_step {lb : List Tup} {L : Lk} {k : Int} (h : L.due k = true) : (L.step lb).todo lb < L.todo lb := by
  have h1 : (L.begun && !L.ok) = false := by
    unfold Lk.due at h
    cases hb : L.begun <;> cases ho : L.ok <;> rw [hb, ho] at h <;> first | rfl | (simp at h)
  unfold Lk.step
  split
  · rename_i hl
    show lb.length - (L.m + 1) + (if (true && !true) = true then 0 else 1) < lb.length - L.m + (if (L.begun && !L.ok) = true then 0 else 1)
    rw [h1]
    simp
    omega
  · rename_i hl
    show lb.length - L.m + (if (true && !false) = true then 0 else 1) < lb.length - L.m + (if (L.begun && !L.ok) = true then 0 else 1)
    rw [h1]
    simp
theorem seek_more {lb : List Tup} {k : Int} : ∀ (n m : Nat) (L : Lk), L.todo lb < n → L.todo lb < m → seek lb n L k = seek lb m L k
  | 0, _, L, h, _ => absurd h (by omega)
  | _, 0, L, _, h => absurd h (by omega)
  | n + 1, m + 1, L, hn, hm => by
    unfold seek
    by_cases hd : L.due k = true
    · rw [if_pos hd, if_pos hd]
      by_cases hb : L.bad lb = true
      · rw [if_pos hb, if_pos hb]
      · rw [if_neg hb, if_neg hb]
        have := todo_step (lb := lb) hd
        exact seek_more n m _ (by omega) (by omega)
    · rw [if_neg hd, if_neg hd]
def sought (lb : List Tup) (L : Lk) (k : Int) : Lk × Bool := seek lb (L.todo lb + 1) L k
theorem sought_done {lb : List Tup} {L : Lk} {k : Int} (h : L.due k = false) : sought lb L k = (L, true) := by
  unfold sought seek
  rw [h]; rfl
theorem sought_bad {lb : List Tup} {L : Lk} {k : Int} (h : L.due k = true) (hb : L.bad lb = true) : sought lb L k = (L.step lb, false) := by
  unfold sought seek
  rw [if_pos h, if_pos hb]
theorem sought_step {lb : List Tup} {L : Lk} {k : Int} (h : L.due k = true) (hb : L.bad lb = false) : sought lb L k = sought lb (L.step lb) k := by
  unfold sought
  rw [show seek lb (L.todo lb + 1) L k = seek lb (L.todo lb) (L.step lb) k from by
    conv => lhs; unfold seek
    rw [if_pos h, hb]; rfl]
  have := todo_step (lb := lb) h
  exact seek_more _ _ _ (by omega) (by omega)
/-- One look: the looker behind it, what is made of the tuple, and the error. -/
def Lk.key (L : Lk) (k : Int) : Lk := { L with last := k, any := true }
def found (L : Lk) (val : Nat) (k : Int) : BitVec 64 := if L.ok && decide (col L.t 0 = k) then L.t.getD val 0#64 else 18446744073709551615#64
def looked (lb : List Tup) (key val dst : Nat) (L : Lk) (t : Tup) : Lk × Tup × Bool :=
  if L.any && decide (col t key < L.last) then (L, t, false)
  else
    let s := sought lb (L.key (col t key)) (col t key)
    if s.2 then (s.1, t.set dst (found s.1 val (col t key)), true) else (s.1, t, false)
def lkAt (lb : List Tup) (key val dst : Nat) (la : List Tup) : Nat → Lk
  | 0 => Lk.init
  | k + 1 => (looked lb key val dst (lkAt lb key val dst la k) (la.getD k [])).1
def lkMk (lb : List Tup) (key val dst : Nat) (la : List Tup) (k : Nat) : Tup := (looked lb key val dst (lkAt lb key val dst la k) (la.getD k [])).2.1
def lcells (xb key val dst : Nat) (L : Lk) : Array Value :=
  #[.func (.func 40) #[P xb] #[], .int .i64 (col L.t 0), .int .i64 (col L.t 1), .int .i64 (col L.t 2), .int .i64 (col L.t 3), .int .i64 (col L.t 4), .bool L.ok, .bool L.begun, .int .i64 (key : Int), .int .i64 (val : Int), .int .i64 (dst : Int), .int .i64 L.last, .bool L.any]
theorem col_bd (t : Tup) (i : Nat) : -9223372036854775808 ≤ col t i ∧ col t i ≤ 9223372036854775807 := toInt_bd _

theorem step_m (lb : List Tup) (L : Lk) : L.m ≤ (L.step lb).m := by
  unfold Lk.step
  split
  · exact Nat.le_succ _
  · exact Nat.le_refl _
theorem seek_m (lb : List Tup) (k : Int) : ∀ (n : Nat) (L : Lk), L.m ≤ (seek lb n L k).1.m
  | 0, L => Nat.le_refl _
  | n + 1, L => by
    unfold seek
    split
    · split
      · exact step_m lb L
      · exact Nat.le_trans (step_m lb L) (seek_m lb k n _)
    · exact Nat.le_refl _
theorem looked_m (lb : List Tup) (key val dst : Nat) (L : Lk) (t : Tup) : L.m ≤ (looked lb key val dst L t).1.m := by
  unfold looked
  split
  · exact Nat.le_refl _
  · have h : (L.key (col t key)).m ≤ (sought lb (L.key (col t key)) (col t key)).1.m := seek_m lb _ _ _
    simp only
    split
    · exact h
    · exact h
/-- Tuples that are numbered from c on, looked up in themselves by their numbers. -/
theorem looked_own {l : List Tup} {val dst : Nat} {c : Int} (h : ∀ k, k < l.length → col (l.getD k []) 0 = c + k) {k : Nat} (hk : k < l.length) (hL : (k = 0 ∧ lkAt l 0 val dst l k = Lk.init) ∨ (0 < k ∧ lkAt l 0 val dst l k = ⟨k, l.getD (k - 1) [], true, true, c + ((k - 1 : Nat) : Int), true⟩)) :
    looked l 0 val dst (lkAt l 0 val dst l k) (l.getD k []) = (⟨k + 1, l.getD k [], true, true, c + (k : Int), true⟩, (l.getD k []).set dst ((l.getD k []).getD val 0#64), true) := by
  have hc := h k hk
  have hgd : l.getD k [] = l[k] := by simp [List.getD_eq_getElem?_getD, hk]
  have fin : ∀ L : Lk, L.m = k → L.due (c + k) = true → L.bad l = false → L.last = c + k → L.any = true → sought l L (c + k) = (⟨k + 1, l.getD k [], true, true, c + (k : Int), true⟩, true) := by
    intro L hm hd hb hla hany
    rw [sought_step hd hb]
    have hst : L.step l = ⟨k + 1, l.getD k [], true, true, c + (k : Int), true⟩ := by
      unfold Lk.step
      rw [dif_pos (by omega)]
      unfold Lk.at_
      subst hm
      rw [hgd, hla, hany]
    rw [hst]
    refine sought_done ?_
    show (!true || (true && decide (col (l.getD k []) 0 < c + (k : Int)))) = false
    rw [hc]
    simp
  have hfo : found ⟨k + 1, l.getD k [], true, true, c + (k : Int), true⟩ val (c + k) = (l.getD k []).getD val 0#64 := by
    show (if (true && decide (col (l.getD k []) 0 = c + (k : Int))) = true then _ else _) = _
    rw [hc, if_pos (by simp)]
  rcases hL with ⟨rfl, hL⟩ | ⟨h0, hL⟩
  · rw [hL]
    unfold looked
    rw [if_neg (by unfold Lk.init; simp), hc]
    rw [fin (Lk.init.key (c + (0 : Nat))) rfl rfl rfl rfl rfl]
    exact congrArg (fun x => ((⟨0 + 1, l.getD 0 [], true, true, c + ((0 : Nat) : Int), true⟩ : Lk), (l.getD 0 []).set dst x, true)) hfo
  · rw [hL]
    unfold looked
    have hc' := h (k - 1) (by omega)
    rw [if_neg (by
      show ¬ (true && decide (col (l.getD k []) 0 < c + ((k - 1 : Nat) : Int))) = true
      rw [hc]
      simp
      try omega), hc]
    rw [fin _ rfl (by
      show (!true || (true && decide (col (l.getD (k - 1) []) 0 < c + (k : Int)))) = true
      rw [hc']
      simp
      try omega) (by
      show ((true && true) && decide (k < l.length ∧ col (l.getD k []) 0 ≤ col (l.getD (k - 1) []) 0)) = false
      rw [hc, hc']
      simp
      try omega) rfl rfl]
    exact congrArg (fun x => ((⟨k + 1, l.getD k [], true, true, c + (k : Int), true⟩ : Lk), (l.getD k []).set dst x, true)) hfo
theorem lkAt_own {l : List Tup} {val dst : Nat} {c : Int} (h : ∀ k, k < l.length → col (l.getD k []) 0 = c + k) : ∀ k, k ≤ l.length → (k = 0 ∧ lkAt l 0 val dst l k = Lk.init) ∨ (0 < k ∧ lkAt l 0 val dst l k = ⟨k, l.getD (k - 1) [], true, true, c + ((k - 1 : Nat) : Int), true⟩)
  | 0, _ => .inl ⟨rfl, rfl⟩
  | k + 1, hk => by
    refine .inr ⟨Nat.succ_pos _, ?_⟩
    show (looked l 0 val dst (lkAt l 0 val dst l k) (l.getD k [])).1 = _
    rw [looked_own h (by omega) (lkAt_own h k (by omega))]
    rfl
theorem lkMk_own {l : List Tup} {val dst : Nat} {c : Int} (h : ∀ k, k < l.length → col (l.getD k []) 0 = c + k) {k : Nat} (hk : k < l.length) : lkMk l 0 val dst l k = (l.getD k []).set dst ((l.getD k []).getD val 0#64) := by
  unfold lkMk
  rw [looked_own h hk (lkAt_own h k (by omega))]

end Go.Proofs.Ytlbaigkpojkfjaa.Fl
