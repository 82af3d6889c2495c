/- The walks of graph.Formed, the closure of Ordered, and the order of edges. -/
import Derived.Test.YtlepmefknglkeaaGrIdx
import Derived.Deep.RegionHeld3
set_option linter.unusedVariables false
namespace Go.Proofs.Ytlepmefknglkeaa.Gr
open Go.RowKit

theorem any_not (n : Int) (l : List E2) : (!(l.any fun e => !okE n e)) = l.all (okE n) := by
  induction l with
  | nil => rfl
  | cons x l ih =>
    rw [List.any_cons, List.all_cons, ← ih]
    cases okE n x <;> simp

def Told (w : World) (b : Bool) (e : Ending) (w' : World) : Prop := e = .returned (.bool b) ∧ Below w.heap.size w w'

set_option maxRecDepth 100000 in
set_option maxHeartbeats 400000 in
theorem formed_any (n : Int) (l : List E2) (a : Option Addr) (m c : Nat) (w : World) (hr : ERow w a l) (hm : l.length = m) (hmm : m ≤ 9223372036854775807) :
    Calls Try.prog 16 #[.agg #[.int .i64 n, .slice a m c]] w (Told w (formed n l)) := by
  have h0 : Below w.heap.size w (w.alloc (.cells #[.int .i64 n, .slice a m c] 24)) := (Below.refl w.heap.size w).alloc (Nat.le_refl _) _
  have H0 := Lib.hid h0
  by_cases hs : small n m = true
  · have hs2 : 0 ≤ n ∧ n ≤ 1073741824 ∧ (m : Int) ≤ 1073741824 := by
      unfold small at hs
      simp only [Bool.and_eq_true, decide_eq_true_eq] at hs
      omega
    obtain ⟨s1, s2, s3⟩ := hs2
    have B0 := Blk.new w 24 #[.int .i64 n, .slice a m c]
    have hC := contains_formed (fun e => !okE n e) l a m c (w.alloc (.cells #[.int .i64 n, .slice a m c] 24)) w.heap.size (fun u v W hW => formed1_any u v n w.heap.size W ((B0.below hW B0.lt).cell 0) (B0.below hW B0.lt).lt) (hr.below h0) hm (by omega)
    have HC := Lib.hid hC
    have hf : formed n l = !(l.any fun e => !okE n e) := by
      unfold formed
      rw [hm, hs, any_not]
      rfl
    have HF := Lib.hid hf
    clear hC hf hs h0 B0 hr hm
    go_enter Try.func16, Try.ntmps16
    go_wp2_with fail
    refine HC.out.mono ?_
    rintro e w1 ⟨rfl, hb1⟩
    have HB1 := Lib.hid hb1
    clear hb1
    generalize (l.any fun e => !okE n e) = bb at *
    go_wp2_with fail
    go_ret
    exact ⟨congrArg (fun b => Ending.returned (.bool b)) HF.out.symm, H0.out.trans (HB1.out.mono H0.out.size)⟩
  · have hf : formed n l = false := by
      unfold formed
      rw [hm]
      cases h : small n m
      · rfl
      · exact absurd h hs
    have HF := Lib.hid hf
    have hs2 : n < 0 ∨ 1073741824 < n ∨ 1073741824 < (m : Int) := by
      unfold small at hs
      simp only [Bool.and_eq_true, decide_eq_true_eq] at hs
      omega
    have hmi : (m : Int) ≤ 9223372036854775807 := by omega
    clear hf hs h0 hr hm hmm
    by_cases k1 : n < 0
    · clear hs2
      go_enter Try.func16, Try.ntmps16
      go_wp2_with fail
      go_ret
      exact ⟨congrArg (fun b => Ending.returned (.bool b)) HF.out.symm, H0.out⟩
    by_cases k2 : 1073741824 < n
    · clear hs2
      go_enter Try.func16, Try.ntmps16
      go_wp2_with fail
      go_ret
      exact ⟨congrArg (fun b => Ending.returned (.bool b)) HF.out.symm, H0.out⟩
    have k3 : 1073741824 < (m : Int) := by omega
    clear hs2
    go_enter Try.func16, Try.ntmps16
    go_wp2_with fail
    go_ret
    exact ⟨congrArg (fun b => Ending.returned (.bool b)) HF.out.symm, H0.out⟩

set_option maxRecDepth 100000 in
theorem ordered1_any (u v : Int) (w : World) :
    Calls Try.prog 40 #[.agg #[.int .i64 u, .int .i64 v]] w fun e w' => e = .returned (.bool (decide (v < u))) ∧ Below w.heap.size w w' := by
  go_enter Try.func40, Try.ntmps40
  go_wp2_with fail
  go_ret
  exact ⟨rfl, (Below.refl w.heap.size w).alloc (Nat.le_refl _) _⟩

/-- cmp.Compare. -/
def cmpI (a b : Int) : Int := if a < b then -1 else if b < a then 1 else 0
set_option maxRecDepth 100000 in
theorem compare_int (a b : Int) (w : World) :
    Calls Try.prog 52 #[.int .i64 a, .int .i64 b] w fun e w' => e = .returned (.int .i64 (cmpI a b)) ∧ w = w' := by
  have hn : ∀ x : Int, Calls Try.prog 58 #[.int .i64 x] w fun e w' => e = .returned (.bool false) ∧ w = w' := by
    intro x
    have hx : (x != x) = false := by simp
    go_enter Try.func58, Try.ntmps58
    go_wp2_with fail
    go_ret
    exact ⟨rfl, rfl⟩
  have HN := Lib.hid hn
  clear hn
  rcases Int.lt_trichotomy a b with h | h | h
  · have hc : cmpI a b = -1 := by unfold cmpI; rw [if_pos h]
    have HC := Lib.hid hc
    clear hc
    go_enter Try.func52, Try.ntmps52
    go_wp2_with fail
    refine (HN.out a).mono ?_
    rintro e w1 ⟨rfl, rfl⟩
    go_wp2_with fail
    refine (HN.out b).mono ?_
    rintro e w1 ⟨rfl, rfl⟩
    go_wp2_with fail
    go_ret
    exact ⟨congrArg (fun b => Ending.returned (.int .i64 b)) HC.out.symm, rfl⟩
  · subst h
    have hc : cmpI a a = 0 := by unfold cmpI; rw [if_neg (by omega), if_neg (by omega)]
    have HC := Lib.hid hc
    clear hc
    go_enter Try.func52, Try.ntmps52
    go_wp2_with fail
    refine (HN.out a).mono ?_
    rintro e w1 ⟨rfl, rfl⟩
    go_wp2_with fail
    refine (HN.out a).mono ?_
    rintro e w1 ⟨rfl, rfl⟩
    go_wp2_with fail
    go_ret
    exact ⟨congrArg (fun b => Ending.returned (.int .i64 b)) HC.out.symm, rfl⟩
  · have hc : cmpI a b = 1 := by unfold cmpI; rw [if_neg (by omega), if_pos h]
    have HC := Lib.hid hc
    clear hc
    go_enter Try.func52, Try.ntmps52
    go_wp2_with fail
    refine (HN.out a).mono ?_
    rintro e w1 ⟨rfl, rfl⟩
    go_wp2_with fail
    refine (HN.out b).mono ?_
    rintro e w1 ⟨rfl, rfl⟩
    go_wp2_with fail
    go_ret
    exact ⟨congrArg (fun b => Ending.returned (.int .i64 b)) HC.out.symm, rfl⟩

/-- cmp.Or of two numbers. -/
def orI (x y : Int) : Int := if x ≠ 0 then x else y
def OrLoop (x y : Int) (iv : Value) : Prop := ∃ k : Nat, iv = .int .i64 (k : Int) ∧ k ≤ 2 ∧ (0 < k → x = 0) ∧ (1 < k → y = 0)
set_option maxRecDepth 100000 in
theorem or_any (x y : Int) (b c : Nat) (w : World) (h0 : w.cell? ⟨b, 0, none⟩ = some (.int .i64 x)) (h1 : w.cell? ⟨b, 1, none⟩ = some (.int .i64 y)) :
    Calls Try.prog 51 #[.slice (some ⟨b, 0, none⟩) 2 c] w fun e w' => e = .returned (.int .i64 (orI x y)) ∧ w = w' := by
  go_enter Try.func51, Try.ntmps51
  go_wp2_with fail
  go_loop [8] (fun iv => OrLoop x y iv) (fun iv => 2 - (intOf iv).toNat)
  case atStart => exact ⟨0, rfl, by omega, fun h => absurd h (by omega), fun h => absurd h (by omega)⟩
  case round =>
    obtain ⟨k, rfl, hk, hx0, hy0⟩ := hrel
    rcases (by omega : k = 0 ∨ k = 1 ∨ k = 2) with rfl | rfl | rfl
    · clear hx0 hy0
      by_cases hx : x = 0
      · have hxe : (x != 0) = false := by simp [hx]
        have HX := Lib.hid hx
        clear hx
        go_wp2_with fail
        go_round
        case rel => exact ⟨1, rfl, by omega, fun _ => HX.out, fun h => absurd h (by omega)⟩
        case measure => simp [intOf]
      · have hxe : (x != 0) = true := by simp [hx]
        have ho : orI x y = x := by unfold orI; rw [if_pos hx]
        have HO := Lib.hid ho
        clear ho hx
        go_wp2_with fail
        go_ret
        exact ⟨congrArg (fun b => Ending.returned (.int .i64 b)) HO.out.symm, rfl⟩
    · have hx := hx0 (by omega)
      clear hx0 hy0
      by_cases hy : y = 0
      · have hye : (y != 0) = false := by simp [hy]
        have HX := Lib.hid hx
        have HY := Lib.hid hy
        clear hx hy
        go_wp2_with fail
        go_round
        case rel => exact ⟨2, rfl, by omega, fun _ => HX.out, fun _ => HY.out⟩
        case measure => simp [intOf]
      · have hye : (y != 0) = true := by simp [hy]
        have ho : orI x y = y := by unfold orI; rw [if_neg (by simp [hx])]
        have HO := Lib.hid ho
        clear ho hy hx
        go_wp2_with fail
        go_ret
        exact ⟨congrArg (fun b => Ending.returned (.int .i64 b)) HO.out.symm, rfl⟩
    · have ho : orI x y = 0 := by unfold orI; rw [if_neg (by simp [hx0 (by omega)]), hy0 (by omega)]
      have HO := Lib.hid ho
      clear ho hx0 hy0
      go_wp2_with fail
      go_ret
      exact ⟨congrArg (fun b => Ending.returned (.int .i64 b)) HO.out.symm, rfl⟩

/-- The order of edges. -/
def cmpE (p q : E2) : Int := orI (cmpI p.1 q.1) (cmpI p.2 q.2)
set_option maxRecDepth 100000 in
set_option maxHeartbeats 400000 in
theorem compare_any (u v x y : Int) (w : World) :
    Calls Try.prog 39 #[.agg #[.int .i64 u, .int .i64 v], .agg #[.int .i64 x, .int .i64 y]] w fun e w' => e = .returned (.int .i64 (cmpE (u, v) (x, y))) ∧ Below w.heap.size w w' := by
  have B1 := (Blk.new w 36 #[.int .i64 u, .int .i64 v]).alloc (.cells #[.int .i64 x, .int .i64 y] 36)
  have B2 := Blk.new (w.alloc (.cells #[.int .i64 u, .int .i64 v] 36)) 36 #[.int .i64 x, .int .i64 y]
  rw [show (w.alloc (.cells #[.int .i64 u, .int .i64 v] 36)).heap.size = w.heap.size + 1 from by simp] at B2
  have b0 : Below w.heap.size w ((w.alloc (.cells #[.int .i64 u, .int .i64 v] 36)).alloc (.cells #[.int .i64 x, .int .i64 y] 36)) := ((Below.refl w.heap.size w).alloc (Nat.le_refl _) _).alloc (by simp) _
  have H0 := Lib.hid b0
  have HB1 := Lib.hid B1
  have HB2 := Lib.hid B2
  clear b0 B1 B2
  go_enter Try.func39, Try.ntmps39
  go_wp2_with fail
  have k1 : ((w.alloc (.cells #[.int .i64 u, .int .i64 v] 36)).alloc (.cells #[.int .i64 x, .int .i64 y] 36)).cell? ⟨w.heap.size, 0, none⟩ = some (.int .i64 u) := HB1.out.cell 0
  have k2 : ((w.alloc (.cells #[.int .i64 u, .int .i64 v] 36)).alloc (.cells #[.int .i64 x, .int .i64 y] 36)).cell? ⟨w.heap.size, 1, none⟩ = some (.int .i64 v) := HB1.out.cell 1
  have k3 : ((w.alloc (.cells #[.int .i64 u, .int .i64 v] 36)).alloc (.cells #[.int .i64 x, .int .i64 y] 36)).cell? ⟨w.heap.size + 1, 0, none⟩ = some (.int .i64 x) := HB2.out.cell 0
  have k4 : ((w.alloc (.cells #[.int .i64 u, .int .i64 v] 36)).alloc (.cells #[.int .i64 x, .int .i64 y] 36)).cell? ⟨w.heap.size + 1, 1, none⟩ = some (.int .i64 y) := HB2.out.cell 1
  generalize (w.alloc (.cells #[.int .i64 u, .int .i64 v] 36)).alloc (.cells #[.int .i64 x, .int .i64 y] 36) = W at *
  go_region_held3 (fun w' => w'.cell? ⟨w.heap.size, 0, none⟩ = some (.int .i64 u) ∧ w'.cell? ⟨w.heap.size, 1, none⟩ = some (.int .i64 v) ∧ w'.cell? ⟨w.heap.size + 1, 0, none⟩ = some (.int .i64 x) ∧ w'.cell? ⟨w.heap.size + 1, 1, none⟩ = some (.int .i64 y))
    (go_keep)
    ((first
      | (go_at_call 52; refine (compare_int _ _ _).mono ?_; rintro e w' ⟨rfl, rfl⟩)
      | (go_at_call 51; refine (or_any (cmpI u x) (cmpI v y) _ _ _ (by simp) (by simp)).mono ?_; rintro e w' ⟨rfl, rfl⟩)))
  all_goals
    go_wp2_with fail
    go_ret
    first
      | exact ⟨rfl, (H0.out.drew.alloc H0.out.size _)⟩
      | exact ⟨rfl, (H0.out.alloc H0.out.size _).drew⟩
      | exact ⟨rfl, (H0.out.alloc H0.out.size _)⟩

end Go.Proofs.Ytlepmefknglkeaa.Gr
