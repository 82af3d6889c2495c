/- The walks of the reference of chapter 03: less, Formed. -/
import Derived.Test.YtlepmefknglkeaaGrSame
set_option linter.unusedVariables false
namespace Go.Proofs.Ytlepmefknglkeaa.Gr
open Go.RowKit

def lessE (p q : E2) : Bool := decide (cmpE p q < 0)
theorem lessE_t1 {u v x y : Int} (h : u < x) : lessE (u, v) (x, y) = true := by
  unfold lessE cmpE orI cmpI
  simp [h]
theorem lessE_t2 {u v y : Int} (h : v < y) : lessE (u, v) (u, y) = true := by
  unfold lessE cmpE orI cmpI
  simp [h]
theorem lessE_f2 {u v y : Int} (h : ¬ v < y) : lessE (u, v) (u, y) = false := by
  unfold lessE cmpE orI cmpI
  simp [h]
  split <;> omega
theorem lessE_f1 {u v x y : Int} (h : ¬ u < x) (hn : ¬ u = x) : lessE (u, v) (x, y) = false := by
  unfold lessE cmpE orI cmpI
  have : x < u := by omega
  simp [h, this]

set_option maxRecDepth 100000 in
theorem less_any (u v x y : Int) (w : World) :
    Calls Try.prog 41 #[.agg #[.int .i64 u, .int .i64 v], .agg #[.int .i64 x, .int .i64 y]] w (Told w (lessE (u, v) (x, y))) := by
  have h0 : Below w.heap.size w ((w.alloc (.cells #[.int .i64 u, .int .i64 v] 36)).alloc (.cells #[.int .i64 x, .int .i64 y] 36)) := ((Below.refl w.heap.size w).alloc (Nat.le_refl _) _).alloc (by simp) _
  have H0 := Lib.hid h0
  clear h0
  by_cases h1 : u < x
  · have HQ := Lib.hid (lessE_t1 (v := v) (y := y) h1)
    go_enter Try.func41, Try.ntmps41
    go_wp2_with fail
    go_ret
    exact ⟨congrArg (fun b => Ending.returned (.bool b)) HQ.out.symm, H0.out⟩
  · by_cases h2 : u = x
    · subst h2
      by_cases h3 : v < y
      · have HQ := Lib.hid (lessE_t2 (u := u) h3)
        go_enter Try.func41, Try.ntmps41
        go_wp2_with fail
        go_ret
        exact ⟨congrArg (fun b => Ending.returned (.bool b)) HQ.out.symm, H0.out⟩
      · have HQ := Lib.hid (lessE_f2 (u := u) h3)
        go_enter Try.func41, Try.ntmps41
        go_wp2_with fail
        go_ret
        exact ⟨congrArg (fun b => Ending.returned (.bool b)) HQ.out.symm, H0.out⟩
    · have HQ := Lib.hid (lessE_f1 (v := v) (y := y) h1 h2)
      have h2' : (u == x) = false := by simp [h2]
      go_enter Try.func41, Try.ntmps41
      go_wp2_with fail
      go_ret
      exact ⟨congrArg (fun b => Ending.returned (.bool b)) HQ.out.symm, H0.out⟩

def FormLoop (n : Int) (l : List E2) (W : World) (iv : Value) (wr : World) : Prop :=
  ∃ k : Nat, iv = .int .i64 (k : Int) ∧ k ≤ l.length ∧ (∀ i (h : i < l.length), i < k → okE n l[i] = true) ∧ Below W.heap.size W wr

set_option maxRecDepth 100000 in
set_option maxHeartbeats 1000000 in
theorem rformed_any (n : Int) (l : List E2) (a : Option Addr) (m c : Nat) (w : World) (hr : ERow w a l) (hm : l.length = m) (hmm : m ≤ 9223372036854775807) :
    Calls Try.prog 17 #[.agg #[.int .i64 n, .slice a m c]] w (Told w (formed n l)) := by
  subst hm
  have h0 : Below w.heap.size w (w.alloc (.cells #[.int .i64 n, .slice a l.length c] 24)) := (Below.refl w.heap.size w).alloc (Nat.le_refl _) _
  have H0 := Lib.hid h0
  by_cases hs : small n l.length = true
  · have hs2 : 0 ≤ n ∧ n ≤ 1073741824 ∧ (l.length : Int) ≤ 1073741824 := by
      unfold small at hs
      simp only [Bool.and_eq_true, decide_eq_true_eq] at hs
      omega
    obtain ⟨s1, s2, s3⟩ := hs2
    have HF := Lib.hid (show formed n l = l.all (okE n) by unfold formed; rw [hs]; rfl)
    have B0 := Lib.hid (Blk.new w 24 #[.int .i64 n, .slice a l.length c])
    have HR := Lib.hid (hr.below h0)
    clear hs hr h0
    go_enter Try.func17, Try.ntmps17
    go_wp2_with fail
    generalize w.alloc (.cells #[.int .i64 n, .slice a l.length c] 24) = W at *
    go_loopw [3] (fun iv wr => FormLoop n l W iv wr) (fun iv _ => l.length - (intOf iv).toNat)
    case atStart => exact ⟨0, rfl, by omega, fun _ _ h => absurd h (by omega), Below.refl _ _⟩
    case round =>
      obtain ⟨k, rfl, hk, hok, hb⟩ := hrel
      have g0 : wr.cell? ⟨w.heap.size, 0, none⟩ = some (.int .i64 n) := (B0.out.below hb B0.out.lt).cell 0
      have g1 : wr.cell? ⟨w.heap.size, 1, none⟩ = some (.slice a l.length c) := (B0.out.below hb B0.out.lt).cell 1
      have glt := Nat.lt_of_lt_of_le B0.out.lt hb.size
      have HB := Lib.hid hb
      by_cases hlt : (k : Int) < l.length
      · have k1 : k < l.length := by omega
        obtain ⟨b1, o1, rfl, c1, c2, _⟩ := (HR.out.below hb) k k1
        have hk0 : (0 : Int) ≤ (k : Int) := by omega
        have hyes : okE n l[k] = true → (∀ i (h : i < l.length), i < k + 1 → okE n l[i] = true) := fun h i hi hik => by
          by_cases e : i = k
          · subst e; exact h
          · exact hok i hi (by omega)
        have hno : okE n l[k] = false → formed n l = false := fun h => by
          rw [HF.out, List.all_eq_false]
          exact ⟨l[k], List.getElem_mem k1, by simp [h]⟩
        generalize l[k] = p1 at *
        obtain ⟨u, v⟩ := p1
        simp only at c1 c2
        have HY := Lib.hid hyes
        have HNO := Lib.hid hno
        clear hyes hno hok hb k1
        by_cases q1 : u < 0
        · have HQ := Lib.hid (HNO.out (by simp [okE, q1]))
          go_wp2_with fail
          go_ret
          exact ⟨congrArg (fun b => Ending.returned (.bool b)) HQ.out.symm, H0.out.trans ((HB.out.mono H0.out.size).alloc (by have := H0.out.size; have := HB.out.size; omega) _)⟩
        by_cases q2 : n ≤ u
        · have HQ := Lib.hid (HNO.out (by simp [okE, q2]))
          go_wp2_with fail
          go_ret
          exact ⟨congrArg (fun b => Ending.returned (.bool b)) HQ.out.symm, H0.out.trans ((HB.out.mono H0.out.size).alloc (by have := H0.out.size; have := HB.out.size; omega) _)⟩
        by_cases q3 : v < 0
        · have HQ := Lib.hid (HNO.out (by simp [okE, q3]))
          go_wp2_with fail
          go_ret
          exact ⟨congrArg (fun b => Ending.returned (.bool b)) HQ.out.symm, H0.out.trans ((HB.out.mono H0.out.size).alloc (by have := H0.out.size; have := HB.out.size; omega) _)⟩
        by_cases q4 : n ≤ v
        · have HQ := Lib.hid (HNO.out (by simp [okE, q4]))
          go_wp2_with fail
          go_ret
          exact ⟨congrArg (fun b => Ending.returned (.bool b)) HQ.out.symm, H0.out.trans ((HB.out.mono H0.out.size).alloc (by have := H0.out.size; have := HB.out.size; omega) _)⟩
        have HQ := Lib.hid (HY.out (by simp [okE, q1, q2, q3, q4]))
        go_wp2_with fail
        go_roundw
        case rel => exact ⟨k + 1, by go_num, by omega, HQ.out, HB.out.alloc (HB.out.size) _⟩
        case measure => simp [intOf]; omega
      · have hf : formed n l = true := by
          rw [HF.out, List.all_eq_true]
          intro e he
          obtain ⟨i, hi, rfl⟩ := List.getElem_of_mem he
          exact hok i hi (by omega)
        have HQ := Lib.hid hf
        clear hf hok hb
        go_wp2_with fail
        go_ret
        exact ⟨congrArg (fun b => Ending.returned (.bool b)) HQ.out.symm, H0.out.trans (HB.out.mono H0.out.size)⟩
  · have hf : formed n l = false := by
      unfold formed
      cases h : small n l.length
      · rfl
      · exact absurd h hs
    have HF := Lib.hid hf
    have hs2 : n < 0 ∨ 1073741824 < n ∨ 1073741824 < (l.length : Int) := by
      unfold small at hs
      simp only [Bool.and_eq_true, decide_eq_true_eq] at hs
      omega
    have hmi : (l.length : Int) ≤ 9223372036854775807 := by omega
    clear hf hs h0 hr hmm
    by_cases k1 : n < 0
    · clear hs2
      go_enter Try.func17, Try.ntmps17
      go_wp2_with fail
      go_ret
      exact ⟨congrArg (fun b => Ending.returned (.bool b)) HF.out.symm, H0.out⟩
    by_cases k2 : 1073741824 < n
    · clear hs2
      go_enter Try.func17, Try.ntmps17
      go_wp2_with fail
      go_ret
      exact ⟨congrArg (fun b => Ending.returned (.bool b)) HF.out.symm, H0.out⟩
    have k3 : 1073741824 < (l.length : Int) := by omega
    clear hs2
    go_enter Try.func17, Try.ntmps17
    go_wp2_with fail
    go_ret
    exact ⟨congrArg (fun b => Ending.returned (.bool b)) HF.out.symm, H0.out⟩

end Go.Proofs.Ytlepmefknglkeaa.Gr
