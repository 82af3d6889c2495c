/- Graphs as they lie in memory, and the walk of graph.Formed. -/
import Derived.Test.YtlepmefknglkeaaRows
import Derived.Test.YtlepmefknglkeaaHeap
import Derived.Test.YtlepmefknglkeaaOpen5
set_option linter.unusedVariables false
namespace Go.Proofs.Ytlepmefknglkeaa.Gr
open Go.RowKit

abbrev E2 : Type := Int × Int

theorem below_d {B : Nat} {w w' : World} (h : Below B w w') (n : Nat) : Below B w (w'.drewN n) := h.trans ⟨rfl, rfl, rfl, Nat.le_refl _, fun _ _ => rfl⟩

/-- The slice's address leads to these edges. -/
def ERow (w : World) (a : Option Addr) (l : List E2) : Prop :=
  ∀ i (hi : i < l.length), ∃ b off, a = some ⟨b, off, none⟩ ∧ w.cell? ⟨b, off + i * 2, none⟩ = some (.int .i64 l[i].1) ∧ w.cell? ⟨b, off + i * 2 + 1, none⟩ = some (.int .i64 l[i].2) ∧ b < w.heap.size
theorem ERow.below {w w' : World} {a : Option Addr} {l : List E2} (h : ERow w a l) (hb : Below w.heap.size w w') : ERow w' a l := by
  intro i hi
  obtain ⟨b, off, e, h1, h2, h3⟩ := h i hi
  exact ⟨b, off, e, by rw [hb.cell h3, h1], by rw [hb.cell h3, h2], Nat.lt_of_lt_of_le h3 hb.size⟩

def okE (n : Int) (e : E2) : Bool := !decide (e.1 < 0) && !decide (e.2 < 0) && !decide (n ≤ e.1) && !decide (n ≤ e.2)
def small (n : Int) (m : Nat) : Bool := decide (0 ≤ n) && decide (n ≤ 1073741824) && decide (m ≤ 1073741824)
def formed (n : Int) (l : List E2) : Bool := small n l.length && l.all (okE n)

set_option maxRecDepth 100000 in
theorem formed1_any (u v n : Int) (gb : Nat) (w : World) (hg : w.cell? ⟨gb, 0, none⟩ = some (.int .i64 n)) (hgb : gb < w.heap.size) :
    Calls Try.prog 37 #[.agg #[.int .i64 u, .int .i64 v], .pointer (some ⟨gb, 0, none⟩)] w fun e w' => e = .returned (.bool (!okE n (u, v))) ∧ Below w.heap.size w w' := by
  have h0 : Below w.heap.size w (w.alloc (.cells #[.int .i64 u, .int .i64 v] 36)) := (Below.refl w.heap.size w).alloc (Nat.le_refl _) _
  have H0 := Lib.hid h0
  clear h0
  by_cases h1 : u < 0
  all_goals (by_cases h2 : v < 0)
  all_goals (by_cases h3 : n ≤ u)
  all_goals (by_cases h4 : n ≤ v)
  all_goals first | (exfalso; omega) | skip
  all_goals
    go_enter Try.func37, Try.ntmps37
    go_wp2_with fail
    go_ret
    first
      | exact ⟨congrArg (fun b => Ending.returned (.bool b)) (show true = !okE n (u, v) by simp [okE, h1, h2, h3, h4]), H0.out⟩
      | exact ⟨congrArg (fun b => Ending.returned (.bool b)) (show false = !okE n (u, v) by simp [okE, h1, h2, h3, h4]), H0.out⟩

end Go.Proofs.Ytlepmefknglkeaa.Gr
