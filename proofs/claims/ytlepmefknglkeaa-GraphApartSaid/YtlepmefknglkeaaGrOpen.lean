/- What a given graph is. -/
import Derived.Test.YtlepmefknglkeaaOpen5
import Derived.Test.YtlepmefknglkeaaGr
set_option linter.unusedVariables false
namespace Go.Proofs.Ytlepmefknglkeaa.Gr
open Go.RowKit

abbrev rdGraph : Rd (Int × List (Int × Int)) := rdPair 1 1 (rdInt .i64) (rdSlice 2 (rdPair 1 1 (rdInt .i64) (rdInt .i64)))
theorem graph_open {w : World} {cs : Array Value} {g : Int × List (Int × Int)} (h : rdGraph w cs.toList g) :
    ∃ a m c, cs = #[.int .i64 g.1, .slice a m c] ∧ ERow w a g.2 ∧ g.2.length = m ∧ m ≤ 9223372036854775807 ∧ (Lit.int .i64 g.1).wf = true ∧ ∀ x ∈ g.2, (Lit.int .i64 x.1).wf = true ∧ (Lit.int .i64 x.2).wf = true := by
  obtain ⟨hlen, ⟨h1, w1⟩, h2⟩ := h
  obtain ⟨cs⟩ := cs
  simp only at hlen h1 h2
  match cs, hlen with
  | [x, y], _ =>
    simp only [List.take, List.drop] at h1 h2
    have h2' := h2
    obtain ⟨a, m, c, e, -⟩ := h2'
    rw [e] at h2
    obtain ⟨p1, p2, p3, p4, p5⟩ := rdSlice_pairs h2
    injection h1 with hx
    injection e with hy
    subst hx
    subst hy
    exact ⟨a, m, c, rfl, p4, p1, by unfold maxLen at p3; omega, w1, p5⟩

end Go.Proofs.Ytlepmefknglkeaa.Gr
