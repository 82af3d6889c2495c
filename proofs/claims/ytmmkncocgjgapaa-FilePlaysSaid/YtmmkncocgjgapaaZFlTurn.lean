/- Writers and readers beside what turns, where the set of the device's blocks turns too. -/
import Derived.Test.YtmmkncocgjgapaaK11
set_option linter.unusedVariables false
namespace Go.Proofs.Ytmmkncocgjgapaa.Fl
open Go.RowKit

section
variable {w w' : World} {O O' : Nat → Prop} {K : Key} {W W' : Wk} {E : Nat → Prop}
theorem BufAt.turn' {buf arr : Nat} {ws : List (BitVec 64)} (h : BufAt w O W buf arr ws) (hI : WkI w O K W) (ht : Turn K E w w') (h1 : ¬ E buf) (h2 : ¬ E arr) (hO : ∀ g, g < w.heap.size → O' g → O g) (hs : W'.D.size = W.D.size) (hst : ∀ p ∈ W.A.st, p.1 = buf → p ∈ W'.A.st) : BufAt w' O' W' buf arr ws := by
  have hb := h.turn (O' := O) (W' := W') hI ht h1 h2 (fun _ h => h) hs hst
  exact ⟨hb.blk, hb.row, hb.len, fun ho => h.out (hO _ h.row.lt ho), hb.st⟩
theorem WrAt.turn' {x : Nat} {X : Wr} (h : WrAt w O K W x X) (hI : WkI w O K W) (ht : Turn K E w w') (h0 : ¬ E x) (h1 : X.closed = false → ¬ E X.buf) (h2 : X.closed = false → ¬ E X.arr) (hO : ∀ g, g < w.heap.size → O' g → O g) (hs : W'.D.size = W.D.size) (hst : ∀ p ∈ W.A.st, p.1 = X.buf → p ∈ W'.A.st) : WrAt w' O' K W' x X :=
  ⟨hI.blk ht h.blk (by decide) (by decide) (by decide) (by decide) (by decide) h0, fun hc => (h.live hc).turn' hI ht (h1 hc) (h2 hc) hO hs hst, h.width, h.bound, h.lies⟩
theorem RdAt.turn' {x : Nat} {X : Rd} (h : RdAt w O K W x X) (hI : WkI w O K W) (ht : Turn K E w w') (h0 : ¬ E x) (h1 : X.closed = false → ¬ E X.buf) (h2 : X.closed = false → ¬ E X.arr) (hO : ∀ g, g < w.heap.size → O' g → O g) (hs : W'.D.size = W.D.size) (hst : ∀ p ∈ W.A.st, p.1 = X.buf → p ∈ W'.A.st) : RdAt w' O' K W' x X :=
  ⟨hI.blk ht h.blk (by decide) (by decide) (by decide) (by decide) (by decide) h0, fun hc => (h.live hc).turn' hI ht (h1 hc) (h2 hc) hO hs hst, h.width, h.count⟩
end

end Go.Proofs.Ytmmkncocgjgapaa.Fl
