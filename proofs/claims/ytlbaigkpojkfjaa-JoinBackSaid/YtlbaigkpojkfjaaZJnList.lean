/- Files listed, tables opened. -/
import Derived.Test.YtlbaigkpojkfjaaK14
set_option linter.unusedVariables false
namespace Go.Proofs.Ytlbaigkpojkfjaa.Fl
open Go.RowKit

section
variable {w w' : World} {O : Nat → Prop} {K : Key} {W : Wk}
/-- List of a file that is held, where no fault comes. -/
theorem list_f {first wN c0 a0 : Nat} {l : List Tup} (hI : WkI w O K W) (hF : Fine W c0 a0) (hfa : W.D.fault = -1) (hH : Held W first wN l) (ha : a0 ≤ 500000000000) :
    Calls Try.prog 15 #[P K.wk, .agg #[.int .i64 (first : Int), .int .i64 (nB 12 wN l.length : Int), .int .i64 (wN : Int), .int .i64 (l.length : Int)]] w (fun e w' => ∃ W' O' v, e = .returned (.tuple #[v, .int .i64 0]) ∧ w'.ownsRow w.heap.size 57 5 v l.length (flatT l) ∧ Okin w w' O O' ∧ WkI w' O' K W' ∧ Turn K (fun _ => False) w w' ∧ Fine W' c0 (a0 + 100000000) ∧ W'.D.fault = -1 ∧ After W W' 0) := by
  obtain ⟨n1, n5⟩ := hH.wid
  have hl := list_c wN first l hI hF.sure n1 n5 (by have := hH.few; omega) hH.fits (by rw [hF.size]; exact hH.lies) (.inr (by rw [hF.size, hF.blocks]; exact hH.fit)) (by have := hH.fit; omega) (by rw [hF.size, hF.used, hF.room]; omega) (by have := hF.acts; have := hH.few; omega)
  rw [hF.size] at hl
  refine hl.mono ?_
  rintro e w' ⟨W', O', ho, hI', ht, hW, hh⟩
  rcases hh with ⟨v, rfl, hown, hg⟩ | ⟨hbad, _⟩
  · exact ⟨W', O', v, rfl, hown, ho, hI', ht, ⟨hW.size.trans hF.size, hW.blocks.trans hF.blocks, hW.sure, by rw [hW.arn]; exact hF.used, by rw [hW.arn]; exact hF.room, hW.B.trans hF.B, fun b h1 h2 => by rw [hW.L]; exact hF.free b h1 h2, by have := hW.acts; have := hF.acts; omega⟩, hW.fault hfa, ⟨fun f v m hm => hm.stay hW.size (fun b hb => by rw [← hW.L]; exact hb) (fun i _ => by rw [hW.now]), by rw [hW.L]; rfl, hW.fault⟩⟩
  · exact absurd hfa hbad
end

theorem table_open {w : World} {cs : Array Value} {p : Int × List (List Int)} (h : rdPair 1 1 (rdInt .u8) (rdSlice 5 (rdArr 5 1 (rdInt .i64))) w cs.toList p) :
    ∃ (x : Nat) (a : Option Addr) (c : Nat) (lt : List Tup), cs = #[.int .u8 (x : Int), .slice a lt.length c] ∧ x < 256 ∧ (∀ t ∈ lt, t.length = 5) ∧ lt.length ≤ maxLen ∧ ∀ K : Key, w.heap.size ≤ K.base → Tps K w a lt := by
  obtain ⟨hl, ⟨h1, hx⟩, h2⟩ := h
  obtain ⟨cs⟩ := cs
  match cs, hl with
  | [u, v], _ =>
    simp at h1 h2
    obtain ⟨a, n, c, hv, _⟩ := (show ∃ a n c, v = .slice a n c ∧ True from by
      obtain ⟨a', n', c', e, _⟩ := h2
      simp only [List.cons.injEq, and_true] at e
      exact ⟨a', n', c', e, trivial⟩)
    subst hv
    obtain ⟨lt, hn, h5, hm, _, hT⟩ := tups_of h2
    subst hn
    have hb := u_bounds.2.2.1 hx
    refine ⟨p.1.toNat, a, c, lt, ?_, by omega, h5, hm, hT⟩
    rw [h1, show ((p.1.toNat : Nat) : Int) = p.1 from by omega]

end Go.Proofs.Ytlbaigkpojkfjaa.Fl
