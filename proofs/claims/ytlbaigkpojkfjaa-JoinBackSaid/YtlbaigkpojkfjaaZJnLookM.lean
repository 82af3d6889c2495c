/- The looker as a maker. -/
import Derived.Test.YtlbaigkpojkfjaaZJnLookW
set_option linter.unusedVariables false
namespace Go.Proofs.Ytlbaigkpojkfjaa.Fl
open Go.RowKit

/-- What is kept of a looker to the end: its reader, open or closed. -/
def JEL (K : Key) (n xb b d : Nat) (h : Nat) (w : World) (O : Nat → Prop) (W : Wk) : Prop :=
  W.D.size = n ∧ ((h = n ∧ ∃ X, RdAt w O K W xb X ∧ X.closed = false ∧ X.buf = b ∧ X.arr = d) ∨ (h = 0 ∧ ∃ X, RdAt w O K W xb X ∧ X.closed = true))
theorem stays_l (K : Key) (n lb xb b d : Nat) : Stays K (EjL lb xb b d) (JEL K n xb b d) := by
  intro h w w' O O' W W' E hj hI ht hE hO hs hst
  obtain ⟨hn, hj⟩ := hj
  refine ⟨hs.trans hn, ?_⟩
  rcases hj with ⟨e, X, hX, hc, hb, hd⟩ | ⟨e, X, hX, hc⟩
  · exact .inl ⟨e, X, hX.turn' hI ht (hE _ (.inr (.inl rfl))) (fun _ => hE _ (.inr (.inr (.inl hb)))) (fun _ => hE _ (.inr (.inr (.inr hd)))) hO hs (fun p hp e => hst p hp (.inr (.inr (.inl (e.trans hb))))), hc, hb, hd⟩
  · exact .inr ⟨e, X, ⟨hI.blk ht hX.blk (by decide) (by decide) (by decide) (by decide) (by decide) (hE _ (.inr (.inl rfl))), (fun h => by rw [hc] at h; cases h), hX.width, hX.count⟩, hc⟩

section
variable {K : Key} {W0 : Wk}
theorem look_maker {n lb xb b d key val dst first wN : Nat} {l la : List Tup} (L0 : List Sp.Ext) (hk : key < 5) (hv : val < 5) (hd : dst < 5) (hf : FitsW wN l) (h5 : ∀ t ∈ la, t.length = 5) (hl : l.length ≤ 100000) (blocks : Nat) (hfit : nB n wN l.length = 0 ∨ first + nB n wN l.length ≤ blocks) (hfs : first ≤ 1000000) (hheld : ∀ j, j < nB n wN l.length → ¬ Sp.Fr L0 (first + j)) :
    Rich 48 (P lb) K L0 (EjL lb xb b d) n
      (fun k m w O W => W.D.size = n ∧ W.D.blocks = blocks ∧ m = (lkAt l key val dst la k).m ∧ (∀ q, EjL lb xb b d q → q < w.heap.size) ∧ ∃ X, LkI w O K W lb xb b d key val dst first wN l (lkAt l key val dst la k) X)
      (JEL K n xb b d) (fun er => er = 3 ∧ ∃ k, k < la.length ∧ (looked l key val dst (lkAt l key val dst la k) (la.getD k [])).2.2 = false) la (lkMk l key val dst la) (fun _ => true) where
  call := by
    intro k hkl m w O W hI hJ hs hac
    obtain ⟨rfl, rfl, rfl, hlt, X, hX⟩ := hJ
    have h5k : la[k].length = 5 := h5 _ (List.getElem_mem hkl)
    have hg : la.getD k [] = la[k] := by simp [hkl]
    have hlow := hX.has.low
    have hm := hX.live.2.1
    refine (look_any la[k] hI hX hs hf hfit hfs hk hv hd h5k (by omega) hlt).mono ?_
    rintro e w' ⟨ht, D', hC, hh⟩
    refine ⟨ht, ?_⟩
    rcases hh with ⟨X', hgood, rfl, hA, hI', hX'⟩ | ⟨er, m', rfl, hA, hm1, hm2, hh⟩
    · refine ⟨_, D', ?_, ?_, hC, .inl ⟨?_, hI', hC.size, hC.blocks, rfl, fun q hq => Nat.lt_of_lt_of_le (hlt q hq) ht.size, X', ?_⟩⟩
      · show (lkAt l key val dst la k).m ≤ (looked l key val dst (lkAt l key val dst la k) (la.getD k [])).1.m
        exact looked_m l key val dst _ _
      · show D'.acts + _ ≤ _ + (looked l key val dst (lkAt l key val dst la k) (la.getD k [])).1.m
        rw [hg]
        exact hA
      · unfold lkMk
        rw [hg]
      · show LkI _ _ _ _ _ _ _ _ _ _ _ _ _ _ (looked l key val dst (lkAt l key val dst la k) (la.getD k [])).1 _
        rw [hg]
        exact hX'
    · refine ⟨m', D', hm1, hA, hC, .inr ?_⟩
      rcases hh with ⟨rfl, hlf, hI', L', X', hX'⟩ | ⟨rfl, hfn, hI', X', hX', hc'⟩
      · refine ⟨3, W.D.size, W.A, by decide, .inl ⟨rfl, k, hkl, by rw [hg]; exact hlf⟩, rfl, hI', ⟨hC.size, .inl ⟨rfl, X', hX'.rd, hX'.live.1, hX'.live.2.2.1, hX'.live.2.2.2⟩⟩, rfl, rfl, by omega, fun p hp _ => hp⟩
      · refine ⟨6, 0, W.A.release b W.D.size, by decide, .inr ⟨rfl, hfn⟩, rfl, hI', ⟨hC.size, .inr ⟨rfl, X', hX', hc'⟩⟩, ?_, rfl, by omega, fun p hp hn => ?_⟩
        · have := (Arena.release_okA hI.arn.ok ((hX.rd.live hX.live.1).st)).2
          show W.A.used - W.D.size + W.D.size = W.A.used + 0
          omega
        · unfold Arena.Ar.release
          refine List.mem_filter.2 ⟨hp, ?_⟩
          have : p.1 ≠ b := fun e => hn (.inr (.inr (.inl e)))
          simpa using this
  stay := by
    intro k m w w' O O' W W' E hJ hI ht hE hO hs hn hst
    obtain ⟨h1, h2, h3, hlt, X, hX⟩ := hJ
    refine ⟨hs.1.trans h1, hs.2.trans h2, h3, fun q hq => Nat.lt_of_lt_of_le (hlt q hq) ht.size, X, hX.stay hI ht hE hO hs.1 (fun j hj => hn _ (fun b hb e => hheld j (by rw [h1] at hj; exact hj) (by rw [show first + j = b from by omega]; exact hb))) hst⟩
  stayE := stays_l K n lb xb b d
  last := by
    intro k m w O W hJ
    obtain ⟨h1, h2, h3, hlt, X, hX⟩ := hJ
    have hlow := hX.has.low
    have hm := hX.live.2.1
    exact ⟨by omega, h1, .inl ⟨rfl, X, hX.rd, hX.live.1, hX.live.2.2.1, hX.live.2.2.2⟩⟩
  five := by
    intro k hkl
    have h5k : la[k].length = 5 := h5 _ (List.getElem_mem hkl)
    have hg : la.getD k [] = la[k] := by simp [hkl]
    unfold lkMk looked
    rw [hg]
    split
    · exact h5k
    · simp only
      split
      · rw [List.length_set]; exact h5k
      · exact h5k
  enter := fun args w => rfl
end

end Go.Proofs.Ytlbaigkpojkfjaa.Fl
