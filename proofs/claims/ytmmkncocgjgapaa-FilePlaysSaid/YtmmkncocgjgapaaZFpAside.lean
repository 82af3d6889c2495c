/- FilePlays: the law's own rows are turned, and the rest stays. -/
import Derived.Test.YtmmkncocgjgapaaZFpMove3
set_option linter.unusedVariables false
namespace Go.Proofs.Ytmmkncocgjgapaa.Fp
open Go.RowKit Fl

/-- All that the law keeps. -/
structure Full (w : World) (O : Nat → Prop) (K : Key) (W : Wk) (S : PS) (mo dw : Ow) (tw : Nat → Option Nat) (st : Nat) (V : Nat → Value) (C : Nat → List Value) (n : Nat → Nat) : Prop where
  pi : PI w O K W S mo dw
  tr : TR w K S tw
  st : St w K.base st K.wk V C n
section
variable {w w' : World} {O O' : Nat → Prop} {K : Key} {W W' : Wk} {S : PS} {mo dw : Ow} {tw : Nat → Option Nat} {st : Nat} {V : Nat → Value} {C : Nat → List Value} {n : Nat → Nat} {Z : Nat → Prop}
theorem Full.below (h : Full w O K W S mo dw tw st V C n) (hb : Below w.heap.size w w') : Full w' O K W S mo dw tw st V C n :=
  ⟨h.pi.below hb, h.tr.turn (E := fun _ => False) h.pi.wk (Turn.below hb) (fun g h => h.elim), h.st.below hb⟩
theorem Full.cast {C' : Nat → List Value} {n' : Nat → Nat} (h : Full w O K W S mo dw tw st V C n) (hc : ∀ i, 1 ≤ i → i ≤ 12 → C i = C' i ∧ n i = n' i) : Full w O K W S mo dw tw st V C' n' :=
  ⟨h.pi, h.tr, h.st.blk, fun i h1 h2 => by
    obtain ⟨e1, e2⟩ := hc i h1 h2
    rw [← e1, ← e2]
    exact h.st.own i h1 h2, h.st.ne, h.st.low⟩
theorem aside_mine (hI : WkI w O K W) (hc : Chg Z w w') (hZ : ∀ g, Z g → ∃ t cs, Blk w g t cs ∧ Mine t) : WkI w' O K W ∧ Turn K Z w w' := by
  refine ⟨hI.aside hc (fun k hk => ?_), hc.mono (fun k _ hk => .inr (.inr (.inr (.inr (.inr (.inr (.inr (.inr hk))))))))⟩
  obtain ⟨t, cs, hb, hm⟩ := hZ k hk
  obtain ⟨h1, h2, h3, h4, h5, h6, h7, h8, h9, h10⟩ := mine_ne hm
  exact ⟨t, cs, hb, h10, h1, h2, h8, h3, h4, h5, fun h => absurd h h9⟩
theorem mine_out (hZ : ∀ g, Z g → ∃ t cs, Blk w g t cs ∧ Mine t) {g : Nat} {t : TypeId} {cs : Array Value} (hb : Blk w g t cs) (hm : ¬ Mine t) : ¬ Z g := fun hz => by
  obtain ⟨t', cs', hb', hm'⟩ := hZ g hz
  obtain ⟨rfl, _⟩ := hb.inj hb'
  exact hm hm'
theorem not_mine : ¬ Mine 117 ∧ ¬ Mine 110 ∧ ¬ Mine 112 ∧ ¬ Mine 23 := by
  refine ⟨fun h => ?_, fun h => ?_, fun h => ?_, fun h => ?_⟩ <;> obtain ⟨h1, h2, h3, h4, h5, h6, h7, h8, h9, h10⟩ := mine_ne h <;> first | exact h6 rfl | exact h7 rfl | exact h8 rfl | exact h9 rfl
theorem PI.mine (h : PI w O K W S mo dw) (hc : Chg Z w w') (hZ : ∀ g, Z g → ∃ t cs, Blk w g t cs ∧ Mine t) : PI w' O K W S mo dw := by
  obtain ⟨hI, ht⟩ := aside_mine h.wk hc hZ
  obtain ⟨n1, n2, n3, n4⟩ := not_mine
  refine ⟨hI, h.sure, h.bl, fun k e hk => ?_, h.ff, fun r e hr => ?_, h.used, fun g o hg => mlt_up h hc.size g o hg, fun g hg => h.new g (Nat.le_trans hc.size hg), h.dfr⟩
  · have hw := h.wf k e hk
    refine ⟨hw.me, hw.fits, hw.wid, hw.len, fun ho => ?_, fun ho => ?_⟩
    · obtain ⟨a1, a2, a3, a4, a5, a6, a7⟩ := hw.live ho
      exact ⟨a1.turn' h.wk ht (mine_out hZ a1.blk n1) (fun hcl => mine_out hZ (a1.live hcl).blk n3) (fun hcl => mine_out hZ (a1.live hcl).row n4) (fun _ _ h => h) rfl (fun _ h _ => h), a2, a3, a4, a5, a6, a7⟩
    · obtain ⟨cs, b1, b2⟩ := hw.dead ho
      exact ⟨cs, b1.chg hc (mine_out hZ b1 n1), b2⟩
  · have hr' := h.rf r e hr
    have a1 := hr'.at_
    exact ⟨a1.turn' h.wk ht (mine_out hZ a1.blk n2) (fun hcl => mine_out hZ (a1.live hcl).blk n3) (fun hcl => mine_out hZ (a1.live hcl).row n4) (fun _ _ h => h) rfl (fun _ h _ => h), hr'.cl, hr'.me, hr'.live, hr'.file⟩
/-- An append to row i, stored. -/
theorem Full.app (h : Full w O K W S mo dw tw st V C n) {i : Nat} (h1 : 1 ≤ i) (h2 : i ≤ 12) {v : Value} {news : List Value} {m : Nat} (ho : w'.ownsRow K.base (ety i) (esz i) v (n i + m) (C i ++ news)) (hg : w.grownBy w' (V i).ownBlock) (hv : v.ownBlock = (V i).ownBlock ∨ v.ownBlock = some w.heap.size) :
    Full (w'.setCell ⟨st, i, none⟩ v) O K W S mo dw tw st (put_ V i v) (put_ C i (C i ++ news)) (put_ n i (n i + m)) ∧ Below K.base w (w'.setCell ⟨st, i, none⟩ v) := by
  have hst : some st ≠ (V i).ownBlock := fun e => h.st.st_ne h1 h2 e.symm rfl
  have hc : Chg (fun k => some k = (V i).ownBlock ∨ k = st) w (w'.setCell ⟨st, i, none⟩ v) := ((Chg.of_grown hg).mono (fun k _ hk => .inl hk)).setCell _ _ (fun _ => .inr rfl)
  have hZ : ∀ g, (some g = (V i).ownBlock ∨ g = st) → ∃ t cs, Blk w g t cs ∧ Mine t := by
    rintro g (hg | rfl)
    · obtain ⟨_, cs, hb⟩ := own_blk (h.st.own i h1 h2) hg.symm
      exact ⟨_, cs, hb, ety_mine i⟩
    · exact ⟨_, _, h.st.blk, by unfold Mine; simp⟩
  refine ⟨⟨h.pi.mine hc hZ, ⟨fun k e hk => ?_, fun g k hk => ?_⟩, h.st.app h1 h2 ho hg hv⟩, ?_⟩
  · obtain ⟨t1, t2⟩ := h.tr.own k e hk
    refine ⟨own_chg t1 hc (fun g hg hz => ?_), t2⟩
    obtain ⟨_, cs, hb⟩ := own_blk t1 hg
    rcases hz with hz | rfl
    · obtain ⟨_, cs', hb'⟩ := own_blk (h.st.own i h1 h2) hz.symm
      refine hb.ne_ hb' ?_ rfl
      unfold ety
      split <;> decide
    · exact hb.ne_ h.st.blk (by decide) rfl
  · have := h.tr.lt g k hk
    exact ⟨this.1, Nat.lt_of_lt_of_le this.2 hc.size⟩
  · refine hc.below_of h.pi.base_le (fun k hk hz => ?_)
    rcases hz with hz | rfl
    · have := ((h.st.own i h1 h2).lt k hz.symm).1
      omega
    · have := h.st.low
      omega
theorem Full.grown (h : Full w O K W S mo dw tw st V C n) {i : Nat} (h1 : 1 ≤ i) (h2 : i ≤ 12) (hg : w.grownBy w' (V i).ownBlock) {g : Nat} {t : TypeId} {cs : Array Value} (hb : Blk w g t cs) (ht : t ≠ ety i) : Blk w' g t cs :=
  hb.chg (Chg.of_grown hg) (fun e => by
    obtain ⟨_, cs', hb'⟩ := own_blk (h.st.own i h1 h2) e.symm
    exact hb.ne_ hb' ht rfl)
theorem state_ety (i : Nat) : 61 ≠ ety i := by unfold ety; split <;> decide
theorem op_ety (i : Nat) : 63 ≠ ety i := by unfold ety; split <;> decide
/-- The same, the rows' names forgotten. -/
theorem Full.app1 (h : Full w O K W S mo dw tw st V C n) {i : Nat} (h1 : 1 ≤ i) (h2 : i ≤ 12) {v : Value} {news : List Value} {m : Nat} (ho : w'.ownsRow K.base (ety i) (esz i) v (n i + m) (C i ++ news)) (hg : w.grownBy w' (V i).ownBlock) (hv : v.ownBlock = (V i).ownBlock ∨ v.ownBlock = some w.heap.size) {ob : Nat} {oc : Array Value} (hob : Blk w ob 63 oc) :
    ∃ V', Full (w'.setCell ⟨st, i, none⟩ v) O K W S mo dw tw st V' (put_ C i (C i ++ news)) (put_ n i (n i + m)) ∧ Below K.base w (w'.setCell ⟨st, i, none⟩ v) ∧ Blk (w'.setCell ⟨st, i, none⟩ v) ob 63 oc := by
  obtain ⟨a1, a2⟩ := h.app h1 h2 ho hg hv
  exact ⟨_, a1, a2, (h.grown h1 h2 hg hob (op_ety i)).far (p := ⟨st, i, none⟩) (hob.ne_ h.st.blk (by decide)) v⟩
/-- A store into an element of row i. -/
theorem Full.store (h : Full w O K W S mo dw tw st V C n) {i : Nat} (h1 : 1 ≤ i) (h2 : i ≤ 12) (hs : esz i = 1) {k : Nat} (hk : k < n i) (u : Value) : ∃ g c, V i = .slice (some ⟨g, 0, none⟩) (n i) c ∧ Full (w.setCell ⟨g, k, none⟩ u) O K W S mo dw tw st V (put_ C i ((C i).set k u)) n ∧ Below K.base w (w.setCell ⟨g, k, none⟩ u) := by
  obtain ⟨g, c, hv, hst⟩ := h.st.store h1 h2 hs hk u
  have hg : (V i).ownBlock = some g := by rw [hv]; rfl
  have hc : Chg (fun q => q = g) w (w.setCell ⟨g, k, none⟩ u) := (Chg.refl (fun q => q = g) w).setCell ⟨g, k, none⟩ u (fun _ => rfl)
  obtain ⟨_, cs, hb⟩ := own_blk (h.st.own i h1 h2) hg
  refine ⟨g, c, hv, ⟨h.pi.mine hc (by rintro q rfl; exact ⟨_, cs, hb, ety_mine i⟩), ⟨fun k e hk => ?_, fun q k hk => ?_⟩, hst⟩, hc.below_of h.pi.base_le (fun q hq hz => ?_)⟩
  · obtain ⟨t1, t2⟩ := h.tr.own k e hk
    refine ⟨own_chg t1 hc (fun q hq hz => ?_), t2⟩
    obtain ⟨_, cs', hb'⟩ := own_blk t1 hq
    rw [hz] at hb'
    refine hb'.ne_ hb ?_ rfl
    unfold ety
    split <;> decide
  · have := h.tr.lt q k hk
    exact ⟨this.1, Nat.lt_of_lt_of_le this.2 hc.size⟩
  · have := ((h.st.own i h1 h2).lt g hg).1
    omega
/-- A call of the library's, seen by the rows. -/
theorem Full.turn {S' : PS} {mo' dw' : Ow} {E : Nat → Prop} (h : Full w O K W S mo dw tw st V C n) (ht : Turn K E w w') (hE : Theirs w E) (hp : PI w' O' K W' S' mo' dw') (hS : ∀ (k : Nat) (e' : WE), S'.ws[k]? = some e' → (∃ e : WE, S.ws[k]? = some e ∧ e'.pv = e.pv ∧ e'.ps = e.ps) ∨ (e'.pv = .slice none 0 0 ∧ e'.ps = [])) : Full w' O' K W' S' mo' dw' tw st V C n :=
  ⟨hp, ⟨fun k e hk => by
    rcases hS k e hk with ⟨e0, h1, h2, h3⟩ | ⟨h1, h2⟩
    · rw [h2, h3]
      exact (h.tr.turn h.pi.wk ht hE).own k e0 h1
    · rw [h1, h2]
      exact ⟨⟨rfl, .inl ⟨rfl, rfl⟩⟩, fun g hg => by cases hg⟩, (h.tr.turn h.pi.wk ht hE).lt⟩, h.st.turn h.pi.wk ht hE⟩
theorem low_ {E : Nat → Prop} (hI : WkI w O K W) (hb : K.base ≤ w.heap.size) (ht : Turn K E w w') (hE : ∀ k, E k → K.base ≤ k) : Below K.base w w' :=
  Chg.below_of ht hb (fun k hk hf => hI.under (E := E) hk (fun h => by have := hE k h; omega) hf)
end

end Go.Proofs.Ytmmkncocgjgapaa.Fp
