/- SpaceApart: the space, the row of owners and the list of what was given out, in memory. -/
import Derived.Test.YtodjibhnmibedaaSpApartP
set_option linter.unusedVariables false
namespace Go.Proofs.Ytodjibhnmibedaa.Sp
open Go.RowKit

structure ApW (w0 w : World) (s hb : Nat) (v lv : Value) (L G : List Ext) (cs : Array Value) : Prop where
  sp : SpAt w s 5 250 v L w0.heap.size
  lo : w0.heap.size ≤ s
  bel : Below w0.heap.size w0 w
  hblk : Blk w hb 75 cs
  hlo : w0.heap.size ≤ hb
  row : w.ownsRow w0.heap.size 69 2 lv G.length (flatX G)
  far : ∀ q, lv.ownBlock = some q → v.ownBlock ≠ some q
theorem ApW.ne_ {w0 w : World} {s hb : Nat} {v lv : Value} {L G : List Ext} {cs : Array Value} (h : ApW w0 w s hb v lv L G cs) : hb ≠ s := h.hblk.ne_ h.sp.blk (by decide)
theorem ApW.act {w0 w w' : World} {s hb : Nat} {v v' lv : Value} {L L' G : List Ext} {cs : Array Value} (h : ApW w0 w s hb v lv L G cs) (hs : SpAt w' s 5 250 v' L' w0.heap.size) (hc : Chg (fun k => k = s ∨ some k = v.ownBlock) w w')
    (hv : v'.ownBlock = v.ownBlock ∨ ∃ q, v'.ownBlock = some q ∧ w.heap.size ≤ q) : ApW w0 w' s hb v' lv L' G cs := by
  refine ⟨hs, h.lo, act_frame h.sp h.lo h.bel hc, h.hblk.chg hc (fun e => ?_), h.hlo, own_chg h.row hc (fun q hq e => ?_), fun q hq => ?_⟩
  · rcases e with e | e
    · exact h.ne_ e
    · exact own_ne_blk h.sp.own h.hblk (by decide) e.symm
  · rcases e with e | e
    · exact own_ne_blk h.row h.sp.blk (by decide) (e ▸ hq)
    · exact h.far q hq e.symm
  · rcases hv with hv | ⟨q2, h2, h3⟩
    · rw [hv]; exact h.far q hq
    · rw [h2]
      intro e
      injection e with e
      have := (h.row.lt q hq).2
      omega
theorem ApW.mark {w0 w : World} {s hb : Nat} {v lv : Value} {L G : List Ext} {cs : Array Value} (h : ApW w0 w s hb v lv L G cs) (b : Nat) (x : Value) : ApW w0 (w.setCell ⟨hb, b, none⟩ x) s hb v lv L G (cs.setIfInBounds b x) := by
  have hne := h.ne_
  have hc : Chg (fun k => k = hb) w (w.setCell ⟨hb, b, none⟩ x) := (Chg.refl _ w).setCell _ _ (fun _ => rfl)
  have h1 := h.sp
  refine ⟨⟨h1.blk.chg hc (fun e => hne e.symm), own_chg h1.own hc (fun q hq e => own_ne_blk h1.own h.hblk (by decide) (e ▸ hq)), h1.F_le, h1.B_le, h1.L_le, h1.in_⟩, h.lo, h.bel.trans (hc.below_of h.bel.size (fun k hk e => by have := h.hlo; omega)), h.hblk.set_ b _, h.hlo, own_chg h.row hc (fun q hq e => own_ne_blk h.row h.hblk (by decide) (e ▸ hq)), h.far⟩
theorem ApW.below {w0 w w' : World} {s hb : Nat} {v lv : Value} {L G : List Ext} {cs : Array Value} (h : ApW w0 w s hb v lv L G cs) (hb' : Below w.heap.size w w') : ApW w0 w' s hb v lv L G cs :=
  ⟨h.sp.below hb', h.lo, h.bel.trans (hb'.mono h.bel.size), h.hblk.below hb' h.hblk.lt, h.hlo, own_chg h.row (Chg.of_below' (S := fun _ => False) hb') (fun _ _ h => h), h.far⟩
theorem ApW.app {w0 w w' : World} {s hb n : Nat} {v lv lv' : Value} {L G G' : List Ext} {cs : Array Value} (h : ApW w0 w s hb v lv L G cs) (ho : w'.ownsRow w0.heap.size 69 2 lv' n (flatX G')) (hn : n = G'.length) (hc : Chg (fun k => some k = lv.ownBlock) w w')
    (hv : lv'.ownBlock = lv.ownBlock ∨ lv'.ownBlock = some w.heap.size) : ApW w0 w' s hb v lv' L G' cs := by
  subst hn
  have h1 := h.sp
  refine ⟨⟨h1.blk.chg hc (fun e => own_ne_blk h.row h1.blk (by decide) e.symm), own_chg h1.own hc (fun q hq e => h.far q e.symm hq), h1.F_le, h1.B_le, h1.L_le, h1.in_⟩, h.lo, h.bel.trans (hc.below_of h.bel.size (fun k hk e => by have := (h.row.lt k e.symm).1; omega)), h.hblk.chg hc (fun e => own_ne_blk h.row h.hblk (by decide) e.symm), h.hlo, ho, fun q hq => ?_⟩
  rcases hv with hv | hv
  · exact h.far q (by rw [← hv]; exact hq)
  · rw [hv] at hq
    injection hq with hq
    intro e
    have := (h1.own.lt q e).2
    omega

theorem flatX_set : ∀ (l : List Ext) (k : Nat) (z : Ext), flatX (l.set k z) = ((flatX l).set (k * 2) (.int .i64 (z.1 : Int))).set (k * 2 + 1) (.int .i64 (z.2 : Int)) := by
  intro l
  induction l with
  | nil => intro k z; simp [flatX_nil]
  | cons e l ih =>
    intro k z
    cases k with
    | zero => simp [flatX_cons]
    | succ k =>
      rw [List.set_cons_succ, flatX_cons, flatX_cons, ih, show (k + 1) * 2 = k * 2 + 1 + 1 from by omega]
      simp only [List.set_cons_succ]
theorem XBlk.set_ {w : World} {g cap : Nat} {L : List Ext} {rest : List Value} (h : XBlk w g cap L rest) {k : Nat} (hk : k < L.length) (z : Ext) : XBlk ((w.setCell ⟨g, k * 2, none⟩ (.int .i64 (z.1 : Int))).setCell ⟨g, k * 2 + 1, none⟩ (.int .i64 (z.2 : Int))) g cap (L.set k z) rest := by
  have hl := flatX_length L
  refine ⟨?_, by rw [List.length_set]; exact h.len, h.cap⟩
  have hb := (h.blk.set_ (k * 2) (.int .i64 (z.1 : Int))).set_ (k * 2 + 1) (.int .i64 (z.2 : Int))
  rw [List.setIfInBounds_toArray, List.setIfInBounds_toArray, List.set_append_left _ _ (by omega), List.set_append_left _ _ (by rw [List.length_set]; omega), ← flatX_set] at hb
  exact hb
theorem ApW.cut {w0 w : World} {s hb g cap k : Nat} {v : Value} {L G : List Ext} {cs : Array Value} (h : ApW w0 w s hb v (.slice (some ⟨g, 0, none⟩) G.length cap) L G cs) (hk : k < G.length) {z : Ext} (hz : z = G.getD (G.length - 1) (0, 0)) :
    ApW w0 ((w.setCell ⟨g, k * 2, none⟩ (.int .i64 (z.1 : Int))).setCell ⟨g, k * 2 + 1, none⟩ (.int .i64 (z.2 : Int))) s hb v (.slice (some ⟨g, 0, none⟩) (G.length - 1) cap) L (cutAt G k) cs := by
  obtain ⟨_, hv⟩ := XBlk.of_own h.row
  rcases hv with ⟨_, h0⟩ | ⟨g', cap', rest, hv, hbg, hgl, hX⟩
  · subst h0; simp at hk
  injection hv with h1 h2 h3
  injection h1 with h1
  injection h1 with h1
  subst h1
  subst h3
  have hX2 := (hX.set_ hk z).cut (G.length - 1)
  have hlen : (cutAt G k).length = G.length - 1 := by unfold cutAt; rw [List.length_take, List.length_set]; omega
  have hcut : (G.set k z).take (G.length - 1) = cutAt G k := by unfold cutAt; rw [hz]
  rw [hcut] at hX2
  have hown := hX2.own hbg
  rw [hlen] at hown
  refine h.app hown hlen.symm (((Chg.refl _ w).setCell _ _ (fun _ => ?_)).setCell _ _ (fun _ => ?_)) (.inl rfl)
  · simp [Value.ownBlock]
  · simp [Value.ownBlock]

end Go.Proofs.Ytodjibhnmibedaa.Sp
