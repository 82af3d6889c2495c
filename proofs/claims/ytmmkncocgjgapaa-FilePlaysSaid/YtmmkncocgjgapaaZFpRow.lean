/- FilePlays: the rows' cells; a tuple more in a row of tuples. -/
import Derived.Test.YtmmkncocgjgapaaZFpPut
set_option linter.unusedVariables false
namespace Go.Proofs.Ytmmkncocgjgapaa.Fp
open Go.RowKit Fl

section
variable {w w' : World} {O O' : Nat → Prop} {K : Key} {W W' : Wk} {S S2 : PS} {mo dw : Ow} {tw : Nat → Option Nat} {B st wk : Nat} {V : Nat → Value} {C : Nat → List Value} {n : Nat → Nat}
theorem St.form (h : St w B st wk V C n) {i : Nat} (h1 : 1 ≤ i) (h2 : i ≤ 12) (h0 : 0 < n i) : ∃ g c, V i = .slice (some ⟨g, 0, none⟩) (n i) c ∧ B ≤ g ∧ g ≠ st := by
  obtain ⟨g, c, hv, _, _⟩ := World.ownsRow.form (h.own i h1 h2) h0
  have hg : (V i).ownBlock = some g := by rw [hv]; rfl
  exact ⟨g, c, hv, ((h.own i h1 h2).lt g hg).1, h.st_ne h1 h2 hg⟩
theorem St.slice (h : St w B st wk V C n) {i : Nat} (h1 : 1 ≤ i) (h2 : i ≤ 12) : ∃ a c, V i = .slice a (n i) c := by
  rcases (h.own i h1 h2).2 with ⟨e, h0⟩ | ⟨g', cap, cur, e, _⟩
  · exact ⟨none, 0, by rw [e, h0]⟩
  · exact ⟨_, cap, e⟩
theorem icells5 {t : Tup} (ht : t.length = 5) : ∃ z0 z1 z2 z3 z4 : Int, icells t = [.int .i64 z0, .int .i64 z1, .int .i64 z2, .int .i64 z3, .int .i64 z4] := by
  match t, ht with
  | [a, b, c, d, e], _ => exact ⟨_, _, _, _, _, rfl⟩
theorem St.at_ (h : St w B st wk V C n) {i : Nat} (h1 : 1 ≤ i) (h2 : i ≤ 12) {g m c : Nat} (hv : V i = .slice (some ⟨g, 0, none⟩) m c) {k : Nat} (hk : k < n i * esz i) : w.cell? ⟨g, k, none⟩ = (C i)[k]? := by
  rcases (h.own i h1 h2).2 with ⟨e, h0⟩ | ⟨g', cap, cur, e, hb, hh, a1, a2, a3, a4⟩
  · rw [h0, Nat.zero_mul] at hk; omega
  · rw [hv] at e
    injection e with e1 e2 e3
    injection e1 with e1
    injection e1 with e1
    subst e1
    have hbk : Blk w g (ety i) cur := hh
    rw [hbk.cell, ← a4, List.getElem?_take, if_pos hk, Array.getElem?_toList]
theorem map_same {α β : Type} {l : List α} {i : Nat} {x y : α} (h : l[i]? = some x) (f : α → β) (hf : f y = f x) : (l.set i y).map f = l.map f := by
  obtain ⟨h1, h2⟩ := List.getElem?_eq_some_iff.1 h
  apply List.ext_getElem?
  intro j
  simp only [List.getElem?_map, List.getElem?_set]
  split
  · rename_i e
    subst e
    rw [h]
    simp [hf]
  · rfl
theorem map_set_ {α β : Type} {l : List α} {i : Nat} {y : α} (f : α → β) : (l.set i y).map f = (l.map f).set i (f y) := by
  apply List.ext_getElem?
  intro j
  simp only [List.getElem?_map, List.getElem?_set, List.length_map]
  split
  · split <;> simp
  · rfl
/-- The name of an open writer's row is nothing to the rest. -/
theorem PI.set_pv (h : PI w O K W S mo dw) {k : Nat} {e : WE} (hk : S.ws[k]? = some e) (ho : e.op = true) (v : Value) : PI w O K W (S.setW k { e with pv := v }) mo dw := by
  have hw := h.wf k e hk
  refine ⟨h.wk, h.sure, h.bl, fun k' e' hk' => ?_, fun j f hj => (h.ff j f hj).ext (fun _ h => h) (closed_kept hk ho), fun r e' hr => (h.rf r e' hr).ext (fun _ h => h) (fun j f hj => ⟨f, hj, rfl, rfl, rfl, id⟩), ?_, h.mlt, h.new, h.dfr⟩
  · rcases get_set hk' with ⟨rfl, rfl, -⟩ | ⟨hne, hk2⟩
    · exact ⟨hw.me, hw.fits, hw.wid, hw.len, hw.live, hw.dead⟩
    · exact h.wf k' e' hk2
  · have hl := PS.live_setW (S := S) (e' := { e with pv := v }) hk
    have hl : (S.setW k { e with pv := v }).live = S.live := by
      have h0 : ({ e with pv := v } : WE).op = e.op := rfl
      rw [h0] at hl
      omega
    rw [hl]
    exact h.used
theorem tuple_ety (i : Nat) : 45 ≠ ety i := by unfold ety; split <;> decide
theorem grow (hp : PI w O K W S2 mo dw) (htr : TR w K S tw) (hst : St w K.base st K.wk V S.C S.n) {k : Nat} {e e2 : WE} {t : Tup} (hk : S.ws[k]? = some e) (hS : S2 = S.setW k e2) (hx : e2.x = e.x) (hv2 : e2.pv = e.pv) (ho : e2.op = e.op) (ho1 : e.op = true) (hwd : e2.X.width = e.X.width) (hbd : e2.X.bound = e.X.bound) (hps : e2.ps = e.ps ++ [t])
    {v : Value} (hown : w'.ownsRow K.base 45 5 v (e.ps.length + 1) (flatT e.ps ++ flatT [t])) (hg : w.grownBy w' e.pv.ownBlock) (hv : v.ownBlock = e.pv.ownBlock ∨ v.ownBlock = some w.heap.size) {g c : Nat} (hV : V 2 = .slice (some ⟨g, 0, none⟩) S.ws.length c) :
    ∃ tw' S', Full (w'.setCell ⟨g, k, none⟩ v) O K W S' mo dw tw' st V S'.C S'.n ∧ Below K.base w (w'.setCell ⟨g, k, none⟩ v) ∧ S'.ws.length = S.ws.length ∧ S'.fs = S.fs ∧ S'.rs = S.rs := by
  subst hS
  obtain ⟨hkl, -⟩ := List.getElem?_eq_some_iff.1 hk
  have hk2 : (S.setW k e2).ws[k]? = some e2 := by show (S.ws.set k e2)[k]? = _; rw [set_get hk, if_pos rfl]
  have hvg : (V 2).ownBlock = some g := by rw [hV]; rfl
  obtain ⟨_, cs2, hb2⟩ := own_blk (hst.own 2 (by omega) (by omega)) hvg
  obtain ⟨t1, t2⟩ := htr.own k e hk
  have hc : Chg (fun q => some q = e.pv.ownBlock ∨ q = g) w (w'.setCell ⟨g, k, none⟩ v) := ((Chg.of_grown hg).mono (fun q _ hq => .inl hq)).setCell _ _ (fun _ => .inr rfl)
  have hZ : ∀ q, (some q = e.pv.ownBlock ∨ q = g) → ∃ t cs, Blk w q t cs ∧ Mine t := by
    rintro q (hq | rfl)
    · obtain ⟨_, cs, hb⟩ := own_blk t1 hq.symm
      exact ⟨_, cs, hb, by unfold Mine; simp⟩
    · exact ⟨_, cs2, hb2, ety_mine 2⟩
  have hs2 : St w' K.base st K.wk V S.C S.n := hst.chg (Chg.of_grown hg) (fun e0 => by
      obtain ⟨_, cs, hb⟩ := own_blk t1 e0.symm
      exact hb.ne_ hst.blk (by decide) rfl) (fun i q h1 h2 hq e0 => by
      obtain ⟨_, cs, hb⟩ := own_blk t1 e0.symm
      obtain ⟨_, cs', hb'⟩ := own_blk (hst.own i h1 h2) hq
      exact hb.ne_ hb' (tuple_ety i) rfl)
  obtain ⟨g', c', hv', hs3⟩ := hs2.store (i := 2) (by omega) (by omega) rfl (k := k) hkl v
  rw [hV] at hv'
  injection hv' with e1 _ _
  injection e1 with e1
  injection e1 with e1
  subst e1
  have hgv : ∀ q, v.ownBlock = some q → q ≠ g := fun q hq e0 => by
    subst e0
    rcases hv with h | h
    · rw [h] at hq
      obtain ⟨_, cs, hb⟩ := own_blk t1 hq
      exact hb.ne_ hb2 (by decide) rfl
    · rw [hq] at h
      injection h with h
      have := hb2.lt
      omega
  refine ⟨fun q => if v.ownBlock = some q then some k else tw q, (S.setW k e2).setW k { e2 with pv := v }, ⟨(hp.set_pv hk2 (by rw [ho, ho1]) v).mine hc hZ, ⟨fun k' e' hk' => ?_, fun q k' hq => ?_⟩, hs3.blk, fun i h1 h2 => ?_, hs3.ne, hs3.low⟩, ?_, by simp [PS.setW], rfl, rfl⟩
  · rcases get_set hk' with ⟨rfl, rfl, -⟩ | ⟨hne, hk2'⟩
    · refine ⟨?_, fun q hq => by rw [if_pos hq]⟩
      show World.ownsRow _ _ _ _ v e2.ps.length (flatT e2.ps)
      rw [hps, flatT_append, List.length_append]
      exact own_chg hown ((Chg.refl (fun q => q = g) w').setCell ⟨g, k', none⟩ v (fun _ => rfl)) (fun q hq e0 => hgv q hq e0)
    · have hk3 : S.ws[k']? = some e' := by
        rcases get_set hk2' with ⟨e0, -, -⟩ | ⟨-, h⟩
        · exact absurd e0 hne
        · exact h
      obtain ⟨u1, u2⟩ := htr.own k' e' hk3
      have hq2 : ∀ q, e'.pv.ownBlock = some q → ¬ e.pv.ownBlock = some q := fun q h3 h4 => by
        have := u2 q h3
        rw [t2 q h4] at this
        injection this with this
        exact hne this.symm
      refine ⟨own_chg u1 hc (fun q hq e0 => ?_), fun q hq => ?_⟩
      · rcases e0 with e0 | rfl
        · exact hq2 q hq e0.symm
        · obtain ⟨_, cs, hb⟩ := own_blk u1 hq
          exact hb.ne_ hb2 (by decide) rfl
      · show (if v.ownBlock = some q then some k else tw q) = _
        rw [if_neg (fun e0 => ?_)]
        · exact u2 q hq
        · rcases hv with h | h
          · exact hq2 q hq (by rw [← h]; exact e0)
          · rw [e0] at h
            injection h with h
            have := (u1.lt q hq).2
            omega
  · have hq : (if v.ownBlock = some q then some k else tw q) = some k' := hq
    split at hq
    · rename_i e0
      have := hown.lt q e0
      simp [World.setCell]
      omega
    · have := htr.lt q k' hq
      exact ⟨this.1, Nat.lt_of_lt_of_le this.2 hc.size⟩
  · have hn : S.n i = ((S.setW k e2).setW k { e2 with pv := v }).n i := by
      unfold PS.n PS.setW
      split <;> simp
    have hcc : put_ S.C 2 ((S.C 2).set k v) i = ((S.setW k e2).setW k { e2 with pv := v }).C i := by
      have hi : i = 1 ∨ i = 2 ∨ i = 3 ∨ i = 4 ∨ i = 5 ∨ i = 6 ∨ i = 7 ∨ i = 8 ∨ i = 9 ∨ i = 10 ∨ i = 11 ∨ i = 12 := by omega
      rcases hi with rfl | rfl | rfl | rfl | rfl | rfl | rfl | rfl | rfl | rfl | rfl | rfl
      · exact ((map_same (y := { e2 with pv := v }) hk2 (fun e => P e.x) rfl).trans (map_same (y := e2) hk (fun e => P e.x) (by rw [hx]))).symm
      · show (S.ws.map _).set k v = ((S.ws.set k e2).set k _).map _
        rw [List.set_set, map_set_]
      · exact ((map_same (y := { e2 with pv := v }) hk2 (fun e : WE => Value.int .i64 (e.X.width : Int)) rfl).trans (map_same (y := e2) hk (fun e : WE => Value.int .i64 (e.X.width : Int)) (by rw [hwd]))).symm
      · exact ((map_same (y := { e2 with pv := v }) hk2 (fun e : WE => Value.int .i64 (e.X.bound : Int)) rfl).trans (map_same (y := e2) hk (fun e : WE => Value.int .i64 (e.X.bound : Int)) (by rw [hbd]))).symm
      · exact ((map_same (y := { e2 with pv := v }) hk2 (fun e : WE => Value.bool e.op) rfl).trans (map_same (y := e2) hk (fun e : WE => Value.bool e.op) (by rw [ho]))).symm
      all_goals rfl
    rw [← hcc, ← hn]
    exact hs3.own i h1 h2
  · refine hc.below_of hp.base_le (fun q hq hz => ?_)
    rcases hz with hz | rfl
    · have := (t1.lt q hz.symm).1
      omega
    · have := ((hst.own 2 (by omega) (by omega)).lt q hvg).1
      omega
end

end Go.Proofs.Ytmmkncocgjgapaa.Fp
