/- FilePlays: a writer closed or dropped, in one contract; rows with a file's box beside them. -/
import Derived.Test.YtmmkncocgjgapaaZFpRow
set_option linter.unusedVariables false
namespace Go.Proofs.Ytmmkncocgjgapaa.Fp
open Go.RowKit Fl

section
variable {w w' : World} {O O' : Nat → Prop} {K : Key} {W W' : Wk} {S : PS} {mo dw : Ow} {tw : Nat → Option Nat} {st : Nat} {V : Nat → Value} {C : Nat → List Value} {n : Nat → Nat}
theorem setW_addF (S : PS) (k : Nat) (e : WE) (f : FE) : ((S.setW k e).addF f).ws = S.ws.set k e ∧ ((S.setW k e).addF f).fs = S.fs ++ [f] ∧ ((S.setW k e).addF f).rs = S.rs := ⟨rfl, rfl, rfl⟩
/-- What Close leaves. -/
def CloseC (w : World) (O : Nat → Prop) (K : Key) (W : Wk) (S : PS) (mo dw : Ow) (k : Nat) (e : WE) (ev : Ending) (w' : World) : Prop :=
  (∃ (f : FE) (W' : Wk) (dw' : Ow) (E : Nat → Prop), e.op = true ∧ ev = .returned (.tuple #[.agg (fcells f.first f.blocks f.width f.l.length), .int .i64 0]) ∧ f.width = e.X.width ∧ f.l = e.ps ∧ f.hv = e.pv ∧ f.freed = false ∧ f.blocks = nB W.D.size f.width f.l.length ∧
    PI w' O K W' ((S.setW k { e with op := false }).addF f) mo dw' ∧ Turn K E w w' ∧ Theirs w E ∧ (∀ g, E g → K.base ≤ g) ∧ W'.D.size = W.D.size ∧ W'.D.acts ≤ W.D.acts + 5001) ∨
  (e.op = false ∧ ev = .returned (.tuple #[.agg noFile, .int .i64 1]) ∧ Below w.heap.size w w')
theorem close_c (h : PI w O K W S mo dw) {k : Nat} {e : WE} (hk : S.ws[k]? = some e) (hac : W.D.acts ≤ 1000000) : Calls Try.prog 24 #[P e.x] w (CloseC w O K W S mo dw k e) := by
  have hw := h.wf k e hk
  cases ho : e.op with
  | false =>
    obtain ⟨cs, b1, b2⟩ := hw.dead ho
    refine (close_dead b1 b2).mono ?_
    rintro ev w' ⟨rfl, hb⟩
    exact .inr ⟨ho, rfl, hb⟩
  | true =>
    obtain ⟨a1, a2, a3, a4, a5, a6, a7⟩ := hw.live ho
    refine (close_sure h.wk a1 a2 a3 h.sure.1 (by rw [h.bl.1]; exact a6) (by omega) h.new).mono ?_
    rintro ev w' (hd | ⟨hf, -⟩)
    · obtain ⟨W', dw', hp, h1, h2, h3, h4, hT⟩ := h.close_ok hk ho hd
      obtain ⟨L', D', rfl, -⟩ := hd
      refine .inl ⟨_, W', dw', _, ho, rfl, rfl, rfl, rfl, rfl, rfl, hp, hT, own_theirs h hk ho (fun g hg => hg), fun g hg => ?_, h1, by omega⟩
      have := h.base_le
      rcases hg with (rfl | rfl | rfl) | hg
      · exact (h.mlt _ _ hw.me).1
      · exact (h.mlt _ _ a4).1
      · exact (h.mlt _ _ a5).1
      · omega
    · rw [h.sure.2] at hf
      cases hf
/-- What Drop leaves. -/
def DropC (w : World) (O : Nat → Prop) (K : Key) (W : Wk) (S : PS) (mo dw : Ow) (k : Nat) (e : WE) (ev : Ending) (w' : World) : Prop :=
  ev = .returned (.tuple #[]) ∧ ∃ (W' : Wk) (dw' : Ow) (E : Nat → Prop), PI w' O K W' (S.setW k { e with op := false }) mo dw' ∧ Turn K E w w' ∧ Theirs w E ∧ (∀ g, E g → K.base ≤ g) ∧ W'.D = W.D
theorem drop_c (h : PI w O K W S mo dw) {k : Nat} {e : WE} (hk : S.ws[k]? = some e) : Calls Try.prog 27 #[P e.x] w (DropC w O K W S mo dw k e) := by
  have hw := h.wf k e hk
  cases ho : e.op with
  | false =>
    obtain ⟨cs, b1, b2⟩ := hw.dead ho
    refine (drop_dead b1 b2).mono ?_
    rintro ev w' ⟨rfl, rfl⟩
    have he : ({ e with op := false } : WE) = e := by rw [← ho]
    refine ⟨rfl, W, dw, fun _ => False, ?_, Turn.refl _ _ _, fun g h => h.elim, fun g h => h.elim, rfl⟩
    rw [he]
    have hS : S.setW k e = S := by
      obtain ⟨h1, h2⟩ := List.getElem?_eq_some_iff.1 hk
      unfold PS.setW
      rw [← h2, List.set_getElem_self]
    rw [hS]
    exact h
  | true =>
    obtain ⟨a1, a2, a3, a4, a5, a6, a7⟩ := hw.live ho
    refine (drop_live h.wk a1 a2).mono ?_
    rintro ev w' hd
    obtain ⟨W', dw', hp, h1, h2, h3, hT⟩ := h.drop_ok hk ho hd
    obtain ⟨L', rfl, -⟩ := hd
    refine ⟨rfl, W', dw', _, hp, hT, own_theirs h hk ho (fun g hg => .inl hg), fun g hg => ?_, h1⟩
    rcases hg with rfl | rfl | rfl
    · exact (h.mlt _ _ hw.me).1
    · exact (h.mlt _ _ a4).1
    · exact (h.mlt _ _ a5).1
/-- Rows of one's own, an Op, and a box beside them. -/
def Fx (K : Key) (st : Nat) (V : Nat → Value) (C : Nat → List Value) (n : Nat → Nat) (ob : Nat) (oc : Array Value) (xb : Nat) (xt : TypeId) (xc : Array Value) (w : World) : Prop := St w K.base st K.wk V C n ∧ Blk w ob 63 oc ∧ Blk w xb xt xc
variable {ob xb : Nat} {oc xc : Array Value} {xt : TypeId}
theorem Fx.below (h : Fx K st V C n ob oc xb xt xc w) (hb : Below w.heap.size w w') : Fx K st V C n ob oc xb xt xc w' := ⟨h.1.below hb, h.2.1.below hb h.2.1.lt, h.2.2.below hb h.2.2.lt⟩
theorem Fx.elem (h : Fx K st V C n ob oc xb xt xc w) {i : Nat} (h1 : 1 ≤ i) (h2 : i ≤ 12) (hs : esz i = 1) {kn : Nat} {u : Value} (hk : kn < n i) (hC : (C i)[kn]? = some u) :
    ∃ g c, V i = .slice (some ⟨g, 0, none⟩) (n i) c ∧ ∀ w', Fx K st V C n ob oc xb xt xc w' → w'.cell? ⟨st, i, none⟩ = some (.slice (some ⟨g, 0, none⟩) (n i) c) ∧ w'.cell? ⟨g, kn, none⟩ = some u ∧ w'.frozen? ⟨g, kn, none⟩ = false := by
  obtain ⟨g, c, v, -⟩ := h.1.form h1 h2 (by omega)
  refine ⟨g, c, v, fun w' hF => ⟨?_, (hF.1.at_ h1 h2 v (k := kn) (by rw [hs]; omega)).trans hC, ?_⟩⟩
  · have hi : i = 1 ∨ i = 2 ∨ i = 3 ∨ i = 4 ∨ i = 5 ∨ i = 6 ∨ i = 7 ∨ i = 8 ∨ i = 9 ∨ i = 10 ∨ i = 11 ∨ i = 12 := by omega
    rcases hi with rfl | rfl | rfl | rfl | rfl | rfl | rfl | rfl | rfl | rfl | rfl | rfl <;> exact (hF.1.blk.cell _).trans (congrArg some v)
  · obtain ⟨_, cs, hb⟩ := own_blk (hF.1.own i h1 h2) (g := g) (by rw [v]; rfl)
    exact hb.frozen kn
/-- An append to row i, stored: an Op and a box stay. -/
theorem Full.app2 (h : Full w O K W S mo dw tw st V C n) {i : Nat} (h1 : 1 ≤ i) (h2 : i ≤ 12) {v : Value} {news : List Value} {m : Nat} (ho : w'.ownsRow K.base (ety i) (esz i) v (n i + m) (C i ++ news)) (hg : w.grownBy w' (V i).ownBlock) (hv : v.ownBlock = (V i).ownBlock ∨ v.ownBlock = some w.heap.size) (hob : Blk w ob 63 oc) (hxb : Blk w xb xt xc) (hx1 : xb ≠ st) (hx2 : (V i).ownBlock ≠ some xb) :
    (∀ (g : Nat) (t : TypeId) (cs : Array Value), Blk w g t cs → (V i).ownBlock ≠ some g → Blk w' g t cs) ∧ (Blk w' st 61 #[P K.wk, V 1, V 2, V 3, V 4, V 5, V 6, V 7, V 8, V 9, V 10, V 11, V 12]) ∧ ∃ V', (∀ j, j ≠ i → V' j = V j) ∧ Full (w'.setCell ⟨st, i, none⟩ v) O K W S mo dw tw st V' (put_ C i (C i ++ news)) (put_ n i (n i + m)) ∧ Below K.base w (w'.setCell ⟨st, i, none⟩ v) ∧ Blk (w'.setCell ⟨st, i, none⟩ v) ob 63 oc ∧ Blk (w'.setCell ⟨st, i, none⟩ v) xb xt xc := by
  obtain ⟨a1, a2⟩ := h.app h1 h2 ho hg hv
  exact ⟨fun g t cs hb hn => hb.chg (Chg.of_grown hg) (fun e => hn e.symm), h.grown h1 h2 hg h.st.blk (state_ety i), _, fun j hj => put_ne _ _ hj, a1, a2, (h.grown h1 h2 hg hob (op_ety i)).far (p := ⟨st, i, none⟩) (hob.ne_ h.st.blk (by decide)) v, (hxb.chg (Chg.of_grown hg) (fun e => hx2 e.symm)).far (p := ⟨st, i, none⟩) hx1 v⟩
/-- A store into row i: an Op and a box stay. -/
theorem Full.store2 (h : Full w O K W S mo dw tw st V C n) {i : Nat} (h1 : 1 ≤ i) (h2 : i ≤ 12) (hs : esz i = 1) {k : Nat} (hk : k < n i) (u : Value) {g m c : Nat} (hV : V i = .slice (some ⟨g, 0, none⟩) m c) (hob : Blk w ob 63 oc) (hxb : Blk w xb xt xc) (hx : xt ≠ ety i) :
    Full (w.setCell ⟨g, k, none⟩ u) O K W S mo dw tw st V (put_ C i ((C i).set k u)) n ∧ Below K.base w (w.setCell ⟨g, k, none⟩ u) ∧ Blk (w.setCell ⟨g, k, none⟩ u) ob 63 oc ∧ Blk (w.setCell ⟨g, k, none⟩ u) xb xt xc := by
  obtain ⟨g', c', hv, hF, hB⟩ := h.store h1 h2 hs hk u
  rw [hV] at hv
  injection hv with e1 _ _
  injection e1 with e1
  injection e1 with e1
  subst e1
  obtain ⟨_, cs, hb⟩ := own_blk (h.st.own i h1 h2) (g := g) (by rw [hV]; rfl)
  exact ⟨hF, hB, hob.far (p := ⟨g, k, none⟩) (hob.ne_ hb (op_ety i)) u, hxb.far (p := ⟨g, k, none⟩) (hxb.ne_ hb hx) u⟩
theorem op_rows {kn : Nat} {e : WE} (hk : S.ws[kn]? = some e) (i : Nat) (h1 : 1 ≤ i) (h2 : i ≤ 12) : put_ S.C 5 ((S.C 5).set kn (Value.bool false)) i = (S.setW kn { e with op := false }).C i ∧ S.n i = (S.setW kn { e with op := false }).n i := by
  have hi : i = 1 ∨ i = 2 ∨ i = 3 ∨ i = 4 ∨ i = 5 ∨ i = 6 ∨ i = 7 ∨ i = 8 ∨ i = 9 ∨ i = 10 ∨ i = 11 ∨ i = 12 := by omega
  refine ⟨?_, by unfold PS.n PS.setW; split <;> simp⟩
  rcases hi with rfl | rfl | rfl | rfl | rfl | rfl | rfl | rfl | rfl | rfl | rfl | rfl
  · exact (map_same (y := { e with op := false }) hk (fun e => P e.x) rfl).symm
  · exact (map_same (y := { e with op := false }) hk (fun e => e.pv) rfl).symm
  · exact (map_same (y := { e with op := false }) hk (fun e : WE => Value.int .i64 (e.X.width : Int)) rfl).symm
  · exact (map_same (y := { e with op := false }) hk (fun e : WE => Value.int .i64 (e.X.bound : Int)) rfl).symm
  · show (S.ws.map _).set kn (Value.bool false) = (S.ws.set kn _).map _
    rw [map_set_]
  all_goals rfl
theorem close_rows {kn : Nat} {e : WE} (hk : S.ws[kn]? = some e) (f : FE) (hh : f.hv = e.pv) (hf : f.freed = false) (i : Nat) (h1 : 1 ≤ i) (h2 : i ≤ 12) :
    put_ (put_ (put_ (put_ S.C 5 ((S.C 5).set kn (Value.bool false))) 6 (S.C 6 ++ [Value.int .i64 (f.first : Int), .int .i64 (f.blocks : Int), .int .i64 (f.width : Int), .int .i64 (f.l.length : Int)])) 7 (S.C 7 ++ [e.pv])) 8 (S.C 8 ++ [Value.bool false]) i = ((S.setW kn { e with op := false }).addF f).C i ∧
    put_ (put_ (put_ S.n 6 (S.n 6 + 1)) 7 (S.n 7 + 1)) 8 (S.n 8 + 1) i = ((S.setW kn { e with op := false }).addF f).n i := by
  obtain ⟨r1, r2⟩ := op_rows hk i h1 h2
  have hi : i = 1 ∨ i = 2 ∨ i = 3 ∨ i = 4 ∨ i = 5 ∨ i = 6 ∨ i = 7 ∨ i = 8 ∨ i = 9 ∨ i = 10 ∨ i = 11 ∨ i = 12 := by omega
  rcases hi with rfl | rfl | rfl | rfl | rfl | rfl | rfl | rfl | rfl | rfl | rfl | rfl
  · exact ⟨r1, r2⟩
  · exact ⟨r1, r2⟩
  · exact ⟨r1, r2⟩
  · exact ⟨r1, r2⟩
  · exact ⟨r1, r2⟩
  · exact ⟨by simp [put_, PS.C, PS.addF, PS.setW, fcells], by simp [put_, PS.n, PS.addF, PS.setW]⟩
  · exact ⟨by simp [put_, PS.C, PS.addF, PS.setW, hh], by simp [put_, PS.n, PS.addF, PS.setW]⟩
  · exact ⟨by simp [put_, PS.C, PS.addF, PS.setW, hf], by simp [put_, PS.n, PS.addF, PS.setW]⟩
  · exact ⟨rfl, rfl⟩
  · exact ⟨rfl, rfl⟩
  · exact ⟨rfl, rfl⟩
  · exact ⟨rfl, rfl⟩
end

end Go.Proofs.Ytmmkncocgjgapaa.Fp
