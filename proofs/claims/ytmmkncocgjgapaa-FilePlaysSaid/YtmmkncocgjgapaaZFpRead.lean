/- FilePlays: a file read, a reader's next, a reader closed, a file freed: one contract each. -/
import Derived.Test.YtmmkncocgjgapaaZFpClose
set_option linter.unusedVariables false
namespace Go.Proofs.Ytmmkncocgjgapaa.Fp
open Go.RowKit Fl

section
variable {w w' : World} {O O' : Nat → Prop} {K : Key} {W W' : Wk} {S : PS} {mo dw : Ow}
/-- What Read leaves. -/
def OpenC (w : World) (O : Nat → Prop) (K : Key) (W : Wk) (S : PS) (mo dw : Ow) (j : Nat) (ev : Ending) (w' : World) : Prop :=
  (∃ (x : Nat) (Y : Fl.Rd) (O' : Nat → Prop) (W' : Wk) (mo' : Ow), ev = .returned (.tuple #[P x, .int .i64 0]) ∧ PI w' O' K W' (S.addR ⟨x, Y, j, 0, true⟩) mo' dw ∧ Turn K (fun _ => False) w w' ∧ W'.D = W.D) ∨
  (ev = .returned (.tuple #[.pointer none, .int .i64 7]) ∧ Below w.heap.size w w')
theorem open_c (h : PI w O K W S mo dw) {j : Nat} {f : FE} (hj : S.fs[j]? = some f) (hf : f.freed = false) : Calls Try.prog 15 #[P K.wk, .agg #[.int .i64 (f.first : Int), .int .i64 (f.blocks : Int), .int .i64 (f.width : Int), .int .i64 (f.l.length : Int)]] w (OpenC w O K W S mo dw j) := by
  have hF := h.ff j f hj
  obtain ⟨s8, s256⟩ := h.wk.size
  have hcb : CanBe W.D.size f.blocks f.width f.l.length := ⟨by have := hF.wid; omega, by have := hF.wid; omega, by omega, by have := hF.len; omega, by rw [hF.blocks]; exact (nB_eq s8 hF.wid.1 hF.wid.2).symm⟩
  by_cases hr : (W.A.room : Int) - W.A.used < W.D.size
  · refine (open_room f.first f.blocks f.width f.l.length h.wk hcb hr).mono ?_
    rintro ev w' ⟨rfl, hb⟩
    exact .inr ⟨rfl, hb⟩
  · refine (open_ok f.first f.blocks f.width f.l.length h.wk hcb (by omega)).mono ?_
    intro ev w' ho
    obtain ⟨x, b, d, mo', rfl, hp, hT⟩ := h.open_ok hj hf ho
    exact .inl ⟨x, _, _, _, mo', rfl, hp, hT, rfl⟩
theorem ownr_theirs {r : Nat} {e : RE} (h : PI w O K W S mo dw) (hr : S.rs[r]? = some e) (ho : e.rd = true) {E : Nat → Prop} (hE : ∀ g, E g → OwnR e.y e.Y g ∨ w.heap.size ≤ g) : Theirs w E ∧ ∀ g, E g → K.base ≤ g := by
  obtain ⟨n1, n2, n3, n4⟩ := not_mine
  have hR := h.rf r e hr
  have hcl : e.Y.closed = false := by rw [hR.cl, ho]; rfl
  obtain ⟨b1, b2⟩ := hR.live ho
  have hB := hR.at_.live hcl
  have hbase := h.base_le
  refine ⟨fun g hg => ?_, fun g hg => ?_⟩
  · rcases hE g hg with (rfl | rfl | rfl) | h1
    · exact .inr ⟨_, _, hR.at_.blk, n2⟩
    · exact .inr ⟨_, _, hB.blk, n3⟩
    · exact .inr ⟨_, _, hB.row, n4⟩
    · exact .inl h1
  · rcases hE g hg with (rfl | rfl | rfl) | h1
    · exact (h.mlt _ _ hR.me).1
    · exact (h.mlt _ _ b1).1
    · exact (h.mlt _ _ b2).1
    · omega
/-- What Next leaves. -/
def NextC (w : World) (O : Nat → Prop) (K : Key) (W : Wk) (S : PS) (mo dw : Ow) (r : Nat) (e : RE) (f : FE) (ev : Ending) (w' : World) : Prop :=
  (∃ (Y' : Fl.Rd) (W' : Wk) (E : Nat → Prop) (t : Tup), f.l[e.at_]? = some t ∧ e.rd = true ∧ ev = .returned (.tuple #[.agg (icells t).toArray, .bool true, .int .i64 0]) ∧ PI w' O K W' (S.setR r { e with Y := Y', at_ := e.at_ + 1 }) mo dw ∧ Turn K E w w' ∧ Theirs w E ∧ (∀ g, E g → K.base ≤ g) ∧ W'.D.size = W.D.size ∧ W'.D.acts ≤ W.D.acts + 1) ∨
  (∃ er : Int, ev = .returned (.tuple #[.agg zero5, .bool false, .int .i64 er]) ∧ Below w.heap.size w w' ∧ ((er = 1 ∧ e.rd = false) ∨ (er = 0 ∧ e.rd = true ∧ e.at_ = f.l.length)))
theorem next_c (h : PI w O K W S mo dw) {r : Nat} {e : RE} (hr : S.rs[r]? = some e) {f : FE} (hj : S.fs[e.file]? = some f) (hf : f.freed = false) (hac : W.D.acts ≤ 1000000) : Calls Try.prog 17 #[P e.y] w (NextC w O K W S mo dw r e f) := by
  have hR := h.rf r e hr
  have hF := h.ff _ _ hj
  cases ho : e.rd with
  | false =>
    refine (next_closed hR.at_ (by rw [hR.cl, ho]; rfl)).mono ?_
    rintro ev w' ⟨rfl, hb⟩
    exact .inr ⟨1, rfl, hb, .inl ⟨rfl, ho⟩⟩
  | true =>
    have hcl : e.Y.closed = false := by rw [hR.cl, ho]; rfl
    obtain ⟨f', f1, f2, f3⟩ := hR.file
    rw [hj] at f1
    injection f1 with f1
    subst f1
    obtain ⟨hH, htd⟩ := f3 ho hf
    obtain ⟨l1, l2, l3⟩ := hF.live hf
    by_cases hlt : e.at_ < f.l.length
    · rcases next_sure h.wk hR.at_ hcl hH h.sure.1 hF.fits (.inr (by have := hF.blocks; have := h.bl.1; omega)) (by have := hF.fst.1; omega) (by omega) (by omega) with ⟨X1, D1, q1, q2, q3, q4, ⟨n, q5, q6⟩, q7, q8⟩ | ⟨hfl, -⟩
      · refine q8.mono ?_
        intro ev w' hy
        obtain ⟨hp, hT⟩ := h.next_ok hr ho hj hf hlt q1 q3 q4 q6 q7 hy
        obtain ⟨e1, e2⟩ := ownr_theirs h hr ho (E := fun k => OwnR e.y e.Y k ∨ w.heap.size ≤ k) (fun g hg => hg)
        obtain ⟨rfl, -⟩ := hy
        refine .inl ⟨_, _, _, X1.tup, ?_, ho, rfl, hp, hT, e1, e2, q6.size, by have := q6.acts; show D1.acts ≤ _; omega⟩
        rw [List.getElem?_eq_getElem hlt, q2]
        simp [htd]
      · rw [h.sure.2] at hfl
        cases hfl
    · refine (next_end hR.at_ hcl (by rw [htd, hH.cnt]; omega)).mono ?_
      rintro ev w' ⟨rfl, hb⟩
      exact .inr ⟨0, rfl, hb, .inr ⟨rfl, ho, by omega⟩⟩
/-- What a reader's Close leaves. -/
def RCloseC (w : World) (O : Nat → Prop) (K : Key) (W : Wk) (S : PS) (mo dw : Ow) (r : Nat) (e : RE) (ev : Ending) (w' : World) : Prop :=
  ev = .returned (.tuple #[]) ∧ ∃ (Y' : Fl.Rd) (W' : Wk) (E : Nat → Prop), PI w' O K W' (S.setR r { e with Y := Y', rd := false }) mo dw ∧ Turn K E w w' ∧ Theirs w E ∧ (∀ g, E g → K.base ≤ g) ∧ W'.D = W.D
theorem rclose_c (h : PI w O K W S mo dw) {r : Nat} {e : RE} (hr : S.rs[r]? = some e) : Calls Try.prog 28 #[P e.y] w (RCloseC w O K W S mo dw r e) := by
  have hR := h.rf r e hr
  cases ho : e.rd with
  | false =>
    refine (rclose_closed hR.at_ (by rw [hR.cl, ho]; rfl)).mono ?_
    rintro ev w' ⟨rfl, rfl⟩
    refine ⟨rfl, e.Y, W, fun _ => False, ?_, Turn.refl _ _ _, fun g h => h.elim, fun g h => h.elim, rfl⟩
    have he : ({ e with Y := e.Y, rd := false } : RE) = e := by rw [← ho]
    rw [he]
    have hS : S.setR r e = S := by
      obtain ⟨h1, h2⟩ := List.getElem?_eq_some_iff.1 hr
      unfold PS.setR
      rw [← h2, List.set_getElem_self]
    rw [hS]
    exact h
  | true =>
    refine (rclose_live h.wk hR.at_ (by rw [hR.cl, ho]; rfl)).mono ?_
    intro ev w' hy
    obtain ⟨hp, hT⟩ := h.rclose_ok hr ho hy
    obtain ⟨e1, e2⟩ := ownr_theirs h hr ho (E := OwnR e.y e.Y) (fun g hg => .inl hg)
    obtain ⟨rfl, -⟩ := hy
    exact ⟨rfl, _, _, _, hp, hT, e1, e2, rfl⟩
/-- What Free leaves. -/
def FreeC (w : World) (O : Nat → Prop) (K : Key) (W : Wk) (S : PS) (mo dw : Ow) (j : Nat) (f : FE) (ev : Ending) (w' : World) : Prop :=
  ev = .returned (.int .i64 0) ∧ ∃ (W' : Wk) (dw' : Ow), PI w' O K W' (S.setF j { f with freed := true }) mo dw' ∧ Turn K (fun _ => False) w w' ∧ W'.D = W.D
theorem free_c (h : PI w O K W S mo dw) {j : Nat} {f : FE} (hj : S.fs[j]? = some f) (hf : f.freed = false) : Calls Try.prog 29 #[P K.wk, .agg #[.int .i64 (f.first : Int), .int .i64 (f.blocks : Int), .int .i64 (f.width : Int), .int .i64 (f.l.length : Int)]] w (FreeC w O K W S mo dw j f) := by
  by_cases hb : f.blocks = 0
  · have hz := free_zero (f.first : Int) (f.width : Int) (f.l.length : Int) K.wk w
    rw [hb]
    refine hz.mono ?_
    rintro ev w' ⟨rfl, hbw⟩
    exact ⟨rfl, W, dw, (h.below hbw).free_zero hj hb, Turn.below hbw, rfl⟩
  · refine (free_any (f.first : Int) (f.blocks : Int) (f.width : Int) (f.l.length : Int) h.wk (by omega)).mono ?_
    intro ev w' hg
    obtain ⟨W', dw', rfl, hp, h1, h2, h3, hT⟩ := h.free_ok hj hf hb hg
    exact ⟨rfl, W', dw', hp, hT, h1⟩
end

end Go.Proofs.Ytmmkncocgjgapaa.Fp
