/- FilePlays: writers, files, readers side by side: plain. -/
import Derived.Test.YtmmkncocgjgapaaZFpSt
import Derived.Test.YtmmkncocgjgapaaZFlTurn
set_option linter.unusedVariables false
namespace Go.Proofs.Ytmmkncocgjgapaa.Fp
open Go.RowKit Fl

structure WE where
  x : Nat
  X : Wr
  ps : List Tup
  pv : Value
  op : Bool
structure FE where
  first : Nat
  blocks : Nat
  width : Nat
  l : List Tup
  hv : Value
  freed : Bool
structure RE where
  y : Nat
  Y : Fl.Rd
  file : Nat
  at_ : Nat
  rd : Bool
structure PS where
  ws : List WE
  fs : List FE
  rs : List RE
/-- The cells of the law's rows. -/
def PS.C (S : PS) : Nat → List Value
  | 1 => S.ws.map fun e => P e.x
  | 2 => S.ws.map fun e => e.pv
  | 3 => S.ws.map fun e => .int .i64 (e.X.width : Int)
  | 4 => S.ws.map fun e => .int .i64 (e.X.bound : Int)
  | 5 => S.ws.map fun e => .bool e.op
  | 6 => S.fs.flatMap fun f => (fcells f.first f.blocks f.width f.l.length).toList
  | 7 => S.fs.map fun f => f.hv
  | 8 => S.fs.map fun f => .bool f.freed
  | 9 => S.rs.map fun r => P r.y
  | 10 => S.rs.map fun r => .int .i64 (r.file : Int)
  | 11 => S.rs.map fun r => .int .i64 (r.at_ : Int)
  | _ => S.rs.map fun r => .bool r.rd
def PS.n (S : PS) : Nat → Nat
  | 1 => S.ws.length
  | 2 => S.ws.length
  | 3 => S.ws.length
  | 4 => S.ws.length
  | 5 => S.ws.length
  | 6 => S.fs.length
  | 7 => S.fs.length
  | 8 => S.fs.length
  | _ => S.rs.length
/-- How many buffers stand. -/
def PS.live (S : PS) : Nat := S.ws.countP (·.op) + S.rs.countP (·.rd)
abbrev Ow := Nat → Option (Bool × Nat)
structure WI (w : World) (O : Nat → Prop) (K : Key) (W : Wk) (mo dw : Ow) (k : Nat) (e : WE) : Prop where
  me : mo e.x = some (true, k)
  fits : FitsW e.X.width e.ps
  wid : 1 ≤ e.X.width ∧ e.X.width ≤ 5 ∧ e.X.bound ≤ 100000000
  len : e.ps.length ≤ e.X.bound
  live : e.op = true → WrAt w O K W e.x e.X ∧ e.X.closed = false ∧ e.X.Has W.D e.ps ∧ mo e.X.buf = some (true, k) ∧ mo e.X.arr = some (true, k) ∧ e.X.first + e.X.blocks ≤ W.B ∧ ∀ i, i < e.X.blocks → dw (e.X.first + i) = some (true, k)
  dead : e.op = false → ∃ cs, Blk w e.x 117 cs ∧ cs[9]? = some (.bool true)
structure FI (W : Wk) (S : PS) (dw : Ow) (j : Nat) (f : FE) : Prop where
  wid : 1 ≤ f.width ∧ f.width ≤ 5
  blocks : f.blocks = nB W.D.size f.width f.l.length
  fits : FitsW f.width f.l
  len : f.l.length ≤ 100000000
  fst : f.first ≤ 5000 ∧ (f.blocks = 0 → f.first = 0)
  live : f.freed = false → Lies W.D f.width f.first f.blocks f.l ∧ f.first + f.blocks ≤ W.B ∧ ∀ i, i < f.blocks → dw (f.first + i) = some (false, j)
  src : ∃ (k : Nat) (e : WE), S.ws[k]? = some e ∧ e.op = false ∧ e.pv = f.hv ∧ e.ps = f.l
structure RI (w : World) (O : Nat → Prop) (K : Key) (W : Wk) (S : PS) (mo : Ow) (r : Nat) (e : RE) : Prop where
  at_ : RdAt w O K W e.y e.Y
  cl : e.Y.closed = !e.rd
  me : mo e.y = some (false, r)
  live : e.rd = true → mo e.Y.buf = some (false, r) ∧ mo e.Y.arr = some (false, r)
  file : ∃ f : FE, S.fs[e.file]? = some f ∧ e.at_ ≤ f.l.length ∧ (e.rd = true → f.freed = false → e.Y.Has W.D f.first f.width f.l ∧ e.Y.told = e.at_)
/-- The rows of what was put. -/
structure TR (w : World) (K : Key) (S : PS) (tw : Nat → Option Nat) : Prop where
  own : ∀ k e, S.ws[k]? = some e → w.ownsRow K.base 45 5 e.pv e.ps.length (flatT e.ps) ∧ ∀ g, e.pv.ownBlock = some g → tw g = some k
  lt : ∀ g k, tw g = some k → K.base ≤ g ∧ g < w.heap.size
structure PI (w : World) (O : Nat → Prop) (K : Key) (W : Wk) (S : PS) (mo dw : Ow) : Prop where
  wk : WkI w O K W
  sure : Sure W.D ∧ W.D.fault = -1
  bl : W.D.blocks = W.B ∧ W.B ≤ 5000
  wf : ∀ k e, S.ws[k]? = some e → WI w O K W mo dw k e
  ff : ∀ j f, S.fs[j]? = some f → FI W S dw j f
  rf : ∀ r e, S.rs[r]? = some e → RI w O K W S mo r e
  used : W.A.used = S.live * W.D.size
  mlt : ∀ g o, mo g = some o → K.base ≤ g ∧ g < w.heap.size
  new : ∀ g, w.heap.size ≤ g → O g
  dfr : ∀ b o, dw b = some o → ¬ Sp.Fr W.L b ∧ b < W.B

section
variable {w w' : World} {O O' : Nat → Prop} {K : Key} {W W' : Wk} {S S' : PS} {mo dw : Ow} {tw : Nat → Option Nat} {E : Nat → Prop}
/-- An act of one of them, seen from the others: mw = whose memory, dm = whose blocks are turned. -/
structure Beside (w w' : World) (O O' : Nat → Prop) (K : Key) (W W' : Wk) (mo dw : Ow) (E : Nat → Prop) (mw : Option (Bool × Nat)) (dm : Option (Bool × Nat)) : Prop where
  wk : WkI w O K W
  turn : Turn K E w w'
  own : ∀ g, E g → w.heap.size ≤ g ∨ (mo g = mw ∧ mw ≠ none)
  out : ∀ g, g < w.heap.size → O' g → O g
  size : W'.D.size = W.D.size
  b : W'.B = W.B
  st : ∀ p ∈ W.A.st, (mo p.1 = mw → mw = none) → p ∈ W'.A.st
  now : ∀ b o, dw b = some o → (some o ≠ dm) → W'.D.now (b : Int) = W.D.now (b : Int)
variable {mw dm : Option (Bool × Nat)}
theorem Beside.nE (h : Beside w w' O O' K W W' mo dw E mw dm) {g : Nat} {o : Bool × Nat} (hm : mo g = some o) (hl : g < w.heap.size) (hne : some o ≠ mw) : ¬ E g := fun e => by
  rcases h.own g e with e2 | ⟨e2, _⟩
  · omega
  · exact hne (by rw [← hm, e2])
theorem Beside.theirs (h : Beside w w' O O' K W W' mo dw E mw dm) (hE : ∀ g, mo g = mw → mw ≠ none → ∃ t cs, Blk w g t cs ∧ ¬ Mine t) : Theirs w E := fun g e => by
  rcases h.own g e with e2 | ⟨e2, e3⟩
  · exact .inl e2
  · exact .inr (hE g e2 e3)
theorem WI.stay {k : Nat} {e : WE} (h : WI w O K W mo dw k e) (hb : Beside w w' O O' K W W' mo dw E mw dm) (hm : some (true, k) ≠ mw) (hd : some (true, k) ≠ dm) (hlt : ∀ g o, mo g = some o → K.base ≤ g ∧ g < w.heap.size) : WI w' O' K W' mo dw k e := by
  have hx := hb.nE h.me (hlt _ _ h.me).2 hm
  refine ⟨h.me, h.fits, h.wid, h.len, fun ho => ?_, fun ho => ?_⟩
  · obtain ⟨a1, a2, a3, a4, a5, a6, a7⟩ := h.live ho
    refine ⟨a1.turn' hb.wk hb.turn hx (fun _ => hb.nE a4 (hlt _ _ a4).2 hm) (fun _ => hb.nE a5 (hlt _ _ a5).2 hm) hb.out hb.size (fun p hp hpb => hb.st p hp (fun e2 => by
      rw [hpb, a4] at e2
      exact absurd e2 hm)), a2, a3.stay hb.size (fun j hj => ?_), a4, a5, by rw [hb.b]; exact a6, a7⟩
    have hok := a3.ok.at_le' hb.wk.size.1 h.wid.1 h.wid.2.1
    have := hb.now (e.X.first + j) (true, k) (a7 j (by omega)) hd
    exact this
  · obtain ⟨cs, b1, b2⟩ := h.dead ho
    exact ⟨cs, hb.wk.blk hb.turn b1 (by decide) (by decide) (by decide) (by decide) (by decide) hx, b2⟩
theorem FI.stay {j : Nat} {f : FE} (h : FI W S dw j f) (hb : Beside w w' O O' K W W' mo dw E mw dm) (hd : some (false, j) ≠ dm) : FI W' S dw j f := by
  refine ⟨h.wid, by rw [hb.size]; exact h.blocks, h.fits, h.len, h.fst, fun ho => ?_, h.src⟩
  obtain ⟨a1, a2, a3⟩ := h.live ho
  exact ⟨a1.stay hb.size (fun i hi => hb.now (f.first + i) (false, j) (a3 i hi) hd), by rw [hb.b]; exact a2, a3⟩
theorem RI.stay {r : Nat} {e : RE} (h : RI w O K W S mo r e) (hb : Beside w w' O O' K W W' mo dw E mw dm) (hm : some (false, r) ≠ mw) (hd : ∀ j, some (false, j) ≠ dm) (hlt : ∀ g o, mo g = some o → K.base ≤ g ∧ g < w.heap.size) (hf : ∀ j f, S.fs[j]? = some f → FI W S dw j f) : RI w' O' K W' S mo r e := by
  have hx := hb.nE h.me (hlt _ _ h.me).2 hm
  have hcl := h.cl
  obtain ⟨f, f1, f2, f3⟩ := h.file
  refine ⟨⟨hb.wk.blk hb.turn h.at_.blk (by decide) (by decide) (by decide) (by decide) (by decide) hx, fun hc => ?_, h.at_.width, h.at_.count⟩, h.cl, h.me, h.live, f, f1, f2, fun hr hfr => ?_⟩
  · have hr : e.rd = true := by cases hrd : e.rd with
      | true => rfl
      | false => rw [hc, hrd] at hcl; cases hcl
    obtain ⟨b1, b2⟩ := h.live hr
    exact (h.at_.live hc).turn' hb.wk hb.turn (hb.nE b1 (hlt _ _ b1).2 hm) (hb.nE b2 (hlt _ _ b2).2 hm) hb.out hb.size (fun p hp hpb => hb.st p hp (fun e2 => by
      rw [hpb, b1] at e2
      exact absurd e2 hm))
  · obtain ⟨c1, c2⟩ := f3 hr hfr
    have hF := hf _ _ f1
    obtain ⟨_, _, d3⟩ := hF.live hfr
    rw [hF.blocks] at d3
    exact ⟨c1.stay hb.size (fun j hj => hb.now (f.first + j) _ (d3 j hj) (hd _)), c2⟩
theorem WI.ext {k : Nat} {e : WE} {mo' dw' : Ow} (h : WI w O K W mo dw k e) (hm : ∀ g, mo g = some (true, k) → mo' g = some (true, k)) (hd : ∀ g, dw g = some (true, k) → dw' g = some (true, k)) : WI w O K W mo' dw' k e :=
  ⟨hm _ h.me, h.fits, h.wid, h.len, fun ho => by
    obtain ⟨a1, a2, a3, a4, a5, a6, a7⟩ := h.live ho
    exact ⟨a1, a2, a3, hm _ a4, hm _ a5, a6, fun i hi => hd _ (a7 i hi)⟩, h.dead⟩
theorem FI.ext {j : Nat} {f : FE} {dw' : Ow} {S' : PS} (h : FI W S dw j f) (hd : ∀ g, dw g = some (false, j) → dw' g = some (false, j)) (hs : ∀ (k : Nat) (e : WE), S.ws[k]? = some e → e.op = false → ∃ e' : WE, S'.ws[k]? = some e' ∧ e'.op = false ∧ e'.pv = e.pv ∧ e'.ps = e.ps) : FI W S' dw' j f :=
  ⟨h.wid, h.blocks, h.fits, h.len, h.fst, fun ho => by
    obtain ⟨a1, a2, a3⟩ := h.live ho
    exact ⟨a1, a2, fun i hi => hd _ (a3 i hi)⟩, by
    obtain ⟨k, e, h1, h2, h3, h4⟩ := h.src
    obtain ⟨e', g1, g2, g3, g4⟩ := hs k e h1 h2
    exact ⟨k, e', g1, g2, g3.trans h3, g4.trans h4⟩⟩
theorem RI.ext {r : Nat} {e : RE} {mo' : Ow} {S' : PS} (h : RI w O K W S mo r e) (hm : ∀ g, mo g = some (false, r) → mo' g = some (false, r)) (hs : ∀ (j : Nat) (f : FE), S.fs[j]? = some f → ∃ f' : FE, S'.fs[j]? = some f' ∧ f'.first = f.first ∧ f'.width = f.width ∧ f'.l = f.l ∧ (f'.freed = false → f.freed = false)) : RI w O K W S' mo' r e :=
  ⟨h.at_, h.cl, hm _ h.me, fun hr => by
    obtain ⟨a1, a2⟩ := h.live hr
    exact ⟨hm _ a1, hm _ a2⟩, by
    obtain ⟨f, f1, f2, f3⟩ := h.file
    obtain ⟨f', g1, g2, g3, g4, g5⟩ := hs _ f f1
    exact ⟨f', g1, by rw [g4]; exact f2, fun hr hfr => by rw [g2, g3, g4]; exact f3 hr (g5 hfr)⟩⟩
theorem TR.turn (h : TR w K S tw) (hI : WkI w O K W) (ht : Turn K E w w') (hE : Theirs w E) : TR w' K S tw :=
  ⟨fun k e hk => ⟨own_mine hI ht hE (h.own k e hk).1 (by unfold Mine; simp), (h.own k e hk).2⟩, fun g k hg => by
    have := h.lt g k hg
    exact ⟨this.1, Nat.lt_of_lt_of_le this.2 ht.size⟩⟩
end

end Go.Proofs.Ytmmkncocgjgapaa.Fp
