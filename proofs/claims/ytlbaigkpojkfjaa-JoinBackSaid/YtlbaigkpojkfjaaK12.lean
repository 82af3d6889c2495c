/- Texts of mine, packed: JnLoop, JnEach. -/
import Derived.Test.YtlbaigkpojkfjaaK11
set_option linter.unusedVariables false

/- What stands in each's loop, and how Next, the maker and Put turn it. -/
namespace Go.Proofs.Ytlbaigkpojkfjaa.Fl
open Go.RowKit

/-- The reader has told kr tuples, the writer has put what is made of kw, the maker stands at kj. -/
structure EL (w0 w2 wr : World) (O : Nat → Prop) (K : Key) (W : Wk) (x y rb : Nat) (b d b2 d2 first wN fst2 nM wM : Nat) (Ej : Nat → Prop) (J : Nat → Nat → World → (Nat → Prop) → Wk → Prop) (l : List Tup) (mk : Nat → Tup) (kp : Nat → Bool) (V : Wk) (kr kw kj m : Nat) (X : Rd) (Y : Wr) (D : Dev.Dv) : Prop where
  wk : WkI wr O K { V with D := D }
  rd : RdAt wr O K { V with D := D } x X
  rH : X.Has D first wN l
  rc : X.closed = false ∧ X.told = kr ∧ X.buf = b ∧ X.arr = d
  wt : WrAt wr O K { V with D := D } y Y
  wH : Y.Has D (made mk kp kw)
  wc : Y.closed = false ∧ Y.first = fst2 ∧ Y.blocks = nM ∧ Y.width = wM ∧ Y.bound = l.length ∧ Y.buf = b2 ∧ Y.arr = d2
  sure : Sure D
  kin : D.size = W.D.size ∧ D.blocks = W.D.blocks ∧ D.acts ≤ W.D.acts + kr + kw + m ∧ (W.D.fault = -1 → D.fault = -1)
  now : ∀ i : Int, (∀ j, j < nM → i ≠ ((fst2 + j : Nat) : Int)) → D.now i = W.D.now i
  mak : J kj m wr O { V with D := D }
  res : Blk wr rb 29 noFile
  turn : Turn K (fun q => w0.heap.size ≤ q ∨ Ej q) w2 wr
def toldOf (wr : World) (x : Nat) : Nat := match wr.cell? ⟨x, 9, none⟩ with | some (.int _ n) => n.toNat | _ => 0
def ELoop (w0 w2 : World) (O : Nat → Prop) (K : Key) (W : Wk) (x y rb : Nat) (b d b2 d2 first wN fst2 nM wM : Nat) (Ej : Nat → Prop) (J : Nat → Nat → World → (Nat → Prop) → Wk → Prop) (l : List Tup) (mk : Nat → Tup) (kp : Nat → Bool) (V : Wk) (wr : World) : Prop :=
  ∃ (k m : Nat) (X : Rd) (Y : Wr) (D : Dev.Dv), k ≤ l.length ∧ EL w0 w2 wr O K W x y rb b d b2 d2 first wN fst2 nM wM Ej J l mk kp V k k k m X Y D
/-- Where the blocks of reader, writer and result lie. -/
structure Far (w0 : World) (Ej : Nat → Prop) (x y rb b d b2 d2 : Nat) : Prop where
  low : w0.heap.size ≤ x ∧ w0.heap.size ≤ y ∧ w0.heap.size ≤ rb ∧ w0.heap.size ≤ b ∧ w0.heap.size ≤ d ∧ w0.heap.size ≤ b2 ∧ w0.heap.size ≤ d2
  ej : ∀ g, Ej g → g < w0.heap.size
  ne : b ≠ b2 ∧ d ≠ d2

section
variable {w0 w2 wr w' : World} {O : Nat → Prop} {K : Key} {W V : Wk} {x y rb b d b2 d2 first wN fst2 nM wM kr kw kj : Nat} {Ej E : Nat → Prop} {J : Nat → Nat → World → (Nat → Prop) → Wk → Prop} {JE : Nat → World → (Nat → Prop) → Wk → Prop} {Why : Int → Prop} {h0 m : Nat} {l : List Tup} {mk : Nat → Tup} {kp : Nat → Bool} {X : Rd} {Y : Wr} {D : Dev.Dv}
theorem EL.types (h : EL w0 w2 wr O K W x y rb b d b2 d2 first wN fst2 nM wM Ej J l mk kp V kr kw kj m X Y D) :
    Blk wr x 122 (rcells K X) ∧ BufAt wr O { V with D := D } b d X.ws ∧ Blk wr y 132 (wcells K Y) ∧ BufAt wr O { V with D := D } b2 d2 Y.ws := by
  have h1 := h.rd.live h.rc.1
  have h2 := h.wt.live h.wc.1
  rw [h.rc.2.2.1, h.rc.2.2.2] at h1
  rw [h.wc.2.2.2.2.2.1, h.wc.2.2.2.2.2.2] at h2
  exact ⟨h.rd.blk, h1, h.wt.blk, h2⟩
theorem EL.grow (h : EL w0 w2 wr O K W x y rb b d b2 d2 first wN fst2 nM wM Ej J l mk kp V kr kw kj m X Y D) (hF : Far w0 Ej x y rb b d b2 d2) : w0.heap.size ≤ wr.heap.size := by
  have := h.types.1.lt
  have := hF.low.1
  omega
/-- Blocks that come and the maker's own are beside all that each holds; the device may be read. -/
theorem EL.beside (h : EL w0 w2 wr O K W x y rb b d b2 d2 first wN fst2 nM wM Ej J l mk kp V kr kw kj m X Y D) (hF : Far w0 Ej x y rb b d b2 d2) (ht : Turn K E wr w') (hE : ∀ q, E q → wr.heap.size ≤ q ∨ Ej q) {D' : Dev.Dv} (hC : Calm D D') {m' : Nat} (hm : m ≤ m') (ha : D'.acts + m ≤ D.acts + m') (hI' : WkI w' O K { V with D := D' }) {kj' : Nat} (hJ : J kj' m' w' O { V with D := D' }) :
    EL w0 w2 w' O K W x y rb b d b2 d2 first wN fst2 nM wM Ej J l mk kp V kr kw kj' m' X Y D' := by
  obtain ⟨t1, t2, t3, t4⟩ := h.types
  obtain ⟨l1, l2, l3, l4, l5, l6, l7⟩ := hF.low
  have hgr := h.grow hF
  have hno : ∀ q, w0.heap.size ≤ q → q < wr.heap.size → ¬ E q := fun q h1 h2 e => by
    rcases hE q e with h3 | h3
    · omega
    · have := hF.ej q h3; omega
  refine ⟨hI', h.rd.turn' h.wk ht (hno x l1 t1.lt) (fun _ => ?_) (fun _ => ?_) (fun _ _ h => h) hC.size (fun _ h _ => h), h.rH.stay hC.size (fun _ _ => by rw [hC.now]), h.rc, h.wt.turn' h.wk ht (hno y l2 t3.lt) (fun _ => ?_) (fun _ => ?_) (fun _ _ h => h) hC.size (fun _ h _ => h), h.wH.stay hC.size (fun _ _ => by rw [hC.now]), h.wc, hC.sure h.sure, ⟨hC.size.trans h.kin.1, hC.blocks.trans h.kin.2.1, by have := h.kin.2.2.1; omega, fun hf => hC.fault (h.kin.2.2.2 hf)⟩, fun i hi => by rw [hC.now]; exact h.now i hi, hJ, h.wk.blk ht h.res (by decide) (by decide) (by decide) (by decide) (by decide) (hno rb l3 h.res.lt), h.turn.trans (ht.mono (fun q hq => ?_))⟩
  · rw [h.rc.2.2.1]; exact hno b l4 t2.blk.lt
  · rw [h.rc.2.2.2]; exact hno d l5 t2.row.lt
  · rw [h.wc.2.2.2.2.2.1]; exact hno b2 l6 t4.blk.lt
  · rw [h.wc.2.2.2.2.2.2]; exact hno d2 l7 t4.row.lt
  · rcases hE q hq with h1 | h1
    · exact .inl (by omega)
    · exact .inr h1
theorem EL.below (h : EL w0 w2 wr O K W x y rb b d b2 d2 first wN fst2 nM wM Ej J l mk kp V kr kw kj m X Y D) (hF : Far w0 Ej x y rb b d b2 d2) {F : FuncId} {rv : Value} (hM : Rich F rv K W.L Ej h0 J JE Why l mk kp) (hb : Below wr.heap.size wr w') : EL w0 w2 w' O K W x y rb b d b2 d2 first wN fst2 nM wM Ej J l mk kp V kr kw kj m X Y D :=
  h.beside (E := fun _ => False) hF (Turn.below hb) (fun _ h => h.elim) (Calm.refl _) (Nat.le_refl _) (Nat.le_refl _) (h.wk.below hb) (hM.stay _ _ _ _ _ _ _ _ (fun _ => False) h.mak h.wk (Turn.below hb) (fun _ _ h => h) (fun _ _ h => h) ⟨rfl, rfl⟩ (fun _ _ => rfl) (fun _ h _ => h))
/-- The maker's call. -/
theorem EL.made_ (h : EL w0 w2 wr O K W x y rb b d b2 d2 first wN fst2 nM wM Ej J l mk kp V kr kw kj m X Y D) (hF : Far w0 Ej x y rb b d b2 d2) (ht : Turn K Ej wr w') {D' : Dev.Dv} (hC : Calm D D') {m' : Nat} (hm : m ≤ m') (ha : D'.acts + m ≤ D.acts + m') (hI' : WkI w' O K { V with D := D' }) (hJ : J (kj + 1) m' w' O { V with D := D' }) :
    EL w0 w2 w' O K W x y rb b d b2 d2 first wN fst2 nM wM Ej J l mk kp V kr kw (kj + 1) m' X Y D' := h.beside hF ht (fun q hq => .inr hq) hC hm ha hI' hJ
/-- Blocks of the reader's own are none of the others'. -/
theorem EL.rdOwn (h : EL w0 w2 wr O K W x y rb b d b2 d2 first wN fst2 nM wM Ej J l mk kp V kr kw kj m X Y D) (hF : Far w0 Ej x y rb b d b2 d2) {q : Nat} (hq : OwnR x X q ∨ wr.heap.size ≤ q) : w0.heap.size ≤ q ∧ ¬ Ej q ∧ q ≠ y ∧ q ≠ b2 ∧ q ≠ d2 ∧ q ≠ rb := by
  obtain ⟨t1, t2, t3, t4⟩ := h.types
  obtain ⟨l1, l2, l3, l4, l5, l6, l7⟩ := hF.low
  have hgr := h.grow hF
  have h0 : w0.heap.size ≤ q ∧ q ≠ y ∧ q ≠ b2 ∧ q ≠ d2 ∧ q ≠ rb := by
    rcases hq with (e | e | e) | e
    · rw [e]
      exact ⟨l1, t1.ne_ t3 (by decide), t1.ne_ t4.blk (by decide), t1.ne_ t4.row (by decide), t1.ne_ h.res (by decide)⟩
    · rw [e, h.rc.2.2.1]
      exact ⟨l4, t2.blk.ne_ t3 (by decide), hF.ne.1, t2.blk.ne_ t4.row (by decide), t2.blk.ne_ h.res (by decide)⟩
    · rw [e, h.rc.2.2.2]
      exact ⟨l5, t2.row.ne_ t3 (by decide), t2.row.ne_ t4.blk (by decide), hF.ne.2, t2.row.ne_ h.res (by decide)⟩
    · have := t3.lt
      have := t4.blk.lt
      have := t4.row.lt
      have := h.res.lt
      exact ⟨by omega, by omega, by omega, by omega, by omega⟩
  exact ⟨h0.1, fun e => by have := hF.ej q e; omega, h0.2.1, h0.2.2.1, h0.2.2.2.1, h0.2.2.2.2⟩
theorem EL.wrOwn (h : EL w0 w2 wr O K W x y rb b d b2 d2 first wN fst2 nM wM Ej J l mk kp V kr kw kj m X Y D) (hF : Far w0 Ej x y rb b d b2 d2) {q : Nat} (hq : Own y Y q ∨ wr.heap.size ≤ q) : w0.heap.size ≤ q ∧ ¬ Ej q ∧ q ≠ x ∧ q ≠ b ∧ q ≠ d ∧ q ≠ rb := by
  obtain ⟨t1, t2, t3, t4⟩ := h.types
  obtain ⟨l1, l2, l3, l4, l5, l6, l7⟩ := hF.low
  have hgr := h.grow hF
  have h0 : w0.heap.size ≤ q ∧ q ≠ x ∧ q ≠ b ∧ q ≠ d ∧ q ≠ rb := by
    rcases hq with (e | e | e) | e
    · rw [e]
      exact ⟨l2, t3.ne_ t1 (by decide), t3.ne_ t2.blk (by decide), t3.ne_ t2.row (by decide), t3.ne_ h.res (by decide)⟩
    · rw [e, h.wc.2.2.2.2.2.1]
      exact ⟨l6, t4.blk.ne_ t1 (by decide), (Ne.symm hF.ne.1), t4.blk.ne_ t2.row (by decide), t4.blk.ne_ h.res (by decide)⟩
    · rw [e, h.wc.2.2.2.2.2.2]
      exact ⟨l7, t4.row.ne_ t1 (by decide), t4.row.ne_ t2.blk (by decide), (Ne.symm hF.ne.2), t4.row.ne_ h.res (by decide)⟩
    · have := t1.lt
      have := t2.blk.lt
      have := t2.row.lt
      have := h.res.lt
      exact ⟨by omega, by omega, by omega, by omega, by omega⟩
  exact ⟨h0.1, fun e => by have := hF.ej q e; omega, h0.2.1, h0.2.2.1, h0.2.2.2.1, h0.2.2.2.2⟩
/-- Behind a Next that tells a tuple. -/
theorem EL.next (h : EL w0 w2 wr O K W x y rb b d b2 d2 first wN fst2 nM wM Ej J l mk kp V kr kw kj m X Y D) (hF : Far w0 Ej x y rb b d b2 d2) {F : FuncId} {rv : Value} (hM : Rich F rv K W.L Ej h0 J JE Why l mk kp) {X1 : Rd} {D1 : Dev.Dv} {e : Ending} (hXH : X1.next.Has D1 first wN l) (htl : X1.next.told = X.told + 1) (hnw : D1.now = D.now) {n1 : Nat} (hn1 : n1 ≤ 1) (hg : Goes D D1 n1) (hkin : ReadsKin { V with D := D } X 1 X1.next D1) (hN : NextOk wr O K { V with D := D } x X X1 D1 e w') :
    EL w0 w2 w' O K W x y rb b d b2 d2 first wN fst2 nM wM Ej J l mk kp V (kr + 1) kw kj m X1.next Y D1 := by
  obtain ⟨_, hI4, hX4, hB4, ht4⟩ := hN
  have own := fun {q : Nat} hq => h.rdOwn hF (q := q) hq
  refine ⟨hI4, ⟨hX4, fun _ => by rw [hkin.buf, hkin.arr]; exact hB4, by rw [hkin.width]; exact h.rd.width, by rw [hkin.count]; exact h.rd.count⟩, hXH, ⟨hkin.closed.trans h.rc.1, by rw [htl, h.rc.2.1], hkin.buf.trans h.rc.2.2.1, hkin.arr.trans h.rc.2.2.2⟩, ?_, h.wH.stay hg.size (fun j hj => by rw [hnw]), h.wc, hg.sure h.sure, ⟨hg.size.trans h.kin.1, hg.blocks.trans h.kin.2.1, ?_, fun hf => hg.fault (h.kin.2.2.2 hf)⟩, fun i hi => by rw [hnw]; exact h.now i hi, hM.stay _ _ _ _ _ _ _ _ _ h.mak h.wk ht4 (fun g hg' hq => (own hq).2.1 hg') (fun _ _ h => h) ⟨hg.size, hg.blocks⟩ (fun _ _ => by show D1.now _ = D.now _; rw [hnw]) (fun _ h _ => h), h.wk.blk ht4 h.res (by decide) (by decide) (by decide) (by decide) (by decide) (fun hq => (own hq).2.2.2.2.2 rfl), h.turn.trans (ht4.mono (fun q hq => .inl (own hq).1))⟩
  · exact h.wt.turn' h.wk ht4 (fun hq => (own hq).2.2.1 rfl) (fun _ hq => (own hq).2.2.2.1 h.wc.2.2.2.2.2.1) (fun _ hq => (own hq).2.2.2.2.1 h.wc.2.2.2.2.2.2) (fun _ _ h => h) hg.size (fun _ h _ => h)
  · have := hg.acts
    have := h.kin.2.2.1
    omega
/-- Behind a Put that goes well. -/
theorem EL.put (h : EL w0 w2 wr O K W x y rb b d b2 d2 first wN fst2 nM wM Ej J l mk kp V kr kw kj m X Y D) (hF : Far w0 Ej x y rb b d b2 d2) {F : FuncId} {rv : Value} (hM : Rich F rv K W.L Ej h0 J JE Why l mk kp) {t : Tup} {e : Ending} (h8 : 8 ≤ W.D.size) (m1 : 1 ≤ wM) (m5 : wM ≤ 5) (hP : PutYes wr O K { V with D := D } y Y t e w') (hH : (Y.next { V with D := D } t).1.Has (Y.next { V with D := D } t).2 (made mk kp (kw + 1)))
    (hfar : ∀ j j', j < nB W.D.size wN l.length → j' < nM → first + j ≠ fst2 + j') (hfree : ∀ j, j < nM → Sp.Fr W.L (fst2 + j)) : EL w0 w2 w' O K W x y rb b d b2 d2 first wN fst2 nM wM Ej J l mk kp V kr (kw + 1) kj m X (Y.next { V with D := D } t).1 (Y.next { V with D := D } t).2 := by
  obtain ⟨hq0, _, hI4, hX4, ht4⟩ := hP
  obtain ⟨a1, a2, a3, a4, a5, a6, a7, a8, a9, a10⟩ := next_same Y { V with D := D } t
  obtain ⟨g1, g2, g3⟩ := next_goes hq0
  have a10' : (Y.next { V with D := D } t).2.size = D.size := a10
  have own := fun {q : Nat} (hq : Own y Y q) => h.wrOwn hF (q := q) (.inl hq)
  have hat : (Y.next { V with D := D } t).1.at_ ≤ nM := by
    have hok := hH.ok
    rw [a10', h.kin.1] at hok
    have := hok.at_le' h8 (by rw [a3, h.wc.2.2.2.1]; exact m1) (by rw [a3, h.wc.2.2.2.1]; exact m5)
    rw [a2, h.wc.2.2.1] at this
    exact this
  have hacts : (Y.next { V with D := D } t).2.acts ≤ D.acts + 1 := next_acts Y { V with D := D } t
  refine ⟨hI4, ?_, h.rH.stay a10' (fun j hj => g3 _ (fun j' _ hj' e => ?_)), h.rc, hX4, hH, ⟨a9.trans h.wc.1, a1.trans h.wc.2.1, a2.trans h.wc.2.2.1, a3.trans h.wc.2.2.2.1, a4.trans h.wc.2.2.2.2.1, a6.trans h.wc.2.2.2.2.2.1, a7.trans h.wc.2.2.2.2.2.2⟩, g2.sure h.sure, ⟨a10'.trans h.kin.1, g2.blocks.trans h.kin.2.1, by have := h.kin.2.2.1; omega, fun hf => g2.fault (h.kin.2.2.2 hf)⟩, fun i hi => ?_, hM.stay _ _ _ _ _ _ _ _ _ h.mak h.wk ht4 (fun g hg' hq => (own hq).2.1 hg') (fun _ _ h => h) ⟨a10', g2.blocks⟩ (fun i hi => g3 i (fun j' _ hj' e => by rw [h.wc.2.1] at e; exact hi _ (hfree j' (by omega)) e)) (fun _ h _ => h), h.wk.blk ht4 h.res (by decide) (by decide) (by decide) (by decide) (by decide) (fun hq => (own hq).2.2.2.2.2 rfl), h.turn.trans (ht4.mono (fun q hq => .inl (own hq).1))⟩
  · exact h.rd.turn' h.wk ht4 (fun hq => (own hq).2.2.1 rfl) (fun _ hq => (own hq).2.2.2.1 h.rc.2.2.1) (fun _ hq => (own hq).2.2.2.2.1 h.rc.2.2.2) (fun _ _ h => h) a10' (fun _ h _ => h)
  · rw [h.wc.2.1] at e
    rw [h.kin.1] at hj
    exact hfar j j' hj (by omega) (by omega)
  · refine (g3 i (fun j' _ hj' e => ?_)).trans (h.now i hi)
    rw [h.wc.2.1] at e
    exact hi j' (by omega) e
/-- A tuple that isn't kept. -/
theorem EL.skip (h : EL w0 w2 wr O K W x y rb b d b2 d2 first wN fst2 nM wM Ej J l mk kp V kr kw kj m X Y D) (hkp : kp kw = false) : EL w0 w2 wr O K W x y rb b d b2 d2 first wN fst2 nM wM Ej J l mk kp V kr (kw + 1) kj m X Y D :=
  ⟨h.wk, h.rd, h.rH, h.rc, h.wt, by rw [made_no hkp]; exact h.wH, h.wc, h.sure, ⟨h.kin.1, h.kin.2.1, by have := h.kin.2.2.1; omega, h.kin.2.2.2⟩, h.now, h.mak, h.res, h.turn⟩
theorem EL.told_ (h : EL w0 w2 wr O K W x y rb b d b2 d2 first wN fst2 nM wM Ej J l mk kp V kr kw kj m X Y D) : toldOf wr x = kr := by
  unfold toldOf
  rw [h.rd.blk.cell 9]
  show (X.told : Int).toNat = kr
  rw [h.rc.2.1]
  exact Int.toNat_natCast kr
end


theorem Stays.rel {w w' : World} {O O' : Nat → Prop} {K : Key} {W : Wk} {Ej E : Nat → Prop} {JE : Nat → World → (Nat → Prop) → Wk → Prop} {h b n : Nat} {D' : Dev.Dv} {L' : List Sp.Ext} (hS : Stays K Ej JE) (hj : JE h w O W) (hI : WkI w O K W) (ht : Turn K E w w') (hE : ∀ g, Ej g → ¬ E g) (hO : ∀ g, g < w.heap.size → O' g → O g) (hs : D'.size = W.D.size) (hb : ¬ Ej b) :
    JE h w' O' { W with D := D', A := W.A.release b n, L := L' } :=
  hS _ _ _ _ _ _ _ _ hj hI ht hE hO hs (fun p hp he => by
    unfold Arena.Ar.release
    refine List.mem_filter.2 ⟨hp, ?_⟩
    have : p.1 ≠ b := fun e => hb (e ▸ he)
    simpa using this)
theorem Stays.same {w w' : World} {O O' : Nat → Prop} {K : Key} {W : Wk} {Ej E : Nat → Prop} {JE : Nat → World → (Nat → Prop) → Wk → Prop} {h : Nat} (hS : Stays K Ej JE) (hj : JE h w O W) (hI : WkI w O K W) (ht : Turn K E w w') (hE : ∀ g, Ej g → ¬ E g) (hO : ∀ g, g < w.heap.size → O' g → O g) : JE h w' O' W :=
  hS _ _ _ _ _ _ _ _ hj hI ht hE hO rfl (fun _ h _ => h)
theorem onto_cond {w w' : World} {O : Nat → Prop} (hs : w.heap.size ≤ w'.heap.size) : ∀ g, g < w.heap.size → Fl.onto w' O g → O g := fun g hg h => by
  rcases h with h | h
  · exact h
  · omega

theorem turn_fresh2 {w w' : World} {K : Key} {E E2 : Nat → Prop} (h : Turn K E w w') (hE : ∀ k, E k → w.heap.size ≤ k ∨ E2 k) : Turn K E2 w w' := by
  refine Chg.mono ⟨h.os, h.tape, h.output, h.size, fun k hk hn => ?_⟩ (fun k _ h => h)
  exact Chg.block h k hk (fun hf => hn (by
    rcases hf with e | e | e | e | e | e | e | e | e
    · exact .inl e
    · exact .inr (.inl e)
    · exact .inr (.inr (.inl e))
    · exact .inr (.inr (.inr (.inl e)))
    · exact .inr (.inr (.inr (.inr (.inl e))))
    · exact .inr (.inr (.inr (.inr (.inr (.inl e)))))
    · exact .inr (.inr (.inr (.inr (.inr (.inr (.inl e))))))
    · exact .inr (.inr (.inr (.inr (.inr (.inr (.inr (.inl e)))))))
    · rcases hE k e with h1 | h1
      · omega
      · exact .inr (.inr (.inr (.inr (.inr (.inr (.inr (.inr h1)))))))))
/-- The set of rows behind two grants. -/
theorem okin_two {w w' : World} {O : Nat → Prop} {d d2 : Nat} (hs : w.heap.size ≤ w'.heap.size) : Okin w w' O (onto w' (but (but O d) d2)) := ⟨fun g hg => .inr hg, fun g hg h => by
  rcases h with h | h
  · exact h.1.1
  · omega⟩
theorem each_no_plain {W V : Wk} {n b b2 nM fst2 wM len : Nat} {L' L2 : List Sp.Ext} {D2 : Dev.Dv} {A2 : Arena.Ar} (hV : V = { W with A := (W.A.grant n b).grant n b2, L := L' }) (hI : Sp.Inv 0 W.B W.L) (htk : TookN W.L W.B nM fst2 L') (hgv : GaveRel V.L V.B fst2 nM L2)
    (hs : D2.size = W.D.size ∧ D2.blocks = W.D.blocks ∧ (W.D.fault = -1 → D2.fault = -1)) (hsu : Sure D2) (hnow : ∀ i : Int, (∀ j, j < nM → i ≠ ((fst2 + j : Nat) : Int)) → D2.now i = W.D.now i) {Why : Int → Prop} {h0 h' : Nat} {er : Int} (hw : (er = 6 ∧ W.D.fault ≠ -1) ∨ Why er) (hA : A2.used + h0 = W.A.used + h' ∧ A2.room = W.A.room) (hac : D2.acts ≤ W.D.acts + 2000000) :
    EachNo W wM len Why h0 h' er { V with D := D2, A := A2, L := L2 } := by
  subst hV
  have hL := give_all hI htk hgv
  have ht := htk.spec hI
  exact ⟨.inr hw, rfl, hL, hA.1, hA.2, hs.1, hs.2.1, hsu, hs.2.2, fun i hi => hnow i (fun j hj => hi _ (ht.room _ (by omega) (by omega))), hac⟩
theorem each_ok_plain {W V : Wk} {n b b2 nM fst2 wM bound : Nat} {out : List Tup} {L' L2 : List Sp.Ext} {D D2 : Dev.Dv} {A2 : Arena.Ar} (hV : V = { W with A := (W.A.grant n b).grant n b2, L := L' }) (hI : Sp.Inv 0 W.B W.L) (htk : TookN W.L W.B nM fst2 L') (hm : nB W.D.size wM out.length ≤ nM) (hnM : nM = nB W.D.size wM bound) (hgv : GaveRel V.L V.B (fst2 + nB W.D.size wM out.length) (nM - nB W.D.size wM out.length) L2)
    (hs : D2.size = W.D.size ∧ D2.blocks = W.D.blocks ∧ (W.D.fault = -1 → D2.fault = -1)) (hsu : Sure D2) (hnow : ∀ i : Int, (∀ j, j < nM → i ≠ ((fst2 + j : Nat) : Int)) → D2.now i = W.D.now i) (hl : Lies D2 wM fst2 (nB W.D.size wM out.length) out) (hA : A2.used = W.A.used ∧ A2.room = W.A.room) (hac : D2.acts ≤ W.D.acts + 2000000) :
    EachOk W wM bound out (if nB W.D.size wM out.length = 0 then 0 else fst2) { V with D := D2, A := A2, L := L2 } := by
  subst hV
  have ht := htk.spec hI
  have hleast : ∀ p, Sp.Room W.L p (nB W.D.size wM bound) → fst2 ≤ p := fun p hp => by
    rw [← hnM] at hp
    rcases Nat.eq_zero_or_pos nM with h0 | h0
    · rw [(ht.zero h0).1]; exact Nat.zero_le _
    · rcases Nat.lt_or_ge p fst2 with h | h
      · exact absurd hp (ht.least h0 p h)
      · exact h
  obtain ⟨hI2, hf2⟩ := give_tail hI ht hm hgv
  by_cases h0 : nB W.D.size wM out.length = 0
  · rw [if_pos h0]
    rw [h0] at hf2
    exact ⟨rfl, hI2, fun b => by rw [hf2 b, h0]; simp only [Nat.add_zero]; exact ⟨fun h => ⟨h.1, by omega⟩, fun h => ⟨h.1, by omega⟩⟩, fun b h1 h2 => by omega, by omega, fun _ _ => Nat.zero_le _, hA.1, hA.2, hs.1, hs.2.1, hsu, hs.2.2, fun j hj => by omega, fun i hi => hnow i (fun j hj => hi _ (ht.room _ (by omega) (by omega))), hac⟩
  · rw [if_neg h0]
    exact ⟨rfl, hI2, hf2, fun b h1 h2 => ht.room b h1 (by omega), by rcases ht.fit with h | h <;> omega, hleast, hA.1, hA.2, hs.1, hs.2.1, hsu, hs.2.2, hl, fun i hi => hnow i (fun j hj => hi _ (ht.room _ (by omega) (by omega))), hac⟩

end Go.Proofs.Ytlbaigkpojkfjaa.Fl

/- The walk of join.each. -/
namespace Go.Proofs.Ytlbaigkpojkfjaa.Fl
open Go.RowKit

section
variable {w w' : World} {O : Nat → Prop} {K : Key} {W : Wk}

set_option maxRecDepth 100000 in
set_option maxHeartbeats 8000000 in
theorem each_any {F : FuncId} {rv : Value} {Ej : Nat → Prop} {gh : Nat} {J : Nat → Nat → World → (Nat → Prop) → Wk → Prop} {JE : Nat → World → (Nat → Prop) → Wk → Prop} {Why : Int → Prop} {l : List Tup} {mk : Nat → Tup} {kp : Nat → Bool} (hM : Rich F rv K W.L Ej gh J JE Why l mk kp) (first wN wM : Nat) (hI : WkI w O K W) (hs : Sure W.D) (hB : W.B ≤ W.D.blocks) (h1 : 1 ≤ wN) (h5 : wN ≤ 5) (m1 : 1 ≤ wM) (m5 : wM ≤ 5) (hb : l.length ≤ 100000) (hf : FitsW wN l)
    (hL : Lies W.D wN first (nB W.D.size wN l.length) l) (hfit : nB W.D.size wN l.length = 0 ∨ first + nB W.D.size wN l.length ≤ W.D.blocks) (hfs : first ≤ 1000000) (hheld : ∀ j, j < nB W.D.size wN l.length → ¬ Sp.Fr W.L (first + j)) (hn : W.D.size + W.D.size ≤ W.A.room - W.A.used) (hh0 : gh ≤ W.A.used) (hac : W.D.acts ≤ 500000000000)
    (hO : ∀ g, w.heap.size ≤ g → O g) (hJ : J 0 0 w O W) (hEj : ∀ g, Ej g → g < w.heap.size) (hmk : ∀ k, k < l.length → kp k = true → FitsW wM [mk k]) :
    Calls Try.prog 32 #[P K.wk, .agg (fcells first (nB W.D.size wN l.length) wN l.length), .int .i64 (wM : Int), .func (.func F) #[rv] #[]] w (EachC w O K W Ej wM l.length (made mk kp l.length) JE gh Why) := by
  obtain ⟨s8, s256⟩ := hI.size
  obtain ⟨n, hnn⟩ : ∃ n, n = nB W.D.size wN l.length := ⟨_, rfl⟩
  have hbl1 : Below w.heap.size w (w.alloc (.cells (fcells first n wN l.length) 29)) := (Below.refl _ _).alloc (Nat.le_refl _) _
  have hbl : Below w.heap.size w ((w.alloc (.cells (fcells first n wN l.length) 29)).alloc (.cells noFile 29)) := hbl1.alloc (by simp) _
  have hF := (Blk.new w 29 (fcells first n wN l.length)).alloc (.cells noFile 29)
  have hR := Blk.new (w.alloc (.cells (fcells first n wN l.length) 29)) 29 noFile
  rw [show (w.alloc (.cells (fcells first n wN l.length) 29)).heap.size = w.heap.size + 1 from by simp] at hR
  have hblk := nB_eq (size := W.D.size) (wN := wN) (count := l.length) s8 h1 h5
  rw [← hnn] at hblk
  have HOP := Lib.hid (open_ok (first : Int) (n : Int) (wN : Int) (l.length : Int) (hI.below hbl) ⟨by omega, by omega, by omega, by omega, hblk.symm⟩ (by omega))
  have HMk := Lib.hid hM
  have HI1 := Lib.hid (hI.below hbl)
  have HF1 := Lib.hid hF
  have HR1 := Lib.hid hR
  have HB1 := Lib.hid hbl
  have HJ1 := Lib.hid (hM.stay 0 0 w _ O O W W (fun _ => False) hJ hI (Turn.below hbl) (fun _ _ h => h) (fun _ _ h => h) ⟨rfl, rfl⟩ (fun _ _ => rfl) (fun _ h _ => h))
  have HS := Lib.hid hs
  have HW := Lib.hid (And.intro hB (And.intro hL (And.intro hfit (And.intro hheld (And.intro hn (And.intro hO (And.intro hEj (And.intro hmk (And.intro hf hnn)))))))))
  have HINV := Lib.hid hI.inv
  have HH0 := Lib.hid hh0
  have HBS : Hid (K.base ≤ w.heap.size) := Lib.hid (by have := hI.out.1; have := hI.box.lt; omega)
  rw [← hnn]
  unfold fcells noFile at *
  clear hbl1 hbl hF hR hblk hM hI hs hB hL hfit hheld hn hO hJ hEj hmk hf hnn hh0
  go_enter_defers Try.func32, Try.ntmps32
  go_wp2_with fail
  generalize hw1 : ((w.alloc (.cells #[.int .i64 (first : Int), .int .i64 (n : Int), .int .i64 (wN : Int), .int .i64 (l.length : Int)] 29)).alloc (.cells #[.int .i64 0, .int .i64 0, .int .i64 0, .int .i64 0] 29)) = w1 at *
  have hs1 : w1.heap.size = w.heap.size + 2 := by rw [← hw1]; simp
  generalize hfb : w.heap.size = fb at *
  have k0 : w1.cell? ⟨fb, 0, none⟩ = some (.int .i64 (first : Int)) := HF1.out.cell 0
  have k1 : w1.cell? ⟨fb, 1, none⟩ = some (.int .i64 (n : Int)) := HF1.out.cell 1
  have k2 : w1.cell? ⟨fb, 2, none⟩ = some (.int .i64 (wN : Int)) := HF1.out.cell 2
  have k3 : w1.cell? ⟨fb, 3, none⟩ = some (.int .i64 (l.length : Int)) := HF1.out.cell 3
  clear hw1
  refine HOP.out.mono ?_
  rintro e w2 ⟨x, b, d, rfl, hI2, hX2, q1, q2, q3, ht2⟩
  have HQ1 := Lib.hid (And.intro q1 (And.intro q2 q3))
  obtain ⟨wB, wL, wfit, wheld, wn, wO, wEj, wmk, wf, wnn⟩ := HW.out
  have hR2 := HI1.out.blk ht2 HR1.out (by decide) (by decide) (by decide) (by decide) (by decide) (fun h => h)
  have hF2 := HI1.out.blk ht2 HF1.out (by decide) (by decide) (by decide) (by decide) (by decide) (fun h => h)
  have hJ2 := HMk.out.stay 0 0 w1 w2 _ (but O d) _ { W with A := W.A.grant W.D.size b } _ HJ1.out HI1.out ht2 (fun _ _ h => h) (fun _ _ h => h.1) ⟨rfl, rfl⟩ (fun _ _ => rfl) (fun _ hp _ => List.mem_append_left _ hp)
  have k3' : w2.cell? ⟨fb, 3, none⟩ = some (.int .i64 (l.length : Int)) := hF2.cell 3
  have hdl : d < w2.heap.size := (hX2.live rfl).row.lt
  have hO2 : ∀ g, w2.heap.size ≤ g → but O d g := fun g hg => ⟨wO g (by have := ht2.size; omega), by omega⟩
  have hMK := make_any wM l.length hI2 m1 m5 (by omega) (by show W.D.size ≤ W.A.room - (W.A.used + W.D.size); omega)
  have hnM := nB_eq (size := W.D.size) (wN := wM) (count := l.length) s8 m1 m5
  have HMK := Lib.hid hMK
  have HNM := Lib.hid hnM
  have HI2 := Lib.hid hI2
  have HX2 := Lib.hid hX2
  have HR2 := Lib.hid hR2
  have HJ2 := Lib.hid hJ2
  have HT2 := Lib.hid ht2
  have HO2 := Lib.hid hO2
  clear wB wL wfit wheld wn wO wEj wmk wf wnn hR2 hF2 hJ2 hdl hO2 hMK hnM hI2 hX2 ht2 q1 q2 q3 k0 k1 k2 k3 HOP HI1 HF1 HR1 HJ1
  go_wp2_with fail
  refine HMK.out.mono ?_
  rintro e w3 ⟨b2, d2, p1, p2, ht3, hm⟩
  rw [show ({ W with A := W.A.grant W.D.size b } : Wk).D.size = W.D.size from rfl, HNM.out] at hm
  obtain ⟨q1, q2, q3⟩ := HQ1.out
  have hR3 := HI2.out.blk ht3 HR2.out (by decide) (by decide) (by decide) (by decide) (by decide) (fun h => h)
  have hs2 := HT2.out.size
  have hs3 := ht3.size
  have hrx := HX2.out.blk.lt
  have hBx := HX2.out.live rfl
  have hT3 : Turn K (fun q => fb ≤ q) w w3 := ((Turn.below (by rw [hfb]; exact HB1.out)).trans (HT2.out.mono (fun _ h => h.elim))).trans (ht3.mono (fun _ h => h.elim))
  obtain ⟨wB, wL, wfit, wheld, wn, wO, wEj, wmk, wf, wnn⟩ := HW.out
  rcases hm with ⟨r, er, L', h0, htk, her, rfl, hI3⟩ | ⟨y, fst2, L', htk, hy, rfl, hI3, hY3⟩
  · obtain ⟨_, hsp⟩ := Sp.take_spec HINV.out htk
    have hful : er = 5 ∧ L' = W.L ∧ ∀ p, ¬ Sp.Room W.L p (nB W.D.size wM l.length) := by
      rcases hsp with ⟨hh, _⟩ | ⟨m, hm, _, _, hno, _, h5', e⟩ | ⟨_, _, _, _, hh, _⟩
      · omega
      · obtain rfl : nB W.D.size wM l.length = m := by omega
        exact ⟨h5', e, hno⟩
      · exact absurd hh her
    obtain ⟨rfl, rfl, hno⟩ := hful
    have hgr := grant_release (n := W.D.size) (HI2.out.st_ne p1)
    rw [show ({ W with A := W.A.grant W.D.size b } : Wk).A = W.A.grant W.D.size b from rfl] at hgr
    have hI3' : WkI w3 (but (but O d) d2) K { W with A := { W.A.grant W.D.size b with peak := max (W.A.grant W.D.size b).peak ((W.A.grant W.D.size b).used + W.D.size) } } := by
      have h := hI3
      simp only at h
      rw [hgr] at h
      exact h
    have hX3 : RdAt w3 (but (but O d) d2) K { W with A := { W.A.grant W.D.size b with peak := max (W.A.grant W.D.size b).peak ((W.A.grant W.D.size b).used + W.D.size) } } x ⟨(first : Int), (n : Int), (wN : Int), (l.length : Int), b, d, 0, 0, 0, 0, false, zeros W.D.size⟩ := HX2.out.turn' HI2.out ht3 (fun h => h) (fun _ h => h) (fun _ h => h) (fun _ _ h => h.1) rfl (fun p hp _ => hp)
    obtain ⟨hI4, hR4, hT4⟩ := four_store hI3' hR3 (.int .i64 0) (.int .i64 0) (.int .i64 0) (.int .i64 0)
    have hX4 := hX3.turn' (O' := but (but O d) d2) (W' := { W with A := { W.A.grant W.D.size b with peak := max (W.A.grant W.D.size b).peak ((W.A.grant W.D.size b).used + W.D.size) } }) hI3' hT4 (fun e => by rw [e] at hrx; omega) (fun _ e => by have h : b = fb + 1 := e; omega) (fun _ e => by have h : d = fb + 1 := e; omega) (fun _ _ h => h) rfl (fun _ h _ => h)
    have hje3 := HMk.out.stayE _ w2 w3 _ (but (but O d) d2) _ { W with A := { W.A.grant W.D.size b with peak := max (W.A.grant W.D.size b).peak ((W.A.grant W.D.size b).used + W.D.size) } } _ (HMk.out.last _ _ _ _ _ HJ2.out).2 HI2.out ht3 (fun _ _ h => h) (fun _ _ h => h.1) rfl (fun _ h _ => h)
    have hje4 := HMk.out.stayE.same hje3 hI3' hT4 (fun g hg e => by have := wEj g hg; omega) (fun _ _ h => h)
    have HJE4 := Lib.hid hje4
    have g0 := hR3.frozen 0
    have g1 := hR3.frozen 1
    have g2 := hR3.frozen 2
    have g3 := hR3.frozen 3
    have p0 : w3.cell? ⟨fb + 1, 0, none⟩ = some (.int .i64 0) := hR3.cell 0
    have p1' : w3.cell? ⟨fb + 1, 1, none⟩ = some (.int .i64 0) := hR3.cell 1
    have p2' : w3.cell? ⟨fb + 1, 2, none⟩ = some (.int .i64 0) := hR3.cell 2
    have p3' : w3.cell? ⟨fb + 1, 3, none⟩ = some (.int .i64 0) := hR3.cell 3
    have hT34 := hT3.trans (hT4.mono (fun q e => by rw [e]; omega))
    have HI4 := Lib.hid hI4
    have HR4 := Lib.hid hR4
    have HX4 := Lib.hid hX4
    have HT4 := Lib.hid hT34
    have HNO := Lib.hid hno
    unfold four at HI4 HR4 HX4 HT4 HJE4
    clear hje3 hje4 hI4 hR4 hX4 hT4 hT34 hno hI3 hI3' hX3 hR3 hgr htk hsp ht3 hT3 hBx wB wL wfit wheld wn wO wEj wmk wf wnn HMK
    go_wp2_with fail
    generalize ((((w3.setCell ⟨fb + 1, 0, none⟩ (.int .i64 0)).setCell ⟨fb + 1, 1, none⟩ (.int .i64 0)).setCell ⟨fb + 1, 2, none⟩ (.int .i64 0)).setCell ⟨fb + 1, 3, none⟩ (.int .i64 0)) = w4 at *
    refine ⟨(fun h => by cases h), _, _, _, _, rfl, rfl, (rclose_d HI4.out HX4.out rfl).mono ?_⟩
    rintro e u' w5 ⟨rfl, rfl, hI5, hX5, ht5⟩
    have hR5 := HI4.out.blk ht5 HR4.out (by decide) (by decide) (by decide) (by decide) (by decide) (fun h => by
      rcases h with e | e | e
      · rw [← e] at hrx; omega
      · have h : fb + 1 = b := e; omega
      · have h : fb + 1 = d := e; omega)
    have s0 : w5.cell? ⟨fb + 1, 0, none⟩ = some (.int .i64 0) := hR5.cell 0
    have s1 : w5.cell? ⟨fb + 1, 1, none⟩ = some (.int .i64 0) := hR5.cell 1
    have s2 : w5.cell? ⟨fb + 1, 2, none⟩ = some (.int .i64 0) := hR5.cell 2
    have s3 : w5.cell? ⟨fb + 1, 3, none⟩ = some (.int .i64 0) := hR5.cell 3
    have hT5 := HT4.out.trans (ht5.mono (fun q e => by
      rcases e with e | e | e
      · rw [e]; omega
      · have h : q = b := e; omega
      · have h : q = d := e; omega))
    refine ⟨.tuple #[.agg #[.int .i64 0, .int .i64 0, .int .i64 0, .int .i64 0], .int .i64 5], by simp [results, Try.results32, go_sem, s0, s1, s2, s3], ?_⟩
    obtain ⟨wB, wL, wfit, wheld, wn, wO, wEj, wmk, wf, wnn⟩ := HW.out
    refine ⟨_, _, ⟨fun g hg => .inr hg, fun g hg h => ?_⟩, hI5.onto, (turn_fresh hT5 (fun _ h => by rw [hfb]; exact h)).mono (fun _ h => h.elim), .inr ⟨5, gh, by decide, rfl, ⟨.inl ⟨rfl, by omega, HNO.out⟩, rfl, rfl, ?_, rfl, rfl, rfl, HS.out, id, fun _ _ => rfl, by show W.D.acts ≤ _; omega⟩, HMk.out.stayE.rel HJE4.out HI4.out ht5 (fun g hg e => ?_) (onto_cond ht5.size) rfl (fun hg => ?_)⟩⟩
    · rcases h with h | h
      · exact h.1.1
      · have := hT5.size; omega
    · show W.A.used + W.D.size - W.D.size + gh = W.A.used + gh
      omega
    · have h1 := wEj g hg
      rcases e with e | e | e
      · rw [e] at h1; omega
      · have h : g = b := e; omega
      · have h : g = d := e; omega
    · have h1 := wEj _ hg
      have h2 : b < fb := h1
      omega
  · have htk' : TookN W.L W.B (nB W.D.size wM l.length) fst2 L' := by
      rcases htk with ⟨h0, h2, h3⟩ | ⟨h0, h2⟩
      · exact .inl ⟨by omega, h2, h3⟩
      · exact .inr ⟨by omega, h2⟩
    have hT' := htk'.spec HINV.out
    rw [Int.toNat_natCast] at hY3
    obtain ⟨nM, hnMe⟩ : ∃ nM, nM = nB W.D.size wM l.length := ⟨_, rfl⟩
    rw [← hnMe] at hY3 htk' hT'
    have hX3 : RdAt w3 (but (but O d) d2) K { W with A := (W.A.grant W.D.size b).grant W.D.size b2, L := L' } x ⟨(first : Int), (n : Int), (wN : Int), (l.length : Int), b, d, 0, 0, 0, 0, false, zeros W.D.size⟩ := HX2.out.turn' HI2.out ht3 (fun h => h) (fun _ h => h) (fun _ h => h) (fun _ _ h => h.1) rfl (fun p hp _ => List.mem_append_left _ hp)
    have hO3 : ∀ g, w3.heap.size ≤ g → but (but O d) d2 g := fun g hg => ⟨HO2.out g (by omega), by have h : d2 < w3.heap.size := (hY3.live rfl).row.lt; omega⟩
    obtain ⟨V, hV⟩ : ∃ V : Wk, V = { W with A := (W.A.grant W.D.size b).grant W.D.size b2, L := L' } := ⟨_, rfl⟩
    have hVD : V.D = W.D := by rw [hV]
    have hJ3 := HMk.out.stay 0 0 w2 w3 _ (but (but O d) d2) _ { W with A := (W.A.grant W.D.size b).grant W.D.size b2, L := L' } _ HJ2.out HI2.out ht3 (fun _ _ h => h) (fun _ _ h => h.1) ⟨rfl, rfl⟩ (fun _ _ => rfl) (fun _ hp _ => List.mem_append_left _ hp)
    have HE0 : Hid (EL w w3 w3 (but (but O d) d2) K W x y (fb + 1) b d b2 d2 first wN fst2 nM wM Ej J l mk kp V 0 0 0 0 ⟨(first : Int), (n : Int), (wN : Int), (l.length : Int), b, d, 0, 0, 0, 0, false, zeros W.D.size⟩ (fresh W.D.size fst2 nM wM l.length b2 d2) W.D) := Lib.hid (by
      refine ⟨by rw [hV]; exact hI3, by rw [hV]; exact hX3, Rd.Has.new b d (n : Int) s8 h1 wL, ⟨rfl, rfl, rfl, rfl⟩, by rw [hV]; exact hY3, ?_, ⟨rfl, rfl, rfl, rfl, rfl, rfl, rfl⟩, HS.out, ⟨rfl, rfl, by omega, id⟩, fun _ _ => rfl, (by rw [hV]; exact hJ3), hR3, Turn.refl _ _ _⟩
      exact Wr.Has.new b2 d2 fst2 nM wM l.length s8 m1 m5 (by rw [hnMe]; exact HNM.out.symm))
    have HFAR : Hid (Far w Ej x y (fb + 1) b d b2 d2) := Lib.hid (by
      have hbb := hBx.blk.lt
      have hdd := hBx.row.lt
      have e1 : ∀ z, BufAt w2 (but O d) { W with A := W.A.grant W.D.size b } b d z → b < w2.heap.size := fun z h => h.blk.lt
      refine ⟨⟨by omega, by omega, by omega, by omega, by omega, by omega, by omega⟩, by rw [hfb]; exact wEj, ?_, ?_⟩
      · have h : b < w2.heap.size := hbb
        omega
      · have h : d < w2.heap.size := hdd
        omega)
    have HTK := Lib.hid (And.intro htk' hT')
    have HT3 := Lib.hid hT3
    have HO3 := Lib.hid hO3
    have HV := Lib.hid hV
    have HNE := Lib.hid hnMe
    clear htk' hT' hX3 hO3 hV hVD htk hI3 hY3 hR3 hJ3 hT3 ht3 hnMe hBx wB wL wfit wheld wn wO wEj wmk wf wnn HI2 HX2 HR2 HJ2 HMK HO2
    go_wp2_with fail
    go_loopw [16] (fun ev wr => ELoop w w3 (but (but O d) d2) K W x y (fb + 1) b d b2 d2 first wN fst2 nM wM Ej J l mk kp V wr) (fun ev wr => l.length - toldOf wr x)
    case atStart => exact ⟨0, 0, _, _, _, Nat.zero_le _, HE0.out⟩
    case round =>
      clear HE0
      obtain ⟨k, gm, X, Y, D, hk, hE⟩ := hrel
      have hgm := (HMk.out.last _ _ _ _ _ hE.mak).1
      obtain ⟨wB, wL, wfit, wheld, wn, wO, wEj, wmk, wf, wnn⟩ := HW.out
      have hsz : D.size = W.D.size := hE.kin.1
      have htold : toldOf wr x = k := by
        unfold toldOf
        rw [hE.rd.blk.cell 9]
        show (X.told : Int).toNat = k
        rw [hE.rc.2.1]
        exact Int.toNat_natCast k
      by_cases hlt : k < l.length
      · have hNX := next_sure (first := first) hE.wk hE.rd hE.rc.1 hE.rH hE.sure wf (by show nB D.size wN l.length = 0 ∨ first + nB D.size wN l.length ≤ D.blocks; rw [hsz, hE.kin.2.1]; exact wfit) hfs (by rw [hE.rc.2.1]; exact hlt) (by show D.acts + 1 < _; have := hE.kin.2.2.1; omega)
        have h5 : l[k].length = 5 := (wf _ (List.getElem_mem hlt)).1
        obtain ⟨u0, u1, u2, u3, u4, hu⟩ : ∃ u0 u1 u2 u3 u4 : Int, (icells l[k]).toArray = #[.int .i64 u0, .int .i64 u1, .int .i64 u2, .int .i64 u3, .int .i64 u4] := by
          match l[k], h5 with
          | [a, b, c, d, e], _ => exact ⟨_, _, _, _, _, rfl⟩
        have hmk5 := HMk.out.five k hlt
        obtain ⟨v0, v1, v2, v3, v4, hv⟩ : ∃ v0 v1 v2 v3 v4 : Int, (icells (mk k)).toArray = #[.int .i64 v0, .int .i64 v1, .int .i64 v2, .int .i64 v3, .int .i64 v4] := by
          match mk k, hmk5 with
          | [a, b, c, d, e], _ => exact ⟨_, _, _, _, _, rfl⟩
        have hmkc := HMk.out.call k hlt
        rw [hu, hv] at hmkc
        have HCALL := Lib.hid hmkc
        have HVE := Lib.hid hv
        rcases hNX with ⟨X1, D1, hXH, htup, htl, hnw1, ⟨n1, hn1, hg1⟩, hkin, hC⟩ | ⟨hf0, hC⟩
        · have hx1 : (icells X1.tup).toArray = #[.int .i64 u0, .int .i64 u1, .int .i64 u2, .int .i64 u3, .int .i64 u4] := by
            rw [htup, ← hu]
            have : l[X.told]'(by rw [hE.rc.2.1]; exact hlt) = l[k] := by congr 1; exact hE.rc.2.1
            rw [this]
          have HC := Lib.hid hC
          have HX1 := Lib.hid hx1
          have HE := Lib.hid hE
          have HNX := Lib.hid (And.intro hXH (And.intro htl (And.intro hnw1 (And.intro hn1 (And.intro hg1 hkin)))))
          have HTD := Lib.hid htold
          clear hC hx1 hE hXH htup htl hnw1 hn1 hg1 hkin hu hv hmkc h5 hmk5 htold hsz wB wL wfit wheld wn wO wEj wmk wf wnn
          go_wp2_with fail
          refine HC.out.mono ?_
          rintro e w4 hN4
          obtain ⟨c1, c2, c3, c4, c5, c6⟩ := HNX.out
          have hE4 := HE.out.next HFAR.out HMk.out c1 c2 c3 c4 c5 c6 hN4
          obtain ⟨rfl, _⟩ := hN4
          rw [HX1.out]
          have hbn : Below w4.heap.size w4 (w4.alloc (.cells #[.int .i64 u0, .int .i64 u1, .int .i64 u2, .int .i64 u3, .int .i64 u4] 57)) := (Below.refl _ _).alloc (Nat.le_refl _) _
          have HE5 := Lib.hid (hE4.below HFAR.out HMk.out hbn)
          have HT5 := Lib.hid (Blk.new w4 57 #[.int .i64 u0, .int .i64 u1, .int .i64 u2, .int .i64 u3, .int .i64 u4])
          clear hE4 hbn c1 c2 c3 c4 c5 c6 HC HNX HX1 HE
          have hent := HMk.out.enter
          go_wp2_with fail
          generalize hb9 : w4.heap.size = tb at *
          generalize (w4.alloc (.cells #[.int .i64 u0, .int .i64 u1, .int .i64 u2, .int .i64 u3, .int .i64 u4] 57)) = w5 at *
          refine (HCALL.out gm w5 _ _ HE5.out.wk HE5.out.mak HE5.out.sure (by have := HE5.out.kin.2.2.1; show D1.acts ≤ _; omega)).mono ?_
          rintro e w6 ⟨ht6, gm', D3, hmm, hma, hcalm, (⟨rfl, hI6, hJ6⟩ | ⟨er, hq, A', her, hwhy, rfl, hI6, hje6, hu6, hr6, hgm6, hst6⟩)⟩
          rotate_left
          · have hE5 := HE5.out
            obtain ⟨t1, t2, t3, t4⟩ := hE5.types
            obtain ⟨l1, l2, l3, l4, l5, l6, l7⟩ := HFAR.out.low
            have hno : ∀ q, w.heap.size ≤ q → ¬ Ej q := fun q h1 e => by have := HFAR.out.ej q e; omega
            have hX6 := hE5.rd.turn' (O' := but (but O d) d2) (W' := { V with D := D3, A := A' }) hE5.wk ht6 (hno x l1) (fun _ => by rw [hE5.rc.2.2.1]; exact hno b l4) (fun _ => by rw [hE5.rc.2.2.2]; exact hno d l5) (fun _ _ h => h) hcalm.size (fun p hp e => hst6 p hp (by rw [e, hE5.rc.2.2.1]; exact hno b l4))
            have hY6 := hE5.wt.turn' (O' := but (but O d) d2) (W' := { V with D := D3, A := A' }) hE5.wk ht6 (hno y l2) (fun _ => by rw [hE5.wc.2.2.2.2.2.1]; exact hno b2 l6) (fun _ => by rw [hE5.wc.2.2.2.2.2.2]; exact hno d2 l7) (fun _ _ h => h) hcalm.size (fun p hp e => hst6 p hp (by rw [e, hE5.wc.2.2.2.2.2.1]; exact hno b2 l6))
            have hR6 := hE5.wk.blk ht6 hE5.res (by decide) (by decide) (by decide) (by decide) (by decide) (hno _ l3)
            have hbn : Below w6.heap.size w6 (w6.alloc (.cells #[.int .i64 u0, .int .i64 u1, .int .i64 u2, .int .i64 u3, .int .i64 u4] 57)) := (Below.refl _ _).alloc (Nat.le_refl _) _
            have hI7 := hI6.below hbn
            have hX7 := hX6.turn' (O' := but (but O d) d2) (W' := { V with D := D3, A := A' }) hI6 (Turn.below (E := fun _ => False) hbn) (fun h => h) (fun _ h => h) (fun _ h => h) (fun _ _ h => h) rfl (fun _ h _ => h)
            have hY7 := hY6.turn' (O' := but (but O d) d2) (W' := { V with D := D3, A := A' }) hI6 (Turn.below (E := fun _ => False) hbn) (fun h => h) (fun _ h => h) (fun _ h => h) (fun _ _ h => h) rfl (fun _ h _ => h)
            have hR7 := hR6.below hbn hR6.lt
            have hje7 := HMk.out.stayE.same (O' := but (but O d) d2) hje6 hI6 (Turn.below (E := fun _ => False) hbn) (fun _ _ h => h) (fun _ _ h => h)
            obtain ⟨hI8, hR8, hT8⟩ := four_store hI7 hR7 (.int .i64 0) (.int .i64 0) (.int .i64 0) (.int .i64 0)
            have hX8 := hX7.turn' (O' := but (but O d) d2) (W' := { V with D := D3, A := A' }) hI7 hT8 (fun e => hX7.blk.ne_ hR7 (by decide) e) (fun hc e => (hX7.live hc).blk.ne_ hR7 (by decide) e) (fun hc e => (hX7.live hc).row.ne_ hR7 (by decide) e) (fun _ _ h => h) rfl (fun _ h _ => h)
            have hY8 := hY7.turn' (O' := but (but O d) d2) (W' := { V with D := D3, A := A' }) hI7 hT8 (fun e => hY7.blk.ne_ hR7 (by decide) e) (fun hc e => (hY7.live hc).blk.ne_ hR7 (by decide) e) (fun hc e => (hY7.live hc).row.ne_ hR7 (by decide) e) (fun _ _ h => h) rfl (fun _ h _ => h)
            have hje8 := HMk.out.stayE.same (O' := but (but O d) d2) hje7 hI7 hT8 (fun g hg e => hno _ l3 (by rw [← e]; exact hg)) (fun _ _ h => h)
            have g0 := hR7.frozen 0
            have g1 := hR7.frozen 1
            have g2 := hR7.frozen 2
            have g3 := hR7.frozen 3
            have p0 : (w6.alloc (.cells #[.int .i64 u0, .int .i64 u1, .int .i64 u2, .int .i64 u3, .int .i64 u4] 57)).cell? ⟨fb + 1, 0, none⟩ = some (.int .i64 0) := hR7.cell 0
            have p1' : (w6.alloc (.cells #[.int .i64 u0, .int .i64 u1, .int .i64 u2, .int .i64 u3, .int .i64 u4] 57)).cell? ⟨fb + 1, 1, none⟩ = some (.int .i64 0) := hR7.cell 1
            have p2' : (w6.alloc (.cells #[.int .i64 u0, .int .i64 u1, .int .i64 u2, .int .i64 u3, .int .i64 u4] 57)).cell? ⟨fb + 1, 2, none⟩ = some (.int .i64 0) := hR7.cell 2
            have p3' : (w6.alloc (.cells #[.int .i64 u0, .int .i64 u1, .int .i64 u2, .int .i64 u3, .int .i64 u4] 57)).cell? ⟨fb + 1, 3, none⟩ = some (.int .i64 0) := hR7.cell 3
            have hT58 := ((hE5.turn.trans (ht6.mono (fun q hq => .inr hq))).trans (Turn.below hbn)).trans (hT8.mono (fun q e => .inl (by rw [e]; exact l3)))
            have HI8 := Lib.hid hI8
            have HR8 := Lib.hid hR8
            have HX8 := Lib.hid hX8
            have HY8 := Lib.hid hY8
            have HT8 := Lib.hid hT58
            have HJE8 := Lib.hid hje8
            have HRC := Lib.hid hE5.rc
            have HWC := Lib.hid hE5.wc
            have HKN := Lib.hid hE5.kin
            have HNW := Lib.hid hE5.now
            have HSU := Lib.hid (hcalm.sure hE5.sure)
            have HCM := Lib.hid hcalm
            have HER := Lib.hid (And.intro her (And.intro hwhy (And.intro hu6 (And.intro hr6 (And.intro hma hgm6)))))
            have herb : (er == 0) = false := by simpa using her
            unfold four at HI8 HR8 HX8 HY8 HT8 HJE8
            clear hje6 hje7 hje8 hI8 hR8 hX8 hY8 hT8 hT58 hI7 hX7 hY7 hR7 hI6 hX6 hY6 hR6 hbn hno t1 t2 t3 t4 l1 l2 l3 l4 l5 l6 l7 hE5 HE5 ht6 hmm hma hcalm hwhy hu6 hr6 hgm6 hst6 HT5 HCALL hent her
            go_wp2_with fail
            generalize hz5 : w6.alloc (.cells #[.int .i64 u0, .int .i64 u1, .int .i64 u2, .int .i64 u3, .int .i64 u4] 57) = w7 at *
            clear hz5
            generalize ((((w7.setCell ⟨fb + 1, 0, none⟩ (.int .i64 0)).setCell ⟨fb + 1, 1, none⟩ (.int .i64 0)).setCell ⟨fb + 1, 2, none⟩ (.int .i64 0)).setCell ⟨fb + 1, 3, none⟩ (.int .i64 0)) = w8 at *
            refine ⟨(fun h => by cases h), _, _, _, _, rfl, rfl, (drop_live_d HI8.out HY8.out HWC.out.1).mono ?_⟩
            rintro e u' w9 ⟨rfl, L2, rfl, hg2, hI9, hY9, ht9⟩
            have hYb := HY8.out.live HWC.out.1
            have hXb := HX8.out.live HRC.out.1
            have hbb : X1.next.buf ≠ Y.buf := by rw [HRC.out.2.2.1, HWC.out.2.2.2.2.2.1]; exact HFAR.out.ne.1
            have hdd : X1.next.arr ≠ Y.arr := by rw [HRC.out.2.2.2, HWC.out.2.2.2.2.2.2]; exact HFAR.out.ne.2
            have hX9 := HX8.out.turn' (O' := but (but O d) d2) (W' := { V with D := D3, A := A'.release Y.buf D3.size, L := L2 }) HI8.out ht9 (fun h => by
              rcases h with e | e | e
              · exact HX8.out.blk.ne_ HY8.out.blk (by decide) e
              · exact HX8.out.blk.ne_ hYb.blk (by decide) e
              · exact HX8.out.blk.ne_ hYb.row (by decide) e) (fun _ h => by
              rcases h with e | e | e
              · exact hXb.blk.ne_ HY8.out.blk (by decide) e
              · exact hbb e
              · exact hXb.blk.ne_ hYb.row (by decide) e) (fun _ h => by
              rcases h with e | e | e
              · exact hXb.row.ne_ HY8.out.blk (by decide) e
              · exact hXb.row.ne_ hYb.blk (by decide) e
              · exact hdd e) (fun _ _ h => h) rfl (fun p hp e => by
              unfold Arena.Ar.release
              refine List.mem_filter.2 ⟨hp, ?_⟩
              rw [e]
              simpa using hbb)
            have hR9 := HI8.out.blk ht9 HR8.out (by decide) (by decide) (by decide) (by decide) (by decide) (fun h => by
              rcases h with e | e | e
              · exact HR8.out.ne_ HY8.out.blk (by decide) e
              · exact HR8.out.ne_ hYb.blk (by decide) e
              · exact HR8.out.ne_ hYb.row (by decide) e)
            refine ⟨(fun h => by cases h), _, _, _, _, rfl, rfl, (rclose_d hI9 hX9 HRC.out.1).mono ?_⟩
            rintro e u' w10 ⟨rfl, rfl, hI10, hX10, ht10⟩
            have hX9b := hX9.live HRC.out.1
            have hR10 := hI9.blk ht10 hR9 (by decide) (by decide) (by decide) (by decide) (by decide) (fun h => by
              rcases h with e | e | e
              · exact hR9.ne_ hX9.blk (by decide) e
              · exact hR9.ne_ hX9b.blk (by decide) e
              · exact hR9.ne_ hX9b.row (by decide) e)
            have s0 : w10.cell? ⟨fb + 1, 0, none⟩ = some (.int .i64 0) := hR10.cell 0
            have s1 : w10.cell? ⟨fb + 1, 1, none⟩ = some (.int .i64 0) := hR10.cell 1
            have s2 : w10.cell? ⟨fb + 1, 2, none⟩ = some (.int .i64 0) := hR10.cell 2
            have s3 : w10.cell? ⟨fb + 1, 3, none⟩ = some (.int .i64 0) := hR10.cell 3
            refine ⟨.tuple #[.agg #[.int .i64 0, .int .i64 0, .int .i64 0, .int .i64 0], .int .i64 er], by simp [results, Try.results32, go_sem, s0, s1, s2, s3], ?_⟩
            obtain ⟨l1, l2, l3, l4, l5, l6, l7⟩ := HFAR.out.low
            obtain ⟨her, hwhy, hu6, hr6, hma, hgm6⟩ := HER.out
            have hTT : Turn K (fun q => w.heap.size ≤ q ∨ Ej q) w w10 := (((HT3.out.mono (fun q hq => .inl (by rw [hfb]; exact hq))).trans HT8.out).trans (ht9.mono (fun q hq => .inl (by
              rcases hq with e | e | e
              · rw [e]; exact l2
              · rw [e, HWC.out.2.2.2.2.2.1]; exact l6
              · rw [e, HWC.out.2.2.2.2.2.2]; exact l7)))).trans (ht10.mono (fun q hq => .inl (by
              rcases hq with e | e | e
              · rw [e]; exact l1
              · rw [e, HRC.out.2.2.1]; exact l4
              · rw [e, HRC.out.2.2.2]; exact l5)))
            have hgL : GaveRel V.L V.B fst2 nM L2 := by
              have := hg2
              rw [HWC.out.2.1, HWC.out.2.2.1] at this
              exact this
            have hxe : ∀ g, Ej g → ¬ OwnR x X1.next g := fun g hg e => by
              have h1 := HFAR.out.ej g hg
              rcases e with e | e | e
              · rw [e] at h1; omega
              · rw [e, HRC.out.2.2.1] at h1; omega
              · rw [e, HRC.out.2.2.2] at h1; omega
            have hye : ∀ g, Ej g → ¬ Own y Y g := fun g hg e => by
              have h1 := HFAR.out.ej g hg
              rcases e with e | e | e
              · rw [e] at h1; omega
              · rw [e, HWC.out.2.2.2.2.2.1] at h1; omega
              · rw [e, HWC.out.2.2.2.2.2.2] at h1; omega
            have hds : D3.size = W.D.size := HCM.out.size.trans HKN.out.1
            have hVu : V.A.used = W.A.used + W.D.size + W.D.size := by rw [HV.out]; rfl
            refine ⟨_, _, okin_two hTT.size, hI10.onto, turn_fresh2 hTT (fun q hq => hq), .inr ⟨er, hq, her, rfl, ?_, HMk.out.stayE.rel (HMk.out.stayE.rel HJE8.out HI8.out ht9 hye (fun _ _ h => h) rfl (fun h => hye _ h (.inr (.inl rfl)))) hI9 ht10 hxe (onto_cond ht10.size) rfl (fun h => hxe _ h (.inr (.inl rfl)))⟩⟩
            refine each_no_plain (V := V) HV.out HINV.out HTK.out.1 hgL ⟨hds, HCM.out.blocks.trans HKN.out.2.1, fun hf => HCM.out.fault (HKN.out.2.2.2 hf)⟩ HSU.out (fun i hi => by rw [HCM.out.now]; exact HNW.out i hi) ?_ ⟨?_, ?_⟩ ?_
            · rcases hwhy with h | ⟨h, h'⟩
              · exact .inr h
              · exact .inl ⟨h, fun hf => h' (HKN.out.2.2.2 hf)⟩
            · show A'.used - D3.size - D3.size + gh = W.A.used + hq
              rw [hds]
              have h1 : A'.used + gh = V.A.used + hq := hu6
              have h2 := HH0.out
              omega
            · show A'.room = W.A.room
              rw [hr6]
              show V.A.room = W.A.room
              rw [HV.out]
              rfl
            · have a3 := HKN.out.2.2.1
              have a4 : D3.acts + gm ≤ D1.acts + gm' := hma
              show D3.acts ≤ _
              omega
          have hE6 := HE5.out.made_ HFAR.out ht6 hcalm hmm hma hI6 hJ6
          have hgm' := (HMk.out.last _ _ _ _ _ hJ6).1
          have hbn : Below w6.heap.size w6 (w6.alloc (.cells #[.int .i64 v0, .int .i64 v1, .int .i64 v2, .int .i64 v3, .int .i64 v4] 57)) := (Below.refl _ _).alloc (Nat.le_refl _) _
          have hE7 := hE6.below HFAR.out HMk.out hbn
          have HE7 := Lib.hid hE7
          have HT7 := Lib.hid (Blk.new w6 57 #[.int .i64 v0, .int .i64 v1, .int .i64 v2, .int .i64 v3, .int .i64 v4])
          clear hI6 hJ6 ht6 hcalm hmm hma hE6 hbn HE5 HT5 HCALL hent
          cases hkp : kp k with
          | false =>
            have HKP := Lib.hid hkp
            clear hkp hE7
            go_wp2_with fail
            have hE8 := HE7.out.skip HKP.out
            exact ⟨⟨k + 1, gm', _, _, _, by omega, hE8⟩, by rw [hE8.told_, HTD.out]; omega⟩
          | true =>
            obtain ⟨wB, wL, wfit, wheld, wn, wO, wEj, wmk, wf, wnn⟩ := HW.out
            have hmz := wmk k hlt hkp
            have hTk := HTK.out.2
            have hgrow := hE7.grow HFAR.out
            have hfitM : fst2 + nM ≤ W.D.blocks := by
              rcases hTk.fit with h | h
              · omega
              · have := (hTk.zero h).1; omega
            have hcnt : (made mk kp k).length ≤ k := made_len mk kp k
            have hPU := put_sure (l := made mk kp k) (mk k) hE7.wk hE7.wt hE7.wc.1 hE7.wH hE7.sure (by show Y.first + Y.blocks ≤ D3.blocks; rw [hE7.wc.2.1, hE7.wc.2.2.1, hE7.kin.2.1]; exact hfitM) (HMk.out.five k hlt) (by rw [hE7.wc.2.2.2.1]; exact (hmz _ (List.mem_singleton.2 rfl)).2) (by rw [hE7.wH.cnt, hE7.wc.2.2.2.2.1]; omega) (by show D3.acts + 1 < _; have := hE7.kin.2.2.1; omega) (fun g hg => HO3.out g (by have := hE7.turn.size; omega))
            rw [HVE.out] at hPU
            have hfarr : ∀ j j', j < nB W.D.size wN l.length → j' < nM → first + j ≠ fst2 + j' := fun j j' hj hj' e => wheld j hj (by rw [e]; exact hTk.room _ (by omega) (by omega))
            have HPU := Lib.hid hPU
            have HKP := Lib.hid hkp
            have HFR := Lib.hid hfarr
            clear hkp hE7 hmz hTk hgrow hfitM hcnt hPU hfarr wB wL wfit wheld wn wO wEj wmk wf wnn
            go_wp2_with fail
            generalize (w6.alloc (.cells #[.int .i64 v0, .int .i64 v1, .int .i64 v2, .int .i64 v3, .int .i64 v4] 57)) = w7 at *
            refine HPU.out.mono ?_
            rintro e w8 hput
            rcases hput with ⟨hp, hH⟩ | ⟨hf0, L2, D2, rfl, hg2, hfl, hI8, hY8, ht8⟩
            · have hE8 := HE7.out.put HFAR.out HMk.out s8 m1 m5 hp (by rw [made_yes HKP.out]; exact hH) HFR.out (fun j hj => HTK.out.2.room _ (by omega) (by omega))
              obtain ⟨_, rfl, _⟩ := hp
              clear hH HPU
              go_wp2_with fail
              exact ⟨⟨k + 1, gm', _, _, _, by omega, hE8⟩, by rw [hE8.told_, HTD.out]; omega⟩
            · have hE7 := HE7.out
              have own := fun {q : Nat} (hq : Own y Y q) => hE7.wrOwn HFAR.out (q := q) (.inl hq)
              have hR8 := hE7.wk.blk ht8 hE7.res (by decide) (by decide) (by decide) (by decide) (by decide) (fun hq => (own hq).2.2.2.2.2 rfl)
              have hX8 := hE7.rd.turn' (O' := but (but O d) d2) (W' := { V with D := D2, A := V.A.release Y.buf D3.size, L := L2 }) hE7.wk ht8 (fun hq => (own hq).2.2.1 rfl) (fun _ hq => (own hq).2.2.2.1 hE7.rc.2.2.1) (fun _ hq => (own hq).2.2.2.2.1 hE7.rc.2.2.2) (fun _ _ h => h) hfl.size (fun p hp e => by
                unfold Arena.Ar.release
                refine List.mem_filter.2 ⟨hp, ?_⟩
                have h1 := HFAR.out.ne.1
                rw [e, hE7.rc.2.2.1, hE7.wc.2.2.2.2.2.1]
                simpa using h1)
              obtain ⟨hI9, hR9, hT9⟩ := four_store hI8 hR8 (.int .i64 0) (.int .i64 0) (.int .i64 0) (.int .i64 0)
              have hX9 := hX8.turn' (O' := but (but O d) d2) (W' := { V with D := D2, A := V.A.release Y.buf D3.size, L := L2 }) hI8 hT9 (fun e => hX8.blk.ne_ hR8 (by decide) e) (fun hc e => (hX8.live hc).blk.ne_ hR8 (by decide) e) (fun hc e => (hX8.live hc).row.ne_ hR8 (by decide) e) (fun _ _ h => h) rfl (fun _ h _ => h)
              have hY9 := hI8.blk hT9 hY8 (by decide) (by decide) (by decide) (by decide) (by decide) (fun e => hY8.ne_ hR8 (by decide) e)
              have hje8 := HMk.out.stayE.rel (O' := but (but O d) d2) (D' := D2) (L' := L2) (b := Y.buf) (n := D3.size) (HMk.out.last _ _ _ _ _ hE7.mak).2 hE7.wk ht8 (fun g hg e => (own e).2.1 hg) (fun _ _ h => h) hfl.size (own (q := Y.buf) (.inr (.inl rfl))).2.1
              have hje9 := HMk.out.stayE.same hje8 hI8 hT9 (fun g hg e => by have := HFAR.out.ej g hg; omega) (fun _ _ h => h)
              have HJE9 := Lib.hid hje9
              have g0 := hR8.frozen 0
              have g1 := hR8.frozen 1
              have g2 := hR8.frozen 2
              have g3 := hR8.frozen 3
              have p0 : w8.cell? ⟨fb + 1, 0, none⟩ = some (.int .i64 0) := hR8.cell 0
              have p1' : w8.cell? ⟨fb + 1, 1, none⟩ = some (.int .i64 0) := hR8.cell 1
              have p2' : w8.cell? ⟨fb + 1, 2, none⟩ = some (.int .i64 0) := hR8.cell 2
              have p3' : w8.cell? ⟨fb + 1, 3, none⟩ = some (.int .i64 0) := hR8.cell 3
              have hT39 := (hE7.turn.trans (ht8.mono (fun q hq => .inl (own hq).1))).trans (hT9.mono (fun q e => .inl (by rw [e]; exact HFAR.out.low.2.2.1)))
              have HI9 := Lib.hid hI9
              have HR9 := Lib.hid hR9
              have HX9 := Lib.hid hX9
              have HY9 := Lib.hid hY9
              have HT9 := Lib.hid hT39
              have HRC := Lib.hid hE7.rc
              have HWC := Lib.hid hE7.wc
              have HKN := Lib.hid hE7.kin
              have HNW := Lib.hid hE7.now
              have HG2 := Lib.hid hg2
              have HFL := Lib.hid hfl
              have HF0 := Lib.hid hf0
              have HAC := Lib.hid (And.intro hfl.acts (And.intro hgm' hE7.kin.2.2.1))
              unfold four at HI9 HR9 HX9 HY9 HT9 HJE9
              clear hje8 hje9 hI9 hR9 hX9 hY9 hT9 hT39 hE7 own hR8 hX8 hI8 hY8 ht8 hg2 hfl hf0 HE7 HT7 HPU
              go_wp2_with fail
              generalize ((((w8.setCell ⟨fb + 1, 0, none⟩ (.int .i64 0)).setCell ⟨fb + 1, 1, none⟩ (.int .i64 0)).setCell ⟨fb + 1, 2, none⟩ (.int .i64 0)).setCell ⟨fb + 1, 3, none⟩ (.int .i64 0)) = w9 at *
              refine ⟨(fun h => by cases h), _, _, _, _, rfl, rfl, (drop_closed_d HY9.out rfl).mono ?_⟩
              rintro e u' w' ⟨rfl, rfl, rfl⟩
              refine ⟨(fun h => by cases h), _, _, _, _, rfl, rfl, (rclose_d HI9.out HX9.out HRC.out.1).mono ?_⟩
              rintro e u' w10 ⟨rfl, rfl, hI10, hX10, ht10⟩
              have hXb := HX9.out.live HRC.out.1
              have hR10 := HI9.out.blk ht10 HR9.out (by decide) (by decide) (by decide) (by decide) (by decide) (fun h => by
                rcases h with e | e | e
                · exact HR9.out.ne_ HX9.out.blk (by decide) e
                · exact HR9.out.ne_ hXb.blk (by decide) e
                · exact HR9.out.ne_ hXb.row (by decide) e)
              have s0 : w10.cell? ⟨fb + 1, 0, none⟩ = some (.int .i64 0) := hR10.cell 0
              have s1 : w10.cell? ⟨fb + 1, 1, none⟩ = some (.int .i64 0) := hR10.cell 1
              have s2 : w10.cell? ⟨fb + 1, 2, none⟩ = some (.int .i64 0) := hR10.cell 2
              have s3 : w10.cell? ⟨fb + 1, 3, none⟩ = some (.int .i64 0) := hR10.cell 3
              refine ⟨.tuple #[.agg #[.int .i64 0, .int .i64 0, .int .i64 0, .int .i64 0], .int .i64 6], by simp [results, Try.results32, go_sem, s0, s1, s2, s3], ?_⟩
              obtain ⟨l1, l2, l3, l4, l5, l6, l7⟩ := HFAR.out.low
              have hTT : Turn K (fun q => w.heap.size ≤ q ∨ Ej q) w w10 := ((HT3.out.mono (fun q hq => .inl (by rw [hfb]; exact hq))).trans HT9.out).trans (ht10.mono (fun q hq => .inl (by
                rcases hq with e | e | e
                · rw [e]; exact l1
                · rw [e, HRC.out.2.2.1]; exact l4
                · rw [e, HRC.out.2.2.2]; exact l5)))
              have hgL : GaveRel V.L V.B fst2 nM L2 := by
                have := HG2.out
                rw [HWC.out.2.1, HWC.out.2.2.1] at this
                exact this
              have hds : D2.size = W.D.size := HFL.out.size.trans HKN.out.1
              have hxe : ∀ g, Ej g → ¬ OwnR x X1.next g := fun g hg e => by
                have h1 := HFAR.out.ej g hg
                rcases e with e | e | e
                · rw [e] at h1; omega
                · rw [e, HRC.out.2.2.1] at h1; omega
                · rw [e, HRC.out.2.2.2] at h1; omega
              refine ⟨_, _, okin_two hTT.size, hI10.onto, turn_fresh2 hTT (fun q hq => hq), .inr ⟨6, gh, by decide, rfl, ?_, HMk.out.stayE.rel HJE9.out HI9.out ht10 hxe (onto_cond ht10.size) rfl (fun h => hxe _ h (.inr (.inl rfl)))⟩⟩
              refine each_no_plain (V := V) HV.out HINV.out HTK.out.1 hgL ⟨hds, HFL.out.blocks.trans HKN.out.2.1, fun _ => HFL.out.fault⟩ HFL.out.sure (fun i hi => by rw [HFL.out.now]; exact HNW.out i hi) (.inl ⟨rfl, fun hf => ?_⟩) ⟨?_, ?_⟩ ?_
              · have := HKN.out.2.2.2 hf
                have := HF0.out
                omega
              · show V.A.used - D3.size - D2.size + gh = W.A.used + gh
                rw [hds, HKN.out.1, HV.out]
                show W.A.used + W.D.size + W.D.size - W.D.size - W.D.size + gh = W.A.used + gh
                omega
              · show V.A.room = W.A.room
                rw [HV.out]
                rfl
              · obtain ⟨a1, a2, a3⟩ := HAC.out
                show D2.acts ≤ _
                rw [a1]
                omega
        · have HC := Lib.hid hC
          have HE := Lib.hid hE
          have HF0 := Lib.hid hf0
          clear hC hE hf0 hu hv hmkc h5 hmk5 htold hsz wB wL wfit wheld wn wO wEj wmk wf wnn HCALL HVE
          go_wp2_with fail
          refine HC.out.mono ?_
          rintro e w4 ⟨_, D2, hfl, rfl, hI4, hX4, ht4⟩
          unfold zero5
          have hE := HE.out
          have hbn : Below w4.heap.size w4 (w4.alloc (.cells #[.int .i64 0, .int .i64 0, .int .i64 0, .int .i64 0, .int .i64 0] 57)) := (Below.refl _ _).alloc (Nat.le_refl _) _
          have hI5 := hI4.below hbn
          have hX5 := hX4.alloc (.cells #[.int .i64 0, .int .i64 0, .int .i64 0, .int .i64 0, .int .i64 0] 57)
          have ht5 := ht4.trans ((Turn.below hbn : Turn K (fun _ => False) _ _).mono (fun _ h => h.elim))
          have own := fun {q : Nat} (hq : OwnR x X q ∨ wr.heap.size ≤ q) => hE.rdOwn HFAR.out (q := q) hq
          have hR5 := hE.wk.blk ht5 hE.res (by decide) (by decide) (by decide) (by decide) (by decide) (fun hq => (own hq).2.2.2.2.2 rfl)
          have hY5 := hE.wt.turn' (O' := but (but O d) d2) (W' := { V with D := D2, A := V.A.release X.buf D.size }) hE.wk ht5 (fun hq => (own hq).2.2.1 rfl) (fun _ hq => (own hq).2.2.2.1 hE.wc.2.2.2.2.2.1) (fun _ hq => (own hq).2.2.2.2.1 hE.wc.2.2.2.2.2.2) (fun _ _ h => h) hfl.size (fun p hp e => by
            unfold Arena.Ar.release
            refine List.mem_filter.2 ⟨hp, ?_⟩
            have h1 := HFAR.out.ne.1
            rw [e, hE.rc.2.2.1, hE.wc.2.2.2.2.2.1]
            simpa using Ne.symm h1)
          obtain ⟨hI6, hR6, hT6⟩ := four_store hI5 hR5 (.int .i64 0) (.int .i64 0) (.int .i64 0) (.int .i64 0)
          have hY6 := hY5.turn' (O' := but (but O d) d2) (W' := { V with D := D2, A := V.A.release X.buf D.size }) hI5 hT6 (fun e => hY5.blk.ne_ hR5 (by decide) e) (fun hc e => (hY5.live hc).blk.ne_ hR5 (by decide) e) (fun hc e => (hY5.live hc).row.ne_ hR5 (by decide) e) (fun _ _ h => h) rfl (fun _ h _ => h)
          have hje5 := HMk.out.stayE.rel (O' := but (but O d) d2) (D' := D2) (L' := V.L) (b := X.buf) (n := D.size) (HMk.out.last _ _ _ _ _ hE.mak).2 hE.wk ht5 (fun g hg e => (own e).2.1 hg) (fun _ _ h => h) hfl.size (own (q := X.buf) (.inl (.inr (.inl rfl)))).2.1
          have hje6 := HMk.out.stayE.same hje5 hI5 hT6 (fun g hg e => by have := HFAR.out.ej g hg; omega) (fun _ _ h => h)
          have HJE6 := Lib.hid hje6
          have HAC := Lib.hid (And.intro hfl.acts (And.intro hgm hE.kin.2.2.1))
          have hX6 := hI5.blk hT6 hX5 (by decide) (by decide) (by decide) (by decide) (by decide) (fun e => hX5.ne_ hR5 (by decide) e)
          have g0 := hR5.frozen 0
          have g1 := hR5.frozen 1
          have g2 := hR5.frozen 2
          have g3 := hR5.frozen 3
          have p0 : (w4.alloc (.cells #[.int .i64 0, .int .i64 0, .int .i64 0, .int .i64 0, .int .i64 0] 57)).cell? ⟨fb + 1, 0, none⟩ = some (.int .i64 0) := hR5.cell 0
          have p1' : (w4.alloc (.cells #[.int .i64 0, .int .i64 0, .int .i64 0, .int .i64 0, .int .i64 0] 57)).cell? ⟨fb + 1, 1, none⟩ = some (.int .i64 0) := hR5.cell 1
          have p2' : (w4.alloc (.cells #[.int .i64 0, .int .i64 0, .int .i64 0, .int .i64 0, .int .i64 0] 57)).cell? ⟨fb + 1, 2, none⟩ = some (.int .i64 0) := hR5.cell 2
          have p3' : (w4.alloc (.cells #[.int .i64 0, .int .i64 0, .int .i64 0, .int .i64 0, .int .i64 0] 57)).cell? ⟨fb + 1, 3, none⟩ = some (.int .i64 0) := hR5.cell 3
          have hT36 := (hE.turn.trans (ht5.mono (fun q hq => .inl (own hq).1))).trans (hT6.mono (fun q e => .inl (by rw [e]; exact HFAR.out.low.2.2.1)))
          have HI6 := Lib.hid hI6
          have HR6 := Lib.hid hR6
          have HX6 := Lib.hid hX6
          have HY6 := Lib.hid hY6
          have HT6 := Lib.hid hT36
          have HRC := Lib.hid hE.rc
          have HWC := Lib.hid hE.wc
          have HKN := Lib.hid hE.kin
          have HNW := Lib.hid hE.now
          have HFL := Lib.hid hfl
          unfold four at HI6 HR6 HX6 HY6 HT6 HJE6
          clear hje5 hje6 hI6 hR6 hX6 hY6 hT6 hT36 own hR5 hX5 hI5 hY5 ht5 ht4 hX4 hI4 hbn hfl hE HE HC
          go_wp2_with fail
          generalize hz5 : w4.alloc (.cells #[.int .i64 0, .int .i64 0, .int .i64 0, .int .i64 0, .int .i64 0] 57) = w5 at *
          clear hz5
          generalize ((((w5.setCell ⟨fb + 1, 0, none⟩ (.int .i64 0)).setCell ⟨fb + 1, 1, none⟩ (.int .i64 0)).setCell ⟨fb + 1, 2, none⟩ (.int .i64 0)).setCell ⟨fb + 1, 3, none⟩ (.int .i64 0)) = w6 at *
          refine ⟨(fun h => by cases h), _, _, _, _, rfl, rfl, (drop_live_d HI6.out HY6.out HWC.out.1).mono ?_⟩
          rintro e u' w7 ⟨rfl, L2, rfl, hg2, hI7, hY7, ht7⟩
          have hYb := HY6.out.live HWC.out.1
          have hX7 := HI6.out.blk ht7 HX6.out (by decide) (by decide) (by decide) (by decide) (by decide) (fun h => by
            rcases h with e | e | e
            · exact HX6.out.ne_ HY6.out.blk (by decide) e
            · exact HX6.out.ne_ hYb.blk (by decide) e
            · exact HX6.out.ne_ hYb.row (by decide) e)
          have hR7 := HI6.out.blk ht7 HR6.out (by decide) (by decide) (by decide) (by decide) (by decide) (fun h => by
            rcases h with e | e | e
            · exact HR6.out.ne_ HY6.out.blk (by decide) e
            · exact HR6.out.ne_ hYb.blk (by decide) e
            · exact HR6.out.ne_ hYb.row (by decide) e)
          refine ⟨(fun h => by cases h), _, _, _, _, rfl, rfl, (rclose_closed_d hX7 rfl).mono ?_⟩
          rintro e u' w8 ⟨rfl, rfl, rfl⟩
          have s0 : w7.cell? ⟨fb + 1, 0, none⟩ = some (.int .i64 0) := hR7.cell 0
          have s1 : w7.cell? ⟨fb + 1, 1, none⟩ = some (.int .i64 0) := hR7.cell 1
          have s2 : w7.cell? ⟨fb + 1, 2, none⟩ = some (.int .i64 0) := hR7.cell 2
          have s3 : w7.cell? ⟨fb + 1, 3, none⟩ = some (.int .i64 0) := hR7.cell 3
          refine ⟨.tuple #[.agg #[.int .i64 0, .int .i64 0, .int .i64 0, .int .i64 0], .int .i64 6], by simp [results, Try.results32, go_sem, s0, s1, s2, s3], ?_⟩
          obtain ⟨l1, l2, l3, l4, l5, l6, l7⟩ := HFAR.out.low
          have hTT : Turn K (fun q => w.heap.size ≤ q ∨ Ej q) w w7 := ((HT3.out.mono (fun q hq => .inl (by rw [hfb]; exact hq))).trans HT6.out).trans (ht7.mono (fun q hq => .inl (by
            rcases hq with e | e | e
            · rw [e]; exact l2
            · rw [e, HWC.out.2.2.2.2.2.1]; exact l6
            · rw [e, HWC.out.2.2.2.2.2.2]; exact l7)))
          have hgL : GaveRel V.L V.B fst2 nM L2 := by
            have := hg2
            rw [HWC.out.2.1, HWC.out.2.2.1] at this
            exact this
          have hds : D2.size = W.D.size := HFL.out.size.trans HKN.out.1
          have hye : ∀ g, Ej g → ¬ Own y Y g := fun g hg e => by
            have h1 := HFAR.out.ej g hg
            rcases e with e | e | e
            · rw [e] at h1; omega
            · rw [e, HWC.out.2.2.2.2.2.1] at h1; omega
            · rw [e, HWC.out.2.2.2.2.2.2] at h1; omega
          refine ⟨_, _, okin_two hTT.size, hI7.onto, turn_fresh2 hTT (fun q hq => hq), .inr ⟨6, gh, by decide, rfl, ?_, HMk.out.stayE.rel HJE6.out HI6.out ht7 hye (onto_cond ht7.size) rfl (fun h => hye _ h (.inr (.inl rfl)))⟩⟩
          refine each_no_plain (V := V) HV.out HINV.out HTK.out.1 hgL ⟨hds, HFL.out.blocks.trans HKN.out.2.1, fun _ => HFL.out.fault⟩ HFL.out.sure (fun i hi => by rw [HFL.out.now]; exact HNW.out i hi) (.inl ⟨rfl, fun hf => ?_⟩) ⟨?_, ?_⟩ ?_
          · have := HKN.out.2.2.2 hf
            have := HF0.out
            omega
          · show V.A.used - D.size - D2.size + gh = W.A.used + gh
            rw [hds, HKN.out.1, HV.out]
            show W.A.used + W.D.size + W.D.size - W.D.size - W.D.size + gh = W.A.used + gh
            omega
          · show V.A.room = W.A.room
            rw [HV.out]
            rfl
          · obtain ⟨a1, a2, a3⟩ := HAC.out
            show D2.acts ≤ _
            rw [a1]
            omega
      · have hkl : k = l.length := by omega
        subst hkl
        have hNE := next_end hE.rd hE.rc.1 (by rw [hE.rc.2.1, hE.rH.cnt])
        have HNX := Lib.hid hNE
        have HE := Lib.hid hE
        clear hE hNE htold hsz wB wL wfit wheld wn wO wEj wmk wf wnn hlt
        go_wp2_with fail
        refine HNX.out.mono ?_
        rintro e w4 ⟨rfl, hb4⟩
        unfold zero5
        have hbn : Below w4.heap.size w4 (w4.alloc (.cells #[.int .i64 0, .int .i64 0, .int .i64 0, .int .i64 0, .int .i64 0] 57)) := (Below.refl _ _).alloc (Nat.le_refl _) _
        have HE5 := Lib.hid ((HE.out.below HFAR.out HMk.out hb4).below HFAR.out HMk.out hbn)
        clear hbn hb4 HE HNX
        go_wp2_with fail
        obtain ⟨wB, wL, wfit, wheld, wn, wO, wEj, wmk, wf, wnn⟩ := HW.out
        have hE5 := HE5.out
        have hTk := HTK.out.2
        have hfitM : fst2 + nM ≤ W.D.blocks := by
          rcases hTk.fit with h | h
          · omega
          · have := (hTk.zero h).1; omega
        have hcl := close_sure hE5.wk hE5.wt hE5.wc.1 hE5.wH hE5.sure (by show Y.first + Y.blocks ≤ D.blocks; rw [hE5.wc.2.1, hE5.wc.2.2.1, hE5.kin.2.1]; exact hfitM) (by show D.acts + 1 < _; have := hE5.kin.2.2.1; omega) (fun g hg => HO3.out g (by have := hE5.turn.size; omega))
        have HCL := Lib.hid hcl
        clear wB wL wfit wheld wn wO wEj wmk wf wnn hE5 hTk hfitM hcl
        generalize w4.alloc (.cells #[.int .i64 0, .int .i64 0, .int .i64 0, .int .i64 0, .int .i64 0] 57) = w5 at *
        refine HCL.out.mono ?_
        rintro e w6 (⟨L2, D2, he, hg2, hli, hgo, hat, hle, hnow, hI6, ⟨cs, hY6, hcs⟩, ht6⟩ | ⟨hf0, L2, D2, rfl, hg2, hfl, hI6, hY6, ht6⟩)
        · obtain ⟨m, hm⟩ : ∃ m, m = nB W.D.size wM (made mk kp l.length).length := ⟨_, rfl⟩
          obtain ⟨fd, hfd⟩ : ∃ fd, fd = if m = 0 then 0 else fst2 := ⟨_, rfl⟩
          obtain ⟨c, hc⟩ : ∃ c, c = (made mk kp l.length).length := ⟨_, rfl⟩
          have hE5 := HE5.out
          have e1 := hE5.kin.1
          have e2 := hE5.wc.2.1
          have e3 := hE5.wc.2.2.1
          have e4 := hE5.wc.2.2.2.1
          simp only [e1, e2, e3, e4, ← hm] at hg2 hli hgo hat hle hnow he
          rw [← hfd, ← hc] at he
          subst he
          unfold fcells
          have own := fun {q : Nat} (hq : Own y Y q ∨ w5.heap.size ≤ q) => hE5.wrOwn HFAR.out (q := q) hq
          have hR6 := hE5.wk.blk ht6 hE5.res (by decide) (by decide) (by decide) (by decide) (by decide) (fun hq => (own hq).2.2.2.2.2 rfl)
          have hX6 := hE5.rd.turn' (O' := but (but O d) d2) (W' := { V with D := D2, A := V.A.release Y.buf D.size, L := L2 }) hE5.wk ht6 (fun hq => (own hq).2.2.1 rfl) (fun _ hq => (own hq).2.2.2.1 hE5.rc.2.2.1) (fun _ hq => (own hq).2.2.2.2.1 hE5.rc.2.2.2) (fun _ _ h => h) hgo.size (fun p hp e => by
            unfold Arena.Ar.release
            refine List.mem_filter.2 ⟨hp, ?_⟩
            have h1 := HFAR.out.ne.1
            rw [e, hE5.rc.2.2.1, hE5.wc.2.2.2.2.2.1]
            simpa using h1)
          obtain ⟨hI7, hR7, hT7⟩ := four_store hI6 hR6 (.int .i64 (fd : Int)) (.int .i64 (m : Int)) (.int .i64 (wM : Int)) (.int .i64 (c : Int))
          have hje6 := HMk.out.stayE.rel (O' := but (but O d) d2) (D' := D2) (L' := L2) (b := Y.buf) (n := D.size) (HMk.out.last _ _ _ _ _ hE5.mak).2 hE5.wk ht6 (fun g hg e => (own e).2.1 hg) (fun _ _ h => h) hgo.size (own (q := Y.buf) (.inl (.inr (.inl rfl)))).2.1
          have hje7 := HMk.out.stayE.same hje6 hI6 hT7 (fun g hg e => by have := HFAR.out.ej g hg; omega) (fun _ _ h => h)
          have HJE7 := Lib.hid hje7
          have HAC := Lib.hid (And.intro hgo.acts (And.intro hgm hE5.kin.2.2.1))
          have hX7 := hX6.turn' (O' := but (but O d) d2) (W' := { V with D := D2, A := V.A.release Y.buf D.size, L := L2 }) hI6 hT7 (fun e => hX6.blk.ne_ hR6 (by decide) e) (fun hc e => (hX6.live hc).blk.ne_ hR6 (by decide) e) (fun hc e => (hX6.live hc).row.ne_ hR6 (by decide) e) (fun _ _ h => h) rfl (fun _ h _ => h)
          have hY7 := hI6.blk hT7 hY6 (by decide) (by decide) (by decide) (by decide) (by decide) (fun e => hY6.ne_ hR6 (by decide) e)
          have g0 := hR6.frozen 0
          have g1 := hR6.frozen 1
          have g2 := hR6.frozen 2
          have g3 := hR6.frozen 3
          have p0 : w6.cell? ⟨fb + 1, 0, none⟩ = some (.int .i64 0) := hR6.cell 0
          have p1' : w6.cell? ⟨fb + 1, 1, none⟩ = some (.int .i64 0) := hR6.cell 1
          have p2' : w6.cell? ⟨fb + 1, 2, none⟩ = some (.int .i64 0) := hR6.cell 2
          have p3' : w6.cell? ⟨fb + 1, 3, none⟩ = some (.int .i64 0) := hR6.cell 3
          have hT37 := (hE5.turn.trans (ht6.mono (fun q hq => .inl (own hq).1))).trans (hT7.mono (fun q e => .inl (by rw [e]; exact HFAR.out.low.2.2.1)))
          have HI7 := Lib.hid hI7
          have HR7 := Lib.hid hR7
          have HX7 := Lib.hid hX7
          have HY7 := Lib.hid hY7
          have HT7 := Lib.hid hT37
          have HRC := Lib.hid hE5.rc
          have HWC := Lib.hid hE5.wc
          have HKN := Lib.hid hE5.kin
          have HNW := Lib.hid hE5.now
          have HSU := Lib.hid hE5.sure
          have HMM := Lib.hid (And.intro hm (And.intro hfd hc))
          have HG := Lib.hid (And.intro hg2 (And.intro hli (And.intro hgo (And.intro hat (And.intro hle (And.intro hnow hcs))))))
          unfold four at HI7 HR7 HX7 HY7 HT7 HJE7
          clear hje6 hje7 hI7 hR7 hX7 hY7 hT7 hT37 hm hfd hc hE5 own hR6 hX6 hI6 hY6 ht6 hg2 hli hgo hat hle hnow hcs HE5 HCL e1 e2 e3 e4
          go_wp2_with fail
          generalize ((((w6.setCell ⟨fb + 1, 0, none⟩ (.int .i64 (fd : Int))).setCell ⟨fb + 1, 1, none⟩ (.int .i64 (m : Int))).setCell ⟨fb + 1, 2, none⟩ (.int .i64 (wM : Int))).setCell ⟨fb + 1, 3, none⟩ (.int .i64 (c : Int))) = w7 at *
          obtain ⟨hg2, hli, hgo, hat, hle, hnow, hcs⟩ := HG.out
          refine ⟨(fun h => by cases h), _, _, _, _, rfl, rfl, (drop_closed_d HY7.out hcs).mono ?_⟩
          rintro e u' w' ⟨rfl, rfl, rfl⟩
          refine ⟨(fun h => by cases h), _, _, _, _, rfl, rfl, (rclose_d HI7.out HX7.out HRC.out.1).mono ?_⟩
          rintro e u' w8 ⟨rfl, rfl, hI8, hX8, ht8⟩
          have hXb := HX7.out.live HRC.out.1
          have hR8 := HI7.out.blk ht8 HR7.out (by decide) (by decide) (by decide) (by decide) (by decide) (fun h => by
            rcases h with e | e | e
            · exact HR7.out.ne_ HX7.out.blk (by decide) e
            · exact HR7.out.ne_ hXb.blk (by decide) e
            · exact HR7.out.ne_ hXb.row (by decide) e)
          have s0 : w8.cell? ⟨fb + 1, 0, none⟩ = some (.int .i64 (fd : Int)) := hR8.cell 0
          have s1 : w8.cell? ⟨fb + 1, 1, none⟩ = some (.int .i64 (m : Int)) := hR8.cell 1
          have s2 : w8.cell? ⟨fb + 1, 2, none⟩ = some (.int .i64 (wM : Int)) := hR8.cell 2
          have s3 : w8.cell? ⟨fb + 1, 3, none⟩ = some (.int .i64 (c : Int)) := hR8.cell 3
          refine ⟨.tuple #[.agg #[.int .i64 (fd : Int), .int .i64 (m : Int), .int .i64 (wM : Int), .int .i64 (c : Int)], .int .i64 0], by simp [results, Try.results32, go_sem, s0, s1, s2, s3], ?_⟩
          obtain ⟨l1, l2, l3, l4, l5, l6, l7⟩ := HFAR.out.low
          have hTT : Turn K (fun q => w.heap.size ≤ q ∨ Ej q) w w8 := ((HT3.out.mono (fun q hq => .inl (by rw [hfb]; exact hq))).trans HT7.out).trans (ht8.mono (fun q hq => .inl (by
            rcases hq with e | e | e
            · rw [e]; exact l1
            · rw [e, HRC.out.2.2.1]; exact l4
            · rw [e, HRC.out.2.2.2]; exact l5)))
          have hds : D2.size = W.D.size := hgo.size.trans HKN.out.1
          obtain ⟨hm, hfd, hc⟩ := HMM.out
          clear s0 s1 s2 s3 HR7 HX7 HY7 HT7
          subst hc hfd hm
          have hxe : ∀ g, Ej g → ¬ OwnR x X g := fun g hg e => by
            have h1 := HFAR.out.ej g hg
            rcases e with e | e | e
            · rw [e] at h1; omega
            · rw [e, HRC.out.2.2.1] at h1; omega
            · rw [e, HRC.out.2.2.2] at h1; omega
          refine ⟨_, _, okin_two hTT.size, hI8.onto, turn_fresh2 hTT (fun q hq => hq), .inl ⟨_, rfl, ?_, HMk.out.stayE.rel HJE7.out HI7.out ht8 hxe (onto_cond ht8.size) rfl (fun h => hxe _ h (.inr (.inl rfl)))⟩⟩
          refine each_ok_plain (V := V) (D := D) HV.out HINV.out HTK.out.1 hle HNE.out hg2 ⟨hds, hgo.blocks.trans HKN.out.2.1, fun hf => hgo.fault (HKN.out.2.2.2 hf)⟩ (hgo.sure HSU.out) (fun i hi => (hnow i (fun j _ hj => hi j (by omega))).trans (HNW.out i hi)) hli ⟨?_, ?_⟩ ?_
          · show V.A.used - D.size - D2.size = W.A.used
            rw [hds, HKN.out.1, HV.out]
            show W.A.used + W.D.size + W.D.size - W.D.size - W.D.size = W.A.used
            omega
          · show V.A.room = W.A.room
            rw [HV.out]
            rfl
          · obtain ⟨a1, a2, a3⟩ := HAC.out
            have b1 := nB_le (size := W.D.size) (wN := wM) (count := (made mk kp l.length).length) (hN_pos s8 m1 m5)
            have b2 := made_len mk kp l.length
            show D2.acts ≤ _
            omega
        · have hE5 := HE5.out
          unfold noFile
          have own := fun {q : Nat} (hq : Own y Y q ∨ w5.heap.size ≤ q) => hE5.wrOwn HFAR.out (q := q) hq
          have hR6 := hE5.wk.blk ht6 hE5.res (by decide) (by decide) (by decide) (by decide) (by decide) (fun hq => (own hq).2.2.2.2.2 rfl)
          have hX6 := hE5.rd.turn' (O' := but (but O d) d2) (W' := { V with D := D2, A := V.A.release Y.buf D.size, L := L2 }) hE5.wk ht6 (fun hq => (own hq).2.2.1 rfl) (fun _ hq => (own hq).2.2.2.1 hE5.rc.2.2.1) (fun _ hq => (own hq).2.2.2.2.1 hE5.rc.2.2.2) (fun _ _ h => h) hfl.size (fun p hp e => by
            unfold Arena.Ar.release
            refine List.mem_filter.2 ⟨hp, ?_⟩
            have h1 := HFAR.out.ne.1
            rw [e, hE5.rc.2.2.1, hE5.wc.2.2.2.2.2.1]
            simpa using h1)
          obtain ⟨hI7, hR7, hT7⟩ := four_store hI6 hR6 (.int .i64 0) (.int .i64 0) (.int .i64 0) (.int .i64 0)
          have hje6 := HMk.out.stayE.rel (O' := but (but O d) d2) (D' := D2) (L' := L2) (b := Y.buf) (n := D.size) (HMk.out.last _ _ _ _ _ hE5.mak).2 hE5.wk ht6 (fun g hg e => (own e).2.1 hg) (fun _ _ h => h) hfl.size (own (q := Y.buf) (.inl (.inr (.inl rfl)))).2.1
          have hje7 := HMk.out.stayE.same hje6 hI6 hT7 (fun g hg e => by have := HFAR.out.ej g hg; omega) (fun _ _ h => h)
          have HJE7 := Lib.hid hje7
          have HAC := Lib.hid (And.intro hfl.acts (And.intro hgm hE5.kin.2.2.1))
          have hX7 := hX6.turn' (O' := but (but O d) d2) (W' := { V with D := D2, A := V.A.release Y.buf D.size, L := L2 }) hI6 hT7 (fun e => hX6.blk.ne_ hR6 (by decide) e) (fun hc e => (hX6.live hc).blk.ne_ hR6 (by decide) e) (fun hc e => (hX6.live hc).row.ne_ hR6 (by decide) e) (fun _ _ h => h) rfl (fun _ h _ => h)
          have hY7 := hI6.blk hT7 hY6 (by decide) (by decide) (by decide) (by decide) (by decide) (fun e => hY6.ne_ hR6 (by decide) e)
          have g0 := hR6.frozen 0
          have g1 := hR6.frozen 1
          have g2 := hR6.frozen 2
          have g3 := hR6.frozen 3
          have p0 : w6.cell? ⟨fb + 1, 0, none⟩ = some (.int .i64 0) := hR6.cell 0
          have p1' : w6.cell? ⟨fb + 1, 1, none⟩ = some (.int .i64 0) := hR6.cell 1
          have p2' : w6.cell? ⟨fb + 1, 2, none⟩ = some (.int .i64 0) := hR6.cell 2
          have p3' : w6.cell? ⟨fb + 1, 3, none⟩ = some (.int .i64 0) := hR6.cell 3
          have hT37 := (hE5.turn.trans (ht6.mono (fun q hq => .inl (own hq).1))).trans (hT7.mono (fun q e => .inl (by rw [e]; exact HFAR.out.low.2.2.1)))
          have HI7 := Lib.hid hI7
          have HR7 := Lib.hid hR7
          have HX7 := Lib.hid hX7
          have HY7 := Lib.hid hY7
          have HT7 := Lib.hid hT37
          have HRC := Lib.hid hE5.rc
          have HWC := Lib.hid hE5.wc
          have HKN := Lib.hid hE5.kin
          have HNW := Lib.hid hE5.now
          have HG := Lib.hid (And.intro hg2 (And.intro hfl hf0))
          unfold four at HI7 HR7 HX7 HY7 HT7 HJE7
          clear hje6 hje7 hI7 hR7 hX7 hY7 hT7 hT37 hE5 own hR6 hX6 hI6 hY6 ht6 hg2 hfl hf0 HE5 HCL
          go_wp2_with fail
          generalize ((((w6.setCell ⟨fb + 1, 0, none⟩ (.int .i64 0)).setCell ⟨fb + 1, 1, none⟩ (.int .i64 0)).setCell ⟨fb + 1, 2, none⟩ (.int .i64 0)).setCell ⟨fb + 1, 3, none⟩ (.int .i64 0)) = w7 at *
          obtain ⟨hg2, hfl, hf0⟩ := HG.out
          refine ⟨(fun h => by cases h), _, _, _, _, rfl, rfl, (drop_closed_d HY7.out rfl).mono ?_⟩
          rintro e u' w' ⟨rfl, rfl, rfl⟩
          refine ⟨(fun h => by cases h), _, _, _, _, rfl, rfl, (rclose_d HI7.out HX7.out HRC.out.1).mono ?_⟩
          rintro e u' w8 ⟨rfl, rfl, hI8, hX8, ht8⟩
          have hXb := HX7.out.live HRC.out.1
          have hR8 := HI7.out.blk ht8 HR7.out (by decide) (by decide) (by decide) (by decide) (by decide) (fun h => by
            rcases h with e | e | e
            · exact HR7.out.ne_ HX7.out.blk (by decide) e
            · exact HR7.out.ne_ hXb.blk (by decide) e
            · exact HR7.out.ne_ hXb.row (by decide) e)
          have s0 : w8.cell? ⟨fb + 1, 0, none⟩ = some (.int .i64 0) := hR8.cell 0
          have s1 : w8.cell? ⟨fb + 1, 1, none⟩ = some (.int .i64 0) := hR8.cell 1
          have s2 : w8.cell? ⟨fb + 1, 2, none⟩ = some (.int .i64 0) := hR8.cell 2
          have s3 : w8.cell? ⟨fb + 1, 3, none⟩ = some (.int .i64 0) := hR8.cell 3
          refine ⟨.tuple #[.agg #[.int .i64 0, .int .i64 0, .int .i64 0, .int .i64 0], .int .i64 6], by simp [results, Try.results32, go_sem, s0, s1, s2, s3], ?_⟩
          obtain ⟨l1, l2, l3, l4, l5, l6, l7⟩ := HFAR.out.low
          have hTT : Turn K (fun q => w.heap.size ≤ q ∨ Ej q) w w8 := ((HT3.out.mono (fun q hq => .inl (by rw [hfb]; exact hq))).trans HT7.out).trans (ht8.mono (fun q hq => .inl (by
            rcases hq with e | e | e
            · rw [e]; exact l1
            · rw [e, HRC.out.2.2.1]; exact l4
            · rw [e, HRC.out.2.2.2]; exact l5)))
          have hgL : GaveRel V.L V.B fst2 nM L2 := by
            have := hg2
            rw [HWC.out.2.1, HWC.out.2.2.1] at this
            exact this
          have hds : D2.size = W.D.size := hfl.size.trans HKN.out.1
          have hxe : ∀ g, Ej g → ¬ OwnR x X g := fun g hg e => by
            have h1 := HFAR.out.ej g hg
            rcases e with e | e | e
            · rw [e] at h1; omega
            · rw [e, HRC.out.2.2.1] at h1; omega
            · rw [e, HRC.out.2.2.2] at h1; omega
          refine ⟨_, _, okin_two hTT.size, hI8.onto, turn_fresh2 hTT (fun q hq => hq), .inr ⟨6, gh, by decide, rfl, ?_, HMk.out.stayE.rel HJE7.out HI7.out ht8 hxe (onto_cond ht8.size) rfl (fun h => hxe _ h (.inr (.inl rfl)))⟩⟩
          refine each_no_plain (V := V) HV.out HINV.out HTK.out.1 hgL ⟨hds, hfl.blocks.trans HKN.out.2.1, fun _ => hfl.fault⟩ hfl.sure (fun i hi => by rw [hfl.now]; exact HNW.out i hi) (.inl ⟨rfl, fun hf => ?_⟩) ⟨?_, ?_⟩ ?_
          · have := HKN.out.2.2.2 hf
            have : D.fault = 0 := hf0
            omega
          · show V.A.used - D.size - D2.size + gh = W.A.used + gh
            rw [hds, HKN.out.1, HV.out]
            show W.A.used + W.D.size + W.D.size - W.D.size - W.D.size + gh = W.A.used + gh
            omega
          · show V.A.room = W.A.room
            rw [HV.out]
            rfl
          · obtain ⟨a1, a2, a3⟩ := HAC.out
            show D2.acts ≤ _
            rw [a1]
            omega
end

end Go.Proofs.Ytlbaigkpojkfjaa.Fl
