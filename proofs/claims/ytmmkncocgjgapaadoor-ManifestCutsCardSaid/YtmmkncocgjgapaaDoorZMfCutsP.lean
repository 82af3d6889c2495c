/- The law ManifestCuts: its arguments, and a step of it in plain words. -/
import Derived.Test.YtmmkncocgjgapaaDoorZMfBack
import Derived.Test.YtmmkncocgjgapaaDoorK4
set_option linter.unusedVariables false
namespace Go.Proofs.YtmmkncocgjgapaaDoor
open Go.RowKit
theorem opens_struct4 {H : Type} {enc : TypeId × Value → H} {P : Program} {t : TypeId} {f0 f1 f2 f3 : Field} {A B C D : Type} {R : Rd A} {S : Rd B} {T : Rd C} {U : Rd D} {m0 m1 m2 m3 n0 n1 : Nat} (ht : P.underlying t = some (.struct #[f0, f1, f2, f3])) (hc : P.cellsOf t = m0 + n0)
    (s0 : n0 = m1 + n1) (s1 : n1 = m2 + m3)
    (h0 : P.cellsOf f0.type = m0) (o0 : f0.offset = 0) (r0 : Opens enc P f0.type R) (h1 : P.cellsOf f1.type = m1) (o1 : f1.offset = m0) (r1 : Opens enc P f1.type S) (h2 : P.cellsOf f2.type = m2) (o2 : f2.offset = m0 + m1) (r2 : Opens enc P f2.type T)
    (h3 : P.cellsOf f3.type = m3) (o3 : f3.offset = m0 + m1 + m2) (r3 : Opens enc P f3.type U) :
    Opens enc P t (rdPair m0 n0 R (rdPair m1 n1 S (rdPair m2 m3 T U))) := fun w _ cs _ h => by
  obtain ⟨xs, n, _, rfl, hl, hlen, hf⟩ := DataW.trod_struct ht h
  match xs, hlen with
  | [y0, y1, y2, y3], _ =>
    have a0 := hf 0 f0 rfl
    have a1 := hf 1 f1 rfl
    have a2 := hf 2 f2 rfl
    have a3 := hf 3 f3 rfl
    simp only [List.getElem?_cons_zero, List.getElem?_cons_succ] at a0 a1 a2 a3
    rw [o0, h0, List.drop_zero] at a0
    rw [o1, h1] at a1
    rw [o2, h2] at a2
    rw [o3, h3, List.take_of_length_le (by rw [List.length_drop]; omega)] at a3
    obtain ⟨d0, e0⟩ := r0 _ _ _ _ a0
    obtain ⟨d1, e1⟩ := r1 _ _ _ _ a1
    obtain ⟨d2, e2⟩ := r2 _ _ _ _ a2
    obtain ⟨d3, e3⟩ := r3 _ _ _ _ a3
    exact ⟨(d0, d1, d2, d3), hl.trans hc, e0, by rw [List.length_drop]; omega, e1, by rw [List.length_drop, List.length_drop]; omega, by rw [List.drop_drop]; exact e2, by have := e3; simp only [List.drop_drop, Nat.add_assoc] at this ⊢; exact this⟩
namespace Mf
open Dev

abbrev CutD := List (ByteArray × Int × Int × Int × Int) × Int × List Bool × Bool
abbrev RdCut : Rd CutD := rdPair 1 3 (rdSlice 5 RdEnt) (rdPair 1 2 (rdInt .u8) (rdPair 1 1 (rdSlice 1 rdBool) rdBool))
/-- A cut in memory. -/
structure CutAt (w : World) (b o : Nat) (la : Option Addr) (ln lc : Nat) (at_ : Int) (ka : Option Addr) (kn kc : Nat) (wh : Bool) : Prop where
  l : w.cell? ⟨b, o, none⟩ = some (.slice la ln lc)
  at_ : w.cell? ⟨b, o + 1, none⟩ = some (.int .u8 at_)
  k : w.cell? ⟨b, o + 2, none⟩ = some (.slice ka kn kc)
  w : w.cell? ⟨b, o + 3, none⟩ = some (.bool wh)
theorem CutAt.below {w w' : World} {b o : Nat} {la : Option Addr} {ln lc : Nat} {at_ : Int} {ka : Option Addr} {kn kc : Nat} {wh : Bool} (h : CutAt w b o la ln lc at_ ka kn kc wh) (hb : Below w.heap.size w w') : CutAt w' b o la ln lc at_ ka kn kc wh :=
  ⟨(hb.cell (cell_lt h.l).1).trans h.l, (hb.cell (cell_lt h.at_).1).trans h.at_, (hb.cell (cell_lt h.k).1).trans h.k, (hb.cell (cell_lt h.w).1).trans h.w⟩
theorem cuts_of {w : World} {a : Option Addr} {n c : Nat} {l : List CutD} (h : rdSlice 4 RdCut w [.slice a n c] l) :
    l.length = n ∧ n ≤ c ∧ c ≤ maxLen ∧ ∀ i, i < n → ∃ (b o : Nat) (la : Option Addr) (ln lc : Nat) (L : List Ent) (at_ : Int) (ka : Option Addr) (kn kc : Nat) (keep : List Bool) (wh : Bool), a = some ⟨b, o, none⟩ ∧ CutAt w b (o + i * 4) la ln lc at_ ka kn kc wh ∧ Arg w la ln lc L ∧ 0 ≤ at_ ∧ at_ ≤ 255 ∧ Row w ka (keep.map Value.bool) ∧ keep.length = kn ∧ kn ≤ kc ∧ kc ≤ maxLen := by
  obtain ⟨a', n', c', e, hl, hn, hc, _, hr⟩ := h
  simp only [List.cons.injEq, Value.slice.injEq, and_true] at e
  obtain ⟨rfl, rfl, rfl⟩ := e
  refine ⟨hl, hn, hc, fun i hi => ?_⟩
  have key : ∀ i (hi : i < l.length), ∃ x la ln lc ka kn kc, a = some x ∧ (∀ j, j < 4 → w.cell? ((x.add (i * 4)).add j) = [Value.slice la ln lc, .int .u8 l[i].2.1, .slice ka kn kc, .bool l[i].2.2.2][j]?) ∧ rdSlice 5 RdEnt w [.slice la ln lc] l[i].1 ∧ (Lit.int .u8 l[i].2.1).wf = true ∧ rdSlice 1 rdBool w [.slice ka kn kc] l[i].2.2.1 := by
    intro i hi
    obtain ⟨x, es, hx, he, hj, hd⟩ := hr i hi
    obtain ⟨h0, hL, h2, ⟨h3, hw⟩, h4, hK, h6⟩ := hd
    match es, he with
    | [c0, c1, c2, c3], _ =>
      simp at hL h3 hK h6
      have hL' := hL
      have hK' := hK
      obtain ⟨la, ln, lc, e1, _⟩ := hL'
      obtain ⟨ka, kn, kc, e2, _⟩ := hK'
      simp only [List.cons.injEq, and_true] at e1 e2
      subst e1 e2
      have h3' : c1 = .int .u8 l[i].2.1 := h3
      have h6' : c3 = .bool l[i].2.2.2 := by
        have h6b : [c3] = [.bool l[i].2.2.2] := h6
        injection h6b
      subst h3' h6'
      exact ⟨x, la, ln, lc, ka, kn, kc, hx, hj, hL, hw, hK⟩
  obtain ⟨x, la, ln, lc, ka, kn, kc, rfl, hj, hL, hw, hK⟩ := key i (by omega)
  obtain ⟨y, _, _, _, _, _, _, hy, hj0, _⟩ := key 0 (by omega)
  injection hy with hy
  subst hy
  obtain ⟨b, off, spot⟩ := x
  have hs : spot = none := by
    have := hj0 0 (by omega)
    rw [show ((⟨b, off, spot⟩ : Addr).add (0 * 4)).add 0 = ⟨b, off, spot⟩ from by simp [Addr.add]] at this
    exact (cell_lt this).2
  subst hs
  obtain ⟨L, hA⟩ := arg_of hL
  obtain ⟨ka', kn', kc', e, k1, k2, k3, k4⟩ := rdSlice_bools hK
  simp only [List.cons.injEq, Value.slice.injEq, and_true] at e
  obtain ⟨rfl, rfl, rfl⟩ := e
  have hb : 0 ≤ l[i].2.1 ∧ l[i].2.1 ≤ 255 := by simpa [Lit.wf, IntKind.min, IntKind.max, IntKind.signed, IntKind.bits] using hw
  have g := fun j hj4 => hj j hj4
  simp only [add_none] at g
  exact ⟨b, off, la, ln, lc, L, _, ka, kn, kc, _, _, rfl, ⟨g 0 (by omega), g 1 (by omega), g 2 (by omega), g 3 (by omega)⟩, hA, hb.1, hb.2, k4, k1, k2, k3⟩

section
variable {w w' : World} {O : Nat → Prop} {a rl rn : Nat} {pv : Value} {D : Dv} {k G : Nat} {τ : Nat → Nat → Hold} {r : Nat → Hold}
theorem fuse_at (h : At w O a rl rn pv D) {n : Nat} (hn : n < 1000) (hb : Box w' a (D.setFuse (n : Int)) rl rn pv) (hc : Chg (fun k => k = a) w w') : At w' O a rl rn pv (D.setFuse (n : Int)) := by
  have hS : ∀ g cs, O g → Blk w g 35 cs → ¬ g = a := fun g cs _ hg e => hg.ne_ h.box (by decide) e
  refine ⟨hb, h.ne, h.lasts.chg hc (Ne.symm (h.lasts.ne_blk h.box)) hS, h.now.chg hc (Ne.symm (h.now.ne_blk h.box)) hS, h.pend.chg hc (fun g hg => (h.pend_ne hg).1) hS, ⟨?_, h.nums.fault, h.nums.acts, ⟨h.nums.fit.size, h.nums.fit.blocks, h.nums.fit.now, h.nums.fit.lasts, h.nums.fit.pend, h.nums.fit.len⟩⟩, h.pout⟩
  show -1 ≤ max (n : Int) (-1) ∧ max (n : Int) (-1) ≤ _
  omega
/-- What stands behind one of the law's Saves. -/
def Stepped (k G : Nat) (D E : Dv) (τ : Nat → Nat → Hold) (r : Nat → Hold) (n : Nat) (L : List Ent) (keep : List Bool) (wh : Bool) : Prop :=
  ∃ τ' r', Sl (E.crash keep) k τ' ∧ Inv k (G + 2) τ' r' ∧ (bestN r' 2 = some (n, L) ∨ bestN r' 2 = bestN r 2) ∧ (wh = true → bestN r' 2 = some (n, L)) ∧ E.size = D.size ∧ E.blocks = D.blocks ∧ E.acts ≤ D.acts + k + 1 ∧ E.pend.length ≤ k
theorem step_whole (hs : Sl D k τ) (hi : Inv k G τ r) (hk : 0 < k) (hG : G ≤ 4611686018427387904) {span n : Nat} (hn : n = nextH span k τ r) {L : List Ent} (hL : formedM L = true) (keep : List Bool) :
    ∃ E, saveGo D (saveL D.size k n L) = (0, E) ∧ Stepped k G D E τ r n L keep true := by
  obtain ⟨E, h1, h2, h3, h4, h5⟩ := hs.whole n L
  obtain ⟨r', hr⟩ := stands_all k (mark (n % 2) k (fun _ => true) (n, L) τ)
  obtain ⟨s1, s2, s3⟩ := hi.step hk hG hn hL hr
  exact ⟨E, h1, _, r', h2.crash keep, s1, s2, fun _ => s3 (fun i hi => ⟨hi, rfl⟩), h3, h4, by omega, by rw [h2.pend]; exact Nat.zero_le _⟩
theorem step_cut (hs : Sl D k τ) (hi : Inv k G τ r) (hk : 0 < k) (hG : G ≤ 4611686018427387904) {span n : Nat} (hn : n = nextH span k τ r) {L : List Ent} (hL : formedM L = true) (keep : List Bool) {f : Nat} (hf : f ≤ k) :
    ∃ E, saveGo (D.setFuse (f : Int)) (saveL D.size k n L) = (8, E) ∧ Stepped k G D E τ r n L keep false := by
  obtain ⟨E, h1, h2, h3, h4, h5, h6⟩ := hs.cut n L hf keep
  obtain ⟨r', hr⟩ := stands_all k (mark (n % 2) f (fun i => keep.getD i false) (n, L) τ)
  obtain ⟨s1, s2, s3⟩ := hi.step hk hG hn hL hr
  exact ⟨E, h1, _, r', h2, s1, s2, (fun h => by cases h), h3, h4, by omega, h6⟩
end
end Mf
end Go.Proofs.YtmmkncocgjgapaaDoor
