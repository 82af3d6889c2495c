/- A region taken step by step: reads under a premise F (whatever order is drawn), and operations that alone may come up; the last step alone may break F. -/
import Derived.Test.YtmmkncocgjgapaaZReg3
set_option linter.unusedVariables false
namespace Go.Proofs.Ytmmkncocgjgapaa
open Go.RowKit
section
variable {P : Program} {ops : Array Oper} {Q : Exit → Act → World → Prop} {F : World → Prop}

def MF (P : Program) (ops : Array Oper) (Q : Exit → Act → World → Prop) (F : World → Prop) : List (Bool × Nat) → Act → World → Prop
  | [], a, w => Q .normal a w
  | (true, i) :: s, a, w => ∃ oi v, ops[i]? = some oi ∧ YieldsIf P ops F oi v a ∧ MF P ops Q F s (a.put oi.dst v) w
  | (false, j) :: s, a, w => ∃ o, ops[j]? = some o ∧ ∀ K : Act → World → Prop, Shut (∀ a w', (s ≠ [] → F w') → MF P ops Q F s a w' → K a w') →
      if Region.wanted o (yielded ops a.tmps) = true then Oper.wp P o a w K Q else K (a.put o.dst undef) w
def mixB (md : Region.Mode) (ops : Array Oper) (late : Nat → Bool) : List (Bool × Nat) → Array Bool → Bool
  | [], listed => (Region.ready md ops listed).isEmpty
  | (true, i) :: s, listed => !s.isEmpty && takeB md ops late listed i && mixB md ops late s (listed.setIfInBounds i true)
  | (false, j) :: s, listed => decide (Region.ready md ops listed = [j]) && (s.isEmpty || !late j) && (!s.isEmpty || late j) && mixB md ops late s (listed.setIfInBounds j true)
def lastM (s : List (Bool × Nat)) (j : Nat) : Bool := decide ((s.map Prod.snd).getLast? = some j)
def mixedB (ops : Array Oper) (s : List (Bool × Nat)) : Bool :=
  mixB .any ops (lastM s) s (Array.replicate ops.size false) && decide (s.length = ops.size)

theorem anyS_mix {late : Nat → Bool} (hQ : ∀ c a d v w, Q (.panic c) (Act.put a d v) w → Q (.panic c) a w) : ∀ (s : List (Bool × Nat)) (listed : Array Bool) (a : Act) (w : World), (s ≠ [] → F w) →
    mixB .any ops late s listed = true → MF P ops Q F s a w → AnyS P .any ops Q F late s.length listed a w
  | [], listed, a, w, _, hB, h => anyS_done (by simpa [mixB] using hB) h
  | (true, i) :: s, listed, a, w, hF, hB, h => by
    obtain ⟨oi, v, hi, hy, h'⟩ := h
    simp only [mixB, Bool.and_eq_true] at hB
    have hF' := hF (by simp)
    rw [List.length_cons]
    exact anyS_take hi hB.1.2 (fun c a w h => hQ c a _ _ w h) hy hF' (anyS_mix hQ s _ _ _ (fun _ => hF') hB.2 h')
  | (false, j) :: s, listed, a, w, hF, hB, h => by
    obtain ⟨o, ho, h⟩ := h
    simp only [mixB, Bool.and_eq_true, decide_eq_true_eq, Bool.or_eq_true] at hB
    rw [List.length_cons]
    refine anyS_one j hB.1.1.1 ho (fun K' hK' => h K' (fun a2 w2 hF2 hs => hK'.out a2 w2 (fun hlj => ?_) (fun hF3 => ?_)))
    · refine hF2 (fun e => ?_)
      rcases hB.1.2 with h1 | h1
      · rw [e] at h1; simp at h1
      · rw [h1] at hlj; cases hlj
    · exact anyS_mix hQ s _ a2 w2 hF2 hB.2 hs

theorem wp_region_mix {id : Nat} {a : Act} {w : World} (F : World → Prop) (s : List (Bool × Nat)) (hm : P.follows .mixedOrders = true) (hB : mixedB ops s = true)
    (hQ : ∀ c a d v w, Q (.panic c) (Act.put a d v) w → Q (.panic c) a w) (hF : F w.drew) (h : MF P ops Q F s a w.drew) : (Code.region id ops true).wp P Q a w := by
  simp only [mixedB, Bool.and_eq_true, decide_eq_true_eq] at hB
  refine regS_begin F (lastM s) hm hF (fun _ => ?_)
  have key := anyS_mix (late := lastM s) hQ s _ a _ (fun _ => hF) hB.1 h
  rw [hB.2] at key
  exact key

theorem mx_begin {id : Nat} {a : Act} {w : World} (F : World → Prop) (s : List (Bool × Nat)) (hm : P.follows .mixedOrders = true) (hB : mixedB ops s = true)
    (hQ : ∀ c a d v w, Q (.panic c) (Act.put a d v) w → Q (.panic c) a w) (hF : F w.drew) (h : Yg (MF P ops Q F s a w.drew)) : (Code.region id ops true).wp P Q a w := wp_region_mix F s hm hB hQ hF h.out
theorem mx_read {i : Nat} {s : List (Bool × Nat)} {a : Act} {w : World} (oi : Oper) (v : Value) (hi : ops[i]? = some oi) (hw : Region.wanted oi (yielded ops a.tmps) = true) (hv : ∀ w, F w → (execOp a.eval oi).run P w = .ok (.value v) w) (h : Yg (MF P ops Q F s (a.put oi.dst v) w)) : Yg (MF P ops Q F ((true, i) :: s) a w) :=
  ⟨oi, v, hi, .inl ⟨hw, hv⟩, h.out⟩
theorem mx_skip {i : Nat} {s : List (Bool × Nat)} {a : Act} {w : World} (oi : Oper) (hi : ops[i]? = some oi) (hw : Region.wanted oi (yielded ops a.tmps) = false) (h : Yg (MF P ops Q F s (a.put oi.dst undef) w)) : Yg (MF P ops Q F ((true, i) :: s) a w) :=
  ⟨oi, undef, hi, .inr ⟨hw, rfl⟩, h.out⟩
theorem mx_one {j : Nat} {s : List (Bool × Nat)} {a : Act} {w : World} (o : Oper) (ho : ops[j]? = some o) (hw : Region.wanted o (yielded ops a.tmps) = true) (h : ∀ K : Act → World → Prop, Yg (∀ a w', (s ≠ [] → F w') → Yg (MF P ops Q F s a w') → K a w') → Oper.wp P o a w K Q) : Yg (MF P ops Q F ((false, j) :: s) a w) :=
  ⟨⟨o, ho, fun K hK => by rw [if_pos hw]; exact h K ⟨fun a w' h1 h2 => hK a w' h1 h2.out⟩⟩⟩
theorem mx_one_skip {j : Nat} {s : List (Bool × Nat)} {a : Act} {w : World} (o : Oper) (ho : ops[j]? = some o) (hF : F w) (hw : Region.wanted o (yielded ops a.tmps) = false) (h : Yg (MF P ops Q F s (a.put o.dst undef) w)) : Yg (MF P ops Q F ((false, j) :: s) a w) :=
  ⟨⟨o, ho, fun K hK => by rw [if_neg (by rw [hw]; exact Bool.false_ne_true)]; exact hK _ _ (fun _ => hF) h.out⟩⟩
theorem mx_end {a : Act} {w : World} (h : Q .normal a w) : Yg (MF P ops Q F [] a w) := ⟨h⟩
end
end Go.Proofs.Ytmmkncocgjgapaa
