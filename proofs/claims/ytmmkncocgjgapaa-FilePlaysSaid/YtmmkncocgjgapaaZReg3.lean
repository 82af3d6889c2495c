/- A region that reads under a premise F, whatever order is drawn, and whose last operation alone may break F. -/
import Derived.Test.YtmmkncocgjgapaaK7
set_option linter.unusedVariables false
namespace Go.Proofs.Ytmmkncocgjgapaa
open Go.RowKit
section
variable {P : Program} {ops : Array Oper} {Q : Exit → Act → World → Prop} {F : World → Prop}

/-- The operations 'is' read, in every world of F alike. -/
def YF (P : Program) (ops : Array Oper) (F : World → Prop) (L : Act → Prop) : List Nat → Act → Prop
  | [], a => L a
  | i :: is, a => ∃ oi v, ops[i]? = some oi ∧ YieldsIf P ops F oi v a ∧ YF P ops F L is (a.put oi.dst v)
/-- The operations 'js' one behind another; F holds behind all but the last. -/
def SF (P : Program) (ops : Array Oper) (Q : Exit → Act → World → Prop) (F : World → Prop) : List Nat → Act → World → Prop
  | [], a, w => Q .normal a w
  | j :: js, a, w => ∃ o, ops[j]? = some o ∧ ∀ K : Act → World → Prop, Shut (∀ a w', (js ≠ [] → F w') → SF P ops Q F js a w' → K a w') →
      if Region.wanted o (yielded ops a.tmps) = true then Oper.wp P o a w K Q else K (a.put o.dst undef) w
def takesLB (md : Region.Mode) (ops : Array Oper) (late : Nat → Bool) : List Nat → Array Bool → Bool
  | [], _ => true
  | i :: is, listed => takeB md ops late listed i && takesLB md ops late is (listed.setIfInBounds i true)
def setL : List Nat → Array Bool → Array Bool
  | [], listed => listed
  | i :: is, listed => setL is (listed.setIfInBounds i true)
def seqLB (md : Region.Mode) (ops : Array Oper) : List Nat → Array Bool → Bool
  | [], listed => (Region.ready md ops listed).isEmpty
  | j :: js, listed => decide (Region.ready md ops listed = [j]) && seqLB md ops js (listed.setIfInBounds j true)
def lastB (js : List Nat) (j : Nat) : Bool := decide (js.getLast? = some j)
def framB (ops : Array Oper) (is js : List Nat) : Bool :=
  takesLB .any ops (lastB js) is (Array.replicate ops.size false) && seqLB .any ops js (setL is (Array.replicate ops.size false)) && decide (is.length + js.length = ops.size) && decide js.Nodup

theorem anyS_reads {late : Nat → Bool} {L : Act → Prop} {g : Nat} {w : World} (hQ : ∀ c a d v w, Q (.panic c) (Act.put a d v) w → Q (.panic c) a w) (hF : F w) : ∀ (is : List Nat) (listed : Array Bool) (a : Act),
    takesLB .any ops late is listed = true → YF P ops F L is a → (∀ a', L a' → AnyS P .any ops Q F late g (setL is listed) a' w) → AnyS P .any ops Q F late (is.length + g) listed a w
  | [], listed, a, _, h, hn => by
    rw [List.length_nil, Nat.zero_add]
    exact hn a h
  | i :: is, listed, a, hB, h, hn => by
    obtain ⟨oi, v, hi, hy, h'⟩ := h
    simp only [takesLB, Bool.and_eq_true] at hB
    rw [List.length_cons, show is.length + 1 + g = (is.length + g) + 1 from by omega]
    exact anyS_take hi hB.1 (fun c a w h => hQ c a _ _ w h) hy hF (anyS_reads hQ hF is _ _ hB.2 h' hn)
theorem anyS_rest {late : Nat → Bool} : ∀ (js : List Nat) (listed : Array Bool) (a : Act) (w : World), (∀ j, js.getLast? = some j → late j = true) →
    seqLB .any ops js listed = true → SF P ops Q F js a w → AnyS P .any ops Q F late js.length listed a w
  | [], listed, a, w, _, hB, h => anyS_done (by simpa [seqLB] using hB) h
  | j :: js, listed, a, w, hl, hB, h => by
    obtain ⟨o, ho, h⟩ := h
    simp only [seqLB, Bool.and_eq_true, decide_eq_true_eq] at hB
    rw [List.length_cons]
    refine anyS_one j hB.1 ho (fun K' hK' => h K' (fun a2 w2 hF hs => hK'.out a2 w2 (fun hlj => hF (fun e => ?_)) (fun _ => ?_)))
    · subst e
      rw [hl j rfl] at hlj
      cases hlj
    · refine anyS_rest js _ a2 w2 (fun i hi => hl i ?_) hB.2 hs
      cases js with
      | nil => cases hi
      | cons x xs => rw [List.getLast?_cons_cons]; exact hi

theorem wp_region_F {id : Nat} {a : Act} {w : World} (F : World → Prop) (is js : List Nat) (hm : P.follows .mixedOrders = true) (hB : framB ops is js = true)
    (hQ : ∀ c a d v w, Q (.panic c) (Act.put a d v) w → Q (.panic c) a w) (hF : F w.drew) (h : YF P ops F (fun a' => SF P ops Q F js a' w.drew) is a) : (Code.region id ops true).wp P Q a w := by
  simp only [framB, Bool.and_eq_true, decide_eq_true_eq] at hB
  obtain ⟨⟨⟨h1, h2⟩, h3⟩, _⟩ := hB
  refine regS_begin F (lastB js) hm hF (fun _ => ?_)
  have key := anyS_reads (late := lastB js) (g := js.length) hQ hF is _ a h1 h (fun a' ha' => anyS_rest js _ a' _ (fun j hj => by unfold lastB; simpa using hj) h2 ha')
  rw [h3] at key
  exact key

/-- The steps' goals, shut in. -/
structure Yg (p : Prop) : Prop where
  out : p
theorem yg_begin {id : Nat} {a : Act} {w : World} (F : World → Prop) (is js : List Nat) (hm : P.follows .mixedOrders = true) (hB : framB ops is js = true)
    (hQ : ∀ c a d v w, Q (.panic c) (Act.put a d v) w → Q (.panic c) a w) (hF : F w.drew) (h : Yg (YF P ops F (fun a' => SF P ops Q F js a' w.drew) is a)) : (Code.region id ops true).wp P Q a w := wp_region_F F is js hm hB hQ hF h.out
theorem yg_read {L : Act → Prop} {i : Nat} {is : List Nat} {a : Act} (oi : Oper) (v : Value) (hi : ops[i]? = some oi) (hw : Region.wanted oi (yielded ops a.tmps) = true) (hv : ∀ w, F w → (execOp a.eval oi).run P w = .ok (.value v) w) (h : Yg (YF P ops F L is (a.put oi.dst v))) : Yg (YF P ops F L (i :: is) a) :=
  ⟨oi, v, hi, .inl ⟨hw, hv⟩, h.out⟩
theorem yg_end {a : Act} {L : Act → Prop} (h : L a) : Yg (YF P ops F L [] a) := ⟨h⟩
theorem sf_step {j : Nat} {js : List Nat} {a : Act} {w : World} (o : Oper) (ho : ops[j]? = some o) (h : ∀ K : Act → World → Prop, Yg (∀ a w', (js ≠ [] → F w') → SF P ops Q F js a w' → K a w') →
      if Region.wanted o (yielded ops a.tmps) = true then Oper.wp P o a w K Q else K (a.put o.dst undef) w) : SF P ops Q F (j :: js) a w :=
  ⟨o, ho, fun K hK => h K ⟨hK⟩⟩
theorem sf_end {a : Act} {w : World} (h : Q .normal a w) : SF P ops Q F [] a w := h
end
end Go.Proofs.Ytmmkncocgjgapaa
