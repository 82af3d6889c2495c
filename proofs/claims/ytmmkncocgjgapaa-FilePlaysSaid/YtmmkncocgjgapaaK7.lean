/- Texts of mine, packed: Reg, FlFlush, FlPut, FlPut2, FlR, FlR2, FlGrant. -/
import Derived.Test.YtmmkncocgjgapaaK6
import Derived.WalkKit
import Derived.Deep.RegionHeld3
import Derived.StillTailTactics
set_option linter.unusedVariables false

/- Regions that draw their order: an operation that reads may be taken first if what can come ahead of it keeps what it reads; what comes behind it need not. No condition. -/
namespace Go.Proofs.Ytmmkncocgjgapaa
open Go.RowKit

section
variable {P : Program} {ops : Array Oper} {Q : Exit → Act → World → Prop} {md : Region.Mode} {F : World → Prop} {late : Nat → Bool}

/-- Whatever order is picked from here on; F holds behind every operation that is not late. -/
def AnyS (P : Program) (md : Region.Mode) (ops : Array Oper) (Q : Exit → Act → World → Prop) (F : World → Prop) (late : Nat → Bool) : Nat → Array Bool → Act → World → Prop
  | 0, listed, a, w => Region.ready md ops listed = [] ∧ Q .normal a w
  | f + 1, listed, a, w => (Region.ready md ops listed = [] → Q .normal a w) ∧
      ∀ i ∈ Region.ready md ops listed, wpOp P ops Q i (fun a' w' => (late i = false → F w') ∧ AnyS P md ops Q F late f (listed.setIfInBounds i true) a' w') a w

theorem any_of_S : ∀ (f : Nat) (listed : Array Bool) (a : Act) (w : World), AnyS P md ops Q F late f listed a w → wpAny P md ops Q f listed a w
  | 0, _, _, _, h => h
  | f + 1, _, _, _, h => ⟨h.1, fun i hi => wpOp_mono (fun a' w' h' => any_of_S f _ a' w' h'.2) (h.2 i hi)⟩

/-- All that can come up without operation i. -/
def withoutIt (md : Region.Mode) (ops : Array Oper) (i : Nat) (listed : Array Bool) : Array Bool :=
  (List.range ops.size).foldl (fun C j => if j != i && ((ops[j]?).map (·.after.all fun e => !Region.binds md e || C.getD e.on false)).getD false then C.setIfInBounds j true else C) listed
/-- C is closed, but for i, and holds no late one. -/
def closedB (md : Region.Mode) (ops : Array Oper) (late : Nat → Bool) (listed : Array Bool) (i : Nat) (C : Array Bool) : Bool :=
  ((List.range listed.size).all fun j => !listed.getD j false || C.getD j false) &&
  ((List.range ops.size).all fun j => j == i || C.getD j false || ((ops[j]?).map (·.after.any fun e => Region.binds md e && !C.getD e.on false)).getD true) &&
  ((List.range C.size).all fun j => !C.getD j false || listed.getD j false || !late j)
def takeB (md : Region.Mode) (ops : Array Oper) (late : Nat → Bool) (listed : Array Bool) (i : Nat) : Bool :=
  Region.noSelect ops && Region.free md ops listed i && (Region.ready md ops listed).contains i && closedB md ops late listed i (withoutIt md ops i listed)

theorem getD_lt {A : Array Bool} {j : Nat} (h : A.getD j false = true) : j < A.size := by
  rcases Nat.lt_or_ge j A.size with h' | h'
  · exact h'
  · simp [Array.getElem?_eq_none h'] at h
theorem closed_spec {listed C : Array Bool} {i : Nat} (h : closedB md ops late listed i C = true) :
    (∀ j, listed.getD j false = true → C.getD j false = true) ∧
    (∀ j oj, ops[j]? = some oj → j ≠ i → C.getD j false = false → ∃ e ∈ oj.after, Region.binds md e = true ∧ C.getD e.on false = false) ∧
    (∀ j, C.getD j false = true → listed.getD j false = false → late j = false) := by
  unfold closedB at h
  simp only [Bool.and_eq_true, List.all_eq_true, List.mem_range] at h
  obtain ⟨⟨h1, h2⟩, h3⟩ := h
  refine ⟨fun j hj => ?_, fun j oj hj hne hC => ?_, fun j hj hl => ?_⟩
  · have := h1 j (getD_lt hj)
    rw [hj] at this
    simpa using this
  · have := h2 j (Array.getElem?_eq_some_iff.1 hj).1
    rw [hj, hC] at this
    have hb : (j == i) = false := by simpa using hne
    rw [hb] at this
    simp only [Bool.or_false, Bool.false_or, Option.map_some, Option.getD_some, Array.any_eq_true', Bool.and_eq_true, Bool.not_eq_true'] at this
    obtain ⟨e, he, hb, hc⟩ := this
    exact ⟨e, he, hb, hc⟩
  · have := h3 j (getD_lt hj)
    rw [hj, hl] at this
    simpa using this

theorem anyS_first {i : Nat} {oi : Oper} {v : Value} (C : Array Bool) (hi : ops[i]? = some oi) (hsel : ∀ (j : Nat) (o : Oper) cs b, ops[j]? = some o → o.op ≠ .select cs b)
    (hQ : ∀ c a w, Q (.panic c) (a.put oi.dst v) w → Q (.panic c) a w)
    (hC : ∀ j oj, ops[j]? = some oj → j ≠ i → C.getD j false = false → ∃ e ∈ oj.after, Region.binds md e = true ∧ C.getD e.on false = false) :
    ∀ (f : Nat) (listed : Array Bool) (a : Act) (w : World),
      (∀ j, listed.getD j false = true → C.getD j false = true) → (∀ j, C.getD j false = true → listed.getD j false = false → late j = false) →
      (∀ j oj, ops[j]? = some oj → j ≠ i → listed.getD j true = false → (∀ e ∈ oj.after, Region.binds md e = true → e.on ≠ i) → oi.apart ops oj = true) →
      i ∈ Region.ready md ops listed → YieldsIf P ops F oi v a → F w →
      AnyS P md ops Q F late f (listed.setIfInBounds i true) (a.put oi.dst v) w → AnyS P md ops Q F late (f + 1) listed a w := by
  intro f
  induction f with
  | zero =>
    intro listed a w hsub hlate _ hr hy hF H
    refine ⟨fun h => (by rw [h] at hr; cases hr), fun j hj => ?_⟩
    by_cases hji : j = i
    · subst hji; exact hy.wpOp hi hF ⟨fun _ => hF, H⟩
    · have := ready_mono hj hji
      rw [H.1] at this
      cases this
  | succ f ih =>
    intro listed a w hsub hlate hfree hr hy hF H
    refine ⟨fun h => (by rw [h] at hr; cases hr), fun j hj => ?_⟩
    by_cases hji : j = i
    · subst hji; exact hy.wpOp hi hF ⟨fun _ => hF, H⟩
    · have h1 := H.2 j (ready_mono hj hji)
      obtain ⟨hjun, oj, hoj, hall⟩ := mem_ready.1 hj
      have hjC : C.getD j false = true := by
        cases hc : C.getD j false with
        | true => rfl
        | false =>
          obtain ⟨e, he, hb, hn⟩ := hC j oj hoj hji hc
          rw [hsub _ (hall e he hb)] at hn
          cases hn
      have hjl : late j = false := hlate j hjC (getD_both hjun)
      have hnot : ∀ e ∈ oj.after, Region.binds md e = true → e.on ≠ i := fun e he hb heq => by
        have h1 := hall e he hb
        have h0 := (mem_ready.1 hr).1
        rw [heq] at h1
        rw [getD_both h0] at h1
        cases h1
      have h2 := wpOp_putIf hoj (hfree j oj hoj hji hjun hnot) (fun cs b => hsel i oi cs b hi) (fun cs b => hsel j oj cs b hoj) hQ hy h1
      have hfree' : ∀ k ok, ops[k]? = some ok → k ≠ i → (listed.setIfInBounds j true).getD k true = false →
          (∀ e ∈ ok.after, Region.binds md e = true → e.on ≠ i) → oi.apart ops ok = true := fun k ok hk hki hun hno => by
        refine hfree k ok hk hki ?_ hno
        by_cases hjk : j = k
        · subst hjk; exact hjun
        · rw [getD_set_ne true hjk] at hun; exact hun
      have hsub' : ∀ k, (listed.setIfInBounds j true).getD k false = true → C.getD k false = true := fun k hk => by
        by_cases hjk : j = k
        · subst hjk; exact hjC
        · rw [getD_set_ne false hjk] at hk; exact hsub k hk
      have hlate' : ∀ k, C.getD k false = true → (listed.setIfInBounds j true).getD k false = false → late k = false := fun k hk hn => by
        refine hlate k hk ?_
        cases hl : listed.getD k false with
        | false => rfl
        | true => rw [getD_set_true hl] at hn; cases hn
      refine wpOp_mono (fun a' w' h3 => ⟨fun _ => h3.2.1 hjl, ih (listed.setIfInBounds j true) a' w' hsub' hlate' hfree' (ready_mono hr (Ne.symm hji)) h3.1 (h3.2.1 hjl) ?_⟩) h2
      rw [Array.setIfInBounds_comm _ _ hji]
      exact h3.2.2

theorem anyS_take {i : Nat} {oi : Oper} {v : Value} {f : Nat} {listed : Array Bool} {a : Act} {w : World} (hi : ops[i]? = some oi) (ht : takeB md ops late listed i = true)
    (hQ : ∀ c a w, Q (.panic c) (a.put oi.dst v) w → Q (.panic c) a w) (hy : YieldsIf P ops F oi v a) (hF : F w)
    (h : AnyS P md ops Q F late f (listed.setIfInBounds i true) (a.put oi.dst v) w) : AnyS P md ops Q F late (f + 1) listed a w := by
  unfold takeB at ht
  simp only [Bool.and_eq_true] at ht
  obtain ⟨⟨⟨h1, h2⟩, h3⟩, h4⟩ := ht
  obtain ⟨c1, c2, c3⟩ := closed_spec h4
  exact anyS_first _ hi (Region.noSelect_spec h1) hQ c2 f listed a w c1 c3 (Region.free_spec hi h2) (by simpa using h3) hy hF h

theorem regS_begin {id : Nat} {a : Act} {w : World} (F : World → Prop) (late : Nat → Bool) (hm : P.follows .mixedOrders = true) (hF : F w.drew)
    (h : F w.drew → AnyS P .any ops Q F late ops.size (Array.replicate ops.size false) a w.drew) : (Code.region id ops true).wp P Q a w :=
  wp_region_any hm (any_of_S _ _ _ _ (h hF))

/-- One alone may come up: it is carried out. -/
theorem anyS_one (j : Nat) {oj : Oper} {f : Nat} {listed : Array Bool} {a : Act} {w : World} (hr : Region.ready md ops listed = [j]) (hj : ops[j]? = some oj)
    (h : ∀ K' : Act → World → Prop, Shut (∀ a w, (late j = false → F w) → ((late j = false → F w) → AnyS P md ops Q F late f (listed.setIfInBounds j true) a w) → K' a w) →
      if Region.wanted oj (yielded ops a.tmps) = true then Oper.wp P oj a w K' Q else K' (a.put oj.dst undef) w) : AnyS P md ops Q F late (f + 1) listed a w := by
  refine ⟨fun h0 => (by rw [hr] at h0; cases h0), fun i hi => ?_⟩
  rw [hr] at hi
  obtain rfl := List.mem_singleton.1 hi
  exact wpOp_step hj (fun K' hK => h K' (fun a w h1 h2 => hK a w ⟨h1, h2 h1⟩))

/-- What is left comes up in its order, all of it late. -/
theorem anyS_seq : ∀ (l : List Oper) (k : Nat) (listed : Array Bool) (a : Act) (w : World), (∀ j, l[j]? = ops[k + j]?) → (∀ j, k ≤ j → late j = true) →
    Region.seqB md ops l.length k listed = true → wpList P ops Q l a w → AnyS P md ops Q F late l.length listed a w
  | [], _, _, _, _, _, _, hB, h => ⟨by simpa [Region.seqB] using hB, h⟩
  | o :: l, k, listed, a, w, hl, hk, hB, h => by
    have h0 : ops[k]? = some o := by simpa using (hl 0).symm
    simp only [List.length_cons, Region.seqB, Bool.and_eq_true, decide_eq_true_eq] at hB
    refine ⟨fun h1 => (by rw [hB.1] at h1; cases h1), fun i hi => ?_⟩
    rw [hB.1] at hi
    have hik : i = k := by simpa using hi
    subst hik
    have hw : wpOp P ops Q i (wpList P ops Q l) a w := by unfold wpOp; simp only [h0]; exact h
    exact wpOp_mono (fun a' w' h' => ⟨fun h => (by rw [hk i (Nat.le_refl _)] at h; cases h), anyS_seq l (i + 1) _ a' w' (fun j => by have := hl (j + 1); simpa [Nat.add_assoc, Nat.add_comm 1 j] using this) (fun j hj => hk j (by omega)) hB.2 h'⟩) hw

theorem anyS_done {f : Nat} {listed : Array Bool} {a : Act} {w : World} (hr : Region.ready md ops listed = []) (h : Q .normal a w) : AnyS P md ops Q F late f listed a w := by
  cases f with
  | zero => exact ⟨hr, h⟩
  | succ f => exact ⟨fun _ => h, by rw [hr]; simp⟩
/-- What is left is late: then another F and another reckoning of lateness will do. -/
theorem anyS_switch {F' : World → Prop} {late' : Nat → Bool} : ∀ (f : Nat) (listed : Array Bool) (a : Act) (w : World), (∀ i, listed.getD i true = false → late i = true) → AnyS P md ops Q F' late' f listed a w → AnyS P md ops Q F late f listed a w
  | 0, _, _, _, _, h => h
  | f + 1, listed, a, w, hl, h => ⟨h.1, fun i hi => by
      have hi0 := (mem_ready.1 hi).1
      refine wpOp_mono (fun a' w' h' => ⟨fun h0 => (by rw [hl i hi0] at h0; cases h0), anyS_switch f _ a' w' (fun j hj => hl j ?_) h'.2⟩) (h.2 i hi)
      by_cases hij : i = j
      · subst hij; exact hi0
      · rwa [getD_set_ne true hij] at hj⟩

/-- The operations from k on, so many, may be taken one behind the other. -/
def takesB (md : Region.Mode) (ops : Array Oper) (late : Nat → Bool) : Nat → Nat → Array Bool → Bool
  | 0, _, _ => true
  | f + 1, k, listed => takeB md ops late listed k && takesB md ops late f (k + 1) (listed.setIfInBounds k true)
def setAll : Nat → Nat → Array Bool → Array Bool
  | 0, _, listed => listed
  | f + 1, k, listed => setAll f (k + 1) (listed.setIfInBounds k true)

/-- What an operation does to a frame in which another one's place is already filled, it does to the frame without. Y: what is known of the frame. -/
theorem wpOp_ahead {j : Nat} {d : Option Tmp} {oj : Oper} {v : Value} {Y : Act → Prop} (hj : ops[j]? = some oj) (h1 : ∀ e, d = some e → e ∉ oj.looksAt ops) (h2 : ∀ e, d = some e → oj.dst ≠ some e)
    (hsj : ∀ cs b, oj.op ≠ .select cs b) (hY : ∀ a u, Y a → Y (a.put oj.dst u)) (hD : ∀ (a : Act) x, Y a → Y { a with defers := x :: a.defers })
    (hQ : ∀ c a w, Q (.panic c) (Act.put a d v) w → Q (.panic c) a w) {K : Act → World → Prop} {a : Act} {w : World} (hy : Y a) (h : wpOp P ops Q j K (a.put d v) w) :
    wpOp P ops Q j (fun a' w' => Y a' ∧ K (a'.put d v) w') a w := by
  unfold wpOp at *
  simp only [hj] at *
  rw [wanted_put oj a d v h1] at h
  by_cases hw : Region.wanted oj (yielded ops a.tmps) = true
  · rw [if_pos hw] at h ⊢
    have hx := execOp_put oj hsj a d v h1
    rcases h with h | ⟨ha, hl⟩
    · left
      unfold Oper.wp at *
      rw [hx] at h
      generalize (execOp a.eval oj).run P w = r at *
      match r with
      | .ok (.value u) w' =>
        simp only [Oper.upon] at h ⊢
        exact ⟨hY a u hy, (Act.put_comm a v u h2) ▸ h⟩
      | .ok .skip w' =>
        simp only [Oper.upon] at h ⊢
        exact ⟨hY a undef hy, (Act.put_comm a v undef h2) ▸ h⟩
      | .ok (.defer x) w' =>
        simp only [Oper.upon] at h ⊢
        refine ⟨hY _ _ (hD a x hy), ?_⟩
        rw [← Act.put_comm _ v undef h2, ← Act.put_defers]
        exact h
      | .ok (.enter f args) w' =>
        simp only [Oper.upon] at h ⊢
        refine h.mono fun e w2 he => ?_
        match e, he with
        | .returned u, he => exact ⟨hY a u hy, (Act.put_comm a v u h2) ▸ he⟩
        | .panicked c, he => exact hQ _ _ _ he
        | .outgrown, he => exact he
      | .ok (.row row args) w' =>
        simp only [Oper.upon] at h ⊢
        exact Rows.mono h fun u w2 he => ⟨hY a u hy, (Act.put_comm a v u h2) ▸ he⟩
      | .halt (.panic u) w' =>
        simp only [Oper.upon] at h ⊢
        exact hQ _ _ _ h
    · right
      refine ⟨?_, hl⟩
      unfold Oper.asks at *
      rw [hx] at ha
      exact ha
  · rw [if_neg hw] at h ⊢
    exact ⟨hY a undef hy, (Act.put_comm a v undef h2) ▸ h⟩

theorem anyS_takeAt {w0 : World} {i : Nat} {oi : Oper} {v : Value} (C : Array Bool) (hi : ops[i]? = some oi) (hsel : ∀ (j : Nat) (o : Oper) cs b, ops[j]? = some o → o.op ≠ .select cs b)
    (hQ : ∀ c a w, Q (.panic c) (Act.put a oi.dst v) w → Q (.panic c) a w)
    (hC : ∀ j oj, ops[j]? = some oj → j ≠ i → C.getD j false = false → ∃ e ∈ oj.after, Region.binds md e = true ∧ C.getD e.on false = false) :
    ∀ (f : Nat) (listed : Array Bool) (a : Act),
      (∀ j, listed.getD j false = true → C.getD j false = true) → (∀ j, C.getD j false = true → listed.getD j false = false → late j = false) →
      (∀ j oj, ops[j]? = some oj → j ≠ i → listed.getD j true = false → (∀ e ∈ oj.after, Region.binds md e = true → e.on ≠ i) → oi.apart ops oj = true) →
      i ∈ Region.ready md ops listed → YieldsAt P ops w0 oi v a →
      AnyS P md ops Q (fun w' => w' = w0) late f (listed.setIfInBounds i true) (a.put oi.dst v) w0 → AnyS P md ops Q (fun w' => w' = w0) late (f + 1) listed a w0 := by
  intro f
  induction f with
  | zero =>
    intro listed a hsub hlate _ hr hy H
    refine ⟨fun h => (by rw [h] at hr; cases hr), fun j hj => ?_⟩
    by_cases hji : j = i
    · subst hji
      exact wpOp_of_stOp (K := fun a' => AnyS P md ops Q (fun w' => w' = w0) late 0 (listed.setIfInBounds j true) a' w0) (fun a' h' => ⟨fun _ => rfl, h'⟩) (hy.stOp hi H)
    · have := ready_mono hj hji
      rw [H.1] at this
      cases this
  | succ f ih =>
    intro listed a hsub hlate hfree hr hy H
    refine ⟨fun h => (by rw [h] at hr; cases hr), fun j hj => ?_⟩
    by_cases hji : j = i
    · subst hji
      exact wpOp_of_stOp (K := fun a' => AnyS P md ops Q (fun w' => w' = w0) late (f + 1) (listed.setIfInBounds j true) a' w0) (fun a' h' => ⟨fun _ => rfl, h'⟩) (hy.stOp hi H)
    · have h1 := H.2 j (ready_mono hj hji)
      obtain ⟨hjun, oj, hoj, hall⟩ := mem_ready.1 hj
      have hjC : C.getD j false = true := by
        cases hc : C.getD j false with
        | true => rfl
        | false =>
          obtain ⟨e, he, hb, hn⟩ := hC j oj hoj hji hc
          rw [hsub _ (hall e he hb)] at hn
          cases hn
      have hjl : late j = false := hlate j hjC (getD_both hjun)
      have hnot : ∀ e ∈ oj.after, Region.binds md e = true → e.on ≠ i := fun e he hb heq => by
        have h1 := hall e he hb
        have h0 := (mem_ready.1 hr).1
        rw [heq] at h1
        rw [getD_both h0] at h1
        cases h1
      obtain ⟨p1, p2, p3⟩ := Oper.apart_spec (hfree j oj hoj hji hjun hnot)
      have h2 := wpOp_ahead (Y := fun a => YieldsAt P ops w0 oi v a) hoj p1 p2 (fun cs b => hsel j oj cs b hoj)
        (fun a u hy => hy.of_same (execOp_put oi (fun cs b => hsel i oi cs b hi) a oj.dst u p3) (wanted_put oi a oj.dst u p3)) (fun a x hy => hy.of_same rfl rfl) hQ hy h1
      have hfree' : ∀ k ok, ops[k]? = some ok → k ≠ i → (listed.setIfInBounds j true).getD k true = false →
          (∀ e ∈ ok.after, Region.binds md e = true → e.on ≠ i) → oi.apart ops ok = true := fun k ok hk hki hun hno => by
        refine hfree k ok hk hki ?_ hno
        by_cases hjk : j = k
        · subst hjk; exact hjun
        · rw [getD_set_ne true hjk] at hun; exact hun
      have hsub' : ∀ k, (listed.setIfInBounds j true).getD k false = true → C.getD k false = true := fun k hk => by
        by_cases hjk : j = k
        · subst hjk; exact hjC
        · rw [getD_set_ne false hjk] at hk; exact hsub k hk
      have hlate' : ∀ k, C.getD k false = true → (listed.setIfInBounds j true).getD k false = false → late k = false := fun k hk hn => by
        refine hlate k hk ?_
        cases hl : listed.getD k false with
        | false => rfl
        | true => rw [getD_set_true hl] at hn; cases hn
      refine wpOp_mono (fun a' w' h3 => ?_) h2
      have hw' : w' = w0 := h3.2.1 hjl
      subst hw'
      refine ⟨fun _ => rfl, ih (listed.setIfInBounds j true) a' hsub' hlate' hfree' (ready_mono hr (Ne.symm hji)) h3.1 ?_⟩
      rw [Array.setIfInBounds_comm _ _ hji]
      exact h3.2.2

theorem anyS_still {w : World} {Lq : Act → Prop} {g : Nat} (hQ : ∀ c a d v w, Q (.panic c) (Act.put a d v) w → Q (.panic c) a w) : ∀ (l : List Oper) (k : Nat) (listed : Array Bool) (a : Act), (∀ j, j < l.length → l[j]? = ops[k + j]?) →
    takesB md ops late l.length k listed = true → wpStill P ops w Lq l a → (∀ a', Lq a' → AnyS P md ops Q (fun w' => w' = w) late g (setAll l.length k listed) a' w) → AnyS P md ops Q (fun w' => w' = w) late (l.length + g) listed a w
  | [], k, listed, a, _, _, h, hn => by
    rw [List.length_nil, Nat.zero_add]
    exact hn a h
  | o :: l, k, listed, a, hl, hB, h, hn => by
    have h0 : ops[k]? = some o := by simpa using (hl 0 (by simp)).symm
    simp only [List.length_cons, takesB, Bool.and_eq_true] at hB
    have hst : stOp P ops w k (wpStill P ops w Lq l) a := by unfold stOp; simp only [h0]; exact h
    obtain ⟨v, hy, hK⟩ := yieldsAt_of_stOp h0 hst
    rw [List.length_cons, show l.length + 1 + g = (l.length + g) + 1 from by omega]
    have ht := hB.1
    unfold takeB at ht
    simp only [Bool.and_eq_true] at ht
    obtain ⟨⟨⟨t1, t2⟩, t3⟩, t4⟩ := ht
    obtain ⟨c1, c2, c3⟩ := closed_spec t4
    refine anyS_takeAt _ h0 (Region.noSelect_spec t1) (fun c a w h => hQ c a _ _ w h) c2 _ listed a c1 c3 (Region.free_spec h0 t2) (by simpa using t3) hy ?_
    exact anyS_still hQ l (k + 1) _ _ (fun j hj => by have := hl (j + 1) (by simp; omega); simpa [Nat.add_assoc, Nat.add_comm 1 j] using this) hB.2 hK (by simpa [setAll] using hn)

theorem wpStill_mono {w : World} {L L' : Act → Prop} (hL : ∀ a, L a → L' a) : ∀ {l : List Oper} {a : Act}, wpStill P ops w L l a → wpStill P ops w L' l a := by
  intro l
  induction l with
  | nil => intro a h; exact hL a h
  | cons o l ih =>
    intro a h
    unfold wpStill at h ⊢
    split at h
    · rename_i hw
      rw [if_pos hw]
      exact Oper.still_mono (fun a h => ih h) h
    · rename_i hw
      rw [if_neg hw]
      exact ih h

/-- n operations that read, one that does what it does, and others that read. -/
def stillOneB (ops : Array Oper) (n : Nat) : Bool :=
  let L := setAll n 0 (Array.replicate ops.size false)
  takesB .any ops (fun i => decide (n ≤ i)) n 0 (Array.replicate ops.size false) && decide (Region.ready .any ops L = [n]) && ((List.range ops.size).all fun i => L.getD i true || decide (n ≤ i)) && decide (L.size = ops.size) &&
    takesB .any ops (fun _ => false) (ops.size - (n + 1)) (n + 1) (L.setIfInBounds n true) && (Region.ready .any ops (setAll (ops.size - (n + 1)) (n + 1) (L.setIfInBounds n true))).isEmpty

theorem wp_region_still_one {id : Nat} {a : Act} {w : World} {l : List Oper} (n : Nat) {o : Oper} (hm : P.follows .mixedOrders = true) (ho : l[n]? = some o) (hB : stillOneB l.toArray n = true)
    (hQ : ∀ c a d v w, Q (.panic c) (Act.put a d v) w → Q (.panic c) a w)
    (h : wpStill P l.toArray w.drew (fun a' => ∀ K : Act → World → Prop, Shut (∀ a w', wpStill P l.toArray w' (fun a3 => Q .normal a3 w') (l.drop (n + 1)) a → K a w') →
      if Region.wanted o (yielded l.toArray a'.tmps) = true then Oper.wp P o a' w.drew K Q else K (a'.put o.dst undef) w.drew) (l.take n) a) : (Code.region id l.toArray true).wp P Q a w := by
  have hn : n < l.length := (List.getElem?_eq_some_iff.1 ho).1
  have htl : (l.take n).length = n := by simp; omega
  have hdl : (l.drop (n + 1)).length = l.toArray.size - (n + 1) := by simp
  simp only [stillOneB, Bool.and_eq_true, decide_eq_true_eq] at hB
  obtain ⟨⟨⟨⟨⟨h1, h2⟩, h3⟩, h4⟩, h5⟩, h6⟩ := hB
  refine regS_begin (fun w' => w' = w.drew) (fun i => decide (n ≤ i)) hm rfl (fun _ => ?_)
  have hsz : l.toArray.size = (l.take n).length + (l.toArray.size - n) := by rw [htl]; simp; omega
  have key : AnyS P .any l.toArray Q (fun w' => w' = w.drew) (fun i => decide (n ≤ i)) ((l.take n).length + (l.toArray.size - n)) (Array.replicate l.toArray.size false) a w.drew := by
    refine anyS_still hQ (l.take n) 0 _ a (fun j hj => by rw [htl] at hj; simp [hj]) (by rw [htl]; exact h1) h (fun a' ha' => ?_)
    rw [htl]
    rw [show l.toArray.size - n = (l.toArray.size - (n + 1)) + 1 from by simp; omega]
    refine anyS_one n h2 (by simpa using ho) (fun K' hK' => ?_)
    refine ha' K' (fun a2 w2 hs => hK'.out a2 w2 (fun h0 => by simp at h0) (fun _ => ?_))
    refine anyS_switch (F' := fun w' => w' = w2) (late' := fun _ => false) _ _ _ _ (fun i hi => ?_) ?_
    · by_cases hin : n = i
      · simp [hin]
      · rw [getD_set_ne true hin] at hi
        rcases Nat.lt_or_ge i l.toArray.size with hlt | hge
        · have := List.all_eq_true.1 h3 i (List.mem_range.2 hlt)
          rw [hi] at this
          simpa using this
        · have : n ≤ i := by have : l.toArray.size = l.length := by simp
                             omega
          simpa using this
    · have := anyS_still (P := P) (md := .any) (ops := l.toArray) (late := fun _ => false) (g := 0) (Lq := fun a3 => Q .normal a3 w2) (w := w2) hQ (l.drop (n + 1)) (n + 1) _ a2 (fun j hj => by simp) (by rw [hdl]; exact h5) hs (fun a3 h3' => ?_)
      · rw [hdl, Nat.add_zero] at this
        exact this
      · rw [hdl]
        exact anyS_done (by simpa using h6) h3'
  rw [← hsz] at key
  exact key
end

/-- A step's goal, shut in, so that nothing reckons it out by itself. -/
structure Sg (p : Prop) : Prop where
  out : p
section
variable {P : Program} {ops : Array Oper} {w : World}
theorem sg_nil {Q : Act → Prop} {a : Act} (h : Q a) : Sg (wpStill P ops w Q [] a) := ⟨h⟩
theorem sg_step {Q : Act → Prop} {a : Act} {o : Oper} {rest : List Oper}
    (h : ∀ K : Act → Prop, Sg (∀ a, Sg (wpStill P ops w Q rest a) → K a) → if Region.wanted o (yielded ops a.tmps) then o.still P a w K else K (a.put o.dst undef)) : Sg (wpStill P ops w Q (o :: rest) a) :=
  ⟨h _ ⟨fun _ h => h.out⟩⟩
theorem wp_reads {id : Nat} {Q : Exit → Act → World → Prop} {a : Act} {l : List Oper} (hm : P.follows .mixedOrders = true) (hB : Region.lexB .any l.toArray = true)
    (h : Sg (wpStill P l.toArray w.drew (fun a' => Q .normal a' w.drew) l a)) : (Code.region id l.toArray true).wp P Q a w :=
  wp_region_still_lit hm hB h.out
theorem wp_reads_one {id : Nat} {Q : Exit → Act → World → Prop} {a : Act} {l : List Oper} (n : Nat) {o : Oper} (hm : P.follows .mixedOrders = true) (ho : l[n]? = some o) (hB : stillOneB l.toArray n = true)
    (hQ : ∀ c a d v w, Q (.panic c) (Act.put a d v) w → Q (.panic c) a w)
    (h : Sg (wpStill P l.toArray w.drew (fun a' => ∀ K : Act → World → Prop, Sg (∀ a w', Sg (wpStill P l.toArray w' (fun a3 => Q .normal a3 w') (l.drop (n + 1)) a) → K a w') →
      if Region.wanted o (yielded l.toArray a'.tmps) = true then Oper.wp P o a' w.drew K Q else K (a'.put o.dst undef) w.drew) (l.take n) a)) : (Code.region id l.toArray true).wp P Q a w :=
  wp_region_still_one n hm ho hB hQ (wpStill_mono (fun _ h' K hK => h' K ⟨fun a w' hs => hK.out a w' hs.out⟩) h.out)
end

/-- A callee that leaves the world alone, as a region that reads wants it. -/
theorem Calls.still {P : Program} {f : FuncId} {args : Array Value} {w : World} {v : Value} (h : Calls P f args w fun e w' => e = .returned v ∧ w = w') : Calls P f args w fun e w' => e = .returned v ∧ w' = w :=
  h.mono fun _ _ ⟨he, hw⟩ => ⟨he, hw.symm⟩

end Go.Proofs.Ytmmkncocgjgapaa

/- The walk of flush. -/
namespace Go.Proofs.Ytmmkncocgjgapaa.Fl
open Go.RowKit

/-- A sealed block of tuples, as it is written. -/
def sealed (p : List (BitVec 64)) (size width at_ : Nat) : List Value := Crc.words (Crc.sealW p size (BitVec.ofNat 64 width) (BitVec.ofNat 64 at_))
theorem sealed_length {p : List (BitVec 64)} {size width at_ : Nat} (h : p.length + 2 ≤ size) : (sealed p size width at_).length = size := by
  unfold sealed
  rw [Crc.words_length, Crc.sealW_length h]

section
variable {w w' : World} {O : Nat → Prop} {K : Key} {W : Wk} {x : Nat} {X : Wr} {E : Nat → Prop}

def Wr.wrote (X : Wr) (W : Wk) : Int × Dev.Dv := W.D.wr (((X.first + X.at_ : Nat)) : Int) (sealed (X.ws.take X.n) W.D.size X.width (X.first + X.at_))
def FlushOk (w : World) (O : Nat → Prop) (K : Key) (W : Wk) (x : Nat) (X : Wr) (e : Ending) (w' : World) : Prop :=
  e = .returned (.int .i64 0) ∧ WkI w' O K { W with D := (X.wrote W).2 } ∧ Blk w' x 117 (wcells K { X with n := 0, at_ := X.at_ + 1 }) ∧ Turn K (fun k => k = x) w w'
def FlushErr (w : World) (O : Nat → Prop) (K : Key) (W : Wk) (x : Nat) (X : Wr) (e : Ending) (w' : World) : Prop :=
  ∃ L', e = .returned (.int .i64 (X.wrote W).1) ∧ GaveRel W.L W.B X.first X.blocks L' ∧ WkI w' O K { W with D := (X.wrote W).2, A := W.A.release X.buf W.D.size, L := L' } ∧ Blk w' x 117 (wcells K { X with closed := true }) ∧ Turn K (Own x X) w w'

def FlushTold (w : World) (O : Nat → Prop) (K : Key) (W : Wk) (x : Nat) (X : Wr) (e : Ending) (w' : World) : Prop :=
  ((X.wrote W).1 = 0 ∧ FlushOk w O K W x X e w') ∨ ((X.wrote W).1 ≠ 0 ∧ FlushErr w O K W x X e w')
theorem wcells_flush (K : Key) (X : Wr) : ((wcells K X).setIfInBounds 7 (.int .i64 0)).setIfInBounds 8 (.int .i64 ((X.at_ : Int) + 1)) = wcells K { X with n := 0, at_ := X.at_ + 1 } := by
  simp [wcells]

/-- Put of a buffer's first words. -/
theorem put_w {b arr n : Nat} {ws : List (BitVec 64)} (hI : WkI w O K W) (hB : BufAt w O W b arr ws) (hn : n + 2 ≤ W.D.size) (width at_ : Nat) (hw : width ≤ 5) (ha : at_ < 4611686018427387904) :
    Calls Try.prog 60 #[.int .i64 (W.D.size : Int), .int .i64 (at_ : Int), .int .u64 (width : Int), .slice (some ⟨arr, 0, none⟩) n W.D.size] w fun e w' =>
      e = .returned (.tuple #[.slice (some ⟨w.heap.size, 0, none⟩) W.D.size W.D.size, .int .i64 0]) ∧ Blk w' w.heap.size 23 (sealed (ws.take n) W.D.size width at_).toArray ∧ Below w.heap.size w w' := by
  obtain ⟨s8, s256⟩ := hI.size
  have hl : (ws.take n).length = n := by rw [List.length_take, hB.len]; omega
  have hr : Row w (some ⟨arr, 0, none⟩) (Crc.words (ws.take n)) := by
    have := (Row.of_blk hB.row).take n
    unfold Crc.words at this ⊢
    rw [← List.map_take] at this
    exact this
  have h := Crc.put_ok (ws.take n) W.D.size at_ (BitVec.ofNat 64 width) (some ⟨arr, 0, none⟩) W.D.size w hr s8 s256 (by omega) (by omega)
  rw [hl, Crc.I64_ofNat (by omega)] at h
  exact h

set_option maxRecDepth 100000 in
set_option maxHeartbeats 2000000 in
theorem flush_any (hI : WkI w O K W) (h : WrAt w O K W x X) (hc : X.closed = false) (hn : X.n + 2 ≤ W.D.size) (ha : X.at_ ≤ 100000000) (hac : W.D.acts + 1 < 1099511627776) (hO : ∀ g, w.heap.size ≤ g → O g) :
    Calls Try.prog 53 #[P x] w (FlushTold w O K W x X) := by
  obtain ⟨hw1, hw5⟩ := h.width
  obtain ⟨hl1, hl2⟩ := h.lies
  have hB := h.live hc
  obtain ⟨s8, s256⟩ := hI.size
  have e1 : IntKind.i64.wrap ((X.first : Int) + (X.at_ : Int)) = (X.first : Int) + (X.at_ : Int) := by rw [IntKind.wrap_i64]; omega
  have e2 : IntKind.u64.wrap (X.width : Int) = (X.width : Int) := Crc.u64_wrap_id (by omega) (by omega)
  have hPC := put_w hI.drew (W := W) (n := X.n) (ws := X.ws) (b := X.buf) (arr := X.arr) ⟨hB.blk, hB.row, hB.len, hB.out, hB.st⟩ hn X.width (X.first + X.at_) hw5 (by omega)
  rw [Int.natCast_add] at hPC
  have HP := Lib.hid hPC
  have HS := Lib.hid (dsize_any hI.drew)
  have x0 : w.drew.cell? ⟨x, 0, none⟩ = some (P K.wk) := h.blk.cell 0
  have x1 : w.drew.cell? ⟨x, 1, none⟩ = some (.int .i64 (X.first : Int)) := h.blk.cell 1
  have x3 : w.drew.cell? ⟨x, 3, none⟩ = some (.int .i64 (X.width : Int)) := h.blk.cell 3
  have x6 : w.drew.cell? ⟨x, 6, none⟩ = some (P X.buf) := h.blk.cell 6
  have x7 : w.drew.cell? ⟨x, 7, none⟩ = some (.int .i64 (X.n : Int)) := h.blk.cell 7
  have x8 : w.drew.cell? ⟨x, 8, none⟩ = some (.int .i64 (X.at_ : Int)) := h.blk.cell 8
  have k0 : w.drew.cell? ⟨K.wk, 0, none⟩ = some (P K.d) := hI.box.cell 0
  have b0 : w.drew.cell? ⟨X.buf, 0, none⟩ = some (.slice (some ⟨X.arr, 0, none⟩) W.D.size W.D.size) := hB.blk.cell 0
  have n1 : (X.n : Int) ≤ (W.D.size : Int) := by omega
  have n2 : (0 : Int) ≤ (X.n : Int) := by omega
  have HI := Lib.hid hI.drew
  have HX : Hid (WrAt w.drew O K W x X) := Lib.hid ⟨h.blk, fun hc => ⟨(h.live hc).blk, (h.live hc).row, (h.live hc).len, (h.live hc).out, (h.live hc).st⟩, h.width, h.bound, h.lies⟩
  have HN := Lib.hid hn
  have HC := Lib.hid hc
  have HT := Lib.hid ((Turn.refl K (fun k => k = x) w).drew)
  have HO : Hid (∀ g, w.drew.heap.size ≤ g → O g) := Lib.hid hO
  clear hI h hB hPC hn hc hO
  go_enter Try.func53, Try.ntmps53
  go_wp2_with fail
  refine wp_region_still_one 36 (by kernel_rfl) rfl (by kernel_rfl) (fun _ _ d _ _ h => by cases d <;> exact h) ?_
  simp only [List.take_succ_cons, List.take_zero, List.drop_succ_cons, List.drop_zero]
  generalize w.drew = w0 at *
  repeat still_step
  still_call (Calls.still HS.out)
  repeat still_step
  refine wpStill_nil (fun K hK => ?_)
  go_simp
  refine HP.out.mono ?_
  rintro e w1 ⟨rfl, hb1, hl1⟩
  refine hK.out _ _ ?_
  clear hK K
  repeat still_step
  refine wpStill_nil ?_
  have hI1 := HI.out.below hl1
  have hX1 : Blk w1 x 117 (wcells K X) := HX.out.blk.below hl1 HX.out.blk.lt
  have hB1 : BufAt w1 O W X.buf X.arr X.ws := (HX.out.live HC.out).stay (E := fun _ => False) HI.out (Turn.below hl1) (fun h => h) (fun h => h)
  have hln := sealed_length (width := X.width) (at_ := X.first + X.at_) (p := X.ws.take X.n) (size := W.D.size) (by rw [List.length_take]; have := HN.out; omega)
  have hKd : w0.heap.size ≠ K.d := by
    obtain ⟨pv, hd⟩ := HI.out.dev
    have := hd.box.lt
    omega
  have hz1 := hl1.size
  have hWC := write_w (i := ((X.first + X.at_ : Nat) : Int)) (l := some ⟨w0.heap.size, 0, none⟩) (n := W.D.size) (c := W.D.size) hI1.drew hln hac (Row.of_blk (hb1.drew)) (fun u hu => Crc.words_one _ u hu) (fun g hg => HO.out g (Nat.le_trans hz1 hg)) (by rintro y hy; injection hy with hy; subst hy; exact hKd) (by omega)
  have hwd : (W.D.wr ((X.first + X.at_ : Nat) : Int) (sealed (X.ws.take X.n) W.D.size X.width (X.first + X.at_))) = X.wrote W := rfl
  unfold WtTold at hWC
  rw [hwd, Int.natCast_add] at hWC
  have HWC := Lib.hid hWC
  have y0 : w1.drew.cell? ⟨x, 0, none⟩ = some (P K.wk) := hX1.cell 0
  have y1 : w1.drew.cell? ⟨x, 1, none⟩ = some (.int .i64 (X.first : Int)) := hX1.cell 1
  have y8 : w1.drew.cell? ⟨x, 8, none⟩ = some (.int .i64 (X.at_ : Int)) := hX1.cell 8
  have y0' : w1.drew.cell? ⟨K.wk, 0, none⟩ = some (P K.d) := hI1.box.cell 0
  have HI1 := Lib.hid hI1.drew
  have HX1 : Hid (Blk w1.drew x 117 (wcells K X)) := Lib.hid hX1
  have HT1 := Lib.hid (HT.out.trans (Turn.below hl1)).drew
  have HB1 : Hid (BufAt w1.drew O W X.buf X.arr X.ws) := Lib.hid ⟨hB1.blk, hB1.row, hB1.len, hB1.out, hB1.st⟩
  have HXF := Lib.hid HX.out.width
  have HXG := Lib.hid HX.out.bound
  have HXH := Lib.hid HX.out.lies
  clear hI1 hX1 hB1 hln hKd hz1 hWC hwd hb1 hl1 HP HS HT HI x0 x1 x3 x6 x7 x8 k0 b0
  go_wp2_with fail
  refine wp_region_still_one 18 (by kernel_rfl) rfl (by kernel_rfl) (fun _ _ d _ _ h => by cases d <;> exact h) ?_
  simp only [List.take_succ_cons, List.take_zero, List.drop_succ_cons, List.drop_zero]
  generalize w1.drew = w2 at *
  repeat still_step
  refine wpStill_nil (fun K hK => ?_)
  go_simp
  refine HWC.out.mono ?_
  rintro e w3 ⟨rfl, hI3, ht3⟩
  refine hK.out _ _ ?_
  clear hK K
  repeat still_step
  refine wpStill_nil ?_
  have hX3 := HI1.out.blk ht3 HX1.out (by decide) (by decide) (by decide) (by decide) (by decide) (fun h => h)
  have HT3 := Lib.hid (HT1.out.trans (ht3.mono (fun k h => h.elim)))
  by_cases hr : (X.wrote W).1 = 0
  · have hne : ((X.wrote W).1 != 0) = false := by simpa using hr
    obtain ⟨hI4, hX4, ht4⟩ := wr_store hI3 hX3 7 (.int .i64 0)
    obtain ⟨hI5, hX5, ht5⟩ := wr_store hI4 hX4 8 (.int .i64 ((X.at_ : Int) + 1))
    rw [wcells_flush] at hX5
    have z7 : w3.cell? ⟨x, 7, none⟩ = some (.int .i64 (X.n : Int)) := hX3.cell 7
    have z8 : (w3.setCell ⟨x, 7, none⟩ (.int .i64 0)).cell? ⟨x, 8, none⟩ = some (.int .i64 (X.at_ : Int)) := hX4.cell 8
    have f7 := hX3.frozen 7
    have f8 := hX4.frozen 8
    have HI5 := Lib.hid hI5
    have HX5 := Lib.hid hX5
    have HT5 := Lib.hid ((HT3.out.trans ht4).trans ht5)
    have HR := Lib.hid hr
    clear hI3 ht3 hX3 hI4 hX4 hI5 hX5 ht4 ht5 y0 y1 y8 y0' HWC HI1 HX1 HT1 HT3 hr
    go_wp2_with fail
    go_ret
    exact .inl ⟨HR.out, rfl, HI5.out, HX5.out, HT5.out⟩
  · have hne : ((X.wrote W).1 != 0) = true := by simpa using hr
    have hk := Dev.wr_kin W.D ((X.first + X.at_ : Nat) : Int) (sealed (X.ws.take X.n) W.D.size X.width (X.first + X.at_))
    have hks : (X.wrote W).2.size = W.D.size := hk.size
    have hW3 : WrAt w3 O K { W with D := (X.wrote W).2 } x X := by
      refine ⟨hX3, fun hc => ?_, HXF.out, HXG.out, HXH.out⟩
      exact (HB1.out).turn (E := fun _ => False) HI1.out ht3 (fun h => h) (fun h => h) (fun _ h => h) hks (fun _ h _ => h)
    have HD := Lib.hid (drop_live hI3 hW3 HC.out)
    have HR := Lib.hid hr
    have HKS := Lib.hid hks
    clear hI3 ht3 hX3 y0 y1 y8 y0' HWC HI1 HX1 HT1 hr hk hks hW3
    go_wp2_with fail
    refine HD.out.mono ?_
    rintro e w4 ⟨L', rfl, hg, hI4, hX4, ht4⟩
    have HI4 := Lib.hid hI4
    have HX4 := Lib.hid hX4
    have HT4 := Lib.hid ((HT3.out.mono (E' := Own x X) (fun k h => .inl h)).trans ht4)
    have HG := Lib.hid hg
    clear hI4 hX4 ht4 hg HD HT3
    go_wp2_with fail
    go_ret
    rw [HKS.out] at HI4
    exact .inr ⟨HR.out, L', rfl, HG.out, HI4.out, HX4.out, HT4.out⟩
end

end Go.Proofs.Ytmmkncocgjgapaa.Fl

/- The walk of Put. -/
namespace Go.Proofs.Ytmmkncocgjgapaa.Fl
open Go.RowKit

/-- Words laid over a buffer's from n on. -/
def over (ws : List (BitVec 64)) (n : Nat) (l : List (BitVec 64)) : List (BitVec 64) := ws.take n ++ (l ++ ws.drop (n + l.length))
theorem over_length {ws : List (BitVec 64)} {n : Nat} {l : List (BitVec 64)} (h : n + l.length ≤ ws.length) : (over ws n l).length = ws.length := by
  simp [over]; omega
theorem over_nil (ws : List (BitVec 64)) (n : Nat) : over ws n [] = ws := by simp [over]
theorem over_set {ws : List (BitVec 64)} {n k : Nat} {l : List (BitVec 64)} (hk : k < l.length) (h : n + l.length ≤ ws.length) : (over ws n (l.take k)).set (n + k) l[k] = over ws n (l.take (k + 1)) := by
  have h1 : (ws.take n).length = n := by simp; omega
  have h2 : (l.take k).length = k := by simp; omega
  have h3 : (l.take (k + 1)).length = k + 1 := by simp; omega
  unfold over
  rw [List.set_append_right _ _ (by omega), h1, List.set_append_right _ _ (by omega), h2, show n + k - n - k = 0 from by omega, h3]
  have h4 : ws.drop (n + k) = ws[n + k]'(by omega) :: ws.drop (n + (k + 1)) := by rw [List.drop_eq_getElem_cons (by omega)]; rfl
  rw [h4, List.set_cons_zero]
  have h5 : l.take (k + 1) = l.take k ++ [l[k]] := List.take_succ_eq_append_getElem hk
  rw [h5, List.append_assoc (l.take k)]
  rfl
theorem over_take {ws : List (BitVec 64)} {n : Nat} {l : List (BitVec 64)} (h : n ≤ ws.length) : (over ws n l).take (n + l.length) = ws.take n ++ l := by
  unfold over
  rw [← List.append_assoc, List.take_append_of_le_length (by simp; omega), List.take_of_length_le (by simp; omega)]

section
variable {w w' : World} {O : Nat → Prop} {K : Key} {W : Wk} {x : Nat} {X : Wr} {E : Nat → Prop}

/-- A store into a buffer. -/
theorem buf_store (hI : WkI w O K W) {b arr : Nat} {ws : List (BitVec 64)} (hB : BufAt w O W b arr ws) (i : Nat) (u : BitVec 64) :
    WkI (w.setCell ⟨arr, i, none⟩ (.int .u64 (Crc.I64 u))) O K W ∧ BufAt (w.setCell ⟨arr, i, none⟩ (.int .u64 (Crc.I64 u))) O W b arr (ws.set i u) ∧ Turn K (fun k => k = arr) w (w.setCell ⟨arr, i, none⟩ (.int .u64 (Crc.I64 u))) := by
  have hc : Chg (fun k => k = arr) w (w.setCell ⟨arr, i, none⟩ (.int .u64 (Crc.I64 u))) := (Chg.refl _ w).setCell _ _ (fun _ => rfl)
  have hba : b ≠ arr := hB.blk.ne_ hB.row (by decide)
  refine ⟨hI.aside hc (fun k hk => ?_), ⟨hB.blk.far hba _, ?_, by rw [List.length_set]; exact hB.len, hB.out, hB.st⟩, hc.mono (fun k _ hk => .inr (.inr (.inr (.inr (.inr (.inr (.inr (.inr hk))))))))⟩
  · subst hk
    exact ⟨_, _, hB.row, by decide, by decide, by decide, by decide, by decide, by decide, by decide, fun _ => hB.out⟩
  · have := hB.row.set_ i (.int .u64 (Crc.I64 u))
    have e : (Crc.words ws).toArray.setIfInBounds i (.int .u64 (Crc.I64 u)) = (Crc.words (ws.set i u)).toArray := by
      apply Array.toList_inj.1
      simp [Crc.words, List.map_set]
    rwa [e] at this

/-- The writer with k columns of a tuple in its buffer. -/
def Wr.fill (X : Wr) (t : Tup) (k : Nat) : Wr := { X with ws := over X.ws X.n (t.take k), n := X.n + k }
def Wr.put (X : Wr) (t : Tup) : Wr := { X with ws := over X.ws X.n (t.take X.width), n := X.n + X.width, count := X.count + 1 }
theorem wcells_n (K : Key) (X : Wr) (t : Tup) (k : Nat) : (wcells K (X.fill t k)).setIfInBounds 7 (.int .i64 ((X.n : Int) + k + 1)) = wcells K (X.fill t (k + 1)) := by
  simp [wcells, Wr.fill]; omega
theorem wcells_count (K : Key) (X : Wr) (t : Tup) : (wcells K (X.fill t X.width)).setIfInBounds 4 (.int .i64 ((X.count : Int) + 1)) = wcells K (X.put t) := by
  simp [wcells, Wr.fill, Wr.put]

def PutLoop (w1 : World) (O : Nat → Prop) (K : Key) (W : Wk) (x tb : Nat) (X : Wr) (t : Tup) (iv : Value) (wr : World) : Prop :=
  ∃ k : Nat, iv = .int .i64 (k : Int) ∧ k ≤ X.width ∧ WkI wr O K W ∧ Blk wr x 117 (wcells K (X.fill t k)) ∧ BufAt wr O W X.buf X.arr (over X.ws X.n (t.take k)) ∧ Blk wr tb 45 (icells t).toArray ∧ Turn K (Own x X) w1 wr

def PutTold (w : World) (O : Nat → Prop) (K : Key) (W : Wk) (x : Nat) (X : Wr) (t : Tup) (e : Ending) (w' : World) : Prop :=
  ((X.n : Int) + X.width) / X.width ≠ holds W.D.size X.width ∧ e = .returned (.int .i64 0) ∧ WkI w' O K W ∧ Blk w' x 117 (wcells K (X.put t)) ∧ BufAt w' O W X.buf X.arr (X.put t).ws ∧ Turn K (Own x X) w w' ∨
  ((X.n : Int) + X.width) / X.width = holds W.D.size X.width ∧ ∃ w1, Turn K (Own x X) w w1 ∧ BufAt w1 O W X.buf X.arr (X.put t).ws ∧ WkI w1 O K W ∧ FlushTold w1 O K W x (X.put t) e w'

/-- No writer, one that is closed, a tuple too wide, or one too many. -/
theorem put_nil (t : Tup) (ht : t.length = 5) (w : World) : Calls Try.prog 23 #[.pointer none, .agg (icells t).toArray] w fun e w' => e = .returned (.int .i64 1) ∧ Below w.heap.size w w' := by
  have hb : Below w.heap.size w (w.alloc (.cells (icells t).toArray 45)) := (Below.refl _ _).alloc (Nat.le_refl _) _
  have HB := Lib.hid hb
  clear hb
  go_enter Try.func23, Try.ntmps23
  go_wp2_with fail
  go_ret
  exact ⟨rfl, HB.out⟩
theorem put_closed (t : Tup) (ht : t.length = 5) (h : WrAt w O K W x X) (hc : X.closed = true) : Calls Try.prog 23 #[P x, .agg (icells t).toArray] w fun e w' => e = .returned (.int .i64 1) ∧ Below w.heap.size w w' := by
  have hb : Below w.heap.size w (w.alloc (.cells (icells t).toArray 45)) := (Below.refl _ _).alloc (Nat.le_refl _) _
  have c9 : (w.alloc (.cells (icells t).toArray 45)).cell? ⟨x, 9, none⟩ = some (.bool X.closed) := (h.blk.below hb h.blk.lt).cell 9
  rw [hc] at c9
  have HB := Lib.hid hb
  clear hb h
  go_enter Try.func23, Try.ntmps23
  go_wp2_with fail
  go_ret
  exact ⟨rfl, HB.out⟩

set_option maxRecDepth 100000 in
set_option maxHeartbeats 2000000 in
theorem put_misfit (t : Tup) (ht : t.length = 5) (hI : WkI w O K W) (h : WrAt w O K W x X) (hc : X.closed = false) (hz : Crc.zeroW (t.drop X.width) = false) : Calls Try.prog 23 #[P x, .agg (icells t).toArray] w fun e w' => e = .returned (.int .i64 1) ∧ Below w.heap.size w w' := by
  have hb : Below w.heap.size w (w.alloc (.cells (icells t).toArray 45)) := (Below.refl _ _).alloc (Nat.le_refl _) _
  have hX := h.blk.below hb h.blk.lt
  have c9 : (w.alloc (.cells (icells t).toArray 45)).cell? ⟨x, 9, none⟩ = some (.bool X.closed) := hX.cell 9
  have c3 : (w.alloc (.cells (icells t).toArray 45)).cell? ⟨x, 3, none⟩ = some (.int .i64 (X.width : Int)) := hX.cell 3
  rw [hc] at c9
  obtain ⟨hw1, hw5⟩ := h.width
  have hne : X.width ≠ 5 := by
    intro e
    rw [e, List.drop_of_length_le (by omega)] at hz
    cases hz
  have e5 : ((5 : Int) = (X.width : Int)) = False := by simp; omega
  have hn5 : ((5 : Nat) = X.width) = False := by simp; omega
  have hr := (Row.of_blk (Blk.new w 45 (icells t).toArray)).drop X.width
  have hr2 : Row (w.alloc (.cells (icells t).toArray 45)) (some ⟨w.heap.size, 0 + X.width, none⟩) (icells (t.drop X.width)) := by
    have e : (icells t).toArray.toList.drop X.width = icells (t.drop X.width) := by simp [icells]
    rwa [e] at hr
  rw [Nat.zero_add] at hr2
  have hC := contains_any (t.drop X.width) (some ⟨w.heap.size, X.width, none⟩) (5 - X.width) (5 - X.width) _ hr2 (by simp; omega) (by omega)
  rw [hz] at hC
  have HC := Lib.hid hC
  have HB := Lib.hid hb
  have i1 : (X.width : Int) ≤ 5 := by omega
  have i2 : (0 : Int) ≤ (X.width : Int) := by omega
  clear hb h hX hI hr hr2 hC hne
  go_enter Try.func23, Try.ntmps23
  go_wp2_with fail
  refine HC.out.mono ?_
  rintro e w1 ⟨rfl, rfl⟩
  go_wp2_with fail
  go_ret
  exact ⟨rfl, HB.out⟩

set_option maxRecDepth 100000 in
set_option maxHeartbeats 4000000 in
theorem put_any (t : Tup) (ht : t.length = 5) (hI : WkI w O K W) (h : WrAt w O K W x X) (hc : X.closed = false) (hz : Crc.zeroW (t.drop X.width) = true) (hn : (X.n : Int) + X.width ≤ holds W.D.size X.width * X.width) (hnb : X.count + 1 ≤ 100000000) (ha : X.at_ ≤ 100000000) (hac : W.D.acts + 1 < 1099511627776) (hO : ∀ g, w.heap.size ≤ g → O g) (hb : X.count ≠ X.bound) :
    Calls Try.prog 23 #[P x, .agg (icells t).toArray] w (PutTold w O K W x X t) := by
  have hb0 : Below w.heap.size w (w.alloc (.cells (icells t).toArray 45)) := (Below.refl _ _).alloc (Nat.le_refl _) _
  have hI0 := hI.below hb0
  have hX := h.blk.below hb0 h.blk.lt
  have hB := (h.live hc).stay (E := fun _ => False) hI (Turn.below hb0) (fun h => h) (fun h => h)
  have hTB := Blk.new w 45 (icells t).toArray
  obtain ⟨hw1, hw5⟩ := h.width
  obtain ⟨hl1, hl2⟩ := h.lies
  have hbd := h.bound
  obtain ⟨s8, s256⟩ := hI.size
  obtain ⟨g1, g2, g3, g4⟩ := holds_bd (width := (X.width : Int)) s8 s256
  have hhw : holds W.D.size X.width * X.width ≤ (W.D.size : Int) - 2 := by
    unfold holds
    rw [if_neg (by omega)]
    exact Int.ediv_mul_le _ (by omega)
  have ht0 : Turn K (Own x X) w (w.alloc (.cells (icells t).toArray 45)) := Turn.below hb0
  have hr := (Row.of_blk hTB).drop X.width
  have hr2 : Row (w.alloc (.cells (icells t).toArray 45)) (some ⟨w.heap.size, 0 + X.width, none⟩) (icells (t.drop X.width)) := by
    have e : (icells t).toArray.toList.drop X.width = icells (t.drop X.width) := by simp [icells]
    rwa [e] at hr
  rw [Nat.zero_add] at hr2
  have hC : ∀ a, (Row (w.alloc (.cells (icells t).toArray 45)) a (icells (t.drop X.width))) → Calls Try.prog 51 #[.slice a ((5 - X.width : Nat)) ((5 - X.width : Nat)), .func (.func 52) #[] #[]] (w.alloc (.cells (icells t).toArray 45)) fun e w' => e = .returned (.bool false) ∧ (w.alloc (.cells (icells t).toArray 45)) = w' := by
    intro a ha
    have := contains_any (t.drop X.width) a (5 - X.width) (5 - X.width) _ ha (by simp; omega) (by omega)
    rw [hz] at this
    exact this
  have hr5 : X.width = 5 → ∀ a, Row (w.alloc (.cells (icells t).toArray 45)) a (icells (t.drop X.width)) := by
    intro e a
    rw [e, List.drop_of_length_le (by omega)]
    exact Row.nil _ _
  have HC5 : Hid (5 = X.width → Calls Try.prog 51 #[.slice (some ⟨w.heap.size, 0, none⟩) 0 0, .func (.func 52) #[] #[]] (w.alloc (.cells (icells t).toArray 45)) fun e w' => e = .returned (.bool false) ∧ (w.alloc (.cells (icells t).toArray 45)) = w') := Lib.hid (fun e => by
    have := hC (some ⟨w.heap.size, 0, none⟩) (hr5 e.symm _)
    rw [← e] at this
    exact this)
  have HC1 := Lib.hid hC
  have HR2 := Lib.hid hr2
  have HTL := Lib.hid ht
  have htx : w.heap.size ≠ x := by have := h.blk.lt; omega
  have HTX := Lib.hid htx
  have HWW := Lib.hid (And.intro h.width (And.intro h.bound h.lies))
  have HOO := Lib.hid hO
  have hO0 : ∀ g, (w.alloc (.cells (icells t).toArray 45)).heap.size ≤ g → O g := fun g hg => hO g (Nat.le_trans hb0.size hg)
  have HO := Lib.hid hO0
  have HB := Lib.hid hB
  have HI := Lib.hid hI0
  have HX := Lib.hid hX
  have HTB := Lib.hid hTB
  have HW := Lib.hid h
  have HT := Lib.hid ht0
  have HC := Lib.hid hc
  have HNB := Lib.hid hb
  have c9 : (w.alloc (.cells (icells t).toArray 45)).cell? ⟨x, 9, none⟩ = some (.bool X.closed) := hX.cell 9
  have c3 : (w.alloc (.cells (icells t).toArray 45)).cell? ⟨x, 3, none⟩ = some (.int .i64 (X.width : Int)) := hX.cell 3
  have c4 : (w.alloc (.cells (icells t).toArray 45)).cell? ⟨x, 4, none⟩ = some (.int .i64 (X.count : Int)) := hX.cell 4
  have c5 : (w.alloc (.cells (icells t).toArray 45)).cell? ⟨x, 5, none⟩ = some (.int .i64 (X.bound : Int)) := hX.cell 5
  rw [hc] at c9
  have hcb : ((X.count : Int) == (X.bound : Int)) = false := by rw [beq_eq_false_iff_ne]; omega
  have i1 : (X.width : Int) ≤ 5 := by omega
  have i2 : (0 : Int) ≤ (X.width : Int) := by omega
  have hI' := hI0
  clear hI h hX hI0 hr hr2 hr5 hC hB hTB hc hb hb0 ht hO hO0 ht0 hz htx
  go_enter Try.func23, Try.ntmps23
  go_wp2_with fail
  (with_reducible refine (HC5.out (by assumption)).mono ?_)
  rotate_left
  (with_reducible refine (HC1.out _ HR2.out).mono ?_)
  all_goals
    clear h HC5 HC1 HR2
    rintro e w2 ⟨rfl, rfl⟩
    generalize w.alloc (.cells (icells t).toArray 45) = w1 at *
    generalize w.heap.size = tb at *
    go_wp2_with fail
    refine wp_region_still_lit (by kernel_rfl) (by kernel_rfl) ?_
    repeat still_step
    refine wpStill_nil ?_
    change (Exit.then _ _ .normal _ w1.drew)
    have HO1 : Hid (∀ g, w1.drew.heap.size ≤ g → O g) := Lib.hid HO.out
    have HB1 : Hid (BufAt w1.drew O W X.buf X.arr X.ws) := Lib.hid ⟨HB.out.blk, HB.out.row, HB.out.len, HB.out.out, HB.out.st⟩
    have HI1 := Lib.hid HI.out.drew
    have HB1L := Lib.hid HB.out.len
    have HX1 : Hid (Blk w1.drew x 117 (wcells K X)) := Lib.hid HX.out
    have HTB1 : Hid (Blk w1.drew tb 45 (icells t).toArray) := Lib.hid HTB.out
    have HT1 := Lib.hid HT.out.drew
    have c3' : w1.drew.cell? ⟨x, 3, none⟩ = some (.int .i64 (X.width : Int)) := c3
    clear HO HB HI HX HTB HT c3 c9 c4 c5
    generalize w1.drew = w2 at *
    go_wp2_with fail
    go_loopw [43] (fun iv wr => PutLoop w2 O K W x tb X t iv wr) (fun iv _ => X.width - (intOf iv).toNat)
    case atStart => exact ⟨0, rfl, by omega, HI1.out, HX1.out, (by rw [List.take_zero, over_nil]; exact HB1.out), HTB1.out, Turn.refl _ _ _⟩
    case round =>
      obtain ⟨k, rfl, hk, hIk, hXk, hBk, hTk, htk⟩ := hrel
      clear HB1 HX1 HI1 c3'
      by_cases hkw : (k : Int) < X.width
      · have hkl : k < X.width := by omega
        have hkt : k < (t.take X.width).length := by rw [List.length_take]; have := HTL.out; omega
        have htl5 : k < t.length := by have := HTL.out; omega
        have hlen : X.n + (t.take X.width).length ≤ X.ws.length := by
          rw [HB1L.out, List.length_take]
          have := HTL.out
          omega
        have hos := over_set hkt hlen
        have hge : (t.take X.width)[k] = t[k] := List.getElem_take
        have htt : (t.take X.width).take k = t.take k := by rw [List.take_take, Nat.min_eq_left (by omega)]
        have htt1 : (t.take X.width).take (k + 1) = t.take (k + 1) := by rw [List.take_take, Nat.min_eq_left (by omega)]
        rw [hge, htt, htt1] at hos
        have d0 : wr.cell? ⟨tb, k, none⟩ = some (.int .i64 t[k].toInt) := by rw [hTk.cell]; simp [icells, htl5]
        have hBd : BufAt wr.drew O W X.buf X.arr (over X.ws X.n (t.take k)) := ⟨hBk.blk, hBk.row, hBk.len, hBk.out, hBk.st⟩
        have hXd : Blk wr.drew x 117 (wcells K (X.fill t k)) := hXk
        have hTd : Blk wr.drew tb 45 (icells t).toArray := hTk
        generalize t[k] = c at *
        obtain ⟨hIs, hBs, hts⟩ := buf_store hIk.drew hBd (X.n + k) c
        rw [hos] at hBs
        have hxb : x ≠ X.arr := hXk.ne_ hBk.row (by decide)
        have hta : tb ≠ X.arr := hTk.ne_ hBk.row (by decide)
        have hXs := hIk.drew.blk hts hXd (by decide) (by decide) (by decide) (by decide) (by decide) hxb
        have hTs := hIk.drew.blk hts hTd (by decide) (by decide) (by decide) (by decide) (by decide) hta
        have x6 : wr.drew.cell? ⟨x, 6, none⟩ = some (P X.buf) := hXk.cell 6
        have x7 : wr.drew.cell? ⟨x, 7, none⟩ = some (.int .i64 ((X.n : Int) + (k : Int))) := by
          have := hXd.cell 7
          simp [wcells, Wr.fill] at this
          simpa using this
        have b0 : wr.drew.cell? ⟨X.buf, 0, none⟩ = some (.slice (some ⟨X.arr, 0, none⟩) W.D.size W.D.size) := hBk.blk.cell 0
        have hsz : X.n + k < W.D.size := by
          have h1 := hlen
          rw [List.length_take, HB1L.out] at h1
          have h2 := HTL.out
          omega
        obtain ⟨v0, hv0⟩ := hBd.row.some_ (i := X.n + k) (by simp [Crc.words]; rw [hBk.len]; exact hsz)
        have fv0 := hBd.row.frozen (X.n + k)
        have q1 : (0 : Int) ≤ (X.n : Int) + (k : Int) := by omega
        have q2 : (X.n : Int) + (k : Int) < (W.D.size : Int) := by omega
        have q3 : ((X.n : Int) + (k : Int)).toNat = X.n + k := by omega
        have q4 := toInt_u64 c
        have x7s : (wr.drew.setCell ⟨X.arr, X.n + k, none⟩ (.int .u64 (Crc.I64 c))).cell? ⟨x, 7, none⟩ = some (.int .i64 ((X.n : Int) + (k : Int))) := by
          have := hXs.cell 7
          simp [wcells, Wr.fill] at this
          simpa using this
        have fx7 := hXs.frozen 7
        obtain ⟨hIe, hXe, hte⟩ := wr_store hIs hXs 7 (.int .i64 ((X.n : Int) + (k : Int) + 1))
        rw [wcells_n] at hXe
        have hBe := hBs.stay hIs hte (show ¬ X.buf = x from fun e => hXs.ne_ hBs.blk (by decide) e.symm) (fun e => hxb e.symm)
        have hTe := hIs.blk hte hTs (by decide) (by decide) (by decide) (by decide) (by decide) (fun e => HTX.out e)
        have HIe := Lib.hid hIe
        have HXe := Lib.hid hXe
        have HBe := Lib.hid hBe
        have HTe := Lib.hid hTe
        have HTte := Lib.hid ((htk.drew.trans (hts.mono (E' := Own x X) (fun j h => .inr (.inr h)))).trans (hte.mono (fun j h => .inl h)))
        clear hos hge htt htt1 hlen hkt htl5 hIs hBs hts hXs hTs hIe hXe hBe hTe hte hIk hXk hBk hTk htk hBd hXd hTd hxb hta
        go_wp2_with fail
        refine wp_region_still_one 14 (by kernel_rfl) rfl (by kernel_rfl) (fun _ _ d _ _ h => by cases d <;> exact h) ?_
        simp only [List.take_succ_cons, List.take_zero, List.drop_succ_cons, List.drop_zero]
        generalize wr.drew = w2' at *
        repeat still_step
        refine wpStill_nil (fun K hK => ?_)
        go_simp
        refine hK.out _ _ ?_
        clear hK K
        repeat still_step
        refine wpStill_nil ?_
        generalize w2'.setCell ⟨X.arr, X.n + k, none⟩ (.int .u64 (Crc.I64 c)) = w3 at *
        clear x6 x7 b0 hv0 fv0 d0
        go_wp2_with fail
        go_roundw
        case rel => exact ⟨k + 1, by go_num, by omega, HIe.out, HXe.out, HBe.out, HTe.out, HTte.out⟩
        case measure => simp [intOf]; omega
      · obtain rfl : k = X.width := by omega
        have x4 : wr.cell? ⟨x, 4, none⟩ = some (.int .i64 (X.count : Int)) := hXk.cell 4
        have fx4 := hXk.frozen 4
        obtain ⟨hIe, hXe, hte⟩ := wr_store hIk hXk 4 (.int .i64 ((X.count : Int) + 1))
        rw [wcells_count] at hXe
        have hBe := hBk.stay hIk hte (show ¬ X.buf = x from fun e => hXk.ne_ hBk.blk (by decide) e.symm) (show ¬ X.arr = x from fun e => hXk.ne_ hBk.row (by decide) e.symm)
        have HIe := Lib.hid hIe
        have HXe := Lib.hid hXe
        have HBe : Hid (BufAt _ O W X.buf X.arr (X.put t).ws) := Lib.hid hBe
        have HTte := Lib.hid (htk.trans (hte.mono (E' := Own x X) (fun j h => .inl h)))
        clear hIk hXk hBk hTk htk hIe hXe hBe hte
        go_wp2_with fail
        generalize wr.setCell ⟨x, 4, none⟩ (.int .i64 ((X.count : Int) + 1)) = w3 at *
        have y0 : w3.drew.cell? ⟨x, 0, none⟩ = some (P K.wk) := HXe.out.cell 0
        have y3 : w3.drew.cell? ⟨x, 3, none⟩ = some (.int .i64 (X.width : Int)) := HXe.out.cell 3
        have y7 : w3.drew.cell? ⟨x, 7, none⟩ = some (.int .i64 ((X.n : Int) + (X.width : Int))) := by
          have := HXe.out.cell 7
          simp [wcells, Wr.put] at this
          simpa using this
        have HH := Lib.hid (holds_any HIe.out.drew (X.width : Int))
        have hw0 : (X.width = 0) = False := by simp; omega
        have hdv : IntKind.i64.wrap (((X.n : Int) + (X.width : Int)).tdiv (X.width : Int)) = ((X.n : Int) + (X.width : Int)) / (X.width : Int) := by
          rw [Int.tdiv_eq_ediv_of_nonneg (by omega), IntKind.wrap_i64]
          have h1 := Int.ediv_nonneg (a := (X.n : Int) + (X.width : Int)) (b := (X.width : Int)) (by omega) (by omega)
          have h2 := Int.ediv_le_self (a := (X.n : Int) + (X.width : Int)) (X.width : Int) (by omega)
          omega
        refine wp_region_still_lit (by kernel_rfl) (by kernel_rfl) ?_
        change wpStill _ _ w3.drew _ _ _
        repeat still_step
        still_call (Calls.still HH.out)
        repeat still_step
        refine wpStill_nil ?_
        change (Exit.then _ _ .normal _ w3.drew)
        have HI4 := Lib.hid HIe.out.drew
        have HX4 : Hid (Blk w3.drew x 117 (wcells K (X.put t))) := Lib.hid HXe.out
        have HB4 : Hid (BufAt w3.drew O W X.buf X.arr (X.put t).ws) := Lib.hid ⟨HBe.out.blk, HBe.out.row, HBe.out.len, HBe.out.out, HBe.out.st⟩
        have HT4 := Lib.hid ((HT1.out.trans HTte.out)).drew
        have hz4 : w2.heap.size ≤ w3.drew.heap.size := HTte.out.size
        generalize w3.drew = w4 at *
        by_cases hq : ((X.n : Int) + (X.width : Int)) / (X.width : Int) = holds W.D.size X.width
        · have hqb : (((X.n : Int) + (X.width : Int)) / (X.width : Int) == holds W.D.size X.width) = true := by simpa using hq
          have hwr : WrAt w4 O K W x (X.put t) := ⟨HX4.out, fun _ => HB4.out, HWW.out.1, HWW.out.2.1, HWW.out.2.2⟩
          have HF := Lib.hid (flush_any HI4.out hwr HC.out (by show X.n + X.width + 2 ≤ _; omega) ha hac (fun g hg => HO1.out g (by omega)))
          have HQ := Lib.hid hq
          clear hq hwr y0 y3 y7 HH hdv
          go_wp2_with fail
          refine HF.out.mono ?_
          intro e w5 h5
          have H5 := Lib.hid h5
          obtain ⟨er, rfl⟩ : ∃ er, e = .returned (.int .i64 er) := by
            rcases h5 with ⟨_, h5, _⟩ | ⟨_, L', h5, _⟩
            · exact ⟨_, h5⟩
            · exact ⟨_, h5⟩
          clear h5
          go_wp2_with fail
          go_ret
          exact .inr ⟨HQ.out, w4, HT4.out, HB4.out, HI4.out, H5.out⟩
        · have hqb : (((X.n : Int) + (X.width : Int)) / (X.width : Int) == holds W.D.size X.width) = false := by simpa using hq
          have HQ := Lib.hid hq
          clear hq y0 y3 y7 HH hdv
          go_wp2_with fail
          go_ret
          exact .inl ⟨HQ.out, rfl, HI4.out, HX4.out, HB4.out, HT4.out⟩
end

end Go.Proofs.Ytmmkncocgjgapaa.Fl

/- Put where there are as many tuples as may be. -/
namespace Go.Proofs.Ytmmkncocgjgapaa.Fl
open Go.RowKit
section
variable {w w' : World} {O : Nat → Prop} {K : Key} {W : Wk} {x : Nat} {X : Wr} {E : Nat → Prop}
set_option maxRecDepth 100000 in
set_option maxHeartbeats 2000000 in
theorem put_full (t : Tup) (ht : t.length = 5) (h : WrAt w O K W x X) (hc : X.closed = false) (hz : Crc.zeroW (t.drop X.width) = true) (hb : X.count = X.bound) :
    Calls Try.prog 23 #[P x, .agg (icells t).toArray] w fun e w' => e = .returned (.int .i64 5) ∧ Below w.heap.size w w' := by
  have hb0 : Below w.heap.size w (w.alloc (.cells (icells t).toArray 45)) := (Below.refl _ _).alloc (Nat.le_refl _) _
  have hX := h.blk.below hb0 h.blk.lt
  have hTB := Blk.new w 45 (icells t).toArray
  obtain ⟨hw1, hw5⟩ := h.width
  have hbd := h.bound
  have hr := (Row.of_blk hTB).drop X.width
  have hr2 : Row (w.alloc (.cells (icells t).toArray 45)) (some ⟨w.heap.size, 0 + X.width, none⟩) (icells (t.drop X.width)) := by
    have e : (icells t).toArray.toList.drop X.width = icells (t.drop X.width) := by simp [icells]
    rwa [e] at hr
  rw [Nat.zero_add] at hr2
  have hC : ∀ a, (Row (w.alloc (.cells (icells t).toArray 45)) a (icells (t.drop X.width))) → Calls Try.prog 51 #[.slice a ((5 - X.width : Nat)) ((5 - X.width : Nat)), .func (.func 52) #[] #[]] (w.alloc (.cells (icells t).toArray 45)) fun e w' => e = .returned (.bool false) ∧ (w.alloc (.cells (icells t).toArray 45)) = w' := by
    intro a ha
    have := contains_any (t.drop X.width) a (5 - X.width) (5 - X.width) _ ha (by simp; omega) (by omega)
    rw [hz] at this
    exact this
  have hr5 : X.width = 5 → ∀ a, Row (w.alloc (.cells (icells t).toArray 45)) a (icells (t.drop X.width)) := by
    intro e a
    rw [e, List.drop_of_length_le (by omega)]
    exact Row.nil _ _
  have HC5 : Hid (5 = X.width → Calls Try.prog 51 #[.slice (some ⟨w.heap.size, 0, none⟩) 0 0, .func (.func 52) #[] #[]] (w.alloc (.cells (icells t).toArray 45)) fun e w' => e = .returned (.bool false) ∧ (w.alloc (.cells (icells t).toArray 45)) = w') := Lib.hid (fun e => by
    have := hC (some ⟨w.heap.size, 0, none⟩) (hr5 e.symm _)
    rw [← e] at this
    exact this)
  have HC1 := Lib.hid hC
  have HR2 := Lib.hid hr2
  have HB0 := Lib.hid hb0
  have c9 : (w.alloc (.cells (icells t).toArray 45)).cell? ⟨x, 9, none⟩ = some (.bool X.closed) := hX.cell 9
  have c3 : (w.alloc (.cells (icells t).toArray 45)).cell? ⟨x, 3, none⟩ = some (.int .i64 (X.width : Int)) := hX.cell 3
  have c4 : (w.alloc (.cells (icells t).toArray 45)).cell? ⟨x, 4, none⟩ = some (.int .i64 (X.count : Int)) := hX.cell 4
  have c5 : (w.alloc (.cells (icells t).toArray 45)).cell? ⟨x, 5, none⟩ = some (.int .i64 (X.bound : Int)) := hX.cell 5
  rw [hc] at c9
  have hcb : ((X.count : Int) == (X.bound : Int)) = true := by rw [hb]; simp
  have i1 : (X.width : Int) ≤ 5 := by omega
  have i2 : (0 : Int) ≤ (X.width : Int) := by omega
  clear h hX hr hr2 hr5 hC hTB hc hb hb0 ht hz
  go_enter Try.func23, Try.ntmps23
  go_wp2_with fail
  (with_reducible refine (HC5.out (by assumption)).mono ?_)
  rotate_left
  (with_reducible refine (HC1.out _ HR2.out).mono ?_)
  all_goals
    clear h HC5 HC1 HR2
    rintro e w2 ⟨rfl, rfl⟩
    generalize w.alloc (.cells (icells t).toArray 45) = w1 at *
    go_wp2_with fail
    refine wp_region_still_lit (by kernel_rfl) (by kernel_rfl) ?_
    repeat still_step
    refine wpStill_nil ?_
    change (Exit.then _ _ .normal _ w1.drew)
    go_wp2_with fail
    go_ret
    exact ⟨rfl, Dev.below_d HB0.out 1⟩
end

end Go.Proofs.Ytmmkncocgjgapaa.Fl

/- A reader; the walks of Read, of its Close, and of Free. -/
namespace Go.Proofs.Ytmmkncocgjgapaa.Fl
open Go.RowKit

structure Rd where
  first : Int
  blocks : Int
  width : Int
  count : Int
  buf : Nat
  arr : Nat
  n : Nat
  at_ : Nat
  block : Nat
  told : Nat
  closed : Bool
  ws : List (BitVec 64)
def rcells (K : Key) (X : Rd) : Array Value :=
  #[P K.wk, .int .i64 X.first, .int .i64 X.blocks, .int .i64 X.width, .int .i64 X.count, P X.buf, .int .i64 (X.n : Int), .int .i64 (X.at_ : Int), .int .i64 (X.block : Int), .int .i64 (X.told : Int), .bool X.closed]

/-- A reader at block x. -/
structure RdAt (w : World) (O : Nat → Prop) (K : Key) (W : Wk) (x : Nat) (X : Rd) : Prop where
  blk : Blk w x 110 (rcells K X)
  live : X.closed = false → BufAt w O W X.buf X.arr X.ws
  width : 1 ≤ X.width ∧ X.width ≤ 5
  count : 0 ≤ X.count ∧ X.count ≤ 100000000

section
variable {w w' : World} {O : Nat → Prop} {K : Key} {W : Wk} {x : Nat} {X : Rd} {E : Nat → Prop}
theorem RdAt.turn (h : RdAt w O K W x X) (hI : WkI w O K W) (ht : Turn K E w w') (h0 : ¬ E x) (h1 : X.closed = false → ¬ E X.buf) (h2 : X.closed = false → ¬ E X.arr) {O' : Nat → Prop} (hO : ∀ g, O' g → O g) {W' : Wk} (hs : W'.D.size = W.D.size) (hst : ∀ p ∈ W.A.st, p.1 = X.buf → p ∈ W'.A.st) : RdAt w' O' K W' x X :=
  ⟨hI.blk ht h.blk (by decide) (by decide) (by decide) (by decide) (by decide) h0, fun hc => (h.live hc).turn hI ht (h1 hc) (h2 hc) hO hs hst, h.width, h.count⟩

/-- A store into a reader's block. -/
theorem rd_store (hI : WkI w O K W) {cs : Array Value} (hb : Blk w x 110 cs) (i : Nat) (u : Value) :
    WkI (w.setCell ⟨x, i, none⟩ u) O K W ∧ Blk (w.setCell ⟨x, i, none⟩ u) x 110 (cs.setIfInBounds i u) ∧ Turn K (fun k => k = x) w (w.setCell ⟨x, i, none⟩ u) := by
  have hc : Chg (fun k => k = x) w (w.setCell ⟨x, i, none⟩ u) := (Chg.refl _ w).setCell _ _ (fun _ => rfl)
  refine ⟨hI.aside hc (fun k hk => ?_), hb.set_ i u, hc.mono (fun k _ hk => .inr (.inr (.inr (.inr (.inr (.inr (.inr (.inr hk))))))))⟩
  subst hk
  exact ⟨_, _, hb, by decide, by decide, by decide, by decide, by decide, by decide, by decide, fun h => absurd h (by decide)⟩

theorem rclose_nil (w : World) : Calls Try.prog 28 #[.pointer none] w fun e w' => e = .returned (.tuple #[]) ∧ w = w' := by
  go_enter Try.func28, Try.ntmps28
  go_wp2_with fail
  go_end0
  exact ⟨rfl, rfl⟩
theorem rclose_closed (h : RdAt w O K W x X) (hc : X.closed = true) : Calls Try.prog 28 #[P x] w fun e w' => e = .returned (.tuple #[]) ∧ w = w' := by
  have c10 : w.cell? ⟨x, 10, none⟩ = some (.bool X.closed) := h.blk.cell 10
  rw [hc] at c10
  clear h
  go_enter Try.func28, Try.ntmps28
  go_wp2_with fail
  go_end0
  exact ⟨rfl, rfl⟩
theorem rcells_close (K : Key) (X : Rd) : (rcells K X).setIfInBounds 10 (.bool true) = rcells K { X with closed := true } := rfl
/-- The blocks of a reader's own. -/
def OwnR (x : Nat) (X : Rd) (k : Nat) : Prop := k = x ∨ k = X.buf ∨ k = X.arr
def RCloseTold (w : World) (O : Nat → Prop) (K : Key) (W : Wk) (x : Nat) (X : Rd) (e : Ending) (w' : World) : Prop :=
  e = .returned (.tuple #[]) ∧ WkI w' O K { W with A := W.A.release X.buf W.D.size } ∧ Blk w' x 110 (rcells K { X with closed := true }) ∧ Turn K (OwnR x X) w w'

set_option maxRecDepth 100000 in
set_option maxHeartbeats 1000000 in
theorem rclose_live (hI : WkI w O K W) (h : RdAt w O K W x X) (hc : X.closed = false) : Calls Try.prog 28 #[P x] w (RCloseTold w O K W x X) := by
  have hB := h.live hc
  have hbx : x ≠ X.buf ∧ x ≠ X.arr := ⟨h.blk.ne_ hB.blk (by decide), h.blk.ne_ hB.row (by decide)⟩
  have c9 : w.cell? ⟨x, 10, none⟩ = some (.bool X.closed) := h.blk.cell 10
  rw [hc] at c9
  have f9 := h.blk.frozen 10
  obtain ⟨hI1, hX1, ht1⟩ := rd_store hI h.blk 10 (.bool true)
  rw [rcells_close] at hX1
  have hB1 := hB.stay hI ht1 (fun e => hbx.1 e.symm) (fun e => hbx.2 e.symm)
  have HC := Lib.hid hc
  have HBX := Lib.hid hbx
  clear hc hI h hB hbx
  go_enter Try.func28, Try.ntmps28
  go_wp2_with fail
  generalize w.setCell ⟨x, 10, none⟩ (.bool true) = w1 at *
  have d0 : w1.drew.cell? ⟨x, 0, none⟩ = some (P K.wk) := hX1.cell 0
  have d6 : w1.drew.cell? ⟨x, 5, none⟩ = some (P X.buf) := hX1.cell 5
  have k1 : w1.drew.cell? ⟨K.wk, 1, none⟩ = some (P K.a) := hI1.box.cell 1
  have hB1' : BufAt w1.drew O W X.buf X.arr X.ws := ⟨hB1.blk, hB1.row, hB1.len, hB1.out, hB1.st⟩
  have HR := Lib.hid (release_w hI1.drew hB1')
  have HI1 := Lib.hid hI1.drew
  have HX1 : Hid (Blk w1.drew x 110 (rcells K { X with closed := true })) := Lib.hid hX1
  have HT1 := Lib.hid ht1.drew
  clear c9 f9 hI1 hX1 hB1 hB1' ht1
  go_still_tail 11, (by kernel_rfl)
  change wpList _ _ _ _ _ w1.drew
  generalize w1.drew = w2 at *
  clear d0 d6 k1
  go_wp2_with fail
  refine HR.out.mono ?_
  rintro e w3 ⟨rfl, hI3, ht3⟩
  have hX3 := HI1.out.blk ht3 HX1.out (by decide) (by decide) (by decide) (by decide) (by decide) HBX.out.1
  have ht13 : Turn K (OwnR x X) w w3 := (HT1.out.mono (fun k h => .inl h)).trans (ht3.mono (fun k h => .inr (.inl h)))
  have HT3 := Lib.hid ht13
  have HI3 := Lib.hid hI3
  have HX3 := Lib.hid hX3
  clear ht3 hI3 hX3 HR HI1 HX1 HT1 ht13
  go_wp2_with fail
  go_end0
  exact ⟨rfl, HI3.out, HX3.out, HT3.out⟩
end

end Go.Proofs.Ytmmkncocgjgapaa.Fl

/- The walk of Read of a work: a reader of a file, or it is told what is lacking. -/
namespace Go.Proofs.Ytmmkncocgjgapaa.Fl
open Go.RowKit

/-- A file's cells. -/
def fvals (first blocks width count : Int) : Array Value := #[.int .i64 first, .int .i64 blocks, .int .i64 width, .int .i64 count]
/-- Can a file be? -/
def CanBe (size : Nat) (blocks width count : Int) : Prop := 1 ≤ width ∧ width ≤ 5 ∧ 0 ≤ count ∧ count ≤ 100000000 ∧ blocks = blocksOf size width count

section
variable {w w' : World} {O : Nat → Prop} {K : Key} {W : Wk} {x : Nat} {X : Rd} {E : Nat → Prop}

def OpenNo (w : World) (er : Int) (e : Ending) (w' : World) : Prop := e = .returned (.tuple #[.pointer none, .int .i64 er]) ∧ Below w.heap.size w w'

set_option maxRecDepth 100000 in
set_option maxHeartbeats 1000000 in
theorem open_nil (first blocks width count : Int) (w : World) : Calls Try.prog 15 #[.pointer none, .agg (fvals first blocks width count)] w (OpenNo w 1) := by
  have hb : Below w.heap.size w (w.alloc (.cells (fvals first blocks width count) 32)) := (Below.refl _ _).alloc (Nat.le_refl _) _
  have hF := Blk.new w 32 (fvals first blocks width count)
  have HB := Lib.hid hb
  have HF := Lib.hid hF
  unfold fvals at *
  clear hb hF
  go_enter Try.func15, Try.ntmps15
  go_wp2_with fail
  generalize w.alloc (.cells #[.int .i64 first, .int .i64 blocks, .int .i64 width, .int .i64 count] 32) = w1 at *
  have k1 : w1.cell? ⟨w.heap.size, 1, none⟩ = some (.int .i64 blocks) := HF.out.cell 1
  have k2 : w1.cell? ⟨w.heap.size, 2, none⟩ = some (.int .i64 width) := HF.out.cell 2
  have k3 : w1.cell? ⟨w.heap.size, 3, none⟩ = some (.int .i64 count) := HF.out.cell 3
  refine wp_reads (by kernel_rfl) (by kernel_rfl) ?_
  repeat (refine sg_step (fun K2 hK => ?_); go_simp; refine hK.out _ ?_; clear hK K2)
  (refine sg_step (fun K2 hK => ?_); go_simp; refine ⟨_, Calls.still (holds_nil _ _), hK.out _ ?_⟩; clear hK K2)
  repeat (refine sg_step (fun K2 hK => ?_); go_simp; refine hK.out _ ?_; clear hK K2)
  refine sg_nil ?_
  go_wp2_with fail
  go_ret2
  exact ⟨rfl, Dev.below_d HB.out 1⟩

set_option maxRecDepth 100000 in
set_option maxHeartbeats 4000000 in
theorem open_arg (first blocks width count : Int) (hI : WkI w O K W) (hc : ¬ CanBe W.D.size blocks width count) (hct : -9223372036854775808 ≤ count) : Calls Try.prog 15 #[P K.wk, .agg (fvals first blocks width count)] w (OpenNo w 1) := by
  have hb : Below w.heap.size w (w.alloc (.cells (fvals first blocks width count) 32)) := (Below.refl _ _).alloc (Nat.le_refl _) _
  have hF := Blk.new w 32 (fvals first blocks width count)
  have HF := Lib.hid hF
  have HH := Lib.hid (fun d => holds_any ((hI.below hb).drewN d) width)
  obtain ⟨s8, s256⟩ := hI.size
  obtain ⟨g1, g2, g3, g4⟩ := holds_bd (width := width) s8 s256
  have HBK := Lib.hid (fun a b c d => blocks_any ((hI.below hb).drewN d) width count a b c)
  have HB := Lib.hid hb
  have HC := Lib.hid hc
  have hcb : width < 1 ∨ 5 < width → holds W.D.size width = 0 := fun h => by unfold holds; rw [if_pos h]
  unfold fvals at *
  clear hb hI hc hF
  generalize holds W.D.size width = n at *
  by_cases h1 : width < 1 ∨ 5 < width
  · have hn : (n == 0) = true := by rw [hcb h1]; rfl
    clear h1 g1 g2 g3 g4 hcb
    go_enter Try.func15, Try.ntmps15
    go_wp2_with fail
    generalize w.alloc (.cells #[.int .i64 first, .int .i64 blocks, .int .i64 width, .int .i64 count] 32) = w1 at *
    have k1 : w1.cell? ⟨w.heap.size, 1, none⟩ = some (.int .i64 blocks) := HF.out.cell 1
    have k2 : w1.cell? ⟨w.heap.size, 2, none⟩ = some (.int .i64 width) := HF.out.cell 2
    have k3 : w1.cell? ⟨w.heap.size, 3, none⟩ = some (.int .i64 count) := HF.out.cell 3
    refine wp_reads (by kernel_rfl) (by kernel_rfl) ?_
    repeat (refine sg_step (fun K2 hK => ?_); go_simp; refine hK.out _ ?_; clear hK K2)
    (refine sg_step (fun K2 hK => ?_); go_simp; refine ⟨_, Calls.still (HH.out 1), hK.out _ ?_⟩; clear hK K2)
    repeat (refine sg_step (fun K2 hK => ?_); go_simp; refine hK.out _ ?_; clear hK K2)
    refine sg_nil ?_
    go_wp2_with fail
    go_ret2
    exact ⟨rfl, Dev.below_d HB.out 1⟩
  have hw1 : 1 ≤ width := by omega
  have hw5 : width ≤ 5 := by omega
  have hn : (n == 0) = false := by rw [beq_eq_false_iff_ne]; have := g3 hw1 hw5; omega
  clear h1 g1 g2 g3 g4 hcb
  by_cases h2 : count < 0
  · go_enter Try.func15, Try.ntmps15
    go_wp2_with fail
    generalize w.alloc (.cells #[.int .i64 first, .int .i64 blocks, .int .i64 width, .int .i64 count] 32) = w1 at *
    have k1 : w1.cell? ⟨w.heap.size, 1, none⟩ = some (.int .i64 blocks) := HF.out.cell 1
    have k2 : w1.cell? ⟨w.heap.size, 2, none⟩ = some (.int .i64 width) := HF.out.cell 2
    have k3 : w1.cell? ⟨w.heap.size, 3, none⟩ = some (.int .i64 count) := HF.out.cell 3
    refine wp_reads (by kernel_rfl) (by kernel_rfl) ?_
    repeat (refine sg_step (fun K2 hK => ?_); go_simp; refine hK.out _ ?_; clear hK K2)
    (refine sg_step (fun K2 hK => ?_); go_simp; refine ⟨_, Calls.still (HH.out 1), hK.out _ ?_⟩; clear hK K2)
    repeat (refine sg_step (fun K2 hK => ?_); go_simp; refine hK.out _ ?_; clear hK K2)
    refine sg_nil ?_
    go_wp2_with fail
    go_ret2
    exact ⟨rfl, Dev.below_d HB.out 1⟩
  by_cases h3 : 100000000 < count
  · go_enter Try.func15, Try.ntmps15
    go_wp2_with fail
    generalize w.alloc (.cells #[.int .i64 first, .int .i64 blocks, .int .i64 width, .int .i64 count] 32) = w1 at *
    have k1 : w1.cell? ⟨w.heap.size, 1, none⟩ = some (.int .i64 blocks) := HF.out.cell 1
    have k2 : w1.cell? ⟨w.heap.size, 2, none⟩ = some (.int .i64 width) := HF.out.cell 2
    have k3 : w1.cell? ⟨w.heap.size, 3, none⟩ = some (.int .i64 count) := HF.out.cell 3
    refine wp_reads (by kernel_rfl) (by kernel_rfl) ?_
    repeat (refine sg_step (fun K2 hK => ?_); go_simp; refine hK.out _ ?_; clear hK K2)
    (refine sg_step (fun K2 hK => ?_); go_simp; refine ⟨_, Calls.still (HH.out 1), hK.out _ ?_⟩; clear hK K2)
    repeat (refine sg_step (fun K2 hK => ?_); go_simp; refine hK.out _ ?_; clear hK K2)
    refine sg_nil ?_
    go_wp2_with fail
    go_ret2
    exact ⟨rfl, Dev.below_d HB.out 1⟩
  have h4 : 0 ≤ count := by omega
  have h5 : count ≤ 100000000 := by omega
  have hbk : blocks ≠ blocksOf W.D.size width count := fun e => HC.out ⟨hw1, hw5, h4, h5, e⟩
  have hbb : (blocks != blocksOf W.D.size width count) = true := by simpa using hbk
  have HBL := Lib.hid (fun d => HBK.out ⟨hw1, hw5⟩ h4 h5 d)
  clear hbk HBK h2 h3
  go_enter Try.func15, Try.ntmps15
  go_wp2_with fail
  generalize w.alloc (.cells #[.int .i64 first, .int .i64 blocks, .int .i64 width, .int .i64 count] 32) = w1 at *
  have k1 : w1.cell? ⟨w.heap.size, 1, none⟩ = some (.int .i64 blocks) := HF.out.cell 1
  have k2 : w1.cell? ⟨w.heap.size, 2, none⟩ = some (.int .i64 width) := HF.out.cell 2
  have k3 : w1.cell? ⟨w.heap.size, 3, none⟩ = some (.int .i64 count) := HF.out.cell 3
  refine wp_reads (by kernel_rfl) (by kernel_rfl) ?_
  repeat (refine sg_step (fun K2 hK => ?_); go_simp; refine hK.out _ ?_; clear hK K2)
  (refine sg_step (fun K2 hK => ?_); go_simp; refine ⟨_, Calls.still (HH.out 1), hK.out _ ?_⟩; clear hK K2)
  repeat (refine sg_step (fun K2 hK => ?_); go_simp; refine hK.out _ ?_; clear hK K2)
  (refine sg_step (fun K2 hK => ?_); go_simp; refine ⟨_, Calls.still (HBL.out 1), hK.out _ ?_⟩; clear hK K2)
  repeat (refine sg_step (fun K2 hK => ?_); go_simp; refine hK.out _ ?_; clear hK K2)
  refine sg_nil ?_
  go_wp2_with fail
  go_ret2
  exact ⟨rfl, Dev.below_d HB.out 1⟩
end

end Go.Proofs.Ytmmkncocgjgapaa.Fl

/- A grant of a work's arena. -/
namespace Go.Proofs.Ytmmkncocgjgapaa.Fl
open Go.RowKit

section
variable {w w' : World} {O : Nat → Prop} {K : Key} {W : Wk} {x : Nat} {E : Nat → Prop}

def zeros (n : Nat) : List (BitVec 64) := List.replicate n 0#64
theorem zeros_cells (n : Nat) : Array.replicate n (Value.int .u64 0) = (Crc.words (zeros n)).toArray := by
  apply Array.toList_inj.1
  simp [zeros, Crc.words, Crc.I64]
/-- The set O, but for block d. -/
def but (O : Nat → Prop) (d : Nat) (g : Nat) : Prop := O g ∧ g ≠ d

def GrTold (w : World) (O : Nat → Prop) (K : Key) (W : Wk) (n : Nat) (e : Ending) (w' : World) : Prop :=
  ∃ b d, e = .returned (.tuple #[P b, .int .i64 0]) ∧ WkI w' (but O d) K { W with A := W.A.grant n b } ∧ Blk w' b 112 #[.slice (some ⟨d, 0, none⟩) n n] ∧ Blk w' d 23 (Crc.words (zeros n)).toArray ∧ w.heap.size ≤ b ∧ w.heap.size ≤ d ∧ b ≠ d ∧ Turn K (fun _ => False) w w'
theorem grant_w (hI : WkI w O K W) (n : Nat) (hn : n ≤ W.A.room - W.A.used) : Calls Try.prog 46 #[P K.a, .int .i64 (n : Int)] w (GrTold w O K W n) := by
  refine (Arena.grant_ok K.a K.r W.A n w hI.arn hn).mono ?_
  rintro e w' ⟨b, d, rfl, hA, hb, hd', h1, h2, h3, hc⟩
  have hM : WkI w (but O d) K W := hI.mono (fun g hg hO => ⟨hO, by omega⟩) (fun g hg => hI.out.2 g hg.1)
  obtain ⟨pv, hd⟩ := hM.dev
  obtain ⟨v, hs⟩ := hM.spc
  have hna : ∀ {g : Nat} {t : TypeId} {cs : Array Value}, Blk w g t cs → t ≠ 115 → ¬ (g = K.a ∨ g = K.r) := by
    intro g t cs hg h1 e
    rcases e with e | e
    · subst e; exact hg.ne_ hI.arn.blk h1 rfl
    · exact hI.arn.map.ne_blk hg e
  have hnm : ∀ r', r' ≠ K.r → (∃ es cl, w.heap[r']? = some (.map es cl)) → ¬ (r' = K.a ∨ r' = K.r) := by
    rintro r' hr ⟨es, cl, hm⟩ (e | e)
    · subst e; have := hI.arn.blk; unfold Blk at this; rw [hm] at this; cases this
    · exact hr e
  obtain ⟨kl, ⟨esl, cl, hl, _⟩, _⟩ := hd.lasts
  obtain ⟨kn, ⟨esn, cn, hn, _⟩, _⟩ := hd.now
  rw [zeros_cells] at hd'
  refine ⟨b, d, rfl, ⟨hI.box.chg hc (hna hI.box (by decide)), ⟨pv, hd.chg hc (hna hd.box (by decide)) (hnm _ (Ne.symm hI.maps.1) ⟨_, _, hl⟩) (hnm _ (Ne.symm hI.maps.2) ⟨_, _, hn⟩) (fun g hg => ?_) (fun g cs _ hg => hna hg (by decide))⟩, hA, ⟨v, ⟨hs.blk.chg hc (hna hs.blk (by decide)), own_chg hs.own hc (fun g hg => ?_), hs.F_le, hs.B_le, hs.L_le, hs.in_⟩⟩, hI.inv, hI.maps, hI.small, hI.out.1, fun g hg => hI.out.2 g hg.1⟩, hb, hd', h1, h2, h3, hc.mono (fun k _ e => ?_)⟩
  · obtain ⟨pr, hp, _⟩ := hd.pend
    rintro (e | e)
    · subst e; exact own_ne_blk hp hI.arn.blk (by decide) hg
    · subst e; exact hI.arn.map.ne_own hp hg
  · rintro (e | e)
    · subst e; exact own_ne_blk hs.own hI.arn.blk (by decide) hg
    · subst e; exact hI.arn.map.ne_own hs.own hg
  · rcases e with e | e
    · exact .inr (.inr (.inr (.inl e)))
    · exact .inr (.inr (.inr (.inr (.inl e))))
theorem grant_no (hI : WkI w O K W) (hn : (W.A.room : Int) - W.A.used < W.D.size) : Calls Try.prog 46 #[P K.a, .int .i64 (W.D.size : Int)] w fun e w' => e = .returned (.tuple #[.pointer none, .int .i64 7]) ∧ Arena.Quiet w w' :=
  Arena.grant_room K.a K.r W.A W.D.size w hI.arn hn
theorem grant_st (A : Arena.Ar) (n b : Nat) : (b, n) ∈ (A.grant n b).st := by simp [Arena.Ar.grant]

def OpenOk (w : World) (O : Nat → Prop) (K : Key) (W : Wk) (first blocks width count : Int) (e : Ending) (w' : World) : Prop :=
  ∃ x b d, e = .returned (.tuple #[P x, .int .i64 0]) ∧ WkI w' (but O d) K { W with A := W.A.grant W.D.size b } ∧
    RdAt w' (but O d) K { W with A := W.A.grant W.D.size b } x ⟨first, blocks, width, count, b, d, 0, 0, 0, 0, false, zeros W.D.size⟩ ∧ w.heap.size ≤ x ∧ w.heap.size ≤ b ∧ w.heap.size ≤ d ∧ Turn K (fun _ => False) w w'

set_option maxRecDepth 100000 in
set_option maxHeartbeats 4000000 in
theorem open_room (first blocks width count : Int) (hI : WkI w O K W) (hc : CanBe W.D.size blocks width count) (hn : (W.A.room : Int) - W.A.used < W.D.size) : Calls Try.prog 15 #[P K.wk, .agg (fvals first blocks width count)] w (OpenNo w 7) := by
  have hb : Below w.heap.size w (w.alloc (.cells (fvals first blocks width count) 32)) := (Below.refl _ _).alloc (Nat.le_refl _) _
  have hF := Blk.new w 32 (fvals first blocks width count)
  have HF := Lib.hid hF
  obtain ⟨hw1, hw5, h4, h5, hbk⟩ := hc
  have HH := Lib.hid (fun d => holds_any ((hI.below hb).drewN d) width)
  have HBL := Lib.hid (fun d => blocks_any ((hI.below hb).drewN d) width count ⟨hw1, hw5⟩ h4 h5)
  have HG := Lib.hid (grant_no (hI.below hb).drew.drew hn)
  have HS := Lib.hid (dsize_any (hI.below hb).drew.drew)
  obtain ⟨s8, s256⟩ := hI.size
  obtain ⟨g1, g2, g3, g4⟩ := holds_bd (width := width) s8 s256
  have g5 := g3 hw1 hw5
  have HB := Lib.hid hb
  have HI := Lib.hid (hI.below hb)
  have hbb : (blocks != blocksOf W.D.size width count) = false := by rw [hbk]; simp
  unfold fvals at *
  clear hb hI hF hbk
  generalize holds W.D.size width = n at *
  have hn0 : (n == 0) = false := by rw [beq_eq_false_iff_ne]; omega
  clear g3 g4
  go_enter Try.func15, Try.ntmps15
  go_wp2_with fail
  generalize w.alloc (.cells #[.int .i64 first, .int .i64 blocks, .int .i64 width, .int .i64 count] 32) = w1 at *
  have k1 : w1.cell? ⟨w.heap.size, 1, none⟩ = some (.int .i64 blocks) := HF.out.cell 1
  have k2 : w1.cell? ⟨w.heap.size, 2, none⟩ = some (.int .i64 width) := HF.out.cell 2
  have k3 : w1.cell? ⟨w.heap.size, 3, none⟩ = some (.int .i64 count) := HF.out.cell 3
  refine wp_reads (by kernel_rfl) (by kernel_rfl) ?_
  repeat (refine sg_step (fun K2 hK => ?_); go_simp; refine hK.out _ ?_; clear hK K2)
  (refine sg_step (fun K2 hK => ?_); go_simp; refine ⟨_, Calls.still (HH.out 1), hK.out _ ?_⟩; clear hK K2)
  repeat (refine sg_step (fun K2 hK => ?_); go_simp; refine hK.out _ ?_; clear hK K2)
  (refine sg_step (fun K2 hK => ?_); go_simp; refine ⟨_, Calls.still (HBL.out 1), hK.out _ ?_⟩; clear hK K2)
  repeat (refine sg_step (fun K2 hK => ?_); go_simp; refine hK.out _ ?_; clear hK K2)
  refine sg_nil ?_
  go_wp2_with fail
  have j0 : w1.drew.drew.cell? ⟨K.wk, 0, none⟩ = some (P K.d) := HI.out.box.cell 0
  have j1 : w1.drew.drew.cell? ⟨K.wk, 1, none⟩ = some (P K.a) := HI.out.box.cell 1
  clear k1 k2 k3 HH HBL
  refine wp_reads_one 9 (by kernel_rfl) rfl (by kernel_rfl) (fun _ _ d _ _ h => by cases d <;> exact h) ?_; simp only [List.take_succ_cons, List.take_zero, List.drop_succ_cons, List.drop_zero]
  repeat (refine sg_step (fun K2 hK => ?_); go_simp; refine hK.out _ ?_; clear hK K2)
  (refine sg_step (fun K2 hK => ?_); go_simp; refine ⟨_, Calls.still (HS.out), hK.out _ ?_⟩; clear hK K2)
  repeat (refine sg_step (fun K2 hK => ?_); go_simp; refine hK.out _ ?_; clear hK K2)
  refine sg_nil (fun K hK => ?_); go_simp
  refine HG.out.mono ?_
  rintro e w2 ⟨rfl, q, rfl⟩
  refine hK.out _ _ ?_; clear hK K
  repeat (refine sg_step (fun K2 hK => ?_); go_simp; refine hK.out _ ?_; clear hK K2)
  refine sg_nil ?_
  go_wp2_with fail
  go_ret2
  exact ⟨rfl, ⟨HB.out.os, HB.out.tape, HB.out.output, HB.out.size, HB.out.block⟩⟩

set_option maxRecDepth 100000 in
set_option maxHeartbeats 4000000 in
theorem open_ok (first blocks width count : Int) (hI : WkI w O K W) (hc : CanBe W.D.size blocks width count) (hn : W.D.size ≤ W.A.room - W.A.used) : Calls Try.prog 15 #[P K.wk, .agg (fvals first blocks width count)] w (OpenOk w O K W first blocks width count) := by
  have hb : Below w.heap.size w (w.alloc (.cells (fvals first blocks width count) 32)) := (Below.refl _ _).alloc (Nat.le_refl _) _
  have hF := Blk.new w 32 (fvals first blocks width count)
  have HF := Lib.hid hF
  obtain ⟨hw1, hw5, h4, h5, hbk⟩ := hc
  have HH := Lib.hid (fun d => holds_any ((hI.below hb).drewN d) width)
  have HBL := Lib.hid (fun d => blocks_any ((hI.below hb).drewN d) width count ⟨hw1, hw5⟩ h4 h5)
  have HG := Lib.hid (grant_w (hI.below hb).drew.drew W.D.size hn)
  have HS := Lib.hid (dsize_any (hI.below hb).drew.drew)
  obtain ⟨s8, s256⟩ := hI.size
  obtain ⟨g1, g2, g3, g4⟩ := holds_bd (width := width) s8 s256
  have g5 := g3 hw1 hw5
  have HB := Lib.hid hb
  have HI := Lib.hid (hI.below hb)
  have hbb : (blocks != blocksOf W.D.size width count) = false := by rw [hbk]; simp
  unfold fvals at *
  clear hb hI hF hbk
  generalize holds W.D.size width = n at *
  have hn0 : (n == 0) = false := by rw [beq_eq_false_iff_ne]; omega
  clear g3 g4
  go_enter Try.func15, Try.ntmps15
  go_wp2_with fail
  generalize w.alloc (.cells #[.int .i64 first, .int .i64 blocks, .int .i64 width, .int .i64 count] 32) = w1 at *
  have k1 : w1.cell? ⟨w.heap.size, 1, none⟩ = some (.int .i64 blocks) := HF.out.cell 1
  have k2 : w1.cell? ⟨w.heap.size, 2, none⟩ = some (.int .i64 width) := HF.out.cell 2
  have k3 : w1.cell? ⟨w.heap.size, 3, none⟩ = some (.int .i64 count) := HF.out.cell 3
  refine wp_reads (by kernel_rfl) (by kernel_rfl) ?_
  repeat (refine sg_step (fun K2 hK => ?_); go_simp; refine hK.out _ ?_; clear hK K2)
  (refine sg_step (fun K2 hK => ?_); go_simp; refine ⟨_, Calls.still (HH.out 1), hK.out _ ?_⟩; clear hK K2)
  repeat (refine sg_step (fun K2 hK => ?_); go_simp; refine hK.out _ ?_; clear hK K2)
  (refine sg_step (fun K2 hK => ?_); go_simp; refine ⟨_, Calls.still (HBL.out 1), hK.out _ ?_⟩; clear hK K2)
  repeat (refine sg_step (fun K2 hK => ?_); go_simp; refine hK.out _ ?_; clear hK K2)
  refine sg_nil ?_
  go_wp2_with fail
  have j0 : w1.drew.drew.cell? ⟨K.wk, 0, none⟩ = some (P K.d) := HI.out.box.cell 0
  have j1 : w1.drew.drew.cell? ⟨K.wk, 1, none⟩ = some (P K.a) := HI.out.box.cell 1
  clear k1 k2 k3 HH HBL
  refine wp_reads_one 9 (by kernel_rfl) rfl (by kernel_rfl) (fun _ _ d _ _ h => by cases d <;> exact h) ?_; simp only [List.take_succ_cons, List.take_zero, List.drop_succ_cons, List.drop_zero]
  repeat (refine sg_step (fun K2 hK => ?_); go_simp; refine hK.out _ ?_; clear hK K2)
  (refine sg_step (fun K2 hK => ?_); go_simp; refine ⟨_, Calls.still (HS.out), hK.out _ ?_⟩; clear hK K2)
  repeat (refine sg_step (fun K2 hK => ?_); go_simp; refine hK.out _ ?_; clear hK K2)
  refine sg_nil (fun K hK => ?_); go_simp
  refine HG.out.mono ?_
  rintro e w2 ⟨b, d, rfl, hI2, hb2, hd2, q1, q2, q3, ht2⟩
  refine hK.out _ _ ?_; clear hK K
  repeat (refine sg_step (fun K2 hK => ?_); go_simp; refine hK.out _ ?_; clear hK K2)
  refine sg_nil ?_
  have hF2 : Blk w2 w.heap.size 32 #[.int .i64 first, .int .i64 blocks, .int .i64 width, .int .i64 count] := HI.out.drew.drew.blk ht2 HF.out (by decide) (by decide) (by decide) (by decide) (by decide) (fun h => h)
  have k0 : w2.cell? ⟨w.heap.size, 0, none⟩ = some (.int .i64 first) := hF2.cell 0
  have k1 : w2.cell? ⟨w.heap.size, 1, none⟩ = some (.int .i64 blocks) := hF2.cell 1
  have k2 : w2.cell? ⟨w.heap.size, 2, none⟩ = some (.int .i64 width) := hF2.cell 2
  have k3 : w2.cell? ⟨w.heap.size, 3, none⟩ = some (.int .i64 count) := hF2.cell 3
  have HI2 := Lib.hid hI2
  have HB2 := Lib.hid hb2
  have HD2 := Lib.hid hd2
  have HT2 := Lib.hid ht2
  have hz1 : w.heap.size ≤ w1.heap.size := HB.out.size
  have hzz : w1.heap.size ≤ w2.heap.size := ht2.size
  have q1' : w1.heap.size ≤ b := q1
  have q2' : w1.heap.size ≤ d := q2
  clear hI2 hb2 hd2 ht2 hF2 j0 j1 HS HG q1 q2
  go_wp2_with fail
  go_ret2
  have hbn : Below w2.heap.size w2 (w2.alloc (.cells (rcells K ⟨first, blocks, width, count, b, d, 0, 0, 0, 0, false, zeros W.D.size⟩) 110)) := (Below.refl _ _).alloc (Nat.le_refl _) _
  have HF' := HT2.out
  refine ⟨w2.heap.size, b, d, rfl, HI2.out.below hbn, ⟨Blk.new w2 _ _, fun _ => ⟨HB2.out.below hbn HB2.out.lt, HD2.out.below hbn HD2.out.lt, by simp [zeros], fun h => h.2 rfl, grant_st _ _ _⟩, ⟨hw1, hw5⟩, ⟨h4, h5⟩⟩, by omega, by omega, by omega, ?_⟩
  have t0 : Turn K (fun _ => False) w w1.drew.drew := (Turn.below ⟨HB.out.os, HB.out.tape, HB.out.output, HB.out.size, HB.out.block⟩)
  exact (t0.trans HT2.out).trans (Turn.below hbn)
end

end Go.Proofs.Ytmmkncocgjgapaa.Fl
