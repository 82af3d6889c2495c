/- Texts of mine, packed: Reg, Reg3, Reg4, MfForm2. -/
import Derived.Test.YtmmkncocgjgapaaDoorK3
import Derived.WalkKit
import Derived.Deep.RegionHeld3
import Derived.StillTailTactics
set_option linter.unusedVariables false

/- Regions that draw their order: an operation that reads may be taken first if what can come ahead of it keeps what it reads; what comes behind it need not. No condition. -/
namespace Go.Proofs.YtmmkncocgjgapaaDoor
open Go.RowKit

section
variable {P : Program} {ops : Array Oper} {Q : Exit → Act → World → Prop} {md : Region.Mode} {F : World → Prop} {late : Nat → Bool}

/-- Whatever order is picked from here on; F holds behind every operation that is not late. -/
def AnyS (P : Program) (md : Region.Mode) (ops : Array Oper) (Q : Exit → Act → World → Prop) (F : World → Prop) (late : Nat → Bool) : Nat → Array Bool → Act → World → Prop
  | 0, listed, a, w => Region.ready md ops listed = [] ∧ Q .normal a w
  | f + 1, listed, a, w => (Region.ready md ops listed = [] → Q .normal a w) ∧
      ∀ i ∈ Region.ready md ops listed, wpOp P ops Q i (fun a' w' => (late i = false → F w') ∧ AnyS P md ops Q F late f (listed.setIfInBounds i true) a' w') a w

theorem any_of_S : ∀ (f : Nat) (listed : Array Bool) (a : Act) (w : World), AnyS P md ops Q F late f listed a w → wpAny P md ops Q f listed a w
  | 0, _, _, _, h => h
  | f + 1, _, _, _, h => ⟨h.1, fun i hi => wpOp_mono (fun a' w' h' => any_of_S f _ a' w' h'.2) (h.2 i hi)⟩

/-- All that can come up without operation i. -/
def withoutIt (md : Region.Mode) (ops : Array Oper) (i : Nat) (listed : Array Bool) : Array Bool :=
  (List.range ops.size).foldl (fun C j => if j != i && ((ops[j]?).map (·.after.all fun e => !Region.binds md e || C.getD e.on false)).getD false then C.setIfInBounds j true else C) listed
/-- C is closed, but for i, and holds no late one. -/
def closedB (md : Region.Mode) (ops : Array Oper) (late : Nat → Bool) (listed : Array Bool) (i : Nat) (C : Array Bool) : Bool :=
  ((List.range listed.size).all fun j => !listed.getD j false || C.getD j false) &&
  ((List.range ops.size).all fun j => j == i || C.getD j false || ((ops[j]?).map (·.after.any fun e => Region.binds md e && !C.getD e.on false)).getD true) &&
  ((List.range C.size).all fun j => !C.getD j false || listed.getD j false || !late j)
def takeB (md : Region.Mode) (ops : Array Oper) (late : Nat → Bool) (listed : Array Bool) (i : Nat) : Bool :=
  Region.noSelect ops && Region.free md ops listed i && (Region.ready md ops listed).contains i && closedB md ops late listed i (withoutIt md ops i listed)

theorem getD_lt {A : Array Bool} {j : Nat} (h : A.getD j false = true) : j < A.size := by
  rcases Nat.lt_or_ge j A.size with h' | h'
  · exact h'
  · simp [Array.getElem?_eq_none h'] at h
theorem closed_spec {listed C : Array Bool} {i : Nat} (h : closedB md ops late listed i C = true) :
    (∀ j, listed.getD j false = true → C.getD j false = true) ∧
    (∀ j oj, ops[j]? = some oj → j ≠ i → C.getD j false = false → ∃ e ∈ oj.after, Region.binds md e = true ∧ C.getD e.on false = false) ∧
    (∀ j, C.getD j false = true → listed.getD j false = false → late j = false) := by
  unfold closedB at h
  simp only [Bool.and_eq_true, List.all_eq_true, List.mem_range] at h
  obtain ⟨⟨h1, h2⟩, h3⟩ := h
  refine ⟨fun j hj => ?_, fun j oj hj hne hC => ?_, fun j hj hl => ?_⟩
  · have := h1 j (getD_lt hj)
    rw [hj] at this
    simpa using this
  · have := h2 j (Array.getElem?_eq_some_iff.1 hj).1
    rw [hj, hC] at this
    have hb : (j == i) = false := by simpa using hne
    rw [hb] at this
    simp only [Bool.or_false, Bool.false_or, Option.map_some, Option.getD_some, Array.any_eq_true', Bool.and_eq_true, Bool.not_eq_true'] at this
    obtain ⟨e, he, hb, hc⟩ := this
    exact ⟨e, he, hb, hc⟩
  · have := h3 j (getD_lt hj)
    rw [hj, hl] at this
    simpa using this

theorem anyS_first {i : Nat} {oi : Oper} {v : Value} (C : Array Bool) (hi : ops[i]? = some oi) (hsel : ∀ (j : Nat) (o : Oper) cs b, ops[j]? = some o → o.op ≠ .select cs b)
    (hQ : ∀ c a w, Q (.panic c) (a.put oi.dst v) w → Q (.panic c) a w)
    (hC : ∀ j oj, ops[j]? = some oj → j ≠ i → C.getD j false = false → ∃ e ∈ oj.after, Region.binds md e = true ∧ C.getD e.on false = false) :
    ∀ (f : Nat) (listed : Array Bool) (a : Act) (w : World),
      (∀ j, listed.getD j false = true → C.getD j false = true) → (∀ j, C.getD j false = true → listed.getD j false = false → late j = false) →
      (∀ j oj, ops[j]? = some oj → j ≠ i → listed.getD j true = false → (∀ e ∈ oj.after, Region.binds md e = true → e.on ≠ i) → oi.apart ops oj = true) →
      i ∈ Region.ready md ops listed → YieldsIf P ops F oi v a → F w →
      AnyS P md ops Q F late f (listed.setIfInBounds i true) (a.put oi.dst v) w → AnyS P md ops Q F late (f + 1) listed a w := by
  intro f
  induction f with
  | zero =>
    intro listed a w hsub hlate _ hr hy hF H
    refine ⟨fun h => (by rw [h] at hr; cases hr), fun j hj => ?_⟩
    by_cases hji : j = i
    · subst hji; exact hy.wpOp hi hF ⟨fun _ => hF, H⟩
    · have := ready_mono hj hji
      rw [H.1] at this
      cases this
  | succ f ih =>
    intro listed a w hsub hlate hfree hr hy hF H
    refine ⟨fun h => (by rw [h] at hr; cases hr), fun j hj => ?_⟩
    by_cases hji : j = i
    · subst hji; exact hy.wpOp hi hF ⟨fun _ => hF, H⟩
    · have h1 := H.2 j (ready_mono hj hji)
      obtain ⟨hjun, oj, hoj, hall⟩ := mem_ready.1 hj
      have hjC : C.getD j false = true := by
        cases hc : C.getD j false with
        | true => rfl
        | false =>
          obtain ⟨e, he, hb, hn⟩ := hC j oj hoj hji hc
          rw [hsub _ (hall e he hb)] at hn
          cases hn
      have hjl : late j = false := hlate j hjC (getD_both hjun)
      have hnot : ∀ e ∈ oj.after, Region.binds md e = true → e.on ≠ i := fun e he hb heq => by
        have h1 := hall e he hb
        have h0 := (mem_ready.1 hr).1
        rw [heq] at h1
        rw [getD_both h0] at h1
        cases h1
      have h2 := wpOp_putIf hoj (hfree j oj hoj hji hjun hnot) (fun cs b => hsel i oi cs b hi) (fun cs b => hsel j oj cs b hoj) hQ hy h1
      have hfree' : ∀ k ok, ops[k]? = some ok → k ≠ i → (listed.setIfInBounds j true).getD k true = false →
          (∀ e ∈ ok.after, Region.binds md e = true → e.on ≠ i) → oi.apart ops ok = true := fun k ok hk hki hun hno => by
        refine hfree k ok hk hki ?_ hno
        by_cases hjk : j = k
        · subst hjk; exact hjun
        · rw [getD_set_ne true hjk] at hun; exact hun
      have hsub' : ∀ k, (listed.setIfInBounds j true).getD k false = true → C.getD k false = true := fun k hk => by
        by_cases hjk : j = k
        · subst hjk; exact hjC
        · rw [getD_set_ne false hjk] at hk; exact hsub k hk
      have hlate' : ∀ k, C.getD k false = true → (listed.setIfInBounds j true).getD k false = false → late k = false := fun k hk hn => by
        refine hlate k hk ?_
        cases hl : listed.getD k false with
        | false => rfl
        | true => rw [getD_set_true hl] at hn; cases hn
      refine wpOp_mono (fun a' w' h3 => ⟨fun _ => h3.2.1 hjl, ih (listed.setIfInBounds j true) a' w' hsub' hlate' hfree' (ready_mono hr (Ne.symm hji)) h3.1 (h3.2.1 hjl) ?_⟩) h2
      rw [Array.setIfInBounds_comm _ _ hji]
      exact h3.2.2

theorem anyS_take {i : Nat} {oi : Oper} {v : Value} {f : Nat} {listed : Array Bool} {a : Act} {w : World} (hi : ops[i]? = some oi) (ht : takeB md ops late listed i = true)
    (hQ : ∀ c a w, Q (.panic c) (a.put oi.dst v) w → Q (.panic c) a w) (hy : YieldsIf P ops F oi v a) (hF : F w)
    (h : AnyS P md ops Q F late f (listed.setIfInBounds i true) (a.put oi.dst v) w) : AnyS P md ops Q F late (f + 1) listed a w := by
  unfold takeB at ht
  simp only [Bool.and_eq_true] at ht
  obtain ⟨⟨⟨h1, h2⟩, h3⟩, h4⟩ := ht
  obtain ⟨c1, c2, c3⟩ := closed_spec h4
  exact anyS_first _ hi (Region.noSelect_spec h1) hQ c2 f listed a w c1 c3 (Region.free_spec hi h2) (by simpa using h3) hy hF h

theorem regS_begin {id : Nat} {a : Act} {w : World} (F : World → Prop) (late : Nat → Bool) (hm : P.follows .mixedOrders = true) (hF : F w.drew)
    (h : F w.drew → AnyS P .any ops Q F late ops.size (Array.replicate ops.size false) a w.drew) : (Code.region id ops true).wp P Q a w :=
  wp_region_any hm (any_of_S _ _ _ _ (h hF))

/-- One alone may come up: it is carried out. -/
theorem anyS_one (j : Nat) {oj : Oper} {f : Nat} {listed : Array Bool} {a : Act} {w : World} (hr : Region.ready md ops listed = [j]) (hj : ops[j]? = some oj)
    (h : ∀ K' : Act → World → Prop, Shut (∀ a w, (late j = false → F w) → ((late j = false → F w) → AnyS P md ops Q F late f (listed.setIfInBounds j true) a w) → K' a w) →
      if Region.wanted oj (yielded ops a.tmps) = true then Oper.wp P oj a w K' Q else K' (a.put oj.dst undef) w) : AnyS P md ops Q F late (f + 1) listed a w := by
  refine ⟨fun h0 => (by rw [hr] at h0; cases h0), fun i hi => ?_⟩
  rw [hr] at hi
  obtain rfl := List.mem_singleton.1 hi
  exact wpOp_step hj (fun K' hK => h K' (fun a w h1 h2 => hK a w ⟨h1, h2 h1⟩))

/-- What is left comes up in its order, all of it late. -/
theorem anyS_seq : ∀ (l : List Oper) (k : Nat) (listed : Array Bool) (a : Act) (w : World), (∀ j, l[j]? = ops[k + j]?) → (∀ j, k ≤ j → late j = true) →
    Region.seqB md ops l.length k listed = true → wpList P ops Q l a w → AnyS P md ops Q F late l.length listed a w
  | [], _, _, _, _, _, _, hB, h => ⟨by simpa [Region.seqB] using hB, h⟩
  | o :: l, k, listed, a, w, hl, hk, hB, h => by
    have h0 : ops[k]? = some o := by simpa using (hl 0).symm
    simp only [List.length_cons, Region.seqB, Bool.and_eq_true, decide_eq_true_eq] at hB
    refine ⟨fun h1 => (by rw [hB.1] at h1; cases h1), fun i hi => ?_⟩
    rw [hB.1] at hi
    have hik : i = k := by simpa using hi
    subst hik
    have hw : wpOp P ops Q i (wpList P ops Q l) a w := by unfold wpOp; simp only [h0]; exact h
    exact wpOp_mono (fun a' w' h' => ⟨fun h => (by rw [hk i (Nat.le_refl _)] at h; cases h), anyS_seq l (i + 1) _ a' w' (fun j => by have := hl (j + 1); simpa [Nat.add_assoc, Nat.add_comm 1 j] using this) (fun j hj => hk j (by omega)) hB.2 h'⟩) hw

theorem anyS_done {f : Nat} {listed : Array Bool} {a : Act} {w : World} (hr : Region.ready md ops listed = []) (h : Q .normal a w) : AnyS P md ops Q F late f listed a w := by
  cases f with
  | zero => exact ⟨hr, h⟩
  | succ f => exact ⟨fun _ => h, by rw [hr]; simp⟩
/-- What is left is late: then another F and another reckoning of lateness will do. -/
theorem anyS_switch {F' : World → Prop} {late' : Nat → Bool} : ∀ (f : Nat) (listed : Array Bool) (a : Act) (w : World), (∀ i, listed.getD i true = false → late i = true) → AnyS P md ops Q F' late' f listed a w → AnyS P md ops Q F late f listed a w
  | 0, _, _, _, _, h => h
  | f + 1, listed, a, w, hl, h => ⟨h.1, fun i hi => by
      have hi0 := (mem_ready.1 hi).1
      refine wpOp_mono (fun a' w' h' => ⟨fun h0 => (by rw [hl i hi0] at h0; cases h0), anyS_switch f _ a' w' (fun j hj => hl j ?_) h'.2⟩) (h.2 i hi)
      by_cases hij : i = j
      · subst hij; exact hi0
      · rwa [getD_set_ne true hij] at hj⟩

/-- The operations from k on, so many, may be taken one behind the other. -/
def takesB (md : Region.Mode) (ops : Array Oper) (late : Nat → Bool) : Nat → Nat → Array Bool → Bool
  | 0, _, _ => true
  | f + 1, k, listed => takeB md ops late listed k && takesB md ops late f (k + 1) (listed.setIfInBounds k true)
def setAll : Nat → Nat → Array Bool → Array Bool
  | 0, _, listed => listed
  | f + 1, k, listed => setAll f (k + 1) (listed.setIfInBounds k true)

/-- What an operation does to a frame in which another one's place is already filled, it does to the frame without. Y: what is known of the frame. -/
theorem wpOp_ahead {j : Nat} {d : Option Tmp} {oj : Oper} {v : Value} {Y : Act → Prop} (hj : ops[j]? = some oj) (h1 : ∀ e, d = some e → e ∉ oj.looksAt ops) (h2 : ∀ e, d = some e → oj.dst ≠ some e)
    (hsj : ∀ cs b, oj.op ≠ .select cs b) (hY : ∀ a u, Y a → Y (a.put oj.dst u)) (hD : ∀ (a : Act) x, Y a → Y { a with defers := x :: a.defers })
    (hQ : ∀ c a w, Q (.panic c) (Act.put a d v) w → Q (.panic c) a w) {K : Act → World → Prop} {a : Act} {w : World} (hy : Y a) (h : wpOp P ops Q j K (a.put d v) w) :
    wpOp P ops Q j (fun a' w' => Y a' ∧ K (a'.put d v) w') a w := by
  unfold wpOp at *
  simp only [hj] at *
  rw [wanted_put oj a d v h1] at h
  by_cases hw : Region.wanted oj (yielded ops a.tmps) = true
  · rw [if_pos hw] at h ⊢
    have hx := execOp_put oj hsj a d v h1
    rcases h with h | ⟨ha, hl⟩
    · left
      unfold Oper.wp at *
      rw [hx] at h
      generalize (execOp a.eval oj).run P w = r at *
      match r with
      | .ok (.value u) w' =>
        simp only [Oper.upon] at h ⊢
        exact ⟨hY a u hy, (Act.put_comm a v u h2) ▸ h⟩
      | .ok .skip w' =>
        simp only [Oper.upon] at h ⊢
        exact ⟨hY a undef hy, (Act.put_comm a v undef h2) ▸ h⟩
      | .ok (.defer x) w' =>
        simp only [Oper.upon] at h ⊢
        refine ⟨hY _ _ (hD a x hy), ?_⟩
        rw [← Act.put_comm _ v undef h2, ← Act.put_defers]
        exact h
      | .ok (.enter f args) w' =>
        simp only [Oper.upon] at h ⊢
        refine h.mono fun e w2 he => ?_
        match e, he with
        | .returned u, he => exact ⟨hY a u hy, (Act.put_comm a v u h2) ▸ he⟩
        | .panicked c, he => exact hQ _ _ _ he
        | .outgrown, he => exact he
      | .ok (.row row args) w' =>
        simp only [Oper.upon] at h ⊢
        exact Rows.mono h fun u w2 he => ⟨hY a u hy, (Act.put_comm a v u h2) ▸ he⟩
      | .halt (.panic u) w' =>
        simp only [Oper.upon] at h ⊢
        exact hQ _ _ _ h
    · right
      refine ⟨?_, hl⟩
      unfold Oper.asks at *
      rw [hx] at ha
      exact ha
  · rw [if_neg hw] at h ⊢
    exact ⟨hY a undef hy, (Act.put_comm a v undef h2) ▸ h⟩

theorem anyS_takeAt {w0 : World} {i : Nat} {oi : Oper} {v : Value} (C : Array Bool) (hi : ops[i]? = some oi) (hsel : ∀ (j : Nat) (o : Oper) cs b, ops[j]? = some o → o.op ≠ .select cs b)
    (hQ : ∀ c a w, Q (.panic c) (Act.put a oi.dst v) w → Q (.panic c) a w)
    (hC : ∀ j oj, ops[j]? = some oj → j ≠ i → C.getD j false = false → ∃ e ∈ oj.after, Region.binds md e = true ∧ C.getD e.on false = false) :
    ∀ (f : Nat) (listed : Array Bool) (a : Act),
      (∀ j, listed.getD j false = true → C.getD j false = true) → (∀ j, C.getD j false = true → listed.getD j false = false → late j = false) →
      (∀ j oj, ops[j]? = some oj → j ≠ i → listed.getD j true = false → (∀ e ∈ oj.after, Region.binds md e = true → e.on ≠ i) → oi.apart ops oj = true) →
      i ∈ Region.ready md ops listed → YieldsAt P ops w0 oi v a →
      AnyS P md ops Q (fun w' => w' = w0) late f (listed.setIfInBounds i true) (a.put oi.dst v) w0 → AnyS P md ops Q (fun w' => w' = w0) late (f + 1) listed a w0 := by
  intro f
  induction f with
  | zero =>
    intro listed a hsub hlate _ hr hy H
    refine ⟨fun h => (by rw [h] at hr; cases hr), fun j hj => ?_⟩
    by_cases hji : j = i
    · subst hji
      exact wpOp_of_stOp (K := fun a' => AnyS P md ops Q (fun w' => w' = w0) late 0 (listed.setIfInBounds j true) a' w0) (fun a' h' => ⟨fun _ => rfl, h'⟩) (hy.stOp hi H)
    · have := ready_mono hj hji
      rw [H.1] at this
      cases this
  | succ f ih =>
    intro listed a hsub hlate hfree hr hy H
    refine ⟨fun h => (by rw [h] at hr; cases hr), fun j hj => ?_⟩
    by_cases hji : j = i
    · subst hji
      exact wpOp_of_stOp (K := fun a' => AnyS P md ops Q (fun w' => w' = w0) late (f + 1) (listed.setIfInBounds j true) a' w0) (fun a' h' => ⟨fun _ => rfl, h'⟩) (hy.stOp hi H)
    · have h1 := H.2 j (ready_mono hj hji)
      obtain ⟨hjun, oj, hoj, hall⟩ := mem_ready.1 hj
      have hjC : C.getD j false = true := by
        cases hc : C.getD j false with
        | true => rfl
        | false =>
          obtain ⟨e, he, hb, hn⟩ := hC j oj hoj hji hc
          rw [hsub _ (hall e he hb)] at hn
          cases hn
      have hjl : late j = false := hlate j hjC (getD_both hjun)
      have hnot : ∀ e ∈ oj.after, Region.binds md e = true → e.on ≠ i := fun e he hb heq => by
        have h1 := hall e he hb
        have h0 := (mem_ready.1 hr).1
        rw [heq] at h1
        rw [getD_both h0] at h1
        cases h1
      obtain ⟨p1, p2, p3⟩ := Oper.apart_spec (hfree j oj hoj hji hjun hnot)
      have h2 := wpOp_ahead (Y := fun a => YieldsAt P ops w0 oi v a) hoj p1 p2 (fun cs b => hsel j oj cs b hoj)
        (fun a u hy => hy.of_same (execOp_put oi (fun cs b => hsel i oi cs b hi) a oj.dst u p3) (wanted_put oi a oj.dst u p3)) (fun a x hy => hy.of_same rfl rfl) hQ hy h1
      have hfree' : ∀ k ok, ops[k]? = some ok → k ≠ i → (listed.setIfInBounds j true).getD k true = false →
          (∀ e ∈ ok.after, Region.binds md e = true → e.on ≠ i) → oi.apart ops ok = true := fun k ok hk hki hun hno => by
        refine hfree k ok hk hki ?_ hno
        by_cases hjk : j = k
        · subst hjk; exact hjun
        · rw [getD_set_ne true hjk] at hun; exact hun
      have hsub' : ∀ k, (listed.setIfInBounds j true).getD k false = true → C.getD k false = true := fun k hk => by
        by_cases hjk : j = k
        · subst hjk; exact hjC
        · rw [getD_set_ne false hjk] at hk; exact hsub k hk
      have hlate' : ∀ k, C.getD k false = true → (listed.setIfInBounds j true).getD k false = false → late k = false := fun k hk hn => by
        refine hlate k hk ?_
        cases hl : listed.getD k false with
        | false => rfl
        | true => rw [getD_set_true hl] at hn; cases hn
      refine wpOp_mono (fun a' w' h3 => ?_) h2
      have hw' : w' = w0 := h3.2.1 hjl
      subst hw'
      refine ⟨fun _ => rfl, ih (listed.setIfInBounds j true) a' hsub' hlate' hfree' (ready_mono hr (Ne.symm hji)) h3.1 ?_⟩
      rw [Array.setIfInBounds_comm _ _ hji]
      exact h3.2.2

theorem anyS_still {w : World} {Lq : Act → Prop} {g : Nat} (hQ : ∀ c a d v w, Q (.panic c) (Act.put a d v) w → Q (.panic c) a w) : ∀ (l : List Oper) (k : Nat) (listed : Array Bool) (a : Act), (∀ j, j < l.length → l[j]? = ops[k + j]?) →
    takesB md ops late l.length k listed = true → wpStill P ops w Lq l a → (∀ a', Lq a' → AnyS P md ops Q (fun w' => w' = w) late g (setAll l.length k listed) a' w) → AnyS P md ops Q (fun w' => w' = w) late (l.length + g) listed a w
  | [], k, listed, a, _, _, h, hn => by
    rw [List.length_nil, Nat.zero_add]
    exact hn a h
  | o :: l, k, listed, a, hl, hB, h, hn => by
    have h0 : ops[k]? = some o := by simpa using (hl 0 (by simp)).symm
    simp only [List.length_cons, takesB, Bool.and_eq_true] at hB
    have hst : stOp P ops w k (wpStill P ops w Lq l) a := by unfold stOp; simp only [h0]; exact h
    obtain ⟨v, hy, hK⟩ := yieldsAt_of_stOp h0 hst
    rw [List.length_cons, show l.length + 1 + g = (l.length + g) + 1 from by omega]
    have ht := hB.1
    unfold takeB at ht
    simp only [Bool.and_eq_true] at ht
    obtain ⟨⟨⟨t1, t2⟩, t3⟩, t4⟩ := ht
    obtain ⟨c1, c2, c3⟩ := closed_spec t4
    refine anyS_takeAt _ h0 (Region.noSelect_spec t1) (fun c a w h => hQ c a _ _ w h) c2 _ listed a c1 c3 (Region.free_spec h0 t2) (by simpa using t3) hy ?_
    exact anyS_still hQ l (k + 1) _ _ (fun j hj => by have := hl (j + 1) (by simp; omega); simpa [Nat.add_assoc, Nat.add_comm 1 j] using this) hB.2 hK (by simpa [setAll] using hn)

theorem wpStill_mono {w : World} {L L' : Act → Prop} (hL : ∀ a, L a → L' a) : ∀ {l : List Oper} {a : Act}, wpStill P ops w L l a → wpStill P ops w L' l a := by
  intro l
  induction l with
  | nil => intro a h; exact hL a h
  | cons o l ih =>
    intro a h
    unfold wpStill at h ⊢
    split at h
    · rename_i hw
      rw [if_pos hw]
      exact Oper.still_mono (fun a h => ih h) h
    · rename_i hw
      rw [if_neg hw]
      exact ih h

/-- n operations that read, one that does what it does, and others that read. -/
def stillOneB (ops : Array Oper) (n : Nat) : Bool :=
  let L := setAll n 0 (Array.replicate ops.size false)
  takesB .any ops (fun i => decide (n ≤ i)) n 0 (Array.replicate ops.size false) && decide (Region.ready .any ops L = [n]) && ((List.range ops.size).all fun i => L.getD i true || decide (n ≤ i)) && decide (L.size = ops.size) &&
    takesB .any ops (fun _ => false) (ops.size - (n + 1)) (n + 1) (L.setIfInBounds n true) && (Region.ready .any ops (setAll (ops.size - (n + 1)) (n + 1) (L.setIfInBounds n true))).isEmpty

theorem wp_region_still_one {id : Nat} {a : Act} {w : World} {l : List Oper} (n : Nat) {o : Oper} (hm : P.follows .mixedOrders = true) (ho : l[n]? = some o) (hB : stillOneB l.toArray n = true)
    (hQ : ∀ c a d v w, Q (.panic c) (Act.put a d v) w → Q (.panic c) a w)
    (h : wpStill P l.toArray w.drew (fun a' => ∀ K : Act → World → Prop, Shut (∀ a w', wpStill P l.toArray w' (fun a3 => Q .normal a3 w') (l.drop (n + 1)) a → K a w') →
      if Region.wanted o (yielded l.toArray a'.tmps) = true then Oper.wp P o a' w.drew K Q else K (a'.put o.dst undef) w.drew) (l.take n) a) : (Code.region id l.toArray true).wp P Q a w := by
  have hn : n < l.length := (List.getElem?_eq_some_iff.1 ho).1
  have htl : (l.take n).length = n := by simp; omega
  have hdl : (l.drop (n + 1)).length = l.toArray.size - (n + 1) := by simp
  simp only [stillOneB, Bool.and_eq_true, decide_eq_true_eq] at hB
  obtain ⟨⟨⟨⟨⟨h1, h2⟩, h3⟩, h4⟩, h5⟩, h6⟩ := hB
  refine regS_begin (fun w' => w' = w.drew) (fun i => decide (n ≤ i)) hm rfl (fun _ => ?_)
  have hsz : l.toArray.size = (l.take n).length + (l.toArray.size - n) := by rw [htl]; simp; omega
  have key : AnyS P .any l.toArray Q (fun w' => w' = w.drew) (fun i => decide (n ≤ i)) ((l.take n).length + (l.toArray.size - n)) (Array.replicate l.toArray.size false) a w.drew := by
    refine anyS_still hQ (l.take n) 0 _ a (fun j hj => by rw [htl] at hj; simp [hj]) (by rw [htl]; exact h1) h (fun a' ha' => ?_)
    rw [htl]
    rw [show l.toArray.size - n = (l.toArray.size - (n + 1)) + 1 from by simp; omega]
    refine anyS_one n h2 (by simpa using ho) (fun K' hK' => ?_)
    refine ha' K' (fun a2 w2 hs => hK'.out a2 w2 (fun h0 => by simp at h0) (fun _ => ?_))
    refine anyS_switch (F' := fun w' => w' = w2) (late' := fun _ => false) _ _ _ _ (fun i hi => ?_) ?_
    · by_cases hin : n = i
      · simp [hin]
      · rw [getD_set_ne true hin] at hi
        rcases Nat.lt_or_ge i l.toArray.size with hlt | hge
        · have := List.all_eq_true.1 h3 i (List.mem_range.2 hlt)
          rw [hi] at this
          simpa using this
        · have : n ≤ i := by have : l.toArray.size = l.length := by simp
                             omega
          simpa using this
    · have := anyS_still (P := P) (md := .any) (ops := l.toArray) (late := fun _ => false) (g := 0) (Lq := fun a3 => Q .normal a3 w2) (w := w2) hQ (l.drop (n + 1)) (n + 1) _ a2 (fun j hj => by simp) (by rw [hdl]; exact h5) hs (fun a3 h3' => ?_)
      · rw [hdl, Nat.add_zero] at this
        exact this
      · rw [hdl]
        exact anyS_done (by simpa using h6) h3'
  rw [← hsz] at key
  exact key
end

/-- A step's goal, shut in, so that nothing reckons it out by itself. -/
structure Sg (p : Prop) : Prop where
  out : p
section
variable {P : Program} {ops : Array Oper} {w : World}
theorem sg_nil {Q : Act → Prop} {a : Act} (h : Q a) : Sg (wpStill P ops w Q [] a) := ⟨h⟩
theorem sg_step {Q : Act → Prop} {a : Act} {o : Oper} {rest : List Oper}
    (h : ∀ K : Act → Prop, Sg (∀ a, Sg (wpStill P ops w Q rest a) → K a) → if Region.wanted o (yielded ops a.tmps) then o.still P a w K else K (a.put o.dst undef)) : Sg (wpStill P ops w Q (o :: rest) a) :=
  ⟨h _ ⟨fun _ h => h.out⟩⟩
theorem wp_reads {id : Nat} {Q : Exit → Act → World → Prop} {a : Act} {l : List Oper} (hm : P.follows .mixedOrders = true) (hB : Region.lexB .any l.toArray = true)
    (h : Sg (wpStill P l.toArray w.drew (fun a' => Q .normal a' w.drew) l a)) : (Code.region id l.toArray true).wp P Q a w :=
  wp_region_still_lit hm hB h.out
theorem wp_reads_one {id : Nat} {Q : Exit → Act → World → Prop} {a : Act} {l : List Oper} (n : Nat) {o : Oper} (hm : P.follows .mixedOrders = true) (ho : l[n]? = some o) (hB : stillOneB l.toArray n = true)
    (hQ : ∀ c a d v w, Q (.panic c) (Act.put a d v) w → Q (.panic c) a w)
    (h : Sg (wpStill P l.toArray w.drew (fun a' => ∀ K : Act → World → Prop, Sg (∀ a w', Sg (wpStill P l.toArray w' (fun a3 => Q .normal a3 w') (l.drop (n + 1)) a) → K a w') →
      if Region.wanted o (yielded l.toArray a'.tmps) = true then Oper.wp P o a' w.drew K Q else K (a'.put o.dst undef) w.drew) (l.take n) a)) : (Code.region id l.toArray true).wp P Q a w :=
  wp_region_still_one n hm ho hB hQ (wpStill_mono (fun _ h' K hK => h' K ⟨fun a w' hs => hK.out a w' hs.out⟩) h.out)
end

/-- A callee that leaves the world alone, as a region that reads wants it. -/
theorem Calls.still {P : Program} {f : FuncId} {args : Array Value} {w : World} {v : Value} (h : Calls P f args w fun e w' => e = .returned v ∧ w = w') : Calls P f args w fun e w' => e = .returned v ∧ w' = w :=
  h.mono fun _ _ ⟨he, hw⟩ => ⟨he, hw.symm⟩

end Go.Proofs.YtmmkncocgjgapaaDoor

/- A region that reads under a premise F, whatever order is drawn, and whose last operation alone may break F. -/
namespace Go.Proofs.YtmmkncocgjgapaaDoor
open Go.RowKit
section
variable {P : Program} {ops : Array Oper} {Q : Exit → Act → World → Prop} {F : World → Prop}

/-- The operations 'is' read, in every world of F alike. -/
def YF (P : Program) (ops : Array Oper) (F : World → Prop) (L : Act → Prop) : List Nat → Act → Prop
  | [], a => L a
  | i :: is, a => ∃ oi v, ops[i]? = some oi ∧ YieldsIf P ops F oi v a ∧ YF P ops F L is (a.put oi.dst v)
/-- The operations 'js' one behind another; F holds behind all but the last. -/
def SF (P : Program) (ops : Array Oper) (Q : Exit → Act → World → Prop) (F : World → Prop) : List Nat → Act → World → Prop
  | [], a, w => Q .normal a w
  | j :: js, a, w => ∃ o, ops[j]? = some o ∧ ∀ K : Act → World → Prop, Shut (∀ a w', (js ≠ [] → F w') → SF P ops Q F js a w' → K a w') →
      if Region.wanted o (yielded ops a.tmps) = true then Oper.wp P o a w K Q else K (a.put o.dst undef) w
def takesLB (md : Region.Mode) (ops : Array Oper) (late : Nat → Bool) : List Nat → Array Bool → Bool
  | [], _ => true
  | i :: is, listed => takeB md ops late listed i && takesLB md ops late is (listed.setIfInBounds i true)
def setL : List Nat → Array Bool → Array Bool
  | [], listed => listed
  | i :: is, listed => setL is (listed.setIfInBounds i true)
def seqLB (md : Region.Mode) (ops : Array Oper) : List Nat → Array Bool → Bool
  | [], listed => (Region.ready md ops listed).isEmpty
  | j :: js, listed => decide (Region.ready md ops listed = [j]) && seqLB md ops js (listed.setIfInBounds j true)
def lastB (js : List Nat) (j : Nat) : Bool := decide (js.getLast? = some j)
def framB (ops : Array Oper) (is js : List Nat) : Bool :=
  takesLB .any ops (lastB js) is (Array.replicate ops.size false) && seqLB .any ops js (setL is (Array.replicate ops.size false)) && decide (is.length + js.length = ops.size) && decide js.Nodup

theorem anyS_reads {late : Nat → Bool} {L : Act → Prop} {g : Nat} {w : World} (hQ : ∀ c a d v w, Q (.panic c) (Act.put a d v) w → Q (.panic c) a w) (hF : F w) : ∀ (is : List Nat) (listed : Array Bool) (a : Act),
    takesLB .any ops late is listed = true → YF P ops F L is a → (∀ a', L a' → AnyS P .any ops Q F late g (setL is listed) a' w) → AnyS P .any ops Q F late (is.length + g) listed a w
  | [], listed, a, _, h, hn => by
    rw [List.length_nil, Nat.zero_add]
    exact hn a h
  | i :: is, listed, a, hB, h, hn => by
    obtain ⟨oi, v, hi, hy, h'⟩ := h
    simp only [takesLB, Bool.and_eq_true] at hB
    rw [List.length_cons, show is.length + 1 + g = (is.length + g) + 1 from by omega]
    exact anyS_take hi hB.1 (fun c a w h => hQ c a _ _ w h) hy hF (anyS_reads hQ hF is _ _ hB.2 h' hn)
theorem anyS_rest {late : Nat → Bool} : ∀ (js : List Nat) (listed : Array Bool) (a : Act) (w : World), (∀ j, js.getLast? = some j → late j = true) →
    seqLB .any ops js listed = true → SF P ops Q F js a w → AnyS P .any ops Q F late js.length listed a w
  | [], listed, a, w, _, hB, h => anyS_done (by simpa [seqLB] using hB) h
  | j :: js, listed, a, w, hl, hB, h => by
    obtain ⟨o, ho, h⟩ := h
    simp only [seqLB, Bool.and_eq_true, decide_eq_true_eq] at hB
    rw [List.length_cons]
    refine anyS_one j hB.1 ho (fun K' hK' => h K' (fun a2 w2 hF hs => hK'.out a2 w2 (fun hlj => hF (fun e => ?_)) (fun _ => ?_)))
    · subst e
      rw [hl j rfl] at hlj
      cases hlj
    · refine anyS_rest js _ a2 w2 (fun i hi => hl i ?_) hB.2 hs
      cases js with
      | nil => cases hi
      | cons x xs => rw [List.getLast?_cons_cons]; exact hi

theorem wp_region_F {id : Nat} {a : Act} {w : World} (F : World → Prop) (is js : List Nat) (hm : P.follows .mixedOrders = true) (hB : framB ops is js = true)
    (hQ : ∀ c a d v w, Q (.panic c) (Act.put a d v) w → Q (.panic c) a w) (hF : F w.drew) (h : YF P ops F (fun a' => SF P ops Q F js a' w.drew) is a) : (Code.region id ops true).wp P Q a w := by
  simp only [framB, Bool.and_eq_true, decide_eq_true_eq] at hB
  obtain ⟨⟨⟨h1, h2⟩, h3⟩, _⟩ := hB
  refine regS_begin F (lastB js) hm hF (fun _ => ?_)
  have key := anyS_reads (late := lastB js) (g := js.length) hQ hF is _ a h1 h (fun a' ha' => anyS_rest js _ a' _ (fun j hj => by unfold lastB; simpa using hj) h2 ha')
  rw [h3] at key
  exact key

/-- The steps' goals, shut in. -/
structure Yg (p : Prop) : Prop where
  out : p
theorem yg_begin {id : Nat} {a : Act} {w : World} (F : World → Prop) (is js : List Nat) (hm : P.follows .mixedOrders = true) (hB : framB ops is js = true)
    (hQ : ∀ c a d v w, Q (.panic c) (Act.put a d v) w → Q (.panic c) a w) (hF : F w.drew) (h : Yg (YF P ops F (fun a' => SF P ops Q F js a' w.drew) is a)) : (Code.region id ops true).wp P Q a w := wp_region_F F is js hm hB hQ hF h.out
theorem yg_read {L : Act → Prop} {i : Nat} {is : List Nat} {a : Act} (oi : Oper) (v : Value) (hi : ops[i]? = some oi) (hw : Region.wanted oi (yielded ops a.tmps) = true) (hv : ∀ w, F w → (execOp a.eval oi).run P w = .ok (.value v) w) (h : Yg (YF P ops F L is (a.put oi.dst v))) : Yg (YF P ops F L (i :: is) a) :=
  ⟨oi, v, hi, .inl ⟨hw, hv⟩, h.out⟩
theorem yg_end {a : Act} {L : Act → Prop} (h : L a) : Yg (YF P ops F L [] a) := ⟨h⟩
theorem sf_step {j : Nat} {js : List Nat} {a : Act} {w : World} (o : Oper) (ho : ops[j]? = some o) (h : ∀ K : Act → World → Prop, Yg (∀ a w', (js ≠ [] → F w') → SF P ops Q F js a w' → K a w') →
      if Region.wanted o (yielded ops a.tmps) = true then Oper.wp P o a w K Q else K (a.put o.dst undef) w) : SF P ops Q F (j :: js) a w :=
  ⟨o, ho, fun K hK => h K ⟨hK⟩⟩
theorem sf_end {a : Act} {w : World} (h : Q .normal a w) : SF P ops Q F [] a w := h
end
end Go.Proofs.YtmmkncocgjgapaaDoor

/- A region taken step by step: reads under a premise F (whatever order is drawn), and operations that alone may come up; the last step alone may break F. -/
namespace Go.Proofs.YtmmkncocgjgapaaDoor
open Go.RowKit
section
variable {P : Program} {ops : Array Oper} {Q : Exit → Act → World → Prop} {F : World → Prop}

def MF (P : Program) (ops : Array Oper) (Q : Exit → Act → World → Prop) (F : World → Prop) : List (Bool × Nat) → Act → World → Prop
  | [], a, w => Q .normal a w
  | (true, i) :: s, a, w => ∃ oi v, ops[i]? = some oi ∧ YieldsIf P ops F oi v a ∧ MF P ops Q F s (a.put oi.dst v) w
  | (false, j) :: s, a, w => ∃ o, ops[j]? = some o ∧ ∀ K : Act → World → Prop, Shut (∀ a w', (s ≠ [] → F w') → MF P ops Q F s a w' → K a w') →
      if Region.wanted o (yielded ops a.tmps) = true then Oper.wp P o a w K Q else K (a.put o.dst undef) w
def mixB (md : Region.Mode) (ops : Array Oper) (late : Nat → Bool) : List (Bool × Nat) → Array Bool → Bool
  | [], listed => (Region.ready md ops listed).isEmpty
  | (true, i) :: s, listed => !s.isEmpty && takeB md ops late listed i && mixB md ops late s (listed.setIfInBounds i true)
  | (false, j) :: s, listed => decide (Region.ready md ops listed = [j]) && (s.isEmpty || !late j) && (!s.isEmpty || late j) && mixB md ops late s (listed.setIfInBounds j true)
def lastM (s : List (Bool × Nat)) (j : Nat) : Bool := decide ((s.map Prod.snd).getLast? = some j)
def mixedB (ops : Array Oper) (s : List (Bool × Nat)) : Bool :=
  mixB .any ops (lastM s) s (Array.replicate ops.size false) && decide (s.length = ops.size)

theorem anyS_mix {late : Nat → Bool} (hQ : ∀ c a d v w, Q (.panic c) (Act.put a d v) w → Q (.panic c) a w) : ∀ (s : List (Bool × Nat)) (listed : Array Bool) (a : Act) (w : World), (s ≠ [] → F w) →
    mixB .any ops late s listed = true → MF P ops Q F s a w → AnyS P .any ops Q F late s.length listed a w
  | [], listed, a, w, _, hB, h => anyS_done (by simpa [mixB] using hB) h
  | (true, i) :: s, listed, a, w, hF, hB, h => by
    obtain ⟨oi, v, hi, hy, h'⟩ := h
    simp only [mixB, Bool.and_eq_true] at hB
    have hF' := hF (by simp)
    rw [List.length_cons]
    exact anyS_take hi hB.1.2 (fun c a w h => hQ c a _ _ w h) hy hF' (anyS_mix hQ s _ _ _ (fun _ => hF') hB.2 h')
  | (false, j) :: s, listed, a, w, hF, hB, h => by
    obtain ⟨o, ho, h⟩ := h
    simp only [mixB, Bool.and_eq_true, decide_eq_true_eq, Bool.or_eq_true] at hB
    rw [List.length_cons]
    refine anyS_one j hB.1.1.1 ho (fun K' hK' => h K' (fun a2 w2 hF2 hs => hK'.out a2 w2 (fun hlj => ?_) (fun hF3 => ?_)))
    · refine hF2 (fun e => ?_)
      rcases hB.1.2 with h1 | h1
      · rw [e] at h1; simp at h1
      · rw [h1] at hlj; cases hlj
    · exact anyS_mix hQ s _ a2 w2 hF2 hB.2 hs

theorem wp_region_mix {id : Nat} {a : Act} {w : World} (F : World → Prop) (s : List (Bool × Nat)) (hm : P.follows .mixedOrders = true) (hB : mixedB ops s = true)
    (hQ : ∀ c a d v w, Q (.panic c) (Act.put a d v) w → Q (.panic c) a w) (hF : F w.drew) (h : MF P ops Q F s a w.drew) : (Code.region id ops true).wp P Q a w := by
  simp only [mixedB, Bool.and_eq_true, decide_eq_true_eq] at hB
  refine regS_begin F (lastM s) hm hF (fun _ => ?_)
  have key := anyS_mix (late := lastM s) hQ s _ a _ (fun _ => hF) hB.1 h
  rw [hB.2] at key
  exact key

theorem mx_begin {id : Nat} {a : Act} {w : World} (F : World → Prop) (s : List (Bool × Nat)) (hm : P.follows .mixedOrders = true) (hB : mixedB ops s = true)
    (hQ : ∀ c a d v w, Q (.panic c) (Act.put a d v) w → Q (.panic c) a w) (hF : F w.drew) (h : Yg (MF P ops Q F s a w.drew)) : (Code.region id ops true).wp P Q a w := wp_region_mix F s hm hB hQ hF h.out
theorem mx_read {i : Nat} {s : List (Bool × Nat)} {a : Act} {w : World} (oi : Oper) (v : Value) (hi : ops[i]? = some oi) (hw : Region.wanted oi (yielded ops a.tmps) = true) (hv : ∀ w, F w → (execOp a.eval oi).run P w = .ok (.value v) w) (h : Yg (MF P ops Q F s (a.put oi.dst v) w)) : Yg (MF P ops Q F ((true, i) :: s) a w) :=
  ⟨oi, v, hi, .inl ⟨hw, hv⟩, h.out⟩
theorem mx_skip {i : Nat} {s : List (Bool × Nat)} {a : Act} {w : World} (oi : Oper) (hi : ops[i]? = some oi) (hw : Region.wanted oi (yielded ops a.tmps) = false) (h : Yg (MF P ops Q F s (a.put oi.dst undef) w)) : Yg (MF P ops Q F ((true, i) :: s) a w) :=
  ⟨oi, undef, hi, .inr ⟨hw, rfl⟩, h.out⟩
theorem mx_one {j : Nat} {s : List (Bool × Nat)} {a : Act} {w : World} (o : Oper) (ho : ops[j]? = some o) (hw : Region.wanted o (yielded ops a.tmps) = true) (h : ∀ K : Act → World → Prop, Yg (∀ a w', (s ≠ [] → F w') → Yg (MF P ops Q F s a w') → K a w') → Oper.wp P o a w K Q) : Yg (MF P ops Q F ((false, j) :: s) a w) :=
  ⟨⟨o, ho, fun K hK => by rw [if_pos hw]; exact h K ⟨fun a w' h1 h2 => hK a w' h1 h2.out⟩⟩⟩
theorem mx_one_skip {j : Nat} {s : List (Bool × Nat)} {a : Act} {w : World} (o : Oper) (ho : ops[j]? = some o) (hF : F w) (hw : Region.wanted o (yielded ops a.tmps) = false) (h : Yg (MF P ops Q F s (a.put o.dst undef) w)) : Yg (MF P ops Q F ((false, j) :: s) a w) :=
  ⟨⟨o, ho, fun K hK => by rw [if_neg (by rw [hw]; exact Bool.false_ne_true)]; exact hK _ _ (fun _ => hF) h.out⟩⟩
theorem mx_end {a : Act} {w : World} (h : Q .normal a w) : Yg (MF P ops Q F [] a w) := ⟨h⟩
end
end Go.Proofs.YtmmkncocgjgapaaDoor

/- The walk of manifest.Formed (printed by genmform.py out of mform2.head). -/
namespace Go.Proofs.YtmmkncocgjgapaaDoor.Mf
open Go.RowKit

theorem nil_list : (⟨#[]⟩ : ByteArray).toList = [] := by rw [Lib.toList_data]
theorem okEnt_name {s : ByteArray} {f bb ww cc : Int} (h : okName s.data.toList = false) : okEnt ⟨s, f, bb, ww, cc⟩ = false := by unfold okEnt; rw [h]; rfl
theorem okEnt_num {s : ByteArray} {f bb ww cc : Int} (h : [f, bb, ww, cc].all okNum = false) : okEnt ⟨s, f, bb, ww, cc⟩ = false := by
  unfold okEnt
  simp only [List.all_cons, List.all_nil, Bool.and_true] at h
  cases okName s.data.toList <;> simp_all
theorem okEnt_yes {s : ByteArray} {f bb ww cc : Int} (h1 : okName s.data.toList = true) (h : [f, bb, ww, cc].all okNum = true) : okEnt ⟨s, f, bb, ww, cc⟩ = true := by
  unfold okEnt
  simp only [List.all_cons, List.all_nil, Bool.and_true] at h
  simp_all
theorem okName_sz {s : ByteArray} (h : s.size < 1 ∨ 8 < s.size) : okName s.data.toList = false := by
  have hsz : s.data.toList.length = s.size := by rw [Array.length_toList]; rfl
  unfold okName
  rw [hsz]
  simp
  omega
theorem okName_all {s : ByteArray} (h : ¬ s.data.toList.all okB = true) : okName s.data.toList = false := by
  unfold okName
  rw [show s.data.toList.all okB = false from by simpa using h]
  simp
theorem okName_yes {s : ByteArray} (h1 : 1 ≤ s.size) (h2 : s.size ≤ 8) (h : s.data.toList.all okB = true) : okName s.data.toList = true := by
  have hsz : s.data.toList.length = s.size := by rw [Array.length_toList]; rfl
  unfold okName
  rw [hsz, h]
  simp
  omega
theorem trim_told (s : ByteArray) (B : Nat) (W0 : World) (hB : B ≤ W0.heap.size) (hs : s.size ≤ maxLen) : ∃ T : ByteArray, Hid (∀ W', Below B W0 W' → Calls Tryd.prog 23 #[.string s, .string { data := #[97, 98, 99, 100, 101, 102, 103, 104, 105, 106, 107, 108, 109, 110, 111, 112, 113, 114, 115, 116, 117, 118, 119, 120, 121, 122, 48, 49, 50, 51, 52, 53, 54, 55, 56, 57] }] W' (fun e w' => e = .returned (.string T) ∧ Below B W0 w')) ∧ (T.toList = [] ↔ s.data.toList.all okB = true) := by
  refine ⟨⟨(Lib.trimS s.data.toList letters).toArray⟩, Lib.hid (fun W' h => ?_), ?_⟩
  · exact (Any.strings_Trim_laid trimL (by kernel_rfl) s ⟨letters.toArray⟩ W' (by unfold maxLen at hs; omega) (by decide) (ascii_of_all (by decide))).mono (fun e w' he => ⟨he.1, h.trans (he.2.mono (Nat.le_trans hB h.size))⟩)
  · rw [Lib.toList_data]
    exact trim_empty _
theorem row_cell {w : World} {b i : Nat} {xs : List Value} {v : Value} (h : Row w (some ⟨b, 0, none⟩) xs) (hi : xs[i]? = some v) : w.cell? ⟨b, i, none⟩ = some v := by
  obtain ⟨hlt, hv⟩ := List.getElem?_eq_some_iff.1 hi
  obtain ⟨b', o', e, hc, _⟩ := h.at_ hlt
  injection e with e
  injection e with e1 e2
  subst e1 e2
  rw [Nat.zero_add, hv] at hc
  exact hc
def FmLoop (l : List Ent) (w : World) (iv : Value) (wr : World) : Prop := ∃ k : Nat, iv = .int .i64 (k : Int) ∧ k ≤ l.length ∧ (∀ j, j < k → okAt l j = true) ∧ Below w.heap.size w wr
set_option maxRecDepth 100000 in
set_option maxHeartbeats 8000000 in
theorem formed_any (l : List Ent) (a : Option Addr) (n c : Nat) (w : World) (hr : Row w a (flatM l)) (hn : l.length = n) (hl : n < 1000000) (hsz : ∀ j (hj : j < l.length), l[j].name.size ≤ maxLen) :
    Calls Tryd.prog 9 #[.slice a n c] w (fun e w' => e = .returned (.bool (formedM l)) ∧ Below w.heap.size w w') := by
  subst hn
  go_enter Tryd.func9, Tryd.ntmps9
  go_wp2_with fail
  go_loopw [7] (fun iv wr => FmLoop l w iv wr) (fun iv _ => l.length - (intOf iv).toNat)
  case atStart => exact ⟨0, rfl, Nat.zero_le _, fun j h => absurd h (Nat.not_lt_zero _), Below.refl _ _⟩
  case round =>
    obtain ⟨k, rfl, hk, hall, hb⟩ := hrel
    have HALL := Lib.hid hall
    clear hall
    have hz := hb.size
    by_cases hlt : k < l.length
    · have hlt2 : (k : Int) < (l.length : Int) := by omega
      have i0 : (0 : Int) ≤ (k : Int) := by omega
      have hrb := hr.below hb
      obtain ⟨b, o, rfl, hbl, e0, e1, e2, e3, e4⟩ := ent_at hrb hlt
      have HB := Lib.hid hb
      have hs := hsz k hlt
      have HOKE := Lib.hid (fun h : okEnt l[k] = false => okAt_ent hlt h)
      have HFB := Lib.hid (fun h : okAt l k = false => formed_bad hlt h)
      have HGO := Lib.hid (fun (h : okAt l k = true) (j : Nat) (hj : j < k + 1) => (if e : j = k then e ▸ h else HALL.out j (by omega) : okAt l j = true))
      have HFIRST := Lib.hid (show k = 0 → okEnt l[k] = true → okAt l k = true from fun h h2 => by subst h; exact okAt_first hlt h2)
      have HPR := Lib.hid (show 0 < k → ∃ (j : Nat) (q : ByteArray), wr.cell? ⟨b, o + j * 5, none⟩ = some (.string q) ∧ (okEnt l[k] = true → okAt l k = Op.bytesLess q.toList l[k].name.toList) ∧ j < l.length ∧ k = j + 1 from fun h => by
        obtain ⟨j, rfl⟩ : ∃ j, k = j + 1 := ⟨k - 1, by omega⟩
        obtain ⟨b2, o2, e, _, f0, _⟩ := ent_at hrb (show j < l.length by omega)
        injection e with e
        injection e with e1 e2
        subst e1 e2
        exact ⟨j, _, f0, okAt_next hlt, by omega, rfl⟩)
      have HM := Lib.hid (And.intro hk hlt)
      generalize l[k] = p at *
      obtain ⟨s, f, bb, ww, cc⟩ := p
      simp only at e0 e1 e2 e3 e4 hs
      clear hr hrb hb hk hlt hsz
      go_wp2_with fail
      have hcell0 := Row.new wr #[.string s, .int .i64 f, .int .i64 bb, .int .i64 ww, .int .i64 cc] 54 (0, 0)
      have hsize0 : (wr.alloc (.cells #[.string s, .int .i64 f, .int .i64 bb, .int .i64 ww, .int .i64 cc] 54)).heap.size = wr.heap.size + 1 := by simp
      have HB0 := Lib.hid (HB.out.alloc hz (.cells #[.string s, .int .i64 f, .int .i64 bb, .int .i64 ww, .int .i64 cc] 54))
      have hb00 : Below wr.heap.size wr (wr.alloc (.cells #[.string s, .int .i64 f, .int .i64 bb, .int .i64 ww, .int .i64 cc] 54)) := (Below.refl _ _).alloc (Nat.le_refl _) _
      generalize wr.alloc (.cells #[.string s, .int .i64 f, .int .i64 bb, .int .i64 ww, .int .i64 cc] 54) = W0 at *
      have hB1 : wr.heap.size + 1 ≤ W0.heap.size := by omega
      have CELL := Lib.hid (fun W' (h : Below (wr.heap.size + 1) W0 W') => (by
        have hc := hcell0.below (hsize0 ▸ h)
        exact ⟨row_cell hc rfl, row_cell hc rfl, row_cell hc rfl, row_cell hc rfl, row_cell hc rfl⟩ : W'.cell? ⟨wr.heap.size, 0, none⟩ = some (.string s) ∧ W'.cell? ⟨wr.heap.size, 1, none⟩ = some (.int .i64 f) ∧ W'.cell? ⟨wr.heap.size, 2, none⟩ = some (.int .i64 bb) ∧ W'.cell? ⟨wr.heap.size, 3, none⟩ = some (.int .i64 ww) ∧ W'.cell? ⟨wr.heap.size, 4, none⟩ = some (.int .i64 cc)))
      have HPREV := Lib.hid (show 0 < k → ∃ (j : Nat) (q : ByteArray), Hid (∀ W', Below (wr.heap.size + 1) W0 W' → W'.cell? ⟨b, o + j * 5, none⟩ = some (.string q)) ∧ Hid (okEnt ⟨s, f, bb, ww, cc⟩ = true → okAt l k = Op.bytesLess q.toList s.toList) ∧ (0 : Int) ≤ (j : Int) ∧ (j : Int) < (l.length : Int) ∧ IntKind.i64.wrap ((k : Int) - 1) = (j : Int) from fun h => by
        obtain ⟨j, q, f0, f1, f2, f3⟩ := HPR.out h
        refine ⟨j, q, Lib.hid (fun W' hW => ?_), Lib.hid f1, by omega, by omega, by rw [IntKind.wrap_i64]; omega⟩
        rw [hW.cell (show b < wr.heap.size + 1 by omega), hb00.cell hbl]
        exact f0)
      have HSZ := Lib.hid (show s.size < 1 ∨ 8 < s.size → okEnt ⟨s, f, bb, ww, cc⟩ = false from fun h => okEnt_name (okName_sz h))
      have HNAME := Lib.hid (show 1 ≤ s.size → s.size ≤ 8 → s.data.toList.all okB = true → okName s.data.toList = true from okName_yes)
      have HNAMEN := Lib.hid (show ¬ s.data.toList.all okB = true → okEnt ⟨s, f, bb, ww, cc⟩ = false from fun h => okEnt_name (okName_all h))
      have HENT := Lib.hid (show okName s.data.toList = true → [f, bb, ww, cc].all okNum = true → okEnt ⟨s, f, bb, ww, cc⟩ = true from okEnt_yes)
      have HENTN := Lib.hid (show [f, bb, ww, cc].all okNum = false → okEnt ⟨s, f, bb, ww, cc⟩ = false from okEnt_num)
      have HTRIM := Lib.hid (trim_told s (wr.heap.size + 1) W0 hB1 hs)
      have hd0 : Below (wr.heap.size + 1) W0 W0.drew := (Below.refl _ _).drew
      clear hcell0 hsize0 hb00 e0 e1 e2 e3 e4 HPR hbl hs
      by_cases c1 : (s.size : Int) < 1
      · have HBAD := Lib.hid (HFB.out (HOKE.out (HSZ.out (by omega))))
        refine mx_begin (fun w' => Below (wr.heap.size + 1) W0 w') [(true, 0), (true, 1), (true, 2), (true, 3), (true, 4), (true, 5), (true, 6), (true, 7), (true, 8), (true, 9), (true, 10), (true, 11), (true, 12), (false, 13), (true, 14), (true, 15), (true, 16), (true, 17), (true, 18), (true, 19), (true, 20), (true, 21), (true, 22), (true, 23), (true, 24), (false, 25), (false, 26), (true, 27), (true, 28), (true, 29), (true, 30), (true, 31), (true, 32), (true, 33), (true, 34), (true, 35), (true, 36), (true, 37), (true, 38), (true, 39), (true, 40), (true, 41), (true, 42), (false, 43)] (by kernel_rfl) (by kernel_rfl) (fun _ _ d _ _ h => by cases d <;> exact h) hd0 ?_
        refine mx_read _ (.pointer (some ⟨wr.heap.size, 0, none⟩)) rfl (by kernel_rfl) (fun w' hF => by simp [execOp, Act.eval, go_sem]) ?_
        refine mx_read _ (.string s) rfl (by kernel_rfl) (fun w' hF => by obtain ⟨u0, u1, u2, u3, u4⟩ := CELL.out _ hF; simp [execOp, Act.eval, go_sem, u0]) ?_
        refine mx_read _ (.int .i64 (s.size : Int)) rfl (by kernel_rfl) (fun w' hF => by simp [execOp, Act.eval, go_sem]) ?_
        refine mx_read _ (.bool true) rfl (by kernel_rfl) (fun w' hF => by simp [execOp, Act.eval, go_sem, c1]) ?_
        refine mx_read _ (.bool true) rfl (by kernel_rfl) (fun w' hF => by simp [execOp, Act.eval, go_sem]) ?_
        refine mx_skip _ rfl (by kernel_rfl) ?_
        refine mx_skip _ rfl (by kernel_rfl) ?_
        refine mx_skip _ rfl (by kernel_rfl) ?_
        refine mx_skip _ rfl (by kernel_rfl) ?_
        refine mx_read _ (.bool true) rfl (by kernel_rfl) (fun w' hF => by simp [execOp, Act.eval, go_sem]) ?_
        refine mx_read _ (.bool true) rfl (by kernel_rfl) (fun w' hF => by simp [execOp, Act.eval, go_sem]) ?_
        refine mx_skip _ rfl (by kernel_rfl) ?_
        refine mx_skip _ rfl (by kernel_rfl) ?_
        refine mx_one_skip _ rfl hd0 (by kernel_rfl) ?_
        refine mx_skip _ rfl (by kernel_rfl) ?_
        refine mx_read _ (.bool true) rfl (by kernel_rfl) (fun w' hF => by simp [execOp, Act.eval, go_sem]) ?_
        refine mx_read _ (.bool true) rfl (by kernel_rfl) (fun w' hF => by simp [execOp, Act.eval, go_sem]) ?_
        refine mx_skip _ rfl (by kernel_rfl) ?_
        refine mx_skip _ rfl (by kernel_rfl) ?_
        refine mx_skip _ rfl (by kernel_rfl) ?_
        refine mx_skip _ rfl (by kernel_rfl) ?_
        refine mx_skip _ rfl (by kernel_rfl) ?_
        refine mx_skip _ rfl (by kernel_rfl) ?_
        refine mx_skip _ rfl (by kernel_rfl) ?_
        refine mx_skip _ rfl (by kernel_rfl) ?_
        refine mx_one_skip _ rfl hd0 (by kernel_rfl) ?_
        refine mx_one_skip _ rfl hd0 (by kernel_rfl) ?_
        refine mx_skip _ rfl (by kernel_rfl) ?_
        refine mx_read _ (.bool true) rfl (by kernel_rfl) (fun w' hF => by simp [execOp, Act.eval, go_sem]) ?_
        refine mx_read _ (.bool true) rfl (by kernel_rfl) (fun w' hF => by simp [execOp, Act.eval, go_sem]) ?_
        refine mx_skip _ rfl (by kernel_rfl) ?_
        refine mx_skip _ rfl (by kernel_rfl) ?_
        refine mx_skip _ rfl (by kernel_rfl) ?_
        refine mx_skip _ rfl (by kernel_rfl) ?_
        refine mx_skip _ rfl (by kernel_rfl) ?_
        refine mx_skip _ rfl (by kernel_rfl) ?_
        refine mx_skip _ rfl (by kernel_rfl) ?_
        refine mx_skip _ rfl (by kernel_rfl) ?_
        refine mx_skip _ rfl (by kernel_rfl) ?_
        refine mx_skip _ rfl (by kernel_rfl) ?_
        refine mx_skip _ rfl (by kernel_rfl) ?_
        refine mx_skip _ rfl (by kernel_rfl) ?_
        refine mx_skip _ rfl (by kernel_rfl) ?_
        refine mx_one _ rfl (by kernel_rfl) (fun K8 hK8 => ?_)
        go_simp
        refine hK8.out _ _ (fun h => absurd rfl h) ?_
        clear hK8 K8
        refine mx_end ?_
        go_wp2_with fail
        go_ret
        exact ⟨by rw [HBAD.out]; rfl, HB0.out.trans (hd0.mono (by omega))⟩
      · by_cases c2 : 8 < (s.size : Int)
        · have HBAD := Lib.hid (HFB.out (HOKE.out (HSZ.out (by omega))))
          refine mx_begin (fun w' => Below (wr.heap.size + 1) W0 w') [(true, 0), (true, 1), (true, 2), (true, 3), (true, 4), (true, 5), (true, 6), (true, 7), (true, 8), (true, 9), (true, 10), (true, 11), (true, 12), (false, 13), (true, 14), (true, 15), (true, 16), (true, 17), (true, 18), (true, 19), (true, 20), (true, 21), (true, 22), (true, 23), (true, 24), (false, 25), (false, 26), (true, 27), (true, 28), (true, 29), (true, 30), (true, 31), (true, 32), (true, 33), (true, 34), (true, 35), (true, 36), (true, 37), (true, 38), (true, 39), (true, 40), (true, 41), (true, 42), (false, 43)] (by kernel_rfl) (by kernel_rfl) (fun _ _ d _ _ h => by cases d <;> exact h) hd0 ?_
          refine mx_read _ (.pointer (some ⟨wr.heap.size, 0, none⟩)) rfl (by kernel_rfl) (fun w' hF => by simp [execOp, Act.eval, go_sem]) ?_
          refine mx_read _ (.string s) rfl (by kernel_rfl) (fun w' hF => by obtain ⟨u0, u1, u2, u3, u4⟩ := CELL.out _ hF; simp [execOp, Act.eval, go_sem, u0]) ?_
          refine mx_read _ (.int .i64 (s.size : Int)) rfl (by kernel_rfl) (fun w' hF => by simp [execOp, Act.eval, go_sem]) ?_
          refine mx_read _ (.bool false) rfl (by kernel_rfl) (fun w' hF => by simp [execOp, Act.eval, go_sem, c1]) ?_
          refine mx_read _ (.bool false) rfl (by kernel_rfl) (fun w' hF => by simp [execOp, Act.eval, go_sem]) ?_
          refine mx_read _ (.pointer (some ⟨wr.heap.size, 0, none⟩)) rfl (by kernel_rfl) (fun w' hF => by simp [execOp, Act.eval, go_sem]) ?_
          refine mx_read _ (.string s) rfl (by kernel_rfl) (fun w' hF => by obtain ⟨u0, u1, u2, u3, u4⟩ := CELL.out _ hF; simp [execOp, Act.eval, go_sem, u0]) ?_
          refine mx_read _ (.int .i64 (s.size : Int)) rfl (by kernel_rfl) (fun w' hF => by simp [execOp, Act.eval, go_sem]) ?_
          refine mx_read _ (.bool true) rfl (by kernel_rfl) (fun w' hF => by simp [execOp, Act.eval, go_sem, c2]) ?_
          refine mx_read _ (.bool true) rfl (by kernel_rfl) (fun w' hF => by simp [execOp, Act.eval, go_sem]) ?_
          refine mx_read _ (.bool true) rfl (by kernel_rfl) (fun w' hF => by simp [execOp, Act.eval, go_sem]) ?_
          refine mx_skip _ rfl (by kernel_rfl) ?_
          refine mx_skip _ rfl (by kernel_rfl) ?_
          refine mx_one_skip _ rfl hd0 (by kernel_rfl) ?_
          refine mx_skip _ rfl (by kernel_rfl) ?_
          refine mx_read _ (.bool true) rfl (by kernel_rfl) (fun w' hF => by simp [execOp, Act.eval, go_sem]) ?_
          refine mx_read _ (.bool true) rfl (by kernel_rfl) (fun w' hF => by simp [execOp, Act.eval, go_sem]) ?_
          refine mx_skip _ rfl (by kernel_rfl) ?_
          refine mx_skip _ rfl (by kernel_rfl) ?_
          refine mx_skip _ rfl (by kernel_rfl) ?_
          refine mx_skip _ rfl (by kernel_rfl) ?_
          refine mx_skip _ rfl (by kernel_rfl) ?_
          refine mx_skip _ rfl (by kernel_rfl) ?_
          refine mx_skip _ rfl (by kernel_rfl) ?_
          refine mx_skip _ rfl (by kernel_rfl) ?_
          refine mx_one_skip _ rfl hd0 (by kernel_rfl) ?_
          refine mx_one_skip _ rfl hd0 (by kernel_rfl) ?_
          refine mx_skip _ rfl (by kernel_rfl) ?_
          refine mx_read _ (.bool true) rfl (by kernel_rfl) (fun w' hF => by simp [execOp, Act.eval, go_sem]) ?_
          refine mx_read _ (.bool true) rfl (by kernel_rfl) (fun w' hF => by simp [execOp, Act.eval, go_sem]) ?_
          refine mx_skip _ rfl (by kernel_rfl) ?_
          refine mx_skip _ rfl (by kernel_rfl) ?_
          refine mx_skip _ rfl (by kernel_rfl) ?_
          refine mx_skip _ rfl (by kernel_rfl) ?_
          refine mx_skip _ rfl (by kernel_rfl) ?_
          refine mx_skip _ rfl (by kernel_rfl) ?_
          refine mx_skip _ rfl (by kernel_rfl) ?_
          refine mx_skip _ rfl (by kernel_rfl) ?_
          refine mx_skip _ rfl (by kernel_rfl) ?_
          refine mx_skip _ rfl (by kernel_rfl) ?_
          refine mx_skip _ rfl (by kernel_rfl) ?_
          refine mx_skip _ rfl (by kernel_rfl) ?_
          refine mx_skip _ rfl (by kernel_rfl) ?_
          refine mx_one _ rfl (by kernel_rfl) (fun K8 hK8 => ?_)
          go_simp
          refine hK8.out _ _ (fun h => absurd rfl h) ?_
          clear hK8 K8
          refine mx_end ?_
          go_wp2_with fail
          go_ret
          exact ⟨by rw [HBAD.out]; rfl, HB0.out.trans (hd0.mono (by omega))⟩
        · obtain ⟨T, TRIM, hT⟩ := HTRIM.out
          have HSN := Lib.hid (show s.data.toList.all okB = true → okName s.data.toList = true from HNAME.out (by omega) (by omega))
          by_cases c3 : T.toList = []
          · have HN1 := Lib.hid (HSN.out (hT.1 c3))
            have c3b : (T.toList == []) = true := by simp [c3]
            clear hT
            by_cases c4 : [f, bb, ww, cc].all okNum = true
            · have HE1 := Lib.hid (HENT.out HN1.out c4)
              by_cases k0 : 0 < k
              · obtain ⟨j, q, CELLQ, HOK, j0, jlt, cj⟩ := HPREV.out (by omega)
                have HOK2 := Lib.hid (HOK.out HE1.out)
                clear HOK
                by_cases c6 : Op.bytesLess q.toList s.toList = true
                · have HGOOD := Lib.hid (HGO.out (by rw [HOK2.out]; exact c6))
                  refine mx_begin (fun w' => Below (wr.heap.size + 1) W0 w') [(true, 0), (true, 1), (true, 2), (true, 3), (true, 4), (true, 5), (true, 6), (true, 7), (true, 8), (true, 9), (true, 10), (true, 11), (true, 12), (false, 13), (true, 14), (true, 15), (true, 16), (true, 17), (true, 18), (true, 19), (true, 20), (true, 21), (true, 22), (true, 23), (true, 24), (false, 25), (false, 26), (true, 27), (true, 28), (true, 29), (true, 30), (true, 31), (true, 32), (true, 33), (true, 34), (true, 35), (true, 36), (true, 37), (true, 38), (true, 39), (true, 40), (true, 41), (true, 42), (false, 43)] (by kernel_rfl) (by kernel_rfl) (fun _ _ d _ _ h => by cases d <;> exact h) hd0 ?_
                  refine mx_read _ (.pointer (some ⟨wr.heap.size, 0, none⟩)) rfl (by kernel_rfl) (fun w' hF => by simp [execOp, Act.eval, go_sem]) ?_
                  refine mx_read _ (.string s) rfl (by kernel_rfl) (fun w' hF => by obtain ⟨u0, u1, u2, u3, u4⟩ := CELL.out _ hF; simp [execOp, Act.eval, go_sem, u0]) ?_
                  refine mx_read _ (.int .i64 (s.size : Int)) rfl (by kernel_rfl) (fun w' hF => by simp [execOp, Act.eval, go_sem]) ?_
                  refine mx_read _ (.bool false) rfl (by kernel_rfl) (fun w' hF => by simp [execOp, Act.eval, go_sem, c1]) ?_
                  refine mx_read _ (.bool false) rfl (by kernel_rfl) (fun w' hF => by simp [execOp, Act.eval, go_sem]) ?_
                  refine mx_read _ (.pointer (some ⟨wr.heap.size, 0, none⟩)) rfl (by kernel_rfl) (fun w' hF => by simp [execOp, Act.eval, go_sem]) ?_
                  refine mx_read _ (.string s) rfl (by kernel_rfl) (fun w' hF => by obtain ⟨u0, u1, u2, u3, u4⟩ := CELL.out _ hF; simp [execOp, Act.eval, go_sem, u0]) ?_
                  refine mx_read _ (.int .i64 (s.size : Int)) rfl (by kernel_rfl) (fun w' hF => by simp [execOp, Act.eval, go_sem]) ?_
                  refine mx_read _ (.bool false) rfl (by kernel_rfl) (fun w' hF => by simp [execOp, Act.eval, go_sem, c2]) ?_
                  refine mx_read _ (.bool false) rfl (by kernel_rfl) (fun w' hF => by simp [execOp, Act.eval, go_sem]) ?_
                  refine mx_read _ (.bool false) rfl (by kernel_rfl) (fun w' hF => by simp [execOp, Act.eval, go_sem]) ?_
                  refine mx_read _ (.pointer (some ⟨wr.heap.size, 0, none⟩)) rfl (by kernel_rfl) (fun w' hF => by simp [execOp, Act.eval, go_sem]) ?_
                  refine mx_read _ (.string s) rfl (by kernel_rfl) (fun w' hF => by obtain ⟨u0, u1, u2, u3, u4⟩ := CELL.out _ hF; simp [execOp, Act.eval, go_sem, u0]) ?_
                  refine mx_one _ rfl (by kernel_rfl) (fun K8 hK8 => ?_)
                  go_simp
                  refine (TRIM.out _ hd0).mono ?_
                  rintro e wt ⟨rfl, hd1⟩
                  refine hK8.out _ _ (fun _ => hd1) ?_
                  clear hK8 K8
                  refine mx_read _ (.bool false) rfl (by kernel_rfl) (fun w' hF => by simp [execOp, Act.eval, go_sem, c3b, nil_list]) ?_
                  refine mx_read _ (.bool false) rfl (by kernel_rfl) (fun w' hF => by simp [execOp, Act.eval, go_sem]) ?_
                  refine mx_read _ (.bool false) rfl (by kernel_rfl) (fun w' hF => by simp [execOp, Act.eval, go_sem]) ?_
                  refine mx_read _ (.pointer (some ⟨wr.heap.size, 1, none⟩)) rfl (by kernel_rfl) (fun w' hF => by simp [execOp, Act.eval, go_sem]) ?_
                  refine mx_read _ (.int .i64 f) rfl (by kernel_rfl) (fun w' hF => by obtain ⟨u0, u1, u2, u3, u4⟩ := CELL.out _ hF; simp [execOp, Act.eval, go_sem, u1]) ?_
                  refine mx_read _ (.pointer (some ⟨wr.heap.size, 2, none⟩)) rfl (by kernel_rfl) (fun w' hF => by simp [execOp, Act.eval, go_sem]) ?_
                  refine mx_read _ (.int .i64 bb) rfl (by kernel_rfl) (fun w' hF => by obtain ⟨u0, u1, u2, u3, u4⟩ := CELL.out _ hF; simp [execOp, Act.eval, go_sem, u2]) ?_
                  refine mx_read _ (.pointer (some ⟨wr.heap.size, 3, none⟩)) rfl (by kernel_rfl) (fun w' hF => by simp [execOp, Act.eval, go_sem]) ?_
                  refine mx_read _ (.int .i64 ww) rfl (by kernel_rfl) (fun w' hF => by obtain ⟨u0, u1, u2, u3, u4⟩ := CELL.out _ hF; simp [execOp, Act.eval, go_sem, u3]) ?_
                  refine mx_read _ (.pointer (some ⟨wr.heap.size, 4, none⟩)) rfl (by kernel_rfl) (fun w' hF => by simp [execOp, Act.eval, go_sem]) ?_
                  refine mx_read _ (.int .i64 cc) rfl (by kernel_rfl) (fun w' hF => by obtain ⟨u0, u1, u2, u3, u4⟩ := CELL.out _ hF; simp [execOp, Act.eval, go_sem, u4]) ?_
                  refine mx_one _ rfl (by kernel_rfl) (fun K8 hK8 => ?_)
                  go_simp
                  have hd2 := hd1.alloc (Nat.le_trans hB1 hd1.size) (.cells #[.int .i64 f, .int .i64 bb, .int .i64 ww, .int .i64 cc] 3)
                  have hrow := Row.new wt #[.int .i64 f, .int .i64 bb, .int .i64 ww, .int .i64 cc] 3 (0, 0)
                  refine hK8.out _ _ (fun _ => hd2) ?_
                  clear hK8 K8
                  refine mx_one _ rfl (by kernel_rfl) (fun K8 hK8 => ?_)
                  go_simp
                  refine (numbers_any [f, bb, ww, cc] _ 4 4 _ hrow rfl (by omega)).mono ?_
                  rintro e wn ⟨rfl, rfl⟩
                  refine hK8.out _ _ (fun _ => hd2) ?_
                  clear hK8 K8
                  refine mx_read _ (.bool false) rfl (by kernel_rfl) (fun w' hF => by simp [execOp, Act.eval, go_sem, c4]) ?_
                  refine mx_read _ (.bool false) rfl (by kernel_rfl) (fun w' hF => by simp [execOp, Act.eval, go_sem]) ?_
                  refine mx_read _ (.bool false) rfl (by kernel_rfl) (fun w' hF => by simp [execOp, Act.eval, go_sem]) ?_
                  refine mx_read _ (.int .i64 (k : Int)) rfl (by kernel_rfl) (fun w' hF => by simp [execOp, Act.eval, go_sem]) ?_
                  refine mx_read _ (.bool true) rfl (by kernel_rfl) (fun w' hF => by simp [execOp, Act.eval, go_sem, k0]) ?_
                  refine mx_read _ (.bool true) rfl (by kernel_rfl) (fun w' hF => by simp [execOp, Act.eval, go_sem]) ?_
                  refine mx_read _ (.slice (some ⟨b, o, none⟩) l.length c) rfl (by kernel_rfl) (fun w' hF => by simp [execOp, Act.eval, go_sem]) ?_
                  refine mx_read _ (.int .i64 (k : Int)) rfl (by kernel_rfl) (fun w' hF => by simp [execOp, Act.eval, go_sem]) ?_
                  refine mx_read _ (.int .i64 (j : Int)) rfl (by kernel_rfl) (fun w' hF => by simp [execOp, Act.eval, go_sem, cj]) ?_
                  refine mx_read _ (.pointer (some ⟨b, o + j * 5, none⟩)) rfl (by kernel_rfl) (fun w' hF => by simp [execOp, Act.eval, go_sem, j0, jlt]) ?_
                  refine mx_read _ (.pointer (some ⟨b, o + j * 5, none⟩)) rfl (by kernel_rfl) (fun w' hF => by simp [execOp, Act.eval, go_sem]) ?_
                  refine mx_read _ (.string q) rfl (by kernel_rfl) (fun w' hF => by have u5 := CELLQ.out _ hF; simp [execOp, Act.eval, go_sem, u5]) ?_
                  refine mx_read _ (.pointer (some ⟨wr.heap.size, 0, none⟩)) rfl (by kernel_rfl) (fun w' hF => by simp [execOp, Act.eval, go_sem]) ?_
                  refine mx_read _ (.string s) rfl (by kernel_rfl) (fun w' hF => by obtain ⟨u0, u1, u2, u3, u4⟩ := CELL.out _ hF; simp [execOp, Act.eval, go_sem, u0]) ?_
                  refine mx_read _ (.bool false) rfl (by kernel_rfl) (fun w' hF => by simp [execOp, Act.eval, go_sem, c6]) ?_
                  refine mx_read _ (.bool false) rfl (by kernel_rfl) (fun w' hF => by simp [execOp, Act.eval, go_sem]) ?_
                  refine mx_one _ rfl (by kernel_rfl) (fun K8 hK8 => ?_)
                  go_simp
                  refine hK8.out _ _ (fun h => absurd rfl h) ?_
                  clear hK8 K8
                  refine mx_end ?_
                  go_wp2_with fail
                  go_roundw
                  case rel => exact ⟨_, by go_num, HM.out.2, HGOOD.out, HB0.out.trans (hd2.mono (by omega))⟩
                  case measure => have := HM.out.2; simp [intOf]; omega
                · have HBAD := Lib.hid (HFB.out (by rw [HOK2.out]; simpa using c6))
                  refine mx_begin (fun w' => Below (wr.heap.size + 1) W0 w') [(true, 0), (true, 1), (true, 2), (true, 3), (true, 4), (true, 5), (true, 6), (true, 7), (true, 8), (true, 9), (true, 10), (true, 11), (true, 12), (false, 13), (true, 14), (true, 15), (true, 16), (true, 17), (true, 18), (true, 19), (true, 20), (true, 21), (true, 22), (true, 23), (true, 24), (false, 25), (false, 26), (true, 27), (true, 28), (true, 29), (true, 30), (true, 31), (true, 32), (true, 33), (true, 34), (true, 35), (true, 36), (true, 37), (true, 38), (true, 39), (true, 40), (true, 41), (true, 42), (false, 43)] (by kernel_rfl) (by kernel_rfl) (fun _ _ d _ _ h => by cases d <;> exact h) hd0 ?_
                  refine mx_read _ (.pointer (some ⟨wr.heap.size, 0, none⟩)) rfl (by kernel_rfl) (fun w' hF => by simp [execOp, Act.eval, go_sem]) ?_
                  refine mx_read _ (.string s) rfl (by kernel_rfl) (fun w' hF => by obtain ⟨u0, u1, u2, u3, u4⟩ := CELL.out _ hF; simp [execOp, Act.eval, go_sem, u0]) ?_
                  refine mx_read _ (.int .i64 (s.size : Int)) rfl (by kernel_rfl) (fun w' hF => by simp [execOp, Act.eval, go_sem]) ?_
                  refine mx_read _ (.bool false) rfl (by kernel_rfl) (fun w' hF => by simp [execOp, Act.eval, go_sem, c1]) ?_
                  refine mx_read _ (.bool false) rfl (by kernel_rfl) (fun w' hF => by simp [execOp, Act.eval, go_sem]) ?_
                  refine mx_read _ (.pointer (some ⟨wr.heap.size, 0, none⟩)) rfl (by kernel_rfl) (fun w' hF => by simp [execOp, Act.eval, go_sem]) ?_
                  refine mx_read _ (.string s) rfl (by kernel_rfl) (fun w' hF => by obtain ⟨u0, u1, u2, u3, u4⟩ := CELL.out _ hF; simp [execOp, Act.eval, go_sem, u0]) ?_
                  refine mx_read _ (.int .i64 (s.size : Int)) rfl (by kernel_rfl) (fun w' hF => by simp [execOp, Act.eval, go_sem]) ?_
                  refine mx_read _ (.bool false) rfl (by kernel_rfl) (fun w' hF => by simp [execOp, Act.eval, go_sem, c2]) ?_
                  refine mx_read _ (.bool false) rfl (by kernel_rfl) (fun w' hF => by simp [execOp, Act.eval, go_sem]) ?_
                  refine mx_read _ (.bool false) rfl (by kernel_rfl) (fun w' hF => by simp [execOp, Act.eval, go_sem]) ?_
                  refine mx_read _ (.pointer (some ⟨wr.heap.size, 0, none⟩)) rfl (by kernel_rfl) (fun w' hF => by simp [execOp, Act.eval, go_sem]) ?_
                  refine mx_read _ (.string s) rfl (by kernel_rfl) (fun w' hF => by obtain ⟨u0, u1, u2, u3, u4⟩ := CELL.out _ hF; simp [execOp, Act.eval, go_sem, u0]) ?_
                  refine mx_one _ rfl (by kernel_rfl) (fun K8 hK8 => ?_)
                  go_simp
                  refine (TRIM.out _ hd0).mono ?_
                  rintro e wt ⟨rfl, hd1⟩
                  refine hK8.out _ _ (fun _ => hd1) ?_
                  clear hK8 K8
                  refine mx_read _ (.bool false) rfl (by kernel_rfl) (fun w' hF => by simp [execOp, Act.eval, go_sem, c3b, nil_list]) ?_
                  refine mx_read _ (.bool false) rfl (by kernel_rfl) (fun w' hF => by simp [execOp, Act.eval, go_sem]) ?_
                  refine mx_read _ (.bool false) rfl (by kernel_rfl) (fun w' hF => by simp [execOp, Act.eval, go_sem]) ?_
                  refine mx_read _ (.pointer (some ⟨wr.heap.size, 1, none⟩)) rfl (by kernel_rfl) (fun w' hF => by simp [execOp, Act.eval, go_sem]) ?_
                  refine mx_read _ (.int .i64 f) rfl (by kernel_rfl) (fun w' hF => by obtain ⟨u0, u1, u2, u3, u4⟩ := CELL.out _ hF; simp [execOp, Act.eval, go_sem, u1]) ?_
                  refine mx_read _ (.pointer (some ⟨wr.heap.size, 2, none⟩)) rfl (by kernel_rfl) (fun w' hF => by simp [execOp, Act.eval, go_sem]) ?_
                  refine mx_read _ (.int .i64 bb) rfl (by kernel_rfl) (fun w' hF => by obtain ⟨u0, u1, u2, u3, u4⟩ := CELL.out _ hF; simp [execOp, Act.eval, go_sem, u2]) ?_
                  refine mx_read _ (.pointer (some ⟨wr.heap.size, 3, none⟩)) rfl (by kernel_rfl) (fun w' hF => by simp [execOp, Act.eval, go_sem]) ?_
                  refine mx_read _ (.int .i64 ww) rfl (by kernel_rfl) (fun w' hF => by obtain ⟨u0, u1, u2, u3, u4⟩ := CELL.out _ hF; simp [execOp, Act.eval, go_sem, u3]) ?_
                  refine mx_read _ (.pointer (some ⟨wr.heap.size, 4, none⟩)) rfl (by kernel_rfl) (fun w' hF => by simp [execOp, Act.eval, go_sem]) ?_
                  refine mx_read _ (.int .i64 cc) rfl (by kernel_rfl) (fun w' hF => by obtain ⟨u0, u1, u2, u3, u4⟩ := CELL.out _ hF; simp [execOp, Act.eval, go_sem, u4]) ?_
                  refine mx_one _ rfl (by kernel_rfl) (fun K8 hK8 => ?_)
                  go_simp
                  have hd2 := hd1.alloc (Nat.le_trans hB1 hd1.size) (.cells #[.int .i64 f, .int .i64 bb, .int .i64 ww, .int .i64 cc] 3)
                  have hrow := Row.new wt #[.int .i64 f, .int .i64 bb, .int .i64 ww, .int .i64 cc] 3 (0, 0)
                  refine hK8.out _ _ (fun _ => hd2) ?_
                  clear hK8 K8
                  refine mx_one _ rfl (by kernel_rfl) (fun K8 hK8 => ?_)
                  go_simp
                  refine (numbers_any [f, bb, ww, cc] _ 4 4 _ hrow rfl (by omega)).mono ?_
                  rintro e wn ⟨rfl, rfl⟩
                  refine hK8.out _ _ (fun _ => hd2) ?_
                  clear hK8 K8
                  refine mx_read _ (.bool false) rfl (by kernel_rfl) (fun w' hF => by simp [execOp, Act.eval, go_sem, c4]) ?_
                  refine mx_read _ (.bool false) rfl (by kernel_rfl) (fun w' hF => by simp [execOp, Act.eval, go_sem]) ?_
                  refine mx_read _ (.bool false) rfl (by kernel_rfl) (fun w' hF => by simp [execOp, Act.eval, go_sem]) ?_
                  refine mx_read _ (.int .i64 (k : Int)) rfl (by kernel_rfl) (fun w' hF => by simp [execOp, Act.eval, go_sem]) ?_
                  refine mx_read _ (.bool true) rfl (by kernel_rfl) (fun w' hF => by simp [execOp, Act.eval, go_sem, k0]) ?_
                  refine mx_read _ (.bool true) rfl (by kernel_rfl) (fun w' hF => by simp [execOp, Act.eval, go_sem]) ?_
                  refine mx_read _ (.slice (some ⟨b, o, none⟩) l.length c) rfl (by kernel_rfl) (fun w' hF => by simp [execOp, Act.eval, go_sem]) ?_
                  refine mx_read _ (.int .i64 (k : Int)) rfl (by kernel_rfl) (fun w' hF => by simp [execOp, Act.eval, go_sem]) ?_
                  refine mx_read _ (.int .i64 (j : Int)) rfl (by kernel_rfl) (fun w' hF => by simp [execOp, Act.eval, go_sem, cj]) ?_
                  refine mx_read _ (.pointer (some ⟨b, o + j * 5, none⟩)) rfl (by kernel_rfl) (fun w' hF => by simp [execOp, Act.eval, go_sem, j0, jlt]) ?_
                  refine mx_read _ (.pointer (some ⟨b, o + j * 5, none⟩)) rfl (by kernel_rfl) (fun w' hF => by simp [execOp, Act.eval, go_sem]) ?_
                  refine mx_read _ (.string q) rfl (by kernel_rfl) (fun w' hF => by have u5 := CELLQ.out _ hF; simp [execOp, Act.eval, go_sem, u5]) ?_
                  refine mx_read _ (.pointer (some ⟨wr.heap.size, 0, none⟩)) rfl (by kernel_rfl) (fun w' hF => by simp [execOp, Act.eval, go_sem]) ?_
                  refine mx_read _ (.string s) rfl (by kernel_rfl) (fun w' hF => by obtain ⟨u0, u1, u2, u3, u4⟩ := CELL.out _ hF; simp [execOp, Act.eval, go_sem, u0]) ?_
                  refine mx_read _ (.bool true) rfl (by kernel_rfl) (fun w' hF => by simp [execOp, Act.eval, go_sem, c6]) ?_
                  refine mx_read _ (.bool true) rfl (by kernel_rfl) (fun w' hF => by simp [execOp, Act.eval, go_sem]) ?_
                  refine mx_one _ rfl (by kernel_rfl) (fun K8 hK8 => ?_)
                  go_simp
                  refine hK8.out _ _ (fun h => absurd rfl h) ?_
                  clear hK8 K8
                  refine mx_end ?_
                  go_wp2_with fail
                  go_ret
                  exact ⟨by rw [HBAD.out]; rfl, HB0.out.trans (hd2.mono (by omega))⟩
              · have HGOOD := Lib.hid (HGO.out (HFIRST.out (by omega) HE1.out))
                refine mx_begin (fun w' => Below (wr.heap.size + 1) W0 w') [(true, 0), (true, 1), (true, 2), (true, 3), (true, 4), (true, 5), (true, 6), (true, 7), (true, 8), (true, 9), (true, 10), (true, 11), (true, 12), (false, 13), (true, 14), (true, 15), (true, 16), (true, 17), (true, 18), (true, 19), (true, 20), (true, 21), (true, 22), (true, 23), (true, 24), (false, 25), (false, 26), (true, 27), (true, 28), (true, 29), (true, 30), (true, 31), (true, 32), (true, 33), (true, 34), (true, 35), (true, 36), (true, 37), (true, 38), (true, 39), (true, 40), (true, 41), (true, 42), (false, 43)] (by kernel_rfl) (by kernel_rfl) (fun _ _ d _ _ h => by cases d <;> exact h) hd0 ?_
                refine mx_read _ (.pointer (some ⟨wr.heap.size, 0, none⟩)) rfl (by kernel_rfl) (fun w' hF => by simp [execOp, Act.eval, go_sem]) ?_
                refine mx_read _ (.string s) rfl (by kernel_rfl) (fun w' hF => by obtain ⟨u0, u1, u2, u3, u4⟩ := CELL.out _ hF; simp [execOp, Act.eval, go_sem, u0]) ?_
                refine mx_read _ (.int .i64 (s.size : Int)) rfl (by kernel_rfl) (fun w' hF => by simp [execOp, Act.eval, go_sem]) ?_
                refine mx_read _ (.bool false) rfl (by kernel_rfl) (fun w' hF => by simp [execOp, Act.eval, go_sem, c1]) ?_
                refine mx_read _ (.bool false) rfl (by kernel_rfl) (fun w' hF => by simp [execOp, Act.eval, go_sem]) ?_
                refine mx_read _ (.pointer (some ⟨wr.heap.size, 0, none⟩)) rfl (by kernel_rfl) (fun w' hF => by simp [execOp, Act.eval, go_sem]) ?_
                refine mx_read _ (.string s) rfl (by kernel_rfl) (fun w' hF => by obtain ⟨u0, u1, u2, u3, u4⟩ := CELL.out _ hF; simp [execOp, Act.eval, go_sem, u0]) ?_
                refine mx_read _ (.int .i64 (s.size : Int)) rfl (by kernel_rfl) (fun w' hF => by simp [execOp, Act.eval, go_sem]) ?_
                refine mx_read _ (.bool false) rfl (by kernel_rfl) (fun w' hF => by simp [execOp, Act.eval, go_sem, c2]) ?_
                refine mx_read _ (.bool false) rfl (by kernel_rfl) (fun w' hF => by simp [execOp, Act.eval, go_sem]) ?_
                refine mx_read _ (.bool false) rfl (by kernel_rfl) (fun w' hF => by simp [execOp, Act.eval, go_sem]) ?_
                refine mx_read _ (.pointer (some ⟨wr.heap.size, 0, none⟩)) rfl (by kernel_rfl) (fun w' hF => by simp [execOp, Act.eval, go_sem]) ?_
                refine mx_read _ (.string s) rfl (by kernel_rfl) (fun w' hF => by obtain ⟨u0, u1, u2, u3, u4⟩ := CELL.out _ hF; simp [execOp, Act.eval, go_sem, u0]) ?_
                refine mx_one _ rfl (by kernel_rfl) (fun K8 hK8 => ?_)
                go_simp
                refine (TRIM.out _ hd0).mono ?_
                rintro e wt ⟨rfl, hd1⟩
                refine hK8.out _ _ (fun _ => hd1) ?_
                clear hK8 K8
                refine mx_read _ (.bool false) rfl (by kernel_rfl) (fun w' hF => by simp [execOp, Act.eval, go_sem, c3b, nil_list]) ?_
                refine mx_read _ (.bool false) rfl (by kernel_rfl) (fun w' hF => by simp [execOp, Act.eval, go_sem]) ?_
                refine mx_read _ (.bool false) rfl (by kernel_rfl) (fun w' hF => by simp [execOp, Act.eval, go_sem]) ?_
                refine mx_read _ (.pointer (some ⟨wr.heap.size, 1, none⟩)) rfl (by kernel_rfl) (fun w' hF => by simp [execOp, Act.eval, go_sem]) ?_
                refine mx_read _ (.int .i64 f) rfl (by kernel_rfl) (fun w' hF => by obtain ⟨u0, u1, u2, u3, u4⟩ := CELL.out _ hF; simp [execOp, Act.eval, go_sem, u1]) ?_
                refine mx_read _ (.pointer (some ⟨wr.heap.size, 2, none⟩)) rfl (by kernel_rfl) (fun w' hF => by simp [execOp, Act.eval, go_sem]) ?_
                refine mx_read _ (.int .i64 bb) rfl (by kernel_rfl) (fun w' hF => by obtain ⟨u0, u1, u2, u3, u4⟩ := CELL.out _ hF; simp [execOp, Act.eval, go_sem, u2]) ?_
                refine mx_read _ (.pointer (some ⟨wr.heap.size, 3, none⟩)) rfl (by kernel_rfl) (fun w' hF => by simp [execOp, Act.eval, go_sem]) ?_
                refine mx_read _ (.int .i64 ww) rfl (by kernel_rfl) (fun w' hF => by obtain ⟨u0, u1, u2, u3, u4⟩ := CELL.out _ hF; simp [execOp, Act.eval, go_sem, u3]) ?_
                refine mx_read _ (.pointer (some ⟨wr.heap.size, 4, none⟩)) rfl (by kernel_rfl) (fun w' hF => by simp [execOp, Act.eval, go_sem]) ?_
                refine mx_read _ (.int .i64 cc) rfl (by kernel_rfl) (fun w' hF => by obtain ⟨u0, u1, u2, u3, u4⟩ := CELL.out _ hF; simp [execOp, Act.eval, go_sem, u4]) ?_
                refine mx_one _ rfl (by kernel_rfl) (fun K8 hK8 => ?_)
                go_simp
                have hd2 := hd1.alloc (Nat.le_trans hB1 hd1.size) (.cells #[.int .i64 f, .int .i64 bb, .int .i64 ww, .int .i64 cc] 3)
                have hrow := Row.new wt #[.int .i64 f, .int .i64 bb, .int .i64 ww, .int .i64 cc] 3 (0, 0)
                refine hK8.out _ _ (fun _ => hd2) ?_
                clear hK8 K8
                refine mx_one _ rfl (by kernel_rfl) (fun K8 hK8 => ?_)
                go_simp
                refine (numbers_any [f, bb, ww, cc] _ 4 4 _ hrow rfl (by omega)).mono ?_
                rintro e wn ⟨rfl, rfl⟩
                refine hK8.out _ _ (fun _ => hd2) ?_
                clear hK8 K8
                refine mx_read _ (.bool false) rfl (by kernel_rfl) (fun w' hF => by simp [execOp, Act.eval, go_sem, c4]) ?_
                refine mx_read _ (.bool false) rfl (by kernel_rfl) (fun w' hF => by simp [execOp, Act.eval, go_sem]) ?_
                refine mx_read _ (.bool false) rfl (by kernel_rfl) (fun w' hF => by simp [execOp, Act.eval, go_sem]) ?_
                refine mx_read _ (.int .i64 (k : Int)) rfl (by kernel_rfl) (fun w' hF => by simp [execOp, Act.eval, go_sem]) ?_
                refine mx_read _ (.bool false) rfl (by kernel_rfl) (fun w' hF => by simp [execOp, Act.eval, go_sem, k0]) ?_
                refine mx_read _ (.bool false) rfl (by kernel_rfl) (fun w' hF => by simp [execOp, Act.eval, go_sem]) ?_
                refine mx_skip _ rfl (by kernel_rfl) ?_
                refine mx_skip _ rfl (by kernel_rfl) ?_
                refine mx_skip _ rfl (by kernel_rfl) ?_
                refine mx_skip _ rfl (by kernel_rfl) ?_
                refine mx_skip _ rfl (by kernel_rfl) ?_
                refine mx_skip _ rfl (by kernel_rfl) ?_
                refine mx_skip _ rfl (by kernel_rfl) ?_
                refine mx_skip _ rfl (by kernel_rfl) ?_
                refine mx_skip _ rfl (by kernel_rfl) ?_
                refine mx_read _ (.bool false) rfl (by kernel_rfl) (fun w' hF => by simp [execOp, Act.eval, go_sem]) ?_
                refine mx_one _ rfl (by kernel_rfl) (fun K8 hK8 => ?_)
                go_simp
                refine hK8.out _ _ (fun h => absurd rfl h) ?_
                clear hK8 K8
                refine mx_end ?_
                go_wp2_with fail
                go_roundw
                case rel => exact ⟨_, by go_num, HM.out.2, HGOOD.out, HB0.out.trans (hd2.mono (by omega))⟩
                case measure => have := HM.out.2; simp [intOf]; omega
            · have HBAD := Lib.hid (HFB.out (HOKE.out (HENTN.out (by simpa using c4))))
              refine mx_begin (fun w' => Below (wr.heap.size + 1) W0 w') [(true, 0), (true, 1), (true, 2), (true, 3), (true, 4), (true, 5), (true, 6), (true, 7), (true, 8), (true, 9), (true, 10), (true, 11), (true, 12), (false, 13), (true, 14), (true, 15), (true, 16), (true, 17), (true, 18), (true, 19), (true, 20), (true, 21), (true, 22), (true, 23), (true, 24), (false, 25), (false, 26), (true, 27), (true, 28), (true, 29), (true, 30), (true, 31), (true, 32), (true, 33), (true, 34), (true, 35), (true, 36), (true, 37), (true, 38), (true, 39), (true, 40), (true, 41), (true, 42), (false, 43)] (by kernel_rfl) (by kernel_rfl) (fun _ _ d _ _ h => by cases d <;> exact h) hd0 ?_
              refine mx_read _ (.pointer (some ⟨wr.heap.size, 0, none⟩)) rfl (by kernel_rfl) (fun w' hF => by simp [execOp, Act.eval, go_sem]) ?_
              refine mx_read _ (.string s) rfl (by kernel_rfl) (fun w' hF => by obtain ⟨u0, u1, u2, u3, u4⟩ := CELL.out _ hF; simp [execOp, Act.eval, go_sem, u0]) ?_
              refine mx_read _ (.int .i64 (s.size : Int)) rfl (by kernel_rfl) (fun w' hF => by simp [execOp, Act.eval, go_sem]) ?_
              refine mx_read _ (.bool false) rfl (by kernel_rfl) (fun w' hF => by simp [execOp, Act.eval, go_sem, c1]) ?_
              refine mx_read _ (.bool false) rfl (by kernel_rfl) (fun w' hF => by simp [execOp, Act.eval, go_sem]) ?_
              refine mx_read _ (.pointer (some ⟨wr.heap.size, 0, none⟩)) rfl (by kernel_rfl) (fun w' hF => by simp [execOp, Act.eval, go_sem]) ?_
              refine mx_read _ (.string s) rfl (by kernel_rfl) (fun w' hF => by obtain ⟨u0, u1, u2, u3, u4⟩ := CELL.out _ hF; simp [execOp, Act.eval, go_sem, u0]) ?_
              refine mx_read _ (.int .i64 (s.size : Int)) rfl (by kernel_rfl) (fun w' hF => by simp [execOp, Act.eval, go_sem]) ?_
              refine mx_read _ (.bool false) rfl (by kernel_rfl) (fun w' hF => by simp [execOp, Act.eval, go_sem, c2]) ?_
              refine mx_read _ (.bool false) rfl (by kernel_rfl) (fun w' hF => by simp [execOp, Act.eval, go_sem]) ?_
              refine mx_read _ (.bool false) rfl (by kernel_rfl) (fun w' hF => by simp [execOp, Act.eval, go_sem]) ?_
              refine mx_read _ (.pointer (some ⟨wr.heap.size, 0, none⟩)) rfl (by kernel_rfl) (fun w' hF => by simp [execOp, Act.eval, go_sem]) ?_
              refine mx_read _ (.string s) rfl (by kernel_rfl) (fun w' hF => by obtain ⟨u0, u1, u2, u3, u4⟩ := CELL.out _ hF; simp [execOp, Act.eval, go_sem, u0]) ?_
              refine mx_one _ rfl (by kernel_rfl) (fun K8 hK8 => ?_)
              go_simp
              refine (TRIM.out _ hd0).mono ?_
              rintro e wt ⟨rfl, hd1⟩
              refine hK8.out _ _ (fun _ => hd1) ?_
              clear hK8 K8
              refine mx_read _ (.bool false) rfl (by kernel_rfl) (fun w' hF => by simp [execOp, Act.eval, go_sem, c3b, nil_list]) ?_
              refine mx_read _ (.bool false) rfl (by kernel_rfl) (fun w' hF => by simp [execOp, Act.eval, go_sem]) ?_
              refine mx_read _ (.bool false) rfl (by kernel_rfl) (fun w' hF => by simp [execOp, Act.eval, go_sem]) ?_
              refine mx_read _ (.pointer (some ⟨wr.heap.size, 1, none⟩)) rfl (by kernel_rfl) (fun w' hF => by simp [execOp, Act.eval, go_sem]) ?_
              refine mx_read _ (.int .i64 f) rfl (by kernel_rfl) (fun w' hF => by obtain ⟨u0, u1, u2, u3, u4⟩ := CELL.out _ hF; simp [execOp, Act.eval, go_sem, u1]) ?_
              refine mx_read _ (.pointer (some ⟨wr.heap.size, 2, none⟩)) rfl (by kernel_rfl) (fun w' hF => by simp [execOp, Act.eval, go_sem]) ?_
              refine mx_read _ (.int .i64 bb) rfl (by kernel_rfl) (fun w' hF => by obtain ⟨u0, u1, u2, u3, u4⟩ := CELL.out _ hF; simp [execOp, Act.eval, go_sem, u2]) ?_
              refine mx_read _ (.pointer (some ⟨wr.heap.size, 3, none⟩)) rfl (by kernel_rfl) (fun w' hF => by simp [execOp, Act.eval, go_sem]) ?_
              refine mx_read _ (.int .i64 ww) rfl (by kernel_rfl) (fun w' hF => by obtain ⟨u0, u1, u2, u3, u4⟩ := CELL.out _ hF; simp [execOp, Act.eval, go_sem, u3]) ?_
              refine mx_read _ (.pointer (some ⟨wr.heap.size, 4, none⟩)) rfl (by kernel_rfl) (fun w' hF => by simp [execOp, Act.eval, go_sem]) ?_
              refine mx_read _ (.int .i64 cc) rfl (by kernel_rfl) (fun w' hF => by obtain ⟨u0, u1, u2, u3, u4⟩ := CELL.out _ hF; simp [execOp, Act.eval, go_sem, u4]) ?_
              refine mx_one _ rfl (by kernel_rfl) (fun K8 hK8 => ?_)
              go_simp
              have hd2 := hd1.alloc (Nat.le_trans hB1 hd1.size) (.cells #[.int .i64 f, .int .i64 bb, .int .i64 ww, .int .i64 cc] 3)
              have hrow := Row.new wt #[.int .i64 f, .int .i64 bb, .int .i64 ww, .int .i64 cc] 3 (0, 0)
              refine hK8.out _ _ (fun _ => hd2) ?_
              clear hK8 K8
              refine mx_one _ rfl (by kernel_rfl) (fun K8 hK8 => ?_)
              go_simp
              refine (numbers_any [f, bb, ww, cc] _ 4 4 _ hrow rfl (by omega)).mono ?_
              rintro e wn ⟨rfl, rfl⟩
              refine hK8.out _ _ (fun _ => hd2) ?_
              clear hK8 K8
              refine mx_read _ (.bool true) rfl (by kernel_rfl) (fun w' hF => by simp [execOp, Act.eval, go_sem, c4]) ?_
              refine mx_read _ (.bool true) rfl (by kernel_rfl) (fun w' hF => by simp [execOp, Act.eval, go_sem]) ?_
              refine mx_read _ (.bool true) rfl (by kernel_rfl) (fun w' hF => by simp [execOp, Act.eval, go_sem]) ?_
              refine mx_skip _ rfl (by kernel_rfl) ?_
              refine mx_skip _ rfl (by kernel_rfl) ?_
              refine mx_skip _ rfl (by kernel_rfl) ?_
              refine mx_skip _ rfl (by kernel_rfl) ?_
              refine mx_skip _ rfl (by kernel_rfl) ?_
              refine mx_skip _ rfl (by kernel_rfl) ?_
              refine mx_skip _ rfl (by kernel_rfl) ?_
              refine mx_skip _ rfl (by kernel_rfl) ?_
              refine mx_skip _ rfl (by kernel_rfl) ?_
              refine mx_skip _ rfl (by kernel_rfl) ?_
              refine mx_skip _ rfl (by kernel_rfl) ?_
              refine mx_skip _ rfl (by kernel_rfl) ?_
              refine mx_skip _ rfl (by kernel_rfl) ?_
              refine mx_one _ rfl (by kernel_rfl) (fun K8 hK8 => ?_)
              go_simp
              refine hK8.out _ _ (fun h => absurd rfl h) ?_
              clear hK8 K8
              refine mx_end ?_
              go_wp2_with fail
              go_ret
              exact ⟨by rw [HBAD.out]; rfl, HB0.out.trans (hd2.mono (by omega))⟩
          · have c3b : (T.toList == []) = false := by simp [c3]
            have HBAD := Lib.hid (HFB.out (HOKE.out (HNAMEN.out (fun h => c3 (hT.2 h)))))
            clear hT
            refine mx_begin (fun w' => Below (wr.heap.size + 1) W0 w') [(true, 0), (true, 1), (true, 2), (true, 3), (true, 4), (true, 5), (true, 6), (true, 7), (true, 8), (true, 9), (true, 10), (true, 11), (true, 12), (false, 13), (true, 14), (true, 15), (true, 16), (true, 17), (true, 18), (true, 19), (true, 20), (true, 21), (true, 22), (true, 23), (true, 24), (false, 25), (false, 26), (true, 27), (true, 28), (true, 29), (true, 30), (true, 31), (true, 32), (true, 33), (true, 34), (true, 35), (true, 36), (true, 37), (true, 38), (true, 39), (true, 40), (true, 41), (true, 42), (false, 43)] (by kernel_rfl) (by kernel_rfl) (fun _ _ d _ _ h => by cases d <;> exact h) hd0 ?_
            refine mx_read _ (.pointer (some ⟨wr.heap.size, 0, none⟩)) rfl (by kernel_rfl) (fun w' hF => by simp [execOp, Act.eval, go_sem]) ?_
            refine mx_read _ (.string s) rfl (by kernel_rfl) (fun w' hF => by obtain ⟨u0, u1, u2, u3, u4⟩ := CELL.out _ hF; simp [execOp, Act.eval, go_sem, u0]) ?_
            refine mx_read _ (.int .i64 (s.size : Int)) rfl (by kernel_rfl) (fun w' hF => by simp [execOp, Act.eval, go_sem]) ?_
            refine mx_read _ (.bool false) rfl (by kernel_rfl) (fun w' hF => by simp [execOp, Act.eval, go_sem, c1]) ?_
            refine mx_read _ (.bool false) rfl (by kernel_rfl) (fun w' hF => by simp [execOp, Act.eval, go_sem]) ?_
            refine mx_read _ (.pointer (some ⟨wr.heap.size, 0, none⟩)) rfl (by kernel_rfl) (fun w' hF => by simp [execOp, Act.eval, go_sem]) ?_
            refine mx_read _ (.string s) rfl (by kernel_rfl) (fun w' hF => by obtain ⟨u0, u1, u2, u3, u4⟩ := CELL.out _ hF; simp [execOp, Act.eval, go_sem, u0]) ?_
            refine mx_read _ (.int .i64 (s.size : Int)) rfl (by kernel_rfl) (fun w' hF => by simp [execOp, Act.eval, go_sem]) ?_
            refine mx_read _ (.bool false) rfl (by kernel_rfl) (fun w' hF => by simp [execOp, Act.eval, go_sem, c2]) ?_
            refine mx_read _ (.bool false) rfl (by kernel_rfl) (fun w' hF => by simp [execOp, Act.eval, go_sem]) ?_
            refine mx_read _ (.bool false) rfl (by kernel_rfl) (fun w' hF => by simp [execOp, Act.eval, go_sem]) ?_
            refine mx_read _ (.pointer (some ⟨wr.heap.size, 0, none⟩)) rfl (by kernel_rfl) (fun w' hF => by simp [execOp, Act.eval, go_sem]) ?_
            refine mx_read _ (.string s) rfl (by kernel_rfl) (fun w' hF => by obtain ⟨u0, u1, u2, u3, u4⟩ := CELL.out _ hF; simp [execOp, Act.eval, go_sem, u0]) ?_
            refine mx_one _ rfl (by kernel_rfl) (fun K8 hK8 => ?_)
            go_simp
            refine (TRIM.out _ hd0).mono ?_
            rintro e wt ⟨rfl, hd1⟩
            refine hK8.out _ _ (fun _ => hd1) ?_
            clear hK8 K8
            refine mx_read _ (.bool true) rfl (by kernel_rfl) (fun w' hF => by simp [execOp, Act.eval, go_sem, c3b, nil_list]) ?_
            refine mx_read _ (.bool true) rfl (by kernel_rfl) (fun w' hF => by simp [execOp, Act.eval, go_sem]) ?_
            refine mx_read _ (.bool true) rfl (by kernel_rfl) (fun w' hF => by simp [execOp, Act.eval, go_sem]) ?_
            refine mx_skip _ rfl (by kernel_rfl) ?_
            refine mx_skip _ rfl (by kernel_rfl) ?_
            refine mx_skip _ rfl (by kernel_rfl) ?_
            refine mx_skip _ rfl (by kernel_rfl) ?_
            refine mx_skip _ rfl (by kernel_rfl) ?_
            refine mx_skip _ rfl (by kernel_rfl) ?_
            refine mx_skip _ rfl (by kernel_rfl) ?_
            refine mx_skip _ rfl (by kernel_rfl) ?_
            refine mx_one_skip _ rfl hd1 (by kernel_rfl) ?_
            refine mx_one_skip _ rfl hd1 (by kernel_rfl) ?_
            refine mx_skip _ rfl (by kernel_rfl) ?_
            refine mx_read _ (.bool true) rfl (by kernel_rfl) (fun w' hF => by simp [execOp, Act.eval, go_sem]) ?_
            refine mx_read _ (.bool true) rfl (by kernel_rfl) (fun w' hF => by simp [execOp, Act.eval, go_sem]) ?_
            refine mx_skip _ rfl (by kernel_rfl) ?_
            refine mx_skip _ rfl (by kernel_rfl) ?_
            refine mx_skip _ rfl (by kernel_rfl) ?_
            refine mx_skip _ rfl (by kernel_rfl) ?_
            refine mx_skip _ rfl (by kernel_rfl) ?_
            refine mx_skip _ rfl (by kernel_rfl) ?_
            refine mx_skip _ rfl (by kernel_rfl) ?_
            refine mx_skip _ rfl (by kernel_rfl) ?_
            refine mx_skip _ rfl (by kernel_rfl) ?_
            refine mx_skip _ rfl (by kernel_rfl) ?_
            refine mx_skip _ rfl (by kernel_rfl) ?_
            refine mx_skip _ rfl (by kernel_rfl) ?_
            refine mx_skip _ rfl (by kernel_rfl) ?_
            refine mx_one _ rfl (by kernel_rfl) (fun K8 hK8 => ?_)
            go_simp
            refine hK8.out _ _ (fun h => absurd rfl h) ?_
            clear hK8 K8
            refine mx_end ?_
            go_wp2_with fail
            go_ret
            exact ⟨by rw [HBAD.out]; rfl, HB0.out.trans (hd1.mono (by omega))⟩
    · obtain rfl : l.length = k := by omega
      have hlt2 : ¬ (l.length : Int) < (l.length : Int) := by omega
      have HF := Lib.hid (show formedM l = decide (l.length ≤ 12) from by
        unfold formedM
        rw [decide_eq_decide]
        exact ⟨fun h => h.1, fun h => ⟨h, HALL.out⟩⟩)
      have HB := Lib.hid hb
      clear hr hb hk hlt hsz
      by_cases c12 : (l.length : Int) ≤ 12
      · go_wp2_with fail
        go_ret
        exact ⟨by rw [HF.out]; first | rfl | (simp; done) | (simp; omega), HB.out⟩
      · go_wp2_with fail
        go_ret
        exact ⟨by rw [HF.out]; first | rfl | (simp; done) | (simp; omega), HB.out⟩

end Go.Proofs.YtmmkncocgjgapaaDoor.Mf
