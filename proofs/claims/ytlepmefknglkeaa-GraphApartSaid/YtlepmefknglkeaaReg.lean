/- Regions that draw their order: an operation that reads may be taken first if what can come ahead of it keeps what it reads; what comes behind it need not. No condition. -/
import Derived.WalkKit
import Derived.Deep.RegionHeld3
import Derived.StillTailTactics
namespace Go.Proofs.Ytlepmefknglkeaa
open Go.RowKit

section
variable {P : Program} {ops : Array Oper} {Q : Exit → Act → World → Prop} {md : Region.Mode} {F : World → Prop} {late : Nat → Bool}

/-- Whatever order is picked from here on; F holds behind every operation that is not late. -/
def AnyS (P : Program) (md : Region.Mode) (ops : Array Oper) (Q : Exit → Act → World → Prop) (F : World → Prop) (late : Nat → Bool) : Nat → Array Bool → Act → World → Prop
  | 0, listed, a, w => Region.ready md ops listed = [] ∧ Q .normal a w
  | f + 1, listed, a, w => (Region.ready md ops listed = [] → Q .normal a w) ∧
      ∀ i ∈ Region.ready md ops listed, wpOp P ops Q i (fun a' w' => (late i = false → F w') ∧ AnyS P md ops Q F late f (listed.setIfInBounds i true) a' w') a w

theorem any_of_S : ∀ (f : Nat) (listed : Array Bool) (a : Act) (w : World), AnyS P md ops Q F late f listed a w → wpAny P md ops Q f listed a w
  | 0, _, _, _, h => h
  | f + 1, _, _, _, h => ⟨h.1, fun i hi => wpOp_mono (fun a' w' h' => any_of_S f _ a' w' h'.2) (h.2 i hi)⟩

/-- All that can come up without operation i. -/
def withoutIt (md : Region.Mode) (ops : Array Oper) (i : Nat) (listed : Array Bool) : Array Bool :=
  (List.range ops.size).foldl (fun C j => if j != i && ((ops[j]?).map (·.after.all fun e => !Region.binds md e || C.getD e.on false)).getD false then C.setIfInBounds j true else C) listed
/-- C is closed, but for i, and holds no late one. -/
def closedB (md : Region.Mode) (ops : Array Oper) (late : Nat → Bool) (listed : Array Bool) (i : Nat) (C : Array Bool) : Bool :=
  ((List.range listed.size).all fun j => !listed.getD j false || C.getD j false) &&
  ((List.range ops.size).all fun j => j == i || C.getD j false || ((ops[j]?).map (·.after.any fun e => Region.binds md e && !C.getD e.on false)).getD true) &&
  ((List.range C.size).all fun j => !C.getD j false || listed.getD j false || !late j)
def takeB (md : Region.Mode) (ops : Array Oper) (late : Nat → Bool) (listed : Array Bool) (i : Nat) : Bool :=
  Region.noSelect ops && Region.free md ops listed i && (Region.ready md ops listed).contains i && closedB md ops late listed i (withoutIt md ops i listed)

theorem getD_lt {A : Array Bool} {j : Nat} (h : A.getD j false = true) : j < A.size := by
  rcases Nat.lt_or_ge j A.size with h' | h'
  · exact h'
  · simp [Array.getElem?_eq_none h'] at h
theorem closed_spec {listed C : Array Bool} {i : Nat} (h : closedB md ops late listed i C = true) :
    (∀ j, listed.getD j false = true → C.getD j false = true) ∧
    (∀ j oj, ops[j]? = some oj → j ≠ i → C.getD j false = false → ∃ e ∈ oj.after, Region.binds md e = true ∧ C.getD e.on false = false) ∧
    (∀ j, C.getD j false = true → listed.getD j false = false → late j = false) := by
  unfold closedB at h
  simp only [Bool.and_eq_true, List.all_eq_true, List.mem_range] at h
  obtain ⟨⟨h1, h2⟩, h3⟩ := h
  refine ⟨fun j hj => ?_, fun j oj hj hne hC => ?_, fun j hj hl => ?_⟩
  · have := h1 j (getD_lt hj)
    rw [hj] at this
    simpa using this
  · have := h2 j (Array.getElem?_eq_some_iff.1 hj).1
    rw [hj, hC] at this
    have hb : (j == i) = false := by simpa using hne
    rw [hb] at this
    simp only [Bool.or_false, Bool.false_or, Option.map_some, Option.getD_some, Array.any_eq_true', Bool.and_eq_true, Bool.not_eq_true'] at this
    obtain ⟨e, he, hb, hc⟩ := this
    exact ⟨e, he, hb, hc⟩
  · have := h3 j (getD_lt hj)
    rw [hj, hl] at this
    simpa using this

theorem anyS_first {i : Nat} {oi : Oper} {v : Value} (C : Array Bool) (hi : ops[i]? = some oi) (hsel : ∀ (j : Nat) (o : Oper) cs b, ops[j]? = some o → o.op ≠ .select cs b)
    (hQ : ∀ c a w, Q (.panic c) (a.put oi.dst v) w → Q (.panic c) a w)
    (hC : ∀ j oj, ops[j]? = some oj → j ≠ i → C.getD j false = false → ∃ e ∈ oj.after, Region.binds md e = true ∧ C.getD e.on false = false) :
    ∀ (f : Nat) (listed : Array Bool) (a : Act) (w : World),
      (∀ j, listed.getD j false = true → C.getD j false = true) → (∀ j, C.getD j false = true → listed.getD j false = false → late j = false) →
      (∀ j oj, ops[j]? = some oj → j ≠ i → listed.getD j true = false → (∀ e ∈ oj.after, Region.binds md e = true → e.on ≠ i) → oi.apart ops oj = true) →
      i ∈ Region.ready md ops listed → YieldsIf P ops F oi v a → F w →
      AnyS P md ops Q F late f (listed.setIfInBounds i true) (a.put oi.dst v) w → AnyS P md ops Q F late (f + 1) listed a w := by
  intro f
  induction f with
  | zero =>
    intro listed a w hsub hlate _ hr hy hF H
    refine ⟨fun h => (by rw [h] at hr; cases hr), fun j hj => ?_⟩
    by_cases hji : j = i
    · subst hji; exact hy.wpOp hi hF ⟨fun _ => hF, H⟩
    · have := ready_mono hj hji
      rw [H.1] at this
      cases this
  | succ f ih =>
    intro listed a w hsub hlate hfree hr hy hF H
    refine ⟨fun h => (by rw [h] at hr; cases hr), fun j hj => ?_⟩
    by_cases hji : j = i
    · subst hji; exact hy.wpOp hi hF ⟨fun _ => hF, H⟩
    · have h1 := H.2 j (ready_mono hj hji)
      obtain ⟨hjun, oj, hoj, hall⟩ := mem_ready.1 hj
      have hjC : C.getD j false = true := by
        cases hc : C.getD j false with
        | true => rfl
        | false =>
          obtain ⟨e, he, hb, hn⟩ := hC j oj hoj hji hc
          rw [hsub _ (hall e he hb)] at hn
          cases hn
      have hjl : late j = false := hlate j hjC (getD_both hjun)
      have hnot : ∀ e ∈ oj.after, Region.binds md e = true → e.on ≠ i := fun e he hb heq => by
        have h1 := hall e he hb
        have h0 := (mem_ready.1 hr).1
        rw [heq] at h1
        rw [getD_both h0] at h1
        cases h1
      have h2 := wpOp_putIf hoj (hfree j oj hoj hji hjun hnot) (fun cs b => hsel i oi cs b hi) (fun cs b => hsel j oj cs b hoj) hQ hy h1
      have hfree' : ∀ k ok, ops[k]? = some ok → k ≠ i → (listed.setIfInBounds j true).getD k true = false →
          (∀ e ∈ ok.after, Region.binds md e = true → e.on ≠ i) → oi.apart ops ok = true := fun k ok hk hki hun hno => by
        refine hfree k ok hk hki ?_ hno
        by_cases hjk : j = k
        · subst hjk; exact hjun
        · rw [getD_set_ne true hjk] at hun; exact hun
      have hsub' : ∀ k, (listed.setIfInBounds j true).getD k false = true → C.getD k false = true := fun k hk => by
        by_cases hjk : j = k
        · subst hjk; exact hjC
        · rw [getD_set_ne false hjk] at hk; exact hsub k hk
      have hlate' : ∀ k, C.getD k false = true → (listed.setIfInBounds j true).getD k false = false → late k = false := fun k hk hn => by
        refine hlate k hk ?_
        cases hl : listed.getD k false with
        | false => rfl
        | true => rw [getD_set_true hl] at hn; cases hn
      refine wpOp_mono (fun a' w' h3 => ⟨fun _ => h3.2.1 hjl, ih (listed.setIfInBounds j true) a' w' hsub' hlate' hfree' (ready_mono hr (Ne.symm hji)) h3.1 (h3.2.1 hjl) ?_⟩) h2
      rw [Array.setIfInBounds_comm _ _ hji]
      exact h3.2.2

theorem anyS_take {i : Nat} {oi : Oper} {v : Value} {f : Nat} {listed : Array Bool} {a : Act} {w : World} (hi : ops[i]? = some oi) (ht : takeB md ops late listed i = true)
    (hQ : ∀ c a w, Q (.panic c) (a.put oi.dst v) w → Q (.panic c) a w) (hy : YieldsIf P ops F oi v a) (hF : F w)
    (h : AnyS P md ops Q F late f (listed.setIfInBounds i true) (a.put oi.dst v) w) : AnyS P md ops Q F late (f + 1) listed a w := by
  unfold takeB at ht
  simp only [Bool.and_eq_true] at ht
  obtain ⟨⟨⟨h1, h2⟩, h3⟩, h4⟩ := ht
  obtain ⟨c1, c2, c3⟩ := closed_spec h4
  exact anyS_first _ hi (Region.noSelect_spec h1) hQ c2 f listed a w c1 c3 (Region.free_spec hi h2) (by simpa using h3) hy hF h

theorem regS_begin {id : Nat} {a : Act} {w : World} (F : World → Prop) (late : Nat → Bool) (hm : P.follows .mixedOrders = true) (hF : F w.drew)
    (h : F w.drew → AnyS P .any ops Q F late ops.size (Array.replicate ops.size false) a w.drew) : (Code.region id ops true).wp P Q a w :=
  wp_region_any hm (any_of_S _ _ _ _ (h hF))

/-- One alone may come up: it is carried out. -/
theorem anyS_one (j : Nat) {oj : Oper} {f : Nat} {listed : Array Bool} {a : Act} {w : World} (hr : Region.ready md ops listed = [j]) (hj : ops[j]? = some oj)
    (h : ∀ K' : Act → World → Prop, Shut (∀ a w, (late j = false → F w) → ((late j = false → F w) → AnyS P md ops Q F late f (listed.setIfInBounds j true) a w) → K' a w) →
      if Region.wanted oj (yielded ops a.tmps) = true then Oper.wp P oj a w K' Q else K' (a.put oj.dst undef) w) : AnyS P md ops Q F late (f + 1) listed a w := by
  refine ⟨fun h0 => (by rw [hr] at h0; cases h0), fun i hi => ?_⟩
  rw [hr] at hi
  obtain rfl := List.mem_singleton.1 hi
  exact wpOp_step hj (fun K' hK => h K' (fun a w h1 h2 => hK a w ⟨h1, h2 h1⟩))

/-- What is left comes up in its order, all of it late. -/
theorem anyS_seq : ∀ (l : List Oper) (k : Nat) (listed : Array Bool) (a : Act) (w : World), (∀ j, l[j]? = ops[k + j]?) → (∀ j, k ≤ j → late j = true) →
    Region.seqB md ops l.length k listed = true → wpList P ops Q l a w → AnyS P md ops Q F late l.length listed a w
  | [], _, _, _, _, _, _, hB, h => ⟨by simpa [Region.seqB] using hB, h⟩
  | o :: l, k, listed, a, w, hl, hk, hB, h => by
    have h0 : ops[k]? = some o := by simpa using (hl 0).symm
    simp only [List.length_cons, Region.seqB, Bool.and_eq_true, decide_eq_true_eq] at hB
    refine ⟨fun h1 => (by rw [hB.1] at h1; cases h1), fun i hi => ?_⟩
    rw [hB.1] at hi
    have hik : i = k := by simpa using hi
    subst hik
    have hw : wpOp P ops Q i (wpList P ops Q l) a w := by unfold wpOp; simp only [h0]; exact h
    exact wpOp_mono (fun a' w' h' => ⟨fun h => (by rw [hk i (Nat.le_refl _)] at h; cases h), anyS_seq l (i + 1) _ a' w' (fun j => by have := hl (j + 1); simpa [Nat.add_assoc, Nat.add_comm 1 j] using this) (fun j hj => hk j (by omega)) hB.2 h'⟩) hw

theorem anyS_done {f : Nat} {listed : Array Bool} {a : Act} {w : World} (hr : Region.ready md ops listed = []) (h : Q .normal a w) : AnyS P md ops Q F late f listed a w := by
  cases f with
  | zero => exact ⟨hr, h⟩
  | succ f => exact ⟨fun _ => h, by rw [hr]; simp⟩
/-- What is left is late: then another F and another reckoning of lateness will do. -/
theorem anyS_switch {F' : World → Prop} {late' : Nat → Bool} : ∀ (f : Nat) (listed : Array Bool) (a : Act) (w : World), (∀ i, listed.getD i true = false → late i = true) → AnyS P md ops Q F' late' f listed a w → AnyS P md ops Q F late f listed a w
  | 0, _, _, _, _, h => h
  | f + 1, listed, a, w, hl, h => ⟨h.1, fun i hi => by
      have hi0 := (mem_ready.1 hi).1
      refine wpOp_mono (fun a' w' h' => ⟨fun h0 => (by rw [hl i hi0] at h0; cases h0), anyS_switch f _ a' w' (fun j hj => hl j ?_) h'.2⟩) (h.2 i hi)
      by_cases hij : i = j
      · subst hij; exact hi0
      · rwa [getD_set_ne true hij] at hj⟩

/-- The operations from k on, so many, may be taken one behind the other. -/
def takesB (md : Region.Mode) (ops : Array Oper) (late : Nat → Bool) : Nat → Nat → Array Bool → Bool
  | 0, _, _ => true
  | f + 1, k, listed => takeB md ops late listed k && takesB md ops late f (k + 1) (listed.setIfInBounds k true)
def setAll : Nat → Nat → Array Bool → Array Bool
  | 0, _, listed => listed
  | f + 1, k, listed => setAll f (k + 1) (listed.setIfInBounds k true)

/-- What an operation does to a frame in which another one's place is already filled, it does to the frame without. Y: what is known of the frame. -/
theorem wpOp_ahead {j : Nat} {d : Option Tmp} {oj : Oper} {v : Value} {Y : Act → Prop} (hj : ops[j]? = some oj) (h1 : ∀ e, d = some e → e ∉ oj.looksAt ops) (h2 : ∀ e, d = some e → oj.dst ≠ some e)
    (hsj : ∀ cs b, oj.op ≠ .select cs b) (hY : ∀ a u, Y a → Y (a.put oj.dst u)) (hD : ∀ (a : Act) x, Y a → Y { a with defers := x :: a.defers })
    (hQ : ∀ c a w, Q (.panic c) (Act.put a d v) w → Q (.panic c) a w) {K : Act → World → Prop} {a : Act} {w : World} (hy : Y a) (h : wpOp P ops Q j K (a.put d v) w) :
    wpOp P ops Q j (fun a' w' => Y a' ∧ K (a'.put d v) w') a w := by
  unfold wpOp at *
  simp only [hj] at *
  rw [wanted_put oj a d v h1] at h
  by_cases hw : Region.wanted oj (yielded ops a.tmps) = true
  · rw [if_pos hw] at h ⊢
    have hx := execOp_put oj hsj a d v h1
    rcases h with h | ⟨ha, hl⟩
    · left
      unfold Oper.wp at *
      rw [hx] at h
      generalize (execOp a.eval oj).run P w = r at *
      match r with
      | .ok (.value u) w' =>
        simp only [Oper.upon] at h ⊢
        exact ⟨hY a u hy, (Act.put_comm a v u h2) ▸ h⟩
      | .ok .skip w' =>
        simp only [Oper.upon] at h ⊢
        exact ⟨hY a undef hy, (Act.put_comm a v undef h2) ▸ h⟩
      | .ok (.defer x) w' =>
        simp only [Oper.upon] at h ⊢
        refine ⟨hY _ _ (hD a x hy), ?_⟩
        rw [← Act.put_comm _ v undef h2, ← Act.put_defers]
        exact h
      | .ok (.enter f args) w' =>
        simp only [Oper.upon] at h ⊢
        refine h.mono fun e w2 he => ?_
        match e, he with
        | .returned u, he => exact ⟨hY a u hy, (Act.put_comm a v u h2) ▸ he⟩
        | .panicked c, he => exact hQ _ _ _ he
        | .outgrown, he => exact he
      | .ok (.row row args) w' =>
        simp only [Oper.upon] at h ⊢
        exact Rows.mono h fun u w2 he => ⟨hY a u hy, (Act.put_comm a v u h2) ▸ he⟩
      | .halt (.panic u) w' =>
        simp only [Oper.upon] at h ⊢
        exact hQ _ _ _ h
    · right
      refine ⟨?_, hl⟩
      unfold Oper.asks at *
      rw [hx] at ha
      exact ha
  · rw [if_neg hw] at h ⊢
    exact ⟨hY a undef hy, (Act.put_comm a v undef h2) ▸ h⟩

theorem anyS_takeAt {w0 : World} {i : Nat} {oi : Oper} {v : Value} (C : Array Bool) (hi : ops[i]? = some oi) (hsel : ∀ (j : Nat) (o : Oper) cs b, ops[j]? = some o → o.op ≠ .select cs b)
    (hQ : ∀ c a w, Q (.panic c) (Act.put a oi.dst v) w → Q (.panic c) a w)
    (hC : ∀ j oj, ops[j]? = some oj → j ≠ i → C.getD j false = false → ∃ e ∈ oj.after, Region.binds md e = true ∧ C.getD e.on false = false) :
    ∀ (f : Nat) (listed : Array Bool) (a : Act),
      (∀ j, listed.getD j false = true → C.getD j false = true) → (∀ j, C.getD j false = true → listed.getD j false = false → late j = false) →
      (∀ j oj, ops[j]? = some oj → j ≠ i → listed.getD j true = false → (∀ e ∈ oj.after, Region.binds md e = true → e.on ≠ i) → oi.apart ops oj = true) →
      i ∈ Region.ready md ops listed → YieldsAt P ops w0 oi v a →
      AnyS P md ops Q (fun w' => w' = w0) late f (listed.setIfInBounds i true) (a.put oi.dst v) w0 → AnyS P md ops Q (fun w' => w' = w0) late (f + 1) listed a w0 := by
  intro f
  induction f with
  | zero =>
    intro listed a hsub hlate _ hr hy H
    refine ⟨fun h => (by rw [h] at hr; cases hr), fun j hj => ?_⟩
    by_cases hji : j = i
    · subst hji
      exact wpOp_of_stOp (K := fun a' => AnyS P md ops Q (fun w' => w' = w0) late 0 (listed.setIfInBounds j true) a' w0) (fun a' h' => ⟨fun _ => rfl, h'⟩) (hy.stOp hi H)
    · have := ready_mono hj hji
      rw [H.1] at this
      cases this
  | succ f ih =>
    intro listed a hsub hlate hfree hr hy H
    refine ⟨fun h => (by rw [h] at hr; cases hr), fun j hj => ?_⟩
    by_cases hji : j = i
    · subst hji
      exact wpOp_of_stOp (K := fun a' => AnyS P md ops Q (fun w' => w' = w0) late (f + 1) (listed.setIfInBounds j true) a' w0) (fun a' h' => ⟨fun _ => rfl, h'⟩) (hy.stOp hi H)
    · have h1 := H.2 j (ready_mono hj hji)
      obtain ⟨hjun, oj, hoj, hall⟩ := mem_ready.1 hj
      have hjC : C.getD j false = true := by
        cases hc : C.getD j false with
        | true => rfl
        | false =>
          obtain ⟨e, he, hb, hn⟩ := hC j oj hoj hji hc
          rw [hsub _ (hall e he hb)] at hn
          cases hn
      have hjl : late j = false := hlate j hjC (getD_both hjun)
      have hnot : ∀ e ∈ oj.after, Region.binds md e = true → e.on ≠ i := fun e he hb heq => by
        have h1 := hall e he hb
        have h0 := (mem_ready.1 hr).1
        rw [heq] at h1
        rw [getD_both h0] at h1
        cases h1
      obtain ⟨p1, p2, p3⟩ := Oper.apart_spec (hfree j oj hoj hji hjun hnot)
      have h2 := wpOp_ahead (Y := fun a => YieldsAt P ops w0 oi v a) hoj p1 p2 (fun cs b => hsel j oj cs b hoj)
        (fun a u hy => hy.of_same (execOp_put oi (fun cs b => hsel i oi cs b hi) a oj.dst u p3) (wanted_put oi a oj.dst u p3)) (fun a x hy => hy.of_same rfl rfl) hQ hy h1
      have hfree' : ∀ k ok, ops[k]? = some ok → k ≠ i → (listed.setIfInBounds j true).getD k true = false →
          (∀ e ∈ ok.after, Region.binds md e = true → e.on ≠ i) → oi.apart ops ok = true := fun k ok hk hki hun hno => by
        refine hfree k ok hk hki ?_ hno
        by_cases hjk : j = k
        · subst hjk; exact hjun
        · rw [getD_set_ne true hjk] at hun; exact hun
      have hsub' : ∀ k, (listed.setIfInBounds j true).getD k false = true → C.getD k false = true := fun k hk => by
        by_cases hjk : j = k
        · subst hjk; exact hjC
        · rw [getD_set_ne false hjk] at hk; exact hsub k hk
      have hlate' : ∀ k, C.getD k false = true → (listed.setIfInBounds j true).getD k false = false → late k = false := fun k hk hn => by
        refine hlate k hk ?_
        cases hl : listed.getD k false with
        | false => rfl
        | true => rw [getD_set_true hl] at hn; cases hn
      refine wpOp_mono (fun a' w' h3 => ?_) h2
      have hw' : w' = w0 := h3.2.1 hjl
      subst hw'
      refine ⟨fun _ => rfl, ih (listed.setIfInBounds j true) a' hsub' hlate' hfree' (ready_mono hr (Ne.symm hji)) h3.1 ?_⟩
      rw [Array.setIfInBounds_comm _ _ hji]
      exact h3.2.2

theorem anyS_still {w : World} {Lq : Act → Prop} {g : Nat} (hQ : ∀ c a d v w, Q (.panic c) (Act.put a d v) w → Q (.panic c) a w) : ∀ (l : List Oper) (k : Nat) (listed : Array Bool) (a : Act), (∀ j, j < l.length → l[j]? = ops[k + j]?) →
    takesB md ops late l.length k listed = true → wpStill P ops w Lq l a → (∀ a', Lq a' → AnyS P md ops Q (fun w' => w' = w) late g (setAll l.length k listed) a' w) → AnyS P md ops Q (fun w' => w' = w) late (l.length + g) listed a w
  | [], k, listed, a, _, _, h, hn => by
    rw [List.length_nil, Nat.zero_add]
    exact hn a h
  | o :: l, k, listed, a, hl, hB, h, hn => by
    have h0 : ops[k]? = some o := by simpa using (hl 0 (by simp)).symm
    simp only [List.length_cons, takesB, Bool.and_eq_true] at hB
    have hst : stOp P ops w k (wpStill P ops w Lq l) a := by unfold stOp; simp only [h0]; exact h
    obtain ⟨v, hy, hK⟩ := yieldsAt_of_stOp h0 hst
    rw [List.length_cons, show l.length + 1 + g = (l.length + g) + 1 from by omega]
    have ht := hB.1
    unfold takeB at ht
    simp only [Bool.and_eq_true] at ht
    obtain ⟨⟨⟨t1, t2⟩, t3⟩, t4⟩ := ht
    obtain ⟨c1, c2, c3⟩ := closed_spec t4
    refine anyS_takeAt _ h0 (Region.noSelect_spec t1) (fun c a w h => hQ c a _ _ w h) c2 _ listed a c1 c3 (Region.free_spec h0 t2) (by simpa using t3) hy ?_
    exact anyS_still hQ l (k + 1) _ _ (fun j hj => by have := hl (j + 1) (by simp; omega); simpa [Nat.add_assoc, Nat.add_comm 1 j] using this) hB.2 hK (by simpa [setAll] using hn)

theorem wpStill_mono {w : World} {L L' : Act → Prop} (hL : ∀ a, L a → L' a) : ∀ {l : List Oper} {a : Act}, wpStill P ops w L l a → wpStill P ops w L' l a := by
  intro l
  induction l with
  | nil => intro a h; exact hL a h
  | cons o l ih =>
    intro a h
    unfold wpStill at h ⊢
    split at h
    · rename_i hw
      rw [if_pos hw]
      exact Oper.still_mono (fun a h => ih h) h
    · rename_i hw
      rw [if_neg hw]
      exact ih h

/-- n operations that read, one that does what it does, and others that read. -/
def stillOneB (ops : Array Oper) (n : Nat) : Bool :=
  let L := setAll n 0 (Array.replicate ops.size false)
  takesB .any ops (fun i => decide (n ≤ i)) n 0 (Array.replicate ops.size false) && decide (Region.ready .any ops L = [n]) && ((List.range ops.size).all fun i => L.getD i true || decide (n ≤ i)) && decide (L.size = ops.size) &&
    takesB .any ops (fun _ => false) (ops.size - (n + 1)) (n + 1) (L.setIfInBounds n true) && (Region.ready .any ops (setAll (ops.size - (n + 1)) (n + 1) (L.setIfInBounds n true))).isEmpty

theorem wp_region_still_one {id : Nat} {a : Act} {w : World} {l : List Oper} (n : Nat) {o : Oper} (hm : P.follows .mixedOrders = true) (ho : l[n]? = some o) (hB : stillOneB l.toArray n = true)
    (hQ : ∀ c a d v w, Q (.panic c) (Act.put a d v) w → Q (.panic c) a w)
    (h : wpStill P l.toArray w.drew (fun a' => ∀ K : Act → World → Prop, Shut (∀ a w', wpStill P l.toArray w' (fun a3 => Q .normal a3 w') (l.drop (n + 1)) a → K a w') →
      if Region.wanted o (yielded l.toArray a'.tmps) = true then Oper.wp P o a' w.drew K Q else K (a'.put o.dst undef) w.drew) (l.take n) a) : (Code.region id l.toArray true).wp P Q a w := by
  have hn : n < l.length := (List.getElem?_eq_some_iff.1 ho).1
  have htl : (l.take n).length = n := by simp; omega
  have hdl : (l.drop (n + 1)).length = l.toArray.size - (n + 1) := by simp
  simp only [stillOneB, Bool.and_eq_true, decide_eq_true_eq] at hB
  obtain ⟨⟨⟨⟨⟨h1, h2⟩, h3⟩, h4⟩, h5⟩, h6⟩ := hB
  refine regS_begin (fun w' => w' = w.drew) (fun i => decide (n ≤ i)) hm rfl (fun _ => ?_)
  have hsz : l.toArray.size = (l.take n).length + (l.toArray.size - n) := by rw [htl]; simp; omega
  have key : AnyS P .any l.toArray Q (fun w' => w' = w.drew) (fun i => decide (n ≤ i)) ((l.take n).length + (l.toArray.size - n)) (Array.replicate l.toArray.size false) a w.drew := by
    refine anyS_still hQ (l.take n) 0 _ a (fun j hj => by rw [htl] at hj; simp [hj]) (by rw [htl]; exact h1) h (fun a' ha' => ?_)
    rw [htl]
    rw [show l.toArray.size - n = (l.toArray.size - (n + 1)) + 1 from by simp; omega]
    refine anyS_one n h2 (by simpa using ho) (fun K' hK' => ?_)
    refine ha' K' (fun a2 w2 hs => hK'.out a2 w2 (fun h0 => by simp at h0) (fun _ => ?_))
    refine anyS_switch (F' := fun w' => w' = w2) (late' := fun _ => false) _ _ _ _ (fun i hi => ?_) ?_
    · by_cases hin : n = i
      · simp [hin]
      · rw [getD_set_ne true hin] at hi
        rcases Nat.lt_or_ge i l.toArray.size with hlt | hge
        · have := List.all_eq_true.1 h3 i (List.mem_range.2 hlt)
          rw [hi] at this
          simpa using this
        · have : n ≤ i := by have : l.toArray.size = l.length := by simp
                             omega
          simpa using this
    · have := anyS_still (P := P) (md := .any) (ops := l.toArray) (late := fun _ => false) (g := 0) (Lq := fun a3 => Q .normal a3 w2) (w := w2) hQ (l.drop (n + 1)) (n + 1) _ a2 (fun j hj => by simp) (by rw [hdl]; exact h5) hs (fun a3 h3' => ?_)
      · rw [hdl, Nat.add_zero] at this
        exact this
      · rw [hdl]
        exact anyS_done (by simpa using h6) h3'
  rw [← hsz] at key
  exact key
end

/-- A step's goal, shut in, so that nothing reckons it out by itself. -/
structure Sg (p : Prop) : Prop where
  out : p
section
variable {P : Program} {ops : Array Oper} {w : World}
theorem sg_nil {Q : Act → Prop} {a : Act} (h : Q a) : Sg (wpStill P ops w Q [] a) := ⟨h⟩
theorem sg_step {Q : Act → Prop} {a : Act} {o : Oper} {rest : List Oper}
    (h : ∀ K : Act → Prop, Sg (∀ a, Sg (wpStill P ops w Q rest a) → K a) → if Region.wanted o (yielded ops a.tmps) then o.still P a w K else K (a.put o.dst undef)) : Sg (wpStill P ops w Q (o :: rest) a) :=
  ⟨h _ ⟨fun _ h => h.out⟩⟩
theorem wp_reads {id : Nat} {Q : Exit → Act → World → Prop} {a : Act} {l : List Oper} (hm : P.follows .mixedOrders = true) (hB : Region.lexB .any l.toArray = true)
    (h : Sg (wpStill P l.toArray w.drew (fun a' => Q .normal a' w.drew) l a)) : (Code.region id l.toArray true).wp P Q a w :=
  wp_region_still_lit hm hB h.out
theorem wp_reads_one {id : Nat} {Q : Exit → Act → World → Prop} {a : Act} {l : List Oper} (n : Nat) {o : Oper} (hm : P.follows .mixedOrders = true) (ho : l[n]? = some o) (hB : stillOneB l.toArray n = true)
    (hQ : ∀ c a d v w, Q (.panic c) (Act.put a d v) w → Q (.panic c) a w)
    (h : Sg (wpStill P l.toArray w.drew (fun a' => ∀ K : Act → World → Prop, Sg (∀ a w', Sg (wpStill P l.toArray w' (fun a3 => Q .normal a3 w') (l.drop (n + 1)) a) → K a w') →
      if Region.wanted o (yielded l.toArray a'.tmps) = true then Oper.wp P o a' w.drew K Q else K (a'.put o.dst undef) w.drew) (l.take n) a)) : (Code.region id l.toArray true).wp P Q a w :=
  wp_region_still_one n hm ho hB hQ (wpStill_mono (fun _ h' K hK => h' K ⟨fun a w' hs => hK.out a w' hs.out⟩) h.out)
end

/-- A callee that leaves the world alone, as a region that reads wants it. -/
theorem Calls.still {P : Program} {f : FuncId} {args : Array Value} {w : World} {v : Value} (h : Calls P f args w fun e w' => e = .returned v ∧ w = w') : Calls P f args w fun e w' => e = .returned v ∧ w' = w :=
  h.mono fun _ _ ⟨he, hw⟩ => ⟨he, hw.symm⟩

end Go.Proofs.Ytlepmefknglkeaa
