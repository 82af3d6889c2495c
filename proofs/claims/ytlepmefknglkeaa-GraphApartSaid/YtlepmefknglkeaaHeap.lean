/- Words for memory that is written: what a call may have turned, a block that is known whole, maps with integers or pointers for keys. No condition. -/
import Derived.Test.YtlepmefknglkeaaMem
import Derived.LaidEql
import Derived.Maps.Own
namespace Go.Proofs.Ytlepmefknglkeaa
open Go.RowKit

/-- Of what was there only the blocks in S may have turned. -/
structure Chg (S : Nat → Prop) (w w' : World) : Prop where
  os : w'.os = w.os
  tape : w'.tape = w.tape
  output : w'.output = w.output
  size : w.heap.size ≤ w'.heap.size
  block : ∀ k, k < w.heap.size → ¬ S k → w'.heap[k]? = w.heap[k]?

section
variable {S S' : Nat → Prop} {w w1 w' : World}
theorem Chg.refl (S : Nat → Prop) (w : World) : Chg S w w := ⟨rfl, rfl, rfl, Nat.le_refl _, fun _ _ _ => rfl⟩
theorem Chg.trans (h : Chg S w w1) (h' : Chg S' w1 w') (hs : ∀ k, k < w.heap.size → S' k → S k) : Chg S w w' :=
  ⟨h'.os.trans h.os, h'.tape.trans h.tape, h'.output.trans h.output, Nat.le_trans h.size h'.size,
    fun k hk hn => (h'.block k (Nat.lt_of_lt_of_le hk h.size) (fun hk' => hn (hs k hk hk'))).trans (h.block k hk hn)⟩
theorem Chg.mono (h : Chg S w w') (hs : ∀ k, k < w.heap.size → S k → S' k) : Chg S' w w' :=
  ⟨h.os, h.tape, h.output, h.size, fun k hk hn => h.block k hk (fun hk' => hn (hs k hk hk'))⟩
theorem Chg.of_below {B : Nat} (h : Below B w w') : Chg (fun k => B ≤ k) w w' := ⟨h.os, h.tape, h.output, h.size, fun k _ hn => h.block k (by omega)⟩
theorem Chg.of_below' (h : Below w.heap.size w w') : Chg S w w' := ⟨h.os, h.tape, h.output, h.size, fun k hk _ => h.block k hk⟩
theorem Chg.below (h : Chg S w w') (hs : ∀ k, k < w.heap.size → ¬ S k) : Below w.heap.size w w' := ⟨h.os, h.tape, h.output, h.size, fun k hk => h.block k hk (hs k hk)⟩
theorem Chg.below_of {B : Nat} (h : Chg S w w') (hB : B ≤ w.heap.size) (hs : ∀ k, k < B → ¬ S k) : Below B w w' := ⟨h.os, h.tape, h.output, h.size, fun k hk => h.block k (by omega) (hs k hk)⟩
theorem Chg.of_grown {row : Option Nat} (h : w.grownBy w' row) : Chg (fun k => some k = row) w w' := ⟨h.os, h.tape, h.output, h.size, fun k hk hn => h.block k hk hn⟩
theorem Chg.alloc (h : Chg S w w1) (o : Obj) : Chg S w (w1.alloc o) :=
  h.trans (S' := S) ⟨rfl, rfl, rfl, by simp, fun k hk _ => Below.heap_alloc _ _ _ hk⟩ (fun _ _ h => h)
theorem Chg.drew (h : Chg S w w1) : Chg S w w1.drew := ⟨h.os, h.tape, h.output, h.size, h.block⟩
theorem Chg.drewN (h : Chg S w w1) (n : Nat) : Chg S w (w1.drewN n) := h.trans (S' := S) ⟨rfl, rfl, rfl, Nat.le_refl _, fun _ _ _ => rfl⟩ (fun _ _ h => h)
theorem Chg.setCell (h : Chg S w w1) (p : Addr) (u : Value) (hs : p.block < w.heap.size → S p.block) : Chg S w (w1.setCell p u) :=
  h.trans (S' := fun k => k = p.block) ⟨rfl, rfl, rfl, by simp [World.setCell], fun k _ hk => Below.heap_setCell _ _ _ _ hk⟩ (fun k hk e => by subst e; exact hs hk)
theorem Chg.then_below (h : Chg S w w1) (hb : Below w1.heap.size w1 w') : Chg S w w' := h.trans (Chg.of_below' (S := S) hb) (fun _ _ h => h)
theorem Chg.cell (h : Chg S w w') {p : Addr} {v : Value} (hc : w.cell? p = some v) (hn : ¬ S p.block) : w'.cell? p = some v :=
  (World.cell?_of_block (h.block p.block (cell_lt hc).1 hn)).trans hc
end

/-- Block g is just these cells. -/
def Blk (w : World) (g : Nat) (t : TypeId) (cs : Array Value) : Prop := w.heap[g]? = some (.cells cs t (0, 0))
section
variable {w w' : World} {g : Nat} {t : TypeId} {cs : Array Value} {S : Nat → Prop}
theorem Blk.lt (h : Blk w g t cs) : g < w.heap.size := by
  rcases Nat.lt_or_ge g w.heap.size with hlt | hge
  · exact hlt
  · unfold Blk at h; rw [Array.getElem?_eq_none hge] at h; cases h
theorem Blk.cell (h : Blk w g t cs) (i : Nat) : w.cell? ⟨g, i, none⟩ = cs[i]? := cell_of_row w g i cs t (0, 0) h
theorem Blk.some_ (h : Blk w g t cs) {i : Nat} (hi : i < cs.size) : ∃ v, w.cell? ⟨g, i, none⟩ = some v := ⟨cs[i], by rw [h.cell]; simp [hi]⟩
theorem Blk.frozen (h : Blk w g t cs) (i : Nat) : w.frozen? ⟨g, i, none⟩ = false := by
  unfold Blk at h
  simp [World.frozen?, h]
theorem Blk.new (w : World) (t : TypeId) (cs : Array Value) : Blk (w.alloc (.cells cs t)) w.heap.size t cs := heap_alloc_new w _
theorem Blk.drew (h : Blk w g t cs) : Blk w.drew g t cs := h
theorem Blk.drewN (h : Blk w g t cs) (n : Nat) : Blk (w.drewN n) g t cs := h
theorem Blk.alloc (h : Blk w g t cs) (o : Obj) : Blk (w.alloc o) g t cs := (Below.heap_alloc w o g h.lt).trans h
theorem Blk.set_ (h : Blk w g t cs) (i : Nat) (u : Value) : Blk (w.setCell ⟨g, i, none⟩ u) g t (cs.setIfInBounds i u) := by
  unfold Blk at h ⊢
  simp [World.setCell, Array.getElem?_modify, h]
theorem Blk.far (h : Blk w g t cs) {p : Addr} (hp : g ≠ p.block) (u : Value) : Blk (w.setCell p u) g t cs := (Below.heap_setCell w p u g hp).trans h
theorem Blk.below {B : Nat} (h : Blk w g t cs) (hb : Below B w w') (hg : g < B) : Blk w' g t cs := (hb.block g hg).trans h
theorem Blk.chg (h : Blk w g t cs) (hc : Chg S w w') (hg : ¬ S g) : Blk w' g t cs := (hc.block g h.lt hg).trans h
theorem Blk.inj {t' : TypeId} {cs' : Array Value} (h : Blk w g t cs) (h' : Blk w g t' cs') : t = t' ∧ cs = cs' := by
  unfold Blk at h h'
  rw [h] at h'
  injection h' with h'
  injection h' with h1 h2
  exact ⟨h2, h1⟩
theorem Blk.ne_ {g' : Nat} {t' : TypeId} {cs' : Array Value} (h : Blk w g t cs) (h' : Blk w g' t' cs') (hne : t ≠ t') : g ≠ g' := by
  rintro rfl
  exact hne (h.inj h').1
end

theorem Row.chg {S : Nat → Prop} {w w' : World} {a : Option Addr} {xs : List Value} (h : Row w a xs) (hc : Chg S w w') (hn : ∀ x, a = some x → ¬ S x.block) : Row w' a xs := by
  intro i hi
  obtain ⟨x, e, hx⟩ := h i hi
  refine ⟨x, e, ?_⟩
  rw [List.getElem?_eq_getElem hi] at hx ⊢
  exact hc.cell hx (by have hb : (x.add i).block = x.block := by unfold Addr.add; split <;> rfl
                       rw [hb]; exact hn x e)
theorem Row.of_blk {w : World} {g : Nat} {t : TypeId} {cs : Array Value} (h : Blk w g t cs) : Row w (some ⟨g, 0, none⟩) cs.toList := by
  intro i _
  refine ⟨_, rfl, ?_⟩
  rw [add_none, Nat.zero_add, h.cell]
  simp

section
variable {w w' : World} {base : Nat} {e : TypeId} {size n : Nat} {v : Value} {xs : List Value} {S : Nat → Prop}
theorem own_ne_blk (h : w.ownsRow base e size v n xs) {g : Nat} {t : TypeId} {cs : Array Value} (hg : Blk w g t cs) (hne : e ≠ t) : v.ownBlock ≠ some g := by
  rcases h.2 with ⟨rfl, _⟩ | ⟨g', cap, cur, rfl, _, hh, _⟩
  · simp [Value.ownBlock]
  · intro he
    have : g' = g := by simpa [Value.ownBlock] using he
    subst this
    exact Blk.ne_ (t := e) hh hg hne rfl
theorem own_ne_map (h : w.ownsRow base e size v n xs) {g : Nat} {es : Array MapEntry} {clock : Nat} (hg : w.heap[g]? = some (.map es clock)) : v.ownBlock ≠ some g := by
  rcases h.2 with ⟨rfl, _⟩ | ⟨g', cap, cur, rfl, _, hh, _⟩
  · simp [Value.ownBlock]
  · intro he
    have : g' = g := by simpa [Value.ownBlock] using he
    subst this
    rw [hg] at hh
    cases hh
theorem own_chg (h : w.ownsRow base e size v n xs) (hc : Chg S w w') (hS : ∀ g, v.ownBlock = some g → ¬ S g) : w'.ownsRow base e size v n xs := by
  refine ⟨h.1, ?_⟩
  rcases h.2 with h2 | ⟨g, cap, cur, rfl, hg, hh, r⟩
  · exact .inl h2
  · refine .inr ⟨g, cap, cur, rfl, hg, ?_, r⟩
    have hl : g < w.heap.size := Blk.lt (t := e) (cs := cur) hh
    rw [hc.block g hl (hS g rfl)]
    exact hh
end

/-! ### Maps: a list of keys and values, in the order in which they came. -/

/-- Block r is a map that holds just these, no key twice. -/
def IsMap {κ : Type} (mk : κ → Value) (w : World) (r : Nat) (kv : List (κ × Value)) : Prop :=
  ∃ es clock, w.heap[r]? = some (.map es clock) ∧ es.toList.map (fun e => (e.key, e.val)) = kv.map (fun p => (mk p.1, p.2))

section
variable {κ : Type} {mk : κ → Value} {w w' : World} {r : Nat} {kv : List (κ × Value)} {S : Nat → Prop}
theorem IsMap.lt (h : IsMap mk w r kv) : r < w.heap.size := by
  obtain ⟨es, clock, h, _⟩ := h
  rcases Nat.lt_or_ge r w.heap.size with hlt | hge
  · exact hlt
  · rw [Array.getElem?_eq_none hge] at h; cases h
theorem IsMap.chg (h : IsMap mk w r kv) (hc : Chg S w w') (hg : ¬ S r) : IsMap mk w' r kv := by
  have hl := h.lt
  obtain ⟨es, clock, h, he⟩ := h
  exact ⟨es, clock, (hc.block r hl hg).trans h, he⟩
theorem IsMap.new (mk : κ → Value) (w : World) : IsMap mk (w.alloc (.map #[] 0)) w.heap.size [] := ⟨#[], 0, heap_alloc_new w _, rfl⟩
theorem IsMap.alloc (h : IsMap mk w r kv) (o : Obj) : IsMap mk (w.alloc o) r kv := h.chg (S := fun _ => False) ((Chg.refl _ w).alloc o) (fun h => h)
theorem IsMap.drewN (h : IsMap mk w r kv) (n : Nat) : IsMap mk (w.drewN n) r kv := h
theorem IsMap.drew (h : IsMap mk w r kv) : IsMap mk w.drew r kv := h
theorem IsMap.ne_own (h : IsMap mk w r kv) {base : Nat} {e : TypeId} {size n : Nat} {v : Value} {xs : List Value} (ho : w.ownsRow base e size v n xs) : v.ownBlock ≠ some r := by
  obtain ⟨es, clock, h, _⟩ := h
  exact own_ne_map ho h
theorem IsMap.ne_blk (h : IsMap mk w r kv) {g : Nat} {t : TypeId} {cs : Array Value} (hb : Blk w g t cs) : g ≠ r := by
  rintro rfl
  obtain ⟨es, clock, h, _⟩ := h
  unfold Blk at hb
  rw [h] at hb
  cases hb

variable [DecidableEq κ]
/-- Where a key stands. -/
def locate (k : κ) : List (κ × Value) → Nat → Option (Nat × Value)
  | [], _ => none
  | p :: l, i => if p.1 = k then some (i, p.2) else locate k l (i + 1)
def look (kv : List (κ × Value)) (k : κ) : Option Value := (kv.find? (fun p => p.1 = k)).map (·.2)
def put_ (kv : List (κ × Value)) (k : κ) (v : Value) : List (κ × Value) :=
  match locate k kv 0 with
  | some (i, _) => kv.set i (k, v)
  | none => kv ++ [(k, v)]
def drop_ (kv : List (κ × Value)) (k : κ) : List (κ × Value) :=
  match locate k kv 0 with
  | some (i, _) => kv.eraseIdx i
  | none => kv

theorem locate_some {k : κ} : ∀ {l : List (κ × Value)} {i j : Nat} {v : Value}, locate k l i = some (j, v) → i ≤ j ∧ l[j - i]? = some (k, v) := by
  intro l
  induction l with
  | nil => intro i j v h; cases h
  | cons p l ih =>
    intro i j v h
    unfold locate at h
    split at h
    · rename_i hk
      injection h with h
      injection h with h1 h2
      subst h1; subst h2; subst hk
      simp
    · obtain ⟨h1, h2⟩ := ih h
      refine ⟨by omega, ?_⟩
      rw [show j - i = (j - (i + 1)) + 1 from by omega, List.getElem?_cons_succ]
      exact h2
theorem locate_map {k : κ} (l : List (κ × Value)) (i : Nat) : (locate k l i).map (·.2) = look l k := by
  induction l generalizing i with
  | nil => rfl
  | cons p l ih =>
    unfold locate look
    by_cases h : p.1 = k
    · simp [h]
    · simp only [if_neg h, List.find?_cons, h, decide_false]
      exact ih (i + 1)
end

/-- The program finds a key as 'locate' does. -/
def Finds (P : Program) (kt : TypeId) {κ : Type} [DecidableEq κ] (mk : κ → Value) (w : World) (k : κ) (kv : List (κ × Value)) : Prop :=
  ∀ es : List MapEntry, es.map (fun e => (e.key, e.val)) = kv.map (fun p => (mk p.1, p.2)) →
    (Instr.findKey kt (mk k) es).run P w = .ok (locate k kv 0) w

section
variable {P : Program} {w : World}

theorem finds_int {kt : TypeId} {q : IntKind} (hk : P.underlying kt = some (.int q)) (k : Int) (kv : List (Int × Value)) : Finds P kt (Value.int q) w k kv := by
  intro es hes
  have h : ∀ (es : List MapEntry) (kv : List (Int × Value)) (i : Nat), es.map (fun e => (e.key, e.val)) = kv.map (fun p => (Value.int q p.1, p.2)) →
      Instr.findNow (.int q) (.int q k) es i = some (locate k kv i) := by
    intro es
    induction es with
    | nil => intro kv i h; cases kv with
      | nil => rfl
      | cons p kv => simp at h
    | cons e es ih =>
      intro kv i h
      cases kv with
      | nil => simp at h
      | cons p kv =>
        simp only [List.map_cons, List.cons.injEq, Prod.mk.injEq] at h
        obtain ⟨⟨h1, h2⟩, h3⟩ := h
        unfold Instr.findNow locate
        rw [h1, h2]
        by_cases hpk : p.1 = k
        · simp [Instr.sameNow, hpk]
        · have hne : (k == p.1) = false := by rw [beq_eq_false_iff_ne]; exact fun h => hpk h.symm
          simp [Instr.sameNow, hne, hpk, ih kv (i + 1) h3]
  simp [Instr.findKey, run_underlying hk, h es kv 0 hes]

def ptrKey (b : Nat) : Value := .pointer (some ⟨b, 0, none⟩)

theorem finds_ptr {kt te : TypeId} {j : TypeInfo} (hk : P.underlying kt = some (.pointer te)) (hte : P.info? te = some j) (hsz : j.size ≠ 0) (k : Nat) (kv : List (Nat × Value))
    (hb : ∃ t cs, Blk w k t cs) (hall : ∀ p ∈ kv, ∃ t cs, Blk w p.1 t cs) : Finds P kt ptrKey w k kv := by
  intro es hes
  obtain ⟨t0, cs0, hb0⟩ := hb
  have h : ∀ (es : List MapEntry) (kv : List (Nat × Value)) (i : Nat), (∀ p ∈ kv, ∃ t cs, Blk w p.1 t cs) → es.map (fun e => (e.key, e.val)) = kv.map (fun p => (ptrKey p.1, p.2)) →
      (Instr.findAsking kt (ptrKey k) es i).run P w = .ok (locate k kv i) w := by
    intro es
    induction es with
    | nil => intro kv i _ h; cases kv with
      | nil => rfl
      | cons p kv => simp at h
    | cons e es ih =>
      intro kv i hall h
      cases kv with
      | nil => simp at h
      | cons p kv =>
        simp only [List.map_cons, List.cons.injEq, Prod.mk.injEq] at h
        obtain ⟨⟨h1, h2⟩, h3⟩ := h
        have ih' := ih kv (i + 1) (fun q hq => hall q (by simp [hq])) h3
        obtain ⟨t1, cs1, hb1⟩ := hall p (by simp)
        unfold Instr.findAsking locate
        by_cases hpk : p.1 = k
        · have he : (Op.equal kt (ptrKey k) e.key).run P w = .ok true w := by
            rw [h1, hpk]
            have hd : ∀ d : Nat, (Op.equalIn (d + 1) kt (ptrKey k) (ptrKey k)).run P w = .ok true w := fun d => by
              simp [Op.equalIn, ptrKey, run_underlying hk, sizeOf, typeInfo, hte, run_sameAddr_same]
            exact hd 9999
          simp [he, hpk, h2]
        · have he : (Op.equal kt (ptrKey k) e.key).run P w = .ok false w := by
            rw [h1]
            have hne : (⟨k, 0, none⟩ : Addr) ≠ ⟨p.1, 0, none⟩ := by intro h; injection h with h; exact hpk h.symm
            have hd : ∀ d : Nat, (Op.equalIn (d + 1) kt (ptrKey k) (ptrKey p.1)).run P w = .ok false w := fun d => by
              simp [Op.equalIn, ptrKey, run_underlying hk, sizeOf, typeInfo, hte, hsz, run_sameAddr_other w hne hb0 hb1]
            exact hd 9999
          simp [he, hpk, ih']
  unfold Instr.findKey
  have hn : Instr.findNow (.pointer te) (ptrKey k) es 0 = none ∨ es = [] := by
    cases es with
    | nil => exact .inr rfl
    | cons e es => left; simp [Instr.findNow, Instr.sameNow]
  rcases hn with hn | rfl
  · simp [run_underlying hk, hn, h es kv 0 hall hes]
  · have : kv = [] := by cases kv with
      | nil => rfl
      | cons p kv => simp at hes
    subst this
    simp [run_underlying hk, Instr.findNow, locate]

variable {κ : Type} [DecidableEq κ] {mk : κ → Value}

/-- A key whose type is no struct, array or interface. -/
def PlainKey (P : Program) (kt : TypeId) (mk : κ → Value) : Prop := (∀ e n k w, (Instr.checkKey e (n + 1) kt (mk k)).run P w = .ok () w) ∧ ∀ k, Instr.sameBits 10000 (mk k) (mk k) = true

theorem plain_int {kt : TypeId} {q : IntKind} (hk : P.underlying kt = some (.int q)) : PlainKey P kt (Value.int q) :=
  ⟨fun e n k w => by unfold Instr.checkKey; simp [run_underlying hk], fun k => by simp [Instr.sameBits]⟩
theorem plain_ptr {kt te : TypeId} (hk : P.underlying kt = some (.pointer te)) : PlainKey P kt ptrKey :=
  ⟨fun e n k w => by unfold Instr.checkKey; simp [run_underlying hk, ptrKey], fun k => by simp [Instr.sameBits, ptrKey]⟩

theorem run_look {t kt et : TypeId} {r : Nat} {kv : List (κ × Value)} {z : Value} (ht : P.underlying t = some (.map kt et)) (hp : PlainKey P kt mk) (hm : IsMap mk w r kv) (k : κ) (hf : Finds P kt mk w k kv)
    (hz : (zeroValue et).run P w = .ok z w) (c : Bool) :
    (Instr.lookup t (.map (some r)) (mk k) c).run P w = .ok (if c then .tuple #[(look kv k).getD z, .bool (look kv k).isSome] else (look kv k).getD z) w := by
  obtain ⟨es, clock, hb, he⟩ := hm
  have h1 := hf es.toList he
  have h2 := locate_map (k := k) kv 0
  cases hl : locate k kv 0 with
  | none =>
    rw [hl] at h1 h2
    rw [← h2]
    simp [Instr.lookup, run_underlying ht, MapKept.run_getObj_map hb, hp.1, h1, hz, Result.andThen]
  | some x =>
    rw [hl] at h1 h2
    rw [← h2]
    obtain ⟨i, v⟩ := x
    simp [Instr.lookup, run_underlying ht, MapKept.run_getObj_map hb, hp.1, h1, Result.andThen]

theorem eraseIdx_map {α β : Type} (f : α → β) : ∀ (l : List α) (j : Nat), (l.eraseIdx j).map f = (l.map f).eraseIdx j
  | [], _ => by simp
  | _ :: _, 0 => by simp
  | x :: l, j + 1 => by simp [eraseIdx_map f l j]

theorem chg_setObj (w : World) (r : Nat) (o : Obj) : Chg (fun k => k = r) w { w with heap := w.heap.setIfInBounds r o } :=
  ⟨rfl, rfl, rfl, by simp, fun k _ hn => by
    show (w.heap.setIfInBounds r o)[k]? = _
    rw [Array.getElem?_setIfInBounds, if_neg (fun h => hn h.symm)]⟩

theorem run_put {t kt et : TypeId} {r : Nat} {kv : List (κ × Value)} (ht : P.underlying t = some (.map kt et)) (hp : PlainKey P kt mk) (hm : IsMap mk w r kv) (k : κ) (hf : Finds P kt mk w k kv) (v : Value) :
    ∃ w', (Instr.mapUpdate t (.map (some r)) (mk k) v).run P w = .ok () w' ∧ IsMap mk w' r (put_ kv k v) ∧ Chg (fun k => k = r) w w' := by
  have hlt := hm.lt
  obtain ⟨es, clock, hb, he⟩ := hm
  have h1 := hf es.toList he
  cases hl : locate k kv 0 with
  | none =>
    rw [hl] at h1
    refine ⟨{ w with heap := w.heap.setIfInBounds r (.map (es.push { key := mk k, val := v, born := clock }) (clock + 1)) }, ?_, ⟨_, _, by simp [hlt]; exact ⟨rfl, rfl⟩, ?_⟩, chg_setObj w r _⟩
    · simp [Instr.mapUpdate, run_underlying ht, MapKept.run_getObj_map hb, hp.1, h1, MapKept.run_setObj_map _ hb, Result.andThen]
    · unfold put_
      rw [hl]
      simp [he]
  | some x =>
    obtain ⟨i, v0⟩ := x
    rw [hl] at h1
    obtain ⟨_, hi⟩ := locate_some hl
    rw [Nat.sub_zero] at hi
    have hei : (es[i]?).map (·.key) = some (mk k) := by
      have h2 := congrArg (fun l => l[i]?) he
      simp only [List.getElem?_map, hi] at h2
      rw [Array.getElem?_toList] at h2
      cases hx : es[i]? with
      | none => rw [hx] at h2; cases h2
      | some x => rw [hx] at h2; simp at h2; simp [h2.1]
    have hstay : (Instr.keyThatStays (((es[i]?).map (·.key)).getD (mk k)) (mk k)).run P w = .ok (mk k) w := by
      rw [hei]
      simp [Instr.keyThatStays, hp.2]
    refine ⟨{ w with heap := w.heap.setIfInBounds r (.map (es.modify i fun e => { e with key := mk k, val := v }) clock) }, ?_, ⟨_, _, by simp [hlt]; exact ⟨rfl, rfl⟩, ?_⟩, chg_setObj w r _⟩
    · simp only [Instr.mapUpdate, Sem.run_bind, run_underlying ht, MapKept.run_getObj_map hb, hp.1, h1, hstay, Result.andThen, MapKept.run_setObj_map _ hb]
    · unfold put_
      rw [hl]
      apply List.ext_getElem?
      intro j
      have hj := congrArg (fun l => l[j]?) he
      simp only [List.getElem?_map, Array.getElem?_toList] at hj
      simp only [List.getElem?_map, Array.getElem?_toList, List.getElem?_set, Array.getElem?_modify]
      by_cases hji : i = j
      · subst hji
        have hlen : i < kv.length := (List.getElem?_eq_some_iff.1 hi).1
        cases hx : es[i]? with
        | none => rw [hx, hi] at hj; simp at hj
        | some x => simp [hlen]
      · simp [hji, hj]

theorem run_drop {t kt et ty : TypeId} {r : Nat} {kv : List (κ × Value)} (ht : P.underlying t = some (.map kt et)) (hp : PlainKey P kt mk) (hm : IsMap mk w r kv) (k : κ) (hf : Finds P kt mk w k kv) {t2 : TypeId} :
    ∃ w', (Builtin.delete_ #[t, t2] ty #[.map (some r), mk k]).run P w = .ok (.tuple #[]) w' ∧ IsMap mk w' r (drop_ kv k) ∧ Chg (fun k => k = r) w w' := by
  have hlt := hm.lt
  obtain ⟨es, clock, hb, he⟩ := hm
  have h1 := hf es.toList he
  cases hl : locate k kv 0 with
  | none =>
    rw [hl] at h1
    refine ⟨{ w with heap := w.heap.setIfInBounds r (.map es clock) }, ?_, ⟨_, _, by simp [hlt]; exact ⟨rfl, rfl⟩, ?_⟩, chg_setObj w r _⟩
    · simp [Builtin.delete_, run_underlying ht, MapKept.run_getObj_map hb, hp.1, h1, MapKept.run_setObj_map _ hb, Result.andThen]
    · unfold drop_
      rw [hl]
      exact he
  | some x =>
    obtain ⟨i, v0⟩ := x
    rw [hl] at h1
    refine ⟨{ w with heap := w.heap.setIfInBounds r (.map (es.eraseIdxIfInBounds i) clock) }, ?_, ⟨_, _, by simp [hlt]; exact ⟨rfl, rfl⟩, ?_⟩, chg_setObj w r _⟩
    · simp [Builtin.delete_, run_underlying ht, MapKept.run_getObj_map hb, hp.1, h1, MapKept.run_setObj_map _ hb, Result.andThen]
    · unfold drop_
      rw [hl]
      obtain ⟨_, hi⟩ := locate_some hl
      have hlen : i < es.size := by
        have h2 := congrArg List.length he
        simp at h2
        have := (List.getElem?_eq_some_iff.1 hi).1
        omega
      rw [Array.eraseIdxIfInBounds, dif_pos hlen, Array.toList_eraseIdx, eraseIdx_map, he, eraseIdx_map]

variable {ops : Array Oper} {rest : List Oper} {o : Oper} {a : Act} {Q : Exit → Act → World → Prop}

theorem wpList_put (hg : o.guard = none) (m x v : Operand) (t : TypeId) (hop : o.op = Op.mapUpdate t m x v) {kt et : TypeId} (ht : P.underlying t = some (.map kt et)) (hp : PlainKey P kt mk) (r : Nat) (kv : List (κ × Value))
    (hm : a.eval m = .map (some r)) (hmap : IsMap mk w r kv) (k : κ) (hx : a.eval x = mk k) (val : Value) (hv : a.eval v = val) (hf : Finds P kt mk w k kv)
    (hK : ∀ w', IsMap mk w' r (put_ kv k val) → Chg (fun k => k = r) w w' → wpList P ops Q rest (a.put o.dst undef) w') : wpList P ops Q (o :: rest) a w := by
  refine wpList_plain hg fun K' hK' => ?_
  obtain ⟨w', hrun, r1, r2⟩ := run_put ht hp hmap k hf val
  unfold Oper.wp
  simp [execOp, hop, hm, hx, hv, hrun, Result.andThen]
  exact hK' _ _ (hK w' r1 r2)

theorem wpList_look (hg : o.guard = none) (m x : Operand) (t : TypeId) (c : Bool) (hop : o.op = Op.lookup t m x c) {kt et : TypeId} (ht : P.underlying t = some (.map kt et)) (hp : PlainKey P kt mk) (r : Nat) (kv : List (κ × Value))
    (hm : a.eval m = .map (some r)) (hmap : IsMap mk w r kv) (k : κ) (hx : a.eval x = mk k) (hf : Finds P kt mk w k kv) {z : Value} (hz : (zeroValue et).run P w = .ok z w)
    (hK : wpList P ops Q rest (a.put o.dst (if c then .tuple #[(look kv k).getD z, .bool (look kv k).isSome] else (look kv k).getD z)) w) : wpList P ops Q (o :: rest) a w := by
  refine wpList_plain hg fun K' hK' => ?_
  have hrun := run_look ht hp hmap k hf hz c
  unfold Oper.wp
  simp [execOp, hop, hm, hx, hrun, Result.andThen]
  exact hK' _ _ hK

theorem wpList_drop (hg : o.guard = none) (m x : Operand) (t t2 : TypeId) (hop : o.op = .call { callee := .builtin .delete, args := #[m, x], argTypes := #[t, t2] }) {kt et : TypeId} (ht : P.underlying t = some (.map kt et)) (hp : PlainKey P kt mk) (r : Nat) (kv : List (κ × Value))
    (hm : a.eval m = .map (some r)) (hmap : IsMap mk w r kv) (k : κ) (hx : a.eval x = mk k) (hf : Finds P kt mk w k kv)
    (hK : ∀ w', IsMap mk w' r (drop_ kv k) → Chg (fun k => k = r) w w' → wpList P ops Q rest (a.put o.dst (.tuple #[])) w') : wpList P ops Q (o :: rest) a w := by
  refine wpList_plain hg fun K' hK' => ?_
  obtain ⟨w', hrun, r1, r2⟩ := run_drop (ty := o.type) (t2 := t2) ht hp hmap k hf
  unfold Oper.wp execOp
  simp only [hop, resolve, invoke, builtin, Sem.run_bind, Sem.run_pure, Result.andThen_ok, List.map_toArray, List.map_cons, List.map_nil, hm, hx, hrun]
  exact hK' _ _ (hK w' r1 r2)
end

end Go.Proofs.Ytlepmefknglkeaa
