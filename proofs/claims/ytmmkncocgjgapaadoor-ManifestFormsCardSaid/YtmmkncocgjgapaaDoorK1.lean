/- Texts of mine, packed: Mem, Open, Open5, Heap, CrcPlain, CrcWalks, CrcSum, CrcTell, Words, MfP. -/
import Derived.WalkKit
import Derived.Lib.Hide
import Derived.WalkSpells
import Derived.WalkLawsBesides
import Derived.Maps.AppendAt
import Derived.Deep.QuietTactic
import Derived.BigQuiet
import Derived.Deep.AppendLies
import Derived.Test.YtmmkncocgjgapaaDoorRows
import Derived.ProofKit
import Derived.OpenShut
import Derived.ShutString
import Derived.ChangeOld
import Derived.LaidEql
import Derived.Maps.Own
import Derived.Below
import Derived.StillTailTactics
import Derived.Lib.SlTrimSet
import Derived.Deep.DeepCutAuto
import Derived.Deep.CutBlock
set_option linter.unusedVariables false

/- Words for memory that all walks of this seat use: a slice that reads as a list of one-cell values. No condition. -/
namespace Go.Proofs.YtmmkncocgjgapaaDoor
open Go.RowKit

theorem cell_lt {w : World} {a : Addr} {v : Value} (h : w.cell? a = some v) : a.block < w.heap.size ∧ a.spot = none := by
  unfold World.cell? at h
  rcases Nat.lt_or_ge a.block w.heap.size with hlt | hge
  · refine ⟨hlt, ?_⟩
    split at h
    · split at h
      · cases h
      · cases hs : a.spot with
        | none => rfl
        | some s => simp_all
    · cases h
  · rw [Array.getElem?_eq_none hge] at h
    cases h

theorem _root_.Go.RowKit.Below.trans' {B : Nat} {a b c : World} (h : Below B b c) (k : Below B a b) : Below B a c := k.trans h

/-- The slice's address leads to the cells xs (nil where there are none). -/
def Row (w : World) (a : Option Addr) (xs : List Value) : Prop := ∀ i, i < xs.length → ∃ x, a = some x ∧ w.cell? (x.add i) = xs[i]?

theorem add_none (b off i : Nat) : (⟨b, off, none⟩ : Addr).add i = ⟨b, off + i, none⟩ := by
  unfold Addr.add
  split
  · subst_vars; rfl
  · rfl

theorem Row.nil (w : World) (a : Option Addr) : Row w a [] := fun i h => absurd h (by simp)

theorem Row.at_ {w : World} {a : Option Addr} {xs : List Value} (h : Row w a xs) {i : Nat} (hi : i < xs.length) :
    ∃ b off, a = some ⟨b, off, none⟩ ∧ w.cell? ⟨b, off + i, none⟩ = some xs[i] ∧ b < w.heap.size := by
  obtain ⟨x, rfl, hc⟩ := h i hi
  rw [List.getElem?_eq_getElem hi] at hc
  have hl := cell_lt hc
  obtain ⟨b, off, spot⟩ := x
  have hs : spot = none := by
    obtain ⟨y, hy, h0⟩ := h 0 (by omega)
    obtain rfl := Option.some.inj hy
    rw [List.getElem?_eq_getElem (by omega)] at h0
    exact (cell_lt h0).2
  subst hs
  have he : (⟨b, off, none⟩ : Addr).add i = ⟨b, off + i, none⟩ := by
    unfold Addr.add
    split
    · subst_vars; rfl
    · rfl
  rw [he] at hc hl
  exact ⟨b, off, rfl, hc, hl.1⟩

theorem cell_new (w : World) (vs : Array Value) (t : TypeId) (fr : Nat × Nat) (i : Nat) : (w.alloc (.cells vs t fr)).cell? ⟨w.heap.size, i, none⟩ = vs[i]? := by
  unfold World.cell?
  have : (w.alloc (.cells vs t fr)).heap[w.heap.size]? = some (.cells vs t fr) := by
    show (w.heap.push _)[w.heap.size]? = _
    rw [Array.getElem?_push_size]
  rw [show ((⟨w.heap.size, i, none⟩ : Addr).block) = w.heap.size from rfl, this]
  rfl

theorem Row.new (w : World) (vs : Array Value) (t : TypeId) (fr : Nat × Nat) : Row (w.alloc (.cells vs t fr)) (some ⟨w.heap.size, 0, none⟩) vs.toList := by
  intro i _
  refine ⟨_, rfl, ?_⟩
  rw [add_none, Nat.zero_add, cell_new]
  simp

theorem Row.below {w w' : World} {a : Option Addr} {xs : List Value} (h : Row w a xs) (hb : Below w.heap.size w w') : Row w' a xs := by
  intro i hi
  obtain ⟨x, e, hc⟩ := h i hi
  refine ⟨x, e, ?_⟩
  rw [List.getElem?_eq_getElem hi] at hc ⊢
  rw [hb.cell (cell_lt hc).1, hc]

theorem Row.take {w : World} {a : Option Addr} {xs : List Value} (h : Row w a xs) (k : Nat) : Row w a (xs.take k) := by
  intro i hi
  obtain ⟨x, e, hc⟩ := h i (by simp at hi; omega)
  exact ⟨x, e, by rw [hc, List.getElem?_take, if_pos (by simp at hi; omega)]⟩
theorem Row.drop {w : World} {b off : Nat} {xs : List Value} (h : Row w (some ⟨b, off, none⟩) xs) (k : Nat) : Row w (some ⟨b, off + k, none⟩) (xs.drop k) := by
  intro i hi
  rw [List.length_drop] at hi
  obtain ⟨x, e, hc⟩ := h (k + i) (by omega)
  injection e with e
  subst e
  refine ⟨_, rfl, ?_⟩
  rw [add_none] at hc ⊢
  rw [Nat.add_assoc, hc, List.getElem?_drop]
theorem Row.drewN {w : World} {a : Option Addr} {xs : List Value} (h : Row w a xs) (n : Nat) : Row (w.drewN n) a xs := h
theorem Row.drew {w : World} {a : Option Addr} {xs : List Value} (h : Row w a xs) : Row w.drew a xs := h

/-- A callee that leaves the world alone, met in a region that draws its order. -/
theorem Calls.quiet_of_same' {P : Program} {f : FuncId} {args : Array Value} {w : World} {n : Nat} {v : Value}
    (h : Calls P f args (w.drewN n) fun e w' => e = .returned v ∧ w.drewN n = w') : Calls P f args (w.drewN n) fun e w'' => e = .returned v ∧ ∃ m, w'' = w.drewN m :=
  h.mono fun _ _ ⟨he, hm⟩ => ⟨he, n, hm.symm⟩

theorem Row.grown {w w' : World} {a : Option Addr} {xs : List Value} {r : Option Nat} (h : Row w a xs) (hg : w.grownBy w' r) (hr : ∀ x, a = some x → some x.block ≠ r) : Row w' a xs := by
  intro i hi
  obtain ⟨x, e, hc⟩ := h i hi
  refine ⟨x, e, ?_⟩
  rw [List.getElem?_eq_getElem hi] at hc ⊢
  exact hg.cell hc (by have hb : (x.add i).block = x.block := by unfold Addr.add; split <;> rfl
                       rw [hb]; exact hr x e)

theorem Row.of_own {w : World} {base : Nat} {e : TypeId} {n : Nat} {a : Option Addr} {m c : Nat} {xs : List Value} (h : w.ownsRow base e 1 (.slice a m c) n xs) : Row w a xs ∧ m = n ∧ xs.length = n := by
  refine ⟨fun i hi => ?_, ?_, by simpa using h.1⟩
  · have hn : 0 < n := by have := h.1; omega
    obtain ⟨g, cap, hv, _, _⟩ := World.ownsRow.form h hn
    injection hv with hv
    subst hv
    exact ⟨_, rfl, by rw [List.getElem?_eq_getElem hi]; exact h.cells (g := g) rfl i _ (List.getElem?_eq_getElem hi)⟩
  · rcases h.2 with ⟨hv, h0⟩ | ⟨g, cap, cur, hv, _⟩
    · injection hv with _ hv; omega
    · injection hv with _ hv

theorem own_slice {w : World} {base : Nat} {e : TypeId} {n : Nat} {v : Value} {xs : List Value} (h : w.ownsRow base e 1 v n xs) : ∃ a c, v = .slice a n c ∧ Row w a xs ∧ n ≤ c ∧ c ≤ maxLen ∧ xs.length = n := by
  rcases h.2 with ⟨rfl, h0⟩ | ⟨g, cap, cur, rfl, _, _, h1, h2, _⟩
  · subst h0; exact ⟨none, 0, rfl, (Row.of_own h).1, Nat.le_refl _, by unfold maxLen; omega, by simpa using h.1⟩
  · exact ⟨_, cap, rfl, (Row.of_own h).1, h1, h2, by simpa using h.1⟩

/-- The call returns a slice of its own that holds the cells xs; below 'base' nothing has turned. -/
def RetOwn (base : Nat) (e : TypeId) (size n : Nat) (xs : List Value) (w : World) (r : Ending) (w' : World) : Prop :=
  ∃ v, r = .returned v ∧ w'.ownsRow base e size v n xs ∧ Below base w w'

/-- Bytes, as cells. -/
def byts (l : List Nat) : List Value := l.map fun c : Nat => Value.int .u8 (c : Int)
theorem byts_length (l : List Nat) : (byts l).length = l.length := by simp [byts]
theorem byts_append (a b : List Nat) : byts (a ++ b) = byts a ++ byts b := by simp [byts]
theorem byts_one (l : List Nat) : ∀ u ∈ byts l, u.oneCell' = true := by
  intro u hu
  simp only [byts, List.mem_map] at hu
  obtain ⟨_, _, rfl⟩ := hu
  rfl
theorem byts_get (l : List Nat) (k : Nat) (h : k < l.length) : (byts l)[k]? = some (.int .u8 (l[k] : Int)) := by simp [byts, h]

/-- What the program's tables say of a slice type and its elements. -/
def Elem (P : Program) (t e : TypeId) (size bytes : Nat) : Prop :=
  P.underlying t = some (.slice e) ∧ ∃ i z, P.info? e = some i ∧ i.zero = some z ∧ i.size = size ∧ i.bytes = bytes ∧ z.cells.size = size ∧ 0 < size

theorem elem_of {P : Program} {t e : TypeId} {size bytes : Nat} {z : Value} (ht : P.underlying t = some (.slice e)) (hi : (P.info? e).map (fun i => (i.zero, i.size, i.bytes)) = some (some z, size, bytes)) (hz : z.cells.size = size) (h0 : 0 < size) :
    Elem P t e size bytes := by
  obtain ⟨i, h1, h2, h3, h4⟩ := info_parts hi
  exact ⟨ht, i, z, h1, h2, h3, h4, hz, h0⟩

section
variable {P : Program} {w : World}

theorem run_append_none (base : Nat) {t ty e : TypeId} {size bytes : Nat} (he : Elem P t e size bytes) (v : Value) (n : Nat) (xs : List Value) (hown : w.ownsRow base e size v n xs) (c : Nat) :
    (Builtin.append_ #[t, t] ty #[v, .slice none 0 c]).run P w = .ok v w := by
  obtain ⟨ht, i, z, hi, _⟩ := he
  rcases hown.2 with ⟨rfl, rfl⟩ | ⟨g, cap, cur, rfl, _, _, hnc, _⟩
  · simp [Builtin.append_, run_underlying ht, sizeOf, typeInfo, hi, Builtin.lenOf, Builtin.firstCells]
  · simp [Builtin.append_, run_underlying ht, sizeOf, typeInfo, hi, Builtin.lenOf, Builtin.firstCells, hnc, storeCells]

/-- An append onto a row of the call's own, of whatever cells the other slice leads to (nil, empty or not). -/
theorem wp_append {o : Oper} {a : Act} {K : Act → World → Prop} {Q : Exit → Act → World → Prop} (s x : Operand) (t : TypeId)
    (ho : o.op = .call { callee := .builtin .append, args := #[s, x], argTypes := #[t, t] })
    {e : TypeId} {size bytes : Nat} (he : Elem P t e size bytes) (base : Nat)
    (v : Value) (n : Nat) (xs : List Value) (hs : a.eval s = v) (hown : w.ownsRow base e size v n xs)
    (A : Option Addr) (m c : Nat) (news : List Value) (hx : a.eval x = .slice A m c) (hl : news.length = m * size) (hr : Row w A news) (h1 : ∀ u ∈ news, u.oneCell' = true)
    (h63 : n + m ≤ maxLen) (hbytes : (n + m) * bytes ≤ 140737488355328) (hbase : base ≤ w.heap.size)
    (h : ∀ v' w', w'.ownsRow base e size v' (n + m) (xs ++ news) → w.grownBy w' v.ownBlock → (v'.ownBlock = v.ownBlock ∨ v'.ownBlock = some w.heap.size) → Below base w w' → K (a.put o.dst v') w') : o.wp P a w K Q := by
  have key : ∃ v' w', (Builtin.append_ #[t, t] o.type #[v, .slice A m c]).run P w = .ok v' w' ∧ w'.ownsRow base e size v' (n + m) (xs ++ news) ∧ w.grownBy w' v.ownBlock ∧
      (v'.ownBlock = v.ownBlock ∨ v'.ownBlock = some w.heap.size) := by
    have none_ : m = 0 → ∃ v' w', (Builtin.append_ #[t, t] o.type #[v, .slice none m c]).run P w = .ok v' w' ∧ w'.ownsRow base e size v' (n + m) (xs ++ news) ∧ w.grownBy w' v.ownBlock ∧
        (v'.ownBlock = v.ownBlock ∨ v'.ownBlock = some w.heap.size) := by
      intro hm
      subst hm
      have hn : news = [] := List.eq_nil_of_length_eq_zero (by simpa using hl)
      subst hn
      exact ⟨v, w, run_append_none base he v n xs hown c, by simpa using hown, World.grownBy.refl w _, .inl rfl⟩
    cases A with
    | none =>
      refine none_ ?_
      rcases Nat.eq_zero_or_pos m with h0 | h0
      · exact h0
      · obtain ⟨_, _, _, _, _, _, _, _, hsz⟩ := he
        obtain ⟨x, hx, _⟩ := hr 0 (by rw [hl]; exact Nat.mul_pos h0 hsz)
        cases hx
    | some ad =>
      obtain ⟨ht, i, z, hi, hz, hsize, hby, hzs, hsz⟩ := he
      obtain ⟨v', w', hrun, h2, h3, _, h5⟩ := run_append_own_at (P := P) w base t o.type e i z size bytes ht hi hz hsize hby hzs hsz v n xs hown ad m c news hl
        (fun j u hu => by
          obtain ⟨hj, rfl⟩ := List.getElem?_eq_some_iff.1 hu
          obtain ⟨x, hx, hc⟩ := hr j hj
          injection hx with hx
          subst hx
          rw [hc, List.getElem?_eq_getElem hj]) h1 h63 hbytes hbase
      exact ⟨v', w', hrun, h2, h3, h5⟩
  obtain ⟨v', w', hrun, h2, h3, h4⟩ := key
  have hb : Below base w w' := (Below.refl base w).grown h3 hbase (fun k hk => (hown.lt k hk).1)
  unfold Oper.wp execOp
  simp only [ho, resolve, invoke, builtin, Sem.run_bind, Sem.run_pure, Result.andThen_ok, List.map_toArray, List.map_cons, List.map_nil, hs, hx, hrun]
  exact h v' w' h2 h3 h4 hb

theorem step_append {ops : Array Oper} {o : Oper} {a : Act} {K : Act → World → Prop} {Q : Exit → Act → World → Prop} {E : Prop} (hgd : o.guard = none) (s x : Operand) (t : TypeId)
    (ho : o.op = .call { callee := .builtin .append, args := #[s, x], argTypes := #[t, t] })
    {e : TypeId} {size bytes : Nat} (he : Elem P t e size bytes) (base : Nat)
    (v : Value) (n : Nat) (xs : List Value) (hs : a.eval s = v) (hown : w.ownsRow base e size v n xs)
    (A : Option Addr) (m c : Nat) (news : List Value) (hx : a.eval x = .slice A m c) (hl : news.length = m * size) (hr : Row w A news) (h1 : ∀ u ∈ news, u.oneCell' = true)
    (h63 : n + m ≤ maxLen) (hbytes : (n + m) * bytes ≤ 140737488355328) (hbase : base ≤ w.heap.size)
    (h : ∀ v' w', w'.ownsRow base e size v' (n + m) (xs ++ news) → w.grownBy w' v.ownBlock → (v'.ownBlock = v.ownBlock ∨ v'.ownBlock = some w.heap.size) → Below base w w' → K (a.put o.dst v') w') :
    if Region.wanted o (yielded ops a.tmps) = true then Oper.wp P o a w K Q else E := by
  have hw : Region.wanted o (yielded ops a.tmps) = true := by simp [Region.wanted, hgd]
  rw [if_pos hw]
  exact wp_append s x t ho he base v n xs hs hown A m c news hx hl hr h1 h63 hbytes hbase h

theorem wpList_append {ops : Array Oper} {rest : List Oper} {o : Oper} {a : Act} {Q : Exit → Act → World → Prop} (hgd : o.guard = none) (s x : Operand) (t : TypeId)
    (ho : o.op = .call { callee := .builtin .append, args := #[s, x], argTypes := #[t, t] })
    {e : TypeId} {size bytes : Nat} (he : Elem P t e size bytes) (base : Nat)
    (v : Value) (n : Nat) (xs : List Value) (hs : a.eval s = v) (hown : w.ownsRow base e size v n xs)
    (A : Option Addr) (m c : Nat) (news : List Value) (hx : a.eval x = .slice A m c) (hl : news.length = m * size) (hr : Row w A news) (h1 : ∀ u ∈ news, u.oneCell' = true)
    (h63 : n + m ≤ maxLen) (hbytes : (n + m) * bytes ≤ 140737488355328) (hbase : base ≤ w.heap.size)
    (h : ∀ v' w', w'.ownsRow base e size v' (n + m) (xs ++ news) → w.grownBy w' v.ownBlock → (v'.ownBlock = v.ownBlock ∨ v'.ownBlock = some w.heap.size) → Below base w w' → wpList P ops Q rest (a.put o.dst v') w') : wpList P ops Q (o :: rest) a w :=
  wpList_plain hgd fun _ hK => wp_append s x t ho he base v n xs hs hown A m c news hx hl hr h1 h63 hbytes hbase fun v' w' h2 h3 h4 h5 => hK _ _ (h v' w' h2 h3 h4 h5)
end

/-- A row of equal cells, kept behind a name. -/
def same (n : Nat) (z : Value) : Array Value := Array.replicate n z
theorem same_get (n : Nat) (z : Value) (i : Nat) (h : i < n) : (same n z)[i]? = some z := by simp [same, h]
theorem same_size (n : Nat) (z : Value) : (same n z).size = n := by simp [same]
theorem same_list (n : Nat) (z : Value) : (same n z).toList = List.replicate n z := by simp [same]

/-- 'make' with a length that is no literal, of one-cell elements. -/
theorem run_make_of {P : Program} {t e : TypeId} {bytes : Nat} {z : Value} (ht : P.underlying t = some (.slice e)) (hi : (P.info? e).map (fun i => (i.zero, i.size, i.bytes)) = some (some z, 1, bytes)) (hz : z.cells = #[z])
    (k1 k2 : IntKind) (n : Nat) (hb : bytes * n ≤ 281474976710656) (hn : n ≤ 281474976710656) (w : World) :
    (Instr.makeSlice t (.int k1 (n : Int)) (.int k2 (n : Int))).run P w = .ok (.slice (some ⟨w.heap.size, 0, none⟩) n n) (w.alloc (.cells (same n z) e)) := by
  obtain ⟨i, h1, h2, h3, h4⟩ := info_parts hi
  have hb' : (i.bytes : Int) * (n : Int) ≤ 281474976710656 := by
    rw [h4]
    have h : ((bytes * n : Nat) : Int) ≤ 281474976710656 := by omega
    rwa [Int.natCast_mul] at h
  have hr := run_make (P := P) w t e i z ht h1 h2 k1 k2 n n (by omega) (Int.le_refl _) hb' (by omega)
  simp only [Int.toNat_natCast] at hr
  rw [hr]
  have : madeCells z.cells (n * i.size) = same n z := by
    rw [hz, h3, Nat.mul_one]
    apply Array.toList_inj.1
    rw [toList_madeCells_one, same_list]
  rw [this]

end Go.Proofs.YtmmkncocgjgapaaDoor

/- How an argument that came in is read: for each kind of type a relation between its cells and plain data, and that the form's own reading gives it. No condition. -/
namespace Go.Proofs.YtmmkncocgjgapaaDoor
open Go.RowKit

abbrev Rd (D : Type) := World → List Value → D → Prop

def rdInt (k : IntKind) : Rd Int := fun _ cs n => cs = [.int k n] ∧ (Lit.int k n).wf = true
def rdBool : Rd Bool := fun _ cs b => cs = [.bool b]
def rdStr : Rd ByteArray := fun _ cs s => cs = [.string s] ∧ s.size ≤ maxLen
/-- A slice whose elements have 'size' cells each. -/
def rdSlice {D : Type} (size : Nat) (R : Rd D) : Rd (List D) := fun w cs l =>
  ∃ a n c, cs = [.slice a n c] ∧ l.length = n ∧ n ≤ c ∧ c ≤ maxLen ∧ (a = none → c = 0) ∧
    ∀ i (hi : i < l.length), ∃ x es, a = some x ∧ es.length = size ∧ (∀ j, j < size → w.cell? ((x.add (i * size)).add j) = es[j]?) ∧ R w es l[i]
def rdArr {D : Type} (n size : Nat) (R : Rd D) : Rd (List D) := fun w cs l =>
  cs.length = n * size ∧ l.length = n ∧ ∀ i (hi : i < l.length), R w ((cs.drop (i * size)).take size) l[i]
def rdPair {A B : Type} (m n : Nat) (R : Rd A) (S : Rd B) : Rd (A × B) := fun w cs d =>
  cs.length = m + n ∧ R w (cs.take m) d.1 ∧ S w (cs.drop m) d.2

def Opens {H : Type} (enc : TypeId × Value → H) (P : Program) (t : TypeId) {D : Type} (R : Rd D) : Prop :=
  ∀ w fuel cs y, DataW.trod enc P w 0 (fun _ => true) true fuel t cs = some y → ∃ d, R w cs d

section
variable {H : Type} {enc : TypeId × Value → H} {P : Program} {t : TypeId}

theorem opens_int {k : IntKind} (ht : P.underlying t = some (.int k)) : Opens enc P t (rdInt k) := fun _ _ _ _ h => by
  obtain ⟨n, hc, _, hw⟩ := DataW.trod_int ht h
  exact ⟨n, hc, hw⟩
theorem opens_bool (ht : P.underlying t = some .bool) : Opens enc P t rdBool := fun _ _ _ _ h => by
  obtain ⟨n, hc, _⟩ := DataW.trod_bool ht h
  exact ⟨n, hc⟩
theorem opens_str (ht : P.underlying t = some .string) : Opens enc P t rdStr := fun _ _ _ _ h => by
  obtain ⟨n, hc, _, hw⟩ := DataW.trod_string ht h
  exact ⟨n, hc, hw⟩

theorem list_of {D : Type} (n : Nat) (Q : Nat → D → Prop) (h : ∀ i, i < n → ∃ d, Q i d) : ∃ l : List D, l.length = n ∧ ∀ i (hi : i < l.length), Q i l[i] := by
  induction n with
  | zero => exact ⟨[], rfl, fun i hi => absurd hi (by simp)⟩
  | succ n ih =>
    obtain ⟨l, hl, hq⟩ := ih (fun i hi => h i (by omega))
    obtain ⟨d, hd⟩ := h n (by omega)
    refine ⟨l ++ [d], by simp [hl], fun i hi => ?_⟩
    by_cases hlt : i < l.length
    · rw [List.getElem_append_left hlt]; exact hq i hlt
    · have : i = n := by simp at hi; omega
      subst this
      rw [List.getElem_append_right (by omega)]
      simpa using hd

theorem cells_some {w : World} {a : Addr} {n : Nat} {cs : List Value} (h : w.cells? 0 a n = some cs) : cs.length = n ∧ ∀ j, j < n → w.cell? (a.add j) = cs[j]? := by
  unfold World.cells? at h
  rw [if_pos (Nat.zero_le _)] at h
  exact ⟨by simpa using mapM_some_length h, fun j hj => mapM_some_get h j j (by simp [hj])⟩

theorem opens_slice {e : TypeId} {D : Type} {R : Rd D} {size : Nat} (ht : P.underlying t = some (.slice e)) (hs : P.cellsOf e = size) (hr : Opens enc P e R) : Opens enc P t (rdSlice size R) := fun w _ _ _ h => by
  rcases DataW.trod_slice ht h with ⟨hc, _⟩ | ⟨a, len, cap, elems, rest, n, _, rfl, _, _, hl, hm, hlen, hel, _⟩
  · exact ⟨[], none, 0, 0, hc, rfl, Nat.le_refl _, by unfold maxLen; omega, fun _ => rfl, fun i hi => absurd hi (by simp)⟩
  · obtain ⟨l, hll, hq⟩ := list_of len (fun i d => ∃ es, es.length = size ∧ (∀ j, j < size → w.cell? ((a.add (i * size)).add j) = es[j]?) ∧ R w es d) (fun i hi => by
      have := hel i hi
      rw [List.getElem?_eq_getElem (by omega), hs] at this
      cases hc : w.cells? 0 (a.add (i * size)) size with
      | none => rw [hc] at this; cases this
      | some cs =>
        rw [hc] at this
        obtain ⟨d, hd⟩ := hr _ _ _ _ this
        exact ⟨d, cs, (cells_some hc).1, (cells_some hc).2, hd⟩)
    exact ⟨l, some a, len, cap, rfl, hll, hl, hm, (fun h => by cases h), fun i hi => by
      obtain ⟨es, h1, h2, h3⟩ := hq i hi
      exact ⟨a, es, rfl, h1, h2, h3⟩⟩

theorem opens_arr {e : TypeId} {D : Type} {R : Rd D} {n size : Nat} (ht : P.underlying t = some (.array n e)) (hs : P.cellsOf e = size) (ht' : P.cellsOf t = n * size) (hr : Opens enc P e R) : Opens enc P t (rdArr n size R) := fun w _ cs _ h => by
  obtain ⟨xs, m, _, _, hl, hlen, hel⟩ := DataW.trod_array ht h
  obtain ⟨l, hll, hq⟩ := list_of n (fun i d => R w ((cs.drop (i * size)).take size) d) (fun i hi => by
    have := hel i hi
    rw [List.getElem?_eq_getElem (by omega), hs] at this
    exact hr _ _ _ _ this)
  exact ⟨l, hl.trans ht', hll, hq⟩
end

theorem opens_struct2 {H : Type} {enc : TypeId × Value → H} {P : Program} {t : TypeId} {f0 f1 : Field} {A B : Type} {R : Rd A} {S : Rd B} {m n : Nat} (ht : P.underlying t = some (.struct #[f0, f1])) (hc : P.cellsOf t = m + n)
    (h0 : P.cellsOf f0.type = m) (o0 : f0.offset = 0) (r0 : Opens enc P f0.type R) (h1 : P.cellsOf f1.type = n) (o1 : f1.offset = m) (r1 : Opens enc P f1.type S) : Opens enc P t (rdPair m n R S) := fun w _ cs _ h => by
  obtain ⟨y0, y1, k, _, hl, a0, a1⟩ := ChangeShapes.trod_struct2 ht h
  rw [o0, h0, List.drop_zero] at a0
  rw [o1, h1, List.take_of_length_le (by rw [List.length_drop]; omega)] at a1
  obtain ⟨d0, e0⟩ := r0 _ _ _ _ a0
  obtain ⟨d1, e1⟩ := r1 _ _ _ _ a1
  exact ⟨(d0, d1), hl.trans hc, e0, e1⟩

/-- A slice of pairs of integers. -/
theorem rdSlice_pairs {k1 k2 : IntKind} {w : World} {a : Option Addr} {n c : Nat} {l : List (Int × Int)} (h : rdSlice 2 (rdPair 1 1 (rdInt k1) (rdInt k2)) w [.slice a n c] l) :
    l.length = n ∧ n ≤ c ∧ c ≤ maxLen ∧ (∀ i (hi : i < l.length), ∃ b off, a = some ⟨b, off, none⟩ ∧ w.cell? ⟨b, off + i * 2, none⟩ = some (.int k1 l[i].1) ∧ w.cell? ⟨b, off + i * 2 + 1, none⟩ = some (.int k2 l[i].2) ∧ b < w.heap.size) ∧
      ∀ x ∈ l, (Lit.int k1 x.1).wf = true ∧ (Lit.int k2 x.2).wf = true := by
  obtain ⟨a', n', c', e, hl, hn, hc, _, hr⟩ := h
  simp only [List.cons.injEq, Value.slice.injEq, and_true] at e
  obtain ⟨rfl, rfl, rfl⟩ := e
  have key : ∀ i (hi : i < l.length), ∃ x es, a = some x ∧ (∀ j, j < 2 → w.cell? ((x.add (i * 2)).add j) = es[j]?) ∧ es = [.int k1 l[i].1, .int k2 l[i].2] ∧ (Lit.int k1 l[i].1).wf = true ∧ (Lit.int k2 l[i].2).wf = true := by
    intro i hi
    obtain ⟨x, es, hx, hes, hj, he1, ⟨he2, w1⟩, he3, w2⟩ := hr i hi
    refine ⟨x, es, hx, hj, ?_, w1, w2⟩
    match es, hes with
    | [e0, e1], _ =>
      simp at he2 he3
      rw [he2, he3]
  refine ⟨hl, hn, hc, fun i hi => ?_, fun x hx => ?_⟩
  · obtain ⟨x, es, rfl, hj, rfl, _⟩ := key i hi
    obtain ⟨x0, es0, hx0, hj0, rfl, _⟩ := key 0 (by omega)
    injection hx0 with hx0
    subst hx0
    obtain ⟨b, off, spot⟩ := x
    have h0 := hj0 0 (by omega)
    rw [show ((⟨b, off, spot⟩ : Addr).add (0 * 2)).add 0 = ⟨b, off, spot⟩ from by simp [Addr.add]] at h0
    have hs := (cell_lt h0).2
    simp only at hs
    subst hs
    have a0 := hj 0 (by omega)
    have a1 := hj 1 (by omega)
    rw [add_none, add_none] at a0 a1
    refine ⟨b, off, rfl, by simpa using a0, by simpa using a1, (cell_lt h0).1⟩
  · obtain ⟨i, hi, rfl⟩ := List.getElem_of_mem hx
    obtain ⟨_, _, _, _, _, w1, w2⟩ := key i hi
    exact ⟨w1, w2⟩

/-- A slice of integers, as the walk of a law is told of it. -/
theorem rdSlice_ints {k : IntKind} {w : World} {a : Option Addr} {n c : Nat} {l : List Int} (h : rdSlice 1 (rdInt k) w [.slice a n c] l) :
    l.length = n ∧ n ≤ c ∧ c ≤ maxLen ∧ Row w a (l.map (Value.int k)) ∧ ∀ x ∈ l, (Lit.int k x).wf = true := by
  obtain ⟨a', n', c', e, hl, hn, hc, _, hr⟩ := h
  simp only [List.cons.injEq, Value.slice.injEq, and_true] at e
  obtain ⟨rfl, rfl, rfl⟩ := e
  refine ⟨hl, hn, hc, fun i hi => ?_, fun x hx => ?_⟩
  · rw [List.length_map] at hi
    obtain ⟨x, es, hx, _, hj, hes, _⟩ := hr i hi
    refine ⟨x, hx, ?_⟩
    have := hj 0 (by omega)
    rw [hes, Nat.mul_one] at this
    rw [show (x.add i).add 0 = x.add i from by simp [Addr.add]] at this
    rw [this]
    simp [hi]
  · obtain ⟨i, hi, rfl⟩ := List.getElem_of_mem hx
    obtain ⟨_, _, _, _, _, _, hw⟩ := hr i hi
    exact hw

theorem rdSlice_nil {D : Type} {size : Nat} {R : Rd D} {w : World} {a : Option Addr} {n c : Nat} {l : List D} (h : rdSlice size R w [.slice a n c] l) : a = none → n = 0 ∧ c = 0 := by
  obtain ⟨a', n', c', e, hl, hn, hc, h0, _⟩ := h
  simp only [List.cons.injEq, Value.slice.injEq, and_true] at e
  obtain ⟨rfl, rfl, rfl⟩ := e
  intro h
  have := h0 h
  omega

theorem rdArr2_ints {k : IntKind} {w : World} {cs : Array Value} {l : List Int} (h : rdArr 2 1 (rdInt k) w cs.toList l) :
    ∃ d e, cs = #[.int k d, .int k e] ∧ (Lit.int k d).wf = true ∧ (Lit.int k e).wf = true ∧ l = [d, e] := by
  obtain ⟨hc, hl, hr⟩ := h
  obtain ⟨cs⟩ := cs
  match cs, l, hc, hl with
  | [c0, c1], [d, e], _, _ =>
    have h0 := hr 0 (by simp)
    have h1 := hr 1 (by simp)
    simp only [rdInt, Nat.zero_mul, List.drop_zero, List.take_succ_cons, List.take_zero, List.cons.injEq, and_true, List.getElem_cons_zero, Nat.one_mul, List.drop_succ_cons, List.getElem_cons_succ] at h0 h1
    obtain ⟨rfl, w0⟩ := h0
    obtain ⟨rfl, w1⟩ := h1
    exact ⟨d, e, rfl, w0, w1, rfl⟩

theorem okWide_agg {P : Program} {w : World} {r : Reach} {base : Nat} {t : TypeId} {v : Value} {n : Nat} {e : TypeId} (ht : P.underlying t = some (.array n e)) (h : Value.okWide P w r base t v) : ∃ cs, v = .agg cs ∧ cs.size = P.cellsOf t := by
  simp only [Value.okWide, ht] at h
  obtain ⟨cs, h1, h2, _⟩ := h
  exact ⟨cs, h1, h2⟩

theorem u_bounds {x : Int} : ((Lit.int .u32 x).wf = true → 0 ≤ x ∧ x < 4294967296) ∧ ((Lit.int .u16 x).wf = true → 0 ≤ x ∧ x < 65536) ∧ ((Lit.int .u8 x).wf = true → 0 ≤ x ∧ x < 256) ∧ ((Lit.int .u64 x).wf = true → 0 ≤ x ∧ x < 18446744073709551616) ∧
    ((Lit.int .i64 x).wf = true → -9223372036854775808 ≤ x ∧ x < 9223372036854775808) := by
  simp only [Lit.wf, Bool.and_eq_true, decide_eq_true_eq, IntKind.min, IntKind.max, IntKind.signed, IntKind.bits]
  refine ⟨?_, ?_, ?_, ?_, ?_⟩ <;> (simp; omega)

end Go.Proofs.YtmmkncocgjgapaaDoor

/- How structs of three and five fields, and slices of bools, are read. No condition. -/
namespace Go.Proofs.YtmmkncocgjgapaaDoor
open Go.RowKit

theorem opens_struct3 {H : Type} {enc : TypeId × Value → H} {P : Program} {t : TypeId} {f0 f1 f2 : Field} {A B C : Type} {R : Rd A} {S : Rd B} {T : Rd C} {m0 m1 m2 n0 : Nat} (ht : P.underlying t = some (.struct #[f0, f1, f2])) (hc : P.cellsOf t = m0 + n0) (s0 : n0 = m1 + m2)
    (h0 : P.cellsOf f0.type = m0) (o0 : f0.offset = 0) (r0 : Opens enc P f0.type R) (h1 : P.cellsOf f1.type = m1) (o1 : f1.offset = m0) (r1 : Opens enc P f1.type S) (h2 : P.cellsOf f2.type = m2) (o2 : f2.offset = m0 + m1) (r2 : Opens enc P f2.type T) :
    Opens enc P t (rdPair m0 n0 R (rdPair m1 m2 S T)) := fun w _ cs _ h => by
  obtain ⟨xs, n, _, rfl, hl, hlen, hf⟩ := DataW.trod_struct ht h
  match xs, hlen with
  | [y0, y1, y2], _ =>
    have a0 := hf 0 f0 rfl
    have a1 := hf 1 f1 rfl
    have a2 := hf 2 f2 rfl
    simp only [List.getElem?_cons_zero, List.getElem?_cons_succ] at a0 a1 a2
    rw [o0, h0, List.drop_zero] at a0
    rw [o1, h1] at a1
    rw [o2, h2, List.take_of_length_le (by rw [List.length_drop]; omega)] at a2
    obtain ⟨d0, e0⟩ := r0 _ _ _ _ a0
    obtain ⟨d1, e1⟩ := r1 _ _ _ _ a1
    obtain ⟨d2, e2⟩ := r2 _ _ _ _ a2
    exact ⟨(d0, d1, d2), hl.trans hc, e0, by rw [List.length_drop]; omega, e1, by rw [List.drop_drop]; exact e2⟩

theorem opens_struct5 {H : Type} {enc : TypeId × Value → H} {P : Program} {t : TypeId} {f0 f1 f2 f3 f4 : Field} {A B C D E : Type} {R : Rd A} {S : Rd B} {T : Rd C} {U : Rd D} {V : Rd E} {m0 m1 m2 m3 m4 n0 n1 n2 : Nat} (ht : P.underlying t = some (.struct #[f0, f1, f2, f3, f4])) (hc : P.cellsOf t = m0 + n0)
    (s0 : n0 = m1 + n1) (s1 : n1 = m2 + n2) (s2 : n2 = m3 + m4)
    (h0 : P.cellsOf f0.type = m0) (o0 : f0.offset = 0) (r0 : Opens enc P f0.type R) (h1 : P.cellsOf f1.type = m1) (o1 : f1.offset = m0) (r1 : Opens enc P f1.type S) (h2 : P.cellsOf f2.type = m2) (o2 : f2.offset = m0 + m1) (r2 : Opens enc P f2.type T)
    (h3 : P.cellsOf f3.type = m3) (o3 : f3.offset = m0 + m1 + m2) (r3 : Opens enc P f3.type U) (h4 : P.cellsOf f4.type = m4) (o4 : f4.offset = m0 + m1 + m2 + m3) (r4 : Opens enc P f4.type V) :
    Opens enc P t (rdPair m0 n0 R (rdPair m1 n1 S (rdPair m2 n2 T (rdPair m3 m4 U V)))) := fun w _ cs _ h => by
  obtain ⟨xs, n, _, rfl, hl, hlen, hf⟩ := DataW.trod_struct ht h
  match xs, hlen with
  | [y0, y1, y2, y3, y4], _ =>
    have a0 := hf 0 f0 rfl
    have a1 := hf 1 f1 rfl
    have a2 := hf 2 f2 rfl
    have a3 := hf 3 f3 rfl
    have a4 := hf 4 f4 rfl
    simp only [List.getElem?_cons_zero, List.getElem?_cons_succ] at a0 a1 a2 a3 a4
    rw [o0, h0, List.drop_zero] at a0
    rw [o1, h1] at a1
    rw [o2, h2] at a2
    rw [o3, h3] at a3
    rw [o4, h4, List.take_of_length_le (by rw [List.length_drop]; omega)] at a4
    obtain ⟨d0, e0⟩ := r0 _ _ _ _ a0
    obtain ⟨d1, e1⟩ := r1 _ _ _ _ a1
    obtain ⟨d2, e2⟩ := r2 _ _ _ _ a2
    obtain ⟨d3, e3⟩ := r3 _ _ _ _ a3
    obtain ⟨d4, e4⟩ := r4 _ _ _ _ a4
    exact ⟨(d0, d1, d2, d3, d4), hl.trans hc, e0, by rw [List.length_drop]; omega, e1, by rw [List.length_drop, List.length_drop]; omega, by rw [List.drop_drop]; exact e2,
      by rw [List.length_drop, List.length_drop, List.length_drop]; omega, by have := e3; simp only [List.drop_drop, Nat.add_assoc] at this ⊢; exact this, by have := e4; simp only [List.drop_drop, Nat.add_assoc] at this ⊢; exact this⟩

theorem okWide_struct {P : Program} {w : World} {r : Reach} {base : Nat} {t : TypeId} {v : Value} {fs : Array Field} (ht : P.underlying t = some (.struct fs)) (h : Value.okWide P w r base t v) : ∃ cs, v = .agg cs ∧ cs.size = P.cellsOf t := by
  simp only [Value.okWide, ht] at h
  obtain ⟨cs, h1, h2, _⟩ := h
  exact ⟨cs, h1, h2⟩

/-- A slice of bools. -/
theorem rdSlice_bools {w : World} {cs : List Value} {l : List Bool} (h : rdSlice 1 rdBool w cs l) :
    ∃ a n c, cs = [.slice a n c] ∧ l.length = n ∧ n ≤ c ∧ c ≤ maxLen ∧ Row w a (l.map Value.bool) := by
  obtain ⟨a, n, c, rfl, hl, hn, hc, _, hr⟩ := h
  refine ⟨a, n, c, rfl, hl, hn, hc, fun i hi => ?_⟩
  rw [List.length_map] at hi
  obtain ⟨x, es, hx, _, hj, hes⟩ := hr i hi
  refine ⟨x, hx, ?_⟩
  have := hj 0 (by omega)
  rw [hes, Nat.mul_one] at this
  rw [show (x.add i).add 0 = x.add i from by simp [Addr.add]] at this
  rw [this]
  simp [hi]

/-- A struct of an int, an int, a word, a bool and a slice of bools. -/
abbrev rdOp5 : Rd (Int × Int × Int × Bool × List Bool) := rdPair 1 4 (rdInt .i64) (rdPair 1 3 (rdInt .i64) (rdPair 1 2 (rdInt .u64) (rdPair 1 1 rdBool (rdSlice 1 rdBool))))
theorem op5_cells {w : World} {cs : List Value} {d : Int × Int × Int × Bool × List Bool} (h : rdOp5 w cs d) :
    ∃ a n c, cs = [.int .i64 d.1, .int .i64 d.2.1, .int .u64 d.2.2.1, .bool d.2.2.2.1, .slice a n c] ∧ d.2.2.2.2.length = n ∧ n ≤ c ∧ c ≤ maxLen ∧ Row w a (d.2.2.2.2.map Value.bool) ∧ (Lit.int .i64 d.1).wf = true ∧ (Lit.int .i64 d.2.1).wf = true ∧ (Lit.int .u64 d.2.2.1).wf = true := by
  obtain ⟨h0, ⟨e0, w0⟩, h1, ⟨e1, w1⟩, h2, ⟨e2, w2⟩, h3, e3, e4⟩ := h
  obtain ⟨a, n, c, e4, q1, q2, q3, q4⟩ := rdSlice_bools e4
  match cs, h0 with
  | [c0, c1, c2, c3, c4], _ =>
    simp [rdBool] at e0 e1 e2 e3 e4
    subst e0; subst e1; subst e2; subst e3; subst e4
    exact ⟨a, n, c, rfl, q1, q2, q3, q4, w0, w1, w2⟩

end Go.Proofs.YtmmkncocgjgapaaDoor

/- Words for memory that is written: what a call may have turned, a block that is known whole, maps with integers or pointers for keys. No condition. -/
namespace Go.Proofs.YtmmkncocgjgapaaDoor
open Go.RowKit

/-- Of what was there only the blocks in S may have turned. -/
structure Chg (S : Nat → Prop) (w w' : World) : Prop where
  os : w'.os = w.os
  tape : w'.tape = w.tape
  output : w'.output = w.output
  size : w.heap.size ≤ w'.heap.size
  block : ∀ k, k < w.heap.size → ¬ S k → w'.heap[k]? = w.heap[k]?

section
variable {S S' : Nat → Prop} {w w1 w' : World}
theorem Chg.refl (S : Nat → Prop) (w : World) : Chg S w w := ⟨rfl, rfl, rfl, Nat.le_refl _, fun _ _ _ => rfl⟩
theorem Chg.trans (h : Chg S w w1) (h' : Chg S' w1 w') (hs : ∀ k, k < w.heap.size → S' k → S k) : Chg S w w' :=
  ⟨h'.os.trans h.os, h'.tape.trans h.tape, h'.output.trans h.output, Nat.le_trans h.size h'.size,
    fun k hk hn => (h'.block k (Nat.lt_of_lt_of_le hk h.size) (fun hk' => hn (hs k hk hk'))).trans (h.block k hk hn)⟩
theorem Chg.mono (h : Chg S w w') (hs : ∀ k, k < w.heap.size → S k → S' k) : Chg S' w w' :=
  ⟨h.os, h.tape, h.output, h.size, fun k hk hn => h.block k hk (fun hk' => hn (hs k hk hk'))⟩
theorem Chg.of_below {B : Nat} (h : Below B w w') : Chg (fun k => B ≤ k) w w' := ⟨h.os, h.tape, h.output, h.size, fun k _ hn => h.block k (by omega)⟩
theorem Chg.of_below' (h : Below w.heap.size w w') : Chg S w w' := ⟨h.os, h.tape, h.output, h.size, fun k hk _ => h.block k hk⟩
theorem Chg.below (h : Chg S w w') (hs : ∀ k, k < w.heap.size → ¬ S k) : Below w.heap.size w w' := ⟨h.os, h.tape, h.output, h.size, fun k hk => h.block k hk (hs k hk)⟩
theorem Chg.below_of {B : Nat} (h : Chg S w w') (hB : B ≤ w.heap.size) (hs : ∀ k, k < B → ¬ S k) : Below B w w' := ⟨h.os, h.tape, h.output, h.size, fun k hk => h.block k (by omega) (hs k hk)⟩
theorem Chg.of_grown {row : Option Nat} (h : w.grownBy w' row) : Chg (fun k => some k = row) w w' := ⟨h.os, h.tape, h.output, h.size, fun k hk hn => h.block k hk hn⟩
theorem Chg.alloc (h : Chg S w w1) (o : Obj) : Chg S w (w1.alloc o) :=
  h.trans (S' := S) ⟨rfl, rfl, rfl, by simp, fun k hk _ => Below.heap_alloc _ _ _ hk⟩ (fun _ _ h => h)
theorem Chg.drew (h : Chg S w w1) : Chg S w w1.drew := ⟨h.os, h.tape, h.output, h.size, h.block⟩
theorem Chg.drewN (h : Chg S w w1) (n : Nat) : Chg S w (w1.drewN n) := h.trans (S' := S) ⟨rfl, rfl, rfl, Nat.le_refl _, fun _ _ _ => rfl⟩ (fun _ _ h => h)
theorem Chg.setCell (h : Chg S w w1) (p : Addr) (u : Value) (hs : p.block < w.heap.size → S p.block) : Chg S w (w1.setCell p u) :=
  h.trans (S' := fun k => k = p.block) ⟨rfl, rfl, rfl, by simp [World.setCell], fun k _ hk => Below.heap_setCell _ _ _ _ hk⟩ (fun k hk e => by subst e; exact hs hk)
theorem Chg.then_below (h : Chg S w w1) (hb : Below w1.heap.size w1 w') : Chg S w w' := h.trans (Chg.of_below' (S := S) hb) (fun _ _ h => h)
theorem Chg.cell (h : Chg S w w') {p : Addr} {v : Value} (hc : w.cell? p = some v) (hn : ¬ S p.block) : w'.cell? p = some v :=
  (World.cell?_of_block (h.block p.block (cell_lt hc).1 hn)).trans hc
end

/-- Block g is just these cells. -/
def Blk (w : World) (g : Nat) (t : TypeId) (cs : Array Value) : Prop := w.heap[g]? = some (.cells cs t (0, 0))
section
variable {w w' : World} {g : Nat} {t : TypeId} {cs : Array Value} {S : Nat → Prop}
theorem Blk.lt (h : Blk w g t cs) : g < w.heap.size := by
  rcases Nat.lt_or_ge g w.heap.size with hlt | hge
  · exact hlt
  · unfold Blk at h; rw [Array.getElem?_eq_none hge] at h; cases h
theorem Blk.cell (h : Blk w g t cs) (i : Nat) : w.cell? ⟨g, i, none⟩ = cs[i]? := cell_of_row w g i cs t (0, 0) h
theorem Blk.some_ (h : Blk w g t cs) {i : Nat} (hi : i < cs.size) : ∃ v, w.cell? ⟨g, i, none⟩ = some v := ⟨cs[i], by rw [h.cell]; simp [hi]⟩
theorem Blk.frozen (h : Blk w g t cs) (i : Nat) : w.frozen? ⟨g, i, none⟩ = false := by
  unfold Blk at h
  simp [World.frozen?, h]
theorem Blk.new (w : World) (t : TypeId) (cs : Array Value) : Blk (w.alloc (.cells cs t)) w.heap.size t cs := heap_alloc_new w _
theorem Blk.drew (h : Blk w g t cs) : Blk w.drew g t cs := h
theorem Blk.drewN (h : Blk w g t cs) (n : Nat) : Blk (w.drewN n) g t cs := h
theorem Blk.alloc (h : Blk w g t cs) (o : Obj) : Blk (w.alloc o) g t cs := (Below.heap_alloc w o g h.lt).trans h
theorem Blk.set_ (h : Blk w g t cs) (i : Nat) (u : Value) : Blk (w.setCell ⟨g, i, none⟩ u) g t (cs.setIfInBounds i u) := by
  unfold Blk at h ⊢
  simp [World.setCell, Array.getElem?_modify, h]
theorem Blk.far (h : Blk w g t cs) {p : Addr} (hp : g ≠ p.block) (u : Value) : Blk (w.setCell p u) g t cs := (Below.heap_setCell w p u g hp).trans h
theorem Blk.below {B : Nat} (h : Blk w g t cs) (hb : Below B w w') (hg : g < B) : Blk w' g t cs := (hb.block g hg).trans h
theorem Blk.chg (h : Blk w g t cs) (hc : Chg S w w') (hg : ¬ S g) : Blk w' g t cs := (hc.block g h.lt hg).trans h
theorem Blk.inj {t' : TypeId} {cs' : Array Value} (h : Blk w g t cs) (h' : Blk w g t' cs') : t = t' ∧ cs = cs' := by
  unfold Blk at h h'
  rw [h] at h'
  injection h' with h'
  injection h' with h1 h2
  exact ⟨h2, h1⟩
theorem Blk.ne_ {g' : Nat} {t' : TypeId} {cs' : Array Value} (h : Blk w g t cs) (h' : Blk w g' t' cs') (hne : t ≠ t') : g ≠ g' := by
  rintro rfl
  exact hne (h.inj h').1
end

theorem Row.chg {S : Nat → Prop} {w w' : World} {a : Option Addr} {xs : List Value} (h : Row w a xs) (hc : Chg S w w') (hn : ∀ x, a = some x → ¬ S x.block) : Row w' a xs := by
  intro i hi
  obtain ⟨x, e, hx⟩ := h i hi
  refine ⟨x, e, ?_⟩
  rw [List.getElem?_eq_getElem hi] at hx ⊢
  exact hc.cell hx (by have hb : (x.add i).block = x.block := by unfold Addr.add; split <;> rfl
                       rw [hb]; exact hn x e)
theorem Row.of_blk {w : World} {g : Nat} {t : TypeId} {cs : Array Value} (h : Blk w g t cs) : Row w (some ⟨g, 0, none⟩) cs.toList := by
  intro i _
  refine ⟨_, rfl, ?_⟩
  rw [add_none, Nat.zero_add, h.cell]
  simp

section
variable {w w' : World} {base : Nat} {e : TypeId} {size n : Nat} {v : Value} {xs : List Value} {S : Nat → Prop}
theorem own_ne_blk (h : w.ownsRow base e size v n xs) {g : Nat} {t : TypeId} {cs : Array Value} (hg : Blk w g t cs) (hne : e ≠ t) : v.ownBlock ≠ some g := by
  rcases h.2 with ⟨rfl, _⟩ | ⟨g', cap, cur, rfl, _, hh, _⟩
  · simp [Value.ownBlock]
  · intro he
    have : g' = g := by simpa [Value.ownBlock] using he
    subst this
    exact Blk.ne_ (t := e) hh hg hne rfl
theorem own_ne_map (h : w.ownsRow base e size v n xs) {g : Nat} {es : Array MapEntry} {clock : Nat} (hg : w.heap[g]? = some (.map es clock)) : v.ownBlock ≠ some g := by
  rcases h.2 with ⟨rfl, _⟩ | ⟨g', cap, cur, rfl, _, hh, _⟩
  · simp [Value.ownBlock]
  · intro he
    have : g' = g := by simpa [Value.ownBlock] using he
    subst this
    rw [hg] at hh
    cases hh
theorem own_chg (h : w.ownsRow base e size v n xs) (hc : Chg S w w') (hS : ∀ g, v.ownBlock = some g → ¬ S g) : w'.ownsRow base e size v n xs := by
  refine ⟨h.1, ?_⟩
  rcases h.2 with h2 | ⟨g, cap, cur, rfl, hg, hh, r⟩
  · exact .inl h2
  · refine .inr ⟨g, cap, cur, rfl, hg, ?_, r⟩
    have hl : g < w.heap.size := Blk.lt (t := e) (cs := cur) hh
    rw [hc.block g hl (hS g rfl)]
    exact hh
end

/-! ### Maps: a list of keys and values, in the order in which they came. -/

/-- Block r is a map that holds just these, no key twice. -/
def IsMap {κ : Type} (mk : κ → Value) (w : World) (r : Nat) (kv : List (κ × Value)) : Prop :=
  ∃ es clock, w.heap[r]? = some (.map es clock) ∧ es.toList.map (fun e => (e.key, e.val)) = kv.map (fun p => (mk p.1, p.2))

section
variable {κ : Type} {mk : κ → Value} {w w' : World} {r : Nat} {kv : List (κ × Value)} {S : Nat → Prop}
theorem IsMap.lt (h : IsMap mk w r kv) : r < w.heap.size := by
  obtain ⟨es, clock, h, _⟩ := h
  rcases Nat.lt_or_ge r w.heap.size with hlt | hge
  · exact hlt
  · rw [Array.getElem?_eq_none hge] at h; cases h
theorem IsMap.chg (h : IsMap mk w r kv) (hc : Chg S w w') (hg : ¬ S r) : IsMap mk w' r kv := by
  have hl := h.lt
  obtain ⟨es, clock, h, he⟩ := h
  exact ⟨es, clock, (hc.block r hl hg).trans h, he⟩
theorem IsMap.new (mk : κ → Value) (w : World) : IsMap mk (w.alloc (.map #[] 0)) w.heap.size [] := ⟨#[], 0, heap_alloc_new w _, rfl⟩
theorem IsMap.alloc (h : IsMap mk w r kv) (o : Obj) : IsMap mk (w.alloc o) r kv := h.chg (S := fun _ => False) ((Chg.refl _ w).alloc o) (fun h => h)
theorem IsMap.drewN (h : IsMap mk w r kv) (n : Nat) : IsMap mk (w.drewN n) r kv := h
theorem IsMap.drew (h : IsMap mk w r kv) : IsMap mk w.drew r kv := h
theorem IsMap.ne_own (h : IsMap mk w r kv) {base : Nat} {e : TypeId} {size n : Nat} {v : Value} {xs : List Value} (ho : w.ownsRow base e size v n xs) : v.ownBlock ≠ some r := by
  obtain ⟨es, clock, h, _⟩ := h
  exact own_ne_map ho h
theorem IsMap.ne_blk (h : IsMap mk w r kv) {g : Nat} {t : TypeId} {cs : Array Value} (hb : Blk w g t cs) : g ≠ r := by
  rintro rfl
  obtain ⟨es, clock, h, _⟩ := h
  unfold Blk at hb
  rw [h] at hb
  cases hb

variable [DecidableEq κ]
/-- Where a key stands. -/
def locate (k : κ) : List (κ × Value) → Nat → Option (Nat × Value)
  | [], _ => none
  | p :: l, i => if p.1 = k then some (i, p.2) else locate k l (i + 1)
def look (kv : List (κ × Value)) (k : κ) : Option Value := (kv.find? (fun p => p.1 = k)).map (·.2)
def put_ (kv : List (κ × Value)) (k : κ) (v : Value) : List (κ × Value) :=
  match locate k kv 0 with
  | some (i, _) => kv.set i (k, v)
  | none => kv ++ [(k, v)]
def drop_ (kv : List (κ × Value)) (k : κ) : List (κ × Value) :=
  match locate k kv 0 with
  | some (i, _) => kv.eraseIdx i
  | none => kv

theorem locate_some {k : κ} : ∀ {l : List (κ × Value)} {i j : Nat} {v : Value}, locate k l i = some (j, v) → i ≤ j ∧ l[j - i]? = some (k, v) := by
  intro l
  induction l with
  | nil => intro i j v h; cases h
  | cons p l ih =>
    intro i j v h
    unfold locate at h
    split at h
    · rename_i hk
      injection h with h
      injection h with h1 h2
      subst h1; subst h2; subst hk
      simp
    · obtain ⟨h1, h2⟩ := ih h
      refine ⟨by omega, ?_⟩
      rw [show j - i = (j - (i + 1)) + 1 from by omega, List.getElem?_cons_succ]
      exact h2
theorem locate_map {k : κ} (l : List (κ × Value)) (i : Nat) : (locate k l i).map (·.2) = look l k := by
  induction l generalizing i with
  | nil => rfl
  | cons p l ih =>
    unfold locate look
    by_cases h : p.1 = k
    · simp [h]
    · simp only [if_neg h, List.find?_cons, h, decide_false]
      exact ih (i + 1)
end

/-- The program finds a key as 'locate' does. -/
def Finds (P : Program) (kt : TypeId) {κ : Type} [DecidableEq κ] (mk : κ → Value) (w : World) (k : κ) (kv : List (κ × Value)) : Prop :=
  ∀ es : List MapEntry, es.map (fun e => (e.key, e.val)) = kv.map (fun p => (mk p.1, p.2)) →
    (Instr.findKey kt (mk k) es).run P w = .ok (locate k kv 0) w

section
variable {P : Program} {w : World}

theorem finds_int {kt : TypeId} {q : IntKind} (hk : P.underlying kt = some (.int q)) (k : Int) (kv : List (Int × Value)) : Finds P kt (Value.int q) w k kv := by
  intro es hes
  have h : ∀ (es : List MapEntry) (kv : List (Int × Value)) (i : Nat), es.map (fun e => (e.key, e.val)) = kv.map (fun p => (Value.int q p.1, p.2)) →
      Instr.findNow (.int q) (.int q k) es i = some (locate k kv i) := by
    intro es
    induction es with
    | nil => intro kv i h; cases kv with
      | nil => rfl
      | cons p kv => simp at h
    | cons e es ih =>
      intro kv i h
      cases kv with
      | nil => simp at h
      | cons p kv =>
        simp only [List.map_cons, List.cons.injEq, Prod.mk.injEq] at h
        obtain ⟨⟨h1, h2⟩, h3⟩ := h
        unfold Instr.findNow locate
        rw [h1, h2]
        by_cases hpk : p.1 = k
        · simp [Instr.sameNow, hpk]
        · have hne : (k == p.1) = false := by rw [beq_eq_false_iff_ne]; exact fun h => hpk h.symm
          simp [Instr.sameNow, hne, hpk, ih kv (i + 1) h3]
  simp [Instr.findKey, run_underlying hk, h es kv 0 hes]

def ptrKey (b : Nat) : Value := .pointer (some ⟨b, 0, none⟩)

theorem finds_ptr {kt te : TypeId} {j : TypeInfo} (hk : P.underlying kt = some (.pointer te)) (hte : P.info? te = some j) (hsz : j.size ≠ 0) (k : Nat) (kv : List (Nat × Value))
    (hb : ∃ t cs, Blk w k t cs) (hall : ∀ p ∈ kv, ∃ t cs, Blk w p.1 t cs) : Finds P kt ptrKey w k kv := by
  intro es hes
  obtain ⟨t0, cs0, hb0⟩ := hb
  have h : ∀ (es : List MapEntry) (kv : List (Nat × Value)) (i : Nat), (∀ p ∈ kv, ∃ t cs, Blk w p.1 t cs) → es.map (fun e => (e.key, e.val)) = kv.map (fun p => (ptrKey p.1, p.2)) →
      (Instr.findAsking kt (ptrKey k) es i).run P w = .ok (locate k kv i) w := by
    intro es
    induction es with
    | nil => intro kv i _ h; cases kv with
      | nil => rfl
      | cons p kv => simp at h
    | cons e es ih =>
      intro kv i hall h
      cases kv with
      | nil => simp at h
      | cons p kv =>
        simp only [List.map_cons, List.cons.injEq, Prod.mk.injEq] at h
        obtain ⟨⟨h1, h2⟩, h3⟩ := h
        have ih' := ih kv (i + 1) (fun q hq => hall q (by simp [hq])) h3
        obtain ⟨t1, cs1, hb1⟩ := hall p (by simp)
        unfold Instr.findAsking locate
        by_cases hpk : p.1 = k
        · have he : (Op.equal kt (ptrKey k) e.key).run P w = .ok true w := by
            rw [h1, hpk]
            have hd : ∀ d : Nat, (Op.equalIn (d + 1) kt (ptrKey k) (ptrKey k)).run P w = .ok true w := fun d => by
              simp [Op.equalIn, ptrKey, run_underlying hk, sizeOf, typeInfo, hte, run_sameAddr_same]
            exact hd 9999
          simp [he, hpk, h2]
        · have he : (Op.equal kt (ptrKey k) e.key).run P w = .ok false w := by
            rw [h1]
            have hne : (⟨k, 0, none⟩ : Addr) ≠ ⟨p.1, 0, none⟩ := by intro h; injection h with h; exact hpk h.symm
            have hd : ∀ d : Nat, (Op.equalIn (d + 1) kt (ptrKey k) (ptrKey p.1)).run P w = .ok false w := fun d => by
              simp [Op.equalIn, ptrKey, run_underlying hk, sizeOf, typeInfo, hte, hsz, run_sameAddr_other w hne hb0 hb1]
            exact hd 9999
          simp [he, hpk, ih']
  unfold Instr.findKey
  have hn : Instr.findNow (.pointer te) (ptrKey k) es 0 = none ∨ es = [] := by
    cases es with
    | nil => exact .inr rfl
    | cons e es => left; simp [Instr.findNow, Instr.sameNow]
  rcases hn with hn | rfl
  · simp [run_underlying hk, hn, h es kv 0 hall hes]
  · have : kv = [] := by cases kv with
      | nil => rfl
      | cons p kv => simp at hes
    subst this
    simp [run_underlying hk, Instr.findNow, locate]

variable {κ : Type} [DecidableEq κ] {mk : κ → Value}

/-- A key whose type is no struct, array or interface. -/
def PlainKey (P : Program) (kt : TypeId) (mk : κ → Value) : Prop := (∀ e n k w, (Instr.checkKey e (n + 1) kt (mk k)).run P w = .ok () w) ∧ ∀ k, Instr.sameBits 10000 (mk k) (mk k) = true

theorem plain_int {kt : TypeId} {q : IntKind} (hk : P.underlying kt = some (.int q)) : PlainKey P kt (Value.int q) :=
  ⟨fun e n k w => by unfold Instr.checkKey; simp [run_underlying hk], fun k => by simp [Instr.sameBits]⟩
theorem plain_ptr {kt te : TypeId} (hk : P.underlying kt = some (.pointer te)) : PlainKey P kt ptrKey :=
  ⟨fun e n k w => by unfold Instr.checkKey; simp [run_underlying hk, ptrKey], fun k => by simp [Instr.sameBits, ptrKey]⟩

theorem run_look {t kt et : TypeId} {r : Nat} {kv : List (κ × Value)} {z : Value} (ht : P.underlying t = some (.map kt et)) (hp : PlainKey P kt mk) (hm : IsMap mk w r kv) (k : κ) (hf : Finds P kt mk w k kv)
    (hz : (zeroValue et).run P w = .ok z w) (c : Bool) :
    (Instr.lookup t (.map (some r)) (mk k) c).run P w = .ok (if c then .tuple #[(look kv k).getD z, .bool (look kv k).isSome] else (look kv k).getD z) w := by
  obtain ⟨es, clock, hb, he⟩ := hm
  have h1 := hf es.toList he
  have h2 := locate_map (k := k) kv 0
  cases hl : locate k kv 0 with
  | none =>
    rw [hl] at h1 h2
    rw [← h2]
    simp [Instr.lookup, run_underlying ht, MapKept.run_getObj_map hb, hp.1, h1, hz, Result.andThen]
  | some x =>
    rw [hl] at h1 h2
    rw [← h2]
    obtain ⟨i, v⟩ := x
    simp [Instr.lookup, run_underlying ht, MapKept.run_getObj_map hb, hp.1, h1, Result.andThen]

theorem eraseIdx_map {α β : Type} (f : α → β) : ∀ (l : List α) (j : Nat), (l.eraseIdx j).map f = (l.map f).eraseIdx j
  | [], _ => by simp
  | _ :: _, 0 => by simp
  | x :: l, j + 1 => by simp [eraseIdx_map f l j]

theorem chg_setObj (w : World) (r : Nat) (o : Obj) : Chg (fun k => k = r) w { w with heap := w.heap.setIfInBounds r o } :=
  ⟨rfl, rfl, rfl, by simp, fun k _ hn => by
    show (w.heap.setIfInBounds r o)[k]? = _
    rw [Array.getElem?_setIfInBounds, if_neg (fun h => hn h.symm)]⟩

theorem run_put {t kt et : TypeId} {r : Nat} {kv : List (κ × Value)} (ht : P.underlying t = some (.map kt et)) (hp : PlainKey P kt mk) (hm : IsMap mk w r kv) (k : κ) (hf : Finds P kt mk w k kv) (v : Value) :
    ∃ w', (Instr.mapUpdate t (.map (some r)) (mk k) v).run P w = .ok () w' ∧ IsMap mk w' r (put_ kv k v) ∧ Chg (fun k => k = r) w w' := by
  have hlt := hm.lt
  obtain ⟨es, clock, hb, he⟩ := hm
  have h1 := hf es.toList he
  cases hl : locate k kv 0 with
  | none =>
    rw [hl] at h1
    refine ⟨{ w with heap := w.heap.setIfInBounds r (.map (es.push { key := mk k, val := v, born := clock }) (clock + 1)) }, ?_, ⟨_, _, by simp [hlt]; exact ⟨rfl, rfl⟩, ?_⟩, chg_setObj w r _⟩
    · simp [Instr.mapUpdate, run_underlying ht, MapKept.run_getObj_map hb, hp.1, h1, MapKept.run_setObj_map _ hb, Result.andThen]
    · unfold put_
      rw [hl]
      simp [he]
  | some x =>
    obtain ⟨i, v0⟩ := x
    rw [hl] at h1
    obtain ⟨_, hi⟩ := locate_some hl
    rw [Nat.sub_zero] at hi
    have hei : (es[i]?).map (·.key) = some (mk k) := by
      have h2 := congrArg (fun l => l[i]?) he
      simp only [List.getElem?_map, hi] at h2
      rw [Array.getElem?_toList] at h2
      cases hx : es[i]? with
      | none => rw [hx] at h2; cases h2
      | some x => rw [hx] at h2; simp at h2; simp [h2.1]
    have hstay : (Instr.keyThatStays (((es[i]?).map (·.key)).getD (mk k)) (mk k)).run P w = .ok (mk k) w := by
      rw [hei]
      simp [Instr.keyThatStays, hp.2]
    refine ⟨{ w with heap := w.heap.setIfInBounds r (.map (es.modify i fun e => { e with key := mk k, val := v }) clock) }, ?_, ⟨_, _, by simp [hlt]; exact ⟨rfl, rfl⟩, ?_⟩, chg_setObj w r _⟩
    · simp only [Instr.mapUpdate, Sem.run_bind, run_underlying ht, MapKept.run_getObj_map hb, hp.1, h1, hstay, Result.andThen, MapKept.run_setObj_map _ hb]
    · unfold put_
      rw [hl]
      apply List.ext_getElem?
      intro j
      have hj := congrArg (fun l => l[j]?) he
      simp only [List.getElem?_map, Array.getElem?_toList] at hj
      simp only [List.getElem?_map, Array.getElem?_toList, List.getElem?_set, Array.getElem?_modify]
      by_cases hji : i = j
      · subst hji
        have hlen : i < kv.length := (List.getElem?_eq_some_iff.1 hi).1
        cases hx : es[i]? with
        | none => rw [hx, hi] at hj; simp at hj
        | some x => simp [hlen]
      · simp [hji, hj]

theorem run_drop {t kt et ty : TypeId} {r : Nat} {kv : List (κ × Value)} (ht : P.underlying t = some (.map kt et)) (hp : PlainKey P kt mk) (hm : IsMap mk w r kv) (k : κ) (hf : Finds P kt mk w k kv) {t2 : TypeId} :
    ∃ w', (Builtin.delete_ #[t, t2] ty #[.map (some r), mk k]).run P w = .ok (.tuple #[]) w' ∧ IsMap mk w' r (drop_ kv k) ∧ Chg (fun k => k = r) w w' := by
  have hlt := hm.lt
  obtain ⟨es, clock, hb, he⟩ := hm
  have h1 := hf es.toList he
  cases hl : locate k kv 0 with
  | none =>
    rw [hl] at h1
    refine ⟨{ w with heap := w.heap.setIfInBounds r (.map es clock) }, ?_, ⟨_, _, by simp [hlt]; exact ⟨rfl, rfl⟩, ?_⟩, chg_setObj w r _⟩
    · simp [Builtin.delete_, run_underlying ht, MapKept.run_getObj_map hb, hp.1, h1, MapKept.run_setObj_map _ hb, Result.andThen]
    · unfold drop_
      rw [hl]
      exact he
  | some x =>
    obtain ⟨i, v0⟩ := x
    rw [hl] at h1
    refine ⟨{ w with heap := w.heap.setIfInBounds r (.map (es.eraseIdxIfInBounds i) clock) }, ?_, ⟨_, _, by simp [hlt]; exact ⟨rfl, rfl⟩, ?_⟩, chg_setObj w r _⟩
    · simp [Builtin.delete_, run_underlying ht, MapKept.run_getObj_map hb, hp.1, h1, MapKept.run_setObj_map _ hb, Result.andThen]
    · unfold drop_
      rw [hl]
      obtain ⟨_, hi⟩ := locate_some hl
      have hlen : i < es.size := by
        have h2 := congrArg List.length he
        simp at h2
        have := (List.getElem?_eq_some_iff.1 hi).1
        omega
      rw [Array.eraseIdxIfInBounds, dif_pos hlen, Array.toList_eraseIdx, eraseIdx_map, he, eraseIdx_map]

variable {ops : Array Oper} {rest : List Oper} {o : Oper} {a : Act} {Q : Exit → Act → World → Prop}

theorem wpList_put (hg : o.guard = none) (m x v : Operand) (t : TypeId) (hop : o.op = Op.mapUpdate t m x v) {kt et : TypeId} (ht : P.underlying t = some (.map kt et)) (hp : PlainKey P kt mk) (r : Nat) (kv : List (κ × Value))
    (hm : a.eval m = .map (some r)) (hmap : IsMap mk w r kv) (k : κ) (hx : a.eval x = mk k) (val : Value) (hv : a.eval v = val) (hf : Finds P kt mk w k kv)
    (hK : ∀ w', IsMap mk w' r (put_ kv k val) → Chg (fun k => k = r) w w' → wpList P ops Q rest (a.put o.dst undef) w') : wpList P ops Q (o :: rest) a w := by
  refine wpList_plain hg fun K' hK' => ?_
  obtain ⟨w', hrun, r1, r2⟩ := run_put ht hp hmap k hf val
  unfold Oper.wp
  simp [execOp, hop, hm, hx, hv, hrun, Result.andThen]
  exact hK' _ _ (hK w' r1 r2)

theorem wpList_look (hg : o.guard = none) (m x : Operand) (t : TypeId) (c : Bool) (hop : o.op = Op.lookup t m x c) {kt et : TypeId} (ht : P.underlying t = some (.map kt et)) (hp : PlainKey P kt mk) (r : Nat) (kv : List (κ × Value))
    (hm : a.eval m = .map (some r)) (hmap : IsMap mk w r kv) (k : κ) (hx : a.eval x = mk k) (hf : Finds P kt mk w k kv) {z : Value} (hz : (zeroValue et).run P w = .ok z w)
    (hK : wpList P ops Q rest (a.put o.dst (if c then .tuple #[(look kv k).getD z, .bool (look kv k).isSome] else (look kv k).getD z)) w) : wpList P ops Q (o :: rest) a w := by
  refine wpList_plain hg fun K' hK' => ?_
  have hrun := run_look ht hp hmap k hf hz c
  unfold Oper.wp
  simp [execOp, hop, hm, hx, hrun, Result.andThen]
  exact hK' _ _ hK

theorem wpList_drop (hg : o.guard = none) (m x : Operand) (t t2 : TypeId) (hop : o.op = .call { callee := .builtin .delete, args := #[m, x], argTypes := #[t, t2] }) {kt et : TypeId} (ht : P.underlying t = some (.map kt et)) (hp : PlainKey P kt mk) (r : Nat) (kv : List (κ × Value))
    (hm : a.eval m = .map (some r)) (hmap : IsMap mk w r kv) (k : κ) (hx : a.eval x = mk k) (hf : Finds P kt mk w k kv)
    (hK : ∀ w', IsMap mk w' r (drop_ kv k) → Chg (fun k => k = r) w w' → wpList P ops Q rest (a.put o.dst (.tuple #[])) w') : wpList P ops Q (o :: rest) a w := by
  refine wpList_plain hg fun K' hK' => ?_
  obtain ⟨w', hrun, r1, r2⟩ := run_drop (ty := o.type) (t2 := t2) ht hp hmap k hf
  unfold Oper.wp execOp
  simp only [hop, resolve, invoke, builtin, Sem.run_bind, Sem.run_pure, Result.andThen_ok, List.map_toArray, List.map_cons, List.map_nil, hm, hx, hrun]
  exact hK' _ _ (hK w' r1 r2)
end

end Go.Proofs.YtmmkncocgjgapaaDoor

/- The plain law of the sums of words: what chapter 2 computes, over bit vectors, with no program in sight. No condition. -/
namespace Go.Proofs.YtmmkncocgjgapaaDoor.Crc

def half (s : BitVec 32) : BitVec 32 := s >>> 1

/-- One turn of the register. -/
def bit (s : BitVec 32) : BitVec 32 := half s ^^^ (3988292384#32 &&& -(s &&& 1#32))

def bitN : Nat → BitVec 32 → BitVec 32
  | 0, s => s
  | n + 1, s => bit (bitN n s)

/-- The low byte of a word, and what is left of it. -/
def low (x : BitVec 64) : BitVec 32 := (x &&& 255#64).setWidth 32
def rest (x : BitVec 64) : BitVec 64 := x >>> 8

/-- The state behind k bytes of a word: the register and what is left of the word. -/
def byteN : Nat → BitVec 32 → BitVec 64 → BitVec 32 × BitVec 64
  | 0, s, x => (s, x)
  | n + 1, s, x => (bitN 8 ((byteN n s x).1 ^^^ low (byteN n s x).2), rest (byteN n s x).2)

def next (sum : BitVec 32) (x : BitVec 64) : BitVec 32 := ~~~ (byteN 8 (~~~ sum) x).1

def sum (l : List (BitVec 64)) : BitVec 32 := l.foldl next 0#32

end Go.Proofs.YtmmkncocgjgapaaDoor.Crc

/- The walks of crc.Next: it computes what the plain text says. No condition. -/
namespace Go.Proofs.YtmmkncocgjgapaaDoor.Crc
open Go.RowKit

def I32 (b : BitVec 32) : Int := b.toNat
def I64 (b : BitVec 64) : Int := b.toNat
theorem I32_lt (b : BitVec 32) : 0 ≤ I32 b ∧ I32 b < 4294967296 := by have := b.isLt; unfold I32; omega
theorem I64_lt (b : BitVec 64) : 0 ≤ I64 b ∧ I64 b < 18446744073709551616 := by have := b.isLt; unfold I64; omega

theorem bits32 (op : BitVec 32 → BitVec 32 → BitVec 32) (a b : Int) (s t : BitVec 32) (ha : a = I32 s) (hb : b = I32 t) :
    IntKind.u32.wrap (op (BitVec.ofInt 32 a) (BitVec.ofInt 32 b)).toNat = I32 (op s t) := by
  subst ha; subst hb
  have := (op s t).isLt
  rw [IntKind.wrap_u32']
  unfold I32
  rw [BitVec.ofInt_natCast, BitVec.ofInt_natCast, BitVec.ofNat_toNat, BitVec.ofNat_toNat, BitVec.setWidth_eq, BitVec.setWidth_eq]
  omega

@[go_sem] theorem xor32 (s t : BitVec 32) : bits BinOp.xor IntKind.u32 (I32 s) (I32 t) = I32 (s ^^^ t) :=
  bits32 (· ^^^ ·) _ _ s t rfl rfl
@[go_sem] theorem not32 (s : BitVec 32) : bits BinOp.xor IntKind.u32 IntKind.u32.max (I32 s) = I32 (~~~s) := by
  rw [show ~~~s = 4294967295#32 ^^^ s from (by rw [← BitVec.allOnes_xor]; rfl)]
  exact bits32 (· ^^^ ·) _ _ 4294967295#32 s rfl rfl
@[go_sem] theorem and1 (s : BitVec 32) : bits BinOp.and IntKind.u32 (I32 s) 1 = I32 (s &&& 1#32) :=
  bits32 (· &&& ·) _ _ s 1#32 rfl rfl
@[go_sem] theorem poly32 (s : BitVec 32) : bits BinOp.and IntKind.u32 3988292384 (I32 s) = I32 (3988292384#32 &&& s) :=
  bits32 (· &&& ·) _ _ 3988292384#32 s rfl rfl
@[go_sem] theorem neg32 (s : BitVec 32) : -I32 s % 4294967296 = I32 (-s) := by
  unfold I32
  rw [BitVec.toNat_neg]
  have := s.isLt
  omega
@[go_sem] theorem half32 (s : BitVec 32) : I32 s / 2 = I32 (half s) := by
  unfold I32 half
  rw [BitVec.toNat_ushiftRight, Nat.shiftRight_eq_div_pow]
  omega
@[go_sem] theorem low8 (x : BitVec 64) : bits BinOp.and IntKind.u64 (I64 x) 255 % 4294967296 = I32 (low x) := by
  have h : bits BinOp.and IntKind.u64 (I64 x) 255 = I64 (x &&& 255#64) := by
    show IntKind.u64.wrap ((BitVec.ofInt 64 (I64 x)) &&& (BitVec.ofInt 64 255)).toNat = _
    rw [IntKind.wrap_u64]
    unfold I64
    rw [BitVec.ofInt_natCast, BitVec.ofNat_toNat, BitVec.setWidth_eq]
    have := (x &&& 255#64).isLt
    show ((x &&& 255#64).toNat : Int) % _ = _
    omega
  rw [h]
  unfold I64 I32 low
  rw [BitVec.toNat_setWidth]
  omega
@[go_sem] theorem shr8 (x : BitVec 64) : I64 x / 256 = I64 (rest x) := by
  unfold I64 rest
  rw [BitVec.toNat_ushiftRight, Nat.shiftRight_eq_div_pow]
  omega

set_option maxRecDepth 100000 in
set_option maxHeartbeats 400000 in
theorem next_any (s : BitVec 32) (x : BitVec 64) (w : World) :
    Calls Tryd.prog 54 #[.int .u32 (I32 s), .int .u64 (I64 x)] w fun e w' => e = .returned (.int .u32 (I32 (next s x))) ∧ w = w' := by
  go_enter Tryd.func54, Tryd.ntmps54
  go_wp2
  go_loop [1, 5, 8] (fun x1 s1 i => ∃ k : Nat, k ≤ 8 ∧ i = .int .i64 k ∧ s1 = .int .u32 (I32 (byteN k (~~~s) x).1) ∧ x1 = .int .u64 (I64 (byteN k (~~~s) x).2)) (fun _ _ i => 8 - (intOf i).toNat)
  case atStart => exact ⟨0, by omega, rfl, rfl, rfl⟩
  case round =>
    obtain ⟨k, hk, rfl, rfl, rfl⟩ := hrel
    by_cases hlt : (k : Int) < 8
    · go_wp2
      go_loop [5, 17] (fun s2 i => ∃ j : Nat, j ≤ 8 ∧ i = .int .i64 j ∧ s2 = .int .u32 (I32 (bitN j ((byteN k (~~~s) x).1 ^^^ low (byteN k (~~~s) x).2)))) (fun _ i => 8 - (intOf i).toNat)
      case atStart => exact ⟨0, by omega, rfl, rfl⟩
      case round =>
        obtain ⟨j, hj, rfl, rfl⟩ := hrel
        by_cases hjl : (j : Int) < 8
        · go_wp2
          go_round
          case rel => exact ⟨j + 1, by omega, by go_num, rfl⟩
          case measure => simp [intOf]; omega
        · obtain rfl : j = 8 := by omega
          go_wp2
          go_round
          case rel => exact ⟨k + 1, by omega, by go_num, rfl, rfl⟩
          case measure => simp [intOf]; omega
    · obtain rfl : k = 8 := by omega
      go_wp2
      go_ret
      exact ⟨rfl, rfl⟩

end Go.Proofs.YtmmkncocgjgapaaDoor.Crc

/- The walks of crc.Sum and of the reference's Sum: each computes what the plain text says, of every slice shorter than 2^62 words. -/
namespace Go.Proofs.YtmmkncocgjgapaaDoor.Crc
open Go.RowKit

def words (l : List (BitVec 64)) : List Value := l.map fun x => .int .u64 (I64 x)
theorem words_length (l : List (BitVec 64)) : (words l).length = l.length := by simp [words]

theorem words_get (l : List (BitVec 64)) (k : Nat) (h : k < l.length) : (words l)[k]? = some (.int .u64 (I64 l[k])) := by simp [words, h]
theorem sum_take (l : List (BitVec 64)) (k : Nat) (h : k < l.length) : next (sum (l.take k)) l[k] = sum (l.take (k + 1)) := by
  unfold sum
  rw [List.take_succ_eq_append_getElem h, List.foldl_append]
  rfl

set_option maxRecDepth 100000 in
set_option maxHeartbeats 400000 in
theorem sum_any (l : List (BitVec 64)) (a : Option Addr) (c : Nat) (w : World) (hr : Row w a (words l)) (hl : l.length < 4611686018427387904) :
    Calls Tryd.prog 55 #[.slice a l.length c] w fun e w' => e = .returned (.int .u32 (I32 (sum l))) ∧ w = w' := by
  go_enter Tryd.func55, Tryd.ntmps55
  go_wp2
  go_loop [3, 8] (fun s i => ∃ k : Nat, k ≤ l.length ∧ i = .int .i64 k ∧ s = .int .u32 (I32 (sum (l.take k)))) (fun _ i => l.length - (intOf i).toNat)
  case atStart => exact ⟨0, by omega, rfl, rfl⟩
  case round =>
    obtain ⟨k, hk, rfl, rfl⟩ := hrel
    by_cases hlt : (k : Int) < l.length
    · have hlt' : k < l.length := by omega
      obtain ⟨b, off, rfl, hc, -⟩ := hr.at_ (i := k) (by rw [words_length]; exact hlt')
      have hc' : w.cell? ⟨b, off + k, none⟩ = some (.int .u64 (I64 l[k])) := by rw [hc]; simp [words]
      have hs := Lib.hid (sum_take l k hlt')
      clear hc hr
      go_wp2_with (go_at_call 54; refine (next_any _ _ _).mono ?_; rintro e w' ⟨rfl, rfl⟩)
      go_round
      case rel => exact ⟨k + 1, by omega, by go_num, by rw [hs.out]⟩
      case measure => simp [intOf]; omega
    · obtain rfl : k = l.length := by omega
      go_wp2
      go_ret
      exact ⟨rfl, rfl⟩


@[go_sem] theorem xpoly (s : BitVec 32) : bits BinOp.xor IntKind.u32 (I32 s) 3988292384 = I32 (s ^^^ 3988292384#32) :=
  bits32 (· ^^^ ·) _ _ s 3988292384#32 rfl rfl
@[go_sem] theorem low8' (x : BitVec 64) : I64 x % 256 = I32 (low x) := by
  unfold I64 I32 low
  have : (x &&& 255#64).toNat = x.toNat % 256 := by rw [BitVec.toNat_and]; exact Nat.and_two_pow_sub_one_eq_mod x.toNat 8
  rw [BitVec.toNat_setWidth, this]
  omega

@[go_sem] theorem low8m (x : BitVec 64) : I32 (low x) % 4294967296 = I32 (low x) := by
  have := I32_lt (low x)
  omega

theorem odd_cases (s : BitVec 32) : s &&& 1#32 = 1#32 ∧ I32 s % 2 = 1 ∨ s &&& 1#32 = 0#32 ∧ I32 s % 2 = 0 := by
  have h : (s &&& 1#32).toNat = s.toNat % 2 := by rw [BitVec.toNat_and]; exact Nat.and_two_pow_sub_one_eq_mod s.toNat 1
  unfold I32
  rcases Nat.mod_two_eq_zero_or_one s.toNat with h0 | h1
  · exact .inr ⟨BitVec.eq_of_toNat_eq (by rw [h, h0]; rfl), by omega⟩
  · exact .inl ⟨BitVec.eq_of_toNat_eq (by rw [h, h1]; rfl), by omega⟩
theorem bit_odd (s : BitVec 32) (h : (I32 s % 2 == 1) = true) : half s ^^^ 3988292384#32 = bit s := by
  rcases odd_cases s with ⟨h1, _⟩ | ⟨_, h2⟩
  · unfold bit
    rw [h1]
    congr 1
  · rw [h2] at h; cases h
theorem bit_even (s : BitVec 32) (h : (I32 s % 2 == 1) = false) : half s = bit s := by
  rcases odd_cases s with ⟨_, h2⟩ | ⟨h1, _⟩
  · rw [h2] at h; cases h
  · unfold bit
    rw [h1]
    have : 3988292384#32 &&& -0#32 = 0#32 := by decide
    rw [this, BitVec.xor_zero]
@[go_sem] theorem neg_top (s : BitVec 32) : (4294967295 - I32 (~~~s)) % 4294967296 = I32 s := by
  unfold I32
  have := s.isLt
  rw [BitVec.toNat_not]
  omega

theorem sum_at (l : List (BitVec 64)) (a : Option Addr) (n c : Nat) (w : World) (hn : l.length = n) (hr : Row w a (words l)) (hl : n < 4611686018427387904) :
    Calls Tryd.prog 55 #[.slice a n c] w fun e w' => e = .returned (.int .u32 (I32 (sum l))) ∧ w = w' := by
  subst hn
  exact sum_any l a c w hr hl

end Go.Proofs.YtmmkncocgjgapaaDoor.Crc

/- The plain law of the sums: they are linear over exclusive or, and a word one half of which is turned turns the sum. No condition. -/
namespace Go.Proofs.YtmmkncocgjgapaaDoor.Crc

theorem and_xor {n : Nat} (a b c : BitVec n) : (a ^^^ b) &&& c = (a &&& c) ^^^ (b &&& c) := by
  apply BitVec.eq_of_getLsbD_eq
  intro i hi
  simp only [BitVec.getLsbD_and, BitVec.getLsbD_xor]
  cases a.getLsbD i <;> cases b.getLsbD i <;> cases c.getLsbD i <;> rfl
theorem half_xor (a b : BitVec 32) : half (a ^^^ b) = half a ^^^ half b := BitVec.ushiftRight_xor_distrib a b 1
theorem neg1_cases (a : BitVec 32) : a &&& 1#32 = 0#32 ∨ a &&& 1#32 = 1#32 := by
  have h : (a &&& 1#32).toNat = a.toNat % 2 := by rw [BitVec.toNat_and]; exact Nat.and_two_pow_sub_one_eq_mod a.toNat 1
  rcases Nat.mod_two_eq_zero_or_one a.toNat with h0 | h1
  · exact .inl (BitVec.eq_of_toNat_eq (by rw [h, h0]; rfl))
  · exact .inr (BitVec.eq_of_toNat_eq (by rw [h, h1]; rfl))
theorem bit_xor (a b : BitVec 32) : bit (a ^^^ b) = bit a ^^^ bit b := by
  unfold bit
  have h : (a ^^^ b) &&& 1#32 = (a &&& 1#32) ^^^ (b &&& 1#32) := and_xor a b 1#32
  rw [half_xor, h]
  have e : ∀ x y : BitVec 32, (x = 0#32 ∨ x = 1#32) → (y = 0#32 ∨ y = 1#32) → 3988292384#32 &&& -(x ^^^ y) = (3988292384#32 &&& -x) ^^^ (3988292384#32 &&& -y) := by
    rintro x y (rfl | rfl) (rfl | rfl) <;> decide
  rw [e _ _ (neg1_cases a) (neg1_cases b)]
  ac_rfl
theorem bit_zero : bit 0#32 = 0#32 := by decide
theorem bitN_xor (n : Nat) (a b : BitVec 32) : bitN n (a ^^^ b) = bitN n a ^^^ bitN n b := by
  induction n with
  | zero => rfl
  | succ n ih => simp only [bitN, ih, bit_xor]
theorem bitN_zero (n : Nat) : bitN n 0#32 = 0#32 := by
  induction n with
  | zero => rfl
  | succ n ih => simp only [bitN, ih, bit_zero]
theorem bitN_add (m n : Nat) (a : BitVec 32) : bitN (m + n) a = bitN n (bitN m a) := by
  induction n with
  | zero => rfl
  | succ n ih => rw [← Nat.add_assoc]; simp only [bitN, ih]

/-- One turn is one to one. -/
theorem bit_eq_zero (a : BitVec 32) (h : bit a = 0#32) : a = 0#32 := by
  have top : (half a).getLsbD 31 = false := by
    unfold half
    rw [BitVec.getLsbD_ushiftRight]
    exact BitVec.getLsbD_of_ge _ _ (by omega)
  rcases neg1_cases a with h0 | h1
  · unfold bit at h
    rw [h0] at h
    have hz : 3988292384#32 &&& -0#32 = 0#32 := by decide
    rw [hz, BitVec.xor_zero] at h
    have h2 := congrArg BitVec.toNat h
    have h3 := congrArg BitVec.toNat h0
    unfold half at h2
    rw [BitVec.toNat_ushiftRight, Nat.shiftRight_eq_div_pow] at h2
    have h4 : (a &&& 1#32).toNat = a.toNat % 2 := by rw [BitVec.toNat_and]; exact Nat.and_two_pow_sub_one_eq_mod a.toNat 1
    rw [h4] at h3
    apply BitVec.eq_of_toNat_eq
    simp at h2 h3 ⊢
    omega
  · exfalso
    have h2 : (bit a).getLsbD 31 = true := by
      unfold bit
      rw [BitVec.getLsbD_xor, top, h1]
      decide
    rw [h] at h2
    simp at h2
theorem bitN_eq_zero (n : Nat) (a : BitVec 32) (h : bitN n a = 0#32) : a = 0#32 := by
  induction n with
  | zero => exact h
  | succ n ih => exact ih (bit_eq_zero _ h)

theorem low_xor (a b : BitVec 64) : low (a ^^^ b) = low a ^^^ low b := by
  unfold low
  rw [and_xor, BitVec.setWidth_xor]
theorem rest_xor (a b : BitVec 64) : rest (a ^^^ b) = rest a ^^^ rest b := BitVec.ushiftRight_xor_distrib a b 8

theorem byteN_xor (n : Nat) (s t : BitVec 32) (x y : BitVec 64) :
    (byteN n (s ^^^ t) (x ^^^ y)).1 = (byteN n s x).1 ^^^ (byteN n t y).1 ∧ (byteN n (s ^^^ t) (x ^^^ y)).2 = (byteN n s x).2 ^^^ (byteN n t y).2 := by
  induction n with
  | zero => exact ⟨rfl, rfl⟩
  | succ n ih =>
    simp only [byteN]
    rw [ih.1, ih.2, low_xor, rest_xor]
    refine ⟨?_, rfl⟩
    rw [← bitN_xor]
    congr 1
    ac_rfl

theorem byteN_add (m n : Nat) (s : BitVec 32) (x : BitVec 64) : byteN (m + n) s x = byteN n (byteN m s x).1 (byteN m s x).2 := by
  induction n with
  | zero => rfl
  | succ n ih => rw [← Nat.add_assoc]; simp only [byteN, ih]

theorem low_zero : low 0#64 = 0#32 := by decide
theorem rest_zero : rest 0#64 = 0#64 := by decide
theorem byteN_word0 (n : Nat) (s : BitVec 32) : byteN n s 0#64 = (bitN (8 * n) s, 0#64) := by
  induction n with
  | zero => rfl
  | succ n ih =>
    simp only [byteN, ih, low_zero, rest_zero, BitVec.xor_zero]
    rw [show 8 * (n + 1) = 8 * n + 8 from rfl, bitN_add]

theorem bit_even' (a : BitVec 32) (h : a.getLsbD 0 = false) : bit a = half a := by
  have h0 : a &&& 1#32 = 0#32 := by
    rcases neg1_cases a with h0 | h1
    · exact h0
    · exfalso
      have := congrArg (fun x => BitVec.getLsbD x 0) h1
      simp only [BitVec.getLsbD_and, h] at this
      cases this
  unfold bit
  rw [h0]
  have : 3988292384#32 &&& -0#32 = 0#32 := by decide
  rw [this, BitVec.xor_zero]

/-- Zeros alone in the low bits: they are shifted out. -/
theorem bitN_shift (n : Nat) (u : BitVec 32) (h : ∀ i, i < n → u.getLsbD i = false) : bitN n u = u >>> n := by
  induction n with
  | zero => simp [bitN]
  | succ n ih =>
    simp only [bitN]
    rw [ih (fun i hi => h i (by omega)), bit_even']
    · unfold half
      apply BitVec.eq_of_getLsbD_eq
      intro i hi
      simp only [BitVec.getLsbD_ushiftRight]
      congr 1
      omega
    · rw [BitVec.getLsbD_ushiftRight]
      exact h n (by omega)

def tr (x : BitVec 64) : BitVec 32 := x.setWidth 32
def up (u : BitVec 32) : BitVec 32 := u &&& 4294967040#32

theorem bits_255 (i : Nat) (hi : i < 32) : (4294967040#32).getLsbD i = decide (8 ≤ i) ∧ (255#64).getLsbD i = decide (i < 8) := by
  have h : ∀ j : Fin 32, (4294967040#32).getLsbD j.1 = decide (8 ≤ j.1) ∧ (255#64).getLsbD j.1 = decide (j.1 < 8) := by decide
  exact h ⟨i, hi⟩
theorem tr_split (x : BitVec 64) : low x = tr x ^^^ up (tr x) := by
  apply BitVec.eq_of_getLsbD_eq
  intro i hi
  have h := bits_255 i hi
  simp only [low, tr, up, BitVec.getLsbD_xor, BitVec.getLsbD_and, BitVec.getLsbD_setWidth, h.1, h.2, hi, decide_true, Bool.true_and]
  by_cases h8 : i < 8
  · have h9 : ¬ 8 ≤ i := by omega
    simp [h8, h9]
  · have h9 : 8 ≤ i := by omega
    simp [h8, h9]
theorem up_shift (u : BitVec 32) : bitN 8 (up u) = u >>> 8 := by
  rw [bitN_shift]
  · apply BitVec.eq_of_getLsbD_eq
    intro i hi
    simp only [up, BitVec.getLsbD_ushiftRight, BitVec.getLsbD_and]
    by_cases h : 8 + i < 32
    · rw [(bits_255 (8 + i) h).1]; simp
    · rw [BitVec.getLsbD_of_ge _ _ (by omega)]; rfl
  · intro i hi
    simp only [up, BitVec.getLsbD_and]
    rw [(bits_255 i (by omega)).1]
    have : ¬ 8 ≤ i := by omega
    simp [this]
theorem tr_rest (x : BitVec 64) (h : x.toNat < 4294967296) : tr (rest x) = tr x >>> 8 ∧ (rest x).toNat < 4294967296 := by
  have e : (rest x).toNat = x.toNat / 256 := by unfold rest; rw [BitVec.toNat_ushiftRight, Nat.shiftRight_eq_div_pow]
  refine ⟨BitVec.eq_of_toNat_eq ?_, by omega⟩
  unfold tr
  rw [BitVec.toNat_ushiftRight, Nat.shiftRight_eq_div_pow, BitVec.toNat_setWidth, BitVec.toNat_setWidth, e]
  omega

theorem byteN_low (n : Nat) (s : BitVec 32) (x : BitVec 64) (h : x.toNat < 4294967296) :
    (byteN n s x).1 ^^^ tr (byteN n s x).2 = bitN (8 * n) (s ^^^ tr x) ∧ (byteN n s x).2.toNat < 4294967296 ∧ (byteN n s x).2.toNat = x.toNat / 256 ^ n := by
  induction n with
  | zero => exact ⟨rfl, h, by simp [byteN]⟩
  | succ n ih =>
    obtain ⟨h1, h2, h3⟩ := ih
    have e : (rest (byteN n s x).2).toNat = (byteN n s x).2.toNat / 256 := by unfold rest; rw [BitVec.toNat_ushiftRight, Nat.shiftRight_eq_div_pow]
    simp only [byteN]
    refine ⟨?_, (tr_rest _ h2).2, by rw [e, h3, Nat.div_div_eq_div_mul, ← Nat.pow_succ]⟩
    rw [(tr_rest _ h2).1, tr_split, ← BitVec.xor_assoc, h1, bitN_xor, up_shift, BitVec.xor_assoc, BitVec.xor_self, BitVec.xor_zero, ← bitN_add]
    rfl

/-- One half of a word. -/
def spread (d : BitVec 32) (high : Bool) : BitVec 64 := if high then d.setWidth 64 <<< 32 else d.setWidth 64

theorem byte8_low (d : BitVec 32) : (byteN 8 0#32 (d.setWidth 64)).1 = bitN 64 d := by
  have hd : (d.setWidth 64).toNat < 4294967296 := by rw [BitVec.toNat_setWidth]; have := d.isLt; omega
  obtain ⟨h1, h2, h3⟩ := byteN_low 8 0#32 (d.setWidth 64) hd
  have h4 : (byteN 8 0#32 (d.setWidth 64)).2 = 0#64 := by
    apply BitVec.eq_of_toNat_eq
    rw [h3]
    exact Nat.div_eq_of_lt (by omega)
  have h5 : tr (d.setWidth 64) = d := by
    apply BitVec.eq_of_toNat_eq
    unfold tr
    rw [BitVec.toNat_setWidth, BitVec.toNat_setWidth]
    have := d.isLt
    omega
  rw [h4, h5] at h1
  simpa [tr] using h1

theorem byte8_high (d : BitVec 32) : (byteN 8 0#32 (d.setWidth 64 <<< 32)).1 = bitN 32 d := by
  have hx : (d.setWidth 64 <<< 32).toNat = d.toNat * 4294967296 := by
    have := d.isLt
    rw [BitVec.toNat_shiftLeft, BitVec.toNat_setWidth, Nat.shiftLeft_eq]
    omega
  have h4 : ∀ n m, n + m = 4 → (byteN n 0#32 (d.setWidth 64 <<< 32)).1 = 0#32 ∧ (byteN n 0#32 (d.setWidth 64 <<< 32)).2.toNat = d.toNat * 256 ^ m := by
    intro n
    induction n with
    | zero => intro m hm; obtain rfl : m = 4 := by omega
              exact ⟨rfl, hx⟩
    | succ n ih =>
      intro m hm
      obtain ⟨h1, h2⟩ := ih (m + 1) (by omega)
      rw [Nat.pow_succ, ← Nat.mul_assoc] at h2
      generalize hB : byteN n 0#32 (d.setWidth 64 <<< 32) = B at h1 h2
      have hl : low B.2 = 0#32 := by
        apply BitVec.eq_of_toNat_eq
        unfold low
        have : (B.2 &&& 255#64).toNat = B.2.toNat % 256 := by rw [BitVec.toNat_and]; exact Nat.and_two_pow_sub_one_eq_mod _ 8
        rw [BitVec.toNat_setWidth, this, h2, Nat.mul_mod_left]
        rfl
      have hr : (rest B.2).toNat = d.toNat * 256 ^ m := by
        unfold rest
        rw [BitVec.toNat_ushiftRight, Nat.shiftRight_eq_div_pow, h2]
        exact Nat.mul_div_cancel _ (by omega)
      simp only [byteN, hB]
      exact ⟨by rw [h1, hl, BitVec.xor_zero, bitN_zero], hr⟩
  obtain ⟨a, b⟩ := h4 4 0 (by omega)
  rw [Nat.pow_zero, Nat.mul_one] at b
  rw [show (8 : Nat) = 4 + 4 from rfl, byteN_add, a]
  have hd := d.isLt
  obtain ⟨h1, h2, h3⟩ := byteN_low 4 0#32 (byteN 4 0#32 (d.setWidth 64 <<< 32)).2 (by rw [b]; omega)
  have h5 : (byteN 4 0#32 (byteN 4 0#32 (d.setWidth 64 <<< 32)).2).2 = 0#64 := by
    apply BitVec.eq_of_toNat_eq
    rw [h3, b]
    exact Nat.div_eq_of_lt (by omega)
  have h6 : tr (byteN 4 0#32 (d.setWidth 64 <<< 32)).2 = d := by
    apply BitVec.eq_of_toNat_eq
    unfold tr
    rw [BitVec.toNat_setWidth, b]
    omega
  rw [h5, h6] at h1
  simpa [tr] using h1

theorem spread_zero (d : BitVec 32) (high : Bool) (h : (byteN 8 0#32 (spread d high)).1 = 0#32) : d = 0#32 := by
  unfold spread at h
  cases high
  · rw [if_neg (by decide), byte8_low] at h; exact bitN_eq_zero _ _ h
  · rw [if_pos rfl, byte8_high] at h; exact bitN_eq_zero _ _ h

theorem next_diff (s t : BitVec 32) (x y : BitVec 64) : next s x ^^^ next t y = (byteN 8 (s ^^^ t) (x ^^^ y)).1 := by
  have h : ∀ a b : BitVec 32, ~~~a ^^^ ~~~b = a ^^^ b := by
    intro a b
    apply BitVec.eq_of_getLsbD_eq
    intro i hi
    simp only [BitVec.getLsbD_xor, BitVec.getLsbD_not, hi, decide_true, Bool.true_and]
    cases a.getLsbD i <;> cases b.getLsbD i <;> rfl
  unfold next
  rw [h, ← (byteN_xor 8 _ _ _ _).1, h]

/-- The same words behind: a difference stays one. -/
theorem fold_diff (l : List (BitVec 64)) (s t : BitVec 32) : l.foldl next s = l.foldl next t ↔ s = t := by
  induction l generalizing s t with
  | nil => rfl
  | cons x l ih =>
    rw [List.foldl_cons, List.foldl_cons, ih]
    refine ⟨fun h => ?_, fun h => by rw [h]⟩
    have h1 := next_diff s t x x
    rw [h, BitVec.xor_self, BitVec.xor_self, byteN_word0] at h1
    have h2 := bitN_eq_zero _ _ h1.symm
    exact BitVec.xor_eq_zero_iff.1 h2

theorem tells (l : List (BitVec 64)) (k : Nat) (hk : k < l.length) (d : BitVec 32) (high : Bool) : sum (l.set k (l[k] ^^^ spread d high)) = sum l ↔ d = 0#32 := by
  have e1 : l.set k (l[k] ^^^ spread d high) = l.take k ++ (l[k] ^^^ spread d high) :: l.drop (k + 1) := by
    rw [List.set_eq_take_append_cons_drop, if_pos hk]
  have e2 : l = l.take k ++ l[k] :: l.drop (k + 1) := by
    rw [List.getElem_cons_drop, List.take_append_drop]
  unfold sum
  rw [e1]
  conv => lhs; rhs; rw [e2]
  rw [List.foldl_append, List.foldl_append, List.foldl_cons, List.foldl_cons, fold_diff]
  generalize List.foldl next 0#32 (l.take k) = s
  refine ⟨fun h => ?_, fun h => ?_⟩
  · have h1 := next_diff s s (l[k] ^^^ spread d high) l[k]
    rw [h, BitVec.xor_self, BitVec.xor_self, BitVec.xor_comm l[k], BitVec.xor_assoc, BitVec.xor_self, BitVec.xor_zero] at h1
    exact spread_zero d high h1.symm
  · have : spread d high = 0#64 := by subst h; cases high <;> decide
    rw [this, BitVec.xor_zero]

/-- Four lists of as many words, laid over one another to nothing. -/
theorem turns (a b c : List (BitVec 64)) (hb : b.length = a.length) (hc : c.length = a.length) :
    sum a ^^^ sum b ^^^ sum c ^^^ sum (List.zipWith (· ^^^ ·) (List.zipWith (· ^^^ ·) a b) c) = 0#32 := by
  have key : ∀ (a b c : List (BitVec 64)) (s t u v : BitVec 32), b.length = a.length → c.length = a.length → s ^^^ t ^^^ u ^^^ v = 0#32 →
      a.foldl next s ^^^ b.foldl next t ^^^ c.foldl next u ^^^ (List.zipWith (· ^^^ ·) (List.zipWith (· ^^^ ·) a b) c).foldl next v = 0#32 := by
    intro a
    induction a with
    | nil =>
      intro b c s t u v hb hc h
      obtain rfl := List.eq_nil_of_length_eq_zero hb
      obtain rfl := List.eq_nil_of_length_eq_zero hc
      exact h
    | cons x a ih =>
      intro b c s t u v hb hc h
      match b, c, hb, hc with
      | y :: b, z :: c, hb, hc =>
        simp only [List.zipWith_cons_cons, List.foldl_cons]
        refine ih b c _ _ _ _ (by simpa using hb) (by simpa using hc) ?_
        have h1 := next_diff s t x y
        have h2 := next_diff u v z (x ^^^ y ^^^ z)
        have h3 : u ^^^ v = s ^^^ t := by
          have h4 : (s ^^^ t) ^^^ (u ^^^ v) = 0#32 := by rw [← BitVec.xor_assoc]; exact h
          exact (BitVec.xor_eq_zero_iff.1 h4).symm
        have h5 : z ^^^ (x ^^^ y ^^^ z) = x ^^^ y := by rw [BitVec.xor_comm z, BitVec.xor_assoc, BitVec.xor_self, BitVec.xor_zero]
        rw [h3, h5] at h2
        rw [BitVec.xor_assoc, h1, h2, BitVec.xor_self]
  exact key a b c 0#32 0#32 0#32 0#32 hb hc (by decide)

end Go.Proofs.YtmmkncocgjgapaaDoor.Crc

/- Rows of words: what a slice of []uint64 reads as, and appends to it. -/
namespace Go.Proofs.YtmmkncocgjgapaaDoor.Crc
open Go.RowKit

theorem I64_ofInt {x : Int} (h : (Lit.int .u64 x).wf = true) : I64 (BitVec.ofInt 64 x) = x := by
  simp only [Lit.wf, Bool.and_eq_true, IntKind.min, IntKind.max, IntKind.signed, IntKind.bits] at h
  unfold I64
  rw [BitVec.toNat_ofInt]
  simp at h
  omega

theorem words_of {l : List Int} (h : ∀ x ∈ l, (Lit.int .u64 x).wf = true) : words (l.map (BitVec.ofInt 64)) = l.map (Value.int .u64) := by
  unfold words
  rw [List.map_map]
  apply List.map_congr_left
  intro x hx
  show Value.int .u64 (I64 (BitVec.ofInt 64 x)) = _
  rw [I64_ofInt (h x hx)]

theorem words_row {w : World} {a : Option Addr} {n c : Nat} {l : List Int} (h : rdSlice 1 (rdInt .u64) w [.slice a n c] l) : ∃ m : List (BitVec 64), m.length = n ∧ Row w a (words m) := by
  obtain ⟨h1, _, _, h2, h3⟩ := rdSlice_ints h
  exact ⟨l.map (BitVec.ofInt 64), by simpa using h1, by rw [words_of h3]; exact h2⟩

set_option maxRecDepth 100000 in

theorem el_u64 : Elem Tryd.prog 40 35 1 8 := elem_of (z := .int .u64 0) Tryd.underlying40 (by kernel_rfl) rfl (by decide)

theorem words_one (m : List (BitVec 64)) : ∀ u ∈ words m, u.oneCell' = true := by
  intro u hu
  simp only [words, List.mem_map] at hu
  obtain ⟨_, _, rfl⟩ := hu
  rfl


end Go.Proofs.YtmmkncocgjgapaaDoor.Crc

/- A manifest's entries, in plain words and in memory. -/
namespace Go.Proofs.YtmmkncocgjgapaaDoor.Mf
open Go.RowKit

structure Ent where
  name : ByteArray
  f : Int
  b : Int
  w : Int
  c : Int
def ecells (e : Ent) : List Value := [.string e.name, .int .i64 e.f, .int .i64 e.b, .int .i64 e.w, .int .i64 e.c]
def flatM (l : List Ent) : List Value := l.flatMap ecells
theorem flatM_length (l : List Ent) : (flatM l).length = l.length * 5 := by
  induction l with
  | nil => rfl
  | cons e l ih => simp only [flatM, List.flatMap_cons, List.length_append, List.length_cons] at ih ⊢; rw [ih]; simp [ecells]; omega
theorem flatM_append (a b : List Ent) : flatM (a ++ b) = flatM a ++ flatM b := by simp [flatM]
theorem flatM_get (l : List Ent) : ∀ (k : Nat) (h : k < l.length) (j : Nat), j < 5 → (flatM l)[k * 5 + j]? = (ecells l[k])[j]? := by
  induction l with
  | nil => intro k h; simp at h
  | cons e l ih =>
    intro k h j hj
    have he : (ecells e).length = 5 := rfl
    show (ecells e ++ flatM l)[k * 5 + j]? = _
    rcases k with _ | k
    · rw [List.getElem?_append_left (by omega)]
      simp
    · rw [List.getElem?_append_right (by omega), he, show (k + 1) * 5 + j - 5 = k * 5 + j from by omega]
      exact ih k (by simpa using h) j hj
theorem flatM_one (l : List Ent) : ∀ u ∈ flatM l, u.oneCell' = true := by
  intro u hu
  unfold flatM at hu
  obtain ⟨e, _, h⟩ := List.mem_flatMap.1 hu
  simp [ecells] at h
  rcases h with rfl | rfl | rfl | rfl | rfl <;> rfl
/-- The cells of an entry. -/
theorem ent_at {w : World} {a : Option Addr} {l : List Ent} (h : Row w a (flatM l)) {k : Nat} (hk : k < l.length) :
    ∃ b o, a = some ⟨b, o, none⟩ ∧ b < w.heap.size ∧ w.cell? ⟨b, o + k * 5, none⟩ = some (.string l[k].name) ∧ w.cell? ⟨b, o + k * 5 + 1, none⟩ = some (.int .i64 l[k].f) ∧ w.cell? ⟨b, o + k * 5 + 2, none⟩ = some (.int .i64 l[k].b) ∧ w.cell? ⟨b, o + k * 5 + 3, none⟩ = some (.int .i64 l[k].w) ∧ w.cell? ⟨b, o + k * 5 + 4, none⟩ = some (.int .i64 l[k].c) := by
  have hl := flatM_length l
  obtain ⟨b, o, e, hc, _⟩ := h.at_ (i := k * 5) (by omega)
  have key : ∀ j, j < 5 → w.cell? ⟨b, o + k * 5 + j, none⟩ = (ecells l[k])[j]? := fun j hj => by
    obtain ⟨b', o', e', hc', _⟩ := h.at_ (i := k * 5 + j) (by omega)
    rw [e] at e'
    injection e' with e'
    injection e' with e1 e2
    subst e1 e2
    rw [Nat.add_assoc, hc']
    have := flatM_get l k hk j hj
    rw [← this]
    simp
  refine ⟨b, o, e, ?_, key 0 (by omega), key 1 (by omega), key 2 (by omega), key 3 (by omega), key 4 (by omega)⟩
  exact (cell_lt (key 0 (by omega))).1

/-- The bytes of a name that may be. -/
def okB (c : UInt8) : Bool := (97 ≤ c.toNat && c.toNat ≤ 122) || (48 ≤ c.toNat && c.toNat ≤ 57)
def okName (s : List UInt8) : Bool := decide (1 ≤ s.length) && decide (s.length ≤ 8) && s.all okB
def okNum (x : Int) : Bool := decide (0 ≤ x) && decide (x ≤ 1099511627776)
def okEnt (e : Ent) : Bool := okName e.name.data.toList && okNum e.f && okNum e.b && okNum e.w && okNum e.c
/-- The order: an entry stands behind the one ahead of it. -/
def okOrd (l : List Ent) : Nat → Bool
  | 0 => true
  | j + 1 => match l[j]?, l[j + 1]? with
    | some p, some e => Op.bytesLess p.name.toList e.name.toList
    | _, _ => true
def okAt (l : List Ent) (j : Nat) : Bool := (match l[j]? with | some e => okEnt e | none => true) && okOrd l j
def formedM (l : List Ent) : Bool := decide (l.length ≤ 12 ∧ ∀ j, j < l.length → okAt l j = true)
theorem formed_bad {l : List Ent} {k : Nat} (hk : k < l.length) (h : okAt l k = false) : formedM l = false := by
  unfold formedM
  rw [decide_eq_false_iff_not]
  intro h2
  rw [h2.2 k hk] at h
  cases h
theorem okAt_ent {l : List Ent} {k : Nat} (hk : k < l.length) (h : okEnt l[k] = false) : okAt l k = false := by
  unfold okAt
  rw [List.getElem?_eq_getElem hk]
  simp [h]
theorem okAt_first {l : List Ent} (hk : 0 < l.length) (h : okEnt l[0] = true) : okAt l 0 = true := by
  unfold okAt
  rw [List.getElem?_eq_getElem hk]
  simp [h, okOrd]
theorem okAt_next {l : List Ent} {j : Nat} (hk : j + 1 < l.length) (h : okEnt l[j + 1] = true) : okAt l (j + 1) = Op.bytesLess l[j].name.toList l[j + 1].name.toList := by
  have ho : okOrd l (j + 1) = Op.bytesLess l[j].name.toList l[j + 1].name.toList := by
    show (match l[j]?, l[j + 1]? with | some p, some e => Op.bytesLess p.name.toList e.name.toList | _, _ => true) = _
    rw [List.getElem?_eq_getElem hk, List.getElem?_eq_getElem (show j < l.length by omega)]
  unfold okAt
  rw [ho, List.getElem?_eq_getElem hk]
  simp [h]
/-- The letters that a name is trimmed by. -/
def letters : List UInt8 := [97, 98, 99, 100, 101, 102, 103, 104, 105, 106, 107, 108, 109, 110, 111, 112, 113, 114, 115, 116, 117, 118, 119, 120, 121, 122, 48, 49, 50, 51, 52, 53, 54, 55, 56, 57]
theorem letters_ok (c : UInt8) : letters.contains c = okB c := by
  have h : ∀ n : Fin 256, letters.contains (UInt8.ofNat n.1) = okB (UInt8.ofNat n.1) := by decide +kernel
  have := h ⟨c.toNat, c.toNat_lt⟩
  simpa using this
theorem drop_nil {l : List UInt8} (h : l.dropWhile okB = []) : ∀ x ∈ l, okB x = true := by
  induction l with
  | nil => intro x hx; cases hx
  | cons y l ih =>
    intro x hx
    rw [List.dropWhile_cons] at h
    split at h
    · rename_i hy
      rcases List.mem_cons.1 hx with rfl | hx
      · exact hy
      · exact ih h x hx
    · cases h
theorem drop_head {l : List UInt8} {y : UInt8} {t : List UInt8} (h : l.dropWhile okB = y :: t) : okB y = false := by
  induction l with
  | nil => cases h
  | cons z l ih =>
    rw [List.dropWhile_cons] at h
    split at h
    · exact ih h
    · rename_i hz
      injection h with h1 h2
      subst h1
      simpa using hz
theorem all_drop {l : List UInt8} (h : ∀ x ∈ l, okB x = true) : l.dropWhile okB = [] := by
  induction l with
  | nil => rfl
  | cons z l ih =>
    rw [List.dropWhile_cons, if_pos (h z (List.mem_cons_self ..))]
    exact ih (fun x hx => h x (List.mem_cons_of_mem _ hx))
theorem trim_empty (s : List UInt8) : (Lib.trimS s letters = []) ↔ s.all okB = true := by
  have hf : (fun c => letters.contains c) = okB := funext letters_ok
  unfold Lib.trimS Lib.trimLeftS Lib.trimRightS
  rw [hf]
  constructor
  · intro h
    have h1 := drop_nil h
    have h2 : s.reverse.dropWhile okB = [] := by
      cases hd : s.reverse.dropWhile okB with
      | nil => rfl
      | cons y t =>
        have hy := drop_head hd
        have := h1 y (by rw [hd]; simp)
        rw [this] at hy
        cases hy
    rw [List.all_eq_true]
    intro c hc
    exact drop_nil h2 c (by simpa using hc)
  · intro h
    rw [List.all_eq_true] at h
    have h1 : s.reverse.dropWhile okB = [] := all_drop (fun c hc => h c (by simpa using hc))
    rw [h1]
    rfl

/-- Two names are in one of three ways. -/
theorem less_tri : ∀ (a b : List UInt8), (!Op.bytesLess a b) = (Op.bytesLess b a || b == a) := by
  intro a
  induction a with
  | nil => intro b; cases b <;> simp [Op.bytesLess]
  | cons x a ih =>
    intro b
    cases b with
    | nil => simp [Op.bytesLess]
    | cons y b =>
      have hi := ih b
      rw [Op.bytesLess, Op.bytesLess]
      by_cases h1 : x < y
      · have h2 : ¬ y < x := fun h => absurd h1 (UInt8.lt_asymm h)
        have h3 : (y == x) = false := by rw [beq_eq_false_iff_ne]; intro h; subst h; exact absurd h1 (UInt8.lt_irrefl _)
        have h4 : (y :: b == x :: a) = false := by rw [beq_eq_false_iff_ne]; intro h; injection h with h _; subst h; exact absurd h1 (UInt8.lt_irrefl _)
        rw [h4, h3]
        simp [h1, h2]
      · by_cases h2 : y < x
        · have h3 : (x == y) = false := by rw [beq_eq_false_iff_ne]; intro h; subst h; exact absurd h2 (UInt8.lt_irrefl _)
          rw [h3]
          simp [h1, h2]
        · have h3 : x = y := UInt8.le_antisymm (UInt8.not_lt.1 h2) (UInt8.not_lt.1 h1)
          subst h3
          have h4 : (x :: b == x :: a) = (b == a) := by simp
          rw [h4]
          simp [h1]
          simpa using hi

end Go.Proofs.YtmmkncocgjgapaaDoor.Mf
