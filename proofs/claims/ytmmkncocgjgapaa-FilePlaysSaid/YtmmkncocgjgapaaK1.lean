/- Texts of mine, packed: Mem, Heap, Dev, DoMap, DoOps, DoRw. -/
import Derived.WalkKit
import Derived.Lib.Hide
import Derived.WalkSpells
import Derived.WalkLawsBesides
import Derived.Maps.AppendAt
import Derived.Deep.QuietTactic
import Derived.BigQuiet
import Derived.Deep.AppendLies
import Derived.LaidEql
import Derived.Maps.Own
import Derived.Test.YtmmkncocgjgapaaRows
import Derived.Laws.OwnMore
import Derived.Lib.LazyBuf
import Derived.StillTailTactics
import Derived.Shelf.SlMaps.Clone
set_option linter.unusedVariables false

/- Words for memory that all walks of this seat use: a slice that reads as a list of one-cell values. No condition. -/
namespace Go.Proofs.Ytmmkncocgjgapaa
open Go.RowKit

theorem cell_lt {w : World} {a : Addr} {v : Value} (h : w.cell? a = some v) : a.block < w.heap.size ∧ a.spot = none := by
  unfold World.cell? at h
  rcases Nat.lt_or_ge a.block w.heap.size with hlt | hge
  · refine ⟨hlt, ?_⟩
    split at h
    · split at h
      · cases h
      · cases hs : a.spot with
        | none => rfl
        | some s => simp_all
    · cases h
  · rw [Array.getElem?_eq_none hge] at h
    cases h

theorem _root_.Go.RowKit.Below.trans' {B : Nat} {a b c : World} (h : Below B b c) (k : Below B a b) : Below B a c := k.trans h

/-- The slice's address leads to the cells xs (nil where there are none). -/
def Row (w : World) (a : Option Addr) (xs : List Value) : Prop := ∀ i, i < xs.length → ∃ x, a = some x ∧ w.cell? (x.add i) = xs[i]?

theorem add_none (b off i : Nat) : (⟨b, off, none⟩ : Addr).add i = ⟨b, off + i, none⟩ := by
  unfold Addr.add
  split
  · subst_vars; rfl
  · rfl

theorem Row.nil (w : World) (a : Option Addr) : Row w a [] := fun i h => absurd h (by simp)

theorem Row.at_ {w : World} {a : Option Addr} {xs : List Value} (h : Row w a xs) {i : Nat} (hi : i < xs.length) :
    ∃ b off, a = some ⟨b, off, none⟩ ∧ w.cell? ⟨b, off + i, none⟩ = some xs[i] ∧ b < w.heap.size := by
  obtain ⟨x, rfl, hc⟩ := h i hi
  rw [List.getElem?_eq_getElem hi] at hc
  have hl := cell_lt hc
  obtain ⟨b, off, spot⟩ := x
  have hs : spot = none := by
    obtain ⟨y, hy, h0⟩ := h 0 (by omega)
    obtain rfl := Option.some.inj hy
    rw [List.getElem?_eq_getElem (by omega)] at h0
    exact (cell_lt h0).2
  subst hs
  have he : (⟨b, off, none⟩ : Addr).add i = ⟨b, off + i, none⟩ := by
    unfold Addr.add
    split
    · subst_vars; rfl
    · rfl
  rw [he] at hc hl
  exact ⟨b, off, rfl, hc, hl.1⟩

theorem cell_new (w : World) (vs : Array Value) (t : TypeId) (fr : Nat × Nat) (i : Nat) : (w.alloc (.cells vs t fr)).cell? ⟨w.heap.size, i, none⟩ = vs[i]? := by
  unfold World.cell?
  have : (w.alloc (.cells vs t fr)).heap[w.heap.size]? = some (.cells vs t fr) := by
    show (w.heap.push _)[w.heap.size]? = _
    rw [Array.getElem?_push_size]
  rw [show ((⟨w.heap.size, i, none⟩ : Addr).block) = w.heap.size from rfl, this]
  rfl

theorem Row.new (w : World) (vs : Array Value) (t : TypeId) (fr : Nat × Nat) : Row (w.alloc (.cells vs t fr)) (some ⟨w.heap.size, 0, none⟩) vs.toList := by
  intro i _
  refine ⟨_, rfl, ?_⟩
  rw [add_none, Nat.zero_add, cell_new]
  simp

theorem Row.below {w w' : World} {a : Option Addr} {xs : List Value} (h : Row w a xs) (hb : Below w.heap.size w w') : Row w' a xs := by
  intro i hi
  obtain ⟨x, e, hc⟩ := h i hi
  refine ⟨x, e, ?_⟩
  rw [List.getElem?_eq_getElem hi] at hc ⊢
  rw [hb.cell (cell_lt hc).1, hc]

theorem Row.take {w : World} {a : Option Addr} {xs : List Value} (h : Row w a xs) (k : Nat) : Row w a (xs.take k) := by
  intro i hi
  obtain ⟨x, e, hc⟩ := h i (by simp at hi; omega)
  exact ⟨x, e, by rw [hc, List.getElem?_take, if_pos (by simp at hi; omega)]⟩
theorem Row.drop {w : World} {b off : Nat} {xs : List Value} (h : Row w (some ⟨b, off, none⟩) xs) (k : Nat) : Row w (some ⟨b, off + k, none⟩) (xs.drop k) := by
  intro i hi
  rw [List.length_drop] at hi
  obtain ⟨x, e, hc⟩ := h (k + i) (by omega)
  injection e with e
  subst e
  refine ⟨_, rfl, ?_⟩
  rw [add_none] at hc ⊢
  rw [Nat.add_assoc, hc, List.getElem?_drop]
theorem Row.drewN {w : World} {a : Option Addr} {xs : List Value} (h : Row w a xs) (n : Nat) : Row (w.drewN n) a xs := h
theorem Row.drew {w : World} {a : Option Addr} {xs : List Value} (h : Row w a xs) : Row w.drew a xs := h

/-- A callee that leaves the world alone, met in a region that draws its order. -/
theorem Calls.quiet_of_same' {P : Program} {f : FuncId} {args : Array Value} {w : World} {n : Nat} {v : Value}
    (h : Calls P f args (w.drewN n) fun e w' => e = .returned v ∧ w.drewN n = w') : Calls P f args (w.drewN n) fun e w'' => e = .returned v ∧ ∃ m, w'' = w.drewN m :=
  h.mono fun _ _ ⟨he, hm⟩ => ⟨he, n, hm.symm⟩

theorem Row.grown {w w' : World} {a : Option Addr} {xs : List Value} {r : Option Nat} (h : Row w a xs) (hg : w.grownBy w' r) (hr : ∀ x, a = some x → some x.block ≠ r) : Row w' a xs := by
  intro i hi
  obtain ⟨x, e, hc⟩ := h i hi
  refine ⟨x, e, ?_⟩
  rw [List.getElem?_eq_getElem hi] at hc ⊢
  exact hg.cell hc (by have hb : (x.add i).block = x.block := by unfold Addr.add; split <;> rfl
                       rw [hb]; exact hr x e)

theorem Row.of_own {w : World} {base : Nat} {e : TypeId} {n : Nat} {a : Option Addr} {m c : Nat} {xs : List Value} (h : w.ownsRow base e 1 (.slice a m c) n xs) : Row w a xs ∧ m = n ∧ xs.length = n := by
  refine ⟨fun i hi => ?_, ?_, by simpa using h.1⟩
  · have hn : 0 < n := by have := h.1; omega
    obtain ⟨g, cap, hv, _, _⟩ := World.ownsRow.form h hn
    injection hv with hv
    subst hv
    exact ⟨_, rfl, by rw [List.getElem?_eq_getElem hi]; exact h.cells (g := g) rfl i _ (List.getElem?_eq_getElem hi)⟩
  · rcases h.2 with ⟨hv, h0⟩ | ⟨g, cap, cur, hv, _⟩
    · injection hv with _ hv; omega
    · injection hv with _ hv

theorem own_slice {w : World} {base : Nat} {e : TypeId} {n : Nat} {v : Value} {xs : List Value} (h : w.ownsRow base e 1 v n xs) : ∃ a c, v = .slice a n c ∧ Row w a xs ∧ n ≤ c ∧ c ≤ maxLen ∧ xs.length = n := by
  rcases h.2 with ⟨rfl, h0⟩ | ⟨g, cap, cur, rfl, _, _, h1, h2, _⟩
  · subst h0; exact ⟨none, 0, rfl, (Row.of_own h).1, Nat.le_refl _, by unfold maxLen; omega, by simpa using h.1⟩
  · exact ⟨_, cap, rfl, (Row.of_own h).1, h1, h2, by simpa using h.1⟩

/-- The call returns a slice of its own that holds the cells xs; below 'base' nothing has turned. -/
def RetOwn (base : Nat) (e : TypeId) (size n : Nat) (xs : List Value) (w : World) (r : Ending) (w' : World) : Prop :=
  ∃ v, r = .returned v ∧ w'.ownsRow base e size v n xs ∧ Below base w w'

/-- Bytes, as cells. -/
def byts (l : List Nat) : List Value := l.map fun c : Nat => Value.int .u8 (c : Int)
theorem byts_length (l : List Nat) : (byts l).length = l.length := by simp [byts]
theorem byts_append (a b : List Nat) : byts (a ++ b) = byts a ++ byts b := by simp [byts]
theorem byts_one (l : List Nat) : ∀ u ∈ byts l, u.oneCell' = true := by
  intro u hu
  simp only [byts, List.mem_map] at hu
  obtain ⟨_, _, rfl⟩ := hu
  rfl
theorem byts_get (l : List Nat) (k : Nat) (h : k < l.length) : (byts l)[k]? = some (.int .u8 (l[k] : Int)) := by simp [byts, h]

/-- What the program's tables say of a slice type and its elements. -/
def Elem (P : Program) (t e : TypeId) (size bytes : Nat) : Prop :=
  P.underlying t = some (.slice e) ∧ ∃ i z, P.info? e = some i ∧ i.zero = some z ∧ i.size = size ∧ i.bytes = bytes ∧ z.cells.size = size ∧ 0 < size

theorem elem_of {P : Program} {t e : TypeId} {size bytes : Nat} {z : Value} (ht : P.underlying t = some (.slice e)) (hi : (P.info? e).map (fun i => (i.zero, i.size, i.bytes)) = some (some z, size, bytes)) (hz : z.cells.size = size) (h0 : 0 < size) :
    Elem P t e size bytes := by
  obtain ⟨i, h1, h2, h3, h4⟩ := info_parts hi
  exact ⟨ht, i, z, h1, h2, h3, h4, hz, h0⟩

section
variable {P : Program} {w : World}

theorem run_append_none (base : Nat) {t ty e : TypeId} {size bytes : Nat} (he : Elem P t e size bytes) (v : Value) (n : Nat) (xs : List Value) (hown : w.ownsRow base e size v n xs) (c : Nat) :
    (Builtin.append_ #[t, t] ty #[v, .slice none 0 c]).run P w = .ok v w := by
  obtain ⟨ht, i, z, hi, _⟩ := he
  rcases hown.2 with ⟨rfl, rfl⟩ | ⟨g, cap, cur, rfl, _, _, hnc, _⟩
  · simp [Builtin.append_, run_underlying ht, sizeOf, typeInfo, hi, Builtin.lenOf, Builtin.firstCells]
  · simp [Builtin.append_, run_underlying ht, sizeOf, typeInfo, hi, Builtin.lenOf, Builtin.firstCells, hnc, storeCells]

/-- An append onto a row of the call's own, of whatever cells the other slice leads to (nil, empty or not). -/
theorem wp_append {o : Oper} {a : Act} {K : Act → World → Prop} {Q : Exit → Act → World → Prop} (s x : Operand) (t : TypeId)
    (ho : o.op = .call { callee := .builtin .append, args := #[s, x], argTypes := #[t, t] })
    {e : TypeId} {size bytes : Nat} (he : Elem P t e size bytes) (base : Nat)
    (v : Value) (n : Nat) (xs : List Value) (hs : a.eval s = v) (hown : w.ownsRow base e size v n xs)
    (A : Option Addr) (m c : Nat) (news : List Value) (hx : a.eval x = .slice A m c) (hl : news.length = m * size) (hr : Row w A news) (h1 : ∀ u ∈ news, u.oneCell' = true)
    (h63 : n + m ≤ maxLen) (hbytes : (n + m) * bytes ≤ 140737488355328) (hbase : base ≤ w.heap.size)
    (h : ∀ v' w', w'.ownsRow base e size v' (n + m) (xs ++ news) → w.grownBy w' v.ownBlock → (v'.ownBlock = v.ownBlock ∨ v'.ownBlock = some w.heap.size) → Below base w w' → K (a.put o.dst v') w') : o.wp P a w K Q := by
  have key : ∃ v' w', (Builtin.append_ #[t, t] o.type #[v, .slice A m c]).run P w = .ok v' w' ∧ w'.ownsRow base e size v' (n + m) (xs ++ news) ∧ w.grownBy w' v.ownBlock ∧
      (v'.ownBlock = v.ownBlock ∨ v'.ownBlock = some w.heap.size) := by
    have none_ : m = 0 → ∃ v' w', (Builtin.append_ #[t, t] o.type #[v, .slice none m c]).run P w = .ok v' w' ∧ w'.ownsRow base e size v' (n + m) (xs ++ news) ∧ w.grownBy w' v.ownBlock ∧
        (v'.ownBlock = v.ownBlock ∨ v'.ownBlock = some w.heap.size) := by
      intro hm
      subst hm
      have hn : news = [] := List.eq_nil_of_length_eq_zero (by simpa using hl)
      subst hn
      exact ⟨v, w, run_append_none base he v n xs hown c, by simpa using hown, World.grownBy.refl w _, .inl rfl⟩
    cases A with
    | none =>
      refine none_ ?_
      rcases Nat.eq_zero_or_pos m with h0 | h0
      · exact h0
      · obtain ⟨_, _, _, _, _, _, _, _, hsz⟩ := he
        obtain ⟨x, hx, _⟩ := hr 0 (by rw [hl]; exact Nat.mul_pos h0 hsz)
        cases hx
    | some ad =>
      obtain ⟨ht, i, z, hi, hz, hsize, hby, hzs, hsz⟩ := he
      obtain ⟨v', w', hrun, h2, h3, _, h5⟩ := run_append_own_at (P := P) w base t o.type e i z size bytes ht hi hz hsize hby hzs hsz v n xs hown ad m c news hl
        (fun j u hu => by
          obtain ⟨hj, rfl⟩ := List.getElem?_eq_some_iff.1 hu
          obtain ⟨x, hx, hc⟩ := hr j hj
          injection hx with hx
          subst hx
          rw [hc, List.getElem?_eq_getElem hj]) h1 h63 hbytes hbase
      exact ⟨v', w', hrun, h2, h3, h5⟩
  obtain ⟨v', w', hrun, h2, h3, h4⟩ := key
  have hb : Below base w w' := (Below.refl base w).grown h3 hbase (fun k hk => (hown.lt k hk).1)
  unfold Oper.wp execOp
  simp only [ho, resolve, invoke, builtin, Sem.run_bind, Sem.run_pure, Result.andThen_ok, List.map_toArray, List.map_cons, List.map_nil, hs, hx, hrun]
  exact h v' w' h2 h3 h4 hb

theorem step_append {ops : Array Oper} {o : Oper} {a : Act} {K : Act → World → Prop} {Q : Exit → Act → World → Prop} {E : Prop} (hgd : o.guard = none) (s x : Operand) (t : TypeId)
    (ho : o.op = .call { callee := .builtin .append, args := #[s, x], argTypes := #[t, t] })
    {e : TypeId} {size bytes : Nat} (he : Elem P t e size bytes) (base : Nat)
    (v : Value) (n : Nat) (xs : List Value) (hs : a.eval s = v) (hown : w.ownsRow base e size v n xs)
    (A : Option Addr) (m c : Nat) (news : List Value) (hx : a.eval x = .slice A m c) (hl : news.length = m * size) (hr : Row w A news) (h1 : ∀ u ∈ news, u.oneCell' = true)
    (h63 : n + m ≤ maxLen) (hbytes : (n + m) * bytes ≤ 140737488355328) (hbase : base ≤ w.heap.size)
    (h : ∀ v' w', w'.ownsRow base e size v' (n + m) (xs ++ news) → w.grownBy w' v.ownBlock → (v'.ownBlock = v.ownBlock ∨ v'.ownBlock = some w.heap.size) → Below base w w' → K (a.put o.dst v') w') :
    if Region.wanted o (yielded ops a.tmps) = true then Oper.wp P o a w K Q else E := by
  have hw : Region.wanted o (yielded ops a.tmps) = true := by simp [Region.wanted, hgd]
  rw [if_pos hw]
  exact wp_append s x t ho he base v n xs hs hown A m c news hx hl hr h1 h63 hbytes hbase h

theorem wpList_append {ops : Array Oper} {rest : List Oper} {o : Oper} {a : Act} {Q : Exit → Act → World → Prop} (hgd : o.guard = none) (s x : Operand) (t : TypeId)
    (ho : o.op = .call { callee := .builtin .append, args := #[s, x], argTypes := #[t, t] })
    {e : TypeId} {size bytes : Nat} (he : Elem P t e size bytes) (base : Nat)
    (v : Value) (n : Nat) (xs : List Value) (hs : a.eval s = v) (hown : w.ownsRow base e size v n xs)
    (A : Option Addr) (m c : Nat) (news : List Value) (hx : a.eval x = .slice A m c) (hl : news.length = m * size) (hr : Row w A news) (h1 : ∀ u ∈ news, u.oneCell' = true)
    (h63 : n + m ≤ maxLen) (hbytes : (n + m) * bytes ≤ 140737488355328) (hbase : base ≤ w.heap.size)
    (h : ∀ v' w', w'.ownsRow base e size v' (n + m) (xs ++ news) → w.grownBy w' v.ownBlock → (v'.ownBlock = v.ownBlock ∨ v'.ownBlock = some w.heap.size) → Below base w w' → wpList P ops Q rest (a.put o.dst v') w') : wpList P ops Q (o :: rest) a w :=
  wpList_plain hgd fun _ hK => wp_append s x t ho he base v n xs hs hown A m c news hx hl hr h1 h63 hbytes hbase fun v' w' h2 h3 h4 h5 => hK _ _ (h v' w' h2 h3 h4 h5)
end

/-- A row of equal cells, kept behind a name. -/
def same (n : Nat) (z : Value) : Array Value := Array.replicate n z
theorem same_get (n : Nat) (z : Value) (i : Nat) (h : i < n) : (same n z)[i]? = some z := by simp [same, h]
theorem same_size (n : Nat) (z : Value) : (same n z).size = n := by simp [same]
theorem same_list (n : Nat) (z : Value) : (same n z).toList = List.replicate n z := by simp [same]

/-- 'make' with a length that is no literal, of one-cell elements. -/
theorem run_make_of {P : Program} {t e : TypeId} {bytes : Nat} {z : Value} (ht : P.underlying t = some (.slice e)) (hi : (P.info? e).map (fun i => (i.zero, i.size, i.bytes)) = some (some z, 1, bytes)) (hz : z.cells = #[z])
    (k1 k2 : IntKind) (n : Nat) (hb : bytes * n ≤ 281474976710656) (hn : n ≤ 281474976710656) (w : World) :
    (Instr.makeSlice t (.int k1 (n : Int)) (.int k2 (n : Int))).run P w = .ok (.slice (some ⟨w.heap.size, 0, none⟩) n n) (w.alloc (.cells (same n z) e)) := by
  obtain ⟨i, h1, h2, h3, h4⟩ := info_parts hi
  have hb' : (i.bytes : Int) * (n : Int) ≤ 281474976710656 := by
    rw [h4]
    have h : ((bytes * n : Nat) : Int) ≤ 281474976710656 := by omega
    rwa [Int.natCast_mul] at h
  have hr := run_make (P := P) w t e i z ht h1 h2 k1 k2 n n (by omega) (Int.le_refl _) hb' (by omega)
  simp only [Int.toNat_natCast] at hr
  rw [hr]
  have : madeCells z.cells (n * i.size) = same n z := by
    rw [hz, h3, Nat.mul_one]
    apply Array.toList_inj.1
    rw [toList_madeCells_one, same_list]
  rw [this]

end Go.Proofs.Ytmmkncocgjgapaa

/- Words for memory that is written: what a call may have turned, a block that is known whole, maps with integers or pointers for keys. No condition. -/
namespace Go.Proofs.Ytmmkncocgjgapaa
open Go.RowKit

/-- Of what was there only the blocks in S may have turned. -/
structure Chg (S : Nat → Prop) (w w' : World) : Prop where
  os : w'.os = w.os
  tape : w'.tape = w.tape
  output : w'.output = w.output
  size : w.heap.size ≤ w'.heap.size
  block : ∀ k, k < w.heap.size → ¬ S k → w'.heap[k]? = w.heap[k]?

section
variable {S S' : Nat → Prop} {w w1 w' : World}
theorem Chg.refl (S : Nat → Prop) (w : World) : Chg S w w := ⟨rfl, rfl, rfl, Nat.le_refl _, fun _ _ _ => rfl⟩
theorem Chg.trans (h : Chg S w w1) (h' : Chg S' w1 w') (hs : ∀ k, k < w.heap.size → S' k → S k) : Chg S w w' :=
  ⟨h'.os.trans h.os, h'.tape.trans h.tape, h'.output.trans h.output, Nat.le_trans h.size h'.size,
    fun k hk hn => (h'.block k (Nat.lt_of_lt_of_le hk h.size) (fun hk' => hn (hs k hk hk'))).trans (h.block k hk hn)⟩
theorem Chg.mono (h : Chg S w w') (hs : ∀ k, k < w.heap.size → S k → S' k) : Chg S' w w' :=
  ⟨h.os, h.tape, h.output, h.size, fun k hk hn => h.block k hk (fun hk' => hn (hs k hk hk'))⟩
theorem Chg.of_below {B : Nat} (h : Below B w w') : Chg (fun k => B ≤ k) w w' := ⟨h.os, h.tape, h.output, h.size, fun k _ hn => h.block k (by omega)⟩
theorem Chg.of_below' (h : Below w.heap.size w w') : Chg S w w' := ⟨h.os, h.tape, h.output, h.size, fun k hk _ => h.block k hk⟩
theorem Chg.below (h : Chg S w w') (hs : ∀ k, k < w.heap.size → ¬ S k) : Below w.heap.size w w' := ⟨h.os, h.tape, h.output, h.size, fun k hk => h.block k hk (hs k hk)⟩
theorem Chg.below_of {B : Nat} (h : Chg S w w') (hB : B ≤ w.heap.size) (hs : ∀ k, k < B → ¬ S k) : Below B w w' := ⟨h.os, h.tape, h.output, h.size, fun k hk => h.block k (by omega) (hs k hk)⟩
theorem Chg.of_grown {row : Option Nat} (h : w.grownBy w' row) : Chg (fun k => some k = row) w w' := ⟨h.os, h.tape, h.output, h.size, fun k hk hn => h.block k hk hn⟩
theorem Chg.alloc (h : Chg S w w1) (o : Obj) : Chg S w (w1.alloc o) :=
  h.trans (S' := S) ⟨rfl, rfl, rfl, by simp, fun k hk _ => Below.heap_alloc _ _ _ hk⟩ (fun _ _ h => h)
theorem Chg.drew (h : Chg S w w1) : Chg S w w1.drew := ⟨h.os, h.tape, h.output, h.size, h.block⟩
theorem Chg.drewN (h : Chg S w w1) (n : Nat) : Chg S w (w1.drewN n) := h.trans (S' := S) ⟨rfl, rfl, rfl, Nat.le_refl _, fun _ _ _ => rfl⟩ (fun _ _ h => h)
theorem Chg.setCell (h : Chg S w w1) (p : Addr) (u : Value) (hs : p.block < w.heap.size → S p.block) : Chg S w (w1.setCell p u) :=
  h.trans (S' := fun k => k = p.block) ⟨rfl, rfl, rfl, by simp [World.setCell], fun k _ hk => Below.heap_setCell _ _ _ _ hk⟩ (fun k hk e => by subst e; exact hs hk)
theorem Chg.then_below (h : Chg S w w1) (hb : Below w1.heap.size w1 w') : Chg S w w' := h.trans (Chg.of_below' (S := S) hb) (fun _ _ h => h)
theorem Chg.cell (h : Chg S w w') {p : Addr} {v : Value} (hc : w.cell? p = some v) (hn : ¬ S p.block) : w'.cell? p = some v :=
  (World.cell?_of_block (h.block p.block (cell_lt hc).1 hn)).trans hc
end

/-- Block g is just these cells. -/
def Blk (w : World) (g : Nat) (t : TypeId) (cs : Array Value) : Prop := w.heap[g]? = some (.cells cs t (0, 0))
section
variable {w w' : World} {g : Nat} {t : TypeId} {cs : Array Value} {S : Nat → Prop}
theorem Blk.lt (h : Blk w g t cs) : g < w.heap.size := by
  rcases Nat.lt_or_ge g w.heap.size with hlt | hge
  · exact hlt
  · unfold Blk at h; rw [Array.getElem?_eq_none hge] at h; cases h
theorem Blk.cell (h : Blk w g t cs) (i : Nat) : w.cell? ⟨g, i, none⟩ = cs[i]? := cell_of_row w g i cs t (0, 0) h
theorem Blk.some_ (h : Blk w g t cs) {i : Nat} (hi : i < cs.size) : ∃ v, w.cell? ⟨g, i, none⟩ = some v := ⟨cs[i], by rw [h.cell]; simp [hi]⟩
theorem Blk.frozen (h : Blk w g t cs) (i : Nat) : w.frozen? ⟨g, i, none⟩ = false := by
  unfold Blk at h
  simp [World.frozen?, h]
theorem Blk.new (w : World) (t : TypeId) (cs : Array Value) : Blk (w.alloc (.cells cs t)) w.heap.size t cs := heap_alloc_new w _
theorem Blk.drew (h : Blk w g t cs) : Blk w.drew g t cs := h
theorem Blk.drewN (h : Blk w g t cs) (n : Nat) : Blk (w.drewN n) g t cs := h
theorem Blk.alloc (h : Blk w g t cs) (o : Obj) : Blk (w.alloc o) g t cs := (Below.heap_alloc w o g h.lt).trans h
theorem Blk.set_ (h : Blk w g t cs) (i : Nat) (u : Value) : Blk (w.setCell ⟨g, i, none⟩ u) g t (cs.setIfInBounds i u) := by
  unfold Blk at h ⊢
  simp [World.setCell, Array.getElem?_modify, h]
theorem Blk.far (h : Blk w g t cs) {p : Addr} (hp : g ≠ p.block) (u : Value) : Blk (w.setCell p u) g t cs := (Below.heap_setCell w p u g hp).trans h
theorem Blk.below {B : Nat} (h : Blk w g t cs) (hb : Below B w w') (hg : g < B) : Blk w' g t cs := (hb.block g hg).trans h
theorem Blk.chg (h : Blk w g t cs) (hc : Chg S w w') (hg : ¬ S g) : Blk w' g t cs := (hc.block g h.lt hg).trans h
theorem Blk.inj {t' : TypeId} {cs' : Array Value} (h : Blk w g t cs) (h' : Blk w g t' cs') : t = t' ∧ cs = cs' := by
  unfold Blk at h h'
  rw [h] at h'
  injection h' with h'
  injection h' with h1 h2
  exact ⟨h2, h1⟩
theorem Blk.ne_ {g' : Nat} {t' : TypeId} {cs' : Array Value} (h : Blk w g t cs) (h' : Blk w g' t' cs') (hne : t ≠ t') : g ≠ g' := by
  rintro rfl
  exact hne (h.inj h').1
end

theorem Row.chg {S : Nat → Prop} {w w' : World} {a : Option Addr} {xs : List Value} (h : Row w a xs) (hc : Chg S w w') (hn : ∀ x, a = some x → ¬ S x.block) : Row w' a xs := by
  intro i hi
  obtain ⟨x, e, hx⟩ := h i hi
  refine ⟨x, e, ?_⟩
  rw [List.getElem?_eq_getElem hi] at hx ⊢
  exact hc.cell hx (by have hb : (x.add i).block = x.block := by unfold Addr.add; split <;> rfl
                       rw [hb]; exact hn x e)
theorem Row.of_blk {w : World} {g : Nat} {t : TypeId} {cs : Array Value} (h : Blk w g t cs) : Row w (some ⟨g, 0, none⟩) cs.toList := by
  intro i _
  refine ⟨_, rfl, ?_⟩
  rw [add_none, Nat.zero_add, h.cell]
  simp

section
variable {w w' : World} {base : Nat} {e : TypeId} {size n : Nat} {v : Value} {xs : List Value} {S : Nat → Prop}
theorem own_ne_blk (h : w.ownsRow base e size v n xs) {g : Nat} {t : TypeId} {cs : Array Value} (hg : Blk w g t cs) (hne : e ≠ t) : v.ownBlock ≠ some g := by
  rcases h.2 with ⟨rfl, _⟩ | ⟨g', cap, cur, rfl, _, hh, _⟩
  · simp [Value.ownBlock]
  · intro he
    have : g' = g := by simpa [Value.ownBlock] using he
    subst this
    exact Blk.ne_ (t := e) hh hg hne rfl
theorem own_ne_map (h : w.ownsRow base e size v n xs) {g : Nat} {es : Array MapEntry} {clock : Nat} (hg : w.heap[g]? = some (.map es clock)) : v.ownBlock ≠ some g := by
  rcases h.2 with ⟨rfl, _⟩ | ⟨g', cap, cur, rfl, _, hh, _⟩
  · simp [Value.ownBlock]
  · intro he
    have : g' = g := by simpa [Value.ownBlock] using he
    subst this
    rw [hg] at hh
    cases hh
theorem own_chg (h : w.ownsRow base e size v n xs) (hc : Chg S w w') (hS : ∀ g, v.ownBlock = some g → ¬ S g) : w'.ownsRow base e size v n xs := by
  refine ⟨h.1, ?_⟩
  rcases h.2 with h2 | ⟨g, cap, cur, rfl, hg, hh, r⟩
  · exact .inl h2
  · refine .inr ⟨g, cap, cur, rfl, hg, ?_, r⟩
    have hl : g < w.heap.size := Blk.lt (t := e) (cs := cur) hh
    rw [hc.block g hl (hS g rfl)]
    exact hh
end

/-! ### Maps: a list of keys and values, in the order in which they came. -/

/-- Block r is a map that holds just these, no key twice. -/
def IsMap {κ : Type} (mk : κ → Value) (w : World) (r : Nat) (kv : List (κ × Value)) : Prop :=
  ∃ es clock, w.heap[r]? = some (.map es clock) ∧ es.toList.map (fun e => (e.key, e.val)) = kv.map (fun p => (mk p.1, p.2))

section
variable {κ : Type} {mk : κ → Value} {w w' : World} {r : Nat} {kv : List (κ × Value)} {S : Nat → Prop}
theorem IsMap.lt (h : IsMap mk w r kv) : r < w.heap.size := by
  obtain ⟨es, clock, h, _⟩ := h
  rcases Nat.lt_or_ge r w.heap.size with hlt | hge
  · exact hlt
  · rw [Array.getElem?_eq_none hge] at h; cases h
theorem IsMap.chg (h : IsMap mk w r kv) (hc : Chg S w w') (hg : ¬ S r) : IsMap mk w' r kv := by
  have hl := h.lt
  obtain ⟨es, clock, h, he⟩ := h
  exact ⟨es, clock, (hc.block r hl hg).trans h, he⟩
theorem IsMap.new (mk : κ → Value) (w : World) : IsMap mk (w.alloc (.map #[] 0)) w.heap.size [] := ⟨#[], 0, heap_alloc_new w _, rfl⟩
theorem IsMap.alloc (h : IsMap mk w r kv) (o : Obj) : IsMap mk (w.alloc o) r kv := h.chg (S := fun _ => False) ((Chg.refl _ w).alloc o) (fun h => h)
theorem IsMap.drewN (h : IsMap mk w r kv) (n : Nat) : IsMap mk (w.drewN n) r kv := h
theorem IsMap.drew (h : IsMap mk w r kv) : IsMap mk w.drew r kv := h
theorem IsMap.ne_own (h : IsMap mk w r kv) {base : Nat} {e : TypeId} {size n : Nat} {v : Value} {xs : List Value} (ho : w.ownsRow base e size v n xs) : v.ownBlock ≠ some r := by
  obtain ⟨es, clock, h, _⟩ := h
  exact own_ne_map ho h
theorem IsMap.ne_blk (h : IsMap mk w r kv) {g : Nat} {t : TypeId} {cs : Array Value} (hb : Blk w g t cs) : g ≠ r := by
  rintro rfl
  obtain ⟨es, clock, h, _⟩ := h
  unfold Blk at hb
  rw [h] at hb
  cases hb

variable [DecidableEq κ]
/-- Where a key stands. -/
def locate (k : κ) : List (κ × Value) → Nat → Option (Nat × Value)
  | [], _ => none
  | p :: l, i => if p.1 = k then some (i, p.2) else locate k l (i + 1)
def look (kv : List (κ × Value)) (k : κ) : Option Value := (kv.find? (fun p => p.1 = k)).map (·.2)
def put_ (kv : List (κ × Value)) (k : κ) (v : Value) : List (κ × Value) :=
  match locate k kv 0 with
  | some (i, _) => kv.set i (k, v)
  | none => kv ++ [(k, v)]
def drop_ (kv : List (κ × Value)) (k : κ) : List (κ × Value) :=
  match locate k kv 0 with
  | some (i, _) => kv.eraseIdx i
  | none => kv

theorem locate_some {k : κ} : ∀ {l : List (κ × Value)} {i j : Nat} {v : Value}, locate k l i = some (j, v) → i ≤ j ∧ l[j - i]? = some (k, v) := by
  intro l
  induction l with
  | nil => intro i j v h; cases h
  | cons p l ih =>
    intro i j v h
    unfold locate at h
    split at h
    · rename_i hk
      injection h with h
      injection h with h1 h2
      subst h1; subst h2; subst hk
      simp
    · obtain ⟨h1, h2⟩ := ih h
      refine ⟨by omega, ?_⟩
      rw [show j - i = (j - (i + 1)) + 1 from by omega, List.getElem?_cons_succ]
      exact h2
theorem locate_map {k : κ} (l : List (κ × Value)) (i : Nat) : (locate k l i).map (·.2) = look l k := by
  induction l generalizing i with
  | nil => rfl
  | cons p l ih =>
    unfold locate look
    by_cases h : p.1 = k
    · simp [h]
    · simp only [if_neg h, List.find?_cons, h, decide_false]
      exact ih (i + 1)
end

/-- The program finds a key as 'locate' does. -/
def Finds (P : Program) (kt : TypeId) {κ : Type} [DecidableEq κ] (mk : κ → Value) (w : World) (k : κ) (kv : List (κ × Value)) : Prop :=
  ∀ es : List MapEntry, es.map (fun e => (e.key, e.val)) = kv.map (fun p => (mk p.1, p.2)) →
    (Instr.findKey kt (mk k) es).run P w = .ok (locate k kv 0) w

section
variable {P : Program} {w : World}

theorem finds_int {kt : TypeId} {q : IntKind} (hk : P.underlying kt = some (.int q)) (k : Int) (kv : List (Int × Value)) : Finds P kt (Value.int q) w k kv := by
  intro es hes
  have h : ∀ (es : List MapEntry) (kv : List (Int × Value)) (i : Nat), es.map (fun e => (e.key, e.val)) = kv.map (fun p => (Value.int q p.1, p.2)) →
      Instr.findNow (.int q) (.int q k) es i = some (locate k kv i) := by
    intro es
    induction es with
    | nil => intro kv i h; cases kv with
      | nil => rfl
      | cons p kv => simp at h
    | cons e es ih =>
      intro kv i h
      cases kv with
      | nil => simp at h
      | cons p kv =>
        simp only [List.map_cons, List.cons.injEq, Prod.mk.injEq] at h
        obtain ⟨⟨h1, h2⟩, h3⟩ := h
        unfold Instr.findNow locate
        rw [h1, h2]
        by_cases hpk : p.1 = k
        · simp [Instr.sameNow, hpk]
        · have hne : (k == p.1) = false := by rw [beq_eq_false_iff_ne]; exact fun h => hpk h.symm
          simp [Instr.sameNow, hne, hpk, ih kv (i + 1) h3]
  simp [Instr.findKey, run_underlying hk, h es kv 0 hes]

def ptrKey (b : Nat) : Value := .pointer (some ⟨b, 0, none⟩)

theorem finds_ptr {kt te : TypeId} {j : TypeInfo} (hk : P.underlying kt = some (.pointer te)) (hte : P.info? te = some j) (hsz : j.size ≠ 0) (k : Nat) (kv : List (Nat × Value))
    (hb : ∃ t cs, Blk w k t cs) (hall : ∀ p ∈ kv, ∃ t cs, Blk w p.1 t cs) : Finds P kt ptrKey w k kv := by
  intro es hes
  obtain ⟨t0, cs0, hb0⟩ := hb
  have h : ∀ (es : List MapEntry) (kv : List (Nat × Value)) (i : Nat), (∀ p ∈ kv, ∃ t cs, Blk w p.1 t cs) → es.map (fun e => (e.key, e.val)) = kv.map (fun p => (ptrKey p.1, p.2)) →
      (Instr.findAsking kt (ptrKey k) es i).run P w = .ok (locate k kv i) w := by
    intro es
    induction es with
    | nil => intro kv i _ h; cases kv with
      | nil => rfl
      | cons p kv => simp at h
    | cons e es ih =>
      intro kv i hall h
      cases kv with
      | nil => simp at h
      | cons p kv =>
        simp only [List.map_cons, List.cons.injEq, Prod.mk.injEq] at h
        obtain ⟨⟨h1, h2⟩, h3⟩ := h
        have ih' := ih kv (i + 1) (fun q hq => hall q (by simp [hq])) h3
        obtain ⟨t1, cs1, hb1⟩ := hall p (by simp)
        unfold Instr.findAsking locate
        by_cases hpk : p.1 = k
        · have he : (Op.equal kt (ptrKey k) e.key).run P w = .ok true w := by
            rw [h1, hpk]
            have hd : ∀ d : Nat, (Op.equalIn (d + 1) kt (ptrKey k) (ptrKey k)).run P w = .ok true w := fun d => by
              simp [Op.equalIn, ptrKey, run_underlying hk, sizeOf, typeInfo, hte, run_sameAddr_same]
            exact hd 9999
          simp [he, hpk, h2]
        · have he : (Op.equal kt (ptrKey k) e.key).run P w = .ok false w := by
            rw [h1]
            have hne : (⟨k, 0, none⟩ : Addr) ≠ ⟨p.1, 0, none⟩ := by intro h; injection h with h; exact hpk h.symm
            have hd : ∀ d : Nat, (Op.equalIn (d + 1) kt (ptrKey k) (ptrKey p.1)).run P w = .ok false w := fun d => by
              simp [Op.equalIn, ptrKey, run_underlying hk, sizeOf, typeInfo, hte, hsz, run_sameAddr_other w hne hb0 hb1]
            exact hd 9999
          simp [he, hpk, ih']
  unfold Instr.findKey
  have hn : Instr.findNow (.pointer te) (ptrKey k) es 0 = none ∨ es = [] := by
    cases es with
    | nil => exact .inr rfl
    | cons e es => left; simp [Instr.findNow, Instr.sameNow]
  rcases hn with hn | rfl
  · simp [run_underlying hk, hn, h es kv 0 hall hes]
  · have : kv = [] := by cases kv with
      | nil => rfl
      | cons p kv => simp at hes
    subst this
    simp [run_underlying hk, Instr.findNow, locate]

variable {κ : Type} [DecidableEq κ] {mk : κ → Value}

/-- A key whose type is no struct, array or interface. -/
def PlainKey (P : Program) (kt : TypeId) (mk : κ → Value) : Prop := (∀ e n k w, (Instr.checkKey e (n + 1) kt (mk k)).run P w = .ok () w) ∧ ∀ k, Instr.sameBits 10000 (mk k) (mk k) = true

theorem plain_int {kt : TypeId} {q : IntKind} (hk : P.underlying kt = some (.int q)) : PlainKey P kt (Value.int q) :=
  ⟨fun e n k w => by unfold Instr.checkKey; simp [run_underlying hk], fun k => by simp [Instr.sameBits]⟩
theorem plain_ptr {kt te : TypeId} (hk : P.underlying kt = some (.pointer te)) : PlainKey P kt ptrKey :=
  ⟨fun e n k w => by unfold Instr.checkKey; simp [run_underlying hk, ptrKey], fun k => by simp [Instr.sameBits, ptrKey]⟩

theorem run_look {t kt et : TypeId} {r : Nat} {kv : List (κ × Value)} {z : Value} (ht : P.underlying t = some (.map kt et)) (hp : PlainKey P kt mk) (hm : IsMap mk w r kv) (k : κ) (hf : Finds P kt mk w k kv)
    (hz : (zeroValue et).run P w = .ok z w) (c : Bool) :
    (Instr.lookup t (.map (some r)) (mk k) c).run P w = .ok (if c then .tuple #[(look kv k).getD z, .bool (look kv k).isSome] else (look kv k).getD z) w := by
  obtain ⟨es, clock, hb, he⟩ := hm
  have h1 := hf es.toList he
  have h2 := locate_map (k := k) kv 0
  cases hl : locate k kv 0 with
  | none =>
    rw [hl] at h1 h2
    rw [← h2]
    simp [Instr.lookup, run_underlying ht, MapKept.run_getObj_map hb, hp.1, h1, hz, Result.andThen]
  | some x =>
    rw [hl] at h1 h2
    rw [← h2]
    obtain ⟨i, v⟩ := x
    simp [Instr.lookup, run_underlying ht, MapKept.run_getObj_map hb, hp.1, h1, Result.andThen]

theorem eraseIdx_map {α β : Type} (f : α → β) : ∀ (l : List α) (j : Nat), (l.eraseIdx j).map f = (l.map f).eraseIdx j
  | [], _ => by simp
  | _ :: _, 0 => by simp
  | x :: l, j + 1 => by simp [eraseIdx_map f l j]

theorem chg_setObj (w : World) (r : Nat) (o : Obj) : Chg (fun k => k = r) w { w with heap := w.heap.setIfInBounds r o } :=
  ⟨rfl, rfl, rfl, by simp, fun k _ hn => by
    show (w.heap.setIfInBounds r o)[k]? = _
    rw [Array.getElem?_setIfInBounds, if_neg (fun h => hn h.symm)]⟩

theorem run_put {t kt et : TypeId} {r : Nat} {kv : List (κ × Value)} (ht : P.underlying t = some (.map kt et)) (hp : PlainKey P kt mk) (hm : IsMap mk w r kv) (k : κ) (hf : Finds P kt mk w k kv) (v : Value) :
    ∃ w', (Instr.mapUpdate t (.map (some r)) (mk k) v).run P w = .ok () w' ∧ IsMap mk w' r (put_ kv k v) ∧ Chg (fun k => k = r) w w' := by
  have hlt := hm.lt
  obtain ⟨es, clock, hb, he⟩ := hm
  have h1 := hf es.toList he
  cases hl : locate k kv 0 with
  | none =>
    rw [hl] at h1
    refine ⟨{ w with heap := w.heap.setIfInBounds r (.map (es.push { key := mk k, val := v, born := clock }) (clock + 1)) }, ?_, ⟨_, _, by simp [hlt]; exact ⟨rfl, rfl⟩, ?_⟩, chg_setObj w r _⟩
    · simp [Instr.mapUpdate, run_underlying ht, MapKept.run_getObj_map hb, hp.1, h1, MapKept.run_setObj_map _ hb, Result.andThen]
    · unfold put_
      rw [hl]
      simp [he]
  | some x =>
    obtain ⟨i, v0⟩ := x
    rw [hl] at h1
    obtain ⟨_, hi⟩ := locate_some hl
    rw [Nat.sub_zero] at hi
    have hei : (es[i]?).map (·.key) = some (mk k) := by
      have h2 := congrArg (fun l => l[i]?) he
      simp only [List.getElem?_map, hi] at h2
      rw [Array.getElem?_toList] at h2
      cases hx : es[i]? with
      | none => rw [hx] at h2; cases h2
      | some x => rw [hx] at h2; simp at h2; simp [h2.1]
    have hstay : (Instr.keyThatStays (((es[i]?).map (·.key)).getD (mk k)) (mk k)).run P w = .ok (mk k) w := by
      rw [hei]
      simp [Instr.keyThatStays, hp.2]
    refine ⟨{ w with heap := w.heap.setIfInBounds r (.map (es.modify i fun e => { e with key := mk k, val := v }) clock) }, ?_, ⟨_, _, by simp [hlt]; exact ⟨rfl, rfl⟩, ?_⟩, chg_setObj w r _⟩
    · simp only [Instr.mapUpdate, Sem.run_bind, run_underlying ht, MapKept.run_getObj_map hb, hp.1, h1, hstay, Result.andThen, MapKept.run_setObj_map _ hb]
    · unfold put_
      rw [hl]
      apply List.ext_getElem?
      intro j
      have hj := congrArg (fun l => l[j]?) he
      simp only [List.getElem?_map, Array.getElem?_toList] at hj
      simp only [List.getElem?_map, Array.getElem?_toList, List.getElem?_set, Array.getElem?_modify]
      by_cases hji : i = j
      · subst hji
        have hlen : i < kv.length := (List.getElem?_eq_some_iff.1 hi).1
        cases hx : es[i]? with
        | none => rw [hx, hi] at hj; simp at hj
        | some x => simp [hlen]
      · simp [hji, hj]

theorem run_drop {t kt et ty : TypeId} {r : Nat} {kv : List (κ × Value)} (ht : P.underlying t = some (.map kt et)) (hp : PlainKey P kt mk) (hm : IsMap mk w r kv) (k : κ) (hf : Finds P kt mk w k kv) {t2 : TypeId} :
    ∃ w', (Builtin.delete_ #[t, t2] ty #[.map (some r), mk k]).run P w = .ok (.tuple #[]) w' ∧ IsMap mk w' r (drop_ kv k) ∧ Chg (fun k => k = r) w w' := by
  have hlt := hm.lt
  obtain ⟨es, clock, hb, he⟩ := hm
  have h1 := hf es.toList he
  cases hl : locate k kv 0 with
  | none =>
    rw [hl] at h1
    refine ⟨{ w with heap := w.heap.setIfInBounds r (.map es clock) }, ?_, ⟨_, _, by simp [hlt]; exact ⟨rfl, rfl⟩, ?_⟩, chg_setObj w r _⟩
    · simp [Builtin.delete_, run_underlying ht, MapKept.run_getObj_map hb, hp.1, h1, MapKept.run_setObj_map _ hb, Result.andThen]
    · unfold drop_
      rw [hl]
      exact he
  | some x =>
    obtain ⟨i, v0⟩ := x
    rw [hl] at h1
    refine ⟨{ w with heap := w.heap.setIfInBounds r (.map (es.eraseIdxIfInBounds i) clock) }, ?_, ⟨_, _, by simp [hlt]; exact ⟨rfl, rfl⟩, ?_⟩, chg_setObj w r _⟩
    · simp [Builtin.delete_, run_underlying ht, MapKept.run_getObj_map hb, hp.1, h1, MapKept.run_setObj_map _ hb, Result.andThen]
    · unfold drop_
      rw [hl]
      obtain ⟨_, hi⟩ := locate_some hl
      have hlen : i < es.size := by
        have h2 := congrArg List.length he
        simp at h2
        have := (List.getElem?_eq_some_iff.1 hi).1
        omega
      rw [Array.eraseIdxIfInBounds, dif_pos hlen, Array.toList_eraseIdx, eraseIdx_map, he, eraseIdx_map]

variable {ops : Array Oper} {rest : List Oper} {o : Oper} {a : Act} {Q : Exit → Act → World → Prop}

theorem wpList_put (hg : o.guard = none) (m x v : Operand) (t : TypeId) (hop : o.op = Op.mapUpdate t m x v) {kt et : TypeId} (ht : P.underlying t = some (.map kt et)) (hp : PlainKey P kt mk) (r : Nat) (kv : List (κ × Value))
    (hm : a.eval m = .map (some r)) (hmap : IsMap mk w r kv) (k : κ) (hx : a.eval x = mk k) (val : Value) (hv : a.eval v = val) (hf : Finds P kt mk w k kv)
    (hK : ∀ w', IsMap mk w' r (put_ kv k val) → Chg (fun k => k = r) w w' → wpList P ops Q rest (a.put o.dst undef) w') : wpList P ops Q (o :: rest) a w := by
  refine wpList_plain hg fun K' hK' => ?_
  obtain ⟨w', hrun, r1, r2⟩ := run_put ht hp hmap k hf val
  unfold Oper.wp
  simp [execOp, hop, hm, hx, hv, hrun, Result.andThen]
  exact hK' _ _ (hK w' r1 r2)

theorem wpList_look (hg : o.guard = none) (m x : Operand) (t : TypeId) (c : Bool) (hop : o.op = Op.lookup t m x c) {kt et : TypeId} (ht : P.underlying t = some (.map kt et)) (hp : PlainKey P kt mk) (r : Nat) (kv : List (κ × Value))
    (hm : a.eval m = .map (some r)) (hmap : IsMap mk w r kv) (k : κ) (hx : a.eval x = mk k) (hf : Finds P kt mk w k kv) {z : Value} (hz : (zeroValue et).run P w = .ok z w)
    (hK : wpList P ops Q rest (a.put o.dst (if c then .tuple #[(look kv k).getD z, .bool (look kv k).isSome] else (look kv k).getD z)) w) : wpList P ops Q (o :: rest) a w := by
  refine wpList_plain hg fun K' hK' => ?_
  have hrun := run_look ht hp hmap k hf hz c
  unfold Oper.wp
  simp [execOp, hop, hm, hx, hrun, Result.andThen]
  exact hK' _ _ hK

theorem wpList_drop (hg : o.guard = none) (m x : Operand) (t t2 : TypeId) (hop : o.op = .call { callee := .builtin .delete, args := #[m, x], argTypes := #[t, t2] }) {kt et : TypeId} (ht : P.underlying t = some (.map kt et)) (hp : PlainKey P kt mk) (r : Nat) (kv : List (κ × Value))
    (hm : a.eval m = .map (some r)) (hmap : IsMap mk w r kv) (k : κ) (hx : a.eval x = mk k) (hf : Finds P kt mk w k kv)
    (hK : ∀ w', IsMap mk w' r (drop_ kv k) → Chg (fun k => k = r) w w' → wpList P ops Q rest (a.put o.dst (.tuple #[])) w') : wpList P ops Q (o :: rest) a w := by
  refine wpList_plain hg fun K' hK' => ?_
  obtain ⟨w', hrun, r1, r2⟩ := run_drop (ty := o.type) (t2 := t2) ht hp hmap k hf
  unfold Oper.wp execOp
  simp only [hop, resolve, invoke, builtin, Sem.run_bind, Sem.run_pure, Result.andThen_ok, List.map_toArray, List.map_cons, List.map_nil, hm, hx, hrun]
  exact hK' _ _ (hK w' r1 r2)
end

end Go.Proofs.Ytmmkncocgjgapaa

/- A device: what its fields hold, and the walks of its small methods. -/
namespace Go.Proofs.Ytmmkncocgjgapaa.Dev
open Go.RowKit

theorem el_u64 : Elem Try.prog 39 23 1 8 := elem_of (z := .int .u64 0) Try.underlying39 (by kernel_rfl) rfl (by decide)

@[go_sem] theorem nil_u64 (w : World) (a : Option Addr) (n c : Nat) : (binOp .eql 39 (.slice a n c) (.slice none 0 0)).run Try.prog w = .ok (.bool a.isNone) w :=
  Lib.run_eql_slice_nil (P := Try.prog) w 39 23 a n c 0 0 Try.underlying39

set_option maxRecDepth 100000 in
set_option maxHeartbeats 400000 in
theorem clone_u64 (a : Option Addr) (n c : Nat) (xs : List Value) (w : World) (hr : Row w a xs) (hn : xs.length = n) (h1 : ∀ u ∈ xs, u.oneCell' = true) (hm : n ≤ 1099511627776) (h0 : a = none → n = 0 ∧ c = 0) :
    Calls Try.prog 44 #[.slice a n c] w (RetOwn w.heap.size 23 1 n xs w) := by
  cases a with
  | none =>
    obtain ⟨rfl, rfl⟩ := h0 rfl
    obtain rfl := List.eq_nil_of_length_eq_zero hn
    go_enter Try.func44, Try.ntmps44
    go_wp2_with fail
    go_ret
    exact ⟨_, rfl, World.ownsRow_nil _ _ _ _, Below.refl _ _⟩
  | some ad =>
    go_enter Try.func44, Try.ntmps44
    go_wp2_with (at_builtin; go_must (refine wpList_append rfl (.tmp 5) (.tmp 6) _ rfl el_u64 w.heap.size _ 0 [] rfl (World.ownsRow_made w #[] 0 (Nat.le_refl _) (by decide) rfl) (some ad) n c xs rfl (by omega) (hr.below ((Below.refl _ _).alloc (Nat.le_refl _) _)) h1 (by unfold maxLen; omega) (by omega) (by simp) ?_))
    intro v w1 hown _ _ hb
    go_wp2_with fail
    go_ret
    exact ⟨_, rfl, hown, ((Below.refl _ _).alloc (Nat.le_refl _) _).trans hb⟩

/-- What a device holds: sizes, the blocks that last and that stand now, what was written since the last Sync, fuse, fault. -/
structure Dv where
  size : Nat
  blocks : Nat
  lasts : Int → Option (List Value)
  now : Int → Option (List Value)
  pend : List (Int × List Value)
  fuse : Int
  fault : Int
  down : Bool
  acts : Nat

def Dv.blow (D : Dv) : Dv := { D with down := true }
def Dv.burn (D : Dv) : Dv := { D with fuse := if 0 < D.fuse then D.fuse - 1 else D.fuse }
def Dv.fail (D : Dv) : Dv := { D with fault := -1 }
def Dv.done (D : Dv) : Dv := { D with fault := if 0 < D.fault then D.fault - 1 else D.fault, acts := D.acts + 1 }
/-- An act's share of fuse and fault: the error, and the device behind it. -/
def Dv.act (D : Dv) : Int × Dv :=
  if D.fuse = 0 then (8, D.blow) else if D.fault = 0 then (6, D.burn.fail) else (0, D.burn.done)

def dcells (D : Dv) (rl rn : Nat) (pv : Value) : Array Value :=
  #[.int .i64 (D.size : Int), .int .i64 (D.blocks : Int), .map (some rl), .map (some rn), pv, .int .i64 D.fuse, .int .i64 D.fault, .bool D.down, .int .i64 (D.acts : Int)]

/-- The device's own block. -/
abbrev Box (w : World) (a : Nat) (D : Dv) (rl rn : Nat) (pv : Value) : Prop := Blk w a 101 (dcells D rl rn pv)

def NumOk (x : Int) : Prop := -1 ≤ x ∧ x ≤ 9223372036854775807
/-- All blocks have as many words. -/
structure Fit (D : Dv) : Prop where
  size : 8 ≤ D.size ∧ D.size ≤ 256
  blocks : D.blocks ≤ 1000000
  now : ∀ k ws, D.now k = some ws → ws.length = D.size
  lasts : ∀ k ws, D.lasts k = some ws → ws.length = D.size
  pend : ∀ p ∈ D.pend, p.2.length = D.size
  len : D.pend.length ≤ D.acts
/-- Fuse, fault and the number of acts lie where they can be counted. -/
structure Nums (D : Dv) : Prop where
  fuse : NumOk D.fuse
  fault : NumOk D.fault
  acts : D.acts < 4611686018427387904
  fit : Fit D

theorem Dv.act_nums {D : Dv} (h : Nums D) (h2 : D.acts + 1 < 4611686018427387904) : Nums D.act.2 := by
  obtain ⟨h3, h4, h5, h6⟩ := h
  unfold NumOk at *
  unfold Dv.act
  split
  · exact ⟨h3, h4, h5, ⟨h6.1, h6.2, h6.3, h6.4, h6.5, h6.6⟩⟩
  · split
    · refine ⟨?_, by unfold NumOk Dv.fail Dv.burn; simp, h5, ⟨h6.1, h6.2, h6.3, h6.4, h6.5, h6.6⟩⟩
      unfold NumOk Dv.fail Dv.burn
      simp only
      split <;> omega
    · refine ⟨?_, ?_, h2, ⟨h6.1, h6.2, h6.3, h6.4, h6.5, Nat.le_succ_of_le h6.6⟩⟩
      · unfold NumOk Dv.done Dv.burn
        simp only
        split <;> omega
      · unfold NumOk Dv.done Dv.burn
        simp only
        split <;> omega

section
variable {w : World} {a : Nat} {D : Dv} {rl rn : Nat} {pv : Value}

set_option maxRecDepth 100000 in
theorem down_any (h : Box w a D rl rn pv) :
    Calls Try.prog 42 #[.pointer (some ⟨a, 0, none⟩)] w fun e w' => e = .returned (.bool D.down) ∧ w = w' := by
  have c7 : w.cell? ⟨a, 7, none⟩ = some (.bool D.down) := h.cell 7
  go_enter Try.func42, Try.ntmps42
  go_wp2_with fail
  go_ret
  exact ⟨rfl, rfl⟩

set_option maxRecDepth 100000 in
theorem down_nil (w : World) :
    Calls Try.prog 42 #[.pointer none] w fun e w' => e = .returned (.bool true) ∧ w = w' := by
  go_enter Try.func42, Try.ntmps42
  go_wp2_with fail
  go_ret
  exact ⟨rfl, rfl⟩

def Acted (w : World) (a : Nat) (D : Dv) (rl rn : Nat) (pv : Value) (e : Ending) (w' : World) : Prop :=
  e = .returned (.int .i64 D.act.1) ∧ Box w' a D.act.2 rl rn pv ∧ Chg (fun k => k = a) w w'

theorem acted_close {w w' : World} {a : Nat} {D D' : Dv} {rl rn : Nat} {pv : Value} {n : Int} {cs : Array Value} (hb : Blk w' a 101 cs) (hc : Chg (fun k => k = a) w w') (h : D.act = (n, D')) (he : cs = dcells D' rl rn pv) :
    Acted w a D rl rn pv (.returned (.int .i64 n)) w' := by
  refine ⟨by rw [h], ?_, hc⟩
  rw [h]
  subst he
  exact hb

set_option maxRecDepth 100000 in
set_option maxHeartbeats 1000000 in
theorem act_any (h : Box w a D rl rn pv) (hn : Nums D) :
    Calls Try.prog 43 #[.pointer (some ⟨a, 0, none⟩)] w (Acted w a D rl rn pv) := by
  obtain ⟨⟨f1, f2⟩, ⟨g1, g2⟩, hacts, -⟩ := hn
  have c5 : w.cell? ⟨a, 5, none⟩ = some (.int .i64 D.fuse) := h.cell 5
  have c6 : w.cell? ⟨a, 6, none⟩ = some (.int .i64 D.fault) := h.cell 6
  have c7 : w.cell? ⟨a, 7, none⟩ = some (.bool D.down) := h.cell 7
  have c8 : w.cell? ⟨a, 8, none⟩ = some (.int .i64 (D.acts : Int)) := h.cell 8
  have z5 := h.frozen 5
  have z6 := h.frozen 6
  have z7 := h.frozen 7
  have z8 := h.frozen 8
  have ha1 : (D.acts : Int) < 4611686018427387904 := by omega
  have hg : ∀ i v, Chg (fun k => k = a) w (w.setCell ⟨a, i, none⟩ v) := fun i v => (Chg.refl _ w).setCell _ _ (fun _ => rfl)
  have HG := Lib.hid hg
  clear hacts hg
  by_cases hf : D.fuse = 0
  · have e0 : (D.fuse == 0) = true := by simp [hf]
    have hact : D.act = (8, D.blow) := by unfold Dv.act; rw [if_pos hf]
    have HACT := Lib.hid hact
    clear hact hf
    go_enter Try.func43, Try.ntmps43
    go_wp2_with fail
    go_ret
    exact acted_close (h.set_ 7 (.bool true)) (HG.out _ _) HACT.out rfl
  · have e0 : (D.fuse == 0) = false := by simp [hf]
    have hb : D.burn = if 0 < D.fuse then { D with fuse := D.fuse - 1 } else D := by unfold Dv.burn; split <;> rfl
    by_cases hq : D.fault = 0
    · have e1 : (D.fault == 0) = true := by simp [hq]
      have hact : D.act = (6, D.burn.fail) := by unfold Dv.act; rw [if_neg hf, if_pos hq]
      by_cases hp : 0 < D.fuse
      · rw [hb, if_pos hp] at hact
        have HACT := Lib.hid hact
        clear hact hf hq hb
        go_enter Try.func43, Try.ntmps43
        go_wp2_with fail
        go_ret
        exact acted_close ((h.set_ 5 _).set_ 6 _) ((HG.out 5 _).setCell _ _ (fun _ => rfl)) HACT.out rfl
      · rw [hb, if_neg hp] at hact
        have HACT := Lib.hid hact
        clear hact hf hq hb
        go_enter Try.func43, Try.ntmps43
        go_wp2_with fail
        go_ret
        exact acted_close (h.set_ 6 _) (HG.out _ _) HACT.out rfl
    · have e1 : (D.fault == 0) = false := by simp [hq]
      have hact : D.act = (0, D.burn.done) := by unfold Dv.act; rw [if_neg hf, if_neg hq]
      have hd : ∀ E : Dv, E.done = if 0 < E.fault then { E with fault := E.fault - 1, acts := E.acts + 1 } else { E with acts := E.acts + 1 } := fun E => by unfold Dv.done; split <;> rfl
      by_cases hp : 0 < D.fuse
      · rw [hb, if_pos hp, hd] at hact
        by_cases hr : 0 < D.fault
        · rw [if_pos hr] at hact
          have HACT := Lib.hid hact
          clear hact hf hq hb hd
          go_enter Try.func43, Try.ntmps43
          go_wp2_with fail
          go_ret
          exact acted_close (((h.set_ 5 _).set_ 6 _).set_ 8 _) (((HG.out 5 _).setCell _ _ (fun _ => rfl)).setCell _ _ (fun _ => rfl)) HACT.out rfl
        · rw [if_neg hr] at hact
          have HACT := Lib.hid hact
          clear hact hf hq hb hd
          go_enter Try.func43, Try.ntmps43
          go_wp2_with fail
          go_ret
          exact acted_close ((h.set_ 5 _).set_ 8 _) ((HG.out 5 _).setCell _ _ (fun _ => rfl)) HACT.out rfl
      · rw [hb, if_neg hp, hd] at hact
        by_cases hr : 0 < D.fault
        · rw [if_pos hr] at hact
          have HACT := Lib.hid hact
          clear hact hf hq hb hd
          go_enter Try.func43, Try.ntmps43
          go_wp2_with fail
          go_ret
          exact acted_close ((h.set_ 6 _).set_ 8 _) ((HG.out 6 _).setCell _ _ (fun _ => rfl)) HACT.out rfl
        · rw [if_neg hr] at hact
          have HACT := Lib.hid hact
          clear hact hf hq hb hd
          go_enter Try.func43, Try.ntmps43
          go_wp2_with fail
          go_ret
          exact acted_close (h.set_ 8 _) (HG.out _ _) HACT.out rfl
end

end Go.Proofs.Ytmmkncocgjgapaa.Dev

/- What a device's maps and its list of writes hold. -/
namespace Go.Proofs.Ytmmkncocgjgapaa
open Go.RowKit

section
variable {κ : Type} [DecidableEq κ]
theorem look_set {kv : List (κ × Value)} {k : κ} {i : Nat} {v0 v : Value} (h : locate k kv 0 = some (i, v0)) (j : κ) : look (kv.set i (k, v)) j = if j = k then some v else look kv j := by
  have key : ∀ (kv : List (κ × Value)) (s i : Nat) (v0 : Value), locate k kv s = some (s + i, v0) → look (kv.set i (k, v)) j = if j = k then some v else look kv j := by
    intro kv
    induction kv with
    | nil => intro s i v0 h; cases h
    | cons p kv ih =>
      intro s i v0 h
      unfold locate at h
      by_cases hp : p.1 = k
      · rw [if_pos hp] at h
        injection h with h
        injection h with h1 h2
        obtain rfl : i = 0 := by omega
        unfold look
        by_cases hj : j = k
        · simp [hj]
        · have hkj : ¬ k = j := fun e => hj e.symm
          simp [hj, hp, hkj]
      · rw [if_neg hp] at h
        obtain ⟨h1, _⟩ := locate_some h
        obtain ⟨i', rfl⟩ : ∃ i', i = i' + 1 := ⟨i - 1, by omega⟩
        have := ih (s + 1) i' v0 (by rw [h]; congr 2; omega)
        unfold look at this ⊢
        rw [List.set_cons_succ, List.find?_cons, List.find?_cons]
        by_cases hj : p.1 = j
        · have : ¬ j = k := fun e => hp (hj.trans e)
          simp [hj, this]
        · simp only [hj, decide_false]
          exact this
  exact key kv 0 i v0 (by rw [Nat.zero_add]; exact h)

theorem look_none {kv : List (κ × Value)} {k : κ} (h : locate k kv 0 = none) : look kv k = none := by
  rw [← locate_map kv 0, h]
  rfl

theorem look_put (kv : List (κ × Value)) (k : κ) (v : Value) (j : κ) : look (put_ kv k v) j = if j = k then some v else look kv j := by
  unfold put_
  cases h : locate k kv 0 with
  | some x =>
    obtain ⟨i, v0⟩ := x
    exact look_set h j
  | none =>
    have h1 := look_none h
    by_cases hj : j = k
    · subst hj
      rw [if_pos rfl]
      unfold look at h1 ⊢
      rw [List.find?_append]
      rw [Option.map_eq_none_iff] at h1
      rw [h1]
      simp
    · rw [if_neg hj]
      unfold look
      rw [List.find?_append]
      have hkj : ¬ k = j := fun e => hj e.symm
      simp [hkj]
end

namespace Dev

/-- The slice is a row of its own and holds these words. -/
def HeldV (w : World) (O : Nat → Prop) (v : Value) (ws : List Value) : Prop := w.ownsRow 0 23 1 v ws.length ws ∧ (∀ u ∈ ws, u.oneCell' = true) ∧ ∀ g, v.ownBlock = some g → O g

theorem HeldV.chg {w w' : World} {O : Nat → Prop} {v : Value} {ws : List Value} {S : Nat → Prop} (h : HeldV w O v ws) (hc : Chg S w w') (hS : ∀ g cs, O g → Blk w g 23 cs → ¬ S g) : HeldV w' O v ws := by
  refine ⟨own_chg h.1 hc (fun g hg hs => ?_), h.2⟩
  rcases h.1.2 with ⟨rfl, _⟩ | ⟨g', cap, cur, rfl, hb, hh, _⟩
  · simp [Value.ownBlock] at hg
  · have : g' = g := by simpa [Value.ownBlock] using hg
    subst this
    exact hS _ cur (h.2.2 _ rfl) hh hs

/-- One optional row. -/
def OptHeld (w : World) (O : Nat → Prop) : Option Value → Option (List Value) → Prop
  | none, none => True
  | some v, some ws => HeldV w O v ws
  | _, _ => False
theorem OptHeld.chg {w w' : World} {O : Nat → Prop} {S : Nat → Prop} {v : Option Value} {ws : Option (List Value)} (h : OptHeld w O v ws) (hc : Chg S w w') (hS : ∀ g cs, O g → Blk w g 23 cs → ¬ S g) : OptHeld w' O v ws := by
  match v, ws with
  | none, none => trivial
  | some v, some ws => exact HeldV.chg h hc hS
  | none, some _ => exact h
  | some _, none => exact h

/-- Map number r holds these blocks. -/
def DMap (w : World) (O : Nat → Prop) (r : Nat) (f : Int → Option (List Value)) : Prop := ∃ kv, IsMap (Value.int .i64) w r kv ∧ ∀ k, OptHeld w O (look kv k) (f k)
def upd (f : Int → Option (List Value)) (k : Int) (ws : List Value) : Int → Option (List Value) := fun j => if j = k then some ws else f j

theorem DMap.lt {w : World} {O : Nat → Prop} {r : Nat} {f : Int → Option (List Value)} (h : DMap w O r f) : r < w.heap.size := by
  obtain ⟨kv, h, _⟩ := h
  exact h.lt
theorem DMap.chg {w w' : World} {O : Nat → Prop} {r : Nat} {f : Int → Option (List Value)} {S : Nat → Prop} (h : DMap w O r f) (hc : Chg S w w') (hr : ¬ S r) (hS : ∀ g cs, O g → Blk w g 23 cs → ¬ S g) : DMap w' O r f := by
  obtain ⟨kv, h1, h2⟩ := h
  exact ⟨kv, h1.chg hc hr, fun k => (h2 k).chg hc hS⟩
theorem DMap.drewN {w : World} {O : Nat → Prop} {r : Nat} {f : Int → Option (List Value)} (h : DMap w O r f) (n : Nat) : DMap (w.drewN n) O r f := h
theorem DMap.new (w : World) (O : Nat → Prop) : DMap (w.alloc (.map #[] 0)) O w.heap.size (fun _ => none) := ⟨[], IsMap.new _ w, fun k => trivial⟩
theorem DMap.ne_blk {w : World} {O : Nat → Prop} {r : Nat} {f : Int → Option (List Value)} (h : DMap w O r f) {g : Nat} {t : TypeId} {cs : Array Value} (hb : Blk w g t cs) : g ≠ r := by
  obtain ⟨kv, h, _⟩ := h
  exact h.ne_blk hb
/-- Behind a store into the map. -/
theorem DMap.put {w w' : World} {O : Nat → Prop} {r : Nat} {f : Int → Option (List Value)} {kv : List (Int × Value)} (hk : ∀ k, OptHeld w O (look kv k) (f k)) (k : Int) (v : Value) (ws : List Value) (hv : HeldV w O v ws) (hm : IsMap (Value.int .i64) w' r (put_ kv k v)) (hc : Chg (fun k => k = r) w w') (hr : ∃ es c, w.heap[r]? = some (.map es c)) : DMap w' O r (upd f k ws) := by
  have hS : ∀ g cs, O g → Blk w g 23 cs → ¬ g = r := by
    rintro g cs _ hb rfl
    obtain ⟨es, c, he⟩ := hr
    unfold Blk at hb
    rw [he] at hb
    cases hb
  refine ⟨_, hm, fun j => ?_⟩
  rw [look_put]
  unfold upd
  by_cases hj : j = k
  · rw [if_pos hj, if_pos hj]
    exact HeldV.chg hv hc hS
  · rw [if_neg hj, if_neg hj]
    exact (hk j).chg hc hS

def pcells (pr : List (Int × Value)) : List Value := pr.flatMap fun p => [.int .i64 p.1, p.2]
theorem pcells_length (pr : List (Int × Value)) : (pcells pr).length = pr.length * 2 := by
  induction pr with
  | nil => rfl
  | cons p pr ih => simp only [pcells, List.flatMap_cons, List.length_append, List.length_cons, List.length_nil] at ih ⊢; omega
theorem pcells_append (a b : List (Int × Value)) : pcells (a ++ b) = pcells a ++ pcells b := by simp [pcells]
theorem pcells_get (pr : List (Int × Value)) (k : Nat) (h : k < pr.length) : (pcells pr)[k * 2]? = some (.int .i64 pr[k].1) ∧ (pcells pr)[k * 2 + 1]? = some pr[k].2 := by
  induction pr generalizing k with
  | nil => simp at h
  | cons p pr ih =>
    have e : pcells (p :: pr) = .int .i64 p.1 :: p.2 :: pcells pr := by simp [pcells]
    rw [e]
    match k, h with
    | 0, _ => exact ⟨rfl, rfl⟩
    | k + 1, h =>
      have := ih k (by simpa using h)
      rw [show (k + 1) * 2 = k * 2 + 1 + 1 from by omega, show (k * 2 + 1 + 1 + 1) = (k * 2 + 1) + 1 + 1 from rfl]
      simpa using this

/-- The list of writes that may not last. -/
def Pend (w : World) (O : Nat → Prop) (pv : Value) (l : List (Int × List Value)) : Prop :=
  ∃ pr : List (Int × Value), w.ownsRow 0 105 2 pv l.length (pcells pr) ∧ pr.length = l.length ∧ ∀ j (h : j < pr.length) (h' : j < l.length), pr[j].1 = l[j].1 ∧ HeldV w O pr[j].2 l[j].2
theorem Pend.nil (w : World) (O : Nat → Prop) : Pend w O (.slice none 0 0) [] := ⟨[], World.ownsRow_nil _ _ _ _, rfl, fun j h => by simp at h⟩
theorem Pend.chg {w w' : World} {O : Nat → Prop} {pv : Value} {l : List (Int × List Value)} {S : Nat → Prop} (h : Pend w O pv l) (hc : Chg S w w') (hp : ∀ g, pv.ownBlock = some g → ¬ S g) (hS : ∀ g cs, O g → Blk w g 23 cs → ¬ S g) : Pend w' O pv l := by
  obtain ⟨pr, h1, h2, h3⟩ := h
  exact ⟨pr, own_chg h1 hc hp, h2, fun j hj hj' => ⟨(h3 j hj hj').1, (h3 j hj hj').2.chg hc hS⟩⟩

/-- A device at block a. -/
structure At (w : World) (O : Nat → Prop) (a rl rn : Nat) (pv : Value) (D : Dv) : Prop where
  box : Box w a D rl rn pv
  ne : rl ≠ rn
  lasts : DMap w O rl D.lasts
  now : DMap w O rn D.now
  pend : Pend w O pv D.pend
  nums : Nums D
  pout : ∀ g, pv.ownBlock = some g → O g

section
variable {w w' : World} {O : Nat → Prop} {a rl rn : Nat} {pv : Value} {D D' : Dv} {S : Nat → Prop}
theorem At.drewN (h : At w O a rl rn pv D) (n : Nat) : At (w.drewN n) O a rl rn pv D := ⟨h.box, h.ne, h.lasts, h.now, h.pend, h.nums, h.pout⟩
theorem At.pend_ne (h : At w O a rl rn pv D) {g : Nat} (hg : pv.ownBlock = some g) : g ≠ a ∧ g ≠ rl ∧ g ≠ rn := by
  obtain ⟨pr, h1, _⟩ := h.pend
  obtain ⟨kl, hl, _⟩ := h.lasts
  obtain ⟨kn, hn, _⟩ := h.now
  refine ⟨?_, ?_, ?_⟩
  · rintro rfl; exact own_ne_blk h1 h.box (by decide) hg
  · rintro rfl; exact hl.ne_own h1 hg
  · rintro rfl; exact hn.ne_own h1 hg
/-- Nothing of the device is among the blocks that may have turned. -/
theorem At.chg (h : At w O a rl rn pv D) (hc : Chg S w w') (ha : ¬ S a) (hl : ¬ S rl) (hn : ¬ S rn) (hp : ∀ g, pv.ownBlock = some g → ¬ S g) (hS : ∀ g cs, O g → Blk w g 23 cs → ¬ S g) : At w' O a rl rn pv D :=
  ⟨h.box.chg hc ha, h.ne, h.lasts.chg hc hl hS, h.now.chg hc hn hS, h.pend.chg hc hp hS, h.nums, h.pout⟩
theorem At.below (h : At w O a rl rn pv D) (hb : Below w.heap.size w w') : At w' O a rl rn pv D :=
  h.chg (Chg.of_below' (S := fun _ => False) hb) (fun h => h) (fun h => h) (fun h => h) (fun _ _ h => h) (fun _ _ _ _ h => h)
/-- Only the device's own block has turned, and of it only fuse, fault, power and count. -/
theorem At.of_box (h : At w O a rl rn pv D) (hc : Chg (fun k => k = a) w w') (hb : Box w' a D' rl rn pv) (h1 : D'.lasts = D.lasts) (h2 : D'.now = D.now) (h3 : D'.pend = D.pend) (h4 : Nums D') : At w' O a rl rn pv D' := by
  have hS : ∀ g cs, O g → Blk w g 23 cs → ¬ g = a := fun g cs _ hg e => hg.ne_ h.box (by decide) e
  have hl : ¬ rl = a := fun e => h.lasts.ne_blk h.box e.symm
  have hn : ¬ rn = a := fun e => h.now.ne_blk h.box e.symm
  exact ⟨hb, h.ne, h1 ▸ h.lasts.chg hc hl hS, h2 ▸ h.now.chg hc hn hS, h3 ▸ h.pend.chg hc (fun g hg => (h.pend_ne hg).1) hS, h4, h.pout⟩
theorem Dv.act_same (D : Dv) : D.act.2.lasts = D.lasts ∧ D.act.2.now = D.now ∧ D.act.2.pend = D.pend ∧ D.act.2.size = D.size ∧ D.act.2.blocks = D.blocks ∧ D.act.2.acts ≤ D.acts + 1 := by
  unfold Dv.act
  split
  · exact ⟨rfl, rfl, rfl, rfl, rfl, by simp [Dv.blow]⟩
  · split
    · exact ⟨rfl, rfl, rfl, rfl, rfl, by simp [Dv.fail, Dv.burn]⟩
    · exact ⟨rfl, rfl, rfl, rfl, rfl, by simp [Dv.done, Dv.burn]⟩
theorem At.acted (h : At w O a rl rn pv D) (hc : Chg (fun k => k = a) w w') (hb : Box w' a D.act.2 rl rn pv) (hn : D.acts + 1 < 4611686018427387904) : At w' O a rl rn pv D.act.2 := by
  obtain ⟨h1, h2, h3, _⟩ := D.act_same
  exact h.of_box hc hb h1 h2 h3 (Dv.act_nums h.nums hn)
end

section
variable {w : World} {O O' : Nat → Prop} {a rl rn : Nat} {pv : Value} {D : Dv}
theorem HeldV.mono {v : Value} {ws : List Value} (h : HeldV w O v ws) (hO : ∀ g, g < w.heap.size → O g → O' g) : HeldV w O' v ws :=
  ⟨h.1, h.2.1, fun g hg => hO g (h.1.lt g hg).2 (h.2.2 g hg)⟩
theorem OptHeld.mono {v : Option Value} {ws : Option (List Value)} (h : OptHeld w O v ws) (hO : ∀ g, g < w.heap.size → O g → O' g) : OptHeld w O' v ws := by
  match v, ws with
  | none, none => trivial
  | some v, some ws => exact HeldV.mono h hO
  | none, some _ => exact h
  | some _, none => exact h
/-- The set of blocks may be taken otherwise, where it holds the same ones of those that there are. -/
theorem At.mono (h : At w O a rl rn pv D) (hO : ∀ g, g < w.heap.size → O g → O' g) : At w O' a rl rn pv D := by
  obtain ⟨kv, h1, h2⟩ := h.lasts
  obtain ⟨kn, h3, h4⟩ := h.now
  obtain ⟨pr, h5, h6, h7⟩ := h.pend
  exact ⟨h.box, h.ne, ⟨kv, h1, fun k => (h2 k).mono hO⟩, ⟨kn, h3, fun k => (h4 k).mono hO⟩, ⟨pr, h5, h6, fun j h h' => ⟨(h7 j h h').1, (h7 j h h').2.mono hO⟩⟩, h.nums, fun g hg => hO g (h5.lt g hg).2 (h.pout g hg)⟩
end

end Dev
end Go.Proofs.Ytmmkncocgjgapaa

/- The walks of New, Size, Blocks, Acts, SetFuse, SetFault, Read and Write of a device. -/
namespace Go.Proofs.Ytmmkncocgjgapaa.Dev
open Go.RowKit

theorem below_d {B : Nat} {w w' : World} (h : Below B w w') (n : Nat) : Below B w (w'.drewN n) := h.trans ⟨rfl, rfl, rfl, Nat.le_refl _, fun _ _ => rfl⟩

def fresh (size blocks : Nat) : Dv := { size := size, blocks := blocks, lasts := fun _ => none, now := fun _ => none, pend := [], fuse := -1, fault := -1, down := false, acts := 0 }
theorem fresh_nums (size blocks : Nat) (h8 : 8 ≤ size) (h256 : size ≤ 256) (hb : blocks ≤ 1000000) : Nums (fresh size blocks) :=
  ⟨by unfold NumOk fresh; simp, by unfold NumOk fresh; simp, by simp [fresh], ⟨⟨h8, h256⟩, hb, (fun _ _ h => by cases h), (fun _ _ h => by cases h), (fun _ h => by cases h), Nat.le_refl _⟩⟩

/-- What New asks. -/
def NewFits (size blocks : Int) : Prop := 8 ≤ size ∧ size ≤ 256 ∧ 0 ≤ blocks ∧ blocks ≤ 1000000

def Made (w : World) (size blocks : Nat) (e : Ending) (w' : World) : Prop :=
  e = .returned (.tuple #[.pointer (some ⟨w.heap.size + 2, 0, none⟩), .int .i64 0]) ∧ (∀ O, At w' O (w.heap.size + 2) w.heap.size (w.heap.size + 1) (.slice none 0 0) (fresh size blocks)) ∧ Below w.heap.size w w' ∧ w'.heap.size = w.heap.size + 3

set_option maxRecDepth 100000 in
theorem new_ok (size blocks : Nat) (w : World) (h8 : 8 ≤ size) (h256 : size ≤ 256) (hb : blocks ≤ 1000000) :
    Calls Try.prog 38 #[.int .i64 (size : Int), .int .i64 (blocks : Int)] w (Made w size blocks) := by
  have e1 : decide ((size : Int) < 8) = false := by simp; omega
  have e2 : decide (256 < (size : Int)) = false := by simp; omega
  have e3 : decide ((blocks : Int) < 0) = false := by simp
  have e4 : decide (1000000 < (blocks : Int)) = false := by simp; omega
  have hmm := @run_makeMap Try.prog
  go_enter Try.func38, Try.ntmps38
  go_wp2_with fail
  go_ret2
  have b1 : Below w.heap.size w (((w.alloc (.map #[] 0)).alloc (.map #[] 0)).alloc (.cells (dcells (fresh size blocks) w.heap.size (w.heap.size + 1) (.slice none 0 0)) 101)) :=
    (((Below.refl w.heap.size w).alloc (Nat.le_refl _) _).alloc (by simp) _).alloc (by simp; omega) _
  refine ⟨rfl, fun O => ?_, b1, by simp⟩
  have m1 := ((DMap.new w O).chg (((Chg.refl (fun _ => False) _).alloc (.map #[] 0)).alloc (.cells (dcells (fresh size blocks) w.heap.size (w.heap.size + 1) (.slice none 0 0)) 101)) (fun h => h) (fun _ _ _ _ h => h))
  have m2 := ((DMap.new (w.alloc (.map #[] 0)) O).chg ((Chg.refl (fun _ => False) _).alloc (.cells (dcells (fresh size blocks) w.heap.size (w.heap.size + 1) (.slice none 0 0)) 101)) (fun h => h) (fun _ _ _ _ h => h))
  rw [show (w.alloc (.map #[] 0)).heap.size = w.heap.size + 1 from by simp] at m2
  have m3 := Blk.new ((w.alloc (.map #[] 0)).alloc (.map #[] 0)) 101 (dcells (fresh size blocks) w.heap.size (w.heap.size + 1) (.slice none 0 0))
  rw [show ((w.alloc (.map #[] 0)).alloc (.map #[] 0)).heap.size = w.heap.size + 2 from by simp] at m3
  exact ⟨m3, by omega, m1, m2, Pend.nil _ _, fresh_nums _ _ h8 h256 hb, fun g hg => by simp [Value.ownBlock] at hg⟩

set_option maxRecDepth 100000 in
theorem new_no (size blocks : Int) (w : World) (h : ¬ NewFits size blocks) :
    Calls Try.prog 38 #[.int .i64 size, .int .i64 blocks] w fun e w' => e = .returned (.tuple #[.pointer none, .int .i64 1]) ∧ w = w' := by
  unfold NewFits at h
  by_cases e1 : size < 8
  · clear h
    go_enter Try.func38, Try.ntmps38
    go_wp2_with fail
    go_ret2
    exact ⟨rfl, rfl⟩
  by_cases e2 : 256 < size
  · clear h
    go_enter Try.func38, Try.ntmps38
    go_wp2_with fail
    go_ret2
    exact ⟨rfl, rfl⟩
  by_cases e3 : blocks < 0
  · clear h
    go_enter Try.func38, Try.ntmps38
    go_wp2_with fail
    go_ret2
    exact ⟨rfl, rfl⟩
  have e4 : 1000000 < blocks := by omega
  clear h
  go_enter Try.func38, Try.ntmps38
  go_wp2_with fail
  go_ret2
  exact ⟨rfl, rfl⟩

section
variable {w : World} {a rl rn : Nat} {O : Nat → Prop} {pv : Value} {D : Dv}

theorem size_any (h : Box w a D rl rn pv) : Calls Try.prog 47 #[.pointer (some ⟨a, 0, none⟩)] w fun e w' => e = .returned (.int .i64 (D.size : Int)) ∧ w = w' := by
  have c : w.cell? ⟨a, 0, none⟩ = some (.int .i64 (D.size : Int)) := h.cell 0
  go_enter Try.func47, Try.ntmps47
  go_wp2_with fail
  go_ret
  exact ⟨rfl, rfl⟩
theorem acts_any (h : Box w a D rl rn pv) : Calls Try.prog 37 #[.pointer (some ⟨a, 0, none⟩)] w fun e w' => e = .returned (.int .i64 (D.acts : Int)) ∧ w = w' := by
  have c : w.cell? ⟨a, 8, none⟩ = some (.int .i64 (D.acts : Int)) := h.cell 8
  go_enter Try.func37, Try.ntmps37
  go_wp2_with fail
  go_ret
  exact ⟨rfl, rfl⟩

def Dv.setFuse (D : Dv) (n : Int) : Dv := { D with fuse := max n (-1) }
def Dv.setFault (D : Dv) (n : Int) : Dv := { D with fault := max n (-1) }

set_option maxRecDepth 100000 in
theorem setfault_any (n : Int) (h : Box w a D rl rn pv) : Calls Try.prog 36 #[.pointer (some ⟨a, 0, none⟩), .int .i64 n] w fun e w' => e = .returned (.tuple #[]) ∧ Box w' a (D.setFault n) rl rn pv ∧ Chg (fun k => k = a) w w' := by
  have z := h.frozen 6
  have c : w.cell? ⟨a, 6, none⟩ = some (.int .i64 D.fault) := h.cell 6
  have hg := fun v => (Chg.refl (fun k => k = a) w).setCell ⟨a, 6, none⟩ (.int .i64 v) (fun _ => rfl)
  have hb := fun v => h.set_ 6 (.int .i64 v)
  have HG := Lib.hid hg
  have HB := Lib.hid hb
  clear hg hb
  rcases Int.lt_or_le n (-1) with hn | hn
  · have hm : D.setFault n = { D with fault := -1 } := by unfold Dv.setFault; rw [show max n (-1) = -1 from by omega]
    have HM := Lib.hid hm
    clear hm
    go_enter Try.func36, Try.ntmps36
    go_wp2_with fail
    go_end0
    exact ⟨rfl, HM.out ▸ HB.out _, HG.out _⟩
  · have hm : D.setFault n = { D with fault := n } := by unfold Dv.setFault; rw [show max n (-1) = n from by omega]
    have HM := Lib.hid hm
    clear hm
    go_enter Try.func36, Try.ntmps36
    go_wp2_with fail
    go_end0
    exact ⟨rfl, HM.out ▸ HB.out _, HG.out _⟩

end

end Go.Proofs.Ytmmkncocgjgapaa.Dev

/- The walks of Read and Write of a device. -/
namespace Go.Proofs.Ytmmkncocgjgapaa.Dev
open Go.RowKit

def zeroV (n : Nat) : List Value := List.replicate n (.int .u64 0)
/-- The words that a Read tells. -/
def Dv.words (D : Dv) (i : Int) : List Value := (D.now i).getD (zeroV D.size)
/-- What a Read or a Write answers ahead of its act; 0: nothing bars it. -/
def Dv.bars (D : Dv) (i : Int) (n : Nat) : Int := if D.down = true then 8 else if i < 0 ∨ (D.blocks : Int) ≤ i ∨ n ≠ D.size then 1 else 0

theorem zero_row (w : World) : (zeroValue 39).run Try.prog w = .ok (.slice none 0 0) w := by kernel_rfl

theorem own_mono {w : World} {base base' : Nat} {e : TypeId} {size : Nat} {v : Value} {n : Nat} {xs : List Value} (h : w.ownsRow base e size v n xs) (hb : base' ≤ base) : w.ownsRow base' e size v n xs :=
  ⟨h.1, h.2.imp id fun ⟨g, cap, cur, h1, h2, h3⟩ => ⟨g, cap, cur, h1, Nat.le_trans hb h2, h3⟩⟩

theorem own_form {w : World} {base : Nat} {e : TypeId} {size : Nat} {v : Value} {n : Nat} {xs : List Value} (h : w.ownsRow base e size v n xs) : ∃ a c, v = .slice a n c := by
  rcases h.2 with ⟨rfl, rfl⟩ | ⟨g, cap, cur, rfl, _⟩
  · exact ⟨_, _, rfl⟩
  · exact ⟨_, _, rfl⟩

/-- The block's words, in memory of the call's own. -/
def Got (w : World) (a : Nat) (D : Dv) (rl rn : Nat) (pv : Value) (ws : List Value) (e : Ending) (w' : World) : Prop :=
  ∃ g c, e = .returned (.tuple #[.slice (some ⟨g, 0, none⟩) D.size c, .int .i64 0]) ∧ w'.ownsRow w.heap.size 23 1 (.slice (some ⟨g, 0, none⟩) D.size c) D.size ws ∧ w.heap.size ≤ g ∧ Box w' a D.act.2 rl rn pv ∧ Chg (fun k => k = a) w w'

theorem got_close {w w1 w2 : World} {a : Nat} {D : Dv} {rl rn : Nat} {pv : Value} {ws : List Value} {g c : Nat} (hc : Chg (fun k => k = a) w w1) (hb : Below w1.heap.size w1 w2) (hbx : Box w1 a D.act.2 rl rn pv)
    (ho : w2.ownsRow w1.heap.size 23 1 (.slice (some ⟨g, 0, none⟩) D.size c) D.size ws) (hg : w1.heap.size ≤ g) : Got w a D rl rn pv ws (.returned (.tuple #[.slice (some ⟨g, 0, none⟩) D.size c, .int .i64 0])) w2 :=
  ⟨g, c, rfl, own_mono ho hc.size, Nat.le_trans hc.size hg, hbx.below hb hbx.lt, hc.then_below hb⟩

theorem own_some {w : World} {base : Nat} {e : TypeId} {n : Nat} {v : Value} {xs : List Value} (h : w.ownsRow base e 1 v n xs) (hn : 0 < n) : ∃ g c, v = .slice (some ⟨g, 0, none⟩) n c ∧ base ≤ g ∧ Row w (some ⟨g, 0, none⟩) xs ∧ n ≤ c ∧ c ≤ maxLen := by
  obtain ⟨a, c, rfl, hr, h1, h2, h3⟩ := own_slice h
  obtain ⟨g, cap, e, hb, _⟩ := World.ownsRow.form h hn
  cases e
  exact ⟨g, c, rfl, hb, hr, h1, h2⟩

section
variable {w : World} {a rl rn : Nat} {O : Nat → Prop} {pv : Value} {D : Dv}

def Bare (w : World) (a : Nat) (D : Dv) (rl rn : Nat) (pv : Value) (e : Ending) (w' : World) : Prop :=
  e = .returned (.tuple #[.slice none 0 0, .int .i64 D.act.1]) ∧ Box w' a D.act.2 rl rn pv ∧ Chg (fun k => k = a) w w'

set_option maxRecDepth 100000 in
theorem read_barred (i : Int) (h : Box w a D rl rn pv) (hb : D.bars i D.size ≠ 0) :
    Calls Try.prog 56 #[.pointer (some ⟨a, 0, none⟩), .int .i64 i] w fun e w' => e = .returned (.tuple #[.slice none 0 0, .int .i64 (D.bars i D.size)]) ∧ w = w' := by
  have HD := Lib.hid (down_any h)
  have c1 : w.cell? ⟨a, 1, none⟩ = some (.int .i64 (D.blocks : Int)) := h.cell 1
  unfold Dv.bars at hb ⊢
  cases hd : D.down
  · rw [hd] at HD hb
    rw [if_neg (by decide)] at hb ⊢
    by_cases hi : i < 0 ∨ (D.blocks : Int) ≤ i ∨ D.size ≠ D.size
    · rw [if_pos hi]
      clear hb hd
      by_cases h0 : i < 0
      · clear hi
        go_enter Try.func56, Try.ntmps56
        go_wp2_with fail
        refine HD.out.mono ?_
        rintro e w1 ⟨rfl, rfl⟩
        go_wp2_with fail
        go_ret2
        exact ⟨rfl, rfl⟩
      · have h1 : (D.blocks : Int) ≤ i := by omega
        clear hi
        go_enter Try.func56, Try.ntmps56
        go_wp2_with fail
        refine HD.out.mono ?_
        rintro e w1 ⟨rfl, rfl⟩
        go_wp2_with fail
        go_ret2
        exact ⟨rfl, rfl⟩
    · rw [if_neg hi] at hb
      exact absurd rfl hb
  · rw [hd] at HD
    rw [if_pos rfl]
    clear hb hd
    go_enter Try.func56, Try.ntmps56
    go_wp2_with fail
    refine HD.out.mono ?_
    rintro e w1 ⟨rfl, rfl⟩
    go_wp2_with fail
    go_ret2
    exact ⟨rfl, rfl⟩

theorem not_barred {i : Int} {n : Nat} (hb : D.bars i n = 0) : D.down = false ∧ 0 ≤ i ∧ i < (D.blocks : Int) ∧ n = D.size := by
  unfold Dv.bars at hb
  split at hb
  · cases hb
  · rename_i h
    split at hb
    · cases hb
    · rename_i h2
      refine ⟨by simpa using h, by omega, by omega, by omega⟩

set_option maxRecDepth 100000 in
theorem read_failed (i : Int) (h : Box w a D rl rn pv) (hn : Nums D) (hb : D.bars i D.size = 0) (hf : D.act.1 ≠ 0) :
    Calls Try.prog 56 #[.pointer (some ⟨a, 0, none⟩), .int .i64 i] w (Bare w a D rl rn pv) := by
  obtain ⟨h1, h2, h3, -⟩ := not_barred hb
  have HD := down_any h
  rw [h1] at HD
  have HD2 := Lib.hid HD
  have HA := Lib.hid (act_any h hn)
  have c1 : w.cell? ⟨a, 1, none⟩ = some (.int .i64 (D.blocks : Int)) := h.cell 1
  have hne : (D.act.1 != 0) = true := by simpa using hf
  clear hb h1 HD hf
  go_enter Try.func56, Try.ntmps56
  go_wp2_with fail
  refine HD2.out.mono ?_
  rintro e w1 ⟨rfl, rfl⟩
  go_wp2_with fail
  refine HA.out.mono ?_
  rintro e w1 ⟨rfl, h4, h5⟩
  go_wp2_with fail
  go_ret2
  exact ⟨rfl, h4, h5⟩

set_option maxRecDepth 100000 in
set_option maxHeartbeats 400000 in
theorem read_got (i : Int) (h : At w O a rl rn pv D) (hb : D.bars i D.size = 0) (hf : D.act.1 = 0) (hac : D.acts + 1 < 4611686018427387904) :
    Calls Try.prog 56 #[.pointer (some ⟨a, 0, none⟩), .int .i64 i] w (Got w a D rl rn pv (D.words i)) := by
  obtain ⟨h1, h2, h3, -⟩ := not_barred hb
  have HD := down_any h.box
  rw [h1] at HD
  have HD2 := Lib.hid HD
  have HA := Lib.hid (act_any h.box h.nums)
  have c1 : w.cell? ⟨a, 1, none⟩ = some (.int .i64 (D.blocks : Int)) := h.box.cell 1
  have hne : (D.act.1 != 0) = false := by simpa using hf
  obtain ⟨s1, s2, s3, s4, s5, -⟩ := D.act_same
  have hsz := h.nums.fit.size
  have hnl := h.nums.fit.now i
  have H := Lib.hid h
  clear hb h1 HD h s1 s3 s5 hf
  go_enter Try.func56, Try.ntmps56
  go_wp2_with fail
  refine HD2.out.mono ?_
  rintro e w1 ⟨rfl, rfl⟩
  go_wp2_with fail
  refine HA.out.mono ?_
  rintro e w1 ⟨rfl, hbx, hc1⟩
  have A1 := H.out.acted hc1 hbx hac
  have c3 : w1.cell? ⟨a, 3, none⟩ = some (.map (some rn)) := hbx.cell 3
  have c0 : w1.cell? ⟨a, 0, none⟩ = some (.int .i64 (D.size : Int)) := by rw [hbx.cell 0]; show some (Value.int .i64 (D.act.2.size : Int)) = _; rw [s4]
  obtain ⟨kv, hm, hk⟩ := A1.now
  have hki := hk i
  rw [s2] at hki
  have HS2 := Lib.hid s2
  have HC1 := Lib.hid hc1
  have HBX := Lib.hid hbx
  clear s2 s4 hc1 hbx
  cases hl : look kv i with
  | none =>
    rw [hl] at hki
    have hnone : D.now i = none := by
      cases hD : D.now i with
      | none => rfl
      | some ws => rw [hD] at hki; exact hki.elim
    have hws : D.words i = zeroV D.size := by unfold Dv.words; rw [hnone]; rfl
    have HW := Lib.hid hws
    have HL := Lib.hid hl
    clear hk hki hnone hws hl
    have hmk := fun W => run_make_of (P := Try.prog) (t := 39) (e := 23) (bytes := 8) (z := .int .u64 0) Try.underlying39 (by kernel_rfl) rfl .i64 .i64 D.size (by omega) (by omega) W
    go_wp2_with (at_lookup; go_must (refine wpList_look rfl _ _ _ _ rfl (mk := Value.int .i64) Try.underlying98 (plain_int Try.underlying3) rn kv rfl hm i rfl (finds_int Try.underlying3 _ _) (zero_row _) ?_); rw [HL.out])
    go_wp2_with fail
    go_ret2
    rw [HW.out]
    have ho := World.ownsRow_lit (base := w1.heap.size) (e := 23) (size := 1) w1 (same D.size (.int .u64 0)) D.size (Nat.le_refl _) (by unfold maxLen; omega) (by rw [same_size]; omega)
    rw [same_list] at ho
    exact got_close HC1.out ((Below.refl _ _).alloc (Nat.le_refl _) _) HBX.out ho (Nat.le_refl _)
  | some v =>
    rw [hl] at hki
    obtain ⟨ws, hws⟩ : ∃ ws, D.now i = some ws := by
      cases hD : D.now i with
      | none => rw [hD] at hki; exact hki.elim
      | some ws => exact ⟨ws, rfl⟩
    rw [hws] at hki
    have hlen := hnl ws hws
    have hwd : D.words i = ws := by unfold Dv.words; rw [hws]; rfl
    have HW := Lib.hid hwd
    have HL := Lib.hid hl
    obtain ⟨g, c, rfl, _, hr, hcc, hcm⟩ := own_some (hlen ▸ hki.1) (by omega)
    have h1 := hki.2.1
    have HLEN := Lib.hid hlen
    clear hk hki hws hl hlen hwd hnl
    go_wp2_with (at_lookup; go_must (refine wpList_look rfl _ _ _ _ rfl (mk := Value.int .i64) Try.underlying98 (plain_int Try.underlying3) rn kv rfl hm i rfl (finds_int Try.underlying3 _ _) (zero_row _) ?_); rw [HL.out])
    go_wp2_with fail
    refine (clone_u64 _ _ _ _ _ hr HLEN.out h1 (by omega) (by simp)).mono ?_
    rintro e w2 ⟨v2, rfl, ho, hb2⟩
    obtain ⟨g2, cc2, rfl, hg2, -⟩ := own_some ho (by omega)
    go_wp2_with fail
    go_ret2
    rw [HW.out]
    exact got_close HC1.out hb2 HBX.out ho hg2

set_option maxRecDepth 100000 in
theorem write_barred (i : Int) (l : Option Addr) (n c : Nat) (h : Box w a D rl rn pv) (hn : n ≤ 9223372036854775807) (hb : D.bars i n ≠ 0) :
    Calls Try.prog 14 #[.pointer (some ⟨a, 0, none⟩), .int .i64 i, .slice l n c] w fun e w' => e = .returned (.int .i64 (D.bars i n)) ∧ w = w' := by
  have HD := Lib.hid (down_any h)
  have c1 : w.cell? ⟨a, 1, none⟩ = some (.int .i64 (D.blocks : Int)) := h.cell 1
  have c0 : w.cell? ⟨a, 0, none⟩ = some (.int .i64 (D.size : Int)) := h.cell 0
  unfold Dv.bars at hb ⊢
  cases hd : D.down
  · rw [hd] at HD hb
    rw [if_neg (by decide)] at hb ⊢
    by_cases hi : i < 0 ∨ (D.blocks : Int) ≤ i ∨ n ≠ D.size
    · rw [if_pos hi]
      clear hb hd
      by_cases h0 : i < 0
      · clear hi
        go_enter Try.func14, Try.ntmps14
        go_wp2_with fail
        refine HD.out.mono ?_
        rintro e w1 ⟨rfl, rfl⟩
        go_wp2_with fail
        go_ret
        exact ⟨rfl, rfl⟩
      by_cases h1 : (D.blocks : Int) ≤ i
      · clear hi
        go_enter Try.func14, Try.ntmps14
        go_wp2_with fail
        refine HD.out.mono ?_
        rintro e w1 ⟨rfl, rfl⟩
        go_wp2_with fail
        go_ret
        exact ⟨rfl, rfl⟩
      · have h2 : ((n : Int) != (D.size : Int)) = true := by rw [bne_iff_ne]; omega
        clear hi
        go_enter Try.func14, Try.ntmps14
        go_wp2_with fail
        refine HD.out.mono ?_
        rintro e w1 ⟨rfl, rfl⟩
        go_wp2_with fail
        go_ret
        exact ⟨rfl, rfl⟩
    · rw [if_neg hi] at hb
      exact absurd rfl hb
  · rw [hd] at HD
    rw [if_pos rfl]
    clear hb hd
    go_enter Try.func14, Try.ntmps14
    go_wp2_with fail
    refine HD.out.mono ?_
    rintro e w1 ⟨rfl, rfl⟩
    go_wp2_with fail
    go_ret
    exact ⟨rfl, rfl⟩

set_option maxRecDepth 100000 in
theorem write_failed (i : Int) (l : Option Addr) (n c : Nat) (h : Box w a D rl rn pv) (hn : Nums D) (hb : D.bars i n = 0) (hf : D.act.1 ≠ 0) :
    Calls Try.prog 14 #[.pointer (some ⟨a, 0, none⟩), .int .i64 i, .slice l n c] w (Acted w a D rl rn pv) := by
  obtain ⟨h1, h2, h3, rfl⟩ := not_barred hb
  have HD := down_any h
  rw [h1] at HD
  have HD2 := Lib.hid HD
  have HA := Lib.hid (act_any h hn)
  have c1 : w.cell? ⟨a, 1, none⟩ = some (.int .i64 (D.blocks : Int)) := h.cell 1
  have c0 : w.cell? ⟨a, 0, none⟩ = some (.int .i64 (D.size : Int)) := h.cell 0
  have hne : (D.act.1 != 0) = true := by simpa using hf
  have hss : ((D.size : Int) != (D.size : Int)) = false := by simp
  clear hb h1 HD hf
  go_enter Try.func14, Try.ntmps14
  go_wp2_with fail
  refine HD2.out.mono ?_
  rintro e w1 ⟨rfl, rfl⟩
  go_wp2_with fail
  refine HA.out.mono ?_
  rintro e w1 ⟨rfl, h4, h5⟩
  go_wp2_with fail
  go_ret
  exact ⟨rfl, h4, h5⟩

theorem el_write : Elem Try.prog 99 105 2 32 := elem_of (z := .agg #[.int .i64 0, .slice none 0 0]) Try.underlying99 (by kernel_rfl) rfl (by decide)

def Dv.put (D : Dv) (i : Int) (ws : List Value) : Dv := { D with now := upd D.now i ws, pend := D.pend ++ [(i, ws)] }
/-- The blocks that a device's methods may turn. -/
def Foot (a rl rn : Nat) (pv : Value) (k : Nat) : Prop := k = a ∨ k = rl ∨ k = rn ∨ some k = pv.ownBlock

def Put (w : World) (O : Nat → Prop) (a rl rn : Nat) (pv : Value) (D : Dv) (e : Ending) (w' : World) : Prop :=
  e = .returned (.int .i64 0) ∧ (∃ pv', At w' O a rl rn pv' D) ∧ Chg (Foot a rl rn pv) w w'

theorem act_acts {D : Dv} (h : D.act.1 = 0) : D.act.2 = D.burn.done := by
  unfold Dv.act at h ⊢
  split at h
  · cases h
  · split at h
    · cases h
    · rename_i h1 h2
      rw [if_neg h1, if_neg h2]
theorem act_len {D : Dv} (h : D.act.1 = 0) (hn : Nums D) : D.act.2.pend.length + 1 ≤ D.act.2.acts := by
  rw [act_acts h]
  exact Nat.succ_le_succ hn.fit.len

theorem put_nums {D : Dv} {i : Int} {ws : List Value} (h : Nums D) (hw : ws.length = D.size) (hl : D.pend.length + 1 ≤ D.acts) : Nums (D.put i ws) := by
  refine ⟨h.fuse, h.fault, h.acts, ⟨h.fit.size, h.fit.blocks, fun k xs hk => ?_, h.fit.lasts, fun p hp => ?_, ?_⟩⟩
  · simp only [Dv.put, upd] at hk
    split at hk
    · cases hk; exact hw
    · exact h.fit.now k xs hk
  · simp only [Dv.put, List.mem_append, List.mem_singleton] at hp
    rcases hp with hp | rfl
    · exact h.fit.pend p hp
    · exact hw
  · simp only [Dv.put, List.length_append, List.length_singleton]
    exact hl

theorem put_close {w1 w2 w3 w5 : World} {i : Int} {ws : List Value} {v2 v5 : Value} {kv : List (Int × Value)} {pr : List (Int × Value)} (A1 : At w1 O a rl rn pv D) (hb2 : Below w1.heap.size w1 w2) (hv : HeldV w2 O v2 ws)
    (hm2 : IsMap (Value.int .i64) w2 rn kv) (hk : ∀ k, OptHeld w2 O (look kv k) (D.now k)) (hm3 : IsMap (Value.int .i64) w3 rn (put_ kv i v2)) (hc3 : Chg (fun k => k = rn) w2 w3)
    (hpl : pr.length = D.pend.length) (hph : ∀ j (h : j < pr.length) (h' : j < D.pend.length), pr[j].1 = D.pend[j].1 ∧ HeldV w2 O pr[j].2 D.pend[j].2) (hpo : w3.ownsRow 0 105 2 pv D.pend.length (pcells pr))
    (hown5 : w5.ownsRow 0 105 2 v5 (D.pend.length + 1) (pcells pr ++ [.int .i64 i, v2])) (hg5 : (w3.alloc (.cells #[.int .i64 i, v2] 105)).grownBy w5 pv.ownBlock) (hba : 0 ≤ w3.heap.size)
    (hn : Nums (D.put i ws)) (hv5 : ∀ g, v5.ownBlock = some g → O g) :
    (∃ pv', At (w5.setCell ⟨a, 4, none⟩ v5) O a rl rn pv' (D.put i ws)) ∧ Chg (Foot a rl rn pv) w1 (w5.setCell ⟨a, 4, none⟩ v5) := by
  have A2 := A1.below hb2
  have hal : a ≠ rl := A2.lasts.ne_blk A2.box
  have han : a ≠ rn := A2.now.ne_blk A2.box
  have hS3 : ∀ g cs, O g → Blk w2 g 23 cs → ¬ g = rn := fun g cs _ hg e => A2.now.ne_blk hg e
  have hrn : ∃ es c, w2.heap[rn]? = some (.map es c) := by obtain ⟨es, c, h, _⟩ := hm2; exact ⟨es, c, h⟩
  have L3 := A2.lasts.chg hc3 A2.ne hS3
  have N3 := DMap.put hk i v2 ws hv hm3 hc3 hrn
  have B3 := A2.box.chg hc3 han
  have H3 := hv.chg hc3 hS3
  have P3 : ∀ j (h : j < pr.length) (h' : j < D.pend.length), pr[j].1 = D.pend[j].1 ∧ HeldV w3 O pr[j].2 D.pend[j].2 := fun j h h' => ⟨(hph j h h').1, (hph j h h').2.chg hc3 hS3⟩
  have hc5 : Chg (fun k => some k = pv.ownBlock) w3 w5 := ((Chg.refl _ w3).alloc _).trans (Chg.of_grown hg5) (fun _ _ h => h)
  have hS5 : ∀ g cs, O g → Blk w3 g 23 cs → ¬ some g = pv.ownBlock := fun g cs _ hg e => own_ne_blk hpo hg (by decide) e.symm
  have hra : ¬ some a = pv.ownBlock := fun e => own_ne_blk hpo B3 (by decide) e.symm
  have hrl : ¬ some rl = pv.ownBlock := fun e => by obtain ⟨kl, hl, _⟩ := L3; exact hl.ne_own hpo e.symm
  have hrn5 : ¬ some rn = pv.ownBlock := fun e => hm3.ne_own hpo e.symm
  have L5 := L3.chg hc5 hrl hS5
  have N5 := N3.chg hc5 hrn5 hS5
  have B5 := B3.chg hc5 hra
  have H5 := H3.chg hc5 hS5
  have hc6 : Chg (fun k => k = a) w5 (w5.setCell ⟨a, 4, none⟩ v5) := (Chg.refl _ w5).setCell _ _ (fun _ => rfl)
  have hS6 : ∀ g cs, O g → Blk w5 g 23 cs → ¬ g = a := fun g cs _ hg e => hg.ne_ B5 (by decide) e
  have ho6 := own_chg hown5 hc6 (fun g hg e => own_ne_blk hown5 B5 (by decide) (e ▸ hg))
  refine ⟨⟨v5, B5.set_ 4 v5, A2.ne, L5.chg hc6 (Ne.symm hal) hS6, N5.chg hc6 (Ne.symm han) hS6, ⟨pr ++ [(i, v2)], ?_, ?_, fun j hj hj' => ?_⟩, hn, hv5⟩, ?_⟩
  · simpa [pcells_append, pcells, Dv.put] using ho6
  · simp [Dv.put, hpl]
  · simp only [Dv.put] at hj' ⊢
    by_cases hjl : j < pr.length
    · rw [List.getElem_append_left hjl, List.getElem_append_left (by omega)]
      exact ⟨(P3 j hjl (by omega)).1, ((P3 j hjl (by omega)).2.chg hc5 hS5).chg hc6 hS6⟩
    · have e1 : j = pr.length := by simp at hj; omega
      have e2 : j = D.pend.length := by omega
      rw [List.getElem_append_right (by omega), List.getElem_append_right (by omega)]
      simp only [e1, Nat.sub_self, List.getElem_cons_zero]
      simp only [hpl, Nat.sub_self, List.getElem_cons_zero]
      exact ⟨trivial, H5.chg hc6 hS6⟩
  · have c1 : Chg (Foot a rl rn pv) w1 w2 := Chg.of_below' hb2
    have c2 := c1.trans hc3 (fun k _ h => .inr (.inr (.inl h)))
    have c3 := c2.trans hc5 (fun k _ h => .inr (.inr (.inr h)))
    exact c3.trans hc6 (fun k _ h => .inl h)

set_option maxRecDepth 100000 in
set_option maxHeartbeats 400000 in
theorem write_put (i : Int) (l : Option Addr) (c : Nat) (ws : List Value) (h : At w O a rl rn pv D) (hb : D.bars i ws.length = 0) (hf : D.act.1 = 0) (hac : D.acts + 1 < 1099511627776) (hr : Row w l ws) (h1c : ∀ u ∈ ws, u.oneCell' = true) (hO : ∀ g, w.heap.size ≤ g → O g) (hla : ∀ x, l = some x → x.block ≠ a) :
    Calls Try.prog 14 #[.pointer (some ⟨a, 0, none⟩), .int .i64 i, .slice l ws.length c] w (Put w O a rl rn pv (D.act.2.put i ws)) := by
  obtain ⟨h1, h2, h3, h4⟩ := not_barred hb
  have HD := down_any h.box
  rw [h1] at HD
  have HD2 := Lib.hid HD
  have HA := Lib.hid (act_any h.box h.nums)
  have c1 : w.cell? ⟨a, 1, none⟩ = some (.int .i64 (D.blocks : Int)) := h.box.cell 1
  have c0 : w.cell? ⟨a, 0, none⟩ = some (.int .i64 (D.size : Int)) := h.box.cell 0
  have hne : (D.act.1 != 0) = false := by simpa using hf
  have hss : ((ws.length : Int) != (D.size : Int)) = false := by rw [h4]; simp
  have hsz := h.nums.fit.size
  have H := Lib.hid h
  have H4 := Lib.hid h4
  have hnz : l = none → ws.length = 0 ∧ c = 0 := by
    intro e
    subst e
    obtain ⟨x, hx, _⟩ := hr 0 (by omega)
    cases hx
  have HNZ := Lib.hid hnz
  have HF := Lib.hid hf
  clear hb h1 HD h hf h4 hnz
  go_enter Try.func14, Try.ntmps14
  go_wp2_with fail
  refine HD2.out.mono ?_
  rintro e w1 ⟨rfl, rfl⟩
  go_wp2_with fail
  refine HA.out.mono ?_
  rintro e w1 ⟨rfl, hbx, hc1⟩
  have A1 := H.out.acted hc1 hbx (by omega)
  have hr1 : Row w1 l ws := hr.chg hc1 hla
  have hz1 := hc1.size
  go_wp2_with fail
  refine (clone_u64 l ws.length c ws _ hr1 rfl h1c (by have := H4.out; omega) HNZ.out).mono ?_
  rintro e w2 ⟨v2, rfl, ho, hb2⟩
  obtain ⟨g2, cc2, rfl, hg2, -⟩ := own_some ho (by have := H4.out; omega)
  have A2 := A1.below hb2
  have hv2 : HeldV w2 O (.slice (some ⟨g2, 0, none⟩) ws.length cc2) ws := ⟨own_mono ho (Nat.zero_le _), h1c, fun g hg => hO g (by simp only [Value.ownBlock, Option.some.injEq] at hg; omega)⟩
  obtain ⟨kv, hm2, hk2⟩ := A2.now
  obtain ⟨pr, hp1, hp2, hp3⟩ := A2.pend
  have hb3 := hb2.size
  have HV := Lib.hid hv2
  have HK := Lib.hid hk2
  have HP2 := Lib.hid hp2
  have HP3 := Lib.hid hp3
  have HC1 := Lib.hid hc1
  have HA1 := Lib.hid A1
  have HA2 := Lib.hid A2
  have HB2 := Lib.hid hb2
  have k3 : w2.cell? ⟨a, 3, none⟩ = some (.map (some rn)) := A2.box.cell 3
  clear hv2 hk2 hp2 hp3 hc1 A1 A2 hbx hr1 ho hb2 c1 c0 hr HA HD2
  go_wp2_with (at_mapUpdate; go_must (refine wpList_put rfl _ _ _ _ rfl (mk := Value.int .i64) Try.underlying98 (plain_int Try.underlying3) rn kv rfl hm2 i rfl _ rfl (finds_int Try.underlying3 _ _) ?_))
  intro w3 hm3 hc3
  have B3 := HA2.out.box.chg hc3 (HA2.out.now.ne_blk HA2.out.box)
  have hp4 := own_chg hp1 hc3 (fun g hg => (HA2.out.pend_ne hg).2.2)
  have k4' : w3.cell? ⟨a, 4, none⟩ = some pv := B3.cell 4
  have HB3 := Lib.hid B3
  have hz3 := hc3.size
  have HC3 := Lib.hid hc3
  have hpa := HA2.out.nums.fit.len
  have hac2 := D.act_same.2.2.2.2.2
  have hbz : 0 ≤ w3.heap.size := by omega
  have hnp : (D.act.2.pend.length + 1) * 32 ≤ 140737488355328 := by omega
  have hnm : D.act.2.pend.length + 1 ≤ maxLen := by unfold maxLen; omega
  have HB32 := Lib.hid hnp
  have HML := Lib.hid hnm
  have HBZ := Lib.hid hbz
  clear hp1 k3 B3 hc3 hnp hnm hpa hac2 hbz
  go_wp2_with (at_builtin; go_must (refine wpList_append rfl (.tmp 48) (.tmp 52) _ rfl el_write 0 _ _ _ rfl (hp4.alloc _) _ 1 1 [.int .i64 i, .slice (some ⟨g2, 0, none⟩) ws.length cc2] rfl rfl (Row.new w3 #[.int .i64 i, .slice (some ⟨g2, 0, none⟩) ws.length cc2] _ _) (by intro u hu; simp at hu; rcases hu with rfl | rfl <;> rfl) HML.out HB32.out (Nat.zero_le _) ?_))
  intro v5 w5 hown5 hg5 hq5 hb5
  have hzz : w.heap.size ≤ w3.heap.size := by omega
  have HV5 : Hid (∀ g, v5.ownBlock = some g → O g) := Lib.hid (fun g hg => by
    rcases hq5 with e | e
    · exact HA1.out.pout g (e ▸ hg)
    · rw [e] at hg
      injection hg with hg
      exact hO g (by rw [← hg]; first | omega | (simp; omega) | exact Nat.le_trans hzz (((Below.refl w3.heap.size w3).alloc (Nat.le_refl _) _).size)))
  clear hq5 hzz
  obtain ⟨a5, c5, rfl⟩ := own_form hown5
  have hc5 : Chg (fun k => some k = pv.ownBlock) w3 w5 := ((Chg.refl _ w3).alloc _).trans (Chg.of_grown hg5) (fun _ _ h => h)
  have hra : ¬ some a = pv.ownBlock := fun e => own_ne_blk hp4 HB3.out (by decide) e.symm
  have B5 := HB3.out.chg hc5 hra
  have k4 : w5.cell? ⟨a, 4, none⟩ = some pv := B5.cell 4
  have f4 := B5.frozen 4
  have HG5 := Lib.hid hg5
  have HO5 := Lib.hid hown5
  clear hg5 hc5 hra B5 hown5 hb5 k4'
  go_wp2_with fail
  go_ret
  obtain ⟨q1, q2⟩ := put_close HA1.out HB2.out HV.out hm2 HK.out hm3 HC3.out HP2.out HP3.out hp4 HO5.out HG5.out HBZ.out (put_nums HA1.out.nums (by rw [H4.out]; exact D.act_same.2.2.2.1.symm) (act_len HF.out H.out.nums)) HV5.out
  exact ⟨rfl, q1, (HC1.out.mono (fun k _ h => .inl h)).trans q2 (fun k _ h => h)⟩
end

end Go.Proofs.Ytmmkncocgjgapaa.Dev
