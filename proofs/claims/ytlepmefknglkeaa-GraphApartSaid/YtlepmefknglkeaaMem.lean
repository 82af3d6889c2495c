/- Words for memory that all walks of this seat use: a slice that reads as a list of one-cell values. No condition. -/
import Derived.WalkKit
import Derived.Lib.Hide
import Derived.WalkSpells
import Derived.WalkLawsBesides
import Derived.Maps.AppendAt
import Derived.Deep.QuietTactic
import Derived.BigQuiet
import Derived.Deep.AppendLies
namespace Go.Proofs.Ytlepmefknglkeaa
open Go.RowKit

theorem cell_lt {w : World} {a : Addr} {v : Value} (h : w.cell? a = some v) : a.block < w.heap.size ∧ a.spot = none := by
  unfold World.cell? at h
  rcases Nat.lt_or_ge a.block w.heap.size with hlt | hge
  · refine ⟨hlt, ?_⟩
    split at h
    · split at h
      · cases h
      · cases hs : a.spot with
        | none => rfl
        | some s => simp_all
    · cases h
  · rw [Array.getElem?_eq_none hge] at h
    cases h

theorem _root_.Go.RowKit.Below.trans' {B : Nat} {a b c : World} (h : Below B b c) (k : Below B a b) : Below B a c := k.trans h

/-- The slice's address leads to the cells xs (nil where there are none). -/
def Row (w : World) (a : Option Addr) (xs : List Value) : Prop := ∀ i, i < xs.length → ∃ x, a = some x ∧ w.cell? (x.add i) = xs[i]?

theorem add_none (b off i : Nat) : (⟨b, off, none⟩ : Addr).add i = ⟨b, off + i, none⟩ := by
  unfold Addr.add
  split
  · subst_vars; rfl
  · rfl

theorem Row.nil (w : World) (a : Option Addr) : Row w a [] := fun i h => absurd h (by simp)

theorem Row.at_ {w : World} {a : Option Addr} {xs : List Value} (h : Row w a xs) {i : Nat} (hi : i < xs.length) :
    ∃ b off, a = some ⟨b, off, none⟩ ∧ w.cell? ⟨b, off + i, none⟩ = some xs[i] ∧ b < w.heap.size := by
  obtain ⟨x, rfl, hc⟩ := h i hi
  rw [List.getElem?_eq_getElem hi] at hc
  have hl := cell_lt hc
  obtain ⟨b, off, spot⟩ := x
  have hs : spot = none := by
    obtain ⟨y, hy, h0⟩ := h 0 (by omega)
    obtain rfl := Option.some.inj hy
    rw [List.getElem?_eq_getElem (by omega)] at h0
    exact (cell_lt h0).2
  subst hs
  have he : (⟨b, off, none⟩ : Addr).add i = ⟨b, off + i, none⟩ := by
    unfold Addr.add
    split
    · subst_vars; rfl
    · rfl
  rw [he] at hc hl
  exact ⟨b, off, rfl, hc, hl.1⟩

theorem cell_new (w : World) (vs : Array Value) (t : TypeId) (fr : Nat × Nat) (i : Nat) : (w.alloc (.cells vs t fr)).cell? ⟨w.heap.size, i, none⟩ = vs[i]? := by
  unfold World.cell?
  have : (w.alloc (.cells vs t fr)).heap[w.heap.size]? = some (.cells vs t fr) := by
    show (w.heap.push _)[w.heap.size]? = _
    rw [Array.getElem?_push_size]
  rw [show ((⟨w.heap.size, i, none⟩ : Addr).block) = w.heap.size from rfl, this]
  rfl

theorem Row.new (w : World) (vs : Array Value) (t : TypeId) (fr : Nat × Nat) : Row (w.alloc (.cells vs t fr)) (some ⟨w.heap.size, 0, none⟩) vs.toList := by
  intro i _
  refine ⟨_, rfl, ?_⟩
  rw [add_none, Nat.zero_add, cell_new]
  simp

theorem Row.below {w w' : World} {a : Option Addr} {xs : List Value} (h : Row w a xs) (hb : Below w.heap.size w w') : Row w' a xs := by
  intro i hi
  obtain ⟨x, e, hc⟩ := h i hi
  refine ⟨x, e, ?_⟩
  rw [List.getElem?_eq_getElem hi] at hc ⊢
  rw [hb.cell (cell_lt hc).1, hc]

theorem Row.take {w : World} {a : Option Addr} {xs : List Value} (h : Row w a xs) (k : Nat) : Row w a (xs.take k) := by
  intro i hi
  obtain ⟨x, e, hc⟩ := h i (by simp at hi; omega)
  exact ⟨x, e, by rw [hc, List.getElem?_take, if_pos (by simp at hi; omega)]⟩
theorem Row.drop {w : World} {b off : Nat} {xs : List Value} (h : Row w (some ⟨b, off, none⟩) xs) (k : Nat) : Row w (some ⟨b, off + k, none⟩) (xs.drop k) := by
  intro i hi
  rw [List.length_drop] at hi
  obtain ⟨x, e, hc⟩ := h (k + i) (by omega)
  injection e with e
  subst e
  refine ⟨_, rfl, ?_⟩
  rw [add_none] at hc ⊢
  rw [Nat.add_assoc, hc, List.getElem?_drop]
theorem Row.drewN {w : World} {a : Option Addr} {xs : List Value} (h : Row w a xs) (n : Nat) : Row (w.drewN n) a xs := h
theorem Row.drew {w : World} {a : Option Addr} {xs : List Value} (h : Row w a xs) : Row w.drew a xs := h

/-- A callee that leaves the world alone, met in a region that draws its order. -/
theorem Calls.quiet_of_same' {P : Program} {f : FuncId} {args : Array Value} {w : World} {n : Nat} {v : Value}
    (h : Calls P f args (w.drewN n) fun e w' => e = .returned v ∧ w.drewN n = w') : Calls P f args (w.drewN n) fun e w'' => e = .returned v ∧ ∃ m, w'' = w.drewN m :=
  h.mono fun _ _ ⟨he, hm⟩ => ⟨he, n, hm.symm⟩

theorem Row.grown {w w' : World} {a : Option Addr} {xs : List Value} {r : Option Nat} (h : Row w a xs) (hg : w.grownBy w' r) (hr : ∀ x, a = some x → some x.block ≠ r) : Row w' a xs := by
  intro i hi
  obtain ⟨x, e, hc⟩ := h i hi
  refine ⟨x, e, ?_⟩
  rw [List.getElem?_eq_getElem hi] at hc ⊢
  exact hg.cell hc (by have hb : (x.add i).block = x.block := by unfold Addr.add; split <;> rfl
                       rw [hb]; exact hr x e)

theorem Row.of_own {w : World} {base : Nat} {e : TypeId} {n : Nat} {a : Option Addr} {m c : Nat} {xs : List Value} (h : w.ownsRow base e 1 (.slice a m c) n xs) : Row w a xs ∧ m = n ∧ xs.length = n := by
  refine ⟨fun i hi => ?_, ?_, by simpa using h.1⟩
  · have hn : 0 < n := by have := h.1; omega
    obtain ⟨g, cap, hv, _, _⟩ := World.ownsRow.form h hn
    injection hv with hv
    subst hv
    exact ⟨_, rfl, by rw [List.getElem?_eq_getElem hi]; exact h.cells (g := g) rfl i _ (List.getElem?_eq_getElem hi)⟩
  · rcases h.2 with ⟨hv, h0⟩ | ⟨g, cap, cur, hv, _⟩
    · injection hv with _ hv; omega
    · injection hv with _ hv

theorem own_slice {w : World} {base : Nat} {e : TypeId} {n : Nat} {v : Value} {xs : List Value} (h : w.ownsRow base e 1 v n xs) : ∃ a c, v = .slice a n c ∧ Row w a xs ∧ n ≤ c ∧ c ≤ maxLen ∧ xs.length = n := by
  rcases h.2 with ⟨rfl, h0⟩ | ⟨g, cap, cur, rfl, _, _, h1, h2, _⟩
  · subst h0; exact ⟨none, 0, rfl, (Row.of_own h).1, Nat.le_refl _, by unfold maxLen; omega, by simpa using h.1⟩
  · exact ⟨_, cap, rfl, (Row.of_own h).1, h1, h2, by simpa using h.1⟩

/-- The call returns a slice of its own that holds the cells xs; below 'base' nothing has turned. -/
def RetOwn (base : Nat) (e : TypeId) (size n : Nat) (xs : List Value) (w : World) (r : Ending) (w' : World) : Prop :=
  ∃ v, r = .returned v ∧ w'.ownsRow base e size v n xs ∧ Below base w w'

/-- Bytes, as cells. -/
def byts (l : List Nat) : List Value := l.map fun c : Nat => Value.int .u8 (c : Int)
theorem byts_length (l : List Nat) : (byts l).length = l.length := by simp [byts]
theorem byts_append (a b : List Nat) : byts (a ++ b) = byts a ++ byts b := by simp [byts]
theorem byts_one (l : List Nat) : ∀ u ∈ byts l, u.oneCell' = true := by
  intro u hu
  simp only [byts, List.mem_map] at hu
  obtain ⟨_, _, rfl⟩ := hu
  rfl
theorem byts_get (l : List Nat) (k : Nat) (h : k < l.length) : (byts l)[k]? = some (.int .u8 (l[k] : Int)) := by simp [byts, h]

/-- What the program's tables say of a slice type and its elements. -/
def Elem (P : Program) (t e : TypeId) (size bytes : Nat) : Prop :=
  P.underlying t = some (.slice e) ∧ ∃ i z, P.info? e = some i ∧ i.zero = some z ∧ i.size = size ∧ i.bytes = bytes ∧ z.cells.size = size ∧ 0 < size

theorem elem_of {P : Program} {t e : TypeId} {size bytes : Nat} {z : Value} (ht : P.underlying t = some (.slice e)) (hi : (P.info? e).map (fun i => (i.zero, i.size, i.bytes)) = some (some z, size, bytes)) (hz : z.cells.size = size) (h0 : 0 < size) :
    Elem P t e size bytes := by
  obtain ⟨i, h1, h2, h3, h4⟩ := info_parts hi
  exact ⟨ht, i, z, h1, h2, h3, h4, hz, h0⟩

section
variable {P : Program} {w : World}

theorem run_append_none (base : Nat) {t ty e : TypeId} {size bytes : Nat} (he : Elem P t e size bytes) (v : Value) (n : Nat) (xs : List Value) (hown : w.ownsRow base e size v n xs) (c : Nat) :
    (Builtin.append_ #[t, t] ty #[v, .slice none 0 c]).run P w = .ok v w := by
  obtain ⟨ht, i, z, hi, _⟩ := he
  rcases hown.2 with ⟨rfl, rfl⟩ | ⟨g, cap, cur, rfl, _, _, hnc, _⟩
  · simp [Builtin.append_, run_underlying ht, sizeOf, typeInfo, hi, Builtin.lenOf, Builtin.firstCells]
  · simp [Builtin.append_, run_underlying ht, sizeOf, typeInfo, hi, Builtin.lenOf, Builtin.firstCells, hnc, storeCells]

/-- An append onto a row of the call's own, of whatever cells the other slice leads to (nil, empty or not). -/
theorem wp_append {o : Oper} {a : Act} {K : Act → World → Prop} {Q : Exit → Act → World → Prop} (s x : Operand) (t : TypeId)
    (ho : o.op = .call { callee := .builtin .append, args := #[s, x], argTypes := #[t, t] })
    {e : TypeId} {size bytes : Nat} (he : Elem P t e size bytes) (base : Nat)
    (v : Value) (n : Nat) (xs : List Value) (hs : a.eval s = v) (hown : w.ownsRow base e size v n xs)
    (A : Option Addr) (m c : Nat) (news : List Value) (hx : a.eval x = .slice A m c) (hl : news.length = m * size) (hr : Row w A news) (h1 : ∀ u ∈ news, u.oneCell' = true)
    (h63 : n + m ≤ maxLen) (hbytes : (n + m) * bytes ≤ 140737488355328) (hbase : base ≤ w.heap.size)
    (h : ∀ v' w', w'.ownsRow base e size v' (n + m) (xs ++ news) → w.grownBy w' v.ownBlock → (v'.ownBlock = v.ownBlock ∨ v'.ownBlock = some w.heap.size) → Below base w w' → K (a.put o.dst v') w') : o.wp P a w K Q := by
  have key : ∃ v' w', (Builtin.append_ #[t, t] o.type #[v, .slice A m c]).run P w = .ok v' w' ∧ w'.ownsRow base e size v' (n + m) (xs ++ news) ∧ w.grownBy w' v.ownBlock ∧
      (v'.ownBlock = v.ownBlock ∨ v'.ownBlock = some w.heap.size) := by
    have none_ : m = 0 → ∃ v' w', (Builtin.append_ #[t, t] o.type #[v, .slice none m c]).run P w = .ok v' w' ∧ w'.ownsRow base e size v' (n + m) (xs ++ news) ∧ w.grownBy w' v.ownBlock ∧
        (v'.ownBlock = v.ownBlock ∨ v'.ownBlock = some w.heap.size) := by
      intro hm
      subst hm
      have hn : news = [] := List.eq_nil_of_length_eq_zero (by simpa using hl)
      subst hn
      exact ⟨v, w, run_append_none base he v n xs hown c, by simpa using hown, World.grownBy.refl w _, .inl rfl⟩
    cases A with
    | none =>
      refine none_ ?_
      rcases Nat.eq_zero_or_pos m with h0 | h0
      · exact h0
      · obtain ⟨_, _, _, _, _, _, _, _, hsz⟩ := he
        obtain ⟨x, hx, _⟩ := hr 0 (by rw [hl]; exact Nat.mul_pos h0 hsz)
        cases hx
    | some ad =>
      obtain ⟨ht, i, z, hi, hz, hsize, hby, hzs, hsz⟩ := he
      obtain ⟨v', w', hrun, h2, h3, _, h5⟩ := run_append_own_at (P := P) w base t o.type e i z size bytes ht hi hz hsize hby hzs hsz v n xs hown ad m c news hl
        (fun j u hu => by
          obtain ⟨hj, rfl⟩ := List.getElem?_eq_some_iff.1 hu
          obtain ⟨x, hx, hc⟩ := hr j hj
          injection hx with hx
          subst hx
          rw [hc, List.getElem?_eq_getElem hj]) h1 h63 hbytes hbase
      exact ⟨v', w', hrun, h2, h3, h5⟩
  obtain ⟨v', w', hrun, h2, h3, h4⟩ := key
  have hb : Below base w w' := (Below.refl base w).grown h3 hbase (fun k hk => (hown.lt k hk).1)
  unfold Oper.wp execOp
  simp only [ho, resolve, invoke, builtin, Sem.run_bind, Sem.run_pure, Result.andThen_ok, List.map_toArray, List.map_cons, List.map_nil, hs, hx, hrun]
  exact h v' w' h2 h3 h4 hb

theorem step_append {ops : Array Oper} {o : Oper} {a : Act} {K : Act → World → Prop} {Q : Exit → Act → World → Prop} {E : Prop} (hgd : o.guard = none) (s x : Operand) (t : TypeId)
    (ho : o.op = .call { callee := .builtin .append, args := #[s, x], argTypes := #[t, t] })
    {e : TypeId} {size bytes : Nat} (he : Elem P t e size bytes) (base : Nat)
    (v : Value) (n : Nat) (xs : List Value) (hs : a.eval s = v) (hown : w.ownsRow base e size v n xs)
    (A : Option Addr) (m c : Nat) (news : List Value) (hx : a.eval x = .slice A m c) (hl : news.length = m * size) (hr : Row w A news) (h1 : ∀ u ∈ news, u.oneCell' = true)
    (h63 : n + m ≤ maxLen) (hbytes : (n + m) * bytes ≤ 140737488355328) (hbase : base ≤ w.heap.size)
    (h : ∀ v' w', w'.ownsRow base e size v' (n + m) (xs ++ news) → w.grownBy w' v.ownBlock → (v'.ownBlock = v.ownBlock ∨ v'.ownBlock = some w.heap.size) → Below base w w' → K (a.put o.dst v') w') :
    if Region.wanted o (yielded ops a.tmps) = true then Oper.wp P o a w K Q else E := by
  have hw : Region.wanted o (yielded ops a.tmps) = true := by simp [Region.wanted, hgd]
  rw [if_pos hw]
  exact wp_append s x t ho he base v n xs hs hown A m c news hx hl hr h1 h63 hbytes hbase h

theorem wpList_append {ops : Array Oper} {rest : List Oper} {o : Oper} {a : Act} {Q : Exit → Act → World → Prop} (hgd : o.guard = none) (s x : Operand) (t : TypeId)
    (ho : o.op = .call { callee := .builtin .append, args := #[s, x], argTypes := #[t, t] })
    {e : TypeId} {size bytes : Nat} (he : Elem P t e size bytes) (base : Nat)
    (v : Value) (n : Nat) (xs : List Value) (hs : a.eval s = v) (hown : w.ownsRow base e size v n xs)
    (A : Option Addr) (m c : Nat) (news : List Value) (hx : a.eval x = .slice A m c) (hl : news.length = m * size) (hr : Row w A news) (h1 : ∀ u ∈ news, u.oneCell' = true)
    (h63 : n + m ≤ maxLen) (hbytes : (n + m) * bytes ≤ 140737488355328) (hbase : base ≤ w.heap.size)
    (h : ∀ v' w', w'.ownsRow base e size v' (n + m) (xs ++ news) → w.grownBy w' v.ownBlock → (v'.ownBlock = v.ownBlock ∨ v'.ownBlock = some w.heap.size) → Below base w w' → wpList P ops Q rest (a.put o.dst v') w') : wpList P ops Q (o :: rest) a w :=
  wpList_plain hgd fun _ hK => wp_append s x t ho he base v n xs hs hown A m c news hx hl hr h1 h63 hbytes hbase fun v' w' h2 h3 h4 h5 => hK _ _ (h v' w' h2 h3 h4 h5)
end

/-- A row of equal cells, kept behind a name. -/
def same (n : Nat) (z : Value) : Array Value := Array.replicate n z
theorem same_get (n : Nat) (z : Value) (i : Nat) (h : i < n) : (same n z)[i]? = some z := by simp [same, h]
theorem same_size (n : Nat) (z : Value) : (same n z).size = n := by simp [same]
theorem same_list (n : Nat) (z : Value) : (same n z).toList = List.replicate n z := by simp [same]

/-- 'make' with a length that is no literal, of one-cell elements. -/
theorem run_make_of {P : Program} {t e : TypeId} {bytes : Nat} {z : Value} (ht : P.underlying t = some (.slice e)) (hi : (P.info? e).map (fun i => (i.zero, i.size, i.bytes)) = some (some z, 1, bytes)) (hz : z.cells = #[z])
    (k1 k2 : IntKind) (n : Nat) (hb : bytes * n ≤ 281474976710656) (hn : n ≤ 281474976710656) (w : World) :
    (Instr.makeSlice t (.int k1 (n : Int)) (.int k2 (n : Int))).run P w = .ok (.slice (some ⟨w.heap.size, 0, none⟩) n n) (w.alloc (.cells (same n z) e)) := by
  obtain ⟨i, h1, h2, h3, h4⟩ := info_parts hi
  have hb' : (i.bytes : Int) * (n : Int) ≤ 281474976710656 := by
    rw [h4]
    have h : ((bytes * n : Nat) : Int) ≤ 281474976710656 := by omega
    rwa [Int.natCast_mul] at h
  have hr := run_make (P := P) w t e i z ht h1 h2 k1 k2 n n (by omega) (Int.le_refl _) hb' (by omega)
  simp only [Int.toNat_natCast] at hr
  rw [hr]
  have : madeCells z.cells (n * i.size) = same n z := by
    rw [hz, h3, Nat.mul_one]
    apply Array.toList_inj.1
    rw [toList_madeCells_one, same_list]
  rw [this]

end Go.Proofs.Ytlepmefknglkeaa
