/- The laws of SpMem for the walk, and rows of extents. No condition. -/
import Derived.Test.YtodjibhnmibedaaSpMem
import Derived.Deep.RegionLaw
set_option linter.unusedVariables false
namespace Go.Proofs.Ytodjibhnmibedaa
open Go.RowKit

section
variable {P : Program} {w : World} {ops : Array Oper} {rest : List Oper} {o : Oper} {a : Act} {K : Act → World → Prop} {Q : Exit → Act → World → Prop}

theorem wp_copy_at (d s : Operand) (dT sT : TypeId) (ho : o.op = .call { callee := .builtin .copy, args := #[d, s], argTypes := #[dT, sT] }) (elem : TypeId) (size : Nat)
    (hu : P.underlying dT = some (.slice elem)) (hs : (P.info? elem).map (·.size) = some size) (dp sp : Option Addr) (dLen dCap sLen sCap : Nat) (hd : a.eval d = .slice dp dLen dCap) (hx : a.eval s = .slice sp sLen sCap)
    (g off : Nat) (cur : List Value) (t : TypeId) (hg : Blk w g t cur.toArray) (cs : List Value) (hn : cs.length = Nat.min sLen dLen * size)
    (hpos : 0 < cs.length → dp = some ⟨g, off, none⟩ ∧ ∃ ad, sp = some ad ∧ ∀ j v, cs[j]? = some v → w.cell? (ad.add j) = some v)
    (hfit : off + cs.length ≤ cur.length) (h1 : ∀ v ∈ cs, v.oneCell' = true)
    (h : ∀ w', Hid (Blk w' g t (splice cur off cs).toArray) → Hid (Chg (fun k => k = g) w w') → K (a.put o.dst (goInt (Nat.min sLen dLen))) w') : o.wp P a w K Q := by
  obtain ⟨w', hrun, h2, h3, -⟩ := run_copy_at (ty := o.type) dT sT elem size dp sp dLen dCap sLen sCap g off cur t cs hu hs hg hn hpos hfit h1
  unfold Oper.wp execOp
  simp only [ho, resolve, invoke, builtin, Sem.run_bind, Sem.run_pure, Result.andThen_ok, List.map_toArray, List.map_cons, List.map_nil, hd, hx, hrun]
  exact h w' h2 h3
theorem wpList_copy_at (hgd : o.guard = none) (d s : Operand) (dT sT : TypeId) (ho : o.op = .call { callee := .builtin .copy, args := #[d, s], argTypes := #[dT, sT] }) (elem : TypeId) (size : Nat)
    (hu : P.underlying dT = some (.slice elem)) (hs : (P.info? elem).map (·.size) = some size) (dp sp : Option Addr) (dLen dCap sLen sCap : Nat) (hd : a.eval d = .slice dp dLen dCap) (hx : a.eval s = .slice sp sLen sCap)
    (g off : Nat) (cur : List Value) (t : TypeId) (hg : Blk w g t cur.toArray) (cs : List Value) (hn : cs.length = Nat.min sLen dLen * size)
    (hpos : 0 < cs.length → dp = some ⟨g, off, none⟩ ∧ ∃ ad, sp = some ad ∧ ∀ j v, cs[j]? = some v → w.cell? (ad.add j) = some v)
    (hfit : off + cs.length ≤ cur.length) (h1 : ∀ v ∈ cs, v.oneCell' = true)
    (h : ∀ w', Hid (Blk w' g t (splice cur off cs).toArray) → Hid (Chg (fun k => k = g) w w') → wpList P ops Q rest (a.put o.dst (goInt (Nat.min sLen dLen))) w') : wpList P ops Q (o :: rest) a w :=
  wpList_plain hgd fun _ hK => wp_copy_at d s dT sT ho elem size hu hs dp sp dLen dCap sLen sCap hd hx g off cur t hg cs hn hpos hfit h1 fun w' h2 h3 => hK _ _ (h w' h2 h3)
theorem step_copy_at {E : Prop} (hgd : o.guard = none) (d s : Operand) (dT sT : TypeId) (ho : o.op = .call { callee := .builtin .copy, args := #[d, s], argTypes := #[dT, sT] }) (elem : TypeId) (size : Nat)
    (hu : P.underlying dT = some (.slice elem)) (hs : (P.info? elem).map (·.size) = some size) (dp sp : Option Addr) (dLen dCap sLen sCap : Nat) (hd : a.eval d = .slice dp dLen dCap) (hx : a.eval s = .slice sp sLen sCap)
    (g off : Nat) (cur : List Value) (t : TypeId) (hg : Blk w g t cur.toArray) (cs : List Value) (hn : cs.length = Nat.min sLen dLen * size)
    (hpos : 0 < cs.length → dp = some ⟨g, off, none⟩ ∧ ∃ ad, sp = some ad ∧ ∀ j v, cs[j]? = some v → w.cell? (ad.add j) = some v)
    (hfit : off + cs.length ≤ cur.length) (h1 : ∀ v ∈ cs, v.oneCell' = true)
    (h : ∀ w', Hid (Blk w' g t (splice cur off cs).toArray) → Hid (Chg (fun k => k = g) w w') → K (a.put o.dst (goInt (Nat.min sLen dLen))) w') : if Region.wanted o (yielded ops a.tmps) = true then Oper.wp P o a w K Q else E := by
  have hw : Region.wanted o (yielded ops a.tmps) = true := by simp [Region.wanted, hgd]
  rw [if_pos hw]
  exact wp_copy_at d s dT sT ho elem size hu hs dp sp dLen dCap sLen sCap hd hx g off cur t hg cs hn hpos hfit h1 h

theorem wpList_clear_at (hgd : o.guard = none) (d : Operand) (dT : TypeId) (ho : o.op = .call { callee := .builtin .clear, args := #[d], argTypes := #[dT] }) (elem : TypeId) (size : Nat) (z : Value)
    (hu : P.underlying dT = some (.slice elem)) (hv : ∀ w, (zeroValue elem).run P w = .ok z w) (hz : z.cells.size = size) (hz1 : ∀ v ∈ z.cells, v.oneCell' = true)
    (dp : Option Addr) (n c : Nat) (hd : a.eval d = .slice dp n c) (g off : Nat) (cur : List Value) (t : TypeId) (hg : Blk w g t cur.toArray) (hpos : 0 < n → dp = some ⟨g, off, none⟩) (hfit : off + n * size ≤ cur.length)
    (h : ∀ w' zs, Hid (zs.length = n * size) → Hid (Blk w' g t (splice cur off zs).toArray) → Hid (Chg (fun k => k = g) w w') → wpList P ops Q rest (a.put o.dst (.tuple #[])) w') : wpList P ops Q (o :: rest) a w := by
  refine wpList_plain hgd fun _ hK => ?_
  obtain ⟨w', zs, hrun, h1, h2, h3, -⟩ := run_clear_at (ty := o.type) dT elem size z dp n c g off cur t hu hv hz hz1 hg hpos hfit
  unfold Oper.wp execOp
  simp only [ho, resolve, invoke, builtin, Sem.run_bind, Sem.run_pure, Result.andThen_ok, List.map_toArray, List.map_cons, List.map_nil, hd, hrun]
  exact hK _ _ (h w' zs h1 h2 h3)

theorem wpList_append_at (hgd : o.guard = none) (s x : Operand) (t : TypeId) (ho : o.op = .call { callee := .builtin .append, args := #[s, x], argTypes := #[t, t] }) (e : TypeId) (size : Nat)
    (hu : P.underlying t = some (.slice e)) (hs : (P.info? e).map (·.size) = some size) (n cap : Nat) (g : Nat) (cur : List Value) (hd : a.eval s = .slice (some ⟨g, 0, none⟩) n cap) (hg : Blk w g e cur.toArray)
    (A : Option Addr) (m c : Nat) (news : List Value) (hx : a.eval x = .slice A m c) (hl : news.length = m * size) (hr : Row w A news) (h1 : ∀ u ∈ news, u.oneCell' = true)
    (hroom : n + m ≤ cap) (hfit : n * size + news.length ≤ cur.length) (hsz : 0 < size)
    (h : ∀ w', Hid (Blk w' g e (splice cur (n * size) news).toArray) → Hid (Chg (fun k => k = g) w w') → wpList P ops Q rest (a.put o.dst (.slice (some ⟨g, 0, none⟩) (n + m) cap)) w') : wpList P ops Q (o :: rest) a w := by
  refine wpList_plain hgd fun _ hK => ?_
  obtain ⟨w', hrun, h2, h3, -⟩ := run_append_at (ty := o.type) t e size n cap g cur A m c news hu hs hg hl hr h1 hroom hfit hsz
  unfold Oper.wp execOp
  simp only [ho, resolve, invoke, builtin, Sem.run_bind, Sem.run_pure, Result.andThen_ok, List.map_toArray, List.map_cons, List.map_nil, hd, hx, hrun]
  exact hK _ _ (h w' h2 h3)

theorem wpList_append_zeros (hgd : o.guard = none) (s x : Operand) (t tn : TypeId) (ho : o.op = .call { callee := .builtin .append, args := #[s, x], argTypes := #[t, tn] }) (e : TypeId) (k kn : IntKind) (size bytes : Nat) (z : Value)
    (hu : P.underlying t = some (.slice e)) (htn : P.underlying tn = some (.int kn)) (hinf : (P.info? e).map (fun i => (i.zero, i.size, i.bytes)) = some (some z, size, bytes)) (hz : z.cells.size = size) (hsz : 0 < size)
    (n cap : Nat) (sp : Option Addr) (m : Nat) (xs : List Value) (hd : a.eval s = .slice sp n cap) (hq : a.eval x = .int k (m : Int))
    (hx : xs.length = n * size) (hr : Row w sp xs) (hno : ¬ n + m ≤ cap) (h63 : n + m ≤ maxLen) (hbytes : (n + m) * bytes ≤ 140737488355328) (hcap : cap ≤ 4611686018427387904) (hm : 0 < m) (tot : Nat) (htot : n + m = tot)
    (h : ∀ w' C S, Hid (tot ≤ C ∧ C ≤ maxLen) → Hid (S.length = C * size) → Hid (∃ r, S = xs ++ r) → Hid (Blk w' w.heap.size e S.toArray) → Hid (Below w.heap.size w w') → wpList P ops Q rest (a.put o.dst (.slice (some ⟨w.heap.size, 0, none⟩) tot C)) w') : wpList P ops Q (o :: rest) a w := by
  subst htot
  refine wpList_plain hgd fun _ hK => ?_
  obtain ⟨w', C, r, hrun, c1, c2, h2, h3, h4, -⟩ := run_append_zeros (ty := o.type) t tn e k kn size bytes z n cap sp m xs hu htn hinf hz hsz hx hr hno h63 hbytes hcap hm
  unfold Oper.wp execOp
  simp only [ho, resolve, invoke, builtin, Sem.run_bind, Sem.run_pure, Result.andThen_ok, List.map_toArray, List.map_cons, List.map_nil, hd, hq, hrun]
  exact hK _ _ (h w' C (xs ++ r) ⟨c1, c2⟩ h3 ⟨r, rfl⟩ h2 h4)
end

namespace Sp
abbrev Ext : Type := Nat × Nat
/-- Extents, as cells. -/
def flatX (l : List Ext) : List Value := l.flatMap fun e => [.int .i64 (e.1 : Int), .int .i64 (e.2 : Int)]
theorem flatX_nil : flatX [] = [] := rfl
theorem flatX_cons (e : Ext) (l : List Ext) : flatX (e :: l) = .int .i64 (e.1 : Int) :: .int .i64 (e.2 : Int) :: flatX l := rfl
theorem flatX_append (l m : List Ext) : flatX (l ++ m) = flatX l ++ flatX m := by simp [flatX]
theorem flatX_length (l : List Ext) : (flatX l).length = l.length * 2 := by
  induction l with
  | nil => rfl
  | cons e l ih => rw [flatX_cons]; simp [ih]; omega
theorem flatX_take (l : List Ext) (k : Nat) : (flatX l).take (k * 2) = flatX (l.take k) := by
  induction k generalizing l with
  | zero => simp [flatX_nil]
  | succ k ih =>
    cases l with
    | nil => simp [flatX_nil]
    | cons e l =>
      rw [List.take_succ_cons, flatX_cons, flatX_cons, show (k + 1) * 2 = k * 2 + 1 + 1 by omega, List.take_succ_cons, List.take_succ_cons, ih]
theorem flatX_drop (l : List Ext) (k : Nat) : (flatX l).drop (k * 2) = flatX (l.drop k) := by
  induction k generalizing l with
  | zero => simp
  | succ k ih =>
    cases l with
    | nil => simp [flatX_nil]
    | cons e l =>
      rw [List.drop_succ_cons, flatX_cons, show (k + 1) * 2 = k * 2 + 1 + 1 by omega, List.drop_succ_cons, List.drop_succ_cons, ih]
theorem flatX_get (l : List Ext) (k : Nat) (h : k < l.length) : (flatX l)[k * 2]? = some (.int .i64 (l[k].1 : Int)) ∧ (flatX l)[k * 2 + 1]? = some (.int .i64 (l[k].2 : Int)) := by
  induction l generalizing k with
  | nil => exact absurd h (by simp)
  | cons e l ih =>
    cases k with
    | zero => exact ⟨rfl, rfl⟩
    | succ k =>
      have := ih k (by simpa using h)
      rw [flatX_cons, show (k + 1) * 2 = k * 2 + 1 + 1 by omega]
      exact this
theorem flatX_one (l : List Ext) : ∀ v ∈ flatX l, v.oneCell' = true := by
  intro v hv
  simp only [flatX, List.mem_flatMap] at hv
  obtain ⟨e, _, he⟩ := hv
  simp at he
  rcases he with rfl | rfl <;> rfl

theorem el_ext : Elem Try.prog 65 69 2 16 := elem_of (z := .agg #[.int .i64 0, .int .i64 0]) Try.underlying65 (by kernel_rfl) rfl (by omega)
theorem info_ext : (Try.prog.info? 69).map (fun i => (i.zero, i.size, i.bytes)) = some (some (.agg #[.int .i64 0, .int .i64 0]), 2, 16) := by kernel_rfl
theorem size_ext : (Try.prog.info? 69).map (·.size) = some 2 := by kernel_rfl
theorem zero_ext (w : World) : (zeroValue 69).run Try.prog w = .ok (.agg #[.int .i64 0, .int .i64 0]) w := by kernel_rfl

/-- A row of extents of the call's own: n of them, in the block g of room cap. -/
structure XBlk (w : World) (g cap : Nat) (l : List Ext) (rest : List Value) : Prop where
  blk : Blk w g 69 (flatX l ++ rest).toArray
  len : l.length * 2 + rest.length = cap * 2
  cap : cap ≤ maxLen
theorem XBlk.own {w : World} {g cap base : Nat} {l : List Ext} {rest : List Value} (h : XBlk w g cap l rest) (hb : base ≤ g) : w.ownsRow base 69 2 (.slice (some ⟨g, 0, none⟩) l.length cap) l.length (flatX l) := by
  refine ⟨flatX_length l, .inr ⟨g, cap, _, rfl, hb, h.blk, ?_, h.cap, ?_, ?_⟩⟩
  · have := h.len; omega
  · have := h.len
    simp [flatX_length]
    omega
  · rw [← flatX_length]
    simp
theorem XBlk.of_own {w : World} {base n : Nat} {v : Value} {l : List Ext} (h : w.ownsRow base 69 2 v n (flatX l)) :
    l.length = n ∧ ((v = .slice none 0 0 ∧ l = []) ∨ ∃ g cap rest, v = .slice (some ⟨g, 0, none⟩) n cap ∧ base ≤ g ∧ g < w.heap.size ∧ XBlk w g cap l rest) := by
  have hl : l.length = n := by have := h.1; rw [flatX_length] at this; omega
  refine ⟨hl, ?_⟩
  rcases h.2 with ⟨rfl, h0⟩ | ⟨g, cap, cur, rfl, hb, hh, h1, h2, h3, h4⟩
  · subst h0
    exact .inl ⟨rfl, List.eq_nil_of_length_eq_zero hl⟩
  · refine .inr ⟨g, cap, cur.toList.drop (n * 2), rfl, hb, Blk.lt (t := 69) (cs := cur) hh, ?_, ?_, h2⟩
    · rw [← h4, List.take_append_drop]
      exact hh
    · have hc : cur.toList.length = cap * 2 := by simpa using h3
      rw [List.length_drop, hc, hl]
      omega

end Sp
end Go.Proofs.Ytodjibhnmibedaa
