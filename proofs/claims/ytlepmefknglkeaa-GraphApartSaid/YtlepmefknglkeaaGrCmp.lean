/- The order of edges in the form that the library's sort asks for; edges as cells; slices.Clone at edges. -/
import Derived.Test.YtlepmefknglkeaaGrRef
import Derived.Test.YtlepmefknglkeaaSortLay
import Derived.Lib.LazyBuf
set_option linter.unusedVariables false
namespace Go.Proofs.Ytlepmefknglkeaa.Gr
open Go.RowKit

/-- Draws and new blocks alone. -/
def Grown (w w' : World) : Prop := ∃ q os, w' = Sort.grow (w.drewN q) os
theorem Grown.refl (w : World) : Grown w w := ⟨0, #[], by rw [Sort.grow_empty]; rfl⟩
theorem Grown.alloc {w w' : World} (h : Grown w w') (o : Obj) : Grown w (w'.alloc o) := by
  obtain ⟨q, os, rfl⟩ := h
  exact ⟨q, os ++ #[o], by rw [Sort.alloc_eq_grow, Sort.grow_grow]⟩
theorem Grown.drew {w w' : World} (h : Grown w w') : Grown w w'.drew := by
  obtain ⟨q, os, rfl⟩ := h
  exact ⟨q + 1, os, by rw [Sort.drew_grow]; rfl⟩

set_option maxRecDepth 100000 in
set_option maxHeartbeats 400000 in
theorem compare_grown (u v x y : Int) (w : World) :
    Calls Try.prog 39 #[.agg #[.int .i64 u, .int .i64 v], .agg #[.int .i64 x, .int .i64 y]] w fun e w' => e = .returned (.int .i64 (cmpE (u, v) (x, y))) ∧ Grown w w' := by
  have B1 := (Blk.new w 36 #[.int .i64 u, .int .i64 v]).alloc (.cells #[.int .i64 x, .int .i64 y] 36)
  have B2 := Blk.new (w.alloc (.cells #[.int .i64 u, .int .i64 v] 36)) 36 #[.int .i64 x, .int .i64 y]
  rw [show (w.alloc (.cells #[.int .i64 u, .int .i64 v] 36)).heap.size = w.heap.size + 1 from by simp] at B2
  have b0 : Grown w ((w.alloc (.cells #[.int .i64 u, .int .i64 v] 36)).alloc (.cells #[.int .i64 x, .int .i64 y] 36)) := ((Grown.refl w).alloc _).alloc _
  have H0 := Lib.hid b0
  have HB1 := Lib.hid B1
  have HB2 := Lib.hid B2
  clear b0 B1 B2
  go_enter Try.func39, Try.ntmps39
  go_wp2_with fail
  have k1 : ((w.alloc (.cells #[.int .i64 u, .int .i64 v] 36)).alloc (.cells #[.int .i64 x, .int .i64 y] 36)).cell? ⟨w.heap.size, 0, none⟩ = some (.int .i64 u) := HB1.out.cell 0
  have k2 : ((w.alloc (.cells #[.int .i64 u, .int .i64 v] 36)).alloc (.cells #[.int .i64 x, .int .i64 y] 36)).cell? ⟨w.heap.size, 1, none⟩ = some (.int .i64 v) := HB1.out.cell 1
  have k3 : ((w.alloc (.cells #[.int .i64 u, .int .i64 v] 36)).alloc (.cells #[.int .i64 x, .int .i64 y] 36)).cell? ⟨w.heap.size + 1, 0, none⟩ = some (.int .i64 x) := HB2.out.cell 0
  have k4 : ((w.alloc (.cells #[.int .i64 u, .int .i64 v] 36)).alloc (.cells #[.int .i64 x, .int .i64 y] 36)).cell? ⟨w.heap.size + 1, 1, none⟩ = some (.int .i64 y) := HB2.out.cell 1
  generalize (w.alloc (.cells #[.int .i64 u, .int .i64 v] 36)).alloc (.cells #[.int .i64 x, .int .i64 y] 36) = W at *
  go_region_held3 (fun w' => w'.cell? ⟨w.heap.size, 0, none⟩ = some (.int .i64 u) ∧ w'.cell? ⟨w.heap.size, 1, none⟩ = some (.int .i64 v) ∧ w'.cell? ⟨w.heap.size + 1, 0, none⟩ = some (.int .i64 x) ∧ w'.cell? ⟨w.heap.size + 1, 1, none⟩ = some (.int .i64 y))
    (go_keep)
    ((first
      | (go_at_call 52; refine (compare_int _ _ _).mono ?_; rintro e w' ⟨rfl, rfl⟩)
      | (go_at_call 51; refine (or_any (cmpI u x) (cmpI v y) _ _ _ (by simp) (by simp)).mono ?_; rintro e w' ⟨rfl, rfl⟩)))
  all_goals
    go_wp2_with fail
    go_ret
    first
      | exact ⟨rfl, (H0.out.drew.alloc _)⟩
      | exact ⟨rfl, (H0.out.alloc _).drew⟩
      | exact ⟨rfl, (H0.out.alloc _)⟩

/-- Edges, as cells. -/
def encE (x : E2) : List Value := [.int .i64 x.1, .int .i64 x.2]
def flatE (l : List E2) : List Value := l.flatMap encE
theorem flatE_cons (x : E2) (l : List E2) : flatE (x :: l) = .int .i64 x.1 :: .int .i64 x.2 :: flatE l := rfl
theorem flatE_append (l m : List E2) : flatE (l ++ m) = flatE l ++ flatE m := by simp [flatE]
theorem flatE_length (l : List E2) : (flatE l).length = l.length * 2 := by
  induction l with
  | nil => rfl
  | cons x l ih => rw [flatE_cons, List.length_cons, List.length_cons, List.length_cons, ih]; omega
theorem flatE_get (l : List E2) (i : Nat) (h : i < l.length) : (flatE l)[i * 2]? = some (.int .i64 l[i].1) ∧ (flatE l)[i * 2 + 1]? = some (.int .i64 l[i].2) := by
  induction l generalizing i with
  | nil => exact absurd h (by simp)
  | cons x l ih =>
    rw [flatE_cons]
    cases i with
    | zero => exact ⟨rfl, rfl⟩
    | succ i =>
      have := ih i (by simpa using h)
      rw [show (i + 1) * 2 = i * 2 + 1 + 1 by omega]
      exact this
theorem flatE_one (l : List E2) : ∀ u ∈ flatE l, u.oneCell' = true := by
  intro u hu
  simp only [flatE, List.mem_flatMap, encE] at hu
  obtain ⟨x, _, hx⟩ := hu
  simp at hx
  rcases hx with rfl | rfl <;> rfl
theorem flatE_set (l : List E2) (i : Nat) (x y : Int) : ((flatE l).set (i * 2) (.int .i64 x)).set (i * 2 + 1) (.int .i64 y) = flatE (l.set i (x, y)) := by
  induction l generalizing i with
  | nil => rfl
  | cons z l ih =>
    cases i with
    | zero => rfl
    | succ i =>
      rw [show (i + 1) * 2 = i * 2 + 1 + 1 by omega, List.set_cons_succ, flatE_cons, flatE_cons, ← ih]
      rfl
theorem ERow.row {w : World} {a : Option Addr} {l : List E2} (h : ERow w a l) : Row w a (flatE l) := by
  intro i hi
  rw [flatE_length] at hi
  obtain ⟨b, off, e, h1, h2, _⟩ := h (i / 2) (by omega)
  have hg := flatE_get l (i / 2) (by omega)
  refine ⟨_, e, ?_⟩
  rw [add_none]
  rcases Nat.mod_two_eq_zero_or_one i with hm | hm
  · rw [show i = i / 2 * 2 by omega, hg.1, ← h1]
  · rw [show i = i / 2 * 2 + 1 by omega, hg.2, ← h2]
    rfl
theorem Row.erow {w : World} {a : Option Addr} {l : List E2} (h : Row w a (flatE l)) : ERow w a l := by
  intro i hi
  have hg := flatE_get l i hi
  obtain ⟨b, off, e, h1, h3⟩ := h.at_ (i := i * 2) (by rw [flatE_length]; omega)
  obtain ⟨b', off', e', h2, _⟩ := h.at_ (i := i * 2 + 1) (by rw [flatE_length]; omega)
  rw [e] at e'
  cases e'
  have g1 := List.getElem?_eq_some_iff.1 hg.1
  have g2 := List.getElem?_eq_some_iff.1 hg.2
  refine ⟨b, off, e, ?_, ?_, h3⟩
  · rw [h1, g1.2]
  · rw [show off + i * 2 + 1 = off + (i * 2 + 1) by omega, h2, g2.2]

theorem el_edge : Elem Try.prog 22 36 2 16 := elem_of (z := .agg #[.int .i64 0, .int .i64 0]) Try.underlying22 (by kernel_rfl) rfl (by decide)

@[go_sem] theorem nil_edge (w : World) (a : Option Addr) (n c : Nat) : (binOp .eql 22 (.slice a n c) (.slice none 0 0)).run Try.prog w = .ok (.bool a.isNone) w :=
  Lib.run_eql_slice_nil (P := Try.prog) w 22 36 a n c 0 0 Try.underlying22

set_option maxRecDepth 100000 in
set_option maxHeartbeats 400000 in
theorem clone_edge (a : Option Addr) (n c : Nat) (l : List E2) (w : World) (hr : ERow w a l) (hn : l.length = n) (hm : n ≤ 1099511627776) :
    Calls Try.prog 43 #[.slice a n c] w (RetOwn w.heap.size 36 2 n (flatE l) w) := by
  cases a with
  | none =>
    have h0 : n = 0 := by
      rcases Nat.eq_zero_or_pos n with h | h
      · exact h
      · obtain ⟨_, _, e, _⟩ := hr 0 (by omega)
        cases e
    subst h0
    obtain rfl := List.eq_nil_of_length_eq_zero hn
    go_enter Try.func43, Try.ntmps43
    go_wp2_with fail
    go_ret
    exact ⟨_, rfl, World.ownsRow_nil _ _ _ _, Below.refl _ _⟩
  | some ad =>
    go_enter Try.func43, Try.ntmps43
    go_wp2_with (at_builtin; go_must (refine wpList_append rfl (.tmp 5) (.tmp 6) _ rfl el_edge w.heap.size _ 0 [] rfl (World.ownsRow_made w #[] 0 (Nat.le_refl _) (by decide) rfl) (some ad) n c (flatE l) rfl (by rw [flatE_length, hn]) (hr.row.below ((Below.refl _ _).alloc (Nat.le_refl _) _)) (flatE_one l) (by unfold maxLen; omega) (by omega) (by simp) ?_))
    intro v w1 hown _ _ hb
    go_wp2_with fail
    go_ret
    exact ⟨_, rfl, hown, ((Below.refl _ _).alloc (Nat.le_refl _) _).trans hb⟩

end Go.Proofs.Ytlepmefknglkeaa.Gr
