/- The walk of slices.Clone at []byte: the same bytes in memory of the call's own. -/
import Derived.Test.YtlepmefknglkeaaMem
import Derived.Test.YtlepmefknglkeaaRows
import Derived.Lib.LazyBuf
namespace Go.Proofs.Ytlepmefknglkeaa
open Go.RowKit

theorem el_u8 : Elem Try.prog 38 5 1 1 := elem_of (z := .int .u8 0) Try.underlying38 (by kernel_rfl) rfl (by decide)

@[go_sem] theorem nil_u8 (w : World) (a : Option Addr) (n c : Nat) : (binOp .eql 38 (.slice a n c) (.slice none 0 0)).run Try.prog w = .ok (.bool a.isNone) w :=
  Lib.run_eql_slice_nil (P := Try.prog) w 38 5 a n c 0 0 Try.underlying38

set_option maxRecDepth 100000 in
set_option maxHeartbeats 400000 in
theorem clone_u8 (a : Option Addr) (n c : Nat) (xs : List Value) (w : World) (hr : Row w a xs) (hn : xs.length = n) (h1 : ∀ u ∈ xs, u.oneCell' = true) (hm : n ≤ 1099511627776) (h0 : a = none → n = 0 ∧ c = 0) :
    Calls Try.prog 55 #[.slice a n c] w (RetOwn w.heap.size 5 1 n xs w) := by
  cases a with
  | none =>
    obtain ⟨rfl, rfl⟩ := h0 rfl
    obtain rfl := List.eq_nil_of_length_eq_zero hn
    go_enter Try.func55, Try.ntmps55
    go_wp2_with fail
    go_ret
    exact ⟨_, rfl, World.ownsRow_nil _ _ _ _, Below.refl _ _⟩
  | some ad =>
    go_enter Try.func55, Try.ntmps55
    go_wp2_with (at_builtin; go_must (refine wpList_append rfl (.tmp 5) (.tmp 6) _ rfl el_u8 w.heap.size _ 0 [] rfl (World.ownsRow_made w #[] 0 (Nat.le_refl _) (by decide) rfl) (some ad) n c xs rfl (by omega) (hr.below ((Below.refl _ _).alloc (Nat.le_refl _) _)) h1 (by unfold maxLen; omega) (by omega) (by simp) ?_))
    intro v w1 hown _ _ hb
    go_wp2_with fail
    go_ret
    exact ⟨_, rfl, hown, ((Below.refl _ _).alloc (Nat.le_refl _) _).trans hb⟩

end Go.Proofs.Ytlepmefknglkeaa
