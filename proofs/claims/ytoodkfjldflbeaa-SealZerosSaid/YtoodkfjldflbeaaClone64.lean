/- The walk of slices.Clone at []uint64: the same words in memory of the call's own. -/
import Derived.Test.YtoodkfjldflbeaaWords
import Derived.Test.YtoodkfjldflbeaaRows
import Derived.Lib.LazyBuf
namespace Go.Proofs.Ytoodkfjldflbeaa
open Go.RowKit Crc


@[go_sem] theorem nil_u64 (w : World) (a : Option Addr) (n c : Nat) : (binOp .eql 34 (.slice a n c) (.slice none 0 0)).run Try.prog w = .ok (.bool a.isNone) w :=
  Lib.run_eql_slice_nil (P := Try.prog) w 34 33 a n c 0 0 Try.underlying34

set_option maxRecDepth 100000 in
set_option maxHeartbeats 400000 in
theorem clone_u64 (a : Option Addr) (n c : Nat) (xs : List Value) (w : World) (hr : Row w a xs) (hn : xs.length = n) (h1 : ∀ u ∈ xs, u.oneCell' = true) (hm : n ≤ 1099511627776) (h0 : a = none → n = 0 ∧ c = 0) :
    Calls Try.prog 36 #[.slice a n c] w (RetOwn w.heap.size 33 1 n xs w) := by
  cases a with
  | none =>
    obtain ⟨rfl, rfl⟩ := h0 rfl
    obtain rfl := List.eq_nil_of_length_eq_zero hn
    go_enter Try.func36, Try.ntmps36
    go_wp2_with fail
    go_ret
    exact ⟨_, rfl, World.ownsRow_nil _ _ _ _, Below.refl _ _⟩
  | some ad =>
    go_enter Try.func36, Try.ntmps36
    go_wp2_with (at_builtin; go_must (refine wpList_append rfl (.tmp 5) (.tmp 6) _ rfl el_u64 w.heap.size _ 0 [] rfl (World.ownsRow_made w #[] 0 (Nat.le_refl _) (by decide) rfl) (some ad) n c xs rfl (by omega) (hr.below ((Below.refl _ _).alloc (Nat.le_refl _) _)) h1 (by unfold maxLen; omega) (by omega) (by simp) ?_))
    intro v w1 hown _ _ hb
    go_wp2_with fail
    go_ret
    exact ⟨_, rfl, hown, ((Below.refl _ _).alloc (Nat.le_refl _) _).trans hb⟩

end Go.Proofs.Ytoodkfjldflbeaa
