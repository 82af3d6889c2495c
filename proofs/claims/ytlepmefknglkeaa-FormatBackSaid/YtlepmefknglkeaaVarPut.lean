/- The walks of varint.Put and of the reference's Put: behind bytes a number's bytes are put. The bytes are at most 2^40. -/
import Derived.Test.YtlepmefknglkeaaVarPlain
import Derived.Test.YtlepmefknglkeaaClone
namespace Go.Proofs.Ytlepmefknglkeaa.Var
open Go.RowKit

/-- Behind some rounds: what is put already, and what is left. -/
def PutRel (base : Nat) (bs : List Nat) (x : Nat) (v : Value) (xv : Value) (wr w : World) : Prop :=
  ∃ (y : Nat) (acc : List Nat), xv = .int .u64 (y : Int) ∧ y ≤ x ∧ acc ++ put y = put x ∧ wr.ownsRow base 5 1 v (bs.length + acc.length) (byts (bs ++ acc)) ∧ Below base w wr

@[go_sem] theorem or128 (y : Nat) : bits BinOp.or IntKind.u8 ((y : Int) % 256) 128 = ((y % 128 + 128 : Nat) : Int) := by
  have h : ∀ n : Fin 256, bits BinOp.or IntKind.u8 (n.1 : Int) 128 = ((n.1 % 128 + 128 : Nat) : Int) := by decide +kernel
  have := h ⟨y % 256, by omega⟩
  rw [show ((y : Int) % 256) = ((y % 256 : Nat) : Int) from by omega, this, show y % 256 % 128 = y % 128 from by omega]

theorem own_snoc {w : World} {base : Nat} {e : TypeId} {v : Value} {m m' : Nat} {l : List Nat} {z : Int} {q : Nat} (h : w.ownsRow base e 1 v m (byts l ++ [.int .u8 z])) (hz : z = (q : Int)) (hm : m = m') :
    w.ownsRow base e 1 v m' (byts (l ++ [q])) := by
  subst hz; subst hm
  rw [byts_append]
  exact h

set_option maxRecDepth 100000 in
set_option maxHeartbeats 400000 in
theorem put_any (bs : List Nat) (x : Nat) (a : Option Addr) (n c : Nat) (w : World) (hr : Row w a (byts bs)) (hn : bs.length = n) (hm : n ≤ 1000000000000) (h0 : a = none → n = 0 ∧ c = 0) (hx : x < 18446744073709551616) :
    Calls Try.prog 45 #[.slice a n c, .int .u64 (x : Int)] w (RetOwn w.heap.size 5 1 (n + (put x).length) (byts (bs ++ put x)) w) := by
  have hl := put_len10 x hx
  go_enter Try.func45, Try.ntmps45
  go_wp2_with fail
  refine (clone_u8 a n c (byts bs) w hr (by rw [byts_length]; exact hn) (byts_one _) (by omega) h0).mono ?_
  rintro e w1 ⟨v, rfl, hown, hb⟩
  go_wp2_with fail
  go_loopw [0, 1] (fun v xv wr => PutRel w.heap.size bs x v xv wr w) (fun _ xv _ => (intOf xv).toNat)
  case atStart => exact ⟨x, [], rfl, Nat.le_refl _, rfl, by subst hn; simpa using hown, hb⟩
  case round =>
    obtain ⟨y, acc, rfl, hy, hp, hown, hb⟩ := hrel
    have hz := hb.size
    have hle : acc.length + (put y).length = (put x).length := by rw [← hp, List.length_append]
    have hpy := put_pos y
    by_cases h : (128 : Int) ≤ y
    · go_wp2_with (at_builtin; go_must (refine wpList_append rfl (.tmp 11) (.tmp 15) _ rfl el_u8 w.heap.size _ _ _ rfl (hown.alloc _) _ 1 1 [.int .u8 ((y % 128 + 128 : Nat) : Int)] rfl rfl (Row.new wr _ _ _) (by intro u hu; simp at hu; subst hu; rfl) (by unfold maxLen; omega) (by omega) (by simp; omega) ?_))
      intro v2 w2 hown2 _ _ hb2
      go_wp2_with fail
      go_roundw
      case rel =>
        refine ⟨y / 128, acc ++ [y % 128 + 128], by go_num, by omega, by rw [List.append_assoc, ← hp, put_big (x := y) (by omega)]; rfl, ?_, (hb.trans (((Below.refl w.heap.size wr).alloc hz _).trans hb2))⟩
        rw [← List.append_assoc, List.length_append]
        exact own_snoc hown2 (by omega) (by simp; omega)
      case measure => simp [intOf]; omega
    · go_wp2_with (at_builtin; go_must (refine wpList_append rfl (.tmp 17) (.tmp 20) _ rfl el_u8 w.heap.size _ _ _ rfl (hown.alloc _) _ 1 1 [.int .u8 (y : Int)] rfl rfl (Row.new wr _ _ _) (by intro u hu; simp at hu; subst hu; rfl) (by unfold maxLen; omega) (by omega) (by simp; omega) ?_))
      intro v2 w2 hown2 _ _ hb2
      go_wp2_with fail
      go_ret
      refine ⟨v2, rfl, ?_, (hb.trans (((Below.refl w.heap.size wr).alloc hz _).trans hb2))⟩
      have hps : put y = [y] := put_small (by omega)
      rw [← hp, hps, ← List.append_assoc, List.length_append]
      exact own_snoc hown2 rfl (by simp; omega)

end Go.Proofs.Ytlepmefknglkeaa.Var
