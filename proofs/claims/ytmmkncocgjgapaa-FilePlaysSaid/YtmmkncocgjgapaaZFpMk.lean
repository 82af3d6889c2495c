/- FilePlays: what Write leaves. -/
import Derived.Test.YtmmkncocgjgapaaZFpAside
set_option linter.unusedVariables false
namespace Go.Proofs.Ytmmkncocgjgapaa.Fp
open Go.RowKit Fl

section
variable {w w' : World} {O O' : Nat → Prop} {K : Key} {W W' : Wk} {S : PS} {mo dw : Ow}
theorem PI.write_no' (h : PI w O K W S mo dw) {b : Nat} {n r er : Int} {L' : List Sp.Ext} (ht : Turn K (fun _ => False) w w') (hb : w.heap.size ≤ b) (htk : Sp.TakeRel W.L 0 W.B n r er L') (he : er ≠ 0)
    (hI : WkI w' O K { W with A := (W.A.grant W.D.size b).release b W.D.size, L := L' }) : PI w' O K { W with A := (W.A.grant W.D.size b).release b W.D.size, L := L' } S mo dw := by
  have hL : L' = W.L := by
    obtain ⟨-, ⟨-, -, -, a⟩ | ⟨m, -, -, -, -, -, -, a⟩ | ⟨m, p, -, -, a3, -⟩⟩ := Sp.take_spec h.wk.inv htk
    · exact a
    · exact a
    · exact absurd a3 he
  refine h.still (E := fun _ => False) hI ⟨h.wk, ht, (fun _ h => h.elim), fun _ _ h => h, rfl, rfl, fun p hp _ => List.mem_filter.2 ⟨List.mem_append_left _ hp, by
    rw [decide_eq_true_eq]
    intro e
    obtain ⟨cs, hb2⟩ := h.wk.arn.bufs p hp
    have := hb2.lt
    omega⟩, fun _ _ _ _ => rfl⟩ h.sure h.bl ?_ (fun c hc => by rw [← hL]; exact hc) (fun g hg => h.new g (Nat.le_trans ht.size hg))
  show W.A.used + W.D.size - W.D.size = W.A.used
  omega
def MkTold (w : World) (O : Nat → Prop) (K : Key) (W : Wk) (S : PS) (mo dw : Ow) (width bound : Int) (e : Ending) (w' : World) : Prop :=
  (∃ (x : Nat) (X : Wr) (O' : Nat → Prop) (W' : Wk) (mo' dw' : Ow), e = .returned (.tuple #[P x, .int .i64 0]) ∧ (X.width : Int) = width ∧ (X.bound : Int) = bound ∧ Turn K (fun _ => False) w w' ∧ PI w' O' K W' (S.addW ⟨x, X, [], .slice none 0 0, true⟩) mo' dw' ∧ W'.D = W.D) ∨
  (∃ (er : Int) (W' : Wk), e = .returned (.tuple #[.pointer none, .int .i64 er]) ∧ (er = 5 ∨ er = 7 ∨ (er = 1 ∧ (width < 1 ∨ 5 < width ∨ bound < 0 ∨ 100000000 < bound))) ∧ Turn K (fun _ => False) w w' ∧ PI w' O K W' S mo dw ∧ W'.D = W.D)
theorem make_c (h : PI w O K W S mo dw) (width bound : Int) : Calls Try.prog 22 #[P K.wk, .int .i64 width, .int .i64 bound] w (MkTold w O K W S mo dw width bound) := by
  by_cases ha : width < 1 ∨ 5 < width ∨ bound < 0 ∨ 100000000 < bound
  · refine (make_arg width bound h.wk ha).mono ?_
    rintro e w' ⟨rfl, hb⟩
    exact .inr ⟨1, W, rfl, .inr (.inr ⟨rfl, ha⟩), Turn.below hb, h.below hb, rfl⟩
  · obtain ⟨wN, rfl⟩ := Int.eq_ofNat_of_zero_le (show 0 ≤ width by omega)
    obtain ⟨bN, rfl⟩ := Int.eq_ofNat_of_zero_le (show 0 ≤ bound by omega)
    have w1 : 1 ≤ wN := by omega
    have w5 : wN ≤ 5 := by omega
    have b1 : bN ≤ 100000000 := by omega
    by_cases hr : (W.A.room : Int) - W.A.used < W.D.size
    · refine (make_room wN bN h.wk w1 w5 b1 hr).mono ?_
      rintro e w' ⟨rfl, hb⟩
      exact .inr ⟨7, W, rfl, .inr (.inl rfl), Turn.below hb, h.below hb, rfl⟩
    · refine (make_any wN bN h.wk w1 w5 b1 (by omega)).mono ?_
      rintro e w' ⟨b, d, hb, hd, ht, ⟨r, er, L', hn, htk, he, rfl, hI⟩ | ⟨x, first, L', hL, hx, rfl, hI, hA⟩⟩
      · refine .inr ⟨er, _, rfl, ?_, ht, h.write_no' ht hb htk he (hI.mono (fun g _ hg => hg.1) h.wk.out.2), rfl⟩
        obtain ⟨-, ⟨a1, -⟩ | ⟨m, -, -, -, -, -, a6, -⟩ | ⟨m, p, -, -, a3, -⟩⟩ := Sp.take_spec h.wk.inv htk
        · omega
        · exact .inl a6
        · exact absurd a3 he
      · obtain ⟨mo', dw', hp⟩ := h.write_ok w1 w5 b1 ht hx hb hd hL hI hA
        exact .inl ⟨x, _, _, _, mo', dw', rfl, rfl, rfl, ht, hp, rfl⟩
end

end Go.Proofs.Ytmmkncocgjgapaa.Fp
