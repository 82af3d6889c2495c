/- The walk of Encode's closure: the bytes of one more number. -/
import Derived.Test.YtlepmefknglkeaaFmtP
import Derived.Deep.RegionLaw
set_option linter.unusedVariables false
namespace Go.Proofs.Ytlepmefknglkeaa.Gr
open Go.RowKit Var

theorem _root_.Go.RowKit.Below.base_le {B B' : Nat} {w w' : World} (h : Below B w w') (hb : B' ≤ B) : Below B' w w' := ⟨h.os, h.tape, h.output, h.size, fun k hk => h.block k (by omega)⟩

def Put1 (q base : Nat) (v : Value) (bs : List Nat) (w : World) (e : Ending) (w' : World) : Prop :=
  e = .returned (.tuple #[]) ∧ ∃ v', Blk w' q 38 #[v'] ∧ w'.ownsRow base 5 1 v' bs.length (byts bs) ∧ Below base w w' ∧ Chg (fun k => k = q ∨ some k = v.ownBlock) w w'

set_option maxRecDepth 100000 in
set_option maxHeartbeats 1000000 in
theorem enc1_any (x : Nat) (q base : Nat) (v : Value) (bs : List Nat) (w : World) (hx : x ≤ 4611686018427387904) (hl : bs.length ≤ 1000000000000) (hB : Blk w q 38 #[v]) (ho : w.ownsRow base 5 1 v bs.length (byts bs)) (hq : base ≤ q) (hbw : base ≤ w.heap.size) :
    Calls Try.prog 46 #[.int .i64 (x : Int), .pointer (some ⟨q, 0, none⟩)] w (Put1 q base v (bs ++ put x) w) := by
  obtain ⟨av, cv, rfl, -, -, -, -⟩ := own_slice ho
  have hp10 := put_len10 x (by omega)
  have hxw : IntKind.u64.wrap (x : Int) = (x : Int) := by simp [IntKind.wrap, IntKind.bits, IntKind.signed]; omega
  have q0 : w.cell? ⟨q, 0, none⟩ = some (.slice av bs.length cv) := hB.cell 0
  have qf := hB.frozen 0
  have hql := hB.lt
  go_enter Try.func46, Try.ntmps46
  go_wp2_with fail
  go_region_law (first
    | (go_simp; go_at_call 45; refine (put_any [] x none 0 0 _ (Row.nil _ _) rfl (by omega) (fun _ => ⟨rfl, rfl⟩) (by omega)).mono ?_; rintro e w1 ⟨v1, rfl, hown1, hb1⟩; have hb1' : Below w.heap.size w w1 := ⟨hb1.os, hb1.tape, hb1.output, hb1.size, hb1.block⟩; obtain ⟨a1, c1, rfl, hr1, -, -, -⟩ := own_slice hown1; have ho1 := own_chg ho (Chg.of_below' (S := fun _ => False) hb1') (fun _ _ h => h); have hB1 := hB.below hb1' hql; have hz1 := hb1'.size; have q1 : w1.cell? ⟨q, 0, none⟩ = some (.slice av bs.length cv) := hB1.cell 0)
    | (refine step_append rfl (.tmp 3) (.tmp 6) _ (by rfl) el_u8 base (.slice av bs.length cv) bs.length _ (by rfl) ho1 a1 (put x).length c1 (byts ([] ++ put x)) (by rfl) (by rw [byts_length]; simp) hr1 (byts_one _) (by unfold maxLen; omega) (by omega) (by omega) ?_; intro v2 w2 hown2 hg2 hat2 hb2; obtain ⟨a2, c2, rfl, -, -, -, -⟩ := own_slice hown2; have hB2 := hB1.chg (Chg.of_grown hg2) (fun e => own_ne_blk ho1 hB1 (by decide) e.symm); have q2 : w2.cell? ⟨q, 0, none⟩ = some (.slice av bs.length cv) := hB2.cell 0; have qf2 := hB2.frozen 0))
  all_goals
    go_end0
    refine ⟨rfl, _, by simpa using hB2.set_ 0 (.slice a2 (bs.length + (put x).length) c2), ?_, ?_, ?_⟩
    · rw [List.nil_append, ← byts_append] at hown2
      rw [List.length_append]
      exact own_chg (S := fun k => k = q) hown2 ((Chg.refl _ w2).setCell ⟨q, 0, none⟩ _ (fun _ => rfl)) (fun g hg e => own_ne_blk hown2 hB2 (by decide) (e ▸ hg))
    · exact ((Below.trans (hb1'.base_le hbw) hb2).setCell hq _)
    · exact ((Chg.of_below' (S := fun k => k = q ∨ some k = (Value.slice av bs.length cv).ownBlock) hb1').trans (Chg.of_grown hg2) (fun k hk e => .inr e)).setCell _ _ (fun _ => .inl rfl)

end Go.Proofs.Ytlepmefknglkeaa.Gr
