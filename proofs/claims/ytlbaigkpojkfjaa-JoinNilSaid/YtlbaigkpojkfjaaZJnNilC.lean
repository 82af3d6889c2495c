/- Files of four million blocks. -/
import Derived.Test.YtlbaigkpojkfjaaZJnCutN
import Derived.Test.YtlbaigkpojkfjaaZJnLookC
set_option linter.unusedVariables false
namespace Go.Proofs.Ytlbaigkpojkfjaa.Fl
open Go.RowKit

/-- A work of 5000 blocks, nothing granted. -/
structure BigF (W : Wk) : Prop where
  size : W.D.size = 12
  sure : Sure W.D
  used : W.A.used = 0
  room : W.A.room = 60
  B : W.B = 5000
def BigC (w : World) (K : Key) (count : Int) (e : Ending) (w' : World) : Prop :=
  ∃ (a b c d er : Int) (W' : Wk) (O' : Nat → Prop), e = .returned (.tuple #[.agg #[.int .i64 a, .int .i64 b, .int .i64 c, .int .i64 d], .int .i64 er]) ∧ WkI w' O' K W' ∧ (∀ g, w'.heap.size ≤ g → O' g) ∧ Turn K (fun _ => False) w w' ∧ BigF W' ∧ (er = 1 ∨ 4000000 < count)

section
variable {w w' : World} {O : Nat → Prop} {K : Key} {W : Wk}
theorem no_big (hI : WkI w O K W) (hB : BigF W) {n : Nat} (hn : 5000 < n) (p : Nat) : ¬ Sp.Room W.L p n := fun h => by
  obtain ⟨e, he, hi⟩ := h (p + 5000) (by omega) (by omega)
  have h2 := hI.inv.ok e he
  have := hB.B
  unfold Sp.In at hi
  omega
theorem big_of_each {wM bound : Nat} {out : List Tup} {Why : Int → Prop} {count : Int} {e : Ending} (hB : BigF W) (hc : 4000000 < count) (h : EachC w O K W (fun _ => False) wM bound out JE0 0 Why e w') : BigC w K count e w' := by
  obtain ⟨W', O', ho, hI, ht, hh⟩ := h
  rcases hh with ⟨first, rfl, hok, _⟩ | ⟨er, h', her, rfl, hno, hj⟩
  · exact ⟨_, _, _, _, _, W', O', rfl, hI, ho.1, ht, ⟨hok.size.trans hB.size, hok.sure, hok.used.trans hB.used, hok.aroom.trans hB.room, hok.B.trans hB.B⟩, .inr hc⟩
  · obtain rfl : h' = 0 := hj
    exact ⟨_, _, _, _, _, W', O', rfl, hI, ho.1, ht, ⟨hno.size.trans hB.size, hno.sure, by have := hno.used; have := hB.used; omega, hno.aroom.trans hB.room, hno.B.trans hB.B⟩, .inr hc⟩
theorem big_of_none {count : Int} {e : Ending} (hI : WkI w O K W) (hO : ∀ g, w.heap.size ≤ g → O g) (hB : BigF W) (h : NoMade w 1 e w') : BigC w K count e w' := by
  obtain ⟨rfl, hb⟩ := h
  exact ⟨0, 0, 0, 0, 1, W, O, rfl, hI.below hb, fun g hg => hO g (by have := hb.size; omega), Turn.below hb, hB, .inl rfl⟩
theorem big_can {width count : Int} (h : CanBe 12 4000000 width count) : ∃ wN cN : Nat, width = (wN : Int) ∧ count = (cN : Int) ∧ 1 ≤ wN ∧ wN ≤ 5 ∧ cN ≤ 100000000 ∧ nB 12 wN cN = 4000000 ∧ 4000000 < count := by
  obtain ⟨h1, h2, h3, h4, h5⟩ := h
  obtain ⟨wN, rfl⟩ := Int.eq_ofNat_of_zero_le (show 0 ≤ width by omega)
  obtain ⟨cN, rfl⟩ := Int.eq_ofNat_of_zero_le h3
  have hn := nB_eq (size := 12) (wN := wN) (count := cN) (by omega) (by omega) (by omega)
  have h6 : nB 12 wN cN = 4000000 := by
    have e : ((4000000 : Int)) = blocksOf 12 (wN : Int) (cN : Int) := h5
    rw [hn] at e
    omega
  refine ⟨wN, cN, rfl, rfl, by omega, by omega, by omega, h6, ?_⟩
  have hp : 2 ≤ hN 12 wN := by
    obtain h | h | h | h | h : wN = 1 ∨ wN = 2 ∨ wN = 3 ∨ wN = 4 ∨ wN = 5 := by omega
    all_goals (rw [h]; decide)
  have hc := (nB_cap (size := 12) (wN := wN) (count := cN) (by omega)).2 3999999 (by omega)
  have : 3999999 * 2 ≤ 3999999 * hN 12 wN := Nat.mul_le_mul_left _ hp
  omega
theorem keep_big {first width count : Int} (hI : WkI w O K W) (hO : ∀ g, w.heap.size ≤ g → O g) (hB : BigF W) (hct : -9223372036854775808 ≤ count) :
    Calls Try.prog 18 #[P K.wk, .agg #[.int .i64 first, .int .i64 4000000, .int .i64 width, .int .i64 count], .int .i64 0, .int .i64 0, .int .i64 0] w (BigC w K count) := by
  by_cases hc : CanBe 12 4000000 width count
  · obtain ⟨wN, cN, rfl, rfl, h1, h5, hcm, hnb, h4⟩ := big_can hc
    refine (keep_go (wM := wN) (bound := cN) (out := []) (Why := fun _ => False) hI ⟨by omega, by omega, by omega⟩ (fun w1 hb => ?_)).mono (fun e w' h => big_of_each hB h4 h)
    have hI1 := hI.below hb
    have := each_full (F := 42) (rv := .agg #[.int .i64 0, .int .i64 0, .int .i64 0]) (Ej := fun _ => False) (gh := 0) (JE := JE0) (Why := fun _ => False) (out := []) (stays0 K _) first 4000000 wN wN cN hI1 hB.sure h1 h5 h1 h5 hcm (by rw [hB.size, hnb]) ⟨by rw [hB.size, hnb]; omega, fun p => by rw [hB.size, hnb]; exact no_big hI hB (by omega) p⟩ (by rw [hB.size, hB.used, hB.room]; omega) (Nat.zero_le _) (fun g hg => hO g (by have := hb.size; omega)) rfl (fun g hg => hg.elim)
    exact this
  · refine (keep_none w (fun w1 hb => each_none w1 (fun w2 hb2 => ?_))).mono (fun e w' h => big_of_none hI hO hB h)
    exact open_arg first 4000000 width count ((hI.below hb).below hb2) (by rw [hB.size]; exact hc) hct
theorem look_big {first width count : Int} (hI : WkI w O K W) (hO : ∀ g, w.heap.size ≤ g → O g) (hB : BigF W) (hct : -9223372036854775808 ≤ count) :
    Calls Try.prog 23 #[P K.wk, .agg #[.int .i64 first, .int .i64 4000000, .int .i64 width, .int .i64 count], .int .i64 0, .agg #[.int .i64 first, .int .i64 4000000, .int .i64 width, .int .i64 count], .int .i64 0, .int .i64 0] w (BigC w K count) := by
  by_cases hw : 0 < width
  · by_cases hc : CanBe 12 4000000 width count
    · obtain ⟨wN, cN, rfl, rfl, h1, h5, hcm, hnb, h4⟩ := big_can hc
      have hsz := hB.size
      refine (lookf_go (af := first) (bf := first) (ab := 4000000) (aw := wN) (ac := cN) (bb := 4000000) (bw := wN) (bc := cN) (key := 0) (val := 0) (dst := 0) (wM := wN) (bound := cN) (out := []) (Why := fun _ => False) hI ⟨by omega, by omega⟩ ⟨by omega, by omega⟩ (by omega) (by omega) h5 (by rw [hsz]; exact hc) (by rw [hsz]; exact hc) (by rw [hsz, hB.used, hB.room]; omega) hO (fun w1 lb xb b d q1 q2 q3 q4 q5 hI1 hO1 hX hL => ?_)).mono (fun e w' h => big_of_each hB h4 h)
      have hlive := hX.live rfl
      have hej : ∀ q, EjL lb xb b d q → q < w1.heap.size := fun q h => by
        rcases h with e | e | e | e
        · rw [e]; exact hL.lt
        · rw [e]; exact hX.blk.lt
        · rw [e]; exact hlive.blk.lt
        · rw [e]; exact hlive.row.lt
      have := each_full (W := { W with A := W.A.grant W.D.size b }) (F := 48) (rv := P lb) (Ej := EjL lb xb b d) (gh := W.D.size) (JE := JEL K W.D.size xb b d) (Why := fun _ => False) (out := []) (stays_l K _ lb xb b d) first 4000000 wN wN cN hI1 hB.sure h1 h5 h1 h5 hcm (by show _ = nB W.D.size wN cN; rw [hsz, hnb]) ⟨by show 0 < nB W.D.size wN cN; rw [hsz, hnb]; omega, fun p => by show ¬ Sp.Room W.L p (nB W.D.size wN cN); rw [hsz, hnb]; exact no_big hI hB (by omega) p⟩ (by show W.D.size + W.D.size ≤ W.A.room - (W.A.used + W.D.size); rw [hsz, hB.used, hB.room]; omega) (by show W.D.size ≤ W.A.used + W.D.size; omega) hO1 ⟨rfl, .inl ⟨rfl, _, hX, rfl, rfl, rfl⟩⟩ hej
      exact this
    · refine (lookf_cant ⟨by omega, hw, by omega⟩ ⟨by omega, hw, by omega⟩ (by omega) (by omega) (fun w1 hb => ?_)).mono (fun e w' h => big_of_none hI hO hB h)
      exact can_any first 4000000 width count (hI.below hb) hct false ⟨(fun h => by cases h), (fun h => absurd (by rw [hB.size] at h; exact h) hc)⟩
  · exact (lookf_arg (by omega)).mono (fun e w' h => big_of_none hI hO hB h)
theorem look_nil {first blocks width count k : Int} (w : World) : Calls Try.prog 23 #[.pointer none, .agg #[.int .i64 first, .int .i64 blocks, .int .i64 width, .int .i64 count], .int .i64 k, .agg #[.int .i64 first, .int .i64 blocks, .int .i64 width, .int .i64 count], .int .i64 k, .int .i64 k] w (NoMade w 1) := by
  by_cases hk : 0 ≤ k ∧ k < width ∧ k < 5
  · exact lookf_cant hk hk hk.1 hk.2.2 (fun w1 _ => can_nil first blocks width count w1)
  · exact lookf_arg hk
end

end Go.Proofs.Ytlbaigkpojkfjaa.Fl
