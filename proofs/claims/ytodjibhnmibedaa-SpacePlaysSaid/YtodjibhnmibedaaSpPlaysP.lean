/- SpacePlays, plainly: the free extents beside the row of taken blocks. -/
import Derived.Test.YtodjibhnmibedaaSpRef3
set_option linter.unusedVariables false
namespace Go.Proofs.Ytodjibhnmibedaa.Sp
open Go.RowKit

structure Mt (F B : Nat) (L : List Ext) (T : List Bool) : Prop where
  inv : Inv F B L
  len : T.length = B
  fr : ∀ b, Fr L b ↔ F ≤ b ∧ b < F + B ∧ T.getD (b - F) false = false

theorem Mt.new (F B : Nat) : Mt F B (wholeL F B) (List.replicate B false) := by
  refine ⟨whole_inv F B, List.length_replicate, fun b => ?_⟩
  have hg : (List.replicate B false).getD (b - F) false = false := by
    rw [List.getD_eq_getElem?_getD, List.getElem?_replicate]
    split <;> rfl
  rw [hg]
  unfold wholeL
  split
  · rename_i h0
    exact ⟨fun h => absurd h (Fr_nil b), fun h => by omega⟩
  · rw [Fr_one]
    unfold In
    simp only
    exact ⟨fun h => ⟨by omega, by omega, trivial⟩, fun h => by omega⟩

theorem allB_iff {F : Nat} {T : List Bool} (hF : F ≤ 1000000) (hB : T.length ≤ 1000000) (first n : Int) (v : Bool) :
    allB T (placeI F first) n v = true ↔ 1 ≤ n ∧ (F : Int) ≤ first ∧ first + n ≤ F + T.length ∧ ∀ b : Nat, first ≤ b → (b : Int) < first + n → T.getD (b - F) false = v := by
  unfold allB placeI
  rw [decide_eq_true_eq]
  by_cases hc : (F : Int) ≤ first ∧ first ≤ 3000000
  · rw [if_pos hc]
    constructor
    · rintro ⟨h1, h2, h3, h4, h5⟩
      exact ⟨h1, hc.1, by omega, fun b h6 h7 => h5 (b - F) (by omega) (by omega) (by omega)⟩
    · rintro ⟨h1, h2, h3, h4⟩
      refine ⟨h1, by omega, by omega, by omega, fun i h5 h6 h7 => ?_⟩
      have := h4 (F + i) (by omega) (by omega)
      rwa [show F + i - F = i from by omega] at this
  · rw [if_neg hc]
    constructor
    · rintro ⟨_, h2, _⟩
      omega
    · rintro ⟨h1, h2, h3, h4⟩
      omega

theorem placeI_nat {F k : Nat} {first : Int} (h : placeI F first = (k : Int)) : first = ((F + k : Nat) : Int) := by
  unfold placeI at h
  split at h <;> omega

theorem Mt.give {F B : Nat} {L L' : List Ext} {T T' : List Bool} {first n er er' : Int} (h : Mt F B L T) (hF : F ≤ 1000000) (hB : B ≤ 1000000) (hg : GiveRel L F B first n er L') (hr : RActRel T F first n true er' T') : er = er' ∧ Mt F B L' T' := by
  obtain ⟨hI, hs⟩ := give_spec h.inv hg
  have hiff := allB_iff hF (by rw [h.len]; exact hB) (T := T) first n true
  rw [h.len] at hiff
  rcases hs with ⟨rfl, rfl, hno⟩ | ⟨rfl, hy, hfr⟩
  · rcases hr with ⟨rfl, rfl, _⟩ | ⟨rfl, k, m, hk, rfl, hm, hkm, hT, rfl⟩
    · exact ⟨rfl, h⟩
    · exfalso
      have hf := placeI_nat hk
      refine hno ⟨by omega, by omega, by have := h.len; omega, fun b h1 h2 hf2 => ?_⟩
      have h3 := ((h.fr b).1 hf2).2.2
      rw [hT (b - F) (by omega) (by omega)] at h3
      cases h3
  · rcases hr with ⟨rfl, rfl, hn⟩ | ⟨rfl, k, m, hk, rfl, hm, hkm, hT, rfl⟩
    · exfalso
      have : allB T' (placeI F first) n true = true := hiff.2 ⟨hy.1, hy.2.1, hy.2.2.1, fun b h1 h2 => by
        have h3 := hy.2.2.2 b h1 h2
        rw [h.fr] at h3
        cases h4 : T'.getD (b - F) false
        · exact absurd ⟨by omega, by omega, h4⟩ h3
        · rfl⟩
      rw [hn] at this
      cases this
    · have hf := placeI_nat hk
      refine ⟨rfl, hI, by rw [setT_length]; exact h.len, fun b => ?_⟩
      rw [hfr, h.fr]
      have hlen := h.len
      constructor
      · rintro (⟨h1, h2, h3⟩ | ⟨h1, h2⟩)
        · refine ⟨h1, h2, ?_⟩
          rw [setT_get _ _ _ _ hkm _ (by omega)]
          split
          · rfl
          · exact h3
        · refine ⟨by omega, by omega, ?_⟩
          rw [setT_get _ _ _ _ hkm _ (by omega), if_pos (by omega)]
          rfl
      · rintro ⟨h1, h2, h3⟩
        rw [setT_get _ _ _ _ hkm _ (by omega)] at h3
        split at h3
        · exact .inr (by omega)
        · exact .inl ⟨h1, h2, h3⟩

theorem Mt.hold {F B : Nat} {L L' : List Ext} {T T' : List Bool} {first n er er' : Int} (h : Mt F B L T) (hF : F ≤ 1000000) (hB : B ≤ 1000000) (hg : HoldRel L F B first n er L') (hr : RActRel T F first n false er' T') : er = er' ∧ Mt F B L' T' := by
  obtain ⟨hI, hs⟩ := hold_spec h.inv hg
  have hiff := allB_iff hF (by rw [h.len]; exact hB) (T := T) first n false
  rw [h.len] at hiff
  rcases hs with ⟨rfl, rfl, hno⟩ | ⟨rfl, hy, hfr⟩
  · rcases hr with ⟨rfl, rfl, _⟩ | ⟨rfl, k, m, hk, rfl, hm, hkm, hT, rfl⟩
    · exact ⟨rfl, h⟩
    · exfalso
      have hf := placeI_nat hk
      have hlen := h.len
      refine hno ⟨by omega, by omega, by omega, fun b h1 h2 => (h.fr b).2 ⟨by omega, by omega, hT (b - F) (by omega) (by omega)⟩⟩
  · rcases hr with ⟨rfl, rfl, hn⟩ | ⟨rfl, k, m, hk, rfl, hm, hkm, hT, rfl⟩
    · exfalso
      have : allB T' (placeI F first) n false = true := hiff.2 ⟨hy.1, hy.2.1, hy.2.2.1, fun b h1 h2 => ((h.fr b).1 (hy.2.2.2 b h1 h2)).2.2⟩
      rw [hn] at this
      cases this
    · have hf := placeI_nat hk
      have hlen := h.len
      refine ⟨rfl, hI, by rw [setT_length]; exact h.len, fun b => ?_⟩
      rw [hfr, h.fr]
      constructor
      · rintro ⟨⟨h1, h2, h3⟩, h4⟩
        refine ⟨h1, h2, ?_⟩
        rw [setT_get _ _ _ _ hkm _ (by omega), if_neg (by omega)]
        exact h3
      · rintro ⟨h1, h2, h3⟩
        rw [setT_get _ _ _ _ hkm _ (by omega)] at h3
        split at h3
        · cases h3
        · exact ⟨⟨h1, h2, h3⟩, by omega⟩

theorem allB_room {F B : Nat} {L : List Ext} {T : List Bool} (h : Mt F B L T) {k m : Nat} (hm : 1 ≤ m) : allB T (k : Int) (m : Int) false = true ↔ Room L (F + k) m := by
  have hlen := h.len
  unfold allB Room
  rw [decide_eq_true_eq]
  constructor
  · rintro ⟨h1, h2, h3, h4, h5⟩ b h6 h7
    exact (h.fr b).2 ⟨by omega, by omega, h5 (b - F) (by omega) (by omega) (by omega)⟩
  · intro hr
    have h1 := (h.fr _).1 (hr (F + k) (Nat.le_refl _) (by omega))
    have h2 := (h.fr _).1 (hr (F + k + m - 1) (by omega) (by omega))
    refine ⟨by omega, by omega, by omega, by omega, fun i h3 h4 h5 => ?_⟩
    have h6 := (h.fr _).1 (hr (F + i) (by omega) (by omega))
    rw [show F + i - F = i from by omega] at h6
    exact h6.2.2

theorem Mt.take {F B : Nat} {L L' : List Ext} {T T' : List Bool} {n r r' er er' : Int} (h : Mt F B L T) (hg : TakeRel L F B n r er L') (hr : RTakeRel T F n r' er' T') : r = r' ∧ er = er' ∧ Mt F B L' T' := by
  obtain ⟨hI, hs⟩ := take_spec h.inv hg
  have hlen := h.len
  rcases hs with ⟨h1, rfl, rfl, rfl⟩ | ⟨m, rfl, hm, _, hno, rfl, rfl, rfl⟩ | ⟨m, p, rfl, rfl, rfl, hm, hF, hB, hroom, hleast, hfr, _⟩
  · rcases hr with ⟨_, rfl, rfl, rfl⟩ | ⟨h2, _⟩ | ⟨_, k, m, rfl, h2, _⟩
    · exact ⟨rfl, rfl, h⟩
    · omega
    · omega
  · rcases hr with ⟨h2, _⟩ | ⟨_, _, rfl, rfl, rfl⟩ | ⟨_, k, m', he, h2, h3, _, h5, _⟩
    · omega
    · exact ⟨rfl, rfl, h⟩
    · exfalso
      obtain rfl : m = m' := by omega
      exact hno (F + k) ((allB_room h hm).1 (by
        unfold allB
        rw [decide_eq_true_eq]
        exact ⟨by omega, by omega, by omega, by omega, fun i h6 h7 h8 => h5 i (by omega) (by omega)⟩))
  · rcases hr with ⟨h2, _⟩ | ⟨_, hall, _⟩ | ⟨rfl, k, m', he, h2, h3, hl, h5, rfl, rfl⟩
    · omega
    · exfalso
      have h1 := hall (p - F) (by omega)
      have h2 := (allB_room h hm (k := p - F)).2 (by rw [show F + (p - F) = p from by omega]; exact hroom)
      rw [h1] at h2
      cases h2
    · obtain rfl : m = m' := by omega
      have hk : Room L (F + k) m := (allB_room h hm).1 (by
        unfold allB
        rw [decide_eq_true_eq]
        exact ⟨by omega, by omega, by omega, by omega, fun i h6 h7 h8 => h5 i (by omega) (by omega)⟩)
      obtain rfl : p = F + k := by
        rcases Nat.lt_trichotomy p (F + k) with h6 | h6 | h6
        · exfalso
          have h7 := hl (p - F) (by omega)
          have h8 := (allB_room h hm (k := p - F)).2 (by rw [show F + (p - F) = p from by omega]; exact hroom)
          rw [h7] at h8
          cases h8
        · exact h6
        · exact absurd hk (hleast _ h6)
      refine ⟨by omega, rfl, hI, by rw [setT_length]; exact h.len, fun b => ?_⟩
      rw [hfr, h.fr]
      constructor
      · rintro ⟨⟨h6, h7, h8⟩, h9⟩
        refine ⟨h6, h7, ?_⟩
        rw [setT_get _ _ _ _ h3 _ (by omega), if_neg (by omega)]
        exact h8
      · rintro ⟨h6, h7, h8⟩
        rw [setT_get _ _ _ _ h3 _ (by omega)] at h8
        split at h8
        · cases h8
        · exact ⟨⟨h6, h7, h8⟩, by omega⟩

theorem Mt.rex {F B : Nat} {L E : List Ext} {T : List Bool} (h : Mt F B L T) (hE : REx T F T.length E) : E = L := by
  refine inv_unique E L hE.apart h.inv.apart (fun e he => (hE.ok e he).1) (fun e he => (h.inv.ok e he).1) fun b => ?_
  rw [hE.fr, h.fr, h.len]

theorem rex_sum (T : List Bool) (F : Nat) : ∀ k, k ≤ T.length → ∃ E, REx T F k E ∧ sumX E = ((T.take k).filter (!·)).length := by
  intro k
  induction k with
  | zero => intro _; exact ⟨[], REx.zero T F, rfl⟩
  | succ k ih =>
    intro hk
    obtain ⟨E, hE, hs⟩ := ih (by omega)
    have hts : ((T.take (k + 1)).filter (!·)).length = ((T.take k).filter (!·)).length + if T.getD k false then 0 else 1 := by
      rw [List.take_succ_eq_append_getElem (by omega), List.filter_append, List.length_append, List.getD_eq_getElem?_getD, List.getElem?_eq_getElem (by omega)]
      cases T[k] <;> simp
    cases hb : T.getD k false
    · rw [hb] at hts
      rcases List.eq_nil_or_concat E with rfl | ⟨H, ⟨x, y⟩, rfl⟩
      · exact ⟨_, hE.push hb (fun h => absurd h (by simp)), by rw [sumX_append, hs, hts]; rfl⟩
      · by_cases he : x + y = F + k
        · rw [List.concat_eq_append] at hE hs
          refine ⟨_, hE.grow hb he, ?_⟩
          rw [sumX_append] at hs ⊢
          rw [hts, ← hs]
          simp [sumX]
          omega
        · rw [List.concat_eq_append] at hE hs
          refine ⟨_, hE.push hb (fun hl => ?_), by rw [sumX_append, hs, hts]; rfl⟩
          simpa using he
    · rw [hb] at hts
      exact ⟨E, hE.skip hb, by rw [hs, hts]; rfl⟩
theorem Mt.sum {F B : Nat} {L : List Ext} {T : List Bool} (h : Mt F B L T) : sumX L = (T.filter (!·)).length := by
  obtain ⟨E, hE, hs⟩ := rex_sum T F T.length (Nat.le_refl _)
  rw [← h.rex hE, hs, List.take_length]

end Go.Proofs.Ytodjibhnmibedaa.Sp
