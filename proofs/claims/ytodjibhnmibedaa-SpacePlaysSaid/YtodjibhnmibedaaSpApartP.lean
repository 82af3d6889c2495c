/- SpaceApart, plainly: the space beside the list of what it gave out. -/
import Derived.Test.YtodjibhnmibedaaSpHeldP
set_option linter.unusedVariables false
namespace Go.Proofs.Ytodjibhnmibedaa.Sp
open Go.RowKit

def Far (e f : Ext) : Prop := e.1 + e.2 ≤ f.1 ∨ f.1 + f.2 ≤ e.1
theorem Far.symm {e f : Ext} (h : Far e f) : Far f e := Or.symm h
/-- L: what is free, G: what was given out and not given back. -/
structure Ap (L G : List Ext) : Prop where
  inv : Inv 5 250 L
  part : ∀ b, Fr L b ↔ 5 ≤ b ∧ b < 255 ∧ ¬ Fr G b
  ok : ∀ e ∈ G, 1 ≤ e.2 ∧ 5 ≤ e.1 ∧ e.1 + e.2 ≤ 255
  dis : G.Pairwise Far
theorem Ap.new : Ap (wholeL 5 250) [] :=
  ⟨whole_inv 5 250, fun b => ⟨fun ⟨e, he, hb⟩ => by
    have hw : wholeL 5 250 = [(5, 250)] := rfl
    rw [hw, List.mem_singleton] at he
    subst he
    unfold In at hb
    exact ⟨by omega, by omega, Fr_nil b⟩, fun ⟨h1, h2, _⟩ => ⟨(5, 250), by decide, by unfold In; omega⟩⟩, (fun e he => nomatch he), List.Pairwise.nil⟩
theorem Ap.whole {L : List Ext} (h : Ap L []) : L = [(5, 250)] := by
  refine inv_unique L [(5, 250)] h.inv.apart (List.pairwise_singleton _ _) (fun e he => (h.inv.ok e he).1) (fun e he => by rw [List.mem_singleton.1 he]; simp) fun b => ?_
  rw [h.part]
  constructor
  · rintro ⟨h1, h2, _⟩
    exact ⟨(5, 250), List.mem_singleton.2 rfl, by unfold In; omega⟩
  · rintro ⟨e, he, hb⟩
    rw [List.mem_singleton.1 he] at hb
    unfold In at hb
    exact ⟨by omega, by omega, Fr_nil b⟩

theorem Ap.take {L L' G : List Ext} {r er : Int} {n : Nat} (h : Ap L G) (ht : TakeRel L 5 250 (n : Int) r er L') (hn : 1 ≤ n) : (er = 5 ∧ L' = L) ∨
    (∃ p : Nat, r = p ∧ er = 0 ∧ 5 ≤ p ∧ p + n ≤ 255 ∧ (∀ b, p ≤ b → b < p + n → ¬ Fr G b) ∧ Ap L' (G ++ [(p, n)])) := by
  obtain ⟨hI', hs⟩ := take_spec h.inv ht
  rcases hs with ⟨h1, _⟩ | ⟨m, hm, _, _, _, _, he, hL⟩ | ⟨m, p, hm, hp, he, _, hF, hB, hroom, _, hfr, _⟩
  · omega
  · exact .inl ⟨he, hL⟩
  · obtain rfl : m = n := by omega
    have hno : ∀ b, p ≤ b → b < p + m → ¬ Fr G b := fun b h1 h2 => ((h.part b).1 (hroom b h1 h2)).2.2
    refine .inr ⟨p, hp, he, hF, by omega, hno, hI', fun b => ?_, fun e he => ?_, ?_⟩
    · have hs1 : Fr [(p, m)] b ↔ p ≤ b ∧ b < p + m := by
        rw [Fr_cons]
        exact ⟨fun h => h.elim (fun h => h) (fun h => absurd h (Fr_nil b)), fun h => .inl h⟩
      rw [hfr, h.part, Fr_append, hs1]
      constructor
      · rintro ⟨⟨h1, h2, h3⟩, h4⟩
        exact ⟨h1, h2, fun h5 => h5.elim h3 h4⟩
      · rintro ⟨h1, h2, h3⟩
        exact ⟨⟨h1, h2, fun h4 => h3 (.inl h4)⟩, fun h4 => h3 (.inr h4)⟩
    · rcases List.mem_append.1 he with he | he
      · exact h.ok e he
      · rw [List.mem_singleton.1 he]
        simp only
        omega
    · refine List.pairwise_append.2 ⟨h.dis, List.pairwise_singleton _ _, fun x hx y hy => ?_⟩
      rw [List.mem_singleton.1 hy]
      have hxo := h.ok x hx
      unfold Far
      simp only
      refine Classical.byContradiction fun hc => hno (max x.1 p) (by omega) (by omega) ⟨x, hx, ?_⟩
      unfold In
      omega
theorem Ap.give {L L' G G' : List Ext} {e : Ext} {er : Int} (h : Ap L G) (hp : G.Perm (e :: G')) (hg : GiveRel L 5 250 (e.1 : Int) (e.2 : Int) er L') : er = 0 ∧ Ap L' G' ∧ ∀ b, Fr G' b ↔ Fr G b ∧ ¬ In e b := by
  have hd := List.pairwise_cons.1 ((hp.pairwise_iff (fun h => Far.symm h)).1 h.dis)
  have hmem : ∀ x, x ∈ G ↔ x = e ∨ x ∈ G' := fun x => by rw [hp.mem_iff, List.mem_cons]
  have heo := h.ok e ((hmem e).2 (.inl rfl))
  have hGb : ∀ b, Fr G b ↔ In e b ∨ Fr G' b := fun b => by
    rw [← Fr_cons]
    constructor
    · rintro ⟨x, hx, hb⟩; exact ⟨x, hp.mem_iff.1 hx, hb⟩
    · rintro ⟨x, hx, hb⟩; exact ⟨x, hp.mem_iff.2 hx, hb⟩
  have hdis : ∀ b, In e b → ¬ Fr G' b := fun b hb ⟨x, hx, hxb⟩ => by
    have := hd.1 x hx
    unfold Far at this
    unfold In at hb hxb
    omega
  have hb' : ∀ b, Fr G' b ↔ Fr G b ∧ ¬ In e b := fun b => by
    rw [hGb]
    constructor
    · intro h1; exact ⟨.inr h1, fun h2 => hdis b h2 h1⟩
    · rintro ⟨h1 | h1, h2⟩
      · exact absurd h1 h2
      · exact h1
  obtain ⟨hI', hs⟩ := give_spec h.inv hg
  rcases hs with ⟨_, _, hno⟩ | ⟨he, _, hfr⟩
  · exfalso
    refine hno ⟨by omega, by omega, by omega, fun b h1 h2 hf => ((h.part b).1 hf).2.2 ((hGb b).2 (.inl ?_))⟩
    unfold In
    omega
  · refine ⟨he, ⟨hI', fun b => ?_, fun x hx => h.ok x ((hmem x).2 (.inr hx)), hd.2⟩, hb'⟩
    have hin : ((e.1 : Int) ≤ (b : Int) ∧ (b : Int) < (e.1 : Int) + (e.2 : Int)) ↔ In e b := by unfold In; omega
    rw [hfr, h.part, hin, hb']
    constructor
    · rintro (⟨h1, h2, h3⟩ | h1)
      · exact ⟨h1, h2, fun h4 => h3 h4.1⟩
      · have : In e b := h1
        unfold In at this
        exact ⟨by omega, by omega, fun h4 => h4.2 h1⟩
    · rintro ⟨h1, h2, h3⟩
      by_cases h4 : In e b
      · exact .inr h4
      · exact .inl ⟨h1, h2, fun h5 => h3 ⟨h5, h4⟩⟩

/-- The last in the place of the k'th, and the list cut by one. -/
def cutAt (G : List Ext) (k : Nat) : List Ext := (G.set k (G.getD (G.length - 1) (0, 0))).take (G.length - 1)
theorem cut_perm {G : List Ext} {k : Nat} (h : k < G.length) : G.Perm (G[k] :: cutAt G k) := by
  obtain ⟨H, z, rfl⟩ : ∃ H z, G = H ++ [z] := ⟨G.dropLast, G.getLast (by intro e; subst e; simp at h), (List.dropLast_concat_getLast _).symm⟩
  have hl : (H ++ [z]).length - 1 = H.length := by simp
  have hz : (H ++ [z]).getD H.length (0, 0) = z := by rw [getD_at (by simp)]; simp
  unfold cutAt
  rw [hl, hz]
  by_cases hk : k = H.length
  · subst hk
    rw [List.getElem_append_right (Nat.le_refl _), List.set_append_right _ _ (Nat.le_refl _)]
    simp
  · have hk' : k < H.length := by simp at h; omega
    rw [List.getElem_append_left hk', List.set_append_left _ _ hk', List.take_append_of_le_length (by simp), List.take_of_length_le (by simp)]
    rw [List.set_eq_take_append_cons_drop, if_pos hk']
    have hs : H = H.take k ++ H[k] :: H.drop (k + 1) := split_at hk'
    refine List.Perm.trans (l₂ := H[k] :: (H.take k ++ (H.drop (k + 1) ++ [z]))) ?_ (List.Perm.cons _ (List.Perm.append_left _ (List.perm_append_singleton z _)))
    conv => lhs; rw [hs]
    rw [List.append_assoc]
    exact List.perm_middle

end Go.Proofs.Ytodjibhnmibedaa.Sp
