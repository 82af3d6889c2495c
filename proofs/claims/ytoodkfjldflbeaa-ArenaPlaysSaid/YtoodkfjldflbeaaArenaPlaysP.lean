/- What the law ArenaPlays holds on to: the arena, the reference, the slice of all grants; and how each act keeps it. -/
import Derived.Test.YtoodkfjldflbeaaArenaRef
set_option linter.unusedVariables false
namespace Go.Proofs.Ytoodkfjldflbeaa.Arena
open Go.RowKit

theorem not_rf {wx : World} {g : Nat} {t : TypeId} {cs : Array Value} (h : Blk wx g t cs) (h1 : t ≠ 56) (h2 : t ≠ 3) (h3 : t ≠ 4) : ¬ RfS wx g := by
  rintro ⟨t', cs', hb, e⟩
  obtain ⟨rfl, -⟩ := h.inj hb
  rcases e with e | e | e <;> contradiction
theorem not_rf_map {wx : World} {r : Nat} {kv : List (Nat × Value)} (h : IsMap ptrKey wx r kv) : ¬ RfS wx r := by
  rintro ⟨t', cs', hb, -⟩
  exact h.ne_blk hb rfl
theorem Rf.chg {S : Nat → Prop} {base q room peak : Nat} {L : List (Nat × Bool)} {wx wy : World} (h : Rf base q room peak L wx) (hc : Chg S wx wy) (hS : ∀ k, S k → ¬ RfS wx k) : Rf base q room peak L wy := by
  obtain ⟨vs, vt, hB, h1, h2⟩ := h.ex
  refine ⟨vs, vt, hB.chg hc (fun e => hS _ e ⟨_, _, hB, .inl rfl⟩), own_chg h1 hc (fun g hg e => ?_), own_chg h2 hc (fun g hg e => ?_)⟩
  · obtain ⟨cs, hb⟩ := own_blk h1 hg
    exact hS _ e ⟨_, _, hb, .inr (.inl rfl)⟩
  · obtain ⟨cs, hb⟩ := own_blk h2 hg
    exact hS _ e ⟨_, _, hb, .inr (.inr rfl)⟩

structure Pl (w : World) (a r q : Nat) (A : Ar) (rm pk : Nat) (G H : List Nat) (L : List (Nat × Bool)) (v : Value) (wx : World) : Prop where
  at_ : At wx a r A
  bel : Below w.heap.size w wx
  own : wx.ownsRow w.heap.size 27 1 v H.length (H.map ptrKey)
  rf : Rf w.heap.size q rm pk L wx
  buf : ∀ g ∈ G, w.heap.size ≤ g ∧ ∃ u, Blk wx g 43 #[u]
  held : ∀ j (hj : j < G.length) (hj' : j < L.length), L[j].2 = false → Blk wx G[j] 43 #[.slice none 0 0]
  lo : w.heap.size ≤ a ∧ w.heap.size ≤ r ∧ w.heap.size ≤ q

section
variable {w wx wy : World} {a r q rm pk : Nat} {A : Ar} {G H : List Nat} {L : List (Nat × Bool)} {v : Value}

theorem Pl.quiet (h : Pl w a r q A rm pk G H L v wx) (hq : Quiet wx wy) : Pl w a r q A rm pk G H L v wy := by
  obtain ⟨d, rfl⟩ := hq
  exact ⟨h.at_.drewN d, below_drewN h.bel d, h.own, h.rf.quiet ⟨d, rfl⟩, h.buf, h.held, h.lo⟩

theorem Pl.grant (h : Pl w a r q A rm pk G H L v wx) {A' : Ar} {b : Nat} {u : Value} (hA : At wy a r A') (hB : Blk wy b 43 #[u]) (h1 : wx.heap.size ≤ b) (hg : Chg (fun k => k = a ∨ k = r) wx wy) (hl : G.length = L.length) :
    Pl w a r q A' rm pk (G ++ [b]) H L v wy := by
  have hsz := h.bel.size
  have hlo := h.lo
  have ng : ∀ {g : Nat} {cs : Array Value}, Blk wx g 43 cs → ¬ (g = a ∨ g = r) := fun hb => by
    rintro (e | e)
    · exact hb.ne_ h.at_.blk (by decide) e
    · exact h.at_.map.ne_blk hb e
  refine ⟨hA, h.bel.trans (hg.below_of hsz (fun k hk => by omega)), own_chg h.own hg ?_, h.rf.chg hg ?_, ?_, ?_, h.lo⟩
  · rintro g hg' (rfl | rfl)
    · exact own_ne_blk h.own h.at_.blk (by decide) hg'
    · exact h.at_.map.ne_own h.own hg'
  · rintro k (rfl | rfl)
    · exact not_rf h.at_.blk (by decide) (by decide) (by decide)
    · exact not_rf_map h.at_.map
  · intro g hg'
    rcases List.mem_append.1 hg' with hg' | hg'
    · obtain ⟨l1, u1, hu⟩ := h.buf g hg'
      exact ⟨l1, u1, hu.chg hg (ng hu)⟩
    · simp at hg'
      subst hg'
      exact ⟨by omega, _, hB⟩
  · intro j hj hj' hf
    rw [List.getElem_append_left (by omega)]
    have := h.held j (by omega) hj' hf
    exact this.chg hg (ng this)

theorem Pl.release (h : Pl w a r q A rm pk G H L v wx) {A' : Ar} {b : Nat} (hA : At wy a r A') (hB : Blk wy b 43 #[.slice none 0 0]) (hb : b ∈ G) (hg : Chg (fun k => k = a ∨ k = r ∨ k = b) wx wy) :
    Pl w a r q A' rm pk G H L v wy := by
  have hsz := h.bel.size
  have hlo := h.lo
  obtain ⟨lb, ub, hub⟩ := h.buf b hb
  have ng : ∀ {g : Nat} {cs : Array Value}, Blk wx g 43 cs → g ≠ b → ¬ (g = a ∨ g = r ∨ g = b) := fun hb hne => by
    rintro (e | e | e)
    · exact hb.ne_ h.at_.blk (by decide) e
    · exact h.at_.map.ne_blk hb e
    · exact hne e
  refine ⟨hA, h.bel.trans (hg.below_of hsz (fun k hk => by omega)), own_chg h.own hg ?_, h.rf.chg hg ?_, ?_, ?_, h.lo⟩
  · rintro g hg' (rfl | rfl | rfl)
    · exact own_ne_blk h.own h.at_.blk (by decide) hg'
    · exact h.at_.map.ne_own h.own hg'
    · exact own_ne_blk h.own hub (by decide) hg'
  · rintro k (rfl | rfl | rfl)
    · exact not_rf h.at_.blk (by decide) (by decide) (by decide)
    · exact not_rf_map h.at_.map
    · exact not_rf hub (by decide) (by decide) (by decide)
  · intro g hg'
    obtain ⟨l1, u1, hu⟩ := h.buf g hg'
    by_cases hgb : g = b
    · subst hgb; exact ⟨l1, _, hB⟩
    · exact ⟨l1, u1, hu.chg hg (ng hu hgb)⟩
  · intro j hj hj' hf
    have := h.held j hj hj' hf
    by_cases hgb : G[j] = b
    · rw [hgb]; exact hB
    · exact this.chg hg (ng this hgb)

theorem Pl.ref (h : Pl w a r q A rm pk G H L v wx) {rm' pk' : Nat} {L' : List (Nat × Bool)} (hc : Chg (RfS wx) wx wy) (hb : Below w.heap.size wx wy) (hr : Rf w.heap.size q rm' pk' L' wy)
    (hh : ∀ j (hj : j < G.length) (hj' : j < L'.length), L'[j].2 = false → Blk wx G[j] 43 #[.slice none 0 0]) : Pl w a r q A rm' pk' G H L' v wy := by
  have nb : ∀ {g : Nat} {cs : Array Value}, Blk wx g 43 cs → ¬ RfS wx g := fun hb => not_rf hb (by decide) (by decide) (by decide)
  refine ⟨h.at_.chg hc (not_rf h.at_.blk (by decide) (by decide) (by decide)) (not_rf_map h.at_.map) (fun p hp hs => ?_), h.bel.trans hb, own_chg h.own hc ?_, hr, ?_, ?_, h.lo⟩
  · obtain ⟨cs, hc'⟩ := h.at_.bufs p hp
    exact absurd hs (nb hc')
  · intro g hg'
    obtain ⟨cs, hb'⟩ := own_blk h.own hg'
    exact not_rf hb' (by decide) (by decide) (by decide)
  · intro g hg'
    obtain ⟨l1, u1, hu⟩ := h.buf g hg'
    exact ⟨l1, u1, hu.chg hc (nb hu)⟩
  · intro j hj hj' hf
    have := hh j hj hj' hf
    exact this.chg hc (nb this)

theorem Pl.app (h : Pl w a r q A rm pk G H L v wx) {H' : List Nat} {v' : Value} (hown : wy.ownsRow w.heap.size 27 1 v' H'.length (H'.map ptrKey)) (hc : Chg (fun k => some k = v.ownBlock) wx wy) (hb : Below w.heap.size wx wy) :
    Pl w a r q A rm pk G H' L v' wy := by
  have nb : ∀ {g : Nat} {t : TypeId} {cs : Array Value}, Blk wx g t cs → 27 ≠ t → ¬ (some g = v.ownBlock) := fun hb hne e => own_ne_blk h.own hb hne e.symm
  refine ⟨h.at_.chg hc (nb h.at_.blk (by decide)) (fun e => h.at_.map.ne_own h.own e.symm) (fun p hp hs => ?_), h.bel.trans hb, hown, h.rf.chg hc ?_, ?_, ?_, h.lo⟩
  · obtain ⟨cs, hc'⟩ := h.at_.bufs p hp
    exact absurd hs (nb hc' (by decide))
  · intro k e
    obtain ⟨cs, hb'⟩ := own_blk h.own e.symm
    exact not_rf hb' (by decide) (by decide) (by decide)
  · intro g hg'
    obtain ⟨l1, u1, hu⟩ := h.buf g hg'
    exact ⟨l1, u1, hu.chg hc (nb hu (by decide))⟩
  · intro j hj hj' hf
    have := h.held j hj hj' hf
    exact this.chg hc (nb this (by decide))

/-- Arena and reference agree. -/
structure Std (A : Ar) (G : List Nat) (L : List (Nat × Bool)) : Prop where
  len : G.length = L.length
  nd : G.Nodup
  used : A.used = tot L
  st : ∀ j (hj : j < G.length) (hj' : j < L.length), (L[j].2 = true → (G[j], L[j].1) ∈ A.st) ∧ (L[j].2 = false → G[j] ∉ A.st.map (·.1))

theorem Std.grant (h : Std A G L) {n b : Nat} (hb : b ∉ G) : Std (A.grant n b) (G ++ [b]) (L ++ [(n, true)]) := by
  have hlen := h.len
  refine ⟨by simp [h.len], ?_, ?_, ?_⟩
  · rw [List.nodup_append]
    refine ⟨h.nd, by simp, ?_⟩
    intro x hx y hy
    simp at hy
    rintro rfl
    exact hb (hy ▸ hx)
  · show A.used + n = _
    rw [tot_append, h.used]
    simp [tot]
  · intro j hj hj'
    simp only [List.length_append, List.length_singleton] at hj hj'
    by_cases hjG : j < G.length
    · rw [List.getElem_append_left hjG, List.getElem_append_left (by omega)]
      obtain ⟨h1, h2⟩ := h.st j hjG (by omega)
      refine ⟨fun e => List.mem_append.2 (.inl (h1 e)), fun e hm => ?_⟩
      rw [show (A.grant n b).st = A.st ++ [(b, n)] from rfl, List.map_append] at hm
      rcases List.mem_append.1 hm with hm | hm
      · exact h2 e hm
      · simp at hm
        exact hb (hm ▸ List.getElem_mem hjG)
    · obtain rfl : j = G.length := by omega
      rw [List.getElem_append_right (by omega), List.getElem_append_right (by omega)]
      simp [hlen]
      exact List.mem_append.2 (.inr (by simp))

theorem tot_set {L : List (Nat × Bool)} {k : Nat} (hk : k < L.length) (ht : L[k].2 = true) : tot (L.set k (L[k].1, false)) + L[k].1 = tot L := by
  induction L generalizing k with
  | nil => simp at hk
  | cons p l ih =>
    cases k with
    | zero =>
      simp at ht
      simp [tot, ht]
      omega
    | succ k =>
      simp only [List.getElem_cons_succ, List.set_cons_succ, tot] at *
      have := ih (by simpa using hk) ht
      omega

theorem Std.release (h : Std A G L) {k : Nat} (hk : k < L.length) (hk' : k < G.length) (ht : L[k].2 = true) : Std (A.release G[k] L[k].1) G (L.set k (L[k].1, false)) := by
  refine ⟨by simpa using h.len, h.nd, ?_, ?_⟩
  · show A.used - _ = _
    have := tot_set hk ht
    rw [h.used]
    omega
  · intro j hj hj'
    rw [List.length_set] at hj'
    obtain ⟨h1, h2⟩ := h.st j hj hj'
    have mem : ∀ p, p ∈ (A.release G[k] L[k].1).st ↔ p ∈ A.st ∧ p.1 ≠ G[k] := fun p => by simp [Ar.release, List.mem_filter]
    by_cases hjk : k = j
    · subst hjk
      simp
      intro x hx
      exact ((mem _).1 hx).2 rfl
    · rw [List.getElem_set_ne hjk]
      refine ⟨fun e => (mem _).2 ⟨h1 e, fun e' => hjk ((List.getElem_inj h.nd).1 e').symm⟩, fun e hm => ?_⟩
      obtain ⟨p, hp, hpe⟩ := List.mem_map.1 hm
      exact h2 e (List.mem_map.2 ⟨p, ((mem _).1 hp).1, hpe⟩)
end

end Go.Proofs.Ytoodkfjldflbeaa.Arena
