/- A looker at a reader: what stands in memory, and what more does to it. -/
import Derived.Test.YtlbaigkpojkfjaaZJnMore
set_option linter.unusedVariables false
namespace Go.Proofs.Ytlbaigkpojkfjaa.Fl
open Go.RowKit

/-- A looker at block lb, over the reader at xb of the file l. -/
structure LkI (w : World) (O : Nat → Prop) (K : Key) (W : Wk) (lb xb b d key val dst first wN : Nat) (l : List Tup) (L : Lk) (X : Rd) : Prop where
  blk : Blk w lb 95 (lcells xb key val dst L)
  rd : RdAt w O K W xb X
  has : X.Has W.D first wN l
  live : X.closed = false ∧ X.told = L.m ∧ X.buf = b ∧ X.arr = d
def EjL (lb xb b d q : Nat) : Prop := q = lb ∨ q = xb ∨ q = b ∨ q = d

section
variable {w w' : World} {O O' : Nat → Prop} {K : Key} {W W' : Wk} {lb xb b d key val dst first wN : Nat} {l : List Tup} {L : Lk} {X : Rd} {E : Nat → Prop}
theorem LkI.stay (h : LkI w O K W lb xb b d key val dst first wN l L X) (hI : WkI w O K W) (ht : Turn K E w w') (hE : ∀ q, EjL lb xb b d q → ¬ E q) (hO : ∀ g, g < w.heap.size → O' g → O g) (hs : W'.D.size = W.D.size) (hn : ∀ j, j < nB W.D.size wN l.length → W'.D.now ((first + j : Nat) : Int) = W.D.now ((first + j : Nat) : Int)) (hst : ∀ p ∈ W.A.st, EjL lb xb b d p.1 → p ∈ W'.A.st) : LkI w' O' K W' lb xb b d key val dst first wN l L X :=
  ⟨hI.blk ht h.blk (by decide) (by decide) (by decide) (by decide) (by decide) (hE _ (.inl rfl)),
   h.rd.turn' hI ht (hE _ (.inr (.inl rfl))) (fun _ => hE _ (.inr (.inr (.inl h.live.2.2.1)))) (fun _ => hE _ (.inr (.inr (.inr h.live.2.2.2)))) hO hs (fun p hp e => hst p hp (.inr (.inr (.inl (e.trans h.live.2.2.1))))),
   h.has.stay hs hn, h.live⟩
theorem LkI.below (h : LkI w O K W lb xb b d key val dst first wN l L X) (hI : WkI w O K W) (hb : Below w.heap.size w w') : LkI w' O K W lb xb b d key val dst first wN l L X :=
  h.stay (E := fun _ => False) hI (Turn.below hb) (fun _ _ h => h) (fun _ _ h => h) rfl (fun _ _ => rfl) (fun _ h _ => h)
/-- A store into the looker. -/
theorem LkI.aside (h : LkI w O K W lb xb b d key val dst first wN l L X) (hI : WkI w O K W) (hc : Chg (fun q => q = lb) w w') {L' : Lk} (hm : L'.m = L.m) (hb : Blk w' lb 95 (lcells xb key val dst L')) : WkI w' O K W ∧ LkI w' O K W lb xb b d key val dst first wN l L' X ∧ Turn K (fun q => q = lb) w w' := by
  have ht : Turn K (fun q => q = lb) w w' := hc.mono (fun k _ hk => .inr (.inr (.inr (.inr (.inr (.inr (.inr (.inr hk))))))))
  have hl := h.rd.live h.live.1
  refine ⟨hI.aside hc (fun k hk => ?_), ⟨hb, h.rd.turn' hI ht (fun e => h.rd.blk.ne_ h.blk (by decide) e) (fun _ e => hl.blk.ne_ h.blk (by decide) e) (fun _ e => hl.row.ne_ h.blk (by decide) e) (fun _ _ h => h) rfl (fun _ h _ => h), h.has, h.live.1, by rw [hm]; exact h.live.2.1, h.live.2.2⟩, ht⟩
  subst hk
  exact ⟨_, _, h.blk, by decide, by decide, by decide, by decide, by decide, by decide, by decide, fun h => absurd h (by decide)⟩

/-- Behind more. -/
def MoreC (w : World) (O : Nat → Prop) (K : Key) (W : Wk) (lb xb b d key val dst first wN : Nat) (l : List Tup) (L : Lk) (e : Ending) (w' : World) : Prop :=
  Turn K (EjL lb xb b d) w w' ∧
  ((∃ X' D', e = .returned (.int .i64 (if L.bad l = true then 3 else 0)) ∧ Calm W.D D' ∧ D'.acts + L.m ≤ W.D.acts + (L.step l).m ∧ WkI w' O K { W with D := D' } ∧ LkI w' O K { W with D := D' } lb xb b d key val dst first wN l (L.step l) X') ∨
   (∃ X' D', W.D.fault = 0 ∧ e = .returned (.int .i64 6) ∧ Felt W.D D' ∧ WkI w' O K { W with D := D', A := W.A.release b W.D.size } ∧ RdAt w' O K { W with D := D', A := W.A.release b W.D.size } xb X' ∧ X'.closed = true))

theorem lcells_step (xb key val dst : Nat) (L : Lk) (t : Tup) (ok : Bool) (m : Nat) : lcells xb key val dst (L.at_ t ok m) = LC xb (col t 0) (col t 1) (col t 2) (col t 3) (col t 4) ok true (.int .i64 (key : Int)) (.int .i64 (val : Int)) (.int .i64 (dst : Int)) (.int .i64 L.last) (.bool L.any) := rfl
theorem icells_col {t : Tup} (h : t.length = 5) : (icells t).toArray = #[.int .i64 (col t 0), .int .i64 (col t 1), .int .i64 (col t 2), .int .i64 (col t 3), .int .i64 (col t 4)] := by
  match t, h with
  | [a, b, c, d, e], _ => rfl

theorem more_c (hI : WkI w O K W) (h : LkI w O K W lb xb b d key val dst first wN l L X) (hs : Sure W.D) (hf : FitsW wN l) (hfit : nB W.D.size wN l.length = 0 ∨ first + nB W.D.size wN l.length ≤ W.D.blocks) (hfs : first ≤ 1000000) (hac : W.D.acts + 1 < 1099511627776) (hd : ∀ q, EjL lb xb b d q → q < w.heap.size) :
    Calls Try.prog 62 #[P lb] w (MoreC w O K W lb xb b d key val dst first wN l L) := by
  obtain ⟨lc, lt, lbuf, larr⟩ := h.live
  have hcnt := h.has.cnt
  have hlow := h.has.low
  refine (more_any (R := fun w2 u0 u1 u2 u3 u4 ok er => Turn K (EjL lb xb b d) w w2 ∧
      ((∃ X' D', er = 0 ∧ X'.told = (L.step l).m ∧ ok = (L.step l).ok ∧ L.step l = L.at_ (L.step l).t ok (L.step l).m ∧ u0 = col (L.step l).t 0 ∧ u1 = col (L.step l).t 1 ∧ u2 = col (L.step l).t 2 ∧ u3 = col (L.step l).t 3 ∧ u4 = col (L.step l).t 4 ∧ Calm W.D D' ∧ D'.acts + L.m ≤ W.D.acts + (L.step l).m ∧ WkI w2 O K { W with D := D' } ∧ RdAt w2 O K { W with D := D' } xb X' ∧ X'.Has D' first wN l ∧ X'.closed = false ∧ X'.buf = b ∧ X'.arr = d) ∨
       (∃ X' D', W.D.fault = 0 ∧ er = 6 ∧ ok = false ∧ Felt W.D D' ∧ WkI w2 O K { W with D := D', A := W.A.release b W.D.size } ∧ RdAt w2 O K { W with D := D', A := W.A.release b W.D.size } xb X' ∧ X'.closed = true))) h.blk ?_).mono ?_
  · intro w1 hb1
    have hI1 := hI.below hb1
    have h1 := h.below hI hb1
    have own : ∀ q, OwnR xb X q → EjL lb xb b d q := fun q hq => by
      rcases hq with e | e | e
      · exact .inr (.inl e)
      · exact .inr (.inr (.inl (e.trans lbuf)))
      · exact .inr (.inr (.inr (e.trans larr)))
    have lbn : ∀ q, OwnR xb X q ∨ w1.heap.size ≤ q → q ≠ lb := fun q hq e => by
      subst e
      have hl := h1.rd.live lc
      rcases hq with (e | e | e) | e
      · exact h1.blk.ne_ h1.rd.blk (by decide) e
      · exact h1.blk.ne_ hl.blk (by decide) e
      · exact h1.blk.ne_ hl.row (by decide) e
      · have := h1.blk.lt; omega
    have trn : ∀ {w2 : World}, Turn K (fun k => OwnR xb X k ∨ w1.heap.size ≤ k) w1 w2 → Turn K (EjL lb xb b d) w w2 := fun ht => (Turn.below hb1).trans (turn_fresh2 ht (fun k hk => by
      rcases hk with hk | hk
      · exact .inr (own k hk)
      · exact .inl hk))
    by_cases hlt : X.told < l.length
    · have hst : L.step l = L.at_ l[X.told] true (L.m + 1) := by
        unfold Lk.step
        rw [dif_pos (by omega)]
        congr 2
        exact lt.symm
      rcases next_sure hI1 h1.rd lc h1.has hs hf hfit hfs hlt hac with ⟨X1, D1, q1, q2, q3, q4, ⟨n, hn, hg⟩, hk, hC⟩ | ⟨f0, hC⟩
      · refine hC.mono ?_
        rintro e w2 ⟨rfl, hI2, hX2, hB2, ht2⟩
        have ht5 : l[X.told].length = 5 := (hf _ (List.getElem_mem hlt)).1
        rw [q2, icells_col ht5]
        refine ⟨_, _, _, _, _, _, _, rfl, hI1.blk ht2 h1.blk (by decide) (by decide) (by decide) (by decide) (by decide) (fun hq => lbn lb hq rfl), trn ht2, .inl ⟨X1.next, D1, rfl, ?_, ?_, ?_, ?_, ?_, ?_, ?_, ?_, hg.calm q4, ?_, hI2, ⟨hX2, fun _ => by rw [hk.buf, hk.arr]; exact hB2, by rw [hk.width]; exact h.rd.width, by rw [hk.count]; exact h.rd.count⟩, q1, hk.closed.trans lc, hk.buf.trans lbuf, hk.arr.trans larr⟩⟩
        · rw [hst]
          show X1.next.told = L.m + 1
          rw [q3, lt]
        · rw [hst]; rfl
        · rw [hst]; rfl
        · rw [hst]; rfl
        · rw [hst]; rfl
        · rw [hst]; rfl
        · rw [hst]; rfl
        · rw [hst]; rfl
        · have := hg.acts
          rw [hst]
          show D1.acts + L.m ≤ W.D.acts + (L.m + 1)
          omega
      · refine hC.mono ?_
        rintro e w2 ⟨_, D', hF, rfl, hI2, hX2, ht2⟩
        rw [lbuf] at hI2
        exact ⟨0, 0, 0, 0, 0, false, 6, rfl, hI1.blk ht2 h1.blk (by decide) (by decide) (by decide) (by decide) (by decide) (fun hq => lbn lb hq rfl), trn ht2, .inr ⟨{ X with closed := true }, D', f0, rfl, rfl, hF, hI2, ⟨hX2, (fun h' => by cases h'), h.rd.width, h.rd.count⟩, rfl⟩⟩
    · have hst : L.step l = L.at_ (zeros 5) false L.m := by
        unfold Lk.step
        rw [dif_neg (by omega)]
      refine (next_end h1.rd lc (by omega)).mono ?_
      rintro e w2 ⟨rfl, hb2⟩
      have h2 := h1.below hI1 hb2
      refine ⟨0, 0, 0, 0, 0, false, 0, rfl, h2.blk, (Turn.below hb1).trans (Turn.below hb2), .inl ⟨X, W.D, rfl, ?_, ?_, ?_, ?_, ?_, ?_, ?_, ?_, Calm.refl _, ?_, hI1.below hb2, h2.rd, h2.has, lc, lbuf, larr⟩⟩
      · rw [hst]; exact lt
      · rw [hst]; rfl
      · rw [hst]; rfl
      · rw [hst]; rfl
      · rw [hst]; rfl
      · rw [hst]; rfl
      · rw [hst]; rfl
      · rw [hst]; rfl
      · rw [hst]
        exact Nat.le_refl _
  · rintro e w' ⟨w2, u0, u1, u2, u3, u4, ok, er, ⟨ht2, hR⟩, rfl, hB', hB2, hc⟩
    have htl : Turn K (fun q => q = lb) w2 w' := hc.mono (fun k _ hk => .inr (.inr (.inr (.inr (.inr (.inr (.inr (.inr hk))))))))
    refine ⟨ht2.trans (htl.mono (fun q hq => .inl hq)), ?_⟩
    rcases hR with ⟨X', D', rfl, htold, hok, hstep, rfl, rfl, rfl, rfl, rfl, hC, hA, hI2, hX2, hH2, c2, b2, a2⟩ | ⟨X', D', f0, rfl, rfl, hF, hI2, hX2, c2⟩
    · have hk2 : LkI w2 O K { W with D := D' } lb xb b d key val dst first wN l { L with m := (L.step l).m } X' := ⟨hB2, hX2, hH2, c2, htold, b2, a2⟩
      rw [← lcells_step xb key val dst L _ _ (L.step l).m, ← hstep] at hB'
      obtain ⟨hI3, hL3, _⟩ := hk2.aside hI2 hc (L' := L.step l) rfl hB'
      refine .inl ⟨X', D', ?_, hC, hA, hI3, hL3⟩
      congr 3
      unfold Lk.bad
      by_cases hlt : L.m < l.length
      · have hst : L.step l = L.at_ l[L.m] true (L.m + 1) := by
          unfold Lk.step
          rw [dif_pos hlt]
        have hg : l.getD L.m [] = l[L.m] := by simp [hlt]
        rw [hst] at hok ⊢
        subst hok
        rw [hg]
        cases L.begun <;> cases L.ok <;> simp [hlt, Lk.at_]
      · have hst : L.step l = L.at_ (zeros 5) false L.m := by
          unfold Lk.step
          rw [dif_neg hlt]
        rw [hst] at hok
        subst hok
        simp [hlt, Lk.at_]
    · refine .inr ⟨X', D', f0, by simp, hF, ?_, ?_, c2⟩
      · refine hI2.aside hc (fun k hk => ?_)
        subst hk
        exact ⟨_, _, hB2, by decide, by decide, by decide, by decide, by decide, by decide, by decide, fun h => absurd h (by decide)⟩
      · exact hX2.turn' hI2 htl (fun e => hX2.blk.ne_ hB2 (by decide) e) (fun hc' => by rw [c2] at hc'; cases hc') (fun hc' => by rw [c2] at hc'; cases hc') (fun _ _ h => h) rfl (fun _ h _ => h)
end

end Go.Proofs.Ytlbaigkpojkfjaa.Fl
