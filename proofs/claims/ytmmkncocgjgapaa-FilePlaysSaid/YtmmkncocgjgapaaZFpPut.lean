/- FilePlays: what Put, Close and Drop leave of a writer of the law's. -/
import Derived.Test.YtmmkncocgjgapaaZFpMk
set_option linter.unusedVariables false
namespace Go.Proofs.Ytmmkncocgjgapaa.Fp
open Go.RowKit Fl

section
variable {w w' : World} {O O' : Nat → Prop} {K : Key} {W W' : Wk} {S : PS} {mo dw : Ow} {x : Nat} {cs : Array Value}
theorem put_dead (t : Tup) (h : Blk w x 117 cs) (hc : cs[9]? = some (.bool true)) : Calls Try.prog 23 #[P x, .agg (icells t).toArray] w fun e w' => e = .returned (.int .i64 1) ∧ Below w.heap.size w w' := by
  have hb : Below w.heap.size w (w.alloc (.cells (icells t).toArray 45)) := (Below.refl _ _).alloc (Nat.le_refl _) _
  have c9 : (w.alloc (.cells (icells t).toArray 45)).cell? ⟨x, 9, none⟩ = some (.bool true) := ((h.below hb h.lt).cell 9).trans hc
  have HB := Lib.hid hb
  clear hb h hc
  go_enter Try.func23, Try.ntmps23
  go_wp2_with fail
  go_ret
  exact ⟨rfl, HB.out⟩
theorem close_dead (h : Blk w x 117 cs) (hc : cs[9]? = some (.bool true)) : Calls Try.prog 24 #[P x] w fun e w' => e = .returned (.tuple #[.agg noFile, .int .i64 1]) ∧ Below w.heap.size w w' := by
  have hb : Below w.heap.size w (w.alloc (.cells noFile 32)) := (Below.refl _ _).alloc (Nat.le_refl _) _
  have c9 : (w.alloc (.cells noFile 32)).cell? ⟨x, 9, none⟩ = some (.bool true) := ((h.below hb h.lt).cell 9).trans hc
  have hB := Blk.new w 32 noFile
  have c0 := hB.cell 0
  have c1 := hB.cell 1
  have c2 := hB.cell 2
  have c3 := hB.cell 3
  simp only [noFile] at c0 c1 c2 c3 c9
  have HB := Lib.hid hb
  clear hb hB h hc
  go_enter Try.func24, Try.ntmps24
  go_wp2_with fail
  refine bodyPost_ret (v := .tuple #[.agg noFile, .int .i64 1]) (by simp [results, Try.results24, go_sem, c0, c1, c2, c3]; try rfl) rfl ?_
  exact ⟨rfl, HB.out⟩
theorem drop_dead (h : Blk w x 117 cs) (hc : cs[9]? = some (.bool true)) : Calls Try.prog 27 #[P x] w fun e w' => e = .returned (.tuple #[]) ∧ w = w' := by
  have c9 : w.cell? ⟨x, 9, none⟩ = some (.bool true) := (h.cell 9).trans hc
  clear h hc
  go_enter Try.func27, Try.ntmps27
  go_wp2_with fail
  exact bodyPost_ret (results_none rfl _ _ _) rfl ⟨rfl, rfl⟩

theorem own_theirs {k : Nat} {e : WE} (h : PI w O K W S mo dw) (hk : S.ws[k]? = some e) (ho : e.op = true) {E : Nat → Prop} (hE : ∀ g, E g → Own e.x e.X g ∨ w.heap.size ≤ g) : Theirs w E := fun g hg => by
  obtain ⟨n1, n2, n3, n4⟩ := not_mine
  obtain ⟨a1, a2, -⟩ := (h.wf k e hk).live ho
  rcases hE g hg with (rfl | rfl | rfl) | h1
  · exact .inr ⟨_, _, a1.blk, n1⟩
  · exact .inr ⟨_, _, (a1.live a2).blk, n3⟩
  · exact .inr ⟨_, _, (a1.live a2).row, n4⟩
  · exact .inl h1
/-- What Put leaves: er, and whether the tuple was laid. -/
def PutC (w : World) (O : Nat → Prop) (K : Key) (W : Wk) (S : PS) (mo dw : Ow) (k : Nat) (e : WE) (t : Tup) (ev : Ending) (w' : World) : Prop :=
  (∃ (X' : Wr) (W' : Wk) (E : Nat → Prop), ev = .returned (.int .i64 0) ∧ e.op = true ∧ fitsB e.X.width t = true ∧ e.ps.length ≠ e.X.bound ∧ X'.width = e.X.width ∧ X'.bound = e.X.bound ∧ PI w' O K W' (S.setW k { e with X := X', ps := e.ps ++ [t] }) mo dw ∧ Turn K E w w' ∧ Theirs w E ∧ (∀ g, E g → K.base ≤ g) ∧ W'.D.size = W.D.size ∧ W'.D.acts ≤ W.D.acts + 5001) ∨
  (∃ er : Int, ev = .returned (.int .i64 er) ∧ Below w.heap.size w w' ∧ ((er = 1 ∧ (e.op = false ∨ fitsB e.X.width t = false)) ∨ (er = 5 ∧ e.op = true ∧ fitsB e.X.width t = true ∧ e.ps.length = e.X.bound)))
theorem put_c (h : PI w O K W S mo dw) {k : Nat} {e : WE} (hk : S.ws[k]? = some e) (t : Tup) (ht : t.length = 5) (hac : W.D.acts ≤ 1000000) : Calls Try.prog 23 #[P e.x, .agg (icells t).toArray] w (PutC w O K W S mo dw k e t) := by
  have hw := h.wf k e hk
  cases ho : e.op with
  | false =>
    obtain ⟨cs, b1, b2⟩ := hw.dead ho
    refine (put_dead t b1 b2).mono ?_
    rintro ev w' ⟨rfl, hb⟩
    exact .inr ⟨1, rfl, hb, .inl ⟨rfl, .inl ho⟩⟩
  | true =>
    obtain ⟨a1, a2, a3, a4, a5, a6, a7⟩ := hw.live ho
    cases hz : fitsB e.X.width t with
    | false =>
      refine (put_misfit t ht h.wk a1 a2 hz).mono ?_
      rintro ev w' ⟨rfl, hb⟩
      exact .inr ⟨1, rfl, hb, .inl ⟨rfl, .inr hz⟩⟩
    | true =>
      by_cases hc : e.X.count = e.X.bound
      · refine (put_full t ht a1 a2 hz hc).mono ?_
        rintro ev w' ⟨rfl, hb⟩
        exact .inr ⟨5, rfl, hb, .inr ⟨rfl, ho, hz, by rw [← hc, a3.cnt]⟩⟩
      · refine (put_sure t h.wk a1 a2 a3 h.sure.1 (by rw [h.bl.1]; exact a6) ht hz hc (by omega) h.new).mono ?_
        rintro ev w' (⟨hy, hH⟩ | ⟨hf, -⟩)
        · have hp := h.put_ok hk ho ht hz hy hH
          obtain ⟨h0, rfl, hI, hA, hT⟩ := hy
          obtain ⟨n1, n2, n3, n4, n5, n6, n7, n8, n9, n10⟩ := next_same e.X W t
          refine .inl ⟨_, _, _, rfl, ho, hz, by rw [← a3.cnt]; exact hc, n3, n4, hp, hT, own_theirs h hk ho (fun g hg => .inl hg), fun g hg => ?_, n10, ?_⟩
          · rcases hg with rfl | rfl | rfl
            · exact (h.mlt _ _ hw.me).1
            · exact (h.mlt _ _ a4).1
            · exact (h.mlt _ _ a5).1
          · obtain ⟨g1, g2, g3⟩ := next_goes (t := t) h0
            have := g2.acts
            have : (e.X.next W t).1.at_ ≤ e.X.at_ + 1 := by unfold Wr.next; split <;> first | exact Nat.le_refl _ | exact Nat.le_succ e.X.at_
            show (e.X.next W t).2.acts ≤ _
            omega
        · rw [h.sure.2] at hf
          cases hf
end

end Go.Proofs.Ytmmkncocgjgapaa.Fp
