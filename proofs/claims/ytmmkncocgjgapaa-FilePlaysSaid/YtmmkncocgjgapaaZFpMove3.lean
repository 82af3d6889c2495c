/- FilePlays: readers, and files that are freed: plain. -/
import Derived.Test.YtmmkncocgjgapaaZFpMove2
set_option linter.unusedVariables false
namespace Go.Proofs.Ytmmkncocgjgapaa.Fp
open Go.RowKit Fl

section
variable {w w' : World} {O O' : Nat → Prop} {K : Key} {W W' : Wk} {S : PS} {mo dw : Ow} {E : Nat → Prop}
/-- A writer that no room is left for: all as it was. -/
theorem PI.write_no (h : PI w O K W S mo dw) {b d : Nat} {n r er : Int} {L' : List Sp.Ext} (ht : Turn K (fun _ => False) w w') (hb : w.heap.size ≤ b) (hd : w.heap.size ≤ d) (hl : d < w'.heap.size) (htk : Sp.TakeRel W.L 0 W.B n r er L') (he : er ≠ 0)
    (hI : WkI w' (but O d) K { W with A := (W.A.grant W.D.size b).release b W.D.size, L := L' }) : PI w' (but O d) K { W with A := (W.A.grant W.D.size b).release b W.D.size, L := L' } S mo dw := by
  have hL : L' = W.L := by
    obtain ⟨-, ⟨-, -, -, a⟩ | ⟨m, -, -, -, -, -, -, a⟩ | ⟨m, p, -, -, a3, -⟩⟩ := Sp.take_spec h.wk.inv htk
    · exact a
    · exact a
    · exact absurd a3 he
  refine h.still (E := fun _ => False) hI ⟨h.wk, ht, (fun _ h => h.elim), fun _ _ h => h.1, rfl, rfl, fun p hp _ => List.mem_filter.2 ⟨List.mem_append_left _ hp, by
    rw [decide_eq_true_eq]
    intro e
    obtain ⟨cs, hb2⟩ := h.wk.arn.bufs p hp
    have := hb2.lt
    omega⟩, fun _ _ _ _ => rfl⟩ h.sure h.bl ?_ (fun c hc => by rw [← hL]; exact hc) (fun g hg => ⟨h.new g (Nat.le_trans ht.size hg), by omega⟩)
  show W.A.used + W.D.size - W.D.size = W.A.used
  omega
/-- A reader more. -/
theorem PI.open_ok (h : PI w O K W S mo dw) {j : Nat} {f : FE} (hj : S.fs[j]? = some f) (hf : f.freed = false) {ev : Ending} (ho : OpenOk w O K W f.first f.blocks f.width f.l.length ev w') :
    ∃ x b d mo', ev = .returned (.tuple #[P x, .int .i64 0]) ∧ PI w' (but O d) K { W with A := W.A.grant W.D.size b } (S.addR ⟨x, ⟨f.first, f.blocks, f.width, f.l.length, b, d, 0, 0, 0, 0, false, zeros W.D.size⟩, j, 0, true⟩) mo' dw ∧ Turn K (fun _ => False) w w' := by
  obtain ⟨x, b, d, rfl, hI, hA, hx, hb, hd, hT⟩ := ho
  obtain ⟨s8, s256⟩ := h.wk.size
  have hF := h.ff j f hj
  obtain ⟨l1, l2, l3⟩ := hF.live hf
  have hbs : Beside w w' O (but O d) K W { W with A := W.A.grant W.D.size b } mo dw (fun _ => False) none none :=
    ⟨h.wk, hT, (fun _ h => h.elim), fun _ _ h => h.1, rfl, rfl, fun p hp _ => List.mem_append_left _ hp, fun _ _ _ _ => rfl⟩
  have hBf := hA.live rfl
  have hxl := hA.blk.lt
  have hbl := hBf.blk.lt
  have hdl : d < w'.heap.size := hBf.row.lt
  have hbase := h.base_le
  have hext : ∀ (o : Bool × Nat) (g : Nat), mo g = some o → grab mo x b d (false, S.rs.length) g = some o := fun o g hg => grab_old hx hb hd hg (h.mlt g o hg).2
  refine ⟨x, b, d, grab mo x b d (false, S.rs.length), rfl, ⟨hI, h.sure, h.bl, fun k e hk => ((h.wf k e hk).stay hbs (by simp) (by simp) h.mlt).ext (hext _) (fun _ h => h), fun j f hj => ((h.ff j f hj).stay hbs (by simp)).ext (fun _ h => h) (fun k e hk ho => ⟨e, hk, ho, rfl, rfl⟩), fun r e hr => ?_, ?_, fun g o hg => ?_, fun g hg => ⟨h.new g (Nat.le_trans hT.size hg), by omega⟩, h.dfr⟩, hT⟩
  · rcases get_add hr with hr | ⟨rfl, rfl⟩
    · exact ((h.rf r e hr).stay hbs (by simp) (by simp) h.mlt h.ff).ext (hext _) (fun j f hj => ⟨f, hj, rfl, rfl, rfl, id⟩)
    · refine ⟨hA, rfl, by unfold grab; simp, fun _ => ⟨by unfold grab; simp, by unfold grab; simp⟩, f, hj, Nat.zero_le _, fun _ _ => ⟨?_, rfl⟩⟩
      exact Rd.Has.new b d f.blocks s8 hF.wid.1 (by rw [← hF.blocks]; exact l1)
  · rw [PS.live_addR]
    show W.A.used + W.D.size = (S.live + 1) * W.D.size
    rw [h.used, Nat.add_mul, Nat.one_mul]
  · unfold grab at hg
    split at hg
    · rename_i hc
      rcases hc with rfl | rfl | rfl <;> exact ⟨by omega, by assumption⟩
    · exact mlt_up h hT.size g o hg
/-- A reader's next tuple. -/
theorem PI.next_ok (h : PI w O K W S mo dw) {r : Nat} {e : RE} (hr : S.rs[r]? = some e) (ho : e.rd = true) {f : FE} (hj : S.fs[e.file]? = some f) (hf : f.freed = false) (hlt : e.at_ < f.l.length) {X1 : Fl.Rd} {D1 : Dev.Dv} (hH : X1.next.Has D1 f.first f.width f.l) (htd : X1.next.told = e.Y.told + 1) (hnow : D1.now = W.D.now) {n : Nat} (hgo : Goes W.D D1 n) (hkin : ReadsKin W e.Y 1 X1.next D1)
    {ev : Ending} (hy : NextOk w O K W e.y e.Y X1 D1 ev w') : PI w' O K { W with D := D1 } (S.setR r { e with Y := X1.next, at_ := e.at_ + 1 }) mo dw ∧ Turn K (fun k => OwnR e.y e.Y k ∨ w.heap.size ≤ k) w w' := by
  obtain ⟨-, hI, hB, hBf, hT⟩ := hy
  have hR := h.rf r e hr
  obtain ⟨b1, b2⟩ := hR.live ho
  have hcl : e.Y.closed = false := by rw [hR.cl, ho]; rfl
  have hb : Beside w w' O O K W { W with D := D1 } mo dw (fun k => OwnR e.y e.Y k ∨ w.heap.size ≤ k) (some (false, r)) none :=
    ⟨h.wk, hT, fun g hg => by
      rcases hg with h1 | h1
      · exact .inr ⟨by rcases h1 with rfl | rfl | rfl <;> first | exact hR.me | exact b1 | exact b2, by simp⟩
      · exact .inl h1, fun _ _ h => h, hgo.size, rfl, fun p hp _ => hp, fun b o _ _ => by show D1.now _ = _; rw [hnow]⟩
  refine ⟨⟨hI, ⟨hgo.sure h.sure.1, hgo.fault h.sure.2⟩, ⟨hgo.blocks.trans h.bl.1, h.bl.2⟩, fun k e' hk => (h.wf k e' hk).stay hb (by simp) (by simp) h.mlt, fun j f hj => ((h.ff j f hj).stay hb (by simp)).ext (fun _ h => h) (fun k e hk ho => ⟨e, hk, ho, rfl, rfl⟩), fun r' e' hr' => ?_, ?_, fun g o hg => mlt_up h hT.size g o hg, fun g hg => h.new g (Nat.le_trans hT.size hg), h.dfr⟩, hT⟩
  · rcases get_set hr' with ⟨rfl, rfl, -⟩ | ⟨hne, hr2⟩
    · refine ⟨⟨hB, fun _ => ?_, by show 1 ≤ X1.next.width ∧ X1.next.width ≤ 5; rw [hkin.width]; exact hR.at_.width, by show 0 ≤ X1.next.count ∧ X1.next.count ≤ _; rw [hkin.count]; exact hR.at_.count⟩, ?_, hR.me, fun _ => ?_, f, hj, ?_, fun _ _ => ⟨hH, ?_⟩⟩
      · show BufAt w' O _ X1.next.buf X1.next.arr X1.next.ws
        rw [hkin.buf, hkin.arr]
        exact hBf
      · show X1.next.closed = !e.rd
        rw [hkin.closed]; exact hR.cl
      · show mo X1.next.buf = _ ∧ mo X1.next.arr = _
        rw [hkin.buf, hkin.arr]
        exact ⟨b1, b2⟩
      · show e.at_ + 1 ≤ f.l.length
        omega
      · show X1.next.told = e.at_ + 1
        obtain ⟨f', f1, f2, f3⟩ := hR.file
        rw [hj] at f1
        injection f1 with f1
        subst f1
        rw [htd, (f3 ho hf).2]
    · exact ((h.rf r' e' hr2).stay hb (by simp; exact hne) (by simp) h.mlt h.ff).ext (fun _ h => h) (fun j f hj => ⟨f, hj, rfl, rfl, rfl, id⟩)
  · obtain ⟨E2, hE2⟩ : ∃ E2 : RE, E2 = { e with Y := X1.next, at_ := e.at_ + 1 } := ⟨_, rfl⟩
    have hop : E2.rd = true := by rw [hE2]; exact ho
    have hl := PS.live_setR (S := S) (e' := E2) hr
    rw [ho, hop] at hl
    have hl : (S.setR r E2).live = S.live := by simpa using hl
    rw [hE2] at hl
    show W.A.used = _ * D1.size
    rw [hgo.size, hl]
    exact h.used
/-- A reader is closed. -/
theorem PI.rclose_ok (h : PI w O K W S mo dw) {r : Nat} {e : RE} (hr : S.rs[r]? = some e) (ho : e.rd = true) {ev : Ending} (hy : RCloseTold w O K W e.y e.Y ev w') :
    PI w' O K { W with A := W.A.release e.Y.buf W.D.size } (S.setR r { e with Y := { e.Y with closed := true }, rd := false }) mo dw ∧ Turn K (OwnR e.y e.Y) w w' := by
  obtain ⟨-, hI, hB, hT⟩ := hy
  have hR := h.rf r e hr
  obtain ⟨b1, b2⟩ := hR.live ho
  have hb : Beside w w' O O K W { W with A := W.A.release e.Y.buf W.D.size } mo dw (OwnR e.y e.Y) (some (false, r)) none :=
    ⟨h.wk, hT, fun g h1 => .inr ⟨by rcases h1 with rfl | rfl | rfl <;> first | exact hR.me | exact b1 | exact b2, by simp⟩, fun _ _ h => h, rfl, rfl, fun p hp hpm => List.mem_filter.2 ⟨hp, by
      rw [decide_eq_true_eq]
      intro e2
      rw [e2, b1] at hpm
      exact absurd (hpm rfl) (by simp)⟩, fun _ _ _ _ => rfl⟩
  refine ⟨⟨hI, h.sure, h.bl, fun k e' hk => (h.wf k e' hk).stay hb (by simp) (by simp) h.mlt, fun j f hj => ((h.ff j f hj).stay hb (by simp)).ext (fun _ h => h) (fun k e hk ho => ⟨e, hk, ho, rfl, rfl⟩), fun r' e' hr' => ?_, ?_, fun g o hg => mlt_up h hT.size g o hg, fun g hg => h.new g (Nat.le_trans hT.size hg), h.dfr⟩, hT⟩
  · rcases get_set hr' with ⟨rfl, rfl, -⟩ | ⟨hne, hr2⟩
    · obtain ⟨f, f1, f2, f3⟩ := hR.file
      exact ⟨⟨hB, (fun hc => by cases hc), hR.at_.width, hR.at_.count⟩, rfl, hR.me, (fun hc => by cases hc), f, f1, f2, (fun hc => by cases hc)⟩
    · exact ((h.rf r' e' hr2).stay hb (by simp; exact hne) (by simp) h.mlt h.ff).ext (fun _ h => h) (fun j f hj => ⟨f, hj, rfl, rfl, rfl, id⟩)
  · obtain ⟨E2, hE2⟩ : ∃ E2 : RE, E2 = { e with Y := { e.Y with closed := true }, rd := false } := ⟨_, rfl⟩
    have hop : E2.rd = false := by rw [hE2]
    have hl := PS.live_setR (S := S) (e' := E2) hr
    rw [ho, hop] at hl
    have hl : (S.setR r E2).live + 1 = S.live := by simpa using hl
    rw [hE2] at hl
    show W.A.used - W.D.size = _ * W.D.size
    rw [h.used, ← hl, Nat.add_mul, Nat.one_mul]
    omega
/-- A file is freed. -/
theorem PI.free_zero (h : PI w O K W S mo dw) {j : Nat} {f : FE} (hj : S.fs[j]? = some f) (hb0 : f.blocks = 0) : PI w O K W (S.setF j { f with freed := true }) mo dw := by
  refine ⟨h.wk, h.sure, h.bl, h.wf, fun j' f' hj' => ?_, fun r e hr => ?_, h.used, h.mlt, h.new, h.dfr⟩
  · rcases get_set hj' with ⟨rfl, rfl, -⟩ | ⟨hne, hj2⟩
    · have hF := h.ff _ _ hj
      exact ⟨hF.wid, hF.blocks, hF.fits, hF.len, hF.fst, (fun hc => by cases hc), hF.src⟩
    · exact (h.ff j' f' hj2).ext (fun _ h => h) (fun k e hk ho => ⟨e, hk, ho, rfl, rfl⟩)
  · refine (h.rf r e hr).ext (fun _ h => h) (fun j' f' hj' => ?_)
    by_cases hjj : j = j'
    · subst hjj
      rw [hj] at hj'
      injection hj' with hj'
      subst hj'
      exact ⟨{ f with freed := true }, by show (S.fs.set j _)[j]? = _; rw [set_get hj, if_pos rfl], rfl, rfl, rfl, (fun hc => by cases hc)⟩
    · exact ⟨f', by show (S.fs.set j _)[j']? = _; rw [set_get hj', if_neg hjj], rfl, rfl, rfl, id⟩
theorem PI.free_ok (h : PI w O K W S mo dw) {j : Nat} {f : FE} (hj : S.fs[j]? = some f) (hf : f.freed = false) (hb0 : f.blocks ≠ 0) {ev : Ending} (hg : GvTold w O K W f.first f.blocks ev w') :
    ∃ W' dw', ev = .returned (.int .i64 0) ∧ PI w' O K W' (S.setF j { f with freed := true }) mo dw' ∧ W'.D = W.D ∧ W'.B = W.B ∧ W'.A = W.A ∧ Turn K (fun _ => False) w w' := by
  obtain ⟨er, L', rfl, hgr, hI, hT⟩ := hg
  have hF := h.ff j f hj
  obtain ⟨l1, l2, l3⟩ := hF.live hf
  have hno : ∀ c, f.first ≤ c → c < f.first + f.blocks → ¬ Sp.Fr W.L c := fun c c1 c2 => by
    have := l3 (c - f.first) (by omega)
    rw [show f.first + (c - f.first) = c from by omega] at this
    exact (h.dfr c _ this).1
  obtain ⟨hinv, ⟨-, -, hnn⟩ | ⟨rfl, -, hc⟩⟩ := Sp.give_spec h.wk.inv hgr
  · exact absurd ⟨by omega, by omega, by omega, fun b h1 h2 => hno b (by omega) (by omega)⟩ hnn
  have hbs : Beside w w' O O K W { W with L := L' } mo dw (fun _ => False) none (some (false, j)) :=
    ⟨h.wk, hT, (fun _ h => h.elim), fun _ _ h => h, rfl, rfl, fun p hp _ => hp, fun _ _ _ _ => rfl⟩
  have hbs2 : Beside w w' O O K W { W with L := L' } mo dw (fun _ => False) none none :=
    ⟨h.wk, hT, (fun _ h => h.elim), fun _ _ h => h, rfl, rfl, fun p hp _ => hp, fun _ _ _ _ => rfl⟩
  refine ⟨_, cede dw (false, j) none 0 0, rfl, ⟨hI, h.sure, h.bl, fun k e hk => ((h.wf k e hk).stay hbs2 (by simp) (by simp) h.mlt).ext (fun _ h => h) (fun c hc => cede_else hc (by simp)), fun j' f' hj' => ?_, fun r e hr => ?_, h.used, fun g o hg => mlt_up h hT.size g o hg, fun g hg => h.new g (Nat.le_trans hT.size hg), fun c o hcc => ?_⟩, rfl, rfl, rfl, hT⟩
  · rcases get_set hj' with ⟨rfl, rfl, -⟩ | ⟨hne, hj2⟩
    · exact ⟨hF.wid, hF.blocks, hF.fits, hF.len, hF.fst, (fun hc => by cases hc), hF.src⟩
    · exact ((h.ff j' f' hj2).stay hbs2 (by simp)).ext (fun c hc => cede_else hc (by simp; exact hne)) (fun k e hk ho => ⟨e, hk, ho, rfl, rfl⟩)
  · refine ((h.rf r e hr).stay hbs2 (by simp) (by simp) h.mlt h.ff).ext (fun _ h => h) (fun j' f' hj' => ?_)
    by_cases hjj : j = j'
    · subst hjj
      rw [hj] at hj'
      injection hj' with hj'
      subst hj'
      exact ⟨{ f with freed := true }, by show (S.fs.set j _)[j]? = _; rw [set_get hj, if_pos rfl], rfl, rfl, rfl, (fun hc => by cases hc)⟩
    · exact ⟨f', by show (S.fs.set j _)[j']? = _; rw [set_get hj', if_neg hjj], rfl, rfl, rfl, id⟩
  · unfold cede at hcc
    split at hcc
    · split at hcc <;> cases hcc
    · rename_i hne
      obtain ⟨d1, d2⟩ := h.dfr c o hcc
      refine ⟨fun hfr => ?_, d2⟩
      rcases (hc c).1 hfr with h1 | ⟨h1, h2⟩
      · exact d1 h1
      · have := l3 (c - f.first) (by omega)
        rw [show f.first + (c - f.first) = c from by omega] at this
        exact hne this
end

end Go.Proofs.Ytmmkncocgjgapaa.Fp
