/- FilePlays: what each act leaves, in plain words (the rest). -/
import Derived.Test.YtmmkncocgjgapaaZFpMove
set_option linter.unusedVariables false
namespace Go.Proofs.Ytmmkncocgjgapaa.Fp
open Go.RowKit Fl

section
variable {w w' : World} {O O' : Nat → Prop} {K : Key} {W W' : Wk} {S : PS} {mo dw : Ow} {E : Nat → Prop}
theorem closed_kept {k : Nat} {e e2 : WE} (hk : S.ws[k]? = some e) (ho : e.op = true) (j : Nat) (f : WE) (hj : S.ws[j]? = some f) (hf : f.op = false) : ∃ f' : WE, (S.ws.set k e2)[j]? = some f' ∧ f'.op = false ∧ f'.pv = f.pv ∧ f'.ps = f.ps := by
  have hne : k ≠ j := fun h => by
    subst h
    rw [hk] at hj
    injection hj with hj
    rw [hj, hf] at ho
    cases ho
  exact ⟨f, by rw [set_get hj, if_neg hne], hf, rfl, rfl⟩
theorem mlt_up (h : PI w O K W S mo dw) (ht : w.heap.size ≤ w'.heap.size) (g : Nat) (o : Bool × Nat) (hg : mo g = some o) : K.base ≤ g ∧ g < w'.heap.size := ⟨(h.mlt g o hg).1, Nat.lt_of_lt_of_le (h.mlt g o hg).2 ht⟩

/-- A tuple is put. -/
theorem PI.put_ok (h : PI w O K W S mo dw) {k : Nat} {e : WE} (hk : S.ws[k]? = some e) (ho : e.op = true) {t : Tup} (ht : t.length = 5) (hz : Crc.zeroW (t.drop e.X.width) = true) {ev : Ending} (hy : PutYes w O K W e.x e.X t ev w') (hH : (e.X.next W t).1.Has (e.X.next W t).2 (e.ps ++ [t])) :
    PI w' O K { W with D := (e.X.next W t).2 } (S.setW k { e with X := (e.X.next W t).1, ps := e.ps ++ [t] }) mo dw := by
  obtain ⟨h0, -, hI, hA, hT⟩ := hy
  have hw := h.wf k e hk
  obtain ⟨a1, a2, a3, a4, a5, a6, a7⟩ := hw.live ho
  obtain ⟨n1, n2, n3, n4, n5, n6, n7, n8, n9, n10⟩ := next_same e.X W t
  obtain ⟨g1, g2, g3⟩ := next_goes (t := t) h0
  obtain ⟨s8, s256⟩ := h.wk.size
  have hle : (e.X.next W t).1.at_ ≤ e.X.blocks := by
    have := hH.ok.at_le' (by rw [n10]; exact s8) (by rw [n3]; exact hw.wid.1) (by rw [n3]; exact hw.wid.2.1)
    rw [n2] at this
    exact this
  have hb : Beside w w' O O K W { W with D := (e.X.next W t).2 } mo dw (Own e.x e.X) (some (true, k)) (some (true, k)) :=
    ⟨h.wk, hT, fun g hg => .inr ⟨by rcases hg with rfl | rfl | rfl <;> first | exact hw.me | exact a4 | exact a5, by simp⟩, fun _ _ h => h, n10, rfl, fun p hp _ => hp, fun b o hb hne => g3 _ (fun j j1 j2 e2 => by
      have e3 : b = e.X.first + j := by omega
      rw [e3, a7 j (by omega)] at hb
      exact hne hb.symm)⟩
  have hcnt := hH.cnt
  have hokle := hH.ok.le
  refine ⟨hI, ⟨g2.sure h.sure.1, g2.fault h.sure.2⟩, ⟨g2.blocks.trans h.bl.1, h.bl.2⟩, fun k' e' hk' => ?_, fun j f hj => ?_, fun r e' hr => ?_, ?_, fun g o hg => mlt_up h hT.size g o hg, fun g hg => h.new g (Nat.le_trans hT.size hg), h.dfr⟩
  · rcases get_set hk' with ⟨rfl, rfl, -⟩ | ⟨hne, hk2⟩
    · refine ⟨hw.me, fun u hu => ?_, ?_, ?_, fun _ => ⟨hA, n9.trans a2, hH, ?_, ?_, ?_, ?_⟩, (fun hf => by rw [show ({ e with X := (e.X.next W t).1, ps := e.ps ++ [t] } : WE).op = e.op from rfl, ho] at hf; cases hf)⟩
      · show u.length = 5 ∧ Crc.zeroW (u.drop (e.X.next W t).1.width) = true
        rw [n3]
        rcases List.mem_append.1 hu with hu | hu
        · exact hw.fits u hu
        · simp at hu; subst hu; exact ⟨ht, hz⟩
      · show 1 ≤ (e.X.next W t).1.width ∧ (e.X.next W t).1.width ≤ 5 ∧ (e.X.next W t).1.bound ≤ _
        rw [n3, n4]
        exact hw.wid
      · show (e.ps ++ [t]).length ≤ (e.X.next W t).1.bound
        omega
      · show mo (e.X.next W t).1.buf = _
        rw [n6]; exact a4
      · show mo (e.X.next W t).1.arr = _
        rw [n7]; exact a5
      · show (e.X.next W t).1.first + (e.X.next W t).1.blocks ≤ W.B
        rw [n1, n2]; exact a6
      · show ∀ i, i < (e.X.next W t).1.blocks → dw ((e.X.next W t).1.first + i) = _
        rw [n1, n2]; exact a7
    · exact (h.wf k' e' hk2).stay hb (by simp; exact hne) (by simp; exact hne) h.mlt
  · exact ((h.ff j f hj).stay hb (by simp)).ext (fun _ h => h) (closed_kept hk ho)
  · exact ((h.rf r e' hr).stay hb (by simp) (by simp) h.mlt h.ff).ext (fun _ h => h) (fun j f hj => ⟨f, hj, rfl, rfl, rfl, id⟩)
  · obtain ⟨E2, hE2⟩ : ∃ E2 : WE, E2 = { e with X := (e.X.next W t).1, ps := e.ps ++ [t] } := ⟨_, rfl⟩
    have hop : E2.op = true := by rw [hE2]; exact ho
    have hl := PS.live_setW (S := S) (e' := E2) hk
    rw [ho, hop] at hl
    have hl : (S.setW k E2).live = S.live := by simpa using hl
    rw [hE2] at hl
    show W.A.used = _ * (e.X.next W t).2.size
    rw [n10, hl]
    exact h.used

/-- Whose blocks they are behind a Close, a Drop or a Free. -/
def cede (dw : Ow) (o : Bool × Nat) (o' : Option (Bool × Nat)) (lo hi : Nat) : Ow := fun c => if dw c = some o then (if lo ≤ c ∧ c < hi then o' else none) else dw c
theorem cede_else {dw : Ow} {o : Bool × Nat} {o' : Option (Bool × Nat)} {lo hi c : Nat} {q : Bool × Nat} (h : dw c = some q) (hne : q ≠ o) : cede dw o o' lo hi c = some q := by
  unfold cede
  rw [if_neg (fun e => hne (by rw [h] at e; injection e))]
  exact h
/-- A writer ends: so many of its blocks become a file's, the rest is given back. -/
theorem PI.end_w (h : PI w O K W S mo dw) {k : Nat} {e : WE} (hk : S.ws[k]? = some e) (ho : e.op = true) {n : Nat} (hn : n ≤ e.X.blocks) {L' : List Sp.Ext} {D' : Dev.Dv} (o' : Option (Bool × Nat)) (hgv : GaveRel W.L W.B (e.X.first + n) (e.X.blocks - n) L')
    (hsz : D'.size = W.D.size) (hbl : D'.blocks = W.D.blocks) (hsu : Sure D' ∧ D'.fault = -1) (hnow : ∀ b o, dw b = some o → o ≠ (true, k) → D'.now (b : Int) = W.D.now (b : Int))
    (hI : WkI w' O K { W with D := D', A := W.A.release e.X.buf W.D.size, L := L' }) (hd : ∃ cs, Blk w' e.x 117 cs ∧ cs[9]? = some (.bool true)) (hE : ∀ g, E g → Own e.x e.X g ∨ w.heap.size ≤ g) (hT : Turn K E w w') :
    PI w' O K { W with D := D', A := W.A.release e.X.buf W.D.size, L := L' } (S.setW k { e with op := false }) mo (cede dw (true, k) none (e.X.first) (e.X.first + n)) ∧ (∀ c, e.X.first ≤ c → c < e.X.first + n → ¬ Sp.Fr L' c) ∧ (∀ c o, dw c = some o → o ≠ (true, k) → ¬ Sp.Fr L' c) ∧ 1 ≤ S.live := by
  have hw := h.wf k e hk
  obtain ⟨a1, a2, a3, a4, a5, a6, a7⟩ := hw.live ho
  have hfr := gave_own h.wk.inv (by omega) (fun c c1 c2 => (h.dfr c _ (by have := a7 (c - e.X.first) (by omega); rw [show e.X.first + (c - e.X.first) = c from by omega] at this; exact this)).1) hgv
  have hb : Beside w w' O O K W { W with D := D', A := W.A.release e.X.buf W.D.size, L := L' } mo dw E (some (true, k)) (some (true, k)) :=
    ⟨h.wk, hT, fun g hg => by
      rcases hE g hg with h1 | h1
      · exact .inr ⟨by rcases h1 with rfl | rfl | rfl <;> first | exact hw.me | exact a4 | exact a5, by simp⟩
      · exact .inl h1, fun _ _ h => h, hsz, rfl, fun p hp hpm => List.mem_filter.2 ⟨hp, by
        rw [decide_eq_true_eq]
        intro e2
        rw [e2, a4] at hpm
        exact absurd (hpm rfl) (by simp)⟩, fun b o hb hne => hnow b o hb (fun e2 => hne (by rw [e2]))⟩
  have hoth : ∀ c o, dw c = some o → o ≠ (true, k) → ¬ Sp.Fr L' c := fun c o hc hne hf => by
    rcases (hfr c).1 hf with h1 | ⟨h1, h2⟩
    · exact (h.dfr c o hc).1 h1
    · have := a7 (c - e.X.first) (by omega)
      rw [show e.X.first + (c - e.X.first) = c from by omega, hc] at this
      injection this with this
      exact hne this
  have hl := PS.live_setW (S := S) (e' := { e with op := false }) hk
  simp [ho] at hl
  refine ⟨⟨hI, hsu, ⟨hbl.trans h.bl.1, h.bl.2⟩, fun k' e' hk' => ?_, fun j f hj => ?_, fun r e' hr => ?_, ?_, fun g o hg => mlt_up h hT.size g o hg, fun g hg => h.new g (Nat.le_trans hT.size hg), fun c o hc => ?_⟩, fun c c1 c2 hf => ?_, hoth, by omega⟩
  · rcases get_set hk' with ⟨rfl, rfl, -⟩ | ⟨hne, hk2⟩
    · exact ⟨hw.me, hw.fits, hw.wid, hw.len, (fun hf => by cases hf), fun _ => hd⟩
    · exact ((h.wf k' e' hk2).stay hb (by simp; exact hne) (by simp; exact hne) h.mlt).ext (fun _ h => h) (fun c hc => cede_else hc (by simp; exact hne))
  · exact ((h.ff j f hj).stay hb (by simp)).ext (fun c hc => cede_else hc (by simp)) (closed_kept hk ho)
  · exact ((h.rf r e' hr).stay hb (by simp) (by simp) h.mlt h.ff).ext (fun _ h => h) (fun j f hj => ⟨f, hj, rfl, rfl, rfl, id⟩)
  · show W.A.used - W.D.size = _ * D'.size
    rw [hsz, h.used, ← hl, Nat.add_mul, Nat.one_mul]
    omega
  · unfold cede at hc
    split at hc
    · split at hc <;> cases hc
    · rename_i hne
      exact ⟨hoth c o hc (fun e2 => hne (by rw [hc, e2])), (h.dfr c o hc).2⟩
  · have h7 := a7 (c - e.X.first) (by omega)
    rw [show e.X.first + (c - e.X.first) = c from by omega] at h7
    rcases (hfr c).1 hf with h1 | ⟨h1, h2⟩
    · exact (h.dfr c _ h7).1 h1
    · omega
/-- A writer is dropped. -/
theorem PI.drop_ok (h : PI w O K W S mo dw) {k : Nat} {e : WE} (hk : S.ws[k]? = some e) (ho : e.op = true) {ev : Ending} (hd : DropTold w O K W e.x e.X ev w') : ∃ W' dw', PI w' O K W' (S.setW k { e with op := false }) mo dw' ∧ W'.D = W.D ∧ W'.B = W.B ∧ W'.A.room = W.A.room ∧ Turn K (Own e.x e.X) w w' := by
  obtain ⟨L', -, hgv, hI, hb, hT⟩ := hd
  obtain ⟨h1, -, -, -⟩ := h.end_w (n := 0) hk ho (Nat.zero_le _) none (by rw [Nat.add_zero, Nat.sub_zero]; exact hgv) rfl rfl h.sure (fun _ _ _ _ => rfl) hI ⟨_, hb, rfl⟩ (fun g hg => .inl hg) hT
  exact ⟨_, _, h1, rfl, rfl, rfl, hT⟩
/-- A writer is closed: a file more. -/
theorem PI.close_ok (h : PI w O K W S mo dw) {k : Nat} {e : WE} (hk : S.ws[k]? = some e) (ho : e.op = true) {ev : Ending} (hc : CloseDone w O K W e.x e.X e.ps ev w') :
    ∃ W' dw', PI w' O K W' ((S.setW k { e with op := false }).addF ⟨if nB W.D.size e.X.width e.ps.length = 0 then 0 else e.X.first, nB W.D.size e.X.width e.ps.length, e.X.width, e.ps, e.pv, false⟩) mo dw' ∧ W'.D.size = W.D.size ∧ W'.B = W.B ∧ W'.A.room = W.A.room ∧ W'.D.acts ≤ W.D.acts + 5000 ∧ Turn K (fun g => Own e.x e.X g ∨ w.heap.size ≤ g) w w' := by
  obtain ⟨L', D', -, hgv, hli, hgo, hat, hnb, hnow, hI, hb, hT⟩ := hc
  have hw := h.wf k e hk
  obtain ⟨a1, a2, a3, a4, a5, a6, a7⟩ := hw.live ho
  obtain ⟨n, hn⟩ : ∃ n, n = nB W.D.size e.X.width e.ps.length := ⟨_, rfl⟩
  rw [← hn] at hgv hli hgo hat hnb hnow ⊢
  have hnow2 : ∀ b o, dw b = some o → o ≠ (true, k) → D'.now (b : Int) = W.D.now (b : Int) := fun b o hb hne => hnow _ (fun j j1 j2 e2 => by
    have e3 : b = e.X.first + j := by omega
    rw [e3, a7 j (by omega)] at hb
    injection hb with hb
    exact hne hb.symm)
  obtain ⟨h1, h2, h3, h4⟩ := h.end_w (n := n) hk ho hnb none hgv hgo.size hgo.blocks ⟨hgo.sure h.sure.1, hgo.fault h.sure.2⟩ hnow2 hI hb (fun g hg => hg) hT
  have hB := h.bl.2
  refine ⟨_, fun c => if e.X.first ≤ c ∧ c < e.X.first + n then some (false, S.fs.length) else cede dw (true, k) none e.X.first (e.X.first + n) c, ⟨h1.wk, h1.sure, h1.bl, fun k' e' hk' => ?_, fun j f hj => ?_, fun r e' hr => ?_, ?_, h1.mlt, h1.new, fun c o hc => ?_⟩, hgo.size, rfl, rfl, by rw [hgo.acts]; omega, hT⟩
  · have hext : ∀ c o, cede dw (true, k) none e.X.first (e.X.first + n) c = some o → ¬ (e.X.first ≤ c ∧ c < e.X.first + n) := fun c o hc hh => by
      have h7 := a7 (c - e.X.first) (by omega)
      rw [show e.X.first + (c - e.X.first) = c from by omega] at h7
      unfold cede at hc
      rw [if_pos h7, if_pos hh] at hc
      cases hc
    exact (h1.wf k' e' hk').ext (fun _ h => h) (fun c hc => by
      show (if _ then _ else _) = _
      rw [if_neg (hext c _ hc)]
      exact hc)
  · have hext : ∀ c o, cede dw (true, k) none e.X.first (e.X.first + n) c = some o → ¬ (e.X.first ≤ c ∧ c < e.X.first + n) := fun c o hc hh => by
      have h7 := a7 (c - e.X.first) (by omega)
      rw [show e.X.first + (c - e.X.first) = c from by omega] at h7
      unfold cede at hc
      rw [if_pos h7, if_pos hh] at hc
      cases hc
    rcases get_add hj with hj | ⟨rfl, rfl⟩
    · exact (h1.ff j f hj).ext (fun c hc => by
        show (if _ then _ else _) = _
        rw [if_neg (hext c _ hc)]
        exact hc) (fun k e hk ho => ⟨e, hk, ho, rfl, rfl⟩)
    · refine ⟨⟨hw.wid.1, hw.wid.2.1⟩, ?_, hw.fits, Nat.le_trans hw.len hw.wid.2.2, ⟨?_, fun hz => ?_⟩, fun _ => ⟨?_, ?_, fun i hi => ?_⟩, k, { e with op := false }, ?_, rfl, rfl, rfl⟩
      · show n = nB D'.size e.X.width e.ps.length
        rw [hgo.size]; exact hn
      · show (if n = 0 then 0 else e.X.first) ≤ 5000
        split <;> omega
      · show (if n = 0 then 0 else e.X.first) = 0
        rw [if_pos hz]
      · show Lies D' e.X.width (if n = 0 then 0 else e.X.first) n e.ps
        by_cases hz : n = 0
        · rw [hz]; intro j hj; omega
        · rw [if_neg hz]; exact hli
      · show (if n = 0 then 0 else e.X.first) + n ≤ W.B
        split <;> omega
      · have hi : i < n := hi
        show (if e.X.first ≤ (if n = 0 then 0 else e.X.first) + i ∧ (if n = 0 then 0 else e.X.first) + i < e.X.first + n then _ else _) = _
        rw [if_neg (show ¬ n = 0 by omega), if_pos ⟨by omega, by omega⟩]
        rfl
      · show (S.ws.set k { e with op := false })[k]? = _
        rw [set_get hk, if_pos rfl]
  · exact (h1.rf r e' hr).ext (fun _ h => h) (fun j f hj => ⟨f, by
      obtain ⟨q1, q2⟩ := List.getElem?_eq_some_iff.1 hj
      have q1 : j < S.fs.length := q1
      show (S.fs ++ [_])[j]? = _
      rw [List.getElem?_append_left q1]
      exact hj, rfl, rfl, rfl, id⟩)
  · exact h1.used
  · have hc : (if e.X.first ≤ c ∧ c < e.X.first + n then some (false, S.fs.length) else cede dw (true, k) none e.X.first (e.X.first + n) c) = some o := hc
    split at hc
    · rename_i hh
      exact ⟨h2 c hh.1 hh.2, by show c < W.B; omega⟩
    · exact h1.dfr c o hc
end

end Go.Proofs.Ytmmkncocgjgapaa.Fp
