/- FilePlays: what each act leaves, in plain words. -/
import Derived.Test.YtmmkncocgjgapaaZFpInv
set_option linter.unusedVariables false
namespace Go.Proofs.Ytmmkncocgjgapaa.Fp
open Go.RowKit Fl

section
variable {w w' : World} {O O' : Nat → Prop} {K : Key} {W W' : Wk} {S : PS} {mo dw : Ow} {E : Nat → Prop}
theorem PI.base_le (h : PI w O K W S mo dw) : K.base ≤ w.heap.size := by have := h.wk.out.1; have := h.wk.box.lt; omega
/-- What is given back of one's own. -/
theorem gave_own {L L' : List Sp.Ext} {B first n : Nat} (hI : Sp.Inv 0 B L) (hb : first + n ≤ B ∨ n = 0) (hn : ∀ c, first ≤ c → c < first + n → ¬ Sp.Fr L c) (h : GaveRel L B first n L') : ∀ c, Sp.Fr L' c ↔ Sp.Fr L c ∨ (first ≤ c ∧ c < first + n) := by
  rcases h with ⟨rfl, rfl⟩ | ⟨h0, er, hg⟩
  · intro c
    exact ⟨.inl, fun h => h.elim id (fun h => by omega)⟩
  · obtain ⟨-, ⟨-, -, hno⟩ | ⟨-, -, hc⟩⟩ := Sp.give_spec hI hg
    · exact absurd ⟨by omega, by omega, by omega, fun b h1 h2 => hn b (by omega) (by omega)⟩ hno
    · intro c
      rw [hc c]
      constructor
      · rintro (h | ⟨h1, h2⟩)
        · exact .inl h
        · exact .inr ⟨by omega, by omega⟩
      · rintro (h | ⟨h1, h2⟩)
        · exact .inl h
        · exact .inr ⟨by omega, by omega⟩
/-- Nobody is turned. -/
theorem PI.still (h : PI w O K W S mo dw) (hI : WkI w' O' K W') (hb : Beside w w' O O' K W W' mo dw E none none) (hs : Sure W'.D ∧ W'.D.fault = -1) (hbl : W'.D.blocks = W'.B ∧ W'.B ≤ 5000) (hu : W'.A.used = W.A.used) (hL : ∀ c, Sp.Fr W'.L c → Sp.Fr W.L c) (hn : ∀ g, w'.heap.size ≤ g → O' g) : PI w' O' K W' S mo dw :=
  ⟨hI, hs, hbl, fun k e hk => (h.wf k e hk).stay hb (by simp) (by simp) h.mlt, fun j f hj => (h.ff j f hj).stay hb (by simp), fun r e hr => (h.rf r e hr).stay hb (by simp) (by simp) h.mlt h.ff, by rw [hu, hb.size]; exact h.used, fun g o hg => by
    have := h.mlt g o hg
    exact ⟨this.1, Nat.lt_of_lt_of_le this.2 hb.turn.size⟩, hn, fun b o ho => by
    obtain ⟨a1, a2⟩ := h.dfr b o ho
    exact ⟨fun hf => a1 (hL _ hf), by rw [hb.b]; exact a2⟩⟩
theorem PI.below (h : PI w O K W S mo dw) (hb : Below w.heap.size w w') : PI w' O K W S mo dw :=
  h.still (E := fun _ => False) (h.wk.below hb) ⟨h.wk, Turn.below hb, (fun _ h => h.elim), fun _ _ h => h, rfl, rfl, fun _ h _ => h, fun _ _ _ _ => rfl⟩ h.sure h.bl rfl (fun _ h => h) (fun g hg => h.new g (Nat.le_trans hb.size hg))

/-- A writer more. -/
def PS.addW (S : PS) (e : WE) : PS := { S with ws := S.ws ++ [e] }
def PS.setW (S : PS) (k : Nat) (e : WE) : PS := { S with ws := S.ws.set k e }
def PS.addF (S : PS) (f : FE) : PS := { S with fs := S.fs ++ [f] }
def PS.setF (S : PS) (j : Nat) (f : FE) : PS := { S with fs := S.fs.set j f }
def PS.addR (S : PS) (e : RE) : PS := { S with rs := S.rs ++ [e] }
def PS.setR (S : PS) (r : Nat) (e : RE) : PS := { S with rs := S.rs.set r e }
theorem get_add {α : Type} {l : List α} {x : α} {k : Nat} {e : α} (h : (l ++ [x])[k]? = some e) : l[k]? = some e ∨ (k = l.length ∧ e = x) := by
  by_cases hk : k < l.length
  · rw [List.getElem?_append_left hk] at h
    exact .inl h
  · rw [List.getElem?_append_right (by omega)] at h
    obtain ⟨h1, h2⟩ := List.getElem?_eq_some_iff.1 h
    simp at h1 h2
    exact .inr ⟨by omega, h2.symm⟩
theorem get_set {α : Type} {l : List α} {x : α} {i k : Nat} {e : α} (h : (l.set i x)[k]? = some e) : (k = i ∧ e = x ∧ i < l.length) ∨ (k ≠ i ∧ l[k]? = some e) := by
  rw [List.getElem?_set] at h
  split at h
  · rename_i hik
    split at h
    · injection h with h
      exact .inl ⟨hik.symm, h.symm, by assumption⟩
    · cases h
  · rename_i hik
    exact .inr ⟨fun e => hik e.symm, h⟩
theorem set_get {α : Type} {l : List α} {x y : α} {i k : Nat} (h : l[k]? = some y) : (l.set i x)[k]? = if i = k then some x else some y := by
  rw [List.getElem?_set]
  obtain ⟨h1, h2⟩ := List.getElem?_eq_some_iff.1 h
  split
  · rename_i e
    subst e
    rw [if_pos h1]
  · exact h
theorem count_set {α : Type} {p : α → Bool} {l : List α} {x y : α} {i : Nat} (h : l[i]? = some y) : (l.set i x).countP p + (if p y then 1 else 0) = l.countP p + (if p x then 1 else 0) := by
  obtain ⟨h1, h2⟩ := List.getElem?_eq_some_iff.1 h
  have e1 : l = l.take i ++ y :: l.drop (i + 1) := by
    rw [← h2, List.getElem_cons_drop, List.take_append_drop]
  have e2 : l.set i x = l.take i ++ x :: l.drop (i + 1) := by rw [List.set_eq_take_append_cons_drop, if_pos h1]
  rw [e2, List.countP_append, List.countP_cons]
  conv => rhs; rw [e1, List.countP_append, List.countP_cons]
  omega
theorem live_le {α : Type} {p : α → Bool} {l : List α} {y : α} {i : Nat} (h : l[i]? = some y) (hp : p y = true) : 1 ≤ l.countP p := by
  obtain ⟨h1, h2⟩ := List.getElem?_eq_some_iff.1 h
  exact List.countP_pos_iff.2 ⟨y, h2 ▸ List.getElem_mem h1, hp⟩
theorem PS.live_addW (S : PS) (e : WE) : (S.addW e).live = S.live + (if e.op then 1 else 0) := by
  unfold PS.live PS.addW
  simp only [List.countP_append, List.countP_cons, List.countP_nil]
  omega
theorem PS.live_addR (S : PS) (e : RE) : (S.addR e).live = S.live + (if e.rd then 1 else 0) := by
  unfold PS.live PS.addR
  simp only [List.countP_append, List.countP_cons, List.countP_nil]
  omega
theorem PS.live_setW {S : PS} {k : Nat} {e e' : WE} (h : S.ws[k]? = some e) : (S.setW k e').live + (if e.op then 1 else 0) = S.live + (if e'.op then 1 else 0) := by
  have := count_set (p := fun (e : WE) => e.op) (x := e') h
  unfold PS.live PS.setW
  simp only
  omega
theorem PS.live_setR {S : PS} {k : Nat} {e e' : RE} (h : S.rs[k]? = some e) : (S.setR k e').live + (if e.rd then 1 else 0) = S.live + (if e'.rd then 1 else 0) := by
  have := count_set (p := fun (e : RE) => e.rd) (x := e') h
  unfold PS.live PS.setR
  simp only
  omega
/-- Owners: who is named by one. -/
def grab (mo : Ow) (x b d : Nat) (o : Bool × Nat) : Ow := fun g => if g = x ∨ g = b ∨ g = d then some o else mo g
theorem grab_old {mo : Ow} {x b d : Nat} {o : Bool × Nat} {N : Nat} (hx : N ≤ x) (hb : N ≤ b) (hd : N ≤ d) {g : Nat} {o' : Bool × Nat} (h : mo g = some o') (hg : g < N) : grab mo x b d o g = some o' := by
  unfold grab
  rw [if_neg (by omega)]
  exact h

theorem PI.write_ok (h : PI w O K W S mo dw) {x b d first wN bN : Nat} {L' : List Sp.Ext} (h1 : 1 ≤ wN) (h5 : wN ≤ 5) (hbN : bN ≤ 100000000) (ht : Turn K (fun _ => False) w w') (hx : w.heap.size ≤ x) (hb : w.heap.size ≤ b) (hd : w.heap.size ≤ d)
    (hL : (blocksOf W.D.size wN bN = 0 ∧ first = 0 ∧ L' = W.L) ∨ (0 < blocksOf W.D.size wN bN ∧ Sp.TakeRel W.L 0 W.B (blocksOf W.D.size wN bN) (first : Int) 0 L'))
    (hI : WkI w' (but O d) K { W with A := W.A.grant W.D.size b, L := L' }) (hA : WrAt w' (but O d) K { W with A := W.A.grant W.D.size b, L := L' } x (fresh W.D.size first (blocksOf W.D.size wN bN).toNat wN bN b d)) :
    ∃ mo' dw', PI w' (but O d) K { W with A := W.A.grant W.D.size b, L := L' } (S.addW ⟨x, fresh W.D.size first (blocksOf W.D.size wN bN).toNat wN bN b d, [], .slice none 0 0, true⟩) mo' dw' := by
  obtain ⟨s8, s256⟩ := h.wk.size
  have hnb := nB_eq (size := W.D.size) (count := bN) s8 h1 h5
  obtain ⟨n, hn⟩ : ∃ n, n = nB W.D.size wN bN := ⟨_, rfl⟩
  rw [← hn] at hnb
  rw [hnb] at hL hA ⊢
  rw [Int.toNat_natCast] at hA ⊢
  have hrng : (∀ c, first ≤ c → c < first + n → Sp.Fr W.L c ∧ ¬ Sp.Fr L' c ∧ c < W.B) ∧ (∀ c, Sp.Fr L' c → Sp.Fr W.L c) ∧ first + n ≤ W.B := by
    rcases hL with ⟨e1, e2, e3⟩ | ⟨e1, e2⟩
    · subst e3
      have : n = 0 := by omega
      exact ⟨fun c h1 h2 => by omega, fun c h => h, by omega⟩
    · obtain ⟨-, ⟨a1, -⟩ | ⟨m, -, -, -, -, -, a6, -⟩ | ⟨m, p, a1, a2, -, a4, a5, a6, a7, -, a8, -⟩⟩ := Sp.take_spec h.wk.inv e2
      · omega
      · cases a6
      · have e3 : n = m := by omega
        have e4 : first = p := by omega
        subst e3 e4
        refine ⟨fun c c1 c2 => ⟨a7 c c1 c2, fun hf => ((a8 c).1 hf).2 ⟨c1, c2⟩, by omega⟩, fun c hf => ((a8 c).1 hf).1, by omega⟩
  obtain ⟨r1, r2, r3⟩ := hrng
  have hbs : Beside w w' O (but O d) K W { W with A := W.A.grant W.D.size b, L := L' } mo dw (fun _ => False) none none :=
    ⟨h.wk, ht, (fun _ h => h.elim), fun _ _ h => h.1, rfl, rfl, fun p hp _ => List.mem_append_left _ hp, fun _ _ _ _ => rfl⟩
  have hBf := hA.live rfl
  have hxl := hA.blk.lt
  have hbl := hBf.blk.lt
  have hdl := hBf.row.lt
  have hbase := h.base_le
  have hext : ∀ (o : Bool × Nat) (g : Nat), mo g = some o → grab mo x b d (true, S.ws.length) g = some o := fun o g hg => grab_old hx hb hd hg (h.mlt g o hg).2
  have hdx : ∀ (o : Bool × Nat) (c : Nat), dw c = some o → (if first ≤ c ∧ c < first + n then some (true, S.ws.length) else dw c) = some o := fun o c hc => by
    rw [if_neg (fun hh => (h.dfr c o hc).1 (r1 c hh.1 hh.2).1)]
    exact hc
  refine ⟨grab mo x b d (true, S.ws.length), (fun c => if first ≤ c ∧ c < first + n then some (true, S.ws.length) else dw c), hI, h.sure, h.bl, fun k e hk => ?_, fun j f hj => ?_, fun r e hr => ?_, ?_, fun g o hg => ?_, fun g hg => ?_, fun c o hc => ?_⟩
  · rcases get_add hk with hk | ⟨rfl, rfl⟩
    · exact ((h.wf k e hk).stay hbs (by simp) (by simp) h.mlt).ext (hext _) (hdx _)
    · refine ⟨by unfold grab; simp, (fun t ht => by cases ht), ⟨h1, h5, hbN⟩, Nat.zero_le _, fun _ => ⟨hA, rfl, Wr.Has.new b d first n wN bN s8 h1 h5 (by rw [hn]; exact (nB_eq s8 h1 h5).symm), by unfold grab; simp [fresh], by unfold grab; simp [fresh], r3, fun i hi => ?_⟩, (fun ho => by cases ho)⟩
      have hi : i < n := hi
      show (if first ≤ first + i ∧ first + i < first + n then _ else _) = _
      rw [if_pos ⟨by omega, by omega⟩]
  · exact ((h.ff j f hj).stay hbs (by simp)).ext (hdx _) (fun k e hk ho => ⟨e, by
      obtain ⟨h1, h2⟩ := List.getElem?_eq_some_iff.1 hk
      show (S.ws ++ [_])[k]? = _
      rw [List.getElem?_append_left h1]
      exact hk, ho, rfl, rfl⟩)
  · exact ((h.rf r e hr).stay hbs (by simp) (by simp) h.mlt h.ff).ext (hext _) (fun j f hj => ⟨f, hj, rfl, rfl, rfl, id⟩)
  · rw [PS.live_addW]
    show W.A.used + W.D.size = (S.live + 1) * W.D.size
    rw [h.used, Nat.add_mul, Nat.one_mul]
  · unfold grab at hg
    split at hg
    · rename_i hc
      rcases hc with rfl | rfl | rfl <;> exact ⟨by omega, by assumption⟩
    · have := h.mlt g o hg
      exact ⟨this.1, Nat.lt_of_lt_of_le this.2 ht.size⟩
  · have hdl2 : d < w'.heap.size := hdl
    exact ⟨h.new g (Nat.le_trans ht.size hg), by omega⟩
  · have hc : (if first ≤ c ∧ c < first + n then some (true, S.ws.length) else dw c) = some o := hc
    split at hc
    · rename_i hh
      obtain ⟨q1, q2, q3⟩ := r1 c hh.1 hh.2
      exact ⟨q2, q3⟩
    · obtain ⟨q1, q2⟩ := h.dfr c o hc
      exact ⟨fun hf => q1 (r2 c hf), q2⟩
end

end Go.Proofs.Ytmmkncocgjgapaa.Fp
