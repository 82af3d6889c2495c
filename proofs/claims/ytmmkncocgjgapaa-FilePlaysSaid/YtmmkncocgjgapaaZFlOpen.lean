/- Open writers and readers, on devices whose power doesn't fail. -/
import Derived.Test.YtmmkncocgjgapaaK11
set_option linter.unusedVariables false
namespace Go.Proofs.Ytmmkncocgjgapaa.Fl
open Go.RowKit

section
variable {w w' : World} {O : Nat → Prop} {K : Key} {W : Wk} {x : Nat} {l : List Tup}
theorem Wr.Ok.at_lt {size : Nat} {X : Wr} (h : X.Ok size) (h8 : 8 ≤ size) (h1 : 1 ≤ X.width) (h5 : X.width ≤ 5) (hb : X.count ≠ X.bound ∨ 0 < X.n) : X.at_ < X.blocks := by
  obtain ⟨k, hk, e, hc⟩ := h.part
  have hcap := h.cap h8 h1 h5
  have hle := h.le
  have hlt : X.at_ * hN size X.width < X.blocks * hN size X.width := by
    rcases hb with hb | hb
    · omega
    · have hk0 : k ≠ 0 := fun e0 => by rw [e, e0, Nat.zero_mul] at hb; omega
      omega
  exact Nat.lt_of_mul_lt_mul_right hlt
theorem Wr.Ok.at_le' {size : Nat} {X : Wr} (h : X.Ok size) (h8 : 8 ≤ size) (h1 : 1 ≤ X.width) (h5 : X.width ≤ 5) : X.at_ ≤ X.blocks := by
  obtain ⟨k, hk, e, hc⟩ := h.part
  have hcap := h.cap h8 h1 h5
  have hle := h.le
  exact Nat.le_of_mul_le_mul_right (show X.at_ * hN size X.width ≤ X.blocks * hN size X.width by omega) (hN_pos h8 h1 h5)
theorem put_room {size : Nat} {X : Wr} {t : Tup} (h : X.Ok size) : (((X.put t).ws).take (X.put t).n).length + 2 ≤ size ∨ size < 2 := by
  rcases Nat.lt_or_ge size 2 with h2 | h2
  · exact .inr h2
  · obtain ⟨k', hk', e', _⟩ := h.part
    have hm : (k' + 1) * X.width ≤ hN size X.width * X.width := Nat.mul_le_mul_right _ hk'
    rw [Nat.add_mul] at hm
    have := hN_mul size X.width
    refine .inl ?_
    rw [List.length_take]
    show min (X.n + X.width) _ + 2 ≤ _
    omega

/-- A Put that the device doesn't take. -/
def PutFelt (w : World) (O : Nat → Prop) (K : Key) (W : Wk) (x : Nat) (X : Wr) (t : Tup) (e : Ending) (w' : World) : Prop :=
  W.D.fault = 0 ∧ ∃ L' D', e = .returned (.int .i64 6) ∧ GaveRel W.L W.B X.first X.blocks L' ∧ Felt W.D D' ∧
    WkI w' O K { W with D := D', A := W.A.release X.buf W.D.size, L := L' } ∧ Blk w' x 117 (wcells K { X.put t with closed := true }) ∧ Turn K (Own x X) w w'
theorem put_sure {X : Wr} (t : Tup) (hI : WkI w O K W) (h : WrAt w O K W x X) (hc : X.closed = false) (hH : X.Has W.D l) (hs : Sure W.D) (hfit : X.first + X.blocks ≤ W.D.blocks) (ht : t.length = 5) (hz : Crc.zeroW (t.drop X.width) = true) (hb : X.count ≠ X.bound)
    (hac : W.D.acts + 1 < 1099511627776) (hO : ∀ g, w.heap.size ≤ g → O g) :
    Calls Try.prog 23 #[P x, .agg (icells t).toArray] w (fun e w' => (PutYes w O K W x X t e w' ∧ (X.next W t).1.Has (X.next W t).2 (l ++ [t])) ∨ PutFelt w O K W x X t e w') := by
  obtain ⟨w1, w5⟩ := h.width
  obtain ⟨s8, s256⟩ := hI.size
  refine (put_live t ht hI h hc hH.ok hac hO).mono ?_
  rintro e w' (⟨h0, _⟩ | ⟨_, h0, _⟩ | ⟨_, _, hp | hp⟩)
  · rw [hz] at h0; cases h0
  · exact absurd h0 hb
  · exact .inl ⟨hp, hH.put s8 w1 w5 ht hb hp.1⟩
  · obtain ⟨hd, h0, L', rfl, hg, hI', hX', ht'⟩ := hp
    have hlt := hH.ok.at_lt s8 w1 w5 (.inl hb)
    have hsw := sure_wr (i := (((X.put t).first + (X.put t).at_ : Nat) : Int)) (ws := sealed ((X.put t).ws.take (X.put t).n) W.D.size (X.put t).width ((X.put t).first + (X.put t).at_)) hs (by omega) (by show ((X.first + X.at_ : Nat) : Int) < _; omega) (sealed_length (by
      rcases put_room (t := t) hH.ok with h | h
      · exact h
      · omega))
    rcases hsw with hw | ⟨f1, f2, f3⟩
    · exact absurd hw h0
    · have f2' : ((X.put t).wrote W).1 = 6 := f2
      rw [f2']
      exact .inr ⟨f1, L', _, rfl, hg, f3, hI', hX', ht'⟩

/-- A Close that the device doesn't take. -/
def CloseFelt (w : World) (O : Nat → Prop) (K : Key) (W : Wk) (x : Nat) (X : Wr) (e : Ending) (w' : World) : Prop :=
  W.D.fault = 0 ∧ ∃ L' D', e = .returned (.tuple #[.agg noFile, .int .i64 6]) ∧ GaveRel W.L W.B X.first X.blocks L' ∧ Felt W.D D' ∧
    WkI w' O K { W with D := D', A := W.A.release X.buf W.D.size, L := L' } ∧ Blk w' x 117 (wcells K { X with closed := true }) ∧ Turn K (fun k => Own x X k ∨ w.heap.size ≤ k) w w'
/-- A Close that goes well, in plain words. -/
def CloseDone (w : World) (O : Nat → Prop) (K : Key) (W : Wk) (x : Nat) (X : Wr) (l : List Tup) (e : Ending) (w' : World) : Prop :=
  ∃ L' D', e = .returned (.tuple #[.agg (fcells (if nB W.D.size X.width l.length = 0 then 0 else X.first) (nB W.D.size X.width l.length) X.width l.length), .int .i64 0]) ∧
    GaveRel W.L W.B (X.first + nB W.D.size X.width l.length) (X.blocks - nB W.D.size X.width l.length) L' ∧ Lies D' X.width X.first (nB W.D.size X.width l.length) l ∧ Goes W.D D' (nB W.D.size X.width l.length - X.at_) ∧ X.at_ ≤ nB W.D.size X.width l.length ∧ nB W.D.size X.width l.length ≤ X.blocks ∧
    (∀ i : Int, (∀ j, X.at_ ≤ j → j < nB W.D.size X.width l.length → i ≠ ((X.first + j : Nat) : Int)) → D'.now i = W.D.now i) ∧
    WkI w' O K { W with D := D', A := W.A.release X.buf W.D.size, L := L' } ∧ (∃ cs, Blk w' x 117 cs ∧ cs[9]? = some (.bool true)) ∧ Turn K (fun k => Own x X k ∨ w.heap.size ≤ k) w w'
theorem close_sure {X : Wr} (hI : WkI w O K W) (h : WrAt w O K W x X) (hc : X.closed = false) (hH : X.Has W.D l) (hs : Sure W.D) (hfit : X.first + X.blocks ≤ W.D.blocks)
    (hac : W.D.acts + 1 < 1099511627776) (hO : ∀ g, w.heap.size ≤ g → O g) :
    Calls Try.prog 24 #[P x] w (fun e w' => CloseDone w O K W x X l e w' ∨ CloseFelt w O K W x X e w') := by
  obtain ⟨w1, w5⟩ := h.width
  obtain ⟨s8, s256⟩ := hI.size
  refine (close_live hI h hc hH.ok hac hO).mono ?_
  rintro e w' (⟨hok, L', rfl, hg, hI', hX', ht'⟩ | ⟨hn0, h0, L', rfl, hg, hI', hX', ht'⟩)
  · obtain ⟨q1, q2, q3, q4⟩ := hH.last s8 w1 w5 hok
    obtain ⟨g1, g2⟩ := last_goes hok
    obtain ⟨l1, l2, l3, l4, l5, l6, l7, l8⟩ := last_same X W
    have hle := hH.ok.last_at s8 w1 w5 W
    refine .inl ⟨L', (X.last W).2, ?_, ?_, ?_, ?_, ?_, ?_, fun i hi => ?_, hI', ⟨_, hX', rfl⟩, ht'⟩
    · unfold Wr.file Wr.shut
      simp only [q2, l3, l4, hH.cnt, l1]
    · rw [← q2]; exact hg
    · rw [← q2]; exact q1
    · rw [← q2]; exact g2
    · rw [← q2]; exact g1
    · rw [← q2]; exact hle
    · rw [← q2] at hi
      -- below at_ nothing was written anew
      unfold Wr.last at hi ⊢
      split
      · rfl
      · rename_i hn
        rw [if_neg hn] at hi
        show ((X.wrote W).2).now i = _
        have h0 := hok (by omega)
        have hi' := hi X.at_ (Nat.le_refl _) (Nat.lt_succ_self _)
        unfold Wr.wrote at h0 ⊢
        rw [Dev.wr_now, if_pos h0]
        unfold Dev.upd
        rw [if_neg hi']
  · have hlt := hH.ok.at_lt s8 w1 w5 (.inr hn0)
    have hsw := sure_wr (i := ((X.first + X.at_ : Nat) : Int)) (ws := sealed (X.ws.take X.n) W.D.size X.width (X.first + X.at_)) hs (by omega) (by omega) (sealed_length (by
      have := hH.ok.fits s8
      rw [List.length_take]
      omega))
    rcases hsw with hw | ⟨f1, f2, f3⟩
    · exact absurd hw h0
    · have f2' : (X.wrote W).1 = 6 := f2
      rw [f2']
      exact .inr ⟨f1, L', _, rfl, hg, f3, hI', hX', ht'⟩

/-- The next tuple, or the device doesn't give it. -/
def NextFelt (w : World) (O : Nat → Prop) (K : Key) (W : Wk) (x : Nat) (X : Rd) (e : Ending) (w' : World) : Prop :=
  W.D.fault = 0 ∧ ∃ D', Felt W.D D' ∧ NextBad w O K W x X 6 D' e w'
theorem next_sure {X : Rd} {first wN : Nat} (hI : WkI w O K W) (h : RdAt w O K W x X) (hc : X.closed = false) (hH : X.Has W.D first wN l) (hs : Sure W.D) (hf : FitsW wN l) (hfit : nB W.D.size wN l.length = 0 ∨ first + nB W.D.size wN l.length ≤ W.D.blocks) (hfs : first ≤ 1000000) (hlt : X.told < l.length)
    (hac : W.D.acts + 1 < 1099511627776) :
    (∃ X1 D1, X1.next.Has D1 first wN l ∧ X1.tup = l[X.told] ∧ X1.next.told = X.told + 1 ∧ D1.now = W.D.now ∧ (∃ n, n ≤ 1 ∧ Goes W.D D1 n) ∧ ReadsKin W X 1 X1.next D1 ∧ Calls Try.prog 17 #[P x] w (NextOk w O K W x X X1 D1)) ∨
    (W.D.fault = 0 ∧ Calls Try.prog 17 #[P x] w (NextFelt w O K W x X)) := by
  obtain ⟨s8, s256⟩ := hI.size
  have hwid := hH.wid
  have hcnt := hH.cnt
  have h15 := h.width
  have hcb := h.count
  have hp := hN_pos (width := wN) s8 (by omega) (by omega)
  have hble := nB_le (size := W.D.size) (wN := wN) (count := l.length) hp
  by_cases hn : X.at_ = X.n
  · have hblk : X.block < nB W.D.size wN l.length := by
      obtain ⟨d1, d2⟩ := hH.ok.due (by omega) (by omega) s8 hn (by omega)
      rw [show X.width.toNat = wN from by rw [hwid]; rfl] at d1
      obtain ⟨c1, c2⟩ := nB_cap (size := W.D.size) (wN := wN) (count := l.length) hp
      refine Nat.lt_of_mul_lt_mul_right (a := hN W.D.size wN) ?_
      omega
    rcases sure_rd (i := ((first + X.block : Nat) : Int)) hs (by omega) (by rcases hfit with h | h <;> omega) with hr | ⟨f1, f2, f3⟩
    · obtain ⟨X1, q1, q2, q3, q4, q5⟩ := hH.load s8 (by omega) (by omega) hf hlt hn (by omega) hr
      obtain ⟨hl1, e1, hN⟩ := Rd.Has.here (W := { W with D := (W.D.rd ((first + X.block : Nat) : Int)).2 }) q2 (by omega) (by omega) hf q3
      refine .inl ⟨X1, _, hN, ?_, ?_, Dev.rd_now _ _, ⟨1, Nat.le_refl _, goes_rd hr⟩, loads_kin q1, (next_live hI h hc hH.ok (by omega) q1 hac).2⟩
      · rw [e1]; congr 1
      · show X1.told + 1 = _; rw [q4]
    · refine .inr ⟨f1, ?_⟩
      have hwr : IntKind.i64.wrap (X.first + (X.block : Int)) = ((first + X.block : Nat) : Int) := by
        rw [hH.fst, IntKind.wrap_i64]
        omega
      have hne : (W.D.rd ((first + X.block : Nat) : Int)).1 ≠ 0 := by rw [f2]; decide
      refine (next_bad hI h hc (by omega) hn (er := 6) (D1 := (W.D.rd ((first + X.block : Nat) : Int)).2) (by decide) (Dev.rd_kin _ _).size (fun w2 h1 h2 => (load_err h1 h2 hwr hne hac).mono (fun e w' he => ?_))).mono (fun e w' he => ⟨f1, _, f3, he⟩)
      unfold LoadErr at he
      rw [f2] at he
      exact he
  · obtain ⟨hl1, e1, hN⟩ := hH.here (by omega) (by omega) hf hn
    have q1 : Loads W X X W.D := .inl ⟨hn, rfl, rfl⟩
    exact .inl ⟨X, W.D, hN, e1, rfl, rfl, ⟨0, Nat.zero_le _, Goes.refl _⟩, loads_kin q1, (next_live hI h hc hH.ok (by omega) q1 hac).2⟩
end

end Go.Proofs.Ytmmkncocgjgapaa.Fl
