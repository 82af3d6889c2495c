/- SpaceHeld, plainly: what is held, as a row of marks; and the acts beside such a row. -/
import Derived.Test.YtodjibhnmibedaaSpLaw
set_option linter.unusedVariables false
namespace Go.Proofs.Ytodjibhnmibedaa.Sp
open Go.RowKit

theorem sumX_append (L M : List Ext) : sumX (L ++ M) = sumX L + sumX M := by unfold sumX; rw [List.map_append, List.sum_append]
theorem sumX_cons (e : Ext) (L : List Ext) : sumX (e :: L) = e.2 + sumX L := by simp [sumX]
theorem hold_sum {F B : Nat} {L L' : List Ext} {first n er : Int} (h : HoldRel L F B first n er L') (h0 : er = 0) : (sumX L' : Int) + n = sumX L := by
  rcases h with ⟨rfl, _, _⟩ | ⟨_, k, hk, hy, rfl⟩
  · cases h0
  obtain ⟨hin, hkl, h1, h2⟩ := hy
  have hin2 : 1 ≤ n ∧ (F : Int) ≤ first ∧ first ≤ F + B ∧ n ≤ F + B - first := by
    unfold insideB at hin
    exact of_decide_eq_true hin
  obtain ⟨fn, rfl⟩ := Int.eq_ofNat_of_zero_le (show 0 ≤ first by omega)
  obtain ⟨m, rfl⟩ := Int.eq_ofNat_of_zero_le (show 0 ≤ n by omega)
  rw [Int.toNat_natCast, Int.toNat_natCast]
  rw [getD_at hkl] at h1 h2
  have hs : sumX L = sumX (L.take k) + (L[k].2 + sumX (L.drop (k + 1))) := by
    conv => lhs; rw [split_at hkl]
    rw [sumX_append, sumX_cons]
  have hp : sumX (pieces L[k] fn m) + m = L[k].2 := by
    unfold pieces
    rw [sumX_append]
    split <;> split <;> simp [sumX] <;> omega
  unfold holdAt
  rw [getD_at hkl, sumX_append, sumX_append, hs]
  omega

/-- A row of 210 marks: mark b is set just where P holds. -/
def HB (cs : Array Value) (P : Nat → Prop) : Prop := cs.size = 210 ∧ ∀ b, b < 210 → ∃ x : Bool, cs[b]? = some (.bool x) ∧ (x = true ↔ P b)
theorem HB.set_ {cs : Array Value} {P : Nat → Prop} (h : HB cs P) {b : Nat} (hb : b < 210) : HB (cs.setIfInBounds b (.bool true)) (fun j => P j ∨ j = b) := by
  refine ⟨by simp [h.1], fun j hj => ?_⟩
  by_cases hjb : j = b
  · subst hjb
    exact ⟨true, by rw [Array.getElem?_setIfInBounds_self_of_lt (by rw [h.1]; exact hj)], by simp⟩
  · obtain ⟨x, h1, h2⟩ := h.2 j hj
    refine ⟨x, by rw [Array.getElem?_setIfInBounds_ne (fun e => hjb e.symm)]; exact h1, h2.trans ?_⟩
    simp [hjb]
theorem HB.iff_ {cs : Array Value} {P Q : Nat → Prop} (h : HB cs P) (hq : ∀ b, b < 210 → (P b ↔ Q b)) : HB cs Q :=
  ⟨h.1, fun b hb => by obtain ⟨x, h1, h2⟩ := h.2 b hb; exact ⟨x, h1, h2.trans (hq b hb)⟩⟩
theorem HB.new : HB (Array.replicate 210 (.bool false)) (fun _ => False) :=
  ⟨by simp, fun b hb => ⟨false, by rw [Array.getElem?_replicate, if_pos hb], by simp⟩⟩

/-- What is held: inside, and not free. -/
def Taken (L : List Ext) (b : Nat) : Prop := 3 ≤ b ∧ b < 203 ∧ ¬ Fr L b
/-- A space of 200 blocks from 3 on beside a row of marks in block hb. -/
def SpM (w0 w : World) (s hb : Nat) (L : List Ext) (cs : Array Value) : Prop := SpI w0 w s 3 200 L ∧ Blk w hb 55 cs ∧ w0.heap.size ≤ hb
theorem SpM.ne_ {w0 w : World} {s hb : Nat} {L : List Ext} {cs : Array Value} (h : SpM w0 w s hb L cs) : hb ≠ s := by
  obtain ⟨⟨v, h1, _⟩, h2, _⟩ := h
  exact h2.ne_ h1.blk (by decide)
/-- Setting a mark. -/
theorem SpM.mark {w0 w : World} {s hb : Nat} {L : List Ext} {cs : Array Value} (h : SpM w0 w s hb L cs) (b : Nat) : SpM w0 (w.setCell ⟨hb, b, none⟩ (.bool true)) s hb L (cs.setIfInBounds b (.bool true)) := by
  have hne := h.ne_
  obtain ⟨⟨v, h1, h2, h3, h4⟩, h5, h6⟩ := h
  have hc : Chg (fun k => k = hb) w (w.setCell ⟨hb, b, none⟩ (.bool true)) := (Chg.refl _ w).setCell _ _ (fun _ => rfl)
  refine ⟨⟨v, ⟨h1.blk.chg hc (fun e => hne e.symm), own_chg h1.own hc (fun q hq e => own_ne_blk h1.own h5 (by decide) (e ▸ hq)), h1.F_le, h1.B_le, h1.L_le, h1.in_⟩, h2, h3, h4.trans (hc.below_of h4.size (fun k hk e => by omega))⟩, h5.set_ b _, h6⟩
theorem SpM.drew {w0 w : World} {s hb : Nat} {L : List Ext} {cs : Array Value} (h : SpM w0 w s hb L cs) (n : Nat) : SpM w0 (w.drewN n) s hb L cs :=
  ⟨h.1.below (below_drewN (Below.refl _ _) n), h.2.1, h.2.2⟩
def ActM (w0 : World) (s hb : Nat) (cs : Array Value) (R : Int → List Ext → Prop) (e : Ending) (w' : World) : Prop := ∃ er L', e = .returned (.int .i64 er) ∧ SpM w0 w' s hb L' cs ∧ R er L'
def TakeM (w0 : World) (s hb : Nat) (cs : Array Value) (R : Int → Int → List Ext → Prop) (e : Ending) (w' : World) : Prop := ∃ r er L', e = .returned (.tuple #[.int .i64 r, .int .i64 er]) ∧ SpM w0 w' s hb L' cs ∧ R r er L'
theorem hold_m {w0 w : World} {s hb : Nat} {L : List Ext} {cs : Array Value} (h : SpM w0 w s hb L cs) (first n : Int) : Calls Try.prog 29 #[.pointer (some ⟨s, 0, none⟩), .int .i64 first, .int .i64 n] w (ActM w0 s hb cs (HoldRel L 3 200 first n)) := by
  have hne := h.ne_
  obtain ⟨⟨v, h1, h2, h3, h4⟩, h5, h6⟩ := h
  have hl := h3.len
  refine (hold_any s 3 200 v L w0.heap.size first n w h1 h3.asc (by omega) h4.size).mono ?_
  rintro e w' ⟨er, v', L', rfl, hr, hs, hc, _⟩
  refine ⟨er, L', rfl, ⟨⟨v', hs, h2, (hold_spec h3 hr).1, act_frame h1 h2 h4 hc⟩, h5.chg hc (fun e => ?_), h6⟩, hr⟩
  rcases e with e | e
  · exact hne e
  · exact own_ne_blk h1.own h5 (by decide) e.symm
theorem take_m {w0 w : World} {s hb : Nat} {L : List Ext} {cs : Array Value} (h : SpM w0 w s hb L cs) (n : Int) : Calls Try.prog 30 #[.pointer (some ⟨s, 0, none⟩), .int .i64 n] w (TakeM w0 s hb cs (TakeRel L 3 200 n)) := by
  have hne := h.ne_
  obtain ⟨⟨v, h1, h2, h3, h4⟩, h5, h6⟩ := h
  have hl := h3.len
  refine (take_any s 3 200 v L w0.heap.size n w h1 h3.asc (by omega) h4.size).mono ?_
  rintro e w' ⟨r, er, v', L', rfl, hr, hs, hc, _⟩
  refine ⟨r, er, L', rfl, ⟨⟨v', hs, h2, (take_spec h3 hr).1, act_frame h1 h2 h4 hc⟩, h5.chg hc (fun e => ?_), h6⟩, hr⟩
  rcases e with e | e
  · exact hne e
  · exact own_ne_blk h1.own h5 (by decide) e.symm

theorem free_m {w0 w : World} {s F B : Nat} {L : List Ext} (h : SpI w0 w s F B L) (hB : B ≤ 1000000) : Calls Try.prog 31 #[.pointer (some ⟨s, 0, none⟩)] w (FreeTold L w) := by
  obtain ⟨v, h1, h2, h3, h4⟩ := h
  have hl := h3.len
  exact free_any s F B v L w0.heap.size w h1 (by omega)

/-- A Take that finds room. -/
theorem take_room {L L' : List Ext} {r er : Int} {kk : Nat} (hI : Inv 3 200 L) (h : TakeRel L 3 200 (kk : Int) r er L') (hk : 1 ≤ kk) : (er = 5 ∧ L' = L ∧ ∀ p, ¬ Room L p kk) ∨
    (∃ p : Nat, r = p ∧ er = 0 ∧ 3 ≤ p ∧ p + kk ≤ 203 ∧ (∀ b, p ≤ b → b < p + kk → Fr L b) ∧ (∀ b, Fr L' b ↔ Fr L b ∧ ¬ (p ≤ b ∧ b < p + kk)) ∧ sumX L' + kk = sumX L) := by
  rcases (take_spec hI h).2 with ⟨h1, _⟩ | ⟨m, hm, _, _, hno, _, he, hL⟩ | ⟨m, p, hm, hp, he, _, hF, hB, hroom, _, hfr, _⟩
  · omega
  · obtain rfl : m = kk := by omega
    exact .inl ⟨he, hL, hno⟩
  · obtain rfl : m = kk := by omega
    refine .inr ⟨p, hp, he, hF, by omega, hroom, hfr, ?_⟩
    rcases h with ⟨h1, _⟩ | ⟨_, _, _, h5, _⟩ | ⟨_, k, hk', _, _, _, hh⟩
    · omega
    · rw [he] at h5; cases h5
    · have := hold_sum hh he
      omega
theorem taken_more {L L' : List Ext} {p m : Nat} (hp : 3 ≤ p ∧ p + m ≤ 203) (h : ∀ b, Fr L' b ↔ Fr L b ∧ ¬ (p ≤ b ∧ b < p + m)) (b : Nat) : (Taken L b ∨ (p ≤ b ∧ b < p + m)) ↔ Taken L' b := by
  unfold Taken
  rw [h]
  constructor
  · rintro (⟨h1, h2, h3⟩ | h1)
    · exact ⟨h1, h2, fun h4 => h3 h4.1⟩
    · exact ⟨by omega, by omega, fun h4 => h4.2 h1⟩
  · rintro ⟨h1, h2, h3⟩
    by_cases h4 : p ≤ b ∧ b < p + m
    · exact .inr h4
    · exact .inl ⟨h1, h2, fun h5 => h3 ⟨h5, h4⟩⟩
/-- Hold answers 0 just if no mark is set, and all lies within. -/
theorem hold_told {L L' : List Ext} {fn m : Nat} {er : Int} (hI : Inv 3 200 L) (h : HoldRel L 3 200 (fn : Int) (m : Int) er L') (hf : 3 ≤ fn) (hm : 1 ≤ m) :
    (er = 1 ∧ L' = L ∧ ¬ (fn + m ≤ 203 ∧ ∀ b, fn ≤ b → b < fn + m → ¬ Taken L b)) ∨ (er = 0 ∧ (fn + m ≤ 203 ∧ ∀ b, fn ≤ b → b < fn + m → ¬ Taken L b) ∧ (∀ b, Fr L' b ↔ Fr L b ∧ ¬ (fn ≤ b ∧ b < fn + m)) ∧ sumX L' + m = sumX L) := by
  rcases (hold_spec hI h).2 with ⟨he, hL, hno⟩ | ⟨he, ⟨_, _, h2, h3⟩, hfr⟩
  · refine .inl ⟨he, hL, fun ⟨h1, h2⟩ => hno ⟨by omega, by omega, by omega, fun b h4 h5 => ?_⟩⟩
    have h6 := h2 b (by omega) (by omega)
    unfold Taken at h6
    exact Classical.byContradiction fun h7 => h6 ⟨by omega, by omega, h7⟩
  · refine .inr ⟨he, ⟨by omega, fun b h4 h5 h6 => h6.2.2 (h3 b (by omega) (by omega))⟩, fun b => ?_, ?_⟩
    · rw [hfr]
      constructor
      · rintro ⟨h4, h5⟩; exact ⟨h4, by omega⟩
      · rintro ⟨h4, h5⟩; exact ⟨h4, by omega⟩
    · have := hold_sum h he
      omega

end Go.Proofs.Ytodjibhnmibedaa.Sp
