/- A space within a law: the acts in one word, and what wakes the laws. -/
import Derived.Test.YtodjibhnmibedaaSpPlain2
import Derived.Test.YtodjibhnmibedaaOpen5
set_option linter.unusedVariables false
namespace Go.Proofs.Ytodjibhnmibedaa.Sp
open Go.RowKit

/-- A space that a call made: all its blocks lie behind what there was. -/
def SpI (w0 w : World) (s F B : Nat) (L : List Ext) : Prop := ∃ v, SpAt w s F B v L w0.heap.size ∧ w0.heap.size ≤ s ∧ Inv F B L ∧ Below w0.heap.size w0 w
theorem SpI.below {w0 w w' : World} {s F B : Nat} {L : List Ext} (h : SpI w0 w s F B L) (hb : Below w.heap.size w w') : SpI w0 w' s F B L := by
  obtain ⟨v, h1, h2, h3, h4⟩ := h
  exact ⟨v, h1.below hb, h2, h3, h4.trans (hb.mono h4.size)⟩
theorem SpI.frame {w0 w : World} {s F B : Nat} {L : List Ext} (h : SpI w0 w s F B L) : Below w0.heap.size w0 w := by
  obtain ⟨v, h1, h2, h3, h4⟩ := h
  exact h4
theorem SpI.inv {w0 w : World} {s F B : Nat} {L : List Ext} (h : SpI w0 w s F B L) : Inv F B L := by
  obtain ⟨v, h1, h2, h3, h4⟩ := h
  exact h3
def ActI (w0 : World) (s F B : Nat) (R : Int → List Ext → Prop) (e : Ending) (w' : World) : Prop := ∃ er L', e = .returned (.int .i64 er) ∧ SpI w0 w' s F B L' ∧ R er L'
def TakeI (w0 : World) (s F B : Nat) (R : Int → Int → List Ext → Prop) (e : Ending) (w' : World) : Prop := ∃ r er L', e = .returned (.tuple #[.int .i64 r, .int .i64 er]) ∧ SpI w0 w' s F B L' ∧ R r er L'

theorem act_frame {w0 w w' : World} {s F B : Nat} {v : Value} {L : List Ext} (h : SpAt w s F B v L w0.heap.size) (hs : w0.heap.size ≤ s) (hb : Below w0.heap.size w0 w) (hc : Chg (fun k => k = s ∨ some k = v.ownBlock) w w') : Below w0.heap.size w0 w' :=
  hb.trans (hc.below_of hb.size (fun k hk e => by
    rcases e with e | e
    · omega
    · have := (h.own.lt k e.symm).1
      omega))
theorem hold_i {w0 w : World} {s F B : Nat} {L : List Ext} (h : SpI w0 w s F B L) (hB : B ≤ 900000) (first n : Int) : Calls Try.prog 29 #[.pointer (some ⟨s, 0, none⟩), .int .i64 first, .int .i64 n] w (ActI w0 s F B (HoldRel L F B first n)) := by
  obtain ⟨v, h1, h2, h3, h4⟩ := h
  have hl := h3.len
  refine (hold_any s F B v L w0.heap.size first n w h1 h3.asc (by omega) h4.size).mono ?_
  rintro e w' ⟨er, v', L', rfl, hr, hs, hc, _⟩
  exact ⟨er, L', rfl, ⟨v', hs, h2, (hold_spec h3 hr).1, act_frame h1 h2 h4 hc⟩, hr⟩
theorem give_i {w0 w : World} {s F B : Nat} {L : List Ext} (h : SpI w0 w s F B L) (hB : B ≤ 900000) (first n : Int) : Calls Try.prog 34 #[.pointer (some ⟨s, 0, none⟩), .int .i64 first, .int .i64 n] w (ActI w0 s F B (GiveRel L F B first n)) := by
  obtain ⟨v, h1, h2, h3, h4⟩ := h
  have hl := h3.len
  refine (give_any s F B v L w0.heap.size first n w h1 h3.asc (fun e he => (h3.ok e he).2.2) (by omega) h4.size).mono ?_
  rintro e w' ⟨er, v', L', rfl, hr, hs, hc, _⟩
  exact ⟨er, L', rfl, ⟨v', hs, h2, (give_spec h3 hr).1, act_frame h1 h2 h4 hc⟩, hr⟩
theorem take_i {w0 w : World} {s F B : Nat} {L : List Ext} (h : SpI w0 w s F B L) (hB : B ≤ 900000) (n : Int) : Calls Try.prog 30 #[.pointer (some ⟨s, 0, none⟩), .int .i64 n] w (TakeI w0 s F B (TakeRel L F B n)) := by
  obtain ⟨v, h1, h2, h3, h4⟩ := h
  have hl := h3.len
  refine (take_any s F B v L w0.heap.size n w h1 h3.asc (by omega) h4.size).mono ?_
  rintro e w' ⟨r, er, v', L', rfl, hr, hs, hc, _⟩
  exact ⟨r, er, L', rfl, ⟨v', hs, h2, (take_spec h3 hr).1, act_frame h1 h2 h4 hc⟩, hr⟩
theorem whole_inv (F B : Nat) : Inv F B (wholeL F B) := by
  unfold wholeL
  split
  · exact ⟨List.Pairwise.nil, fun e he => by cases he⟩
  · refine ⟨List.pairwise_singleton _ _, fun e he => ?_⟩
    rw [List.mem_singleton.1 he]
    simp only
    omega
def NewI (w0 : World) (F B : Nat) (e : Ending) (w' : World) : Prop := ∃ s, e = .returned (.pointer (some ⟨s, 0, none⟩)) ∧ SpI w0 w' s F B (wholeL F B)
theorem SpAt.base_le {w : World} {s F B : Nat} {v : Value} {L : List Ext} {base b2 : Nat} (h : SpAt w s F B v L base) (hb : b2 ≤ base) : SpAt w s F B v L b2 := by
  refine ⟨h.blk, ?_, h.F_le, h.B_le, h.L_le, h.in_⟩
  rcases h.own.2 with h2 | ⟨g, cap, cur, e, hg, r⟩
  · exact ⟨h.own.1, .inl h2⟩
  · exact ⟨h.own.1, .inr ⟨g, cap, cur, e, by omega, r⟩⟩
theorem new_i {w0 w : World} (hb : Below w0.heap.size w0 w) (F B : Nat) (hF : F ≤ 1000000) (hB : B ≤ 1000000) : Calls Try.prog 28 #[.int .i64 (F : Int), .int .i64 (B : Int)] w (NewI w0 F B) :=
  (new_ok F B w hF hB).mono fun e w' ⟨s, v, h1, h2, h3, h4⟩ => ⟨s, h1, v, h3.base_le hb.size, Nat.le_trans hb.size h2, whole_inv F B, hb.trans (h4.mono hb.size)⟩

theorem awake_plain {r er : Int} {L' : List Ext} (h : TakeRel (wholeL 2 10) 2 10 3 r er L') : r = 2 ∧ er = 0 ∧ sumX L' = 7 := by
  have hw : wholeL 2 10 = [(2, 10)] := rfl
  rw [hw] at h
  have hI : Inv 2 10 [(2, 10)] := hw ▸ whole_inv 2 10
  rcases h with ⟨h, _⟩ | ⟨_, h, _⟩ | ⟨_, k, hk, _, _, rfl, hh⟩
  · omega
  · have := h (2, 10) (List.mem_singleton.2 rfl); simp at this
  · obtain rfl : k = 0 := by simp at hk; omega
    have hs := hold_spec hI hh
    rcases hh with ⟨rfl, _, _⟩ | ⟨rfl, k, hk, hy, rfl⟩
    · rcases hs.2 with ⟨_, _, hno⟩ | ⟨h, _⟩
      · exfalso
        refine hno ⟨by omega, by simp, by simp, fun b h1 h2 => ⟨(2, 10), List.mem_singleton.2 rfl, ?_⟩⟩
        simp at h1 h2
        unfold In
        simp only
        omega
      · cases h
    · have hk1 := hy.2.1
      obtain rfl : k = 0 := by simp at hk1; omega
      have h7 : sumX (holdAt [(2, 10)] 0 2 3) = 7 := by decide
      exact ⟨rfl, rfl, h7⟩

set_option maxRecDepth 100000 in
set_option maxHeartbeats 1000000 in
theorem awake7_any (w : World) : Calls Try.prog 27 #[] w (Told w true) := by
  have HN := Lib.hid (new_i (Below.refl w.heap.size w) 2 10 (by omega) (by omega))
  go_enter Try.func27, Try.ntmps27
  go_wp2_with fail
  refine HN.out.mono ?_
  rintro e w1 ⟨s, rfl, h1⟩
  have HT := Lib.hid (take_i h1 (by omega) 3)
  clear h1
  go_wp2_with fail
  refine HT.out.mono ?_
  rintro e w2 ⟨r, er, L', rfl, h2, hr⟩
  obtain ⟨rfl, rfl, hsum⟩ := awake_plain hr
  obtain ⟨v, q1, q2, q3, q4⟩ := h2
  have HF := Lib.hid (free_any s 2 10 v L' w.heap.size w2 q1 (by omega))
  have HB := Lib.hid q4
  have HS := Lib.hid hsum
  clear hr q1 q2 q3 q4 hsum
  go_wp2_with fail
  refine HF.out.mono ?_
  rintro e w3 ⟨rfl, hb3⟩
  have HB3 := Lib.hid (HB.out.trans (hb3.mono HB.out.size))
  rw [HS.out]
  clear hb3
  go_wp2_with fail
  go_ret
  exact ⟨rfl, HB3.out⟩

end Go.Proofs.Ytodjibhnmibedaa.Sp
