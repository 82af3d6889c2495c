/- SpacePlays: the space, the reference beside it and the list of what was taken, in memory. -/
import Derived.Test.YtodjibhnmibedaaSpPlaysP
set_option linter.unusedVariables false
namespace Go.Proofs.Ytodjibhnmibedaa.Sp
open Go.RowKit

structure PlW (w0 w : World) (s q tb F B : Nat) (v lv : Value) (L G : List Ext) (T : List Bool) : Prop where
  sp : SpAt w s F B v L w0.heap.size
  lo : w0.heap.size ≤ s
  bel : Below w0.heap.size w0 w
  rf : RfAt w q tb F T
  qlo : w0.heap.size ≤ q
  tlo : w0.heap.size ≤ tb
  row : w.ownsRow w0.heap.size 69 2 lv G.length (flatX G)
  far : ∀ q, lv.ownBlock = some q → v.ownBlock ≠ some q

theorem PlW.act {w0 w w' : World} {s q tb F B : Nat} {v v' lv : Value} {L L' G : List Ext} {T : List Bool} (h : PlW w0 w s q tb F B v lv L G T) (hs : SpAt w' s F B v' L' w0.heap.size) (hc : Chg (fun k => k = s ∨ some k = v.ownBlock) w w')
    (hv : v'.ownBlock = v.ownBlock ∨ ∃ q, v'.ownBlock = some q ∧ w.heap.size ≤ q) : PlW w0 w' s q tb F B v' lv L' G T := by
  refine ⟨hs, h.lo, act_frame h.sp h.lo h.bel hc, h.rf.chg hc (fun e => ?_) (fun e => ?_), h.qlo, h.tlo, own_chg h.row hc (fun q hq e => ?_), fun q hq => ?_⟩
  · rcases e with e | e
    · exact h.rf.blk.ne_ h.sp.blk (by decide) e
    · exact own_ne_blk h.sp.own h.rf.blk (by decide) e.symm
  · rcases e with e | e
    · exact h.rf.row.ne_ h.sp.blk (by decide) e
    · exact own_ne_blk h.sp.own h.rf.row (by decide) e.symm
  · rcases e with e | e
    · exact own_ne_blk h.row h.sp.blk (by decide) (e ▸ hq)
    · exact h.far q hq e.symm
  · rcases hv with hv | ⟨q2, h2, h3⟩
    · rw [hv]; exact h.far q hq
    · rw [h2]
      intro e
      injection e with e
      have := (h.row.lt q hq).2
      omega
theorem PlW.ract {w0 w w' : World} {s q tb F B : Nat} {v lv : Value} {L G : List Ext} {T T' : List Bool} (h : PlW w0 w s q tb F B v lv L G T) (hr : RfAt w' q tb F T') (hc : Chg (fun k => k = tb) w w') : PlW w0 w' s q tb F B v lv L G T' := by
  have h1 := h.sp
  exact ⟨⟨h1.blk.chg hc (fun e => h1.blk.ne_ h.rf.row (by decide) e), own_chg h1.own hc (fun q hq e => own_ne_blk h1.own h.rf.row (by decide) (e ▸ hq)), h1.F_le, h1.B_le, h1.L_le, h1.in_⟩, h.lo, h.bel.trans (hc.below_of h.bel.size (fun k hk e => by have := h.tlo; omega)), hr, h.qlo, h.tlo,
    own_chg h.row hc (fun q hq e => own_ne_blk h.row h.rf.row (by decide) (e ▸ hq)), h.far⟩
theorem PlW.below {w0 w w' : World} {s q tb F B : Nat} {v lv : Value} {L G : List Ext} {T : List Bool} (h : PlW w0 w s q tb F B v lv L G T) (hb' : Below w.heap.size w w') : PlW w0 w' s q tb F B v lv L G T :=
  ⟨h.sp.below hb', h.lo, h.bel.trans (hb'.mono h.bel.size), h.rf.below hb', h.qlo, h.tlo, own_chg h.row (Chg.of_below' (S := fun _ => False) hb') (fun _ _ h => h), h.far⟩
theorem PlW.app {w0 w w' : World} {s q tb F B n : Nat} {v lv lv' : Value} {L G G' : List Ext} {T : List Bool} (h : PlW w0 w s q tb F B v lv L G T) (ho : w'.ownsRow w0.heap.size 69 2 lv' n (flatX G')) (hn : n = G'.length) (hc : Chg (fun k => some k = lv.ownBlock) w w')
    (hv : lv'.ownBlock = lv.ownBlock ∨ lv'.ownBlock = some w.heap.size) : PlW w0 w' s q tb F B v lv' L G' T := by
  subst hn
  have h1 := h.sp
  refine ⟨⟨h1.blk.chg hc (fun e => own_ne_blk h.row h1.blk (by decide) e.symm), own_chg h1.own hc (fun q hq e => h.far q e.symm hq), h1.F_le, h1.B_le, h1.L_le, h1.in_⟩, h.lo, h.bel.trans (hc.below_of h.bel.size (fun k hk e => by have := (h.row.lt k e.symm).1; omega)),
    h.rf.chg hc (fun e => own_ne_blk h.row h.rf.blk (by decide) e.symm) (fun e => own_ne_blk h.row h.rf.row (by decide) e.symm), h.qlo, h.tlo, ho, fun q hq => ?_⟩
  rcases hv with hv | hv
  · exact h.far q (by rw [← hv]; exact hq)
  · rw [hv] at hq
    injection hq with hq
    intro e
    have := (h1.own.lt q e).2
    omega

/-- Beside it a block of the law's own, with an act. -/
def PlO (w0 w : World) (s q tb F B : Nat) (v lv : Value) (L G : List Ext) (T : List Bool) (ob : Nat) (cs : Array Value) : Prop := PlW w0 w s q tb F B v lv L G T ∧ Blk w ob 67 cs

def OAct (w0 : World) (s q tb F B : Nat) (lv : Value) (G : List Ext) (T : List Bool) (ob : Nat) (cs : Array Value) (R : Int → List Ext → Prop) (e : Ending) (w' : World) : Prop :=
  ∃ er L' v', e = .returned (.int .i64 er) ∧ PlO w0 w' s q tb F B v' lv L' G T ob cs ∧ R er L'
def OTake (w0 : World) (s q tb F B : Nat) (lv : Value) (G : List Ext) (T : List Bool) (ob : Nat) (cs : Array Value) (R : Int → Int → List Ext → Prop) (e : Ending) (w' : World) : Prop :=
  ∃ r er L' v', e = .returned (.tuple #[.int .i64 r, .int .i64 er]) ∧ PlO w0 w' s q tb F B v' lv L' G T ob cs ∧ R r er L'
def ORAct (w0 : World) (s q tb F B : Nat) (v lv : Value) (L G : List Ext) (ob : Nat) (cs : Array Value) (R : Int → List Bool → Prop) (e : Ending) (w' : World) : Prop :=
  ∃ er T', e = .returned (.int .i64 er) ∧ PlO w0 w' s q tb F B v lv L G T' ob cs ∧ R er T'
def ORTake (w0 : World) (s q tb F B : Nat) (v lv : Value) (L G : List Ext) (ob : Nat) (cs : Array Value) (R : Int → Int → List Bool → Prop) (e : Ending) (w' : World) : Prop :=
  ∃ r er T', e = .returned (.tuple #[.int .i64 r, .int .i64 er]) ∧ PlO w0 w' s q tb F B v lv L G T' ob cs ∧ R r er T'

theorem PlO.below {w0 w w' : World} {s q tb F B ob : Nat} {v lv : Value} {L G : List Ext} {T : List Bool} {cs : Array Value} (h : PlO w0 w s q tb F B v lv L G T ob cs) (hb' : Below w.heap.size w w') : PlO w0 w' s q tb F B v lv L G T ob cs := ⟨h.1.below hb', h.2.below hb' h.2.lt⟩
theorem PlO.act {w0 w w' : World} {s q tb F B ob : Nat} {v v' lv : Value} {L L' G : List Ext} {T : List Bool} {cs : Array Value} (h : PlO w0 w s q tb F B v lv L G T ob cs) (hs : SpAt w' s F B v' L' w0.heap.size) (hc : Chg (fun k => k = s ∨ some k = v.ownBlock) w w')
    (hv : v'.ownBlock = v.ownBlock ∨ ∃ q, v'.ownBlock = some q ∧ w.heap.size ≤ q) : PlO w0 w' s q tb F B v' lv L' G T ob cs := by
  refine ⟨h.1.act hs hc hv, h.2.chg hc (fun e => ?_)⟩
  rcases e with e | e
  · exact h.2.ne_ h.1.sp.blk (by decide) e
  · exact own_ne_blk h.1.sp.own h.2 (by decide) e.symm
theorem PlO.ract {w0 w w' : World} {s q tb F B ob : Nat} {v lv : Value} {L G : List Ext} {T T' : List Bool} {cs : Array Value} (h : PlO w0 w s q tb F B v lv L G T ob cs) (hr : RfAt w' q tb F T') (hc : Chg (fun k => k = tb) w w') : PlO w0 w' s q tb F B v lv L G T' ob cs :=
  ⟨h.1.ract hr hc, h.2.chg hc (fun e => h.2.ne_ h.1.rf.row (by decide) e)⟩

section
variable {w0 w : World} {s q tb F B ob : Nat} {v lv : Value} {L G : List Ext} {T : List Bool} {cs : Array Value}
theorem hold_o (h : PlO w0 w s q tb F B v lv L G T ob cs) (hI : Inv F B L) (hB : B ≤ 900000) (first n : Int) : Calls Try.prog 29 #[.pointer (some ⟨s, 0, none⟩), .int .i64 first, .int .i64 n] w (OAct w0 s q tb F B lv G T ob cs (HoldRel L F B first n)) := by
  have hl := hI.len
  refine (hold_any s F B v L w0.heap.size first n w h.1.sp hI.asc (by omega) h.1.bel.size).mono ?_
  rintro e w' ⟨er, v', L', rfl, hr, hs, hc, hv⟩
  exact ⟨er, L', v', rfl, h.act hs hc hv, hr⟩
theorem give_o (h : PlO w0 w s q tb F B v lv L G T ob cs) (hI : Inv F B L) (hB : B ≤ 900000) (first n : Int) : Calls Try.prog 34 #[.pointer (some ⟨s, 0, none⟩), .int .i64 first, .int .i64 n] w (OAct w0 s q tb F B lv G T ob cs (GiveRel L F B first n)) := by
  have hl := hI.len
  refine (give_any s F B v L w0.heap.size first n w h.1.sp hI.asc (fun e he => (hI.ok e he).2.2) (by omega) h.1.bel.size).mono ?_
  rintro e w' ⟨er, v', L', rfl, hr, hs, hc, hv⟩
  exact ⟨er, L', v', rfl, h.act hs hc hv, hr⟩
theorem take_o (h : PlO w0 w s q tb F B v lv L G T ob cs) (hI : Inv F B L) (hB : B ≤ 900000) (n : Int) : Calls Try.prog 30 #[.pointer (some ⟨s, 0, none⟩), .int .i64 n] w (OTake w0 s q tb F B lv G T ob cs (TakeRel L F B n)) := by
  have hl := hI.len
  refine (take_any s F B v L w0.heap.size n w h.1.sp hI.asc (by omega) h.1.bel.size).mono ?_
  rintro e w' ⟨r, er, v', L', rfl, hr, hs, hc, hv⟩
  exact ⟨r, er, L', v', rfl, h.act hs hc hv, hr⟩
theorem rgive_o (h : PlO w0 w s q tb F B v lv L G T ob cs) (first n : Int) : Calls Try.prog 35 #[.pointer (some ⟨q, 0, none⟩), .int .i64 first, .int .i64 n] w (ORAct w0 s q tb F B v lv L G ob cs (RActRel T F first n true)) :=
  (rgive_any q tb F T first n w h.1.rf).mono fun e w' ⟨er, T', he, hr, hc, hR⟩ => ⟨er, T', he, h.ract hr hc, hR⟩
theorem rhold_o (h : PlO w0 w s q tb F B v lv L G T ob cs) (first n : Int) : Calls Try.prog 36 #[.pointer (some ⟨q, 0, none⟩), .int .i64 first, .int .i64 n] w (ORAct w0 s q tb F B v lv L G ob cs (RActRel T F first n false)) :=
  (rhold_any q tb F T first n w h.1.rf).mono fun e w' ⟨er, T', he, hr, hc, hR⟩ => ⟨er, T', he, h.ract hr hc, hR⟩
theorem rtake_o (h : PlO w0 w s q tb F B v lv L G T ob cs) (n : Int) : Calls Try.prog 33 #[.pointer (some ⟨q, 0, none⟩), .int .i64 n] w (ORTake w0 s q tb F B v lv L G ob cs (RTakeRel T F n)) :=
  (rtake_any q tb F T n w h.1.rf).mono fun e w' ⟨r, er, T', he, hr, hc, hR⟩ => ⟨r, er, T', he, h.ract hr hc, hR⟩
end

def SameL (n : Nat) (w : World) (iv : Value) (wr : World) : Prop := ∃ i : Nat, iv = .int .i64 (i : Int) ∧ i ≤ n ∧ Below w.heap.size w wr

set_option maxRecDepth 100000 in
set_option maxHeartbeats 1000000 in
theorem same_any (a a2 : Option Addr) (n c c2 base base2 : Nat) (L : List Ext) (w : World) (h1 : w.ownsRow base 69 2 (.slice a n c) n (flatX L)) (h2 : w.ownsRow base2 96 2 (.slice a2 n c2) n (flatX L)) (hn : n ≤ 1000000) :
    Calls Try.prog 38 #[.slice a n c, .slice a2 n c2] w (Told w true) := by
  have H1 := Lib.hid h1
  have H2 := Lib.hid h2
  clear h1 h2
  go_enter Try.func38, Try.ntmps38
  go_wp2_with fail
  go_loopw [5] (fun iv wr => SameL n w iv wr) (fun iv _ => n - (intOf iv).toNat)
  case atStart => exact ⟨0, rfl, by omega, Below.refl _ _⟩
  case round =>
    obtain ⟨i, rfl, hi, hb⟩ := hrel
    by_cases hlt : (i : Int) < (n : Int)
    · have hil : i < L.length := by have := (own2 H1.out).1; omega
      have hi0 : (0 : Int) ≤ (i : Int) := by omega
      obtain ⟨g, rfl, c1, c2, -⟩ := rext_cells (own_chg H1.out (Chg.of_below' (S := fun _ => False) hb) (fun _ _ h => h)) hil
      obtain ⟨g2, rfl, d1, d2, -⟩ := rext_cells (own_chg H2.out (Chg.of_below' (S := fun _ => False) hb) (fun _ _ h => h)) hil
      have HB := Lib.hid hb
      generalize L[i].1 = x at *
      generalize L[i].2 = y at *
      clear hil hb
      go_wp2_with fail
      go_quiet (fail)
      go_wp2_with fail
      go_roundw
      case rel => exact ⟨i + 1, by go_num, by omega, HB.out.trans (below_dn _ _ nq)⟩
      case measure => simp [intOf]; omega
    · obtain rfl : i = n := by omega
      have HB := Lib.hid hb
      clear hb
      go_wp2_with fail
      go_ret
      exact ⟨rfl, HB.out⟩

end Go.Proofs.Ytodjibhnmibedaa.Sp
