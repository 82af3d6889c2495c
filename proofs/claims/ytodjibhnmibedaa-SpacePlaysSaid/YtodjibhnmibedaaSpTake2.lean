/- The walk of Take. -/
import Derived.Test.YtodjibhnmibedaaSpTake
set_option linter.unusedVariables false
namespace Go.Proofs.Ytodjibhnmibedaa.Sp
open Go.RowKit

def TakeRel (L : List Ext) (F B : Nat) (n : Int) (r er : Int) (L' : List Ext) : Prop :=
  (n < 1 ∧ r = 0 ∧ er = 1 ∧ L' = L) ∨ (1 ≤ n ∧ (∀ e ∈ L, (e.2 : Int) < n) ∧ r = 0 ∧ er = 5 ∧ L' = L) ∨
    (1 ≤ n ∧ ∃ k, ∃ hk : k < L.length, (∀ j (hj : j < k), (L[j].2 : Int) < n) ∧ n ≤ (L[k].2 : Int) ∧ r = (L[k].1 : Int) ∧ HoldRel L F B (L[k].1 : Int) n er L')
def TakeTold (w : World) (s F B : Nat) (v : Value) (base : Nat) (R : Int → Int → List Ext → Prop) (e : Ending) (w' : World) : Prop :=
  ∃ r er v' L', e = .returned (.tuple #[.int .i64 r, .int .i64 er]) ∧ R r er L' ∧ SpAt w' s F B v' L' base ∧ Chg (fun k => k = s ∨ some k = v.ownBlock) w w' ∧ (v'.ownBlock = v.ownBlock ∨ ∃ q, v'.ownBlock = some q ∧ w.heap.size ≤ q)
theorem take_keep {w2 w3 : World} {s eb : Nat} {v : Value} {cs : Array Value} (hE : Blk w2 eb 69 cs) (hc : Chg (fun k => k = s ∨ some k = v.ownBlock) w2.drew w3) (hs : s < eb) (ho : ∀ q, v.ownBlock = some q → q < eb) : w3.cell? ⟨eb, 0, none⟩ = cs[0]? :=
  (hE.drew.chg hc (fun e => by
    rcases e with e | e
    · omega
    · have := ho _ e.symm
      omega)).cell 0
def TakeLoop (L : List Ext) (n : Int) (w : World) (kv : Value) (wr : World) : Prop :=
  ∃ k : Nat, kv = .int .i64 (k : Int) ∧ k ≤ L.length ∧ (∀ j (hj : j < L.length), j < k → (L[j].2 : Int) < n) ∧ Below w.heap.size w wr

set_option maxRecDepth 100000 in
set_option maxHeartbeats 2000000 in
theorem take_any (s F B : Nat) (v : Value) (L : List Ext) (base : Nat) (n : Int) (w : World) (h : SpAt w s F B v L base) (hA : Asc L) (hL : L.length + 1 ≤ 1000000) (hbw : base ≤ w.heap.size) :
    Calls Try.prog 30 #[.pointer (some ⟨s, 0, none⟩), .int .i64 n] w (TakeTold w s F B v base (TakeRel L F B n)) := by
  obtain ⟨a, c, rfl, hc1, hc2⟩ := h.slice
  have c2 : w.cell? ⟨s, 2, none⟩ = some (.slice a L.length c) := h.blk.cell 2
  have HS := Lib.hid h
  have HA := Lib.hid hA
  clear h hA
  by_cases h1 : n < 1
  · go_enter Try.func30, Try.ntmps30
    go_wp2_with fail
    go_ret2
    exact ⟨0, 1, _, L, rfl, .inl ⟨h1, rfl, rfl, rfl⟩, HS.out, Chg.refl _ _, .inl rfl⟩
  · go_enter Try.func30, Try.ntmps30
    go_wp2_with fail
    go_loopw [17] (fun kv wr => TakeLoop L n w kv wr) (fun kv _ => L.length - (intOf kv).toNat)
    case atStart => exact ⟨0, rfl, by omega, fun j _ hj => absurd hj (by omega), Below.refl _ _⟩
    case round =>
      obtain ⟨k, rfl, hk, hlow, hb⟩ := hrel
      clear c2
      have S1 := Lib.hid (HS.out.below hb)
      have HLOW := Lib.hid hlow
      have HB := Lib.hid hb
      clear hlow hb
      by_cases hlt : (k : Int) < L.length
      · have hkl : k < L.length := by omega
        have hkk : (0 : Int) ≤ (k : Int) := by omega
        obtain ⟨g, rfl, f1, f2, f3, f4⟩ := S1.out.elem hkl
        have hx1 : ∃ x, x = L[k].1 := ⟨_, rfl⟩
        have hy1 : ∃ y, y = L[k].2 := ⟨_, rfl⟩
        obtain ⟨x, hx⟩ := hx1
        obtain ⟨y, hy⟩ := hy1
        rw [← hx] at f1 f3
        rw [← hy] at f2 f4
        have bE := (Below.refl wr.heap.size wr).alloc (Nat.le_refl _) (.cells #[.int .i64 (x : Int), .int .i64 (y : Int)] 69)
        have E2 := Lib.hid (Blk.new wr 69 #[.int .i64 (x : Int), .int .i64 (y : Int)])
        have S2 := Lib.hid (S1.out.below bE)
        have HB2 := Lib.hid (HB.out.trans (bE.mono HB.out.size))
        have HX := Lib.hid hx
        have HY := Lib.hid hy
        have hsw : s < wr.heap.size := S1.out.blk.lt
        have hol : ∀ q, (Value.slice (some ⟨g, 0, none⟩) L.length c).ownBlock = some q → q < wr.heap.size := fun q hq => (S1.out.own.lt q hq).2
        have HOL := Lib.hid hol
        clear bE hx hy hol
        by_cases h2 : n ≤ (y : Int)
        · go_wp2_with fail
          generalize hw2 : wr.alloc (.cells #[.int .i64 (x : Int), .int .i64 (y : Int)] 69) = w2 at *
          generalize heb : wr.heap.size = eb at *
          clear hw2 f1 f2 S1
          have d0 : w2.cell? ⟨eb, 0, none⟩ = some (.int .i64 (x : Int)) := E2.out.cell 0
          have hH := hold_any s F B (.slice (some ⟨g, 0, none⟩) L.length c) L base (x : Int) n w2.drew (S2.out.below ((Below.refl _ _).drew)) HA.out hL (Nat.le_trans hbw HB2.out.size)
          have HH := Lib.hid hH
          have KEEP := Lib.hid (fun w3 (hc : Chg (fun k => k = s ∨ some k = (Value.slice (some ⟨g, 0, none⟩) L.length c).ownBlock) w2.drew w3) => (take_keep E2.out hc (by omega) HOL.out : w3.cell? ⟨eb, 0, none⟩ = some (.int .i64 (x : Int))))
          clear hH heb
          go_region_held3 (fun w' => w'.cell? ⟨eb, 0, none⟩ = some (.int .i64 (x : Int)))
            (assumption)
            ((go_at_call 29; refine HH.out.mono ?_; rintro e w3 ⟨er, v3, L3, rfl, hrel3, hs3, hc3, hf3⟩; have d3 := KEEP.out _ hc3))
          have HFIN : Hid (TakeTold w s F B (.slice (some ⟨g, 0, none⟩) L.length c) base (TakeRel L F B n) (.returned (.tuple #[.int .i64 (x : Int), .int .i64 er])) w3) := Lib.hid
            ⟨(x : Int), er, v3, L3, rfl, .inr (.inr ⟨by omega, k, hkl, fun j hj => HLOW.out j (by omega) hj, by rw [← HY.out]; exact h2, by rw [HX.out], by rw [← HX.out]; exact hrel3⟩), hs3, (Chg.of_below' HB2.out).drew.trans hc3 (fun _ _ e => e), hf3.elim .inl (fun ⟨q, e1, e2⟩ => .inr ⟨q, e1, Nat.le_trans HB2.out.size e2⟩)⟩
          clear hrel3 hs3 hc3 hf3 HH KEEP d0 d3
          go_wp2_with fail
          go_ret2
          exact HFIN.out
        · have HNEXT : Hid (∀ j (hj : j < L.length), j < k + 1 → (L[j].2 : Int) < n) := Lib.hid (fun j hj hjk => by
            rcases Nat.lt_succ_iff_lt_or_eq.1 hjk with h | h
            · exact HLOW.out j hj h
            · subst h; rw [← HY.out]; omega)
          go_wp2_with fail
          go_roundw
          case rel => exact ⟨k + 1, by go_num, by omega, HNEXT.out, HB2.out⟩
          case measure => simp [intOf]; omega
      · obtain rfl : k = L.length := by omega
        have HALL : Hid (∀ e ∈ L, (e.2 : Int) < n) := Lib.hid (fun e he => by
          obtain ⟨j, hj, rfl⟩ := List.getElem_of_mem he
          exact HLOW.out j hj hj)
        go_wp2_with fail
        go_ret2
        exact ⟨0, 5, _, L, rfl, .inr (.inl ⟨by omega, HALL.out, rfl, rfl, rfl⟩), S1.out, Chg.of_below' HB.out, .inl rfl⟩

end Go.Proofs.Ytodjibhnmibedaa.Sp
