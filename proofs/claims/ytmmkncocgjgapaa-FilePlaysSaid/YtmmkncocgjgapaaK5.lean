/- Texts of mine, packed: SpGive, SpTake, SpTake2, SpPlain. -/
import Derived.Test.YtmmkncocgjgapaaK4
import Derived.RegionTactic
import Derived.StillTailTactics
set_option linter.unusedVariables false

/- The walk of Give. -/
namespace Go.Proofs.Ytmmkncocgjgapaa.Sp
open Go.RowKit

def joinR (L : List Ext) (k first n : Nat) : Bool := decide (k < L.length ∧ (L.getD k (0, 0)).1 = first + n)
def joinL (L : List Ext) (k first : Nat) : Bool := decide (0 < k ∧ (L.getD (k - 1) (0, 0)).1 + (L.getD (k - 1) (0, 0)).2 = first)
def giveX (L : List Ext) (k first n : Nat) : Ext :=
  (if joinL L k first = true then (L.getD (k - 1) (0, 0)).1 else first, n + (if joinR L k first n = true then (L.getD k (0, 0)).2 else 0) + (if joinL L k first = true then (L.getD (k - 1) (0, 0)).2 else 0))
def giveAt (L : List Ext) (k first n : Nat) : List Ext :=
  L.take (if joinL L k first = true then k - 1 else k) ++ giveX L k first n :: L.drop (if joinR L k first n = true then k + 1 else k)
def GiveYes (L : List Ext) (F B : Nat) (first n : Int) (k : Nat) : Prop :=
  insideB F B first n = true ∧ (k < L.length → first + n ≤ ((L.getD k (0, 0)).1 : Int))
def GiveRel (L : List Ext) (F B : Nat) (first n : Int) (er : Int) (L' : List Ext) : Prop :=
  (er = 1 ∧ L' = L ∧ ∀ k, FirstTrue (endsB L first) L.length k → ¬ GiveYes L F B first n k) ∨ (er = 0 ∧ ∃ k, FirstTrue (endsB L first) L.length k ∧ GiveYes L F B first n k ∧ L' = giveAt L k first.toNat n.toNat)

theorem SpAt.chg {w w' : World} {s F B : Nat} {v : Value} {L : List Ext} {base : Nat} {S : Nat → Prop} (h : SpAt w s F B v L base) (hc : Chg S w w') (hs : ¬ S s) (ho : ∀ q, v.ownBlock = some q → ¬ S q) : SpAt w' s F B v L base :=
  ⟨h.blk.chg hc hs, own_chg h.own hc ho, h.F_le, h.B_le, h.L_le, h.in_⟩
theorem below_dn (B : Nat) (w : World) (n : Nat) : Below B w (w.drewN n) := ⟨rfl, rfl, rfl, Nat.le_refl _, fun _ _ => rfl⟩
theorem SpAt.own_lt {w : World} {s F B : Nat} {v : Value} {L : List Ext} {base : Nat} (h : SpAt w s F B v L base) : ∀ q, v.ownBlock = some q → q < w.heap.size := fun q hq => (h.own.lt q hq).2
theorem give_fin {w w11 ws : World} {s F B base k fn m c : Nat} {a : Option Addr} {L : List Ext} {a10 : Option Addr} {k10 c10 i j : Nat} {x : Ext}
    (hown : w11.ownsRow base 128 2 (.slice a10 k10 c10) k10 (flatX (L.take i ++ x :: L.drop j))) (hc : Chg (fun q => q = s ∨ some q = (Value.slice a L.length c).ownBlock) w w11)
    (hB : Blk w11 s 130 #[.int .i64 (F : Int), .int .i64 (B : Int), .slice a10 k10 c10]) (hf : (Value.slice a10 k10 c10).ownBlock = (Value.slice a L.length c).ownBlock ∨ ∃ q, (Value.slice a10 k10 c10).ownBlock = some q ∧ ws.heap.size ≤ q)
    (hl : (L.take i ++ x :: L.drop j).length = k10) (hws : w.heap.size ≤ ws.heap.size) (hy : GiveYes L F B fn m k) (hk : FirstTrue (endsB L fn) L.length k) (hL : L.length + 1 ≤ 1000000)
    (hx : giveX L k fn m = x) (hi : (if joinL L k fn = true then k - 1 else k) = i) (hj : (if joinR L k fn m = true then k + 1 else k) = j) (hx4 : x.1 + x.2 ≤ 4000000) (hij : i ≤ j) (h : SpAt ws s F B (.slice a L.length c) L base) :
    ActTold w s F B (.slice a L.length c) base (GiveRel L F B fn m) (.returned (.int .i64 0)) w11 := by
  subst hl
  refine ⟨0, _, L.take i ++ x :: L.drop j, rfl, .inr ⟨rfl, k, hk, hy, ?_⟩, ⟨hB, hown, h.F_le, h.B_le, ?_, ?_⟩, hc, hf.elim .inl (fun ⟨q, h1, h2⟩ => .inr ⟨q, h1, by omega⟩)⟩
  · unfold giveAt
    rw [Int.toNat_natCast, Int.toNat_natCast, hx, hi, hj]
  · simp only [List.length_append, List.length_take, List.length_cons, List.length_drop]
    omega
  · intro e he
    rcases List.mem_append.1 he with he | he
    · exact h.in_ e (List.mem_of_mem_take he)
    · rcases List.mem_cons.1 he with rfl | he
      · exact hx4
      · exact h.in_ e (List.mem_of_mem_drop he)

theorem give_store {w w6 : World} {s F B base eb : Nat} {v : Value} {L : List Ext} {y1 y2 x1 x2 : Int} (h : SpAt w6 s F B v L base) (hE : Blk w6 eb 128 #[.int .i64 y1, .int .i64 y2]) (hol : ∀ q, v.ownBlock = some q → q < eb) (hs : s < eb) (hb : Below w.heap.size w w6) (hw : w.heap.size ≤ eb) :
    SpAt ((w6.setCell ⟨eb, 0, none⟩ (.int .i64 x1)).setCell ⟨eb, 1, none⟩ (.int .i64 x2)) s F B v L base ∧ Blk ((w6.setCell ⟨eb, 0, none⟩ (.int .i64 x1)).setCell ⟨eb, 1, none⟩ (.int .i64 x2)) eb 128 #[.int .i64 x1, .int .i64 x2] ∧ Below w.heap.size w ((w6.setCell ⟨eb, 0, none⟩ (.int .i64 x1)).setCell ⟨eb, 1, none⟩ (.int .i64 x2)) := by
  have hc : Chg (fun q => q = eb) w6 ((w6.setCell ⟨eb, 0, none⟩ (.int .i64 x1)).setCell ⟨eb, 1, none⟩ (.int .i64 x2)) := ((Chg.refl (fun q => q = eb) w6).setCell ⟨eb, 0, none⟩ _ (fun _ => rfl)).setCell ⟨eb, 1, none⟩ _ (fun _ => rfl)
  exact ⟨h.chg hc (by omega) (fun q hq e => by have := hol q hq; omega), by simpa using (hE.set_ 0 (.int .i64 x1)).set_ 1 (.int .i64 x2), (hb.setCell hw _).setCell hw _⟩
theorem give_store1 {w w6 : World} {s F B base eb : Nat} {v : Value} {L : List Ext} {y1 y2 x2 : Int} (h : SpAt w6 s F B v L base) (hE : Blk w6 eb 128 #[.int .i64 y1, .int .i64 y2]) (hol : ∀ q, v.ownBlock = some q → q < eb) (hs : s < eb) (hb : Below w.heap.size w w6) (hw : w.heap.size ≤ eb) :
    SpAt (w6.setCell ⟨eb, 1, none⟩ (.int .i64 x2)) s F B v L base ∧ Blk (w6.setCell ⟨eb, 1, none⟩ (.int .i64 x2)) eb 128 #[.int .i64 y1, .int .i64 x2] ∧ Below w.heap.size w (w6.setCell ⟨eb, 1, none⟩ (.int .i64 x2)) := by
  have hc : Chg (fun q => q = eb) w6 (w6.setCell ⟨eb, 1, none⟩ (.int .i64 x2)) := (Chg.refl (fun q => q = eb) w6).setCell ⟨eb, 1, none⟩ _ (fun _ => rfl)
  exact ⟨h.chg hc (by omega) (fun q hq e => by have := hol q hq; omega), by simpa using hE.set_ 1 (.int .i64 x2), hb.setCell hw _⟩
theorem give_blk {W w10 : World} {s F B base : Nat} {v : Value} {L : List Ext} {o : Obj} (h : SpAt W s F B v L base) (hc : Chg (fun k => some k = v.ownBlock) (W.alloc o).drew w10) : Blk w10 s 130 #[.int .i64 (F : Int), .int .i64 (B : Int), v] :=
  (h.blk.alloc o).drew.chg hc (fun e => own_ne_blk h.own h.blk (by decide) e.symm)
theorem give_end {w W w10 : World} {s F B base k fn m c : Nat} {a : Option Addr} {L : List Ext} {a10 : Option Addr} {k10 c10 i j : Nat} {x : Ext} {o : Obj} (h : SpAt W s F B (.slice a L.length c) L base) (hb : Below w.heap.size w W)
    (hown : w10.ownsRow base 128 2 (.slice a10 k10 c10) k10 (flatX (L.take i ++ x :: L.drop j))) (hc : Chg (fun q => some q = (Value.slice a L.length c).ownBlock) (W.alloc o).drew w10)
    (hf : (Value.slice a10 k10 c10).ownBlock = (Value.slice a L.length c).ownBlock ∨ ∃ q, (Value.slice a10 k10 c10).ownBlock = some q ∧ (W.alloc o).drew.heap.size ≤ q) (hB : Blk w10 s 130 #[.int .i64 (F : Int), .int .i64 (B : Int), .slice a L.length c])
    (hy : GiveYes L F B fn m k) (hk : FirstTrue (endsB L fn) L.length k) (hL : L.length + 1 ≤ 1000000)
    (hx : giveX L k fn m = x) (hi : (if joinL L k fn = true then k - 1 else k) = i) (hj : (if joinR L k fn m = true then k + 1 else k) = j) (hx4 : x.1 + x.2 ≤ 4000000) (hij : i ≤ j) :
    ActTold w s F B (.slice a L.length c) base (GiveRel L F B fn m) (.returned (.int .i64 0)) (w10.setCell ⟨s, 2, none⟩ (.slice a10 k10 c10)) := by
  refine give_fin (ws := W) (own_chg (S := fun q => q = s) hown ((Chg.refl _ w10).setCell ⟨s, 2, none⟩ _ (fun _ => rfl)) (fun q hq e => own_ne_blk hown hB (by decide) (e ▸ hq)))
    ((((Chg.of_below' hb).alloc o).drew.trans hc (fun q _ e => .inr e)).setCell _ _ (fun _ => .inl rfl)) (by simpa using hB.set_ 2 (.slice a10 k10 c10)) (hf.elim .inl (fun ⟨q, h1, h2⟩ => .inr ⟨q, h1, Nat.le_trans (by simp) h2⟩)) (XBlk.of_own hown).1 hb.size hy hk hL hx hi hj hx4 hij h

/-- The row of the free extents with the given one in it. -/
theorem give_rep {W W' : World} {s F B c base vb i j : Nat} {a : Option Addr} {L : List Ext} {X : Ext} {x1 x2 : Int} (h : SpAt W s F B (.slice a L.length c) L base) (hij : i ≤ j) (hj : j ≤ L.length) (hx : x1 = (X.1 : Int) ∧ x2 = (X.2 : Int)) (hbw : base ≤ W.heap.size)
    (hb : Below W.heap.size W W') (hv : Blk W' vb 128 #[.int .i64 x1, .int .i64 x2]) (hvb : W.heap.size ≤ vb) (hL : L.length + 1 ≤ 1000000) :
    Calls Try.prog 64 #[.slice a L.length c, .int .i64 (i : Int), .int .i64 (j : Int), .slice (some ⟨vb, 0, none⟩) 1 1] W' (RowTold W' base (Value.slice a L.length c).ownBlock (L.take i ++ X :: L.drop j)) := by
  obtain ⟨rfl, rfl⟩ := hx
  have h' := h.below hb
  obtain ⟨a', c', e, hc1, hc2⟩ := h.slice
  injection e with e1 _ e3
  subst e1
  subst e3
  have hne : (Value.slice a L.length c).ownBlock ≠ some vb := fun e => by
    have := h.own_lt vb e
    omega
  rcases Nat.eq_or_lt_of_le hij with rfl | hlt
  · exact replace_insert L X a c vb base L.length i W' h'.own hv hne (by omega) (Nat.le_trans hbw hb.size) hj hc1 hc2
  · have hr : Row W' (some ⟨vb, 0, none⟩) (flatX [X]) := Row.of_blk hv
    exact replace_any L [X] i j L.length c base 1 1 a (some ⟨vb, 0, none⟩) W' h'.own (Nat.le_trans hbw hb.size) hr rfl (fun q hq => by injection hq with hq; subst hq; exact fun e => hne e.symm) (fun _ => ⟨vb, _, rfl, hv⟩) hlt hj (by omega) (by omega)

set_option maxRecDepth 100000 in
set_option maxHeartbeats 4000000 in
theorem give_any (s F B : Nat) (v : Value) (L : List Ext) (base : Nat) (first n : Int) (w : World) (h : SpAt w s F B v L base) (hA : Asc L) (hin3 : ∀ e ∈ L, e.1 + e.2 ≤ F + B) (hL : L.length + 1 ≤ 1000000) (hbw : base ≤ w.heap.size) :
    Calls Try.prog 54 #[.pointer (some ⟨s, 0, none⟩), .int .i64 first, .int .i64 n] w (ActTold w s F B v base (GiveRel L F B first n)) := by
  obtain ⟨a, c, rfl, hc1, hc2⟩ := h.slice
  have HS := Lib.hid h
  have HA := Lib.hid hA
  have hF := h.F_le
  have hB := h.B_le
  have hsl := h.blk.lt
  have HI := Lib.hid (inside_any s F B (.slice a L.length c) L base first n w h)
  have HBE := Lib.hid (fun W (hb : Below w.heap.size w W) => behind_any s F B (.slice a L.length c) L base first W (h.below hb) hA)
  clear h hA
  cases hin : insideB F B first n
  · have HIN := Lib.hid hin
    rw [hin] at HI
    clear hin
    go_enter Try.func54, Try.ntmps54
    go_wp2_with fail
    refine HI.out.mono ?_
    rintro e w1 ⟨rfl, hb1⟩
    have HB1 := Lib.hid hb1
    clear hb1
    go_wp2_with fail
    go_ret
    exact act_same HS.out HB1.out (.inl ⟨rfl, rfl, fun k _ hy => by have := hy.1; rw [HIN.out] at this; cases this⟩)
  · have HIN := Lib.hid hin
    have hin2 : 1 ≤ n ∧ (F : Int) ≤ first ∧ first ≤ F + B ∧ n ≤ F + B - first := by
      unfold insideB at hin
      exact of_decide_eq_true hin
    rw [hin] at HI
    clear hin
    obtain ⟨fn, hfn⟩ : ∃ fn : Nat, first = (fn : Int) := ⟨first.toNat, by omega⟩
    obtain ⟨m, hm⟩ : ∃ m : Nat, n = (m : Int) := ⟨n.toNat, by omega⟩
    subst hfn
    subst hm
    have t1 : IntKind.i64.wrap ((fn : Int) + m) = (fn : Int) + m := by rw [IntKind.wrap_i64]; omega
    go_enter Try.func54, Try.ntmps54
    go_wp2_with fail
    refine HI.out.mono ?_
    rintro e w1 ⟨rfl, hb1⟩
    have HB1 := Lib.hid hb1
    clear hb1
    go_wp2_with fail
    refine (HBE.out _ HB1.out).mono ?_
    rintro e w2 ⟨k, rfl, hk, hb2⟩
    have HB2 := Lib.hid (HB1.out.trans (hb2.mono HB1.out.size))
    have HK := Lib.hid hk
    have hkl := hk.1
    have S2 := Lib.hid (HS.out.below HB2.out)
    clear hb2 hk HB1 HBE HI
    have c2 : w2.cell? ⟨s, 2, none⟩ = some (.slice a L.length c) := S2.out.blk.cell 2
    have hk0 : (0 : Int) ≤ (k : Int) := by omega
    have hlt2 := HB2.out.size
    have bE := (Below.refl w2.heap.size w2).alloc (Nat.le_refl _) (.cells #[.int .i64 (fn : Int), .int .i64 (m : Int)] 128)
    have E3 := Lib.hid (Blk.new w2 128 #[.int .i64 (fn : Int), .int .i64 (m : Int)])
    have BE := Lib.hid bE
    have S3 := Lib.hid (S2.out.below bE)
    have HB3 := Lib.hid (HB2.out.trans (bE.mono hlt2))
    clear bE
    by_cases hkn : k = L.length
    · have hkn1 : ¬ (k : Int) < (L.length : Int) := by omega
      have hkn2 : decide ((k : Int) < (L.length : Int)) = false := by simp; omega
      have hkn3 : decide (k < L.length) = false := by simp; omega
      have HYES : Hid (GiveYes L F B fn m k) := Lib.hid ⟨HIN.out, fun h => by omega⟩
      have HJR : Hid (joinR L k fn m = false) := Lib.hid (by unfold joinR; rw [decide_eq_false_iff_not]; exact fun h => by omega)
      have HKN := Lib.hid hkn
      clear hkn
      go_wp2_with fail
      generalize hw3 : w2.alloc (.cells #[.int .i64 (fn : Int), .int .i64 (m : Int)] 128) = w3 at *
      clear hw3
      have hebl := E3.out.lt
      have OL := Lib.hid S2.out.own_lt
      have hes : s < w2.heap.size := by omega
      have hebw : w.heap.size ≤ w2.heap.size := hlt2
      generalize heb : w2.heap.size = eb at *
      clear heb c2 S2 HB2 BE hlt2
      have c3 : w3.cell? ⟨s, 2, none⟩ = some (.slice a L.length c) := S3.out.blk.cell 2
      go_quiet (fail)
      have S4 := Lib.hid (S3.out.below (below_dn w3.heap.size w3 nq))
      have E4 := Lib.hid (E3.out.below (below_dn w3.heap.size w3 nq) hebl)
      have HB4 := Lib.hid (HB3.out.trans (below_dn w.heap.size w3 nq))
      generalize w3.drewN nq = w4 at *
      clear c3 S3 E3 HB3 hebl
      have c4 : w4.cell? ⟨s, 2, none⟩ = some (.slice a L.length c) := S4.out.blk.cell 2
      have hbw2 : base ≤ w4.heap.size := Nat.le_trans hbw (by have := HB4.out.size; omega)
      by_cases hk1 : k = 0
      · have hk2 : ¬ (0 : Int) < (k : Int) := by omega
        have HJL : Hid (joinL L k fn = false) := Lib.hid (by unfold joinL; rw [decide_eq_false_iff_not]; exact fun h => by omega)
        have HK1 := Lib.hid hk1
        clear hk1
        have d0 : w4.cell? ⟨eb, 0, none⟩ = some (.int .i64 (fn : Int)) := E4.out.cell 0
        have d1 : w4.cell? ⟨eb, 1, none⟩ = some (.int .i64 (m : Int)) := E4.out.cell 1
        have cW : w4.cell? ⟨s, 2, none⟩ = some (.slice a L.length c) := S4.out.blk.cell 2
        have z1 : s < w4.heap.size := S4.out.blk.lt
        have z2 : eb < w4.heap.size := E4.out.lt
        have z3 : ¬ s = w4.heap.size := by omega
        have z4 : ¬ eb = w4.heap.size := by omega
        have HR := Lib.hid (fun W' vb (hb : Below w4.heap.size w4 W') (hv : Blk W' vb 128 #[.int .i64 (fn : Int), .int .i64 (m : Int)]) (hvb : w4.heap.size ≤ vb) =>
          give_rep (W := w4) (X := (fn, m)) (i := k) (j := k) S4.out (by omega) (by omega) ⟨rfl, rfl⟩ hbw2 hb hv hvb hL)
        go_wp2_with fail
        go_region_law ((go_simp; go_at_call 64; refine (HR.out _ _ (((Below.refl _ _).alloc (Nat.le_refl _) _).drew) (Blk.new _ _ _).drew (Nat.le_refl _)).mono ?_; rintro e w10 ⟨a10, k10, c10, rfl, hown10, hc10, hf10⟩; have hB10 := give_blk S4.out hc10; have q10 : w10.cell? ⟨s, 2, none⟩ = some (.slice a L.length c) := hB10.cell 2; have q11 := hB10.frozen 2))
        all_goals
          have HFIN := Lib.hid (give_end (i := k) (j := k) (x := (fn, m)) S4.out HB4.out hown10 hc10 hf10 hB10 HYES.out HK.out hL (by unfold giveX; rw [HJL.out, HJR.out]; rfl) (by rw [HJL.out]; rfl) (by rw [HJR.out]; rfl) (by simp only; omega) (by omega))
          clear hown10 hc10 hf10 hB10 q10 q11 HR
          go_wp2_with fail
          go_ret
          exact HFIN.out
      · obtain ⟨p, rfl⟩ : ∃ p, k = p + 1 := ⟨k - 1, by omega⟩
        have hpl : p < L.length := by omega
        obtain ⟨g1, ha, q1, q2, q3, q4⟩ := S4.out.elem hpl
        subst ha
        have hgp : L.getD p (0, 0) = L[p] := by rw [List.getD_eq_getElem?_getD, List.getElem?_eq_getElem hpl]; rfl
        have hmemp := hin3 _ (List.getElem_mem hpl)
        obtain ⟨⟨u, z⟩, huz⟩ : ∃ q : Ext, L[p] = q := ⟨_, rfl⟩
        rw [huz] at hgp q1 q2 q3 q4 hmemp
        simp only at q1 q2 q3 q4 hmemp
        have HGP := Lib.hid hgp
        have hp0 : (0 : Int) ≤ (p : Int) := by omega
        have hp1 : (p : Int) < (L.length : Int) := by omega
        have hp2 : (0 : Int) < (p : Int) + 1 := by omega
        have hp3 : IntKind.i64.wrap (p : Int) = (p : Int) := by rw [IntKind.wrap_i64]; omega
        clear hk1 huz hgp
        go_wp2_with fail
        refine (end_any (u : Int) (z : Int) w4 ⟨by omega, by omega⟩ ⟨by omega, by omega⟩).mono ?_
        rintro e w5 ⟨rfl, hb5⟩
        have S5 := Lib.hid (S4.out.below hb5)
        have E5 := Lib.hid (E4.out.below hb5 E4.out.lt)
        have HB5 := Lib.hid (HB4.out.trans (hb5.mono HB4.out.size))
        have hbw3 : base ≤ w5.heap.size := Nat.le_trans hbw2 hb5.size
        clear hb5 S4 E4 HB4 c4 q1 q2 hbw2
        have hbw2 := hbw3
        by_cases h5 : u + z = fn
        · have h5b : ((u : Int) + z == (fn : Int)) = true := by rw [beq_iff_eq]; omega
          have HJL : Hid (joinL L (p + 1) fn = true) := Lib.hid (by unfold joinL; rw [Nat.add_sub_cancel, HGP.out, decide_eq_true_eq]; exact ⟨by omega, h5⟩)
          obtain ⟨g2, ha2, r1, r2, -, -⟩ := S5.out.elem hpl
          injection ha2 with ha2
          injection ha2 with ha2
          subst ha2
          have huz : L[p] = (u, z) := by rw [← HGP.out, List.getD_eq_getElem?_getD, List.getElem?_eq_getElem hpl]; rfl
          rw [huz] at r1 r2
          simp only at r1 r2
          clear huz
          have H5 := Lib.hid h5
          have c5 : w5.cell? ⟨s, 2, none⟩ = some (.slice (some ⟨g1, 0, none⟩) L.length c) := S5.out.blk.cell 2
          have d5 : w5.cell? ⟨eb, 1, none⟩ = some (.int .i64 ((m : Int))) := E5.out.cell 1
          have d6 := E5.out.frozen 0
          have d7 := E5.out.frozen 1
          have d8 : w5.cell? ⟨eb, 0, none⟩ = some (.int .i64 (fn : Int)) := E5.out.cell 0
          have x5 : IntKind.i64.wrap ((m : Int) + (z : Int)) = (m : Int) + (z : Int) := by rw [IntKind.wrap_i64]; omega
          clear h5
          go_wp2_with fail
          go_still_tail 22, (by kernel_rfl)
          change wpList _ _ _ _ _ w5.drew
          have S6 := Lib.hid (S5.out.below ((Below.refl _ _).drew))
          have E6 := Lib.hid E5.out.drew
          have HB6 := Lib.hid HB5.out.drew
          have z5 : eb < w5.drew.heap.size := E5.out.lt
          clear r1 r2 c5 d5 d6 d7 d8 S5 E5 HB5
          generalize w5.drew = w6 at *
          have d6 := E6.out.frozen 0
          have d7 := E6.out.frozen 1
          have d8 : w6.cell? ⟨eb, 0, none⟩ = some (.int .i64 (fn : Int)) := E6.out.cell 0
          have d5 : w6.cell? ⟨eb, 1, none⟩ = some (.int .i64 ((m : Int))) := E6.out.cell 1
          have hsx := give_store (x1 := (u : Int)) (x2 := (m : Int) + (z : Int)) S6.out E6.out OL.out hes HB6.out hebw
          obtain ⟨s7, e7, b7⟩ := hsx
          have S7 := Lib.hid s7
          have E7 := Lib.hid e7
          have HB7 := Lib.hid b7
          clear s7 e7 b7 S6 E6 HB6
          go_wp2_with fail
          clear d5 d6 d7 d8
          generalize (w6.setCell ⟨eb, 0, none⟩ (.int .i64 (u : Int))).setCell ⟨eb, 1, none⟩ (.int .i64 ((m : Int) + (z : Int))) = w7 at *
          have hbw2 : base ≤ w7.heap.size := Nat.le_trans hbw HB7.out.size
          have d0 : w7.cell? ⟨eb, 0, none⟩ = some (.int .i64 (u : Int)) := E7.out.cell 0
          have d1 : w7.cell? ⟨eb, 1, none⟩ = some (.int .i64 ((m : Int) + (z : Int))) := E7.out.cell 1
          have cW : w7.cell? ⟨s, 2, none⟩ = some (.slice (some ⟨g1, 0, none⟩) L.length c) := S7.out.blk.cell 2
          have z1 : s < w7.heap.size := S7.out.blk.lt
          have z2 : eb < w7.heap.size := E7.out.lt
          have z3 : ¬ s = w7.heap.size := by omega
          have z4 : ¬ eb = w7.heap.size := by omega
          have HR := Lib.hid (fun W' vb (hb : Below w7.heap.size w7 W') (hv : Blk W' vb 128 #[.int .i64 (u : Int), .int .i64 ((m : Int) + (z : Int))]) (hvb : w7.heap.size ≤ vb) =>
            give_rep (W := w7) (X := (u, m + z)) (i := p) (j := (p + 1)) S7.out (by omega) (by omega) ⟨rfl, rfl⟩ hbw2 hb hv hvb hL)
          go_wp2_with fail
          go_region_law ((go_simp; go_at_call 64; refine (HR.out _ _ (((Below.refl _ _).alloc (Nat.le_refl _) _).drew) (Blk.new _ _ _).drew (Nat.le_refl _)).mono ?_; rintro e w10 ⟨a10, k10, c10, rfl, hown10, hc10, hf10⟩; have hB10 := give_blk S7.out hc10; have q10 : w10.cell? ⟨s, 2, none⟩ = some (.slice (some ⟨g1, 0, none⟩) L.length c) := hB10.cell 2; have q11 := hB10.frozen 2))
          all_goals
            have HFIN := Lib.hid (give_end (i := p) (j := (p + 1)) (x := (u, m + z)) S7.out HB7.out hown10 hc10 hf10 hB10 HYES.out HK.out hL (by unfold giveX; rw [HJL.out, HJR.out, Nat.add_sub_cancel, HGP.out]; rfl) (by rw [HJL.out]; rfl) (by rw [HJR.out]; rfl) (by simp only; omega) (by omega))
            clear hown10 hc10 hf10 hB10 q10 q11 HR
            go_wp2_with fail
            go_ret
            exact HFIN.out
        · have h5b : ((u : Int) + z == (fn : Int)) = false := by rw [beq_eq_false_iff_ne]; omega
          have HJL : Hid (joinL L (p + 1) fn = false) := Lib.hid (by unfold joinL; rw [Nat.add_sub_cancel, HGP.out, decide_eq_false_iff_not]; exact fun h => h5 h.2)
          have d0 : w5.cell? ⟨eb, 0, none⟩ = some (.int .i64 (fn : Int)) := E5.out.cell 0
          have d1 : w5.cell? ⟨eb, 1, none⟩ = some (.int .i64 (m : Int)) := E5.out.cell 1
          have cW : w5.cell? ⟨s, 2, none⟩ = some (.slice (some ⟨g1, 0, none⟩) L.length c) := S5.out.blk.cell 2
          have z1 : s < w5.heap.size := S5.out.blk.lt
          have z2 : eb < w5.heap.size := E5.out.lt
          have z3 : ¬ s = w5.heap.size := by omega
          have z4 : ¬ eb = w5.heap.size := by omega
          have HR := Lib.hid (fun W' vb (hb : Below w5.heap.size w5 W') (hv : Blk W' vb 128 #[.int .i64 (fn : Int), .int .i64 (m : Int)]) (hvb : w5.heap.size ≤ vb) =>
            give_rep (W := w5) (X := (fn, m)) (i := (p + 1)) (j := (p + 1)) S5.out (by omega) (by omega) ⟨rfl, rfl⟩ hbw2 hb hv hvb hL)
          go_wp2_with fail
          go_region_law ((go_simp; go_at_call 64; refine (HR.out _ _ (((Below.refl _ _).alloc (Nat.le_refl _) _).drew) (Blk.new _ _ _).drew (Nat.le_refl _)).mono ?_; rintro e w10 ⟨a10, k10, c10, rfl, hown10, hc10, hf10⟩; have hB10 := give_blk S5.out hc10; have q10 : w10.cell? ⟨s, 2, none⟩ = some (.slice (some ⟨g1, 0, none⟩) L.length c) := hB10.cell 2; have q11 := hB10.frozen 2))
          all_goals
            have HFIN := Lib.hid (give_end (i := (p + 1)) (j := (p + 1)) (x := (fn, m)) S5.out HB5.out hown10 hc10 hf10 hB10 HYES.out HK.out hL (by unfold giveX; rw [HJL.out, HJR.out]; rfl) (by rw [HJL.out]; rfl) (by rw [HJR.out]; rfl) (by simp only; omega) (by omega))
            clear hown10 hc10 hf10 hB10 q10 q11 HR
            go_wp2_with fail
            go_ret
            exact HFIN.out
    · have hkl2 : k < L.length := by omega
      have hks : (k : Int) < (L.length : Int) := by omega
      obtain ⟨g, rfl, f1, f2, f3, f4⟩ := S2.out.elem hkl2
      have hgd : L.getD k (0, 0) = L[k] := by rw [List.getD_eq_getElem?_getD, List.getElem?_eq_getElem hkl2]; rfl
      have hmem := hin3 _ (List.getElem_mem hkl2)
      obtain ⟨⟨x, y⟩, hxy⟩ : ∃ q : Ext, L[k] = q := ⟨_, rfl⟩
      rw [hxy] at hgd f1 f2 f3 f4 hmem
      simp only at f1 f2 f3 f4 hmem
      have HGD := Lib.hid hgd
      clear hkn hxy hgd
      by_cases h1 : (x : Int) < (fn : Int) + m
      · go_wp2_with fail
        go_ret
        exact act_same HS.out HB2.out (.inl ⟨rfl, rfl, fun k' hk' hy => by have h9 := hy.2; have := HK.out.unique hk'; subst this; rw [HGD.out] at h9; have := h9 hkl2; simp only at this; omega⟩)
      · have HYES : Hid (GiveYes L F B fn m k) := Lib.hid ⟨HIN.out, fun _ => by rw [HGD.out]; simp only; omega⟩
        by_cases h3 : x = fn + m
        · have h3b : ((x : Int) == (fn : Int) + m) = true := by rw [beq_iff_eq]; omega
          have HJR : Hid (joinR L k fn m = true) := Lib.hid (by unfold joinR; rw [decide_eq_true_eq, HGD.out]; exact ⟨hkl2, h3⟩)
          have H3 := Lib.hid h3
          clear h3
          go_wp2_with fail
          generalize hw3 : w2.alloc (.cells #[.int .i64 (fn : Int), .int .i64 (m : Int)] 128) = w3 at *
          clear hw3
          have hebl := E3.out.lt
          have OL := Lib.hid S2.out.own_lt
          have hes : s < w2.heap.size := by omega
          have hebw : w.heap.size ≤ w2.heap.size := hlt2
          generalize heb : w2.heap.size = eb at *
          clear heb c2 S2 HB2 BE hlt2 f1 f2
          obtain ⟨g3, hg3, f1, f2, -, -⟩ := S3.out.elem hkl2
          injection hg3 with hg3
          injection hg3 with hg3
          subst hg3
          have hxy : L[k] = (x, y) := by rw [← HGD.out, List.getD_eq_getElem?_getD, List.getElem?_eq_getElem hkl2]; rfl
          rw [hxy] at f1 f2
          simp only at f1 f2
          clear hxy
          have c3 : w3.cell? ⟨s, 2, none⟩ = some (.slice (some ⟨g, 0, none⟩) L.length c) := S3.out.blk.cell 2
          have d0 : w3.cell? ⟨eb, 0, none⟩ = some (.int .i64 (fn : Int)) := E3.out.cell 0
          have d1 : w3.cell? ⟨eb, 1, none⟩ = some (.int .i64 (m : Int)) := E3.out.cell 1
          have HC := Lib.hid (fun W (hb : Below w3.heap.size w3 W) => (⟨by rw [hb.cell (cell_lt c3).1, c3], by rw [hb.cell (cell_lt f1).1, f1], by rw [hb.cell (cell_lt d0).1, d0], by rw [hb.cell (cell_lt d1).1, d1]⟩ :
            W.cell? ⟨s, 2, none⟩ = some (.slice (some ⟨g, 0, none⟩) L.length c) ∧ W.cell? ⟨g, k * 2, none⟩ = some (.int .i64 (x : Int)) ∧ W.cell? ⟨eb, 0, none⟩ = some (.int .i64 (fn : Int)) ∧ W.cell? ⟨eb, 1, none⟩ = some (.int .i64 (m : Int))))
          have HE := Lib.hid (fun W (hb : Below w3.heap.size w3 W) => (end_any (fn : Int) (m : Int) W ⟨by omega, by omega⟩ ⟨by omega, by omega⟩).mono (fun e w2 (he : e = .returned (.int .i64 ((fn : Int) + m)) ∧ Below W.heap.size W w2) => (⟨he.1, hb.trans (he.2.mono hb.size)⟩ : e = .returned (.int .i64 ((fn : Int) + m)) ∧ Below w3.heap.size w3 w2)))
          have hd0 : Below w3.heap.size w3 w3.drew := (Below.refl _ _).drew
          have hks2 : decide ((k : Int) < (L.length : Int)) = true := by simp; omega
          have hks3 : decide (k < L.length) = true := by simp; omega
          clear h1
          go_region_held3 (fun w' => Below w3.heap.size w3 w' ∧ w'.cell? ⟨s, 2, none⟩ = some (.slice (some ⟨g, 0, none⟩) L.length c) ∧ w'.cell? ⟨g, k * 2, none⟩ = some (.int .i64 (x : Int)) ∧ w'.cell? ⟨eb, 0, none⟩ = some (.int .i64 (fn : Int)) ∧ w'.cell? ⟨eb, 1, none⟩ = some (.int .i64 (m : Int)))
            (exact ⟨by assumption, (HC.out _ (by assumption)).1, (HC.out _ (by assumption)).2.1, (HC.out _ (by assumption)).2.2.1, (HC.out _ (by assumption)).2.2.2⟩)
            ((go_at_call 63; refine (HE.out _ (by assumption)).mono ?_; rintro e wa ⟨rfl, hba⟩))
          have Sa := Lib.hid (S3.out.below hba)
          have Ea := Lib.hid (E3.out.below hba hebl)
          have HBa := Lib.hid (HB3.out.trans (hba.mono HB3.out.size))
          obtain ⟨ca, fa, d0a, d1a⟩ := HC.out _ hba
          have fb : wa.cell? ⟨g, k * 2 + 1, none⟩ = some (.int .i64 (y : Int)) := by rw [hba.cell (cell_lt f2).1, f2]
          have e6 := Ea.out.frozen 0
          have e7 := Ea.out.frozen 1
          have x6 : IntKind.i64.wrap ((m : Int) + (y : Int)) = (m : Int) + (y : Int) := by rw [IntKind.wrap_i64]; omega
          clear c3 S3 E3 HB3 hebl hba f1 f2 d0 d1 HC HE hd0
          go_wp2_with fail
          go_still_tail 12, (by kernel_rfl)
          change wpList _ _ _ _ _ wa.drew
          have S6 := Lib.hid (Sa.out.below ((Below.refl _ _).drew))
          have E6 := Lib.hid Ea.out.drew
          have HB6 := Lib.hid HBa.out.drew
          have z5 : eb < wa.drew.heap.size := Ea.out.lt
          clear ca fa d0a d1a fb e6 e7 Sa Ea HBa
          generalize wa.drew = w6 at *
          have d6 := E6.out.frozen 1
          have d5 : w6.cell? ⟨eb, 1, none⟩ = some (.int .i64 (m : Int)) := E6.out.cell 1
          obtain ⟨s7, e7, b7⟩ := give_store1 (x2 := (m : Int) + (y : Int)) S6.out E6.out OL.out hes HB6.out hebw
          have S4 := Lib.hid s7
          have E4 := Lib.hid e7
          have HB4 := Lib.hid b7
          clear s7 e7 b7 S6 E6 HB6
          have c4 : (w6.setCell ⟨eb, 1, none⟩ (.int .i64 ((m : Int) + (y : Int)))).cell? ⟨s, 2, none⟩ = some (.slice (some ⟨g, 0, none⟩) L.length c) := S4.out.blk.cell 2
          have hbw2 : base ≤ (w6.setCell ⟨eb, 1, none⟩ (.int .i64 ((m : Int) + (y : Int)))).heap.size := Nat.le_trans hbw (by have := HB4.out.size; omega)
          by_cases hk1 : k = 0
          · have hk2 : ¬ (0 : Int) < (k : Int) := by omega
            have HJL : Hid (joinL L k fn = false) := Lib.hid (by unfold joinL; rw [decide_eq_false_iff_not]; exact fun h => by omega)
            have HK1 := Lib.hid hk1
            clear hk1
            go_wp2_with fail
            generalize (w6.setCell ⟨eb, 1, none⟩ (.int .i64 ((m : Int) + (y : Int)))) = w4 at *
            have d0 : w4.cell? ⟨eb, 0, none⟩ = some (.int .i64 (fn : Int)) := E4.out.cell 0
            have d1 : w4.cell? ⟨eb, 1, none⟩ = some (.int .i64 ((m : Int) + (y : Int))) := E4.out.cell 1
            have cW : w4.cell? ⟨s, 2, none⟩ = some (.slice (some ⟨g, 0, none⟩) L.length c) := S4.out.blk.cell 2
            have z1 : s < w4.heap.size := S4.out.blk.lt
            have z2 : eb < w4.heap.size := E4.out.lt
            have z3 : ¬ s = w4.heap.size := by omega
            have z4 : ¬ eb = w4.heap.size := by omega
            have HR := Lib.hid (fun W' vb (hb : Below w4.heap.size w4 W') (hv : Blk W' vb 128 #[.int .i64 (fn : Int), .int .i64 ((m : Int) + (y : Int))]) (hvb : w4.heap.size ≤ vb) =>
              give_rep (W := w4) (X := (fn, (m + y))) (i := k) (j := (k + 1)) S4.out (by omega) (by omega) ⟨rfl, rfl⟩ hbw2 hb hv hvb hL)
            (try go_wp2_with fail)
            go_region_law ((go_simp; go_at_call 64; refine (HR.out _ _ (((Below.refl _ _).alloc (Nat.le_refl _) _).drew) (Blk.new _ _ _).drew (Nat.le_refl _)).mono ?_; rintro e w10 ⟨a10, k10, c10, rfl, hown10, hc10, hf10⟩; have hB10 := give_blk S4.out hc10; have q10 : w10.cell? ⟨s, 2, none⟩ = some (.slice (some ⟨g, 0, none⟩) L.length c) := hB10.cell 2; have q11 := hB10.frozen 2))
            all_goals
              have HFIN := Lib.hid (give_end (i := k) (j := (k + 1)) (x := (fn, (m + y))) S4.out HB4.out hown10 hc10 hf10 hB10 HYES.out HK.out hL (by unfold giveX; rw [HJL.out, HJR.out]; rw [HGD.out]; rfl) (by rw [HJL.out]; rfl) (by rw [HJR.out]; rfl) (by simp only; omega) (by omega))
              clear hown10 hc10 hf10 hB10 q10 q11 HR
              go_wp2_with fail
              go_ret
              exact HFIN.out
          · obtain ⟨p, rfl⟩ : ∃ p, k = p + 1 := ⟨k - 1, by omega⟩
            have hpl : p < L.length := by omega
            obtain ⟨g1, ha, q1, q2, q3, q4⟩ := S4.out.elem hpl
            injection ha with ha
            injection ha with ha
            subst ha
            have hgp : L.getD p (0, 0) = L[p] := by rw [List.getD_eq_getElem?_getD, List.getElem?_eq_getElem hpl]; rfl
            have hmemp := hin3 _ (List.getElem_mem hpl)
            obtain ⟨⟨u, z⟩, huz⟩ : ∃ q : Ext, L[p] = q := ⟨_, rfl⟩
            rw [huz] at hgp q1 q2 q3 q4 hmemp
            simp only at q1 q2 q3 q4 hmemp
            have HGP := Lib.hid hgp
            have hp0 : (0 : Int) ≤ (p : Int) := by omega
            have hp1 : (p : Int) < (L.length : Int) := by omega
            have hp2 : (0 : Int) < (p : Int) + 1 := by omega
            have hp3 : IntKind.i64.wrap (p : Int) = (p : Int) := by rw [IntKind.wrap_i64]; omega
            clear hk1 huz hgp
            go_wp2_with fail
            generalize (w6.setCell ⟨eb, 1, none⟩ (.int .i64 ((m : Int) + (y : Int)))) = w4 at *
            refine (end_any (u : Int) (z : Int) w4 ⟨by omega, by omega⟩ ⟨by omega, by omega⟩).mono ?_
            rintro e w5 ⟨rfl, hb5⟩
            have S5 := Lib.hid (S4.out.below hb5)
            have E5 := Lib.hid (E4.out.below hb5 E4.out.lt)
            have HB5 := Lib.hid (HB4.out.trans (hb5.mono HB4.out.size))
            have hbw3 : base ≤ w5.heap.size := Nat.le_trans hbw2 hb5.size
            clear hb5 S4 E4 HB4 c4 q1 q2 hbw2
            have hbw2 := hbw3
            by_cases h5 : u + z = fn
            · have h5b : ((u : Int) + z == (fn : Int)) = true := by rw [beq_iff_eq]; omega
              have HJL : Hid (joinL L (p + 1) fn = true) := Lib.hid (by unfold joinL; rw [Nat.add_sub_cancel, HGP.out, decide_eq_true_eq]; exact ⟨by omega, h5⟩)
              obtain ⟨g2, ha2, r1, r2, -, -⟩ := S5.out.elem hpl
              injection ha2 with ha2
              injection ha2 with ha2
              subst ha2
              have huz : L[p] = (u, z) := by rw [← HGP.out, List.getD_eq_getElem?_getD, List.getElem?_eq_getElem hpl]; rfl
              rw [huz] at r1 r2
              simp only at r1 r2
              clear huz
              have H5 := Lib.hid h5
              have c5 : w5.cell? ⟨s, 2, none⟩ = some (.slice (some ⟨g, 0, none⟩) L.length c) := S5.out.blk.cell 2
              have d5 : w5.cell? ⟨eb, 1, none⟩ = some (.int .i64 (((m : Int) + (y : Int)))) := E5.out.cell 1
              have d6 := E5.out.frozen 0
              have d7 := E5.out.frozen 1
              have d8 : w5.cell? ⟨eb, 0, none⟩ = some (.int .i64 (fn : Int)) := E5.out.cell 0
              have x5 : IntKind.i64.wrap (((m : Int) + (y : Int)) + (z : Int)) = ((m : Int) + (y : Int)) + (z : Int) := by rw [IntKind.wrap_i64]; omega
              clear h5
              go_wp2_with fail
              go_still_tail 22, (by kernel_rfl)
              change wpList _ _ _ _ _ w5.drew
              have S6 := Lib.hid (S5.out.below ((Below.refl _ _).drew))
              have E6 := Lib.hid E5.out.drew
              have HB6 := Lib.hid HB5.out.drew
              have z5 : eb < w5.drew.heap.size := E5.out.lt
              clear r1 r2 c5 d5 d6 d7 d8 S5 E5 HB5
              generalize w5.drew = w6 at *
              have d6 := E6.out.frozen 0
              have d7 := E6.out.frozen 1
              have d8 : w6.cell? ⟨eb, 0, none⟩ = some (.int .i64 (fn : Int)) := E6.out.cell 0
              have d5 : w6.cell? ⟨eb, 1, none⟩ = some (.int .i64 (((m : Int) + (y : Int)))) := E6.out.cell 1
              have hsx := give_store (x1 := (u : Int)) (x2 := ((m : Int) + (y : Int)) + (z : Int)) S6.out E6.out OL.out hes HB6.out hebw
              obtain ⟨s7, e7, b7⟩ := hsx
              have S7 := Lib.hid s7
              have E7 := Lib.hid e7
              have HB7 := Lib.hid b7
              clear s7 e7 b7 S6 E6 HB6
              go_wp2_with fail
              clear d5 d6 d7 d8
              generalize (w6.setCell ⟨eb, 0, none⟩ (.int .i64 (u : Int))).setCell ⟨eb, 1, none⟩ (.int .i64 (((m : Int) + (y : Int)) + (z : Int))) = w7 at *
              have hbw2 : base ≤ w7.heap.size := Nat.le_trans hbw HB7.out.size
              have d0 : w7.cell? ⟨eb, 0, none⟩ = some (.int .i64 (u : Int)) := E7.out.cell 0
              have d1 : w7.cell? ⟨eb, 1, none⟩ = some (.int .i64 (((m : Int) + (y : Int)) + (z : Int))) := E7.out.cell 1
              have cW : w7.cell? ⟨s, 2, none⟩ = some (.slice (some ⟨g, 0, none⟩) L.length c) := S7.out.blk.cell 2
              have z1 : s < w7.heap.size := S7.out.blk.lt
              have z2 : eb < w7.heap.size := E7.out.lt
              have z3 : ¬ s = w7.heap.size := by omega
              have z4 : ¬ eb = w7.heap.size := by omega
              have HR := Lib.hid (fun W' vb (hb : Below w7.heap.size w7 W') (hv : Blk W' vb 128 #[.int .i64 (u : Int), .int .i64 (((m : Int) + (y : Int)) + (z : Int))]) (hvb : w7.heap.size ≤ vb) =>
                give_rep (W := w7) (X := (u, (m + y) + z)) (i := p) (j := ((p + 1) + 1)) S7.out (by omega) (by omega) ⟨rfl, rfl⟩ hbw2 hb hv hvb hL)
              go_wp2_with fail
              go_region_law ((go_simp; go_at_call 64; refine (HR.out _ _ (((Below.refl _ _).alloc (Nat.le_refl _) _).drew) (Blk.new _ _ _).drew (Nat.le_refl _)).mono ?_; rintro e w10 ⟨a10, k10, c10, rfl, hown10, hc10, hf10⟩; have hB10 := give_blk S7.out hc10; have q10 : w10.cell? ⟨s, 2, none⟩ = some (.slice (some ⟨g, 0, none⟩) L.length c) := hB10.cell 2; have q11 := hB10.frozen 2))
              all_goals
                have HFIN := Lib.hid (give_end (i := p) (j := ((p + 1) + 1)) (x := (u, (m + y) + z)) S7.out HB7.out hown10 hc10 hf10 hB10 HYES.out HK.out hL (by unfold giveX; rw [HJL.out, HJR.out, Nat.add_sub_cancel, HGP.out]; rw [HGD.out]; rfl) (by rw [HJL.out]; rfl) (by rw [HJR.out]; rfl) (by simp only; omega) (by omega))
                clear hown10 hc10 hf10 hB10 q10 q11 HR
                go_wp2_with fail
                go_ret
                exact HFIN.out
            · have h5b : ((u : Int) + z == (fn : Int)) = false := by rw [beq_eq_false_iff_ne]; omega
              have HJL : Hid (joinL L (p + 1) fn = false) := Lib.hid (by unfold joinL; rw [Nat.add_sub_cancel, HGP.out, decide_eq_false_iff_not]; exact fun h => h5 h.2)
              have d0 : w5.cell? ⟨eb, 0, none⟩ = some (.int .i64 (fn : Int)) := E5.out.cell 0
              have d1 : w5.cell? ⟨eb, 1, none⟩ = some (.int .i64 ((m : Int) + (y : Int))) := E5.out.cell 1
              have cW : w5.cell? ⟨s, 2, none⟩ = some (.slice (some ⟨g, 0, none⟩) L.length c) := S5.out.blk.cell 2
              have z1 : s < w5.heap.size := S5.out.blk.lt
              have z2 : eb < w5.heap.size := E5.out.lt
              have z3 : ¬ s = w5.heap.size := by omega
              have z4 : ¬ eb = w5.heap.size := by omega
              have HR := Lib.hid (fun W' vb (hb : Below w5.heap.size w5 W') (hv : Blk W' vb 128 #[.int .i64 (fn : Int), .int .i64 ((m : Int) + (y : Int))]) (hvb : w5.heap.size ≤ vb) =>
                give_rep (W := w5) (X := (fn, (m + y))) (i := (p + 1)) (j := ((p + 1) + 1)) S5.out (by omega) (by omega) ⟨rfl, rfl⟩ hbw2 hb hv hvb hL)
              go_wp2_with fail
              go_region_law ((go_simp; go_at_call 64; refine (HR.out _ _ (((Below.refl _ _).alloc (Nat.le_refl _) _).drew) (Blk.new _ _ _).drew (Nat.le_refl _)).mono ?_; rintro e w10 ⟨a10, k10, c10, rfl, hown10, hc10, hf10⟩; have hB10 := give_blk S5.out hc10; have q10 : w10.cell? ⟨s, 2, none⟩ = some (.slice (some ⟨g, 0, none⟩) L.length c) := hB10.cell 2; have q11 := hB10.frozen 2))
              all_goals
                have HFIN := Lib.hid (give_end (i := (p + 1)) (j := ((p + 1) + 1)) (x := (fn, (m + y))) S5.out HB5.out hown10 hc10 hf10 hB10 HYES.out HK.out hL (by unfold giveX; rw [HJL.out, HJR.out]; rw [HGD.out]; rfl) (by rw [HJL.out]; rfl) (by rw [HJR.out]; rfl) (by simp only; omega) (by omega))
                clear hown10 hc10 hf10 hB10 q10 q11 HR
                go_wp2_with fail
                go_ret
                exact HFIN.out
        · have h3b : ((x : Int) == (fn : Int) + m) = false := by rw [beq_eq_false_iff_ne]; omega
          have HJR : Hid (joinR L k fn m = false) := Lib.hid (by unfold joinR; rw [decide_eq_false_iff_not, HGD.out]; exact fun h => h3 h.2)
          go_wp2_with fail
          generalize hw3 : w2.alloc (.cells #[.int .i64 (fn : Int), .int .i64 (m : Int)] 128) = w3 at *
          clear hw3
          have hebl := E3.out.lt
          have OL := Lib.hid S2.out.own_lt
          have hes : s < w2.heap.size := by omega
          have hebw : w.heap.size ≤ w2.heap.size := hlt2
          generalize heb : w2.heap.size = eb at *
          clear heb c2 S2 HB2 BE hlt2 f1 f2
          obtain ⟨g3, hg3, f1, f2, -, -⟩ := S3.out.elem hkl2
          injection hg3 with hg3
          injection hg3 with hg3
          subst hg3
          have hxy : L[k] = (x, y) := by rw [← HGD.out, List.getD_eq_getElem?_getD, List.getElem?_eq_getElem hkl2]; rfl
          rw [hxy] at f1 f2
          simp only at f1 f2
          clear hxy
          have c3 : w3.cell? ⟨s, 2, none⟩ = some (.slice (some ⟨g, 0, none⟩) L.length c) := S3.out.blk.cell 2
          have d0 : w3.cell? ⟨eb, 0, none⟩ = some (.int .i64 (fn : Int)) := E3.out.cell 0
          have d1 : w3.cell? ⟨eb, 1, none⟩ = some (.int .i64 (m : Int)) := E3.out.cell 1
          have HC := Lib.hid (fun W (hb : Below w3.heap.size w3 W) => (⟨by rw [hb.cell (cell_lt c3).1, c3], by rw [hb.cell (cell_lt f1).1, f1], by rw [hb.cell (cell_lt d0).1, d0], by rw [hb.cell (cell_lt d1).1, d1]⟩ :
            W.cell? ⟨s, 2, none⟩ = some (.slice (some ⟨g, 0, none⟩) L.length c) ∧ W.cell? ⟨g, k * 2, none⟩ = some (.int .i64 (x : Int)) ∧ W.cell? ⟨eb, 0, none⟩ = some (.int .i64 (fn : Int)) ∧ W.cell? ⟨eb, 1, none⟩ = some (.int .i64 (m : Int))))
          have HE := Lib.hid (fun W (hb : Below w3.heap.size w3 W) => (end_any (fn : Int) (m : Int) W ⟨by omega, by omega⟩ ⟨by omega, by omega⟩).mono (fun e w2 (he : e = .returned (.int .i64 ((fn : Int) + m)) ∧ Below W.heap.size W w2) => (⟨he.1, hb.trans (he.2.mono hb.size)⟩ : e = .returned (.int .i64 ((fn : Int) + m)) ∧ Below w3.heap.size w3 w2)))
          have hd0 : Below w3.heap.size w3 w3.drew := (Below.refl _ _).drew
          have hks2 : decide ((k : Int) < (L.length : Int)) = true := by simp; omega
          have hks3 : decide (k < L.length) = true := by simp; omega
          clear h1
          go_region_held3 (fun w' => Below w3.heap.size w3 w' ∧ w'.cell? ⟨s, 2, none⟩ = some (.slice (some ⟨g, 0, none⟩) L.length c) ∧ w'.cell? ⟨g, k * 2, none⟩ = some (.int .i64 (x : Int)) ∧ w'.cell? ⟨eb, 0, none⟩ = some (.int .i64 (fn : Int)) ∧ w'.cell? ⟨eb, 1, none⟩ = some (.int .i64 (m : Int)))
            (exact ⟨by assumption, (HC.out _ (by assumption)).1, (HC.out _ (by assumption)).2.1, (HC.out _ (by assumption)).2.2.1, (HC.out _ (by assumption)).2.2.2⟩)
            ((go_at_call 63; refine (HE.out _ (by assumption)).mono ?_; rintro e w4 ⟨rfl, hba⟩))
          have S4 := Lib.hid (S3.out.below hba)
          have E4 := Lib.hid (E3.out.below hba hebl)
          have HB4 := Lib.hid (HB3.out.trans (hba.mono HB3.out.size))
          clear c3 S3 E3 HB3 hebl hba f1 f2 d0 d1 HC HE hd0
          have c4 : w4.cell? ⟨s, 2, none⟩ = some (.slice (some ⟨g, 0, none⟩) L.length c) := S4.out.blk.cell 2
          have hbw2 : base ≤ w4.heap.size := Nat.le_trans hbw (by have := HB4.out.size; omega)
          by_cases hk1 : k = 0
          · have hk2 : ¬ (0 : Int) < (k : Int) := by omega
            have HJL : Hid (joinL L k fn = false) := Lib.hid (by unfold joinL; rw [decide_eq_false_iff_not]; exact fun h => by omega)
            have HK1 := Lib.hid hk1
            clear hk1
            have d0 : w4.cell? ⟨eb, 0, none⟩ = some (.int .i64 (fn : Int)) := E4.out.cell 0
            have d1 : w4.cell? ⟨eb, 1, none⟩ = some (.int .i64 (m : Int)) := E4.out.cell 1
            have cW : w4.cell? ⟨s, 2, none⟩ = some (.slice (some ⟨g, 0, none⟩) L.length c) := S4.out.blk.cell 2
            have z1 : s < w4.heap.size := S4.out.blk.lt
            have z2 : eb < w4.heap.size := E4.out.lt
            have z3 : ¬ s = w4.heap.size := by omega
            have z4 : ¬ eb = w4.heap.size := by omega
            have HR := Lib.hid (fun W' vb (hb : Below w4.heap.size w4 W') (hv : Blk W' vb 128 #[.int .i64 (fn : Int), .int .i64 (m : Int)]) (hvb : w4.heap.size ≤ vb) =>
              give_rep (W := w4) (X := (fn, m)) (i := k) (j := k) S4.out (by omega) (by omega) ⟨rfl, rfl⟩ hbw2 hb hv hvb hL)
            go_wp2_with fail
            go_region_law ((go_simp; go_at_call 64; refine (HR.out _ _ (((Below.refl _ _).alloc (Nat.le_refl _) _).drew) (Blk.new _ _ _).drew (Nat.le_refl _)).mono ?_; rintro e w10 ⟨a10, k10, c10, rfl, hown10, hc10, hf10⟩; have hB10 := give_blk S4.out hc10; have q10 : w10.cell? ⟨s, 2, none⟩ = some (.slice (some ⟨g, 0, none⟩) L.length c) := hB10.cell 2; have q11 := hB10.frozen 2))
            all_goals
              have HFIN := Lib.hid (give_end (i := k) (j := k) (x := (fn, m)) S4.out HB4.out hown10 hc10 hf10 hB10 HYES.out HK.out hL (by unfold giveX; rw [HJL.out, HJR.out]; rfl) (by rw [HJL.out]; rfl) (by rw [HJR.out]; rfl) (by simp only; omega) (by omega))
              clear hown10 hc10 hf10 hB10 q10 q11 HR
              go_wp2_with fail
              go_ret
              exact HFIN.out
          · obtain ⟨p, rfl⟩ : ∃ p, k = p + 1 := ⟨k - 1, by omega⟩
            have hpl : p < L.length := by omega
            obtain ⟨g1, ha, q1, q2, q3, q4⟩ := S4.out.elem hpl
            injection ha with ha
            injection ha with ha
            subst ha
            have hgp : L.getD p (0, 0) = L[p] := by rw [List.getD_eq_getElem?_getD, List.getElem?_eq_getElem hpl]; rfl
            have hmemp := hin3 _ (List.getElem_mem hpl)
            obtain ⟨⟨u, z⟩, huz⟩ : ∃ q : Ext, L[p] = q := ⟨_, rfl⟩
            rw [huz] at hgp q1 q2 q3 q4 hmemp
            simp only at q1 q2 q3 q4 hmemp
            have HGP := Lib.hid hgp
            have hp0 : (0 : Int) ≤ (p : Int) := by omega
            have hp1 : (p : Int) < (L.length : Int) := by omega
            have hp2 : (0 : Int) < (p : Int) + 1 := by omega
            have hp3 : IntKind.i64.wrap (p : Int) = (p : Int) := by rw [IntKind.wrap_i64]; omega
            clear hk1 huz hgp
            go_wp2_with fail
            refine (end_any (u : Int) (z : Int) w4 ⟨by omega, by omega⟩ ⟨by omega, by omega⟩).mono ?_
            rintro e w5 ⟨rfl, hb5⟩
            have S5 := Lib.hid (S4.out.below hb5)
            have E5 := Lib.hid (E4.out.below hb5 E4.out.lt)
            have HB5 := Lib.hid (HB4.out.trans (hb5.mono HB4.out.size))
            have hbw3 : base ≤ w5.heap.size := Nat.le_trans hbw2 hb5.size
            clear hb5 S4 E4 HB4 c4 q1 q2 hbw2
            have hbw2 := hbw3
            by_cases h5 : u + z = fn
            · have h5b : ((u : Int) + z == (fn : Int)) = true := by rw [beq_iff_eq]; omega
              have HJL : Hid (joinL L (p + 1) fn = true) := Lib.hid (by unfold joinL; rw [Nat.add_sub_cancel, HGP.out, decide_eq_true_eq]; exact ⟨by omega, h5⟩)
              obtain ⟨g2, ha2, r1, r2, -, -⟩ := S5.out.elem hpl
              injection ha2 with ha2
              injection ha2 with ha2
              subst ha2
              have huz : L[p] = (u, z) := by rw [← HGP.out, List.getD_eq_getElem?_getD, List.getElem?_eq_getElem hpl]; rfl
              rw [huz] at r1 r2
              simp only at r1 r2
              clear huz
              have H5 := Lib.hid h5
              have c5 : w5.cell? ⟨s, 2, none⟩ = some (.slice (some ⟨g, 0, none⟩) L.length c) := S5.out.blk.cell 2
              have d5 : w5.cell? ⟨eb, 1, none⟩ = some (.int .i64 ((m : Int))) := E5.out.cell 1
              have d6 := E5.out.frozen 0
              have d7 := E5.out.frozen 1
              have d8 : w5.cell? ⟨eb, 0, none⟩ = some (.int .i64 (fn : Int)) := E5.out.cell 0
              have x5 : IntKind.i64.wrap ((m : Int) + (z : Int)) = (m : Int) + (z : Int) := by rw [IntKind.wrap_i64]; omega
              clear h5
              go_wp2_with fail
              go_still_tail 22, (by kernel_rfl)
              change wpList _ _ _ _ _ w5.drew
              have S6 := Lib.hid (S5.out.below ((Below.refl _ _).drew))
              have E6 := Lib.hid E5.out.drew
              have HB6 := Lib.hid HB5.out.drew
              have z5 : eb < w5.drew.heap.size := E5.out.lt
              clear r1 r2 c5 d5 d6 d7 d8 S5 E5 HB5
              generalize w5.drew = w6 at *
              have d6 := E6.out.frozen 0
              have d7 := E6.out.frozen 1
              have d8 : w6.cell? ⟨eb, 0, none⟩ = some (.int .i64 (fn : Int)) := E6.out.cell 0
              have d5 : w6.cell? ⟨eb, 1, none⟩ = some (.int .i64 ((m : Int))) := E6.out.cell 1
              have hsx := give_store (x1 := (u : Int)) (x2 := (m : Int) + (z : Int)) S6.out E6.out OL.out hes HB6.out hebw
              obtain ⟨s7, e7, b7⟩ := hsx
              have S7 := Lib.hid s7
              have E7 := Lib.hid e7
              have HB7 := Lib.hid b7
              clear s7 e7 b7 S6 E6 HB6
              go_wp2_with fail
              clear d5 d6 d7 d8
              generalize (w6.setCell ⟨eb, 0, none⟩ (.int .i64 (u : Int))).setCell ⟨eb, 1, none⟩ (.int .i64 ((m : Int) + (z : Int))) = w7 at *
              have hbw2 : base ≤ w7.heap.size := Nat.le_trans hbw HB7.out.size
              have d0 : w7.cell? ⟨eb, 0, none⟩ = some (.int .i64 (u : Int)) := E7.out.cell 0
              have d1 : w7.cell? ⟨eb, 1, none⟩ = some (.int .i64 ((m : Int) + (z : Int))) := E7.out.cell 1
              have cW : w7.cell? ⟨s, 2, none⟩ = some (.slice (some ⟨g, 0, none⟩) L.length c) := S7.out.blk.cell 2
              have z1 : s < w7.heap.size := S7.out.blk.lt
              have z2 : eb < w7.heap.size := E7.out.lt
              have z3 : ¬ s = w7.heap.size := by omega
              have z4 : ¬ eb = w7.heap.size := by omega
              have HR := Lib.hid (fun W' vb (hb : Below w7.heap.size w7 W') (hv : Blk W' vb 128 #[.int .i64 (u : Int), .int .i64 ((m : Int) + (z : Int))]) (hvb : w7.heap.size ≤ vb) =>
                give_rep (W := w7) (X := (u, m + z)) (i := p) (j := (p + 1)) S7.out (by omega) (by omega) ⟨rfl, rfl⟩ hbw2 hb hv hvb hL)
              go_wp2_with fail
              go_region_law ((go_simp; go_at_call 64; refine (HR.out _ _ (((Below.refl _ _).alloc (Nat.le_refl _) _).drew) (Blk.new _ _ _).drew (Nat.le_refl _)).mono ?_; rintro e w10 ⟨a10, k10, c10, rfl, hown10, hc10, hf10⟩; have hB10 := give_blk S7.out hc10; have q10 : w10.cell? ⟨s, 2, none⟩ = some (.slice (some ⟨g, 0, none⟩) L.length c) := hB10.cell 2; have q11 := hB10.frozen 2))
              all_goals
                have HFIN := Lib.hid (give_end (i := p) (j := (p + 1)) (x := (u, m + z)) S7.out HB7.out hown10 hc10 hf10 hB10 HYES.out HK.out hL (by unfold giveX; rw [HJL.out, HJR.out, Nat.add_sub_cancel, HGP.out]; rfl) (by rw [HJL.out]; rfl) (by rw [HJR.out]; rfl) (by simp only; omega) (by omega))
                clear hown10 hc10 hf10 hB10 q10 q11 HR
                go_wp2_with fail
                go_ret
                exact HFIN.out
            · have h5b : ((u : Int) + z == (fn : Int)) = false := by rw [beq_eq_false_iff_ne]; omega
              have HJL : Hid (joinL L (p + 1) fn = false) := Lib.hid (by unfold joinL; rw [Nat.add_sub_cancel, HGP.out, decide_eq_false_iff_not]; exact fun h => h5 h.2)
              have d0 : w5.cell? ⟨eb, 0, none⟩ = some (.int .i64 (fn : Int)) := E5.out.cell 0
              have d1 : w5.cell? ⟨eb, 1, none⟩ = some (.int .i64 (m : Int)) := E5.out.cell 1
              have cW : w5.cell? ⟨s, 2, none⟩ = some (.slice (some ⟨g, 0, none⟩) L.length c) := S5.out.blk.cell 2
              have z1 : s < w5.heap.size := S5.out.blk.lt
              have z2 : eb < w5.heap.size := E5.out.lt
              have z3 : ¬ s = w5.heap.size := by omega
              have z4 : ¬ eb = w5.heap.size := by omega
              have HR := Lib.hid (fun W' vb (hb : Below w5.heap.size w5 W') (hv : Blk W' vb 128 #[.int .i64 (fn : Int), .int .i64 (m : Int)]) (hvb : w5.heap.size ≤ vb) =>
                give_rep (W := w5) (X := (fn, m)) (i := (p + 1)) (j := (p + 1)) S5.out (by omega) (by omega) ⟨rfl, rfl⟩ hbw2 hb hv hvb hL)
              go_wp2_with fail
              go_region_law ((go_simp; go_at_call 64; refine (HR.out _ _ (((Below.refl _ _).alloc (Nat.le_refl _) _).drew) (Blk.new _ _ _).drew (Nat.le_refl _)).mono ?_; rintro e w10 ⟨a10, k10, c10, rfl, hown10, hc10, hf10⟩; have hB10 := give_blk S5.out hc10; have q10 : w10.cell? ⟨s, 2, none⟩ = some (.slice (some ⟨g, 0, none⟩) L.length c) := hB10.cell 2; have q11 := hB10.frozen 2))
              all_goals
                have HFIN := Lib.hid (give_end (i := (p + 1)) (j := (p + 1)) (x := (fn, m)) S5.out HB5.out hown10 hc10 hf10 hB10 HYES.out HK.out hL (by unfold giveX; rw [HJL.out, HJR.out]; rfl) (by rw [HJL.out]; rfl) (by rw [HJR.out]; rfl) (by simp only; omega) (by omega))
                clear hown10 hc10 hf10 hB10 q10 q11 HR
                go_wp2_with fail
                go_ret
                exact HFIN.out

end Go.Proofs.Ytmmkncocgjgapaa.Sp

/- The walks of New, Extents and Take. -/
namespace Go.Proofs.Ytmmkncocgjgapaa.Sp
open Go.RowKit

def OkNew (first blocks : Int) : Bool := decide (0 ≤ first ∧ first ≤ 1000000 ∧ 0 ≤ blocks ∧ blocks ≤ 1000000)
def wholeL (F B : Nat) : List Ext := if B = 0 then [] else [(F, B)]
def NewTold (F B : Nat) (w : World) (e : Ending) (w' : World) : Prop := ∃ s v, e = .returned (.pointer (some ⟨s, 0, none⟩)) ∧ w.heap.size ≤ s ∧ SpAt w' s F B v (wholeL F B) w.heap.size ∧ Below w.heap.size w w'

set_option maxRecDepth 100000 in
set_option maxHeartbeats 1000000 in
theorem new_no (first blocks : Int) (w : World) (h : OkNew first blocks = false) :
    Calls Try.prog 40 #[.int .i64 first, .int .i64 blocks] w fun e w' => e = .returned (.pointer none) ∧ w = w' := by
  unfold OkNew at h
  rw [decide_eq_false_iff_not] at h
  by_cases h1 : first < 0
  all_goals (by_cases h2 : 1000000 < first)
  all_goals (by_cases h3 : blocks < 0)
  all_goals (by_cases h4 : 1000000 < blocks)
  all_goals first | (exfalso; omega) | skip
  all_goals
    clear h
    go_enter Try.func40, Try.ntmps40
    go_wp2_with fail
    go_ret
    exact ⟨rfl, rfl⟩

set_option maxRecDepth 100000 in
set_option maxHeartbeats 1000000 in
theorem new_ok (F B : Nat) (w : World) (hF : F ≤ 1000000) (hB : B ≤ 1000000) :
    Calls Try.prog 40 #[.int .i64 (F : Int), .int .i64 (B : Int)] w (NewTold F B w) := by
  have h1 : ¬ ((F : Int) < 0) := by omega
  have h2 : ¬ ((1000000 : Int) < F) := by omega
  have h3 : ¬ ((B : Int) < 0) := by omega
  have h4 : ¬ ((1000000 : Int) < B) := by omega
  by_cases h0 : B = 0
  · have h5 : ¬ ((0 : Int) < B) := by omega
    have HB0 := Lib.hid h0
    have hw : wholeL F B = [] := by unfold wholeL; rw [if_pos h0]
    have HW := Lib.hid hw
    have HFIN : Hid (NewTold F B w (.returned (.pointer (some ⟨w.heap.size, 0, none⟩))) (w.alloc (.cells #[.int .i64 (F : Int), .int .i64 (B : Int), .slice none 0 0] 130))) := Lib.hid (by
      refine ⟨w.heap.size, .slice none 0 0, rfl, Nat.le_refl _, ?_, (Below.refl _ _).alloc (Nat.le_refl _) _⟩
      rw [hw]
      exact ⟨Blk.new _ _ _, World.ownsRow_nil _ _ _ _, hF, hB, by simp, fun e he => by cases he⟩)
    clear h0 hw
    go_enter Try.func40, Try.ntmps40
    go_wp2_with fail
    go_ret
    exact HFIN.out
  · have h5 : (0 : Int) < B := by omega
    have hw : wholeL F B = [(F, B)] := by unfold wholeL; rw [if_neg h0]
    have HW := Lib.hid hw
    have hsz : (w.alloc (.cells #[.int .i64 (F : Int), .int .i64 (B : Int), .slice (some ⟨w.heap.size + 1, 0, none⟩) 1 1] 130)).heap.size = w.heap.size + 1 := by simp
    have HFIN : Hid (NewTold F B w (.returned (.pointer (some ⟨w.heap.size, 0, none⟩))) ((w.alloc (.cells #[.int .i64 (F : Int), .int .i64 (B : Int), .slice (some ⟨w.heap.size + 1, 0, none⟩) 1 1] 130)).alloc (.cells #[.int .i64 (F : Int), .int .i64 (B : Int)] 128))) := Lib.hid (by
      refine ⟨w.heap.size, .slice (some ⟨w.heap.size + 1, 0, none⟩) 1 1, rfl, Nat.le_refl _, ?_, ((Below.refl _ _).alloc (Nat.le_refl _) _).alloc (by simp) _⟩
      rw [hw]
      have hx := Blk.new (w.alloc (.cells #[.int .i64 (F : Int), .int .i64 (B : Int), .slice (some ⟨w.heap.size + 1, 0, none⟩) 1 1] 130)) 128 #[.int .i64 (F : Int), .int .i64 (B : Int)]
      rw [hsz] at hx
      have hX : XBlk ((w.alloc (.cells #[.int .i64 (F : Int), .int .i64 (B : Int), .slice (some ⟨w.heap.size + 1, 0, none⟩) 1 1] 130)).alloc (.cells #[.int .i64 (F : Int), .int .i64 (B : Int)] 128)) (w.heap.size + 1) 1 [(F, B)] [] := ⟨hx, rfl, by decide⟩
      exact ⟨(Blk.new _ _ _).alloc _, hX.own (by omega), hF, hB, by simp, fun e he => by
        rcases List.mem_singleton.1 he with rfl
        simp only
        omega⟩)
    clear hw h0 hsz
    go_enter Try.func40, Try.ntmps40
    go_wp2_with fail
    go_ret
    exact HFIN.out

/-- Extents: a copy of the row. -/
def ExtTold (L : List Ext) (w : World) (e : Ending) (w' : World) : Prop := ∃ a n c, e = .returned (.slice a n c) ∧ w'.ownsRow w.heap.size 128 2 (.slice a n c) n (flatX L) ∧ Below w.heap.size w w'

@[go_sem] theorem nil_ext (w : World) (a : Option Addr) (n c : Nat) : (binOp .eql 125 (.slice a n c) (.slice none 0 0)).run Try.prog w = .ok (.bool a.isNone) w :=
  Lib.run_eql_slice_nil (P := Try.prog) w 125 128 a n c 0 0 Try.underlying125

set_option maxRecDepth 100000 in
set_option maxHeartbeats 400000 in
theorem clone_ext (a : Option Addr) (n c : Nat) (L : List Ext) (base : Nat) (w : World) (h : w.ownsRow base 128 2 (.slice a n c) n (flatX L)) (hL : L.length ≤ 1000000) :
    Calls Try.prog 65 #[.slice a n c] w (ExtTold L w) := by
  obtain ⟨hn, hv⟩ := XBlk.of_own h
  rcases hv with ⟨hv, rfl⟩ | ⟨g, cap, rest, hv, hbg, hgl, hX⟩
  · injection hv with h1 h2 h3
    subst h1
    subst h2
    subst h3
    clear h hn
    go_enter Try.func65, Try.ntmps65
    go_wp2_with fail
    go_ret
    exact ⟨none, 0, 0, rfl, World.ownsRow_nil _ _ _ _, Below.refl _ _⟩
  · injection hv with h1 h2 h3
    subst h1
    subst h3
    have hr := hX.row 0 L.length (Nat.le_refl _)
    rw [List.take_length, List.drop_zero, Nat.zero_mul] at hr
    have hr2 := hr.below ((Below.refl _ _).alloc (Nat.le_refl _) (.cells #[] 128))
    have HR := Lib.hid hr2
    have hfl : (flatX L).length = n * 2 := by rw [flatX_length, hn]
    have HF := Lib.hid hfl
    clear h hX hr hr2 hfl
    go_enter Try.func65, Try.ntmps65
    go_wp2_with (at_builtin; go_must (refine wpList_append rfl (.tmp 5) (.tmp 6) _ rfl el_ext w.heap.size _ 0 [] rfl (World.ownsRow_made w #[] 0 (Nat.le_refl _) (by decide) rfl) _ n c (flatX L) rfl HF.out HR.out (flatX_one _) (by unfold maxLen; omega) (by omega) (by simp) ?_))
    intro v w1 hown _ _ hb
    have hown' : w1.ownsRow w.heap.size 128 2 v n (flatX L) := by simpa using hown
    obtain ⟨h1, h2⟩ := XBlk.of_own hown'
    obtain ⟨a2, c2, rfl⟩ : ∃ a2 c2, v = .slice a2 n c2 := by
      rcases h2 with ⟨rfl, h⟩ | ⟨g', cap', rest', rfl, _⟩
      · subst h; simp at h1; subst h1; exact ⟨_, _, rfl⟩
      · exact ⟨_, _, rfl⟩
    have HO := Lib.hid hown'
    have HB := Lib.hid (((Below.refl w.heap.size w).alloc (Nat.le_refl _) _).trans hb)
    clear hown hown' hb h1 h2 hn
    go_wp2_with fail
    go_ret
    exact ⟨a2, n, c2, rfl, HO.out, HB.out⟩

set_option maxRecDepth 100000 in
set_option maxHeartbeats 400000 in
theorem extents_any (s F B : Nat) (v : Value) (L : List Ext) (base : Nat) (w : World) (h : SpAt w s F B v L base) :
    Calls Try.prog 55 #[.pointer (some ⟨s, 0, none⟩)] w (ExtTold L w) := by
  obtain ⟨a, c, rfl, _, _⟩ := h.slice
  have c2 : w.cell? ⟨s, 2, none⟩ = some (.slice a L.length c) := h.blk.cell 2
  have HC := Lib.hid (clone_ext a L.length c L base w h.own h.L_le)
  clear h
  go_enter Try.func55, Try.ntmps55
  go_wp2_with fail
  refine HC.out.mono ?_
  rintro e w1 ⟨a1, n1, c1, rfl, hown, hb⟩
  have HO := Lib.hid hown
  have HB := Lib.hid hb
  clear hown hb
  go_wp2_with fail
  go_ret
  exact ⟨a1, n1, c1, rfl, HO.out, HB.out⟩

/-- How many blocks are free. -/
def sumX (L : List Ext) : Nat := (L.map (·.2)).sum
theorem sumX_take (L : List Ext) (k : Nat) (h : k < L.length) : sumX (L.take (k + 1)) = sumX (L.take k) + L[k].2 := by
  unfold sumX
  rw [List.take_succ_eq_append_getElem h, List.map_append, List.sum_append]
  simp
def FreeLoop (L : List Ext) (base : Nat) (w : World) (a : Option Addr) (n c : Nat) (nv iv : Value) (wr : World) : Prop :=
  ∃ k : Nat, iv = .int .i64 (k : Int) ∧ k ≤ L.length ∧ nv = .int .i64 (sumX (L.take k) : Int) ∧ wr.ownsRow base 128 2 (.slice a n c) n (flatX L) ∧ Below base w wr
def FreeTold (L : List Ext) (w : World) (e : Ending) (w' : World) : Prop := e = .returned (.int .i64 (sumX L : Int)) ∧ Below w.heap.size w w'

set_option maxRecDepth 100000 in
set_option maxHeartbeats 1000000 in
theorem free_any (s F B : Nat) (v : Value) (L : List Ext) (base : Nat) (w : World) (h : SpAt w s F B v L base) (hsum : sumX L ≤ 4000000000) :
    Calls Try.prog 34 #[.pointer (some ⟨s, 0, none⟩)] w (FreeTold L w) := by
  have HE := Lib.hid (extents_any s F B v L base w h)
  have hLL := h.L_le
  have HIN := Lib.hid h.in_
  clear h
  go_enter Try.func34, Try.ntmps34
  go_wp2_with fail
  refine HE.out.mono ?_
  rintro e w1 ⟨a1, n1, c1, rfl, hown, hb⟩
  obtain ⟨hn, -⟩ := XBlk.of_own hown
  subst hn
  have HO := Lib.hid hown
  have HB := Lib.hid hb
  clear hown hb HE
  go_wp2_with fail
  go_loopw [3, 9] (fun nv iv wr => FreeLoop L w.heap.size w a1 L.length c1 nv iv wr) (fun _ iv _ => L.length - (intOf iv).toNat)
  case atStart => exact ⟨0, rfl, by omega, rfl, HO.out, HB.out⟩
  case round =>
    clear HO HB
    obtain ⟨k, rfl, hk, rfl, hown, hb⟩ := hrel
    by_cases hlt : (k : Int) < L.length
    · have hkl : k < L.length := by omega
      obtain ⟨_, hv⟩ := XBlk.of_own hown
      rcases hv with ⟨_, h0⟩ | ⟨g, cap, rest, hv, hbg, hgl, hX⟩
      · subst h0; simp at hkl
      injection hv with h1 h2 h3
      subst h1
      subst h3
      obtain ⟨e1, e2⟩ := flatX_get L k hkl
      have hl : k * 2 + 1 < (flatX L).length := by rw [flatX_length]; omega
      have q1 : wr.cell? ⟨g, k * 2, none⟩ = some (.int .i64 (L[k].1 : Int)) := by rw [hX.blk.cell, List.getElem?_toArray, List.getElem?_append_left (by omega), e1]
      have q2 : wr.cell? ⟨g, k * 2 + 1, none⟩ = some (.int .i64 (L[k].2 : Int)) := by rw [hX.blk.cell, List.getElem?_toArray, List.getElem?_append_left (by omega), e2]
      have hs := sumX_take L k hkl
      have hs2 : sumX (L.take (k + 1)) ≤ sumX L := by
        conv => rhs; rw [← List.take_append_drop (k + 1) L]
        unfold sumX
        rw [List.map_append, List.sum_append]
        omega
      generalize L[k].1 = x at *
      generalize L[k].2 = y at *
      have hkk : (0 : Int) ≤ (k : Int) := by omega
      have t1 : IntKind.i64.wrap ((sumX (L.take k) : Int) + (y : Int)) = (sumX (L.take k) : Int) + (y : Int) := by rw [IntKind.wrap_i64]; omega
      have HO2 := Lib.hid (own_chg hown (Chg.of_below' (S := fun _ => False) ((Below.refl wr.heap.size wr).alloc (Nat.le_refl _) (.cells #[.int .i64 (x : Int), .int .i64 (y : Int)] 128))) (fun _ _ h => h))
      have HB2 := Lib.hid (hb.alloc hb.size (.cells #[.int .i64 (x : Int), .int .i64 (y : Int)] 128))
      have HS := Lib.hid hs
      have hsz : sumX (L.take k) ≤ 4000000000 := by omega
      have hy : y ≤ 4000000000 := by omega
      clear hown hb hX e1 e2 hs hs2 hl
      generalize sumX (L.take k) = S at *
      go_wp2_with fail
      go_roundw
      case rel => exact ⟨k + 1, by go_num, by omega, by rw [HS.out]; go_num, HO2.out, HB2.out⟩
      case measure => simp [intOf]; omega
    · obtain rfl : k = L.length := by omega
      rw [List.take_length]
      have HB2 := Lib.hid hb
      clear hb hown
      go_wp2_with fail
      go_ret
      exact ⟨rfl, HB2.out⟩

end Go.Proofs.Ytmmkncocgjgapaa.Sp

/- The walk of Take. -/
namespace Go.Proofs.Ytmmkncocgjgapaa.Sp
open Go.RowKit

def TakeRel (L : List Ext) (F B : Nat) (n : Int) (r er : Int) (L' : List Ext) : Prop :=
  (n < 1 ∧ r = 0 ∧ er = 1 ∧ L' = L) ∨ (1 ≤ n ∧ (∀ e ∈ L, (e.2 : Int) < n) ∧ r = 0 ∧ er = 5 ∧ L' = L) ∨
    (1 ≤ n ∧ ∃ k, ∃ hk : k < L.length, (∀ j (hj : j < k), (L[j].2 : Int) < n) ∧ n ≤ (L[k].2 : Int) ∧ r = (L[k].1 : Int) ∧ HoldRel L F B (L[k].1 : Int) n er L')
def TakeTold (w : World) (s F B : Nat) (v : Value) (base : Nat) (R : Int → Int → List Ext → Prop) (e : Ending) (w' : World) : Prop :=
  ∃ r er v' L', e = .returned (.tuple #[.int .i64 r, .int .i64 er]) ∧ R r er L' ∧ SpAt w' s F B v' L' base ∧ Chg (fun k => k = s ∨ some k = v.ownBlock) w w' ∧ (v'.ownBlock = v.ownBlock ∨ ∃ q, v'.ownBlock = some q ∧ w.heap.size ≤ q)
theorem take_keep {w2 w3 : World} {s eb : Nat} {v : Value} {cs : Array Value} (hE : Blk w2 eb 128 cs) (hc : Chg (fun k => k = s ∨ some k = v.ownBlock) w2.drew w3) (hs : s < eb) (ho : ∀ q, v.ownBlock = some q → q < eb) : w3.cell? ⟨eb, 0, none⟩ = cs[0]? :=
  (hE.drew.chg hc (fun e => by
    rcases e with e | e
    · omega
    · have := ho _ e.symm
      omega)).cell 0
def TakeLoop (L : List Ext) (n : Int) (w : World) (kv : Value) (wr : World) : Prop :=
  ∃ k : Nat, kv = .int .i64 (k : Int) ∧ k ≤ L.length ∧ (∀ j (hj : j < L.length), j < k → (L[j].2 : Int) < n) ∧ Below w.heap.size w wr

set_option maxRecDepth 100000 in
set_option maxHeartbeats 2000000 in
theorem take_any (s F B : Nat) (v : Value) (L : List Ext) (base : Nat) (n : Int) (w : World) (h : SpAt w s F B v L base) (hA : Asc L) (hL : L.length + 1 ≤ 1000000) (hbw : base ≤ w.heap.size) :
    Calls Try.prog 49 #[.pointer (some ⟨s, 0, none⟩), .int .i64 n] w (TakeTold w s F B v base (TakeRel L F B n)) := by
  obtain ⟨a, c, rfl, hc1, hc2⟩ := h.slice
  have c2 : w.cell? ⟨s, 2, none⟩ = some (.slice a L.length c) := h.blk.cell 2
  have HS := Lib.hid h
  have HA := Lib.hid hA
  clear h hA
  by_cases h1 : n < 1
  · go_enter Try.func49, Try.ntmps49
    go_wp2_with fail
    go_ret2
    exact ⟨0, 1, _, L, rfl, .inl ⟨h1, rfl, rfl, rfl⟩, HS.out, Chg.refl _ _, .inl rfl⟩
  · go_enter Try.func49, Try.ntmps49
    go_wp2_with fail
    go_loopw [17] (fun kv wr => TakeLoop L n w kv wr) (fun kv _ => L.length - (intOf kv).toNat)
    case atStart => exact ⟨0, rfl, by omega, fun j _ hj => absurd hj (by omega), Below.refl _ _⟩
    case round =>
      obtain ⟨k, rfl, hk, hlow, hb⟩ := hrel
      clear c2
      have S1 := Lib.hid (HS.out.below hb)
      have HLOW := Lib.hid hlow
      have HB := Lib.hid hb
      clear hlow hb
      by_cases hlt : (k : Int) < L.length
      · have hkl : k < L.length := by omega
        have hkk : (0 : Int) ≤ (k : Int) := by omega
        obtain ⟨g, rfl, f1, f2, f3, f4⟩ := S1.out.elem hkl
        have hx1 : ∃ x, x = L[k].1 := ⟨_, rfl⟩
        have hy1 : ∃ y, y = L[k].2 := ⟨_, rfl⟩
        obtain ⟨x, hx⟩ := hx1
        obtain ⟨y, hy⟩ := hy1
        rw [← hx] at f1 f3
        rw [← hy] at f2 f4
        have bE := (Below.refl wr.heap.size wr).alloc (Nat.le_refl _) (.cells #[.int .i64 (x : Int), .int .i64 (y : Int)] 128)
        have E2 := Lib.hid (Blk.new wr 128 #[.int .i64 (x : Int), .int .i64 (y : Int)])
        have S2 := Lib.hid (S1.out.below bE)
        have HB2 := Lib.hid (HB.out.trans (bE.mono HB.out.size))
        have HX := Lib.hid hx
        have HY := Lib.hid hy
        have hsw : s < wr.heap.size := S1.out.blk.lt
        have hol : ∀ q, (Value.slice (some ⟨g, 0, none⟩) L.length c).ownBlock = some q → q < wr.heap.size := fun q hq => (S1.out.own.lt q hq).2
        have HOL := Lib.hid hol
        clear bE hx hy hol
        by_cases h2 : n ≤ (y : Int)
        · go_wp2_with fail
          generalize hw2 : wr.alloc (.cells #[.int .i64 (x : Int), .int .i64 (y : Int)] 128) = w2 at *
          generalize heb : wr.heap.size = eb at *
          clear hw2 f1 f2 S1
          have d0 : w2.cell? ⟨eb, 0, none⟩ = some (.int .i64 (x : Int)) := E2.out.cell 0
          have hH := hold_any s F B (.slice (some ⟨g, 0, none⟩) L.length c) L base (x : Int) n w2.drew (S2.out.below ((Below.refl _ _).drew)) HA.out hL (Nat.le_trans hbw HB2.out.size)
          have HH := Lib.hid hH
          have KEEP := Lib.hid (fun w3 (hc : Chg (fun k => k = s ∨ some k = (Value.slice (some ⟨g, 0, none⟩) L.length c).ownBlock) w2.drew w3) => (take_keep E2.out hc (by omega) HOL.out : w3.cell? ⟨eb, 0, none⟩ = some (.int .i64 (x : Int))))
          clear hH heb
          go_region_held3 (fun w' => w'.cell? ⟨eb, 0, none⟩ = some (.int .i64 (x : Int)))
            (assumption)
            ((go_at_call 58; refine HH.out.mono ?_; rintro e w3 ⟨er, v3, L3, rfl, hrel3, hs3, hc3, hf3⟩; have d3 := KEEP.out _ hc3))
          have HFIN : Hid (TakeTold w s F B (.slice (some ⟨g, 0, none⟩) L.length c) base (TakeRel L F B n) (.returned (.tuple #[.int .i64 (x : Int), .int .i64 er])) w3) := Lib.hid
            ⟨(x : Int), er, v3, L3, rfl, .inr (.inr ⟨by omega, k, hkl, fun j hj => HLOW.out j (by omega) hj, by rw [← HY.out]; exact h2, by rw [HX.out], by rw [← HX.out]; exact hrel3⟩), hs3, (Chg.of_below' HB2.out).drew.trans hc3 (fun _ _ e => e), hf3.elim .inl (fun ⟨q, e1, e2⟩ => .inr ⟨q, e1, Nat.le_trans HB2.out.size e2⟩)⟩
          clear hrel3 hs3 hc3 hf3 HH KEEP d0 d3
          go_wp2_with fail
          go_ret2
          exact HFIN.out
        · have HNEXT : Hid (∀ j (hj : j < L.length), j < k + 1 → (L[j].2 : Int) < n) := Lib.hid (fun j hj hjk => by
            rcases Nat.lt_succ_iff_lt_or_eq.1 hjk with h | h
            · exact HLOW.out j hj h
            · subst h; rw [← HY.out]; omega)
          go_wp2_with fail
          go_roundw
          case rel => exact ⟨k + 1, by go_num, by omega, HNEXT.out, HB2.out⟩
          case measure => simp [intOf]; omega
      · obtain rfl : k = L.length := by omega
        have HALL : Hid (∀ e ∈ L, (e.2 : Int) < n) := Lib.hid (fun e he => by
          obtain ⟨j, hj, rfl⟩ := List.getElem_of_mem he
          exact HLOW.out j hj hj)
        go_wp2_with fail
        go_ret2
        exact ⟨0, 5, _, L, rfl, .inr (.inl ⟨by omega, HALL.out, rfl, rfl, rfl⟩), S1.out, Chg.of_below' HB.out, .inl rfl⟩

end Go.Proofs.Ytmmkncocgjgapaa.Sp

/- What the acts on a space do to the set of free blocks, plainly. -/
namespace Go.Proofs.Ytmmkncocgjgapaa.Sp

structure Inv (F B : Nat) (L : List Ext) : Prop where
  apart : L.Pairwise fun x y => x.1 + x.2 < y.1
  ok : ∀ e ∈ L, 1 ≤ e.2 ∧ F ≤ e.1 ∧ e.1 + e.2 ≤ F + B
def In (e : Ext) (b : Nat) : Prop := e.1 ≤ b ∧ b < e.1 + e.2
def Fr (L : List Ext) (b : Nat) : Prop := ∃ e ∈ L, In e b
theorem Inv.asc {F B : Nat} {L : List Ext} (h : Inv F B L) : Asc L := List.Pairwise.imp (fun {x y} hxy => by omega) h.apart
theorem Fr_nil (b : Nat) : ¬ Fr [] b := fun ⟨e, he, _⟩ => by cases he
theorem Fr_cons (e : Ext) (L : List Ext) (b : Nat) : Fr (e :: L) b ↔ In e b ∨ Fr L b := by
  constructor
  · rintro ⟨x, hx, hb⟩
    rcases List.mem_cons.1 hx with rfl | hx
    · exact .inl hb
    · exact .inr ⟨x, hx, hb⟩
  · rintro (h | ⟨x, hx, hb⟩)
    · exact ⟨e, List.mem_cons_self .., h⟩
    · exact ⟨x, List.mem_cons_of_mem _ hx, hb⟩
theorem Fr_append (L M : List Ext) (b : Nat) : Fr (L ++ M) b ↔ Fr L b ∨ Fr M b := by
  constructor
  · rintro ⟨x, hx, hb⟩
    rcases List.mem_append.1 hx with hx | hx
    · exact .inl ⟨x, hx, hb⟩
    · exact .inr ⟨x, hx, hb⟩
  · rintro (⟨x, hx, hb⟩ | ⟨x, hx, hb⟩)
    · exact ⟨x, List.mem_append_left _ hx, hb⟩
    · exact ⟨x, List.mem_append_right _ hx, hb⟩

theorem inv_len : ∀ (L : List Ext) (lo hi : Nat), (L.Pairwise fun x y => x.1 + x.2 < y.1) → (∀ e ∈ L, 1 ≤ e.2 ∧ lo ≤ e.1 ∧ e.1 + e.2 ≤ hi) → L.length ≤ hi - lo ∧ sumX L ≤ hi - lo := by
  intro L
  induction L with
  | nil => intro lo hi _ _; simp [sumX]
  | cons e L ih =>
    intro lo hi hp ho
    obtain ⟨h1, h2⟩ := List.pairwise_cons.1 hp
    have he := ho e (List.mem_cons_self ..)
    have h3 := ih (e.1 + e.2) hi h2 (fun x hx => by
      have := h1 x hx
      have := ho x (List.mem_cons_of_mem _ hx)
      omega)
    have hs : sumX (e :: L) = e.2 + sumX L := by simp [sumX]
    rw [hs, List.length_cons]
    omega
theorem Inv.len {F B : Nat} {L : List Ext} (h : Inv F B L) : L.length ≤ B ∧ sumX L ≤ B := by
  have := inv_len L F (F + B) h.apart h.ok
  omega

/-- Lists that are in order and apart, with the same blocks, are the same. -/
theorem inv_unique : ∀ (L M : List Ext), (L.Pairwise fun x y => x.1 + x.2 < y.1) → (M.Pairwise fun x y => x.1 + x.2 < y.1) → (∀ e ∈ L, 1 ≤ e.2) → (∀ e ∈ M, 1 ≤ e.2) → (∀ b, Fr L b ↔ Fr M b) → L = M := by
  intro L
  induction L with
  | nil =>
    intro M _ _ _ hM h
    cases M with
    | nil => rfl
    | cons e M =>
      have he := hM e (List.mem_cons_self ..)
      exact absurd ((h e.1).2 ⟨e, List.mem_cons_self .., by unfold In; omega⟩) (Fr_nil _)
  | cons e L ih =>
    intro M hLp hMp hL hM h
    cases M with
    | nil =>
      have he := hL e (List.mem_cons_self ..)
      exact absurd ((h e.1).1 ⟨e, List.mem_cons_self .., by unfold In; omega⟩) (Fr_nil _)
    | cons f M =>
      obtain ⟨l1, l2⟩ := List.pairwise_cons.1 hLp
      obtain ⟨m1, m2⟩ := List.pairwise_cons.1 hMp
      have he := hL e (List.mem_cons_self ..)
      have hf := hM f (List.mem_cons_self ..)
      have lowL : ∀ b, Fr L b → e.1 + e.2 < b := fun b ⟨x, hx, hb⟩ => by have := l1 x hx; unfold In at hb; omega
      have lowM : ∀ b, Fr M b → f.1 + f.2 < b := fun b ⟨x, hx, hb⟩ => by have := m1 x hx; unfold In at hb; omega
      have q1 : In f e.1 ∨ Fr M e.1 := (Fr_cons _ _ _).1 ((h e.1).1 ((Fr_cons _ _ _).2 (.inl (by unfold In; omega))))
      have q2 : In e f.1 ∨ Fr L f.1 := (Fr_cons _ _ _).1 ((h f.1).2 ((Fr_cons _ _ _).2 (.inl (by unfold In; omega))))
      have hfst : e.1 = f.1 := by
        rcases q1 with q1 | q1 <;> rcases q2 with q2 | q2
        · unfold In at q1 q2; omega
        · have := lowL _ q2; unfold In at q1; omega
        · have := lowM _ q1; unfold In at q2; omega
        · have := lowL _ q2; have := lowM _ q1; omega
      have hsnd : e.2 = f.2 := by
        rcases Nat.lt_trichotomy e.2 f.2 with hlt | heq | hlt
        · have h3 : Fr (e :: L) (e.1 + e.2) := (h _).2 ((Fr_cons _ _ _).2 (.inl (by unfold In; omega)))
          rcases (Fr_cons _ _ _).1 h3 with h4 | h4
          · unfold In at h4; omega
          · have := lowL _ h4; omega
        · exact heq
        · have h3 : Fr (f :: M) (f.1 + f.2) := (h _).1 ((Fr_cons _ _ _).2 (.inl (by unfold In; omega)))
          rcases (Fr_cons _ _ _).1 h3 with h4 | h4
          · unfold In at h4; omega
          · have := lowM _ h4; omega
      have hef : e = f := Prod.ext hfst hsnd
      subst hef
      congr 1
      refine ih M l2 m2 (fun x hx => hL x (List.mem_cons_of_mem _ hx)) (fun x hx => hM x (List.mem_cons_of_mem _ hx)) (fun b => ?_)
      constructor
      · intro hb
        rcases (Fr_cons _ _ _).1 ((h b).1 ((Fr_cons _ _ _).2 (.inr hb))) with h4 | h4
        · have := lowL _ hb; unfold In at h4; omega
        · exact h4
      · intro hb
        rcases (Fr_cons _ _ _).1 ((h b).2 ((Fr_cons _ _ _).2 (.inr hb))) with h4 | h4
        · have := lowM _ hb; unfold In at h4; omega
        · exact h4

/-! The place behind a block -/
theorem getD_at {L : List Ext} {i : Nat} (h : i < L.length) : L.getD i (0, 0) = L[i] := by rw [List.getD_eq_getElem?_getD, List.getElem?_eq_getElem h]; rfl
theorem ends_iff {L : List Ext} {b i : Nat} (h : i < L.length) : endsB L (b : Int) i = true ↔ b < L[i].1 + L[i].2 := by
  unfold endsB
  rw [getD_at h, decide_eq_true_eq]
  omega
theorem ft_before {L : List Ext} {b k : Nat} (h : FirstTrue (endsB L (b : Int)) L.length k) {i : Nat} (hi : i < k) (hl : i < L.length) : L[i].1 + L[i].2 ≤ b := by
  have h1 := h.2.1 i hi
  have h2 := (ends_iff (b := b) hl)
  rw [h1] at h2
  simp at h2
  exact h2
theorem ft_behind {L : List Ext} {b k : Nat} (h : FirstTrue (endsB L (b : Int)) L.length k) {i : Nat} (hi : k ≤ i) (hl : i < L.length) : b < L[i].1 + L[i].2 := (ends_iff hl).1 (h.2.2 i hi hl)
theorem ft_ex {L : List Ext} (hA : Asc L) (b : Int) : ∃ k, FirstTrue (endsB L b) L.length k := by
  have key : ∀ n, n ≤ L.length → ∃ k, FirstTrue (endsB L b) n k := by
    intro n
    induction n with
    | zero => intro _; exact ⟨0, Nat.le_refl _, fun k hk => by omega, fun k _ hk => by omega⟩
    | succ n ih =>
      intro hn
      obtain ⟨k, h1, h2, h3⟩ := ih (by omega)
      by_cases hk : k < n
      · refine ⟨k, by omega, h2, fun j hj hjn => ?_⟩
        by_cases hjj : j < n
        · exact h3 j hj hjj
        · exact endsB_mono hA b k j hj (by omega) (h3 k (Nat.le_refl _) hk)
      · obtain rfl : k = n := by omega
        cases he : endsB L b k
        · refine ⟨k + 1, Nat.le_refl _, fun j hj => ?_, fun j hj hjn => by omega⟩
          rcases Nat.lt_succ_iff_lt_or_eq.1 hj with h | rfl
          · exact h2 j h
          · exact he
        · refine ⟨k, by omega, h2, fun j hj hjn => ?_⟩
          obtain rfl : j = k := by omega
          exact he
  exact key _ (Nat.le_refl _)

theorem split_at {L : List Ext} {k : Nat} (h : k < L.length) : L = L.take k ++ L[k] :: L.drop (k + 1) := by rw [List.getElem_cons_drop, List.take_append_drop]

/-! Hold -/
theorem hold_yes {F B : Nat} {L : List Ext} (hI : Inv F B L) {fn m k : Nat} (hm : 1 ≤ m) (hin : insideB F B fn m = true) (hk : FirstTrue (endsB L (fn : Int)) L.length k) : HoldYes L F B fn m k ↔ ∀ b, fn ≤ b → b < fn + m → Fr L b := by
  constructor
  · rintro ⟨_, h1, h2, h3⟩ b hb1 hb2
    rw [getD_at h1] at h2 h3
    exact ⟨L[k], List.getElem_mem h1, by unfold In; omega⟩
  · intro h
    obtain ⟨e, he, hb⟩ := h fn (Nat.le_refl _) (by omega)
    obtain ⟨j, hj, rfl⟩ := List.getElem_of_mem he
    unfold In at hb
    have hkj : k ≤ j := by
      rcases Nat.lt_or_ge j k with hlt | hge
      · have := ft_before hk hlt hj; omega
      · exact hge
    have hjk : j = k := by
      rcases Nat.eq_or_lt_of_le hkj with h | hlt
      · exact h.symm
      · have h1 := (List.pairwise_iff_getElem.1 hI.apart) k j (by omega) hj hlt
        have h2 := ft_behind hk (Nat.le_refl _) (show k < L.length by omega)
        omega
    subst hjk
    refine ⟨hin, hj, by rw [getD_at hj]; omega, ?_⟩
    rw [getD_at hj]
    rcases Nat.lt_or_ge (L[j].1 + L[j].2) (fn + m) with hlt | hge
    · exfalso
      obtain ⟨e2, he2, hb2⟩ := h (L[j].1 + L[j].2) (by omega) hlt
      obtain ⟨i, hi, rfl⟩ := List.getElem_of_mem he2
      unfold In at hb2
      rcases Nat.lt_trichotomy i j with h | rfl | h
      · have := (List.pairwise_iff_getElem.1 hI.apart) i j hi hj h; omega
      · omega
      · have := (List.pairwise_iff_getElem.1 hI.apart) j i hj hi h; omega
    · omega

theorem inv_mid {F B : Nat} {A C P : List Ext} {e : Ext} (h : Inv F B (A ++ e :: C)) (hP : P.Pairwise fun x y => x.1 + x.2 < y.1) (hPe : ∀ p ∈ P, 1 ≤ p.2 ∧ e.1 ≤ p.1 ∧ p.1 + p.2 ≤ e.1 + e.2) : Inv F B (A ++ (P ++ C)) := by
  obtain ⟨a1, a2, a3⟩ := List.pairwise_append.1 h.apart
  obtain ⟨c1, c2⟩ := List.pairwise_cons.1 a2
  have he := h.ok e (List.mem_append_right _ (List.mem_cons_self ..))
  refine ⟨List.pairwise_append.2 ⟨a1, List.pairwise_append.2 ⟨hP, c2, fun x hx y hy => ?_⟩, fun x hx y hy => ?_⟩, fun x hx => ?_⟩
  · have := hPe x hx; have := c1 y hy; omega
  · rcases List.mem_append.1 hy with hy | hy
    · have := a3 x hx e (List.mem_cons_self ..); have := hPe y hy; omega
    · exact a3 x hx y (List.mem_cons_of_mem _ hy)
  · rcases List.mem_append.1 hx with hx | hx
    · exact h.ok x (List.mem_append_left _ hx)
    · rcases List.mem_append.1 hx with hx | hx
      · have := hPe x hx; omega
      · exact h.ok x (List.mem_append_right _ (List.mem_cons_of_mem _ hx))
theorem hold_inv {F B : Nat} {L : List Ext} (hI : Inv F B L) {fn m k : Nat} (hm : 1 ≤ m) (hy : HoldYes L F B fn m k) : Inv F B (holdAt L k fn m) ∧ ∀ b, Fr (holdAt L k fn m) b ↔ Fr L b ∧ ¬ (fn ≤ b ∧ b < fn + m) := by
  obtain ⟨_, h1, h2, h3⟩ := hy
  rw [getD_at h1] at h2 h3
  have hs := split_at h1
  have hI2 := hI
  rw [hs] at hI2
  unfold holdAt
  rw [getD_at h1]
  generalize L[k] = e at *
  generalize L.take k = A at *
  generalize L.drop (k + 1) = C at *
  have he := hI2.ok e (List.mem_append_right _ (List.mem_cons_self ..))
  have hp1 : (pieces e fn m).Pairwise fun x y => x.1 + x.2 < y.1 := by
    unfold pieces
    split <;> split <;> simp
    omega
  have hp2 : ∀ p ∈ pieces e fn m, 1 ≤ p.2 ∧ e.1 ≤ p.1 ∧ p.1 + p.2 ≤ e.1 + e.2 := by
    unfold pieces
    intro p hp
    rcases List.mem_append.1 hp with hp | hp
    · split at hp
      · rw [List.mem_singleton.1 hp]; simp only; omega
      · cases hp
    · split at hp
      · rw [List.mem_singleton.1 hp]; simp only; omega
      · cases hp
  have hp3 : ∀ b, Fr (pieces e fn m) b ↔ In e b ∧ ¬ (fn ≤ b ∧ b < fn + m) := by
    intro b
    unfold pieces
    rw [Fr_append]
    have q1 : Fr (if e.1 < fn then [(e.1, fn - e.1)] else []) b ↔ (e.1 ≤ b ∧ b < fn) := by
      split
      · rw [Fr_cons]
        have := Fr_nil b
        unfold In
        simp only
        constructor
        · rintro (h | h)
          · omega
          · exact absurd h this
        · intro h; left; omega
      · have := Fr_nil b
        constructor
        · intro h; exact absurd h this
        · intro h; omega
    have q2 : Fr (if fn + m < e.1 + e.2 then [(fn + m, e.1 + e.2 - fn - m)] else []) b ↔ (fn + m ≤ b ∧ b < e.1 + e.2) := by
      split
      · rw [Fr_cons]
        have := Fr_nil b
        unfold In
        simp only
        constructor
        · rintro (h | h)
          · omega
          · exact absurd h this
        · intro h; left; omega
      · have := Fr_nil b
        constructor
        · intro h; exact absurd h this
        · intro h; omega
    rw [q1, q2]
    unfold In
    omega
  refine ⟨inv_mid hI2 hp1 hp2, fun b => ?_⟩
  have hne : ∀ (M : List Ext), (∀ x ∈ M, x.1 + x.2 < e.1 ∨ e.1 + e.2 < x.1) → Fr M b → ¬ (fn ≤ b ∧ b < fn + m) := by
    rintro M hM ⟨x, hx, hb⟩
    have := hM x hx
    unfold In at hb
    omega
  obtain ⟨a1, a2, a3⟩ := List.pairwise_append.1 hI2.apart
  obtain ⟨c1, c2⟩ := List.pairwise_cons.1 a2
  have hnA := hne A (fun x hx => .inl (a3 x hx e (List.mem_cons_self ..)))
  have hnC := hne C (fun x hx => .inr (c1 x hx))
  rw [hs, Fr_append, Fr_append, Fr_append, Fr_cons, hp3]
  constructor
  · rintro (h | h | h)
    · exact ⟨.inl h, hnA h⟩
    · exact ⟨.inr (.inl h.1), h.2⟩
    · exact ⟨.inr (.inr h), hnC h⟩
  · rintro ⟨h | h | h, hn⟩
    · exact .inl h
    · exact .inr (.inl ⟨h, hn⟩)
    · exact .inr (.inr h)

end Go.Proofs.Ytmmkncocgjgapaa.Sp
