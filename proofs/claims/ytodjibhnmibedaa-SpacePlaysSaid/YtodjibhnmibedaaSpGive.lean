/- The walk of Give. -/
import Derived.Test.YtodjibhnmibedaaSpHold
import Derived.RegionTactic
import Derived.StillTailTactics
set_option linter.unusedVariables false
namespace Go.Proofs.Ytodjibhnmibedaa.Sp
open Go.RowKit

def joinR (L : List Ext) (k first n : Nat) : Bool := decide (k < L.length ∧ (L.getD k (0, 0)).1 = first + n)
def joinL (L : List Ext) (k first : Nat) : Bool := decide (0 < k ∧ (L.getD (k - 1) (0, 0)).1 + (L.getD (k - 1) (0, 0)).2 = first)
def giveX (L : List Ext) (k first n : Nat) : Ext :=
  (if joinL L k first = true then (L.getD (k - 1) (0, 0)).1 else first, n + (if joinR L k first n = true then (L.getD k (0, 0)).2 else 0) + (if joinL L k first = true then (L.getD (k - 1) (0, 0)).2 else 0))
def giveAt (L : List Ext) (k first n : Nat) : List Ext :=
  L.take (if joinL L k first = true then k - 1 else k) ++ giveX L k first n :: L.drop (if joinR L k first n = true then k + 1 else k)
def GiveYes (L : List Ext) (F B : Nat) (first n : Int) (k : Nat) : Prop :=
  insideB F B first n = true ∧ (k < L.length → first + n ≤ ((L.getD k (0, 0)).1 : Int))
def GiveRel (L : List Ext) (F B : Nat) (first n : Int) (er : Int) (L' : List Ext) : Prop :=
  (er = 1 ∧ L' = L ∧ ∀ k, FirstTrue (endsB L first) L.length k → ¬ GiveYes L F B first n k) ∨ (er = 0 ∧ ∃ k, FirstTrue (endsB L first) L.length k ∧ GiveYes L F B first n k ∧ L' = giveAt L k first.toNat n.toNat)

theorem SpAt.chg {w w' : World} {s F B : Nat} {v : Value} {L : List Ext} {base : Nat} {S : Nat → Prop} (h : SpAt w s F B v L base) (hc : Chg S w w') (hs : ¬ S s) (ho : ∀ q, v.ownBlock = some q → ¬ S q) : SpAt w' s F B v L base :=
  ⟨h.blk.chg hc hs, own_chg h.own hc ho, h.F_le, h.B_le, h.L_le, h.in_⟩
theorem below_dn (B : Nat) (w : World) (n : Nat) : Below B w (w.drewN n) := ⟨rfl, rfl, rfl, Nat.le_refl _, fun _ _ => rfl⟩
theorem SpAt.own_lt {w : World} {s F B : Nat} {v : Value} {L : List Ext} {base : Nat} (h : SpAt w s F B v L base) : ∀ q, v.ownBlock = some q → q < w.heap.size := fun q hq => (h.own.lt q hq).2
theorem give_fin {w w11 ws : World} {s F B base k fn m c : Nat} {a : Option Addr} {L : List Ext} {a10 : Option Addr} {k10 c10 i j : Nat} {x : Ext}
    (hown : w11.ownsRow base 69 2 (.slice a10 k10 c10) k10 (flatX (L.take i ++ x :: L.drop j))) (hc : Chg (fun q => q = s ∨ some q = (Value.slice a L.length c).ownBlock) w w11)
    (hB : Blk w11 s 88 #[.int .i64 (F : Int), .int .i64 (B : Int), .slice a10 k10 c10]) (hf : (Value.slice a10 k10 c10).ownBlock = (Value.slice a L.length c).ownBlock ∨ ∃ q, (Value.slice a10 k10 c10).ownBlock = some q ∧ ws.heap.size ≤ q)
    (hl : (L.take i ++ x :: L.drop j).length = k10) (hws : w.heap.size ≤ ws.heap.size) (hy : GiveYes L F B fn m k) (hk : FirstTrue (endsB L fn) L.length k) (hL : L.length + 1 ≤ 1000000)
    (hx : giveX L k fn m = x) (hi : (if joinL L k fn = true then k - 1 else k) = i) (hj : (if joinR L k fn m = true then k + 1 else k) = j) (hx4 : x.1 + x.2 ≤ 4000000) (hij : i ≤ j) (h : SpAt ws s F B (.slice a L.length c) L base) :
    ActTold w s F B (.slice a L.length c) base (GiveRel L F B fn m) (.returned (.int .i64 0)) w11 := by
  subst hl
  refine ⟨0, _, L.take i ++ x :: L.drop j, rfl, .inr ⟨rfl, k, hk, hy, ?_⟩, ⟨hB, hown, h.F_le, h.B_le, ?_, ?_⟩, hc, hf.elim .inl (fun ⟨q, h1, h2⟩ => .inr ⟨q, h1, by omega⟩)⟩
  · unfold giveAt
    rw [Int.toNat_natCast, Int.toNat_natCast, hx, hi, hj]
  · simp only [List.length_append, List.length_take, List.length_cons, List.length_drop]
    omega
  · intro e he
    rcases List.mem_append.1 he with he | he
    · exact h.in_ e (List.mem_of_mem_take he)
    · rcases List.mem_cons.1 he with rfl | he
      · exact hx4
      · exact h.in_ e (List.mem_of_mem_drop he)

theorem give_store {w w6 : World} {s F B base eb : Nat} {v : Value} {L : List Ext} {y1 y2 x1 x2 : Int} (h : SpAt w6 s F B v L base) (hE : Blk w6 eb 69 #[.int .i64 y1, .int .i64 y2]) (hol : ∀ q, v.ownBlock = some q → q < eb) (hs : s < eb) (hb : Below w.heap.size w w6) (hw : w.heap.size ≤ eb) :
    SpAt ((w6.setCell ⟨eb, 0, none⟩ (.int .i64 x1)).setCell ⟨eb, 1, none⟩ (.int .i64 x2)) s F B v L base ∧ Blk ((w6.setCell ⟨eb, 0, none⟩ (.int .i64 x1)).setCell ⟨eb, 1, none⟩ (.int .i64 x2)) eb 69 #[.int .i64 x1, .int .i64 x2] ∧ Below w.heap.size w ((w6.setCell ⟨eb, 0, none⟩ (.int .i64 x1)).setCell ⟨eb, 1, none⟩ (.int .i64 x2)) := by
  have hc : Chg (fun q => q = eb) w6 ((w6.setCell ⟨eb, 0, none⟩ (.int .i64 x1)).setCell ⟨eb, 1, none⟩ (.int .i64 x2)) := ((Chg.refl (fun q => q = eb) w6).setCell ⟨eb, 0, none⟩ _ (fun _ => rfl)).setCell ⟨eb, 1, none⟩ _ (fun _ => rfl)
  exact ⟨h.chg hc (by omega) (fun q hq e => by have := hol q hq; omega), by simpa using (hE.set_ 0 (.int .i64 x1)).set_ 1 (.int .i64 x2), (hb.setCell hw _).setCell hw _⟩
theorem give_store1 {w w6 : World} {s F B base eb : Nat} {v : Value} {L : List Ext} {y1 y2 x2 : Int} (h : SpAt w6 s F B v L base) (hE : Blk w6 eb 69 #[.int .i64 y1, .int .i64 y2]) (hol : ∀ q, v.ownBlock = some q → q < eb) (hs : s < eb) (hb : Below w.heap.size w w6) (hw : w.heap.size ≤ eb) :
    SpAt (w6.setCell ⟨eb, 1, none⟩ (.int .i64 x2)) s F B v L base ∧ Blk (w6.setCell ⟨eb, 1, none⟩ (.int .i64 x2)) eb 69 #[.int .i64 y1, .int .i64 x2] ∧ Below w.heap.size w (w6.setCell ⟨eb, 1, none⟩ (.int .i64 x2)) := by
  have hc : Chg (fun q => q = eb) w6 (w6.setCell ⟨eb, 1, none⟩ (.int .i64 x2)) := (Chg.refl (fun q => q = eb) w6).setCell ⟨eb, 1, none⟩ _ (fun _ => rfl)
  exact ⟨h.chg hc (by omega) (fun q hq e => by have := hol q hq; omega), by simpa using hE.set_ 1 (.int .i64 x2), hb.setCell hw _⟩
theorem give_blk {W w10 : World} {s F B base : Nat} {v : Value} {L : List Ext} {o : Obj} (h : SpAt W s F B v L base) (hc : Chg (fun k => some k = v.ownBlock) (W.alloc o).drew w10) : Blk w10 s 88 #[.int .i64 (F : Int), .int .i64 (B : Int), v] :=
  (h.blk.alloc o).drew.chg hc (fun e => own_ne_blk h.own h.blk (by decide) e.symm)
theorem give_end {w W w10 : World} {s F B base k fn m c : Nat} {a : Option Addr} {L : List Ext} {a10 : Option Addr} {k10 c10 i j : Nat} {x : Ext} {o : Obj} (h : SpAt W s F B (.slice a L.length c) L base) (hb : Below w.heap.size w W)
    (hown : w10.ownsRow base 69 2 (.slice a10 k10 c10) k10 (flatX (L.take i ++ x :: L.drop j))) (hc : Chg (fun q => some q = (Value.slice a L.length c).ownBlock) (W.alloc o).drew w10)
    (hf : (Value.slice a10 k10 c10).ownBlock = (Value.slice a L.length c).ownBlock ∨ ∃ q, (Value.slice a10 k10 c10).ownBlock = some q ∧ (W.alloc o).drew.heap.size ≤ q) (hB : Blk w10 s 88 #[.int .i64 (F : Int), .int .i64 (B : Int), .slice a L.length c])
    (hy : GiveYes L F B fn m k) (hk : FirstTrue (endsB L fn) L.length k) (hL : L.length + 1 ≤ 1000000)
    (hx : giveX L k fn m = x) (hi : (if joinL L k fn = true then k - 1 else k) = i) (hj : (if joinR L k fn m = true then k + 1 else k) = j) (hx4 : x.1 + x.2 ≤ 4000000) (hij : i ≤ j) :
    ActTold w s F B (.slice a L.length c) base (GiveRel L F B fn m) (.returned (.int .i64 0)) (w10.setCell ⟨s, 2, none⟩ (.slice a10 k10 c10)) := by
  refine give_fin (ws := W) (own_chg (S := fun q => q = s) hown ((Chg.refl _ w10).setCell ⟨s, 2, none⟩ _ (fun _ => rfl)) (fun q hq e => own_ne_blk hown hB (by decide) (e ▸ hq)))
    ((((Chg.of_below' hb).alloc o).drew.trans hc (fun q _ e => .inr e)).setCell _ _ (fun _ => .inl rfl)) (by simpa using hB.set_ 2 (.slice a10 k10 c10)) (hf.elim .inl (fun ⟨q, h1, h2⟩ => .inr ⟨q, h1, Nat.le_trans (by simp) h2⟩)) (XBlk.of_own hown).1 hb.size hy hk hL hx hi hj hx4 hij h

/-- The row of the free extents with the given one in it. -/
theorem give_rep {W W' : World} {s F B c base vb i j : Nat} {a : Option Addr} {L : List Ext} {X : Ext} {x1 x2 : Int} (h : SpAt W s F B (.slice a L.length c) L base) (hij : i ≤ j) (hj : j ≤ L.length) (hx : x1 = (X.1 : Int) ∧ x2 = (X.2 : Int)) (hbw : base ≤ W.heap.size)
    (hb : Below W.heap.size W W') (hv : Blk W' vb 69 #[.int .i64 x1, .int .i64 x2]) (hvb : W.heap.size ≤ vb) (hL : L.length + 1 ≤ 1000000) :
    Calls Try.prog 47 #[.slice a L.length c, .int .i64 (i : Int), .int .i64 (j : Int), .slice (some ⟨vb, 0, none⟩) 1 1] W' (RowTold W' base (Value.slice a L.length c).ownBlock (L.take i ++ X :: L.drop j)) := by
  obtain ⟨rfl, rfl⟩ := hx
  have h' := h.below hb
  obtain ⟨a', c', e, hc1, hc2⟩ := h.slice
  injection e with e1 _ e3
  subst e1
  subst e3
  have hne : (Value.slice a L.length c).ownBlock ≠ some vb := fun e => by
    have := h.own_lt vb e
    omega
  rcases Nat.eq_or_lt_of_le hij with rfl | hlt
  · exact replace_insert L X a c vb base L.length i W' h'.own hv hne (by omega) (Nat.le_trans hbw hb.size) hj hc1 hc2
  · have hr : Row W' (some ⟨vb, 0, none⟩) (flatX [X]) := Row.of_blk hv
    exact replace_any L [X] i j L.length c base 1 1 a (some ⟨vb, 0, none⟩) W' h'.own (Nat.le_trans hbw hb.size) hr rfl (fun q hq => by injection hq with hq; subst hq; exact fun e => hne e.symm) (fun _ => ⟨vb, _, rfl, hv⟩) hlt hj (by omega) (by omega)

set_option maxRecDepth 100000 in
set_option maxHeartbeats 4000000 in
theorem give_any (s F B : Nat) (v : Value) (L : List Ext) (base : Nat) (first n : Int) (w : World) (h : SpAt w s F B v L base) (hA : Asc L) (hin3 : ∀ e ∈ L, e.1 + e.2 ≤ F + B) (hL : L.length + 1 ≤ 1000000) (hbw : base ≤ w.heap.size) :
    Calls Try.prog 34 #[.pointer (some ⟨s, 0, none⟩), .int .i64 first, .int .i64 n] w (ActTold w s F B v base (GiveRel L F B first n)) := by
  obtain ⟨a, c, rfl, hc1, hc2⟩ := h.slice
  have HS := Lib.hid h
  have HA := Lib.hid hA
  have hF := h.F_le
  have hB := h.B_le
  have hsl := h.blk.lt
  have HI := Lib.hid (inside_any s F B (.slice a L.length c) L base first n w h)
  have HBE := Lib.hid (fun W (hb : Below w.heap.size w W) => behind_any s F B (.slice a L.length c) L base first W (h.below hb) hA)
  clear h hA
  cases hin : insideB F B first n
  · have HIN := Lib.hid hin
    rw [hin] at HI
    clear hin
    go_enter Try.func34, Try.ntmps34
    go_wp2_with fail
    refine HI.out.mono ?_
    rintro e w1 ⟨rfl, hb1⟩
    have HB1 := Lib.hid hb1
    clear hb1
    go_wp2_with fail
    go_ret
    exact act_same HS.out HB1.out (.inl ⟨rfl, rfl, fun k _ hy => by have := hy.1; rw [HIN.out] at this; cases this⟩)
  · have HIN := Lib.hid hin
    have hin2 : 1 ≤ n ∧ (F : Int) ≤ first ∧ first ≤ F + B ∧ n ≤ F + B - first := by
      unfold insideB at hin
      exact of_decide_eq_true hin
    rw [hin] at HI
    clear hin
    obtain ⟨fn, hfn⟩ : ∃ fn : Nat, first = (fn : Int) := ⟨first.toNat, by omega⟩
    obtain ⟨m, hm⟩ : ∃ m : Nat, n = (m : Int) := ⟨n.toNat, by omega⟩
    subst hfn
    subst hm
    have t1 : IntKind.i64.wrap ((fn : Int) + m) = (fn : Int) + m := by rw [IntKind.wrap_i64]; omega
    go_enter Try.func34, Try.ntmps34
    go_wp2_with fail
    refine HI.out.mono ?_
    rintro e w1 ⟨rfl, hb1⟩
    have HB1 := Lib.hid hb1
    clear hb1
    go_wp2_with fail
    refine (HBE.out _ HB1.out).mono ?_
    rintro e w2 ⟨k, rfl, hk, hb2⟩
    have HB2 := Lib.hid (HB1.out.trans (hb2.mono HB1.out.size))
    have HK := Lib.hid hk
    have hkl := hk.1
    have S2 := Lib.hid (HS.out.below HB2.out)
    clear hb2 hk HB1 HBE HI
    have c2 : w2.cell? ⟨s, 2, none⟩ = some (.slice a L.length c) := S2.out.blk.cell 2
    have hk0 : (0 : Int) ≤ (k : Int) := by omega
    have hlt2 := HB2.out.size
    have bE := (Below.refl w2.heap.size w2).alloc (Nat.le_refl _) (.cells #[.int .i64 (fn : Int), .int .i64 (m : Int)] 69)
    have E3 := Lib.hid (Blk.new w2 69 #[.int .i64 (fn : Int), .int .i64 (m : Int)])
    have BE := Lib.hid bE
    have S3 := Lib.hid (S2.out.below bE)
    have HB3 := Lib.hid (HB2.out.trans (bE.mono hlt2))
    clear bE
    by_cases hkn : k = L.length
    · have hkn1 : ¬ (k : Int) < (L.length : Int) := by omega
      have hkn2 : decide ((k : Int) < (L.length : Int)) = false := by simp; omega
      have hkn3 : decide (k < L.length) = false := by simp; omega
      have HYES : Hid (GiveYes L F B fn m k) := Lib.hid ⟨HIN.out, fun h => by omega⟩
      have HJR : Hid (joinR L k fn m = false) := Lib.hid (by unfold joinR; rw [decide_eq_false_iff_not]; exact fun h => by omega)
      have HKN := Lib.hid hkn
      clear hkn
      go_wp2_with fail
      generalize hw3 : w2.alloc (.cells #[.int .i64 (fn : Int), .int .i64 (m : Int)] 69) = w3 at *
      clear hw3
      have hebl := E3.out.lt
      have OL := Lib.hid S2.out.own_lt
      have hes : s < w2.heap.size := by omega
      have hebw : w.heap.size ≤ w2.heap.size := hlt2
      generalize heb : w2.heap.size = eb at *
      clear heb c2 S2 HB2 BE hlt2
      have c3 : w3.cell? ⟨s, 2, none⟩ = some (.slice a L.length c) := S3.out.blk.cell 2
      go_quiet (fail)
      have S4 := Lib.hid (S3.out.below (below_dn w3.heap.size w3 nq))
      have E4 := Lib.hid (E3.out.below (below_dn w3.heap.size w3 nq) hebl)
      have HB4 := Lib.hid (HB3.out.trans (below_dn w.heap.size w3 nq))
      generalize w3.drewN nq = w4 at *
      clear c3 S3 E3 HB3 hebl
      have c4 : w4.cell? ⟨s, 2, none⟩ = some (.slice a L.length c) := S4.out.blk.cell 2
      have hbw2 : base ≤ w4.heap.size := Nat.le_trans hbw (by have := HB4.out.size; omega)
      by_cases hk1 : k = 0
      · have hk2 : ¬ (0 : Int) < (k : Int) := by omega
        have HJL : Hid (joinL L k fn = false) := Lib.hid (by unfold joinL; rw [decide_eq_false_iff_not]; exact fun h => by omega)
        have HK1 := Lib.hid hk1
        clear hk1
        have d0 : w4.cell? ⟨eb, 0, none⟩ = some (.int .i64 (fn : Int)) := E4.out.cell 0
        have d1 : w4.cell? ⟨eb, 1, none⟩ = some (.int .i64 (m : Int)) := E4.out.cell 1
        have cW : w4.cell? ⟨s, 2, none⟩ = some (.slice a L.length c) := S4.out.blk.cell 2
        have z1 : s < w4.heap.size := S4.out.blk.lt
        have z2 : eb < w4.heap.size := E4.out.lt
        have z3 : ¬ s = w4.heap.size := by omega
        have z4 : ¬ eb = w4.heap.size := by omega
        have HR := Lib.hid (fun W' vb (hb : Below w4.heap.size w4 W') (hv : Blk W' vb 69 #[.int .i64 (fn : Int), .int .i64 (m : Int)]) (hvb : w4.heap.size ≤ vb) =>
          give_rep (W := w4) (X := (fn, m)) (i := k) (j := k) S4.out (by omega) (by omega) ⟨rfl, rfl⟩ hbw2 hb hv hvb hL)
        go_wp2_with fail
        go_region_law ((go_simp; go_at_call 47; refine (HR.out _ _ (((Below.refl _ _).alloc (Nat.le_refl _) _).drew) (Blk.new _ _ _).drew (Nat.le_refl _)).mono ?_; rintro e w10 ⟨a10, k10, c10, rfl, hown10, hc10, hf10⟩; have hB10 := give_blk S4.out hc10; have q10 : w10.cell? ⟨s, 2, none⟩ = some (.slice a L.length c) := hB10.cell 2; have q11 := hB10.frozen 2))
        all_goals
          have HFIN := Lib.hid (give_end (i := k) (j := k) (x := (fn, m)) S4.out HB4.out hown10 hc10 hf10 hB10 HYES.out HK.out hL (by unfold giveX; rw [HJL.out, HJR.out]; rfl) (by rw [HJL.out]; rfl) (by rw [HJR.out]; rfl) (by simp only; omega) (by omega))
          clear hown10 hc10 hf10 hB10 q10 q11 HR
          go_wp2_with fail
          go_ret
          exact HFIN.out
      · obtain ⟨p, rfl⟩ : ∃ p, k = p + 1 := ⟨k - 1, by omega⟩
        have hpl : p < L.length := by omega
        obtain ⟨g1, ha, q1, q2, q3, q4⟩ := S4.out.elem hpl
        subst ha
        have hgp : L.getD p (0, 0) = L[p] := by rw [List.getD_eq_getElem?_getD, List.getElem?_eq_getElem hpl]; rfl
        have hmemp := hin3 _ (List.getElem_mem hpl)
        obtain ⟨⟨u, z⟩, huz⟩ : ∃ q : Ext, L[p] = q := ⟨_, rfl⟩
        rw [huz] at hgp q1 q2 q3 q4 hmemp
        simp only at q1 q2 q3 q4 hmemp
        have HGP := Lib.hid hgp
        have hp0 : (0 : Int) ≤ (p : Int) := by omega
        have hp1 : (p : Int) < (L.length : Int) := by omega
        have hp2 : (0 : Int) < (p : Int) + 1 := by omega
        have hp3 : IntKind.i64.wrap (p : Int) = (p : Int) := by rw [IntKind.wrap_i64]; omega
        clear hk1 huz hgp
        go_wp2_with fail
        refine (end_any (u : Int) (z : Int) w4 ⟨by omega, by omega⟩ ⟨by omega, by omega⟩).mono ?_
        rintro e w5 ⟨rfl, hb5⟩
        have S5 := Lib.hid (S4.out.below hb5)
        have E5 := Lib.hid (E4.out.below hb5 E4.out.lt)
        have HB5 := Lib.hid (HB4.out.trans (hb5.mono HB4.out.size))
        have hbw3 : base ≤ w5.heap.size := Nat.le_trans hbw2 hb5.size
        clear hb5 S4 E4 HB4 c4 q1 q2 hbw2
        have hbw2 := hbw3
        by_cases h5 : u + z = fn
        · have h5b : ((u : Int) + z == (fn : Int)) = true := by rw [beq_iff_eq]; omega
          have HJL : Hid (joinL L (p + 1) fn = true) := Lib.hid (by unfold joinL; rw [Nat.add_sub_cancel, HGP.out, decide_eq_true_eq]; exact ⟨by omega, h5⟩)
          obtain ⟨g2, ha2, r1, r2, -, -⟩ := S5.out.elem hpl
          injection ha2 with ha2
          injection ha2 with ha2
          subst ha2
          have huz : L[p] = (u, z) := by rw [← HGP.out, List.getD_eq_getElem?_getD, List.getElem?_eq_getElem hpl]; rfl
          rw [huz] at r1 r2
          simp only at r1 r2
          clear huz
          have H5 := Lib.hid h5
          have c5 : w5.cell? ⟨s, 2, none⟩ = some (.slice (some ⟨g1, 0, none⟩) L.length c) := S5.out.blk.cell 2
          have d5 : w5.cell? ⟨eb, 1, none⟩ = some (.int .i64 ((m : Int))) := E5.out.cell 1
          have d6 := E5.out.frozen 0
          have d7 := E5.out.frozen 1
          have d8 : w5.cell? ⟨eb, 0, none⟩ = some (.int .i64 (fn : Int)) := E5.out.cell 0
          have x5 : IntKind.i64.wrap ((m : Int) + (z : Int)) = (m : Int) + (z : Int) := by rw [IntKind.wrap_i64]; omega
          clear h5
          go_wp2_with fail
          go_still_tail 22, (by kernel_rfl)
          change wpList _ _ _ _ _ w5.drew
          have S6 := Lib.hid (S5.out.below ((Below.refl _ _).drew))
          have E6 := Lib.hid E5.out.drew
          have HB6 := Lib.hid HB5.out.drew
          have z5 : eb < w5.drew.heap.size := E5.out.lt
          clear r1 r2 c5 d5 d6 d7 d8 S5 E5 HB5
          generalize w5.drew = w6 at *
          have d6 := E6.out.frozen 0
          have d7 := E6.out.frozen 1
          have d8 : w6.cell? ⟨eb, 0, none⟩ = some (.int .i64 (fn : Int)) := E6.out.cell 0
          have d5 : w6.cell? ⟨eb, 1, none⟩ = some (.int .i64 ((m : Int))) := E6.out.cell 1
          have hsx := give_store (x1 := (u : Int)) (x2 := (m : Int) + (z : Int)) S6.out E6.out OL.out hes HB6.out hebw
          obtain ⟨s7, e7, b7⟩ := hsx
          have S7 := Lib.hid s7
          have E7 := Lib.hid e7
          have HB7 := Lib.hid b7
          clear s7 e7 b7 S6 E6 HB6
          go_wp2_with fail
          clear d5 d6 d7 d8
          generalize (w6.setCell ⟨eb, 0, none⟩ (.int .i64 (u : Int))).setCell ⟨eb, 1, none⟩ (.int .i64 ((m : Int) + (z : Int))) = w7 at *
          have hbw2 : base ≤ w7.heap.size := Nat.le_trans hbw HB7.out.size
          have d0 : w7.cell? ⟨eb, 0, none⟩ = some (.int .i64 (u : Int)) := E7.out.cell 0
          have d1 : w7.cell? ⟨eb, 1, none⟩ = some (.int .i64 ((m : Int) + (z : Int))) := E7.out.cell 1
          have cW : w7.cell? ⟨s, 2, none⟩ = some (.slice (some ⟨g1, 0, none⟩) L.length c) := S7.out.blk.cell 2
          have z1 : s < w7.heap.size := S7.out.blk.lt
          have z2 : eb < w7.heap.size := E7.out.lt
          have z3 : ¬ s = w7.heap.size := by omega
          have z4 : ¬ eb = w7.heap.size := by omega
          have HR := Lib.hid (fun W' vb (hb : Below w7.heap.size w7 W') (hv : Blk W' vb 69 #[.int .i64 (u : Int), .int .i64 ((m : Int) + (z : Int))]) (hvb : w7.heap.size ≤ vb) =>
            give_rep (W := w7) (X := (u, m + z)) (i := p) (j := (p + 1)) S7.out (by omega) (by omega) ⟨rfl, rfl⟩ hbw2 hb hv hvb hL)
          go_wp2_with fail
          go_region_law ((go_simp; go_at_call 47; refine (HR.out _ _ (((Below.refl _ _).alloc (Nat.le_refl _) _).drew) (Blk.new _ _ _).drew (Nat.le_refl _)).mono ?_; rintro e w10 ⟨a10, k10, c10, rfl, hown10, hc10, hf10⟩; have hB10 := give_blk S7.out hc10; have q10 : w10.cell? ⟨s, 2, none⟩ = some (.slice (some ⟨g1, 0, none⟩) L.length c) := hB10.cell 2; have q11 := hB10.frozen 2))
          all_goals
            have HFIN := Lib.hid (give_end (i := p) (j := (p + 1)) (x := (u, m + z)) S7.out HB7.out hown10 hc10 hf10 hB10 HYES.out HK.out hL (by unfold giveX; rw [HJL.out, HJR.out, Nat.add_sub_cancel, HGP.out]; rfl) (by rw [HJL.out]; rfl) (by rw [HJR.out]; rfl) (by simp only; omega) (by omega))
            clear hown10 hc10 hf10 hB10 q10 q11 HR
            go_wp2_with fail
            go_ret
            exact HFIN.out
        · have h5b : ((u : Int) + z == (fn : Int)) = false := by rw [beq_eq_false_iff_ne]; omega
          have HJL : Hid (joinL L (p + 1) fn = false) := Lib.hid (by unfold joinL; rw [Nat.add_sub_cancel, HGP.out, decide_eq_false_iff_not]; exact fun h => h5 h.2)
          have d0 : w5.cell? ⟨eb, 0, none⟩ = some (.int .i64 (fn : Int)) := E5.out.cell 0
          have d1 : w5.cell? ⟨eb, 1, none⟩ = some (.int .i64 (m : Int)) := E5.out.cell 1
          have cW : w5.cell? ⟨s, 2, none⟩ = some (.slice (some ⟨g1, 0, none⟩) L.length c) := S5.out.blk.cell 2
          have z1 : s < w5.heap.size := S5.out.blk.lt
          have z2 : eb < w5.heap.size := E5.out.lt
          have z3 : ¬ s = w5.heap.size := by omega
          have z4 : ¬ eb = w5.heap.size := by omega
          have HR := Lib.hid (fun W' vb (hb : Below w5.heap.size w5 W') (hv : Blk W' vb 69 #[.int .i64 (fn : Int), .int .i64 (m : Int)]) (hvb : w5.heap.size ≤ vb) =>
            give_rep (W := w5) (X := (fn, m)) (i := (p + 1)) (j := (p + 1)) S5.out (by omega) (by omega) ⟨rfl, rfl⟩ hbw2 hb hv hvb hL)
          go_wp2_with fail
          go_region_law ((go_simp; go_at_call 47; refine (HR.out _ _ (((Below.refl _ _).alloc (Nat.le_refl _) _).drew) (Blk.new _ _ _).drew (Nat.le_refl _)).mono ?_; rintro e w10 ⟨a10, k10, c10, rfl, hown10, hc10, hf10⟩; have hB10 := give_blk S5.out hc10; have q10 : w10.cell? ⟨s, 2, none⟩ = some (.slice (some ⟨g1, 0, none⟩) L.length c) := hB10.cell 2; have q11 := hB10.frozen 2))
          all_goals
            have HFIN := Lib.hid (give_end (i := (p + 1)) (j := (p + 1)) (x := (fn, m)) S5.out HB5.out hown10 hc10 hf10 hB10 HYES.out HK.out hL (by unfold giveX; rw [HJL.out, HJR.out]; rfl) (by rw [HJL.out]; rfl) (by rw [HJR.out]; rfl) (by simp only; omega) (by omega))
            clear hown10 hc10 hf10 hB10 q10 q11 HR
            go_wp2_with fail
            go_ret
            exact HFIN.out
    · have hkl2 : k < L.length := by omega
      have hks : (k : Int) < (L.length : Int) := by omega
      obtain ⟨g, rfl, f1, f2, f3, f4⟩ := S2.out.elem hkl2
      have hgd : L.getD k (0, 0) = L[k] := by rw [List.getD_eq_getElem?_getD, List.getElem?_eq_getElem hkl2]; rfl
      have hmem := hin3 _ (List.getElem_mem hkl2)
      obtain ⟨⟨x, y⟩, hxy⟩ : ∃ q : Ext, L[k] = q := ⟨_, rfl⟩
      rw [hxy] at hgd f1 f2 f3 f4 hmem
      simp only at f1 f2 f3 f4 hmem
      have HGD := Lib.hid hgd
      clear hkn hxy hgd
      by_cases h1 : (x : Int) < (fn : Int) + m
      · go_wp2_with fail
        go_ret
        exact act_same HS.out HB2.out (.inl ⟨rfl, rfl, fun k' hk' hy => by have h9 := hy.2; have := HK.out.unique hk'; subst this; rw [HGD.out] at h9; have := h9 hkl2; simp only at this; omega⟩)
      · have HYES : Hid (GiveYes L F B fn m k) := Lib.hid ⟨HIN.out, fun _ => by rw [HGD.out]; simp only; omega⟩
        by_cases h3 : x = fn + m
        · have h3b : ((x : Int) == (fn : Int) + m) = true := by rw [beq_iff_eq]; omega
          have HJR : Hid (joinR L k fn m = true) := Lib.hid (by unfold joinR; rw [decide_eq_true_eq, HGD.out]; exact ⟨hkl2, h3⟩)
          have H3 := Lib.hid h3
          clear h3
          go_wp2_with fail
          generalize hw3 : w2.alloc (.cells #[.int .i64 (fn : Int), .int .i64 (m : Int)] 69) = w3 at *
          clear hw3
          have hebl := E3.out.lt
          have OL := Lib.hid S2.out.own_lt
          have hes : s < w2.heap.size := by omega
          have hebw : w.heap.size ≤ w2.heap.size := hlt2
          generalize heb : w2.heap.size = eb at *
          clear heb c2 S2 HB2 BE hlt2 f1 f2
          obtain ⟨g3, hg3, f1, f2, -, -⟩ := S3.out.elem hkl2
          injection hg3 with hg3
          injection hg3 with hg3
          subst hg3
          have hxy : L[k] = (x, y) := by rw [← HGD.out, List.getD_eq_getElem?_getD, List.getElem?_eq_getElem hkl2]; rfl
          rw [hxy] at f1 f2
          simp only at f1 f2
          clear hxy
          have c3 : w3.cell? ⟨s, 2, none⟩ = some (.slice (some ⟨g, 0, none⟩) L.length c) := S3.out.blk.cell 2
          have d0 : w3.cell? ⟨eb, 0, none⟩ = some (.int .i64 (fn : Int)) := E3.out.cell 0
          have d1 : w3.cell? ⟨eb, 1, none⟩ = some (.int .i64 (m : Int)) := E3.out.cell 1
          have HC := Lib.hid (fun W (hb : Below w3.heap.size w3 W) => (⟨by rw [hb.cell (cell_lt c3).1, c3], by rw [hb.cell (cell_lt f1).1, f1], by rw [hb.cell (cell_lt d0).1, d0], by rw [hb.cell (cell_lt d1).1, d1]⟩ :
            W.cell? ⟨s, 2, none⟩ = some (.slice (some ⟨g, 0, none⟩) L.length c) ∧ W.cell? ⟨g, k * 2, none⟩ = some (.int .i64 (x : Int)) ∧ W.cell? ⟨eb, 0, none⟩ = some (.int .i64 (fn : Int)) ∧ W.cell? ⟨eb, 1, none⟩ = some (.int .i64 (m : Int))))
          have HE := Lib.hid (fun W (hb : Below w3.heap.size w3 W) => (end_any (fn : Int) (m : Int) W ⟨by omega, by omega⟩ ⟨by omega, by omega⟩).mono (fun e w2 (he : e = .returned (.int .i64 ((fn : Int) + m)) ∧ Below W.heap.size W w2) => (⟨he.1, hb.trans (he.2.mono hb.size)⟩ : e = .returned (.int .i64 ((fn : Int) + m)) ∧ Below w3.heap.size w3 w2)))
          have hd0 : Below w3.heap.size w3 w3.drew := (Below.refl _ _).drew
          have hks2 : decide ((k : Int) < (L.length : Int)) = true := by simp; omega
          have hks3 : decide (k < L.length) = true := by simp; omega
          clear h1
          go_region_held3 (fun w' => Below w3.heap.size w3 w' ∧ w'.cell? ⟨s, 2, none⟩ = some (.slice (some ⟨g, 0, none⟩) L.length c) ∧ w'.cell? ⟨g, k * 2, none⟩ = some (.int .i64 (x : Int)) ∧ w'.cell? ⟨eb, 0, none⟩ = some (.int .i64 (fn : Int)) ∧ w'.cell? ⟨eb, 1, none⟩ = some (.int .i64 (m : Int)))
            (exact ⟨by assumption, (HC.out _ (by assumption)).1, (HC.out _ (by assumption)).2.1, (HC.out _ (by assumption)).2.2.1, (HC.out _ (by assumption)).2.2.2⟩)
            ((go_at_call 46; refine (HE.out _ (by assumption)).mono ?_; rintro e wa ⟨rfl, hba⟩))
          have Sa := Lib.hid (S3.out.below hba)
          have Ea := Lib.hid (E3.out.below hba hebl)
          have HBa := Lib.hid (HB3.out.trans (hba.mono HB3.out.size))
          obtain ⟨ca, fa, d0a, d1a⟩ := HC.out _ hba
          have fb : wa.cell? ⟨g, k * 2 + 1, none⟩ = some (.int .i64 (y : Int)) := by rw [hba.cell (cell_lt f2).1, f2]
          have e6 := Ea.out.frozen 0
          have e7 := Ea.out.frozen 1
          have x6 : IntKind.i64.wrap ((m : Int) + (y : Int)) = (m : Int) + (y : Int) := by rw [IntKind.wrap_i64]; omega
          clear c3 S3 E3 HB3 hebl hba f1 f2 d0 d1 HC HE hd0
          go_wp2_with fail
          go_still_tail 12, (by kernel_rfl)
          change wpList _ _ _ _ _ wa.drew
          have S6 := Lib.hid (Sa.out.below ((Below.refl _ _).drew))
          have E6 := Lib.hid Ea.out.drew
          have HB6 := Lib.hid HBa.out.drew
          have z5 : eb < wa.drew.heap.size := Ea.out.lt
          clear ca fa d0a d1a fb e6 e7 Sa Ea HBa
          generalize wa.drew = w6 at *
          have d6 := E6.out.frozen 1
          have d5 : w6.cell? ⟨eb, 1, none⟩ = some (.int .i64 (m : Int)) := E6.out.cell 1
          obtain ⟨s7, e7, b7⟩ := give_store1 (x2 := (m : Int) + (y : Int)) S6.out E6.out OL.out hes HB6.out hebw
          have S4 := Lib.hid s7
          have E4 := Lib.hid e7
          have HB4 := Lib.hid b7
          clear s7 e7 b7 S6 E6 HB6
          have c4 : (w6.setCell ⟨eb, 1, none⟩ (.int .i64 ((m : Int) + (y : Int)))).cell? ⟨s, 2, none⟩ = some (.slice (some ⟨g, 0, none⟩) L.length c) := S4.out.blk.cell 2
          have hbw2 : base ≤ (w6.setCell ⟨eb, 1, none⟩ (.int .i64 ((m : Int) + (y : Int)))).heap.size := Nat.le_trans hbw (by have := HB4.out.size; omega)
          by_cases hk1 : k = 0
          · have hk2 : ¬ (0 : Int) < (k : Int) := by omega
            have HJL : Hid (joinL L k fn = false) := Lib.hid (by unfold joinL; rw [decide_eq_false_iff_not]; exact fun h => by omega)
            have HK1 := Lib.hid hk1
            clear hk1
            go_wp2_with fail
            generalize (w6.setCell ⟨eb, 1, none⟩ (.int .i64 ((m : Int) + (y : Int)))) = w4 at *
            have d0 : w4.cell? ⟨eb, 0, none⟩ = some (.int .i64 (fn : Int)) := E4.out.cell 0
            have d1 : w4.cell? ⟨eb, 1, none⟩ = some (.int .i64 ((m : Int) + (y : Int))) := E4.out.cell 1
            have cW : w4.cell? ⟨s, 2, none⟩ = some (.slice (some ⟨g, 0, none⟩) L.length c) := S4.out.blk.cell 2
            have z1 : s < w4.heap.size := S4.out.blk.lt
            have z2 : eb < w4.heap.size := E4.out.lt
            have z3 : ¬ s = w4.heap.size := by omega
            have z4 : ¬ eb = w4.heap.size := by omega
            have HR := Lib.hid (fun W' vb (hb : Below w4.heap.size w4 W') (hv : Blk W' vb 69 #[.int .i64 (fn : Int), .int .i64 ((m : Int) + (y : Int))]) (hvb : w4.heap.size ≤ vb) =>
              give_rep (W := w4) (X := (fn, (m + y))) (i := k) (j := (k + 1)) S4.out (by omega) (by omega) ⟨rfl, rfl⟩ hbw2 hb hv hvb hL)
            (try go_wp2_with fail)
            go_region_law ((go_simp; go_at_call 47; refine (HR.out _ _ (((Below.refl _ _).alloc (Nat.le_refl _) _).drew) (Blk.new _ _ _).drew (Nat.le_refl _)).mono ?_; rintro e w10 ⟨a10, k10, c10, rfl, hown10, hc10, hf10⟩; have hB10 := give_blk S4.out hc10; have q10 : w10.cell? ⟨s, 2, none⟩ = some (.slice (some ⟨g, 0, none⟩) L.length c) := hB10.cell 2; have q11 := hB10.frozen 2))
            all_goals
              have HFIN := Lib.hid (give_end (i := k) (j := (k + 1)) (x := (fn, (m + y))) S4.out HB4.out hown10 hc10 hf10 hB10 HYES.out HK.out hL (by unfold giveX; rw [HJL.out, HJR.out]; rw [HGD.out]; rfl) (by rw [HJL.out]; rfl) (by rw [HJR.out]; rfl) (by simp only; omega) (by omega))
              clear hown10 hc10 hf10 hB10 q10 q11 HR
              go_wp2_with fail
              go_ret
              exact HFIN.out
          · obtain ⟨p, rfl⟩ : ∃ p, k = p + 1 := ⟨k - 1, by omega⟩
            have hpl : p < L.length := by omega
            obtain ⟨g1, ha, q1, q2, q3, q4⟩ := S4.out.elem hpl
            injection ha with ha
            injection ha with ha
            subst ha
            have hgp : L.getD p (0, 0) = L[p] := by rw [List.getD_eq_getElem?_getD, List.getElem?_eq_getElem hpl]; rfl
            have hmemp := hin3 _ (List.getElem_mem hpl)
            obtain ⟨⟨u, z⟩, huz⟩ : ∃ q : Ext, L[p] = q := ⟨_, rfl⟩
            rw [huz] at hgp q1 q2 q3 q4 hmemp
            simp only at q1 q2 q3 q4 hmemp
            have HGP := Lib.hid hgp
            have hp0 : (0 : Int) ≤ (p : Int) := by omega
            have hp1 : (p : Int) < (L.length : Int) := by omega
            have hp2 : (0 : Int) < (p : Int) + 1 := by omega
            have hp3 : IntKind.i64.wrap (p : Int) = (p : Int) := by rw [IntKind.wrap_i64]; omega
            clear hk1 huz hgp
            go_wp2_with fail
            generalize (w6.setCell ⟨eb, 1, none⟩ (.int .i64 ((m : Int) + (y : Int)))) = w4 at *
            refine (end_any (u : Int) (z : Int) w4 ⟨by omega, by omega⟩ ⟨by omega, by omega⟩).mono ?_
            rintro e w5 ⟨rfl, hb5⟩
            have S5 := Lib.hid (S4.out.below hb5)
            have E5 := Lib.hid (E4.out.below hb5 E4.out.lt)
            have HB5 := Lib.hid (HB4.out.trans (hb5.mono HB4.out.size))
            have hbw3 : base ≤ w5.heap.size := Nat.le_trans hbw2 hb5.size
            clear hb5 S4 E4 HB4 c4 q1 q2 hbw2
            have hbw2 := hbw3
            by_cases h5 : u + z = fn
            · have h5b : ((u : Int) + z == (fn : Int)) = true := by rw [beq_iff_eq]; omega
              have HJL : Hid (joinL L (p + 1) fn = true) := Lib.hid (by unfold joinL; rw [Nat.add_sub_cancel, HGP.out, decide_eq_true_eq]; exact ⟨by omega, h5⟩)
              obtain ⟨g2, ha2, r1, r2, -, -⟩ := S5.out.elem hpl
              injection ha2 with ha2
              injection ha2 with ha2
              subst ha2
              have huz : L[p] = (u, z) := by rw [← HGP.out, List.getD_eq_getElem?_getD, List.getElem?_eq_getElem hpl]; rfl
              rw [huz] at r1 r2
              simp only at r1 r2
              clear huz
              have H5 := Lib.hid h5
              have c5 : w5.cell? ⟨s, 2, none⟩ = some (.slice (some ⟨g, 0, none⟩) L.length c) := S5.out.blk.cell 2
              have d5 : w5.cell? ⟨eb, 1, none⟩ = some (.int .i64 (((m : Int) + (y : Int)))) := E5.out.cell 1
              have d6 := E5.out.frozen 0
              have d7 := E5.out.frozen 1
              have d8 : w5.cell? ⟨eb, 0, none⟩ = some (.int .i64 (fn : Int)) := E5.out.cell 0
              have x5 : IntKind.i64.wrap (((m : Int) + (y : Int)) + (z : Int)) = ((m : Int) + (y : Int)) + (z : Int) := by rw [IntKind.wrap_i64]; omega
              clear h5
              go_wp2_with fail
              go_still_tail 22, (by kernel_rfl)
              change wpList _ _ _ _ _ w5.drew
              have S6 := Lib.hid (S5.out.below ((Below.refl _ _).drew))
              have E6 := Lib.hid E5.out.drew
              have HB6 := Lib.hid HB5.out.drew
              have z5 : eb < w5.drew.heap.size := E5.out.lt
              clear r1 r2 c5 d5 d6 d7 d8 S5 E5 HB5
              generalize w5.drew = w6 at *
              have d6 := E6.out.frozen 0
              have d7 := E6.out.frozen 1
              have d8 : w6.cell? ⟨eb, 0, none⟩ = some (.int .i64 (fn : Int)) := E6.out.cell 0
              have d5 : w6.cell? ⟨eb, 1, none⟩ = some (.int .i64 (((m : Int) + (y : Int)))) := E6.out.cell 1
              have hsx := give_store (x1 := (u : Int)) (x2 := ((m : Int) + (y : Int)) + (z : Int)) S6.out E6.out OL.out hes HB6.out hebw
              obtain ⟨s7, e7, b7⟩ := hsx
              have S7 := Lib.hid s7
              have E7 := Lib.hid e7
              have HB7 := Lib.hid b7
              clear s7 e7 b7 S6 E6 HB6
              go_wp2_with fail
              clear d5 d6 d7 d8
              generalize (w6.setCell ⟨eb, 0, none⟩ (.int .i64 (u : Int))).setCell ⟨eb, 1, none⟩ (.int .i64 (((m : Int) + (y : Int)) + (z : Int))) = w7 at *
              have hbw2 : base ≤ w7.heap.size := Nat.le_trans hbw HB7.out.size
              have d0 : w7.cell? ⟨eb, 0, none⟩ = some (.int .i64 (u : Int)) := E7.out.cell 0
              have d1 : w7.cell? ⟨eb, 1, none⟩ = some (.int .i64 (((m : Int) + (y : Int)) + (z : Int))) := E7.out.cell 1
              have cW : w7.cell? ⟨s, 2, none⟩ = some (.slice (some ⟨g, 0, none⟩) L.length c) := S7.out.blk.cell 2
              have z1 : s < w7.heap.size := S7.out.blk.lt
              have z2 : eb < w7.heap.size := E7.out.lt
              have z3 : ¬ s = w7.heap.size := by omega
              have z4 : ¬ eb = w7.heap.size := by omega
              have HR := Lib.hid (fun W' vb (hb : Below w7.heap.size w7 W') (hv : Blk W' vb 69 #[.int .i64 (u : Int), .int .i64 (((m : Int) + (y : Int)) + (z : Int))]) (hvb : w7.heap.size ≤ vb) =>
                give_rep (W := w7) (X := (u, (m + y) + z)) (i := p) (j := ((p + 1) + 1)) S7.out (by omega) (by omega) ⟨rfl, rfl⟩ hbw2 hb hv hvb hL)
              go_wp2_with fail
              go_region_law ((go_simp; go_at_call 47; refine (HR.out _ _ (((Below.refl _ _).alloc (Nat.le_refl _) _).drew) (Blk.new _ _ _).drew (Nat.le_refl _)).mono ?_; rintro e w10 ⟨a10, k10, c10, rfl, hown10, hc10, hf10⟩; have hB10 := give_blk S7.out hc10; have q10 : w10.cell? ⟨s, 2, none⟩ = some (.slice (some ⟨g, 0, none⟩) L.length c) := hB10.cell 2; have q11 := hB10.frozen 2))
              all_goals
                have HFIN := Lib.hid (give_end (i := p) (j := ((p + 1) + 1)) (x := (u, (m + y) + z)) S7.out HB7.out hown10 hc10 hf10 hB10 HYES.out HK.out hL (by unfold giveX; rw [HJL.out, HJR.out, Nat.add_sub_cancel, HGP.out]; rw [HGD.out]; rfl) (by rw [HJL.out]; rfl) (by rw [HJR.out]; rfl) (by simp only; omega) (by omega))
                clear hown10 hc10 hf10 hB10 q10 q11 HR
                go_wp2_with fail
                go_ret
                exact HFIN.out
            · have h5b : ((u : Int) + z == (fn : Int)) = false := by rw [beq_eq_false_iff_ne]; omega
              have HJL : Hid (joinL L (p + 1) fn = false) := Lib.hid (by unfold joinL; rw [Nat.add_sub_cancel, HGP.out, decide_eq_false_iff_not]; exact fun h => h5 h.2)
              have d0 : w5.cell? ⟨eb, 0, none⟩ = some (.int .i64 (fn : Int)) := E5.out.cell 0
              have d1 : w5.cell? ⟨eb, 1, none⟩ = some (.int .i64 ((m : Int) + (y : Int))) := E5.out.cell 1
              have cW : w5.cell? ⟨s, 2, none⟩ = some (.slice (some ⟨g, 0, none⟩) L.length c) := S5.out.blk.cell 2
              have z1 : s < w5.heap.size := S5.out.blk.lt
              have z2 : eb < w5.heap.size := E5.out.lt
              have z3 : ¬ s = w5.heap.size := by omega
              have z4 : ¬ eb = w5.heap.size := by omega
              have HR := Lib.hid (fun W' vb (hb : Below w5.heap.size w5 W') (hv : Blk W' vb 69 #[.int .i64 (fn : Int), .int .i64 ((m : Int) + (y : Int))]) (hvb : w5.heap.size ≤ vb) =>
                give_rep (W := w5) (X := (fn, (m + y))) (i := (p + 1)) (j := ((p + 1) + 1)) S5.out (by omega) (by omega) ⟨rfl, rfl⟩ hbw2 hb hv hvb hL)
              go_wp2_with fail
              go_region_law ((go_simp; go_at_call 47; refine (HR.out _ _ (((Below.refl _ _).alloc (Nat.le_refl _) _).drew) (Blk.new _ _ _).drew (Nat.le_refl _)).mono ?_; rintro e w10 ⟨a10, k10, c10, rfl, hown10, hc10, hf10⟩; have hB10 := give_blk S5.out hc10; have q10 : w10.cell? ⟨s, 2, none⟩ = some (.slice (some ⟨g, 0, none⟩) L.length c) := hB10.cell 2; have q11 := hB10.frozen 2))
              all_goals
                have HFIN := Lib.hid (give_end (i := (p + 1)) (j := ((p + 1) + 1)) (x := (fn, (m + y))) S5.out HB5.out hown10 hc10 hf10 hB10 HYES.out HK.out hL (by unfold giveX; rw [HJL.out, HJR.out]; rw [HGD.out]; rfl) (by rw [HJL.out]; rfl) (by rw [HJR.out]; rfl) (by simp only; omega) (by omega))
                clear hown10 hc10 hf10 hB10 q10 q11 HR
                go_wp2_with fail
                go_ret
                exact HFIN.out
        · have h3b : ((x : Int) == (fn : Int) + m) = false := by rw [beq_eq_false_iff_ne]; omega
          have HJR : Hid (joinR L k fn m = false) := Lib.hid (by unfold joinR; rw [decide_eq_false_iff_not, HGD.out]; exact fun h => h3 h.2)
          go_wp2_with fail
          generalize hw3 : w2.alloc (.cells #[.int .i64 (fn : Int), .int .i64 (m : Int)] 69) = w3 at *
          clear hw3
          have hebl := E3.out.lt
          have OL := Lib.hid S2.out.own_lt
          have hes : s < w2.heap.size := by omega
          have hebw : w.heap.size ≤ w2.heap.size := hlt2
          generalize heb : w2.heap.size = eb at *
          clear heb c2 S2 HB2 BE hlt2 f1 f2
          obtain ⟨g3, hg3, f1, f2, -, -⟩ := S3.out.elem hkl2
          injection hg3 with hg3
          injection hg3 with hg3
          subst hg3
          have hxy : L[k] = (x, y) := by rw [← HGD.out, List.getD_eq_getElem?_getD, List.getElem?_eq_getElem hkl2]; rfl
          rw [hxy] at f1 f2
          simp only at f1 f2
          clear hxy
          have c3 : w3.cell? ⟨s, 2, none⟩ = some (.slice (some ⟨g, 0, none⟩) L.length c) := S3.out.blk.cell 2
          have d0 : w3.cell? ⟨eb, 0, none⟩ = some (.int .i64 (fn : Int)) := E3.out.cell 0
          have d1 : w3.cell? ⟨eb, 1, none⟩ = some (.int .i64 (m : Int)) := E3.out.cell 1
          have HC := Lib.hid (fun W (hb : Below w3.heap.size w3 W) => (⟨by rw [hb.cell (cell_lt c3).1, c3], by rw [hb.cell (cell_lt f1).1, f1], by rw [hb.cell (cell_lt d0).1, d0], by rw [hb.cell (cell_lt d1).1, d1]⟩ :
            W.cell? ⟨s, 2, none⟩ = some (.slice (some ⟨g, 0, none⟩) L.length c) ∧ W.cell? ⟨g, k * 2, none⟩ = some (.int .i64 (x : Int)) ∧ W.cell? ⟨eb, 0, none⟩ = some (.int .i64 (fn : Int)) ∧ W.cell? ⟨eb, 1, none⟩ = some (.int .i64 (m : Int))))
          have HE := Lib.hid (fun W (hb : Below w3.heap.size w3 W) => (end_any (fn : Int) (m : Int) W ⟨by omega, by omega⟩ ⟨by omega, by omega⟩).mono (fun e w2 (he : e = .returned (.int .i64 ((fn : Int) + m)) ∧ Below W.heap.size W w2) => (⟨he.1, hb.trans (he.2.mono hb.size)⟩ : e = .returned (.int .i64 ((fn : Int) + m)) ∧ Below w3.heap.size w3 w2)))
          have hd0 : Below w3.heap.size w3 w3.drew := (Below.refl _ _).drew
          have hks2 : decide ((k : Int) < (L.length : Int)) = true := by simp; omega
          have hks3 : decide (k < L.length) = true := by simp; omega
          clear h1
          go_region_held3 (fun w' => Below w3.heap.size w3 w' ∧ w'.cell? ⟨s, 2, none⟩ = some (.slice (some ⟨g, 0, none⟩) L.length c) ∧ w'.cell? ⟨g, k * 2, none⟩ = some (.int .i64 (x : Int)) ∧ w'.cell? ⟨eb, 0, none⟩ = some (.int .i64 (fn : Int)) ∧ w'.cell? ⟨eb, 1, none⟩ = some (.int .i64 (m : Int)))
            (exact ⟨by assumption, (HC.out _ (by assumption)).1, (HC.out _ (by assumption)).2.1, (HC.out _ (by assumption)).2.2.1, (HC.out _ (by assumption)).2.2.2⟩)
            ((go_at_call 46; refine (HE.out _ (by assumption)).mono ?_; rintro e w4 ⟨rfl, hba⟩))
          have S4 := Lib.hid (S3.out.below hba)
          have E4 := Lib.hid (E3.out.below hba hebl)
          have HB4 := Lib.hid (HB3.out.trans (hba.mono HB3.out.size))
          clear c3 S3 E3 HB3 hebl hba f1 f2 d0 d1 HC HE hd0
          have c4 : w4.cell? ⟨s, 2, none⟩ = some (.slice (some ⟨g, 0, none⟩) L.length c) := S4.out.blk.cell 2
          have hbw2 : base ≤ w4.heap.size := Nat.le_trans hbw (by have := HB4.out.size; omega)
          by_cases hk1 : k = 0
          · have hk2 : ¬ (0 : Int) < (k : Int) := by omega
            have HJL : Hid (joinL L k fn = false) := Lib.hid (by unfold joinL; rw [decide_eq_false_iff_not]; exact fun h => by omega)
            have HK1 := Lib.hid hk1
            clear hk1
            have d0 : w4.cell? ⟨eb, 0, none⟩ = some (.int .i64 (fn : Int)) := E4.out.cell 0
            have d1 : w4.cell? ⟨eb, 1, none⟩ = some (.int .i64 (m : Int)) := E4.out.cell 1
            have cW : w4.cell? ⟨s, 2, none⟩ = some (.slice (some ⟨g, 0, none⟩) L.length c) := S4.out.blk.cell 2
            have z1 : s < w4.heap.size := S4.out.blk.lt
            have z2 : eb < w4.heap.size := E4.out.lt
            have z3 : ¬ s = w4.heap.size := by omega
            have z4 : ¬ eb = w4.heap.size := by omega
            have HR := Lib.hid (fun W' vb (hb : Below w4.heap.size w4 W') (hv : Blk W' vb 69 #[.int .i64 (fn : Int), .int .i64 (m : Int)]) (hvb : w4.heap.size ≤ vb) =>
              give_rep (W := w4) (X := (fn, m)) (i := k) (j := k) S4.out (by omega) (by omega) ⟨rfl, rfl⟩ hbw2 hb hv hvb hL)
            go_wp2_with fail
            go_region_law ((go_simp; go_at_call 47; refine (HR.out _ _ (((Below.refl _ _).alloc (Nat.le_refl _) _).drew) (Blk.new _ _ _).drew (Nat.le_refl _)).mono ?_; rintro e w10 ⟨a10, k10, c10, rfl, hown10, hc10, hf10⟩; have hB10 := give_blk S4.out hc10; have q10 : w10.cell? ⟨s, 2, none⟩ = some (.slice (some ⟨g, 0, none⟩) L.length c) := hB10.cell 2; have q11 := hB10.frozen 2))
            all_goals
              have HFIN := Lib.hid (give_end (i := k) (j := k) (x := (fn, m)) S4.out HB4.out hown10 hc10 hf10 hB10 HYES.out HK.out hL (by unfold giveX; rw [HJL.out, HJR.out]; rfl) (by rw [HJL.out]; rfl) (by rw [HJR.out]; rfl) (by simp only; omega) (by omega))
              clear hown10 hc10 hf10 hB10 q10 q11 HR
              go_wp2_with fail
              go_ret
              exact HFIN.out
          · obtain ⟨p, rfl⟩ : ∃ p, k = p + 1 := ⟨k - 1, by omega⟩
            have hpl : p < L.length := by omega
            obtain ⟨g1, ha, q1, q2, q3, q4⟩ := S4.out.elem hpl
            injection ha with ha
            injection ha with ha
            subst ha
            have hgp : L.getD p (0, 0) = L[p] := by rw [List.getD_eq_getElem?_getD, List.getElem?_eq_getElem hpl]; rfl
            have hmemp := hin3 _ (List.getElem_mem hpl)
            obtain ⟨⟨u, z⟩, huz⟩ : ∃ q : Ext, L[p] = q := ⟨_, rfl⟩
            rw [huz] at hgp q1 q2 q3 q4 hmemp
            simp only at q1 q2 q3 q4 hmemp
            have HGP := Lib.hid hgp
            have hp0 : (0 : Int) ≤ (p : Int) := by omega
            have hp1 : (p : Int) < (L.length : Int) := by omega
            have hp2 : (0 : Int) < (p : Int) + 1 := by omega
            have hp3 : IntKind.i64.wrap (p : Int) = (p : Int) := by rw [IntKind.wrap_i64]; omega
            clear hk1 huz hgp
            go_wp2_with fail
            refine (end_any (u : Int) (z : Int) w4 ⟨by omega, by omega⟩ ⟨by omega, by omega⟩).mono ?_
            rintro e w5 ⟨rfl, hb5⟩
            have S5 := Lib.hid (S4.out.below hb5)
            have E5 := Lib.hid (E4.out.below hb5 E4.out.lt)
            have HB5 := Lib.hid (HB4.out.trans (hb5.mono HB4.out.size))
            have hbw3 : base ≤ w5.heap.size := Nat.le_trans hbw2 hb5.size
            clear hb5 S4 E4 HB4 c4 q1 q2 hbw2
            have hbw2 := hbw3
            by_cases h5 : u + z = fn
            · have h5b : ((u : Int) + z == (fn : Int)) = true := by rw [beq_iff_eq]; omega
              have HJL : Hid (joinL L (p + 1) fn = true) := Lib.hid (by unfold joinL; rw [Nat.add_sub_cancel, HGP.out, decide_eq_true_eq]; exact ⟨by omega, h5⟩)
              obtain ⟨g2, ha2, r1, r2, -, -⟩ := S5.out.elem hpl
              injection ha2 with ha2
              injection ha2 with ha2
              subst ha2
              have huz : L[p] = (u, z) := by rw [← HGP.out, List.getD_eq_getElem?_getD, List.getElem?_eq_getElem hpl]; rfl
              rw [huz] at r1 r2
              simp only at r1 r2
              clear huz
              have H5 := Lib.hid h5
              have c5 : w5.cell? ⟨s, 2, none⟩ = some (.slice (some ⟨g, 0, none⟩) L.length c) := S5.out.blk.cell 2
              have d5 : w5.cell? ⟨eb, 1, none⟩ = some (.int .i64 ((m : Int))) := E5.out.cell 1
              have d6 := E5.out.frozen 0
              have d7 := E5.out.frozen 1
              have d8 : w5.cell? ⟨eb, 0, none⟩ = some (.int .i64 (fn : Int)) := E5.out.cell 0
              have x5 : IntKind.i64.wrap ((m : Int) + (z : Int)) = (m : Int) + (z : Int) := by rw [IntKind.wrap_i64]; omega
              clear h5
              go_wp2_with fail
              go_still_tail 22, (by kernel_rfl)
              change wpList _ _ _ _ _ w5.drew
              have S6 := Lib.hid (S5.out.below ((Below.refl _ _).drew))
              have E6 := Lib.hid E5.out.drew
              have HB6 := Lib.hid HB5.out.drew
              have z5 : eb < w5.drew.heap.size := E5.out.lt
              clear r1 r2 c5 d5 d6 d7 d8 S5 E5 HB5
              generalize w5.drew = w6 at *
              have d6 := E6.out.frozen 0
              have d7 := E6.out.frozen 1
              have d8 : w6.cell? ⟨eb, 0, none⟩ = some (.int .i64 (fn : Int)) := E6.out.cell 0
              have d5 : w6.cell? ⟨eb, 1, none⟩ = some (.int .i64 ((m : Int))) := E6.out.cell 1
              have hsx := give_store (x1 := (u : Int)) (x2 := (m : Int) + (z : Int)) S6.out E6.out OL.out hes HB6.out hebw
              obtain ⟨s7, e7, b7⟩ := hsx
              have S7 := Lib.hid s7
              have E7 := Lib.hid e7
              have HB7 := Lib.hid b7
              clear s7 e7 b7 S6 E6 HB6
              go_wp2_with fail
              clear d5 d6 d7 d8
              generalize (w6.setCell ⟨eb, 0, none⟩ (.int .i64 (u : Int))).setCell ⟨eb, 1, none⟩ (.int .i64 ((m : Int) + (z : Int))) = w7 at *
              have hbw2 : base ≤ w7.heap.size := Nat.le_trans hbw HB7.out.size
              have d0 : w7.cell? ⟨eb, 0, none⟩ = some (.int .i64 (u : Int)) := E7.out.cell 0
              have d1 : w7.cell? ⟨eb, 1, none⟩ = some (.int .i64 ((m : Int) + (z : Int))) := E7.out.cell 1
              have cW : w7.cell? ⟨s, 2, none⟩ = some (.slice (some ⟨g, 0, none⟩) L.length c) := S7.out.blk.cell 2
              have z1 : s < w7.heap.size := S7.out.blk.lt
              have z2 : eb < w7.heap.size := E7.out.lt
              have z3 : ¬ s = w7.heap.size := by omega
              have z4 : ¬ eb = w7.heap.size := by omega
              have HR := Lib.hid (fun W' vb (hb : Below w7.heap.size w7 W') (hv : Blk W' vb 69 #[.int .i64 (u : Int), .int .i64 ((m : Int) + (z : Int))]) (hvb : w7.heap.size ≤ vb) =>
                give_rep (W := w7) (X := (u, m + z)) (i := p) (j := (p + 1)) S7.out (by omega) (by omega) ⟨rfl, rfl⟩ hbw2 hb hv hvb hL)
              go_wp2_with fail
              go_region_law ((go_simp; go_at_call 47; refine (HR.out _ _ (((Below.refl _ _).alloc (Nat.le_refl _) _).drew) (Blk.new _ _ _).drew (Nat.le_refl _)).mono ?_; rintro e w10 ⟨a10, k10, c10, rfl, hown10, hc10, hf10⟩; have hB10 := give_blk S7.out hc10; have q10 : w10.cell? ⟨s, 2, none⟩ = some (.slice (some ⟨g, 0, none⟩) L.length c) := hB10.cell 2; have q11 := hB10.frozen 2))
              all_goals
                have HFIN := Lib.hid (give_end (i := p) (j := (p + 1)) (x := (u, m + z)) S7.out HB7.out hown10 hc10 hf10 hB10 HYES.out HK.out hL (by unfold giveX; rw [HJL.out, HJR.out, Nat.add_sub_cancel, HGP.out]; rfl) (by rw [HJL.out]; rfl) (by rw [HJR.out]; rfl) (by simp only; omega) (by omega))
                clear hown10 hc10 hf10 hB10 q10 q11 HR
                go_wp2_with fail
                go_ret
                exact HFIN.out
            · have h5b : ((u : Int) + z == (fn : Int)) = false := by rw [beq_eq_false_iff_ne]; omega
              have HJL : Hid (joinL L (p + 1) fn = false) := Lib.hid (by unfold joinL; rw [Nat.add_sub_cancel, HGP.out, decide_eq_false_iff_not]; exact fun h => h5 h.2)
              have d0 : w5.cell? ⟨eb, 0, none⟩ = some (.int .i64 (fn : Int)) := E5.out.cell 0
              have d1 : w5.cell? ⟨eb, 1, none⟩ = some (.int .i64 (m : Int)) := E5.out.cell 1
              have cW : w5.cell? ⟨s, 2, none⟩ = some (.slice (some ⟨g, 0, none⟩) L.length c) := S5.out.blk.cell 2
              have z1 : s < w5.heap.size := S5.out.blk.lt
              have z2 : eb < w5.heap.size := E5.out.lt
              have z3 : ¬ s = w5.heap.size := by omega
              have z4 : ¬ eb = w5.heap.size := by omega
              have HR := Lib.hid (fun W' vb (hb : Below w5.heap.size w5 W') (hv : Blk W' vb 69 #[.int .i64 (fn : Int), .int .i64 (m : Int)]) (hvb : w5.heap.size ≤ vb) =>
                give_rep (W := w5) (X := (fn, m)) (i := (p + 1)) (j := (p + 1)) S5.out (by omega) (by omega) ⟨rfl, rfl⟩ hbw2 hb hv hvb hL)
              go_wp2_with fail
              go_region_law ((go_simp; go_at_call 47; refine (HR.out _ _ (((Below.refl _ _).alloc (Nat.le_refl _) _).drew) (Blk.new _ _ _).drew (Nat.le_refl _)).mono ?_; rintro e w10 ⟨a10, k10, c10, rfl, hown10, hc10, hf10⟩; have hB10 := give_blk S5.out hc10; have q10 : w10.cell? ⟨s, 2, none⟩ = some (.slice (some ⟨g, 0, none⟩) L.length c) := hB10.cell 2; have q11 := hB10.frozen 2))
              all_goals
                have HFIN := Lib.hid (give_end (i := (p + 1)) (j := (p + 1)) (x := (fn, m)) S5.out HB5.out hown10 hc10 hf10 hB10 HYES.out HK.out hL (by unfold giveX; rw [HJL.out, HJR.out]; rfl) (by rw [HJL.out]; rfl) (by rw [HJR.out]; rfl) (by simp only; omega) (by omega))
                clear hown10 hc10 hf10 hB10 q10 q11 HR
                go_wp2_with fail
                go_ret
                exact HFIN.out

end Go.Proofs.Ytodjibhnmibedaa.Sp
