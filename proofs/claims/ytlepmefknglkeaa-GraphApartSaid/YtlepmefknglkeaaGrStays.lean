/- The law GraphStays. -/
import Derived.Test.YtlepmefknglkeaaGrStaysP
import Derived.Test.YtlepmefknglkeaaGrOrders
import Derived.Test.YtlepmefknglkeaaGrCounts
set_option linter.unusedVariables false
namespace Go.Proofs.Ytlepmefknglkeaa.Gr
open Go.RowKit

theorem same_self (n : Int) (l : List E2) : sameG n n l l = true := by unfold sameG sameL; simp
theorem deg_ok (N : Nat) (l : List E2) (a : Option Addr) (m c : Nat) (w : World) (hr : ERow w a l) (hm : l.length = m) (hmm : m ≤ 9223372036854775807) (hf : formed N l = true) :
    Calls Try.prog 22 #[.agg #[.int .i64 (N : Int), .slice a m c]] w (ListTold (degI N l) 0 w) :=
  (degrees_ok N l a m c w hr hm hmm hf).mono fun _ _ ⟨v, h1, h2, h3⟩ => told_own h1 h2 h3 (degs_ints _ _)

def TurnLoop (n : Int) (l : List E2) (d : Nat) (W : World) (q : Nat) (iv : Value) (wr : World) : Prop :=
  ∃ (k : Nat) (v : Value), iv = .int .i64 (k : Int) ∧ k ≤ l.length ∧ Blk wr q 24 #[.int .i64 n, v] ∧ wr.ownsRow W.heap.size 36 2 v k (flatE (turnL l d k)) ∧ Chg (fun j => j = q) W wr
def SumLoop (N : Nat) (l : List E2) (W : World) (sv iv : Value) (wr : World) : Prop :=
  ∃ k m : Nat, iv = .int .i64 (k : Int) ∧ sv = .int .i64 (sumTo l k : Int) ∧ k ≤ N ∧ W.drewN m = wr

set_option maxRecDepth 100000 in
set_option maxHeartbeats 2000000 in
theorem GraphStays_walk {w : World} (n : Int) (l : List E2) (a : Option Addr) (na ca : Nat) (ha : ERow w a l) (hla : l.length = na) (hl : na ≤ 9223372036854775807) (d : Nat) (hd : d < 65536) :
    Calls Try.prog 9 #[.agg #[.int .i64 n, .slice a na ca], .int .u16 (d : Int)] w (Told w true) := by
  subst hla
  have G0 := Lib.hid (GBox.new n ca ha rfl)
  have h0 := below_new w (.cells #[.int .i64 n, .slice a l.length ca] 24)
  have H0 := Lib.hid h0
  have hz := h0.size
  clear h0 ha
  go_enter Try.func9, Try.ntmps9
  go_wp2_with fail
  generalize w.alloc (.cells #[.int .i64 n, .slice a l.length ca] 24) = W at *
  refine (awake_any W).mono ?_
  rintro e w1 ⟨rfl, hb⟩
  have G1 := Lib.hid (G0.out.below hb)
  have H1 := Lib.hid (H0.out.trans (hb.mono hz))
  replace hz := H1.out.size
  obtain ⟨c1, c2, c3⟩ := G1.out.cells
  clear hb G0 H0
  go_wp2_with fail
  refine (few_any n a l.length ca w1 (by omega)).mono ?_
  rintro e w2 ⟨rfl, hb⟩
  have G2 := Lib.hid (G1.out.below hb)
  have H2 := Lib.hid (H1.out.trans (hb.mono hz))
  replace hz := H2.out.size
  clear c1 c2 c3
  obtain ⟨c1, c2, c3⟩ := G2.out.cells
  clear hb G1 H1
  by_cases q1 : (l.length : Int) ≤ 300
  · simp only [q1, decide_true]
    by_cases q2 : (500 : Int) < n
    · go_wp2_with fail
      refine (awake_any w2).mono ?_
      rintro e w4 ⟨rfl, hb⟩
      go_wp2_with fail
      go_ret
      exact ⟨rfl, H2.out.trans (hb.mono hz)⟩
    · go_wp2_with fail
      refine (formed_any n l a l.length ca w2 G2.out.row rfl (by omega)).mono ?_
      rintro e w3 ⟨rfl, hb⟩
      have G3 := Lib.hid (G2.out.below hb)
      have H3 := Lib.hid (H2.out.trans (hb.mono hz))
      replace hz := H3.out.size
      clear c1 c2 c3
      obtain ⟨c1, c2, c3⟩ := G3.out.cells
      clear hb G2 H2
      cases hf : formed n l
      · go_wp2_with fail
        refine (awake_any w3).mono ?_
        rintro e w4 ⟨rfl, hb⟩
        go_wp2_with fail
        go_ret
        exact ⟨rfl, H3.out.trans (hb.mono hz)⟩
      · obtain ⟨N, rfl⟩ : ∃ N : Nat, n = (N : Int) := ⟨n.toNat, formed_nat hf⟩
        have HFO := Lib.hid hf
        have O1 := Lib.hid (order_ok N l a l.length ca w3 G3.out.row rfl hl hf)
        clear hf
        go_wp2_with fail
        refine O1.out.mono ?_
        rintro e w4 ⟨a4, m4, d4, rfl, hr4, hl4, hb⟩
        obtain rfl : m4 = l.length := by rw [← hl4, ordL_length]
        have hb' := hb.trans ((below_new w4 (.cells #[.int .i64 (N : Int), .slice a4 l.length d4] 24)).mono hb.size)
        have A5 := Lib.hid (GBox.new (N : Int) d4 hr4 hl4)
        have G5 := Lib.hid (G3.out.below hb')
        have H5 := Lib.hid (H3.out.trans (hb'.mono hz))
        obtain ⟨x1, x2, x3⟩ := A5.out.cells
        clear c1 c2 c3 hb hb' hr4 O1 G3 H3
        go_wp2_with fail
        replace hz := H5.out.size
        have hq5 : w4.heap.size < (w4.alloc (.cells #[.int .i64 (N : Int), .slice a4 l.length d4] 24)).heap.size := by simp
        generalize w4.alloc (.cells #[.int .i64 (N : Int), .slice a4 l.length d4] 24) = w5 at *
        generalize w4.heap.size = bA at *
        have O2 := order_ok N (ordL l) a4 l.length d4 w5 A5.out.row hl4 (by omega) (formed_ord HFO.out)
        rw [ordL_idem] at O2
        refine O2.mono ?_
        clear O2
        rintro e w6 ⟨a6, m6, d6, rfl, hr6, hl6, hb⟩
        obtain rfl : m6 = l.length := by rw [← hl6, ordL_length]
        have hb' := hb.trans ((below_new w6 (.cells #[.int .i64 (N : Int), .slice a6 l.length d6] 24)).mono hb.size)
        have hB7 := GBox.new (N : Int) d6 hr6 hl6
        have A6 := A5.out.below hb
        have G6 := G5.out.below hb
        have B7 := Lib.hid hB7
        have A7 := Lib.hid (A5.out.below hb')
        have G7 := Lib.hid (G5.out.below hb')
        have H7 := Lib.hid (H5.out.trans (hb'.mono hz))
        obtain ⟨c1, c2, c3⟩ := G6.cells
        clear hb hb' hr6 hB7 A6 G6 A5 G5 H5 x1 x2 x3
        go_wp2_with fail
        have hq7 : (w6.alloc (.cells #[.int .i64 (N : Int), .slice a6 l.length d6] 24)).heap.size = w6.heap.size + 1 := by simp
        generalize w6.alloc (.cells #[.int .i64 (N : Int), .slice a6 l.length d6] 24) = w7 at *
        have hB8 := Blk.new w7 24 #[.int .i64 (N : Int), .slice none 0 0]
        have b8 := below_new w7 (.cells #[.int .i64 (N : Int), .slice none 0 0] 24)
        have hq8 : (w7.alloc (.cells #[.int .i64 (N : Int), .slice none 0 0] 24)).heap.size = w7.heap.size + 1 := by simp
        rw [← hq7]
        generalize hq : w6.heap.size = bB at *
        have B8 := Lib.hid b8
        clear c1 c2 c3 b8 hq7 hq
        generalize w7.alloc (.cells #[.int .i64 (N : Int), .slice none 0 0] 24) = W8 at *
        have hwd : IntKind.i64.wrap (d : Int) = (d : Int) := by rw [IntKind.wrap_i64]; omega
        go_loopw [10] (fun iv wr => TurnLoop N l d W8 w7.heap.size iv wr) (fun iv _ => l.length - (intOf iv).toNat)
        case atStart => exact ⟨0, _, rfl, by omega, hB8, World.ownsRow_nil _ _ _ _, Chg.refl _ _⟩
        case round =>
          obtain ⟨k, v, rfl, hk, hB, hown, hc⟩ := hrel
          have hbw : Below w7.heap.size w7 wr := B8.out.trans (hc.below_of (by omega) (fun j hj e => by omega))
          have HW := Lib.hid hbw
          have hwz := hbw.size
          have hlq := hB.lt
          obtain ⟨c1, c2, c3⟩ := (G7.out.below hbw).cells
          have HB := Lib.hid hB
          have HO := Lib.hid hown
          have HC := Lib.hid hc
          have HK := Lib.hid hk
          clear hbw hB hown hc hk hB8
          by_cases hlt : (k : Int) < l.length
          · have hlp : 0 < l.length := by omega
            have hm := Nat.mod_lt (k + d) hlp
            obtain ⟨b1, o1, rfl, e1, e2, hb1⟩ := (G7.out.row.below' HW.out) _ hm
            have hts := turnL_succ l d k hm
            have t1 : IntKind.i64.wrap ((k : Int) + d) = (k : Int) + d := by rw [IntKind.wrap_i64]; omega
            have t2 : ((k : Int) + d).tmod (l.length : Int) = (((k + d) % l.length : Nat) : Int) := by
              rw [Int.tmod_eq_emod_of_nonneg (by omega), Int.natCast_emod, Int.natCast_add]
            have HTS := Lib.hid hts
            clear hts
            generalize hj : (k + d) % l.length = j at *
            generalize l[j] = p at *
            obtain ⟨u, y⟩ := p
            simp only at e1 e2
            have t3 : (0 : Int) ≤ (j : Int) := by omega
            have t4 : (j : Int) < l.length := by omega
            have t5 : ¬ (l.length : Int) = 0 := by omega
            have t6 : ¬ l = [] := by rintro rfl; simp at hlp
            have t7 : ((l.length : Int) == 0) = false := by simp [t6]
            have qc : wr.cell? ⟨w7.heap.size, 1, none⟩ = some v := HB.out.cell 1
            have qf := HB.out.frozen 1
            have hbw1 : b1 < wr.heap.size := by omega
            go_wp2_with fail
            go_region_held3 (fun w' => w'.cell? ⟨b1, o1 + j * 2, none⟩ = some (.int .i64 u) ∧ w'.cell? ⟨b1, o1 + j * 2 + 1, none⟩ = some (.int .i64 y) ∧ w'.cell? ⟨w.heap.size, 1, none⟩ = some (.slice (some ⟨b1, o1, none⟩) l.length ca))
              (go_keep)
              (fail)
            have hrow : Row ((wr.alloc (.cells #[.int .i64 u, .int .i64 y] 36)).alloc (.cells #[.int .i64 y, .int .i64 u] 36)).drew (some ⟨wr.heap.size + 1, 0, none⟩) (flatE [(y, u)]) := by
              have := Row.new (wr.alloc (.cells #[.int .i64 u, .int .i64 y] 36)) #[.int .i64 y, .int .i64 u] 36 (0, 0)
              rw [show (wr.alloc (.cells #[.int .i64 u, .int .i64 y] 36)).heap.size = wr.heap.size + 1 by simp] at this
              exact this
            have hod : ((wr.alloc (.cells #[.int .i64 u, .int .i64 y] 36)).alloc (.cells #[.int .i64 y, .int .i64 u] 36)).drew.ownsRow W8.heap.size 36 2 v k (flatE (turnL l d k)) := (HO.out.alloc _).alloc _
            have HRW := Lib.hid hrow
            have HOD := Lib.hid hod
            clear hrow hod
            go_wp2_with (at_builtin; go_must (refine wpList_append rfl (.tmp 71) (.tmp 77) _ rfl el_edge W8.heap.size _ _ _ rfl HOD.out _ 1 1 (flatE [(y, u)]) rfl rfl HRW.out (flatE_one _) (by unfold maxLen; omega) (by omega) (by simp; omega) ?_))
            intro v2 w2 hown2 hg2 _ hb2
            rw [← flatE_append, show (y, u) = swapE (u, y) from rfl, ← HTS.out] at hown2
            obtain ⟨g, cap, rfl, z1, z2, z3, hB2, hB3, hE3, hC3⟩ := app_facts (o1 := .cells #[.int .i64 u, .int .i64 y] 36) (o2 := .cells #[.int .i64 y, .int .i64 u] 36) hq8 HC.out HB.out HO.out hown2 ⟨hg2.os, hg2.tape, hg2.output, hg2.size, hg2.block⟩
            have m1 : w2.cell? ⟨w7.heap.size, 1, none⟩ = some v := hB2.cell 1
            have mf := hB2.frozen 1
            have HB3 := Lib.hid hB3
            have HO3 := Lib.hid (hE3.own (base := W8.heap.size) (turnL_length l d (k + 1)) (by omega) z1 z2)
            have HC3 := Lib.hid hC3
            clear hown2 hg2 hb2 hB2 hB3 hE3 hC3
            go_wp2_with fail
            go_roundw
            case rel => exact ⟨k + 1, _, by go_num, by omega, HB3.out, HO3.out, HC3.out⟩
            case measure => simp [intOf]; omega
          · obtain rfl : k = l.length := by have := HK.out; omega
            have hor := HO.out
            have hfo : ∃ av cv, v = .slice av l.length cv := by
              rcases hor.2 with ⟨rfl, h0⟩ | ⟨g, cap, cur, rfl, _⟩
              · exact ⟨none, 0, by rw [h0]⟩
              · exact ⟨_, _, rfl⟩
            obtain ⟨av, cv, rfl⟩ := hfo
            have hER : ERow wr av (turnL l d l.length) := by
              rcases hor.2 with ⟨he, h0⟩ | ⟨g, cap, cur, he, _⟩
              · intro i hi
                rw [turnL_length] at hi
                omega
              · cases he
                exact (EBlk.of_own hor).1.row
            have HT := Lib.hid (show GBox wr w7.heap.size (N : Int) av l.length cv (turnL l d l.length) from ⟨HB.out, hER, turnL_length l d l.length⟩)
            have G9 := Lib.hid (G7.out.below HW.out)
            have A9 := Lib.hid (A7.out.below HW.out)
            have B9 := Lib.hid (B7.out.below HW.out)
            have H9 := Lib.hid (H7.out.trans (HW.out.mono H7.out.size))
            obtain ⟨x1, x2, x3⟩ := HT.out.cells
            clear hor hER HO HB HC HW G7 A7 B7 H7 HK
            go_wp2_with fail
            have O3 := order_ok N (turnL l d l.length) av l.length cv wr HT.out.row (turnL_length l d l.length) hl (turnL_formed d HFO.out)
            rw [turnL_ord] at O3
            refine O3.mono ?_
            clear O3
            rintro e w10 ⟨a10, m10, d10, rfl, hr10, hl10, hb⟩
            obtain rfl : m10 = l.length := by rw [← hl10, ordL_length]
            have hb' := hb.trans ((below_new w10 (.cells #[.int .i64 (N : Int), .slice a10 l.length d10] 24)).mono hb.size)
            have C11 := Lib.hid (GBox.new (N : Int) d10 hr10 hl10)
            have G11 := Lib.hid (G9.out.below hb')
            have A11 := Lib.hid (A9.out.below hb')
            have B11 := Lib.hid (B9.out.below hb')
            have H11 := Lib.hid (H9.out.trans (hb'.mono H9.out.size))
            clear c1 c2 c3 x1 x2 x3
            obtain ⟨c1, c2, c3⟩ := (A9.out.below hb).cells
            clear hb hb' hr10 G9 A9 B9 H9 HT
            go_wp2_with fail
            generalize w10.alloc (.cells #[.int .i64 (N : Int), .slice a10 l.length d10] 24) = w11 at *
            generalize w10.heap.size = bC at *
            clear c1 c2 c3
            have P1 := ordered_any (N : Int) (ordL l) a4 l.length d4 w11 A11.out.row hl4 (by omega)
            rw [ordered_ord HFO.out] at P1
            refine P1.mono ?_
            clear P1
            rintro e w12 ⟨rfl, hb⟩
            have C12 := Lib.hid (C11.out.below hb)
            have G12 := Lib.hid (G11.out.below hb)
            have A12 := Lib.hid (A11.out.below hb)
            have B12 := Lib.hid (B11.out.below hb)
            have H12 := Lib.hid (H11.out.trans (hb.mono H11.out.size))
            clear hb G11 A11 B11 C11 H11
            obtain ⟨c1, c2, c3⟩ := A12.out.cells
            obtain ⟨x1, x2, x3⟩ := B12.out.cells
            go_wp2_with fail
            have P2 := same_any (N : Int) (N : Int) (ordL l) (ordL l) a4 a6 l.length l.length d4 d6 w12 A12.out.row B12.out.row hl4 hl6 (by omega) (by omega)
            rw [same_self] at P2
            refine P2.mono ?_
            clear P2
            rintro e w13 ⟨rfl, hb⟩
            have C13 := Lib.hid (C12.out.below hb)
            have G13 := Lib.hid (G12.out.below hb)
            have A13 := Lib.hid (A12.out.below hb)
            have H13 := Lib.hid (H12.out.trans (hb.mono H12.out.size))
            clear hb G12 A12 B12 C12 H12 c1 c2 c3 x1 x2 x3
            obtain ⟨c1, c2, c3⟩ := A13.out.cells
            obtain ⟨x1, x2, x3⟩ := C13.out.cells
            go_wp2_with fail
            have P3 := same_any (N : Int) (N : Int) (ordL l) (ordL l) a4 a10 l.length l.length d4 d10 w13 A13.out.row C13.out.row hl4 hl10 (by omega) (by omega)
            rw [same_self] at P3
            refine P3.mono ?_
            clear P3
            rintro e w14 ⟨rfl, hb⟩
            have G14 := Lib.hid (G13.out.below hb)
            have A14 := Lib.hid (A13.out.below hb)
            have H14 := Lib.hid (H13.out.trans (hb.mono H13.out.size))
            clear hb G13 A13 C13 H13 c1 c2 c3 x1 x2 x3
            obtain ⟨c1, c2, c3⟩ := G14.out.cells
            go_wp2_with fail
            refine (deg_ok N l a l.length ca w14 G14.out.row rfl hl HFO.out).mono ?_
            rintro e w15 ⟨a15, n15, d15, rfl, hr15, hn15, hb⟩
            have G15 := Lib.hid (G14.out.below hb)
            have A15 := Lib.hid (A14.out.below hb)
            have H15 := Lib.hid (H14.out.trans (hb.mono H14.out.size))
            have R15 := Lib.hid hr15
            clear hb hr15 G14 A14 H14 c1 c2 c3
            obtain ⟨c1, c2, c3⟩ := A15.out.cells
            go_wp2_with fail
            have P4 := deg_ok N (ordL l) a4 l.length d4 w15 A15.out.row hl4 (by omega) (formed_ord HFO.out)
            rw [degI_ord] at P4
            refine P4.mono ?_
            clear P4
            rintro e w16 ⟨a16, n16, d16, rfl, hr16, hn16, hb⟩
            have G16 := Lib.hid (G15.out.below hb)
            have H16 := Lib.hid (H15.out.trans (hb.mono H15.out.size))
            have R16 := Lib.hid (R15.out.below hb)
            have S16 := Lib.hid hr16
            have hlen : (degI N l).length = N := by simp [degI]
            clear hb hr16 G15 A15 H15 R15 c1 c2 c3
            obtain rfl : N = n15 := by omega
            obtain rfl : N = n16 := by omega
            obtain ⟨c1, c2, c3⟩ := G16.out.cells
            have hN : N ≤ 500 := by omega
            have hsl := sumTo_le l
            have hsa := sumTo_all rfl (formed_mem HFO.out)
            have HSL := Lib.hid hsl
            have HSA := Lib.hid hsa
            clear hsl hsa
            go_wp2_with fail
            go_loopw [18, 19] (fun sv iv wr => SumLoop N l w16 sv iv wr) (fun _ iv _ => N - (intOf iv).toNat)
            case atStart => exact ⟨0, 0, rfl, rfl, by omega, rfl⟩
            case round =>
              obtain ⟨k, m, rfl, rfl, hk, rfl⟩ := hrel
              by_cases hlt : (k : Int) < N
              · have k1 : k < N := by omega
                obtain ⟨b1, o1, rfl, e1, l1⟩ := R16.out.at_ (i := k) (by rw [ints_len]; omega)
                obtain ⟨b2, o2, rfl, e2, l2⟩ := S16.out.at_ (i := k) (by rw [ints_len]; omega)
                have hv : (ints (degI N l))[k]'(by rw [ints_len]; omega) = .int .i64 (cnt l (k : Int) : Int) := by simp [ints, degI]
                rw [hv] at e1 e2
                have hsu : sumTo l (k + 1) = sumTo l k + cnt l (k : Int) := rfl
                have hsb := HSL.out (k + 1)
                have HSU := Lib.hid hsu
                have t1 : IntKind.i64.wrap ((sumTo l k : Int) + (cnt l (k : Int) : Int)) = (sumTo l k : Int) + (cnt l (k : Int) : Int) := by rw [IntKind.wrap_i64]; omega
                have t2 : (0 : Int) ≤ (k : Int) := by omega
                have t3 : decide ((N : Int) ≤ (k : Int)) = false := decide_eq_false (by omega)
                clear hsu hsb hv
                have f1 : (w16.drewN m).cell? ⟨b1, o1 + k, none⟩ = some (.int .i64 (cnt l (k : Int) : Int)) := e1
                have f2 : (w16.drewN m).cell? ⟨b2, o2 + k, none⟩ = some (.int .i64 (cnt l (k : Int) : Int)) := e2
                go_wp2_with fail
                go_quiet (fail)
                go_wp2_with fail
                go_roundw
                case rel => exact ⟨k + 1, _, by go_num, by rw [HSU.out]; go_num, by omega, rfl⟩
                case measure => simp [intOf]; omega
              · obtain rfl : k = N := by omega
                have hsum : (sumTo l k : Int) = 2 * (l.length : Int) := by have := HSA.out; omega
                rw [hsum]
                have t1 : IntKind.i64.wrap (2 * (l.length : Int)) = 2 * (l.length : Int) := by rw [IntKind.wrap_i64]; omega
                have t2 : ((k : Int) == (k : Int)) = true := by simp
                have t3 : (2 * (l.length : Int) == 2 * (l.length : Int)) = true := by simp
                clear hsum
                go_wp2_with fail
                go_ret
                exact ⟨rfl, below_d H16.out _⟩
  · simp only [q1, decide_false]
    go_wp2_with fail
    refine (awake_any w2).mono ?_
    rintro e w4 ⟨rfl, hb⟩
    go_wp2_with fail
    go_ret
    exact ⟨rfl, H2.out.trans (hb.mono hz)⟩

theorem GraphStays_law {w : World} (cs : Array Value) (g : Int × List (Int × Int)) (h : rdGraph w cs.toList g) (x : Int) (hx : (Lit.int .u16 x).wf = true) :
    Calls Try.prog 9 #[.agg cs, .int .u16 x] w fun e w' => e = .returned (.bool true) ∧ Below w.heap.size w w' := by
  obtain ⟨a, m, c, rfl, h1, h2, h3, _⟩ := graph_open h
  have hx2 : 0 ≤ x ∧ x < 65536 := by simp only [Lit.wf, Bool.and_eq_true, IntKind.min, IntKind.max, IntKind.signed, IntKind.bits] at hx; simp at hx; omega
  obtain ⟨d, rfl⟩ : ∃ d : Nat, x = (d : Int) := ⟨x.toNat, by omega⟩
  exact GraphStays_walk g.1 g.2 a m c h1 h2 h3 d (by omega)

end Go.Proofs.Ytlepmefknglkeaa.Gr
