/- The law FormatEncodes: what wakes it, and the refusals of Encode. -/
import Derived.Test.YtlepmefknglkeaaFmtEncR
import Derived.Test.YtlepmefknglkeaaGrCounts
import Derived.Test.YtlepmefknglkeaaGrOrders
import Derived.Test.YtlepmefknglkeaaFmtConv
set_option linter.unusedVariables false
namespace Go.Proofs.Ytlepmefknglkeaa.Gr
open Go.RowKit Var

theorem two_ord : ordL [(0, 1), (1, 1)] = [(0, 1), (1, 1)] := by
  refine (srt_unique (l := [(0, 1), (1, 1)].map normE) (List.Perm.refl _) ?_).symm
  show List.Pairwise (fun x y : E2 => lessE y x = false) _
  decide
theorem two_enc : encB (ordL [(0, 1), (1, 1)]) 2 = [71, 2, 2, 1, 1, 1, 0] := by
  rw [two_ord]
  have p0 : pre [(0, 1), (1, 1)] 0 = 0 := by decide
  have p1 : pre [(0, 1), (1, 1)] 1 = 1 := by decide
  have p2 : pre [(0, 1), (1, 1)] 2 = 2 := by decide
  have q0 : put 0 = [0] := put_small (by omega)
  have q1 : put 1 = [1] := put_small (by omega)
  have q2 : put 2 = [2] := put_small (by omega)
  have r0 : rowU [(0, 1), (1, 1)] 0 = [(0, 1)] := by decide
  have r1 : rowU [(0, 1), (1, 1)] 1 = [(1, 1)] := by decide
  simp [encB, headB, body, encU, List.range_succ, p0, p1, p2, q0, q1, q2, r0, r1, dl]

set_option maxRecDepth 100000 in
theorem encode_no2 (n : Int) (l : List E2) (a : Option Addr) (m c : Nat) (w : World) (hr : ERow w a l) (hm : l.length = m) (hmm : m ≤ 9223372036854775807) (hf : formed n l = false) :
    Calls Try.prog 31 #[.agg #[.int .i64 n, .slice a m c]] w (EncTold2 [] 1 w) := by
  subst hm
  have h0 := below_new' w (.cells #[.int .i64 n, .slice a l.length c] 24)
  have O1 := Lib.hid (order_no n l a l.length c _ (hr.below h0) rfl hmm hf)
  have B0 := Lib.hid (Blk.new w 24 #[.int .i64 n, .slice a l.length c])
  have H0 := Lib.hid h0
  clear h0 hr hf
  go_enter Try.func31, Try.ntmps31
  go_wp2_with fail
  generalize w.alloc (.cells #[.int .i64 n, .slice a l.length c] 24) = W0 at *
  refine O1.out.mono ?_
  rintro e w1 ⟨a1, m1, d1, rfl, hr1, hl1, hb1⟩
  have B1 := B0.out.below hb1 B0.out.lt
  have k0 := B1.frozen 0
  have k1 := B1.frozen 1
  have c0 : w1.cell? ⟨w.heap.size, 0, none⟩ = some (.int .i64 n) := B1.cell 0
  have c1 : w1.cell? ⟨w.heap.size, 1, none⟩ = some (.slice a l.length c) := B1.cell 1
  have hl1 := B1.lt
  have H1 := Lib.hid (((H0.out.trans (hb1.mono H0.out.size)).setCell (show w.heap.size ≤ w.heap.size from Nat.le_refl _) (.int .i64 0) : Below w.heap.size w (w1.setCell ⟨w.heap.size, 0, none⟩ (.int .i64 0))).setCell (show w.heap.size ≤ w.heap.size from Nat.le_refl _) (.slice a1 m1 d1) : Below w.heap.size w ((w1.setCell ⟨w.heap.size, 0, none⟩ (.int .i64 0)).setCell ⟨w.heap.size, 1, none⟩ (.slice a1 m1 d1)))
  clear B1 hb1 hr1 O1 B0
  go_wp2_with fail
  go_ret2
  exact ⟨none, 0, 0, rfl, Row.nil _ _, rfl, H1.out, Nat.le_refl _⟩
theorem encode_no (n : Int) (l : List E2) (a : Option Addr) (m c : Nat) (w : World) (hr : ERow w a l) (hm : l.length = m) (hmm : m ≤ 9223372036854775807) (hf : formed n l = false) :
    Calls Try.prog 31 #[.agg #[.int .i64 n, .slice a m c]] w (EncTold [] 1 w) :=
  (encode_no2 n l a m c w hr hm hmm hf).mono fun _ _ ⟨a, m, c, h1, h2, h3, h4, _⟩ => ⟨a, m, c, h1, h2, h3, h4⟩

set_option maxRecDepth 100000 in
theorem rencode_no (n : Int) (l : List E2) (a : Option Addr) (m c : Nat) (w : World) (hr : ERow w a l) (hm : l.length = m) (hmm : m ≤ 300) (hf : formed n l = false) :
    Calls Try.prog 32 #[.agg #[.int .i64 n, .slice a m c]] w (EncTold [] 1 w) := by
  subst hm
  have h0 := below_new' w (.cells #[.int .i64 n, .slice a l.length c] 24)
  have O1 := Lib.hid (rorder_no n l a l.length c _ (hr.below h0) rfl hmm hf)
  have H0 := Lib.hid h0
  clear h0 hr hf
  go_enter Try.func32, Try.ntmps32
  go_wp2_with fail
  generalize w.alloc (.cells #[.int .i64 n, .slice a l.length c] 24) = W0 at *
  refine O1.out.mono ?_
  rintro e w1 ⟨a1, m1, d1, rfl, hr1, hl1, hb1⟩
  have H1 := Lib.hid ((H0.out.trans (hb1.mono H0.out.size)).alloc (Nat.le_trans H0.out.size hb1.size) (.cells #[.int .i64 0, .slice a1 m1 d1] 24))
  clear hb1 hr1 O1
  go_wp2_with fail
  go_ret2
  exact ⟨none, 0, 0, rfl, Row.nil _ _, rfl, H1.out⟩

def encX (n : Int) (l : List E2) : List Nat := if formed n l = true then encB (ordL l) n.toNat else []
theorem encode_told (n : Int) (l : List E2) (a : Option Addr) (m c : Nat) (w : World) (hr : ERow w a l) (hm : l.length = m) (hmm : m ≤ 9223372036854775807) :
    Calls Try.prog 31 #[.agg #[.int .i64 n, .slice a m c]] w (EncTold (encX n l) (erO n l) w) := by
  unfold encX erO
  cases hf : formed n l
  · rw [if_neg (by simp), if_neg (by simp)]
    exact encode_no n l a m c w hr hm hmm hf
  · rw [if_pos rfl, if_pos rfl]
    have hn := formed_nat hf
    rw [hn] at hf ⊢
    exact encode_ok n.toNat l a m c w hr hm hmm hf
theorem encode_told2 (n : Int) (l : List E2) (a : Option Addr) (m c : Nat) (w : World) (hr : ERow w a l) (hm : l.length = m) (hmm : m ≤ 9223372036854775807) :
    Calls Try.prog 31 #[.agg #[.int .i64 n, .slice a m c]] w (EncTold2 (encX n l) (erO n l) w) := by
  unfold encX erO
  cases hf : formed n l
  · rw [if_neg (by simp), if_neg (by simp)]
    exact encode_no2 n l a m c w hr hm hmm hf
  · rw [if_pos rfl, if_pos rfl]
    have hn := formed_nat hf
    rw [hn] at hf ⊢
    exact encode_ok2 n.toNat l a m c w hr hm hmm hf
theorem rencode_told (n : Int) (l : List E2) (a : Option Addr) (m c : Nat) (w : World) (hr : ERow w a l) (hm : l.length = m) (hmm : m ≤ 300) :
    Calls Try.prog 32 #[.agg #[.int .i64 n, .slice a m c]] w (EncTold (encX n l) (erO n l) w) := by
  unfold encX erO
  cases hf : formed n l
  · rw [if_neg (by simp), if_neg (by simp)]
    exact rencode_no n l a m c w hr hm hmm hf
  · rw [if_pos rfl, if_pos rfl]
    have hn := formed_nat hf
    rw [hn] at hf ⊢
    exact rencode_ok n.toNat l a m c w hr hm hmm hf

set_option maxRecDepth 100000 in
theorem rfew_any (n x y : Int) (a : Option Addr) (m c : Nat) (w : World) (hm : m ≤ 9223372036854775807) :
    Calls Try.prog 30 #[.agg #[.int .i64 n, .slice a m c], .int .i64 x, .int .i64 y] w (Told w (decide (n ≤ x) && decide ((m : Int) ≤ y))) := by
  have H0 := Lib.hid (below_new' w (.cells #[.int .i64 n, .slice a m c] 24))
  by_cases h1 : n ≤ x
  · by_cases h2 : (m : Int) ≤ y
    · have HQ := Lib.hid (show (decide (n ≤ x) && decide ((m : Int) ≤ y)) = true by simp [h1, h2])
      go_enter Try.func30, Try.ntmps30
      go_wp2_with fail
      go_ret
      exact ⟨congrArg (fun b => Ending.returned (.bool b)) HQ.out.symm, H0.out⟩
    · go_enter Try.func30, Try.ntmps30
      go_wp2_with fail
      go_ret
      exact ⟨congrArg (fun b => Ending.returned (.bool b)) (by simp [h1]; try omega), H0.out⟩
  · have HQ := Lib.hid (show (decide (n ≤ x) && decide ((m : Int) ≤ y)) = false by simp [h1])
    go_enter Try.func30, Try.ntmps30
    go_wp2_with fail
    go_ret
    exact ⟨congrArg (fun b => Ending.returned (.bool b)) HQ.out.symm, H0.out⟩

theorem str_awake : strOf [71, 2, 2, 1, 1, 1, 0] = ⟨#[71, 2, 2, 1, 1, 1, 0]⟩ := by decide

set_option maxRecDepth 100000 in
theorem awake4_any (w : World) :
    Calls Try.prog 29 #[] w (Told w true) := by
  have hr : ERow (w.alloc (.cells #[.int .i64 0, .int .i64 1, .int .i64 1, .int .i64 1] 36)) (some ⟨w.heap.size, 0, none⟩) [(0, 1), (1, 1)] := by
    have h := Row.new w #[.int .i64 0, .int .i64 1, .int .i64 1, .int .i64 1] 36 (0, 0)
    exact Row.erow (l := [(0, 1), (1, 1)]) h
  have hE := encode_ok 2 [(0, 1), (1, 1)] _ 2 2 _ hr rfl (by omega) (by decide)
  rw [two_enc] at hE
  have HE := Lib.hid hE
  have H0 := Lib.hid (below_new' w (.cells #[.int .i64 0, .int .i64 1, .int .i64 1, .int .i64 1] 36))
  clear hr hE
  go_enter Try.func29, Try.ntmps29
  go_wp2_with fail
  refine HE.out.mono ?_
  rintro e w1 ⟨a1, m1, c1, rfl, hr1, hl1, hb1⟩
  obtain rfl : 7 = m1 := hl1
  have H1 := Lib.hid (H0.out.trans (hb1.mono H0.out.size))
  have hconv := conv_any [71, 2, 2, 1, 1, 1, 0] a1 7 c1 w1 hr1 rfl (by omega)
  rw [str_awake] at hconv
  clear hr1 hb1 HE
  go_wp2_with fail
  go_ret
  exact ⟨rfl, H1.out⟩

set_option maxRecDepth 100000 in
set_option maxHeartbeats 1000000 in
theorem FormatEncodes_walk {w : World} (n : Int) (l : List E2) (a : Option Addr) (na ca : Nat) (ha : ERow w a l) (hla : l.length = na) (hl : na ≤ 9223372036854775807) :
    Calls Try.prog 7 #[.agg #[.int .i64 n, .slice a na ca]] w (Told w true) := by
  have G0 := Lib.hid (GBox.new n ca ha hla)
  have h0 := below_new w (.cells #[.int .i64 n, .slice a na ca] 24)
  have H0 := Lib.hid h0
  have hz := h0.size
  clear h0 ha
  go_enter Try.func7, Try.ntmps7
  go_wp2_with fail
  generalize w.alloc (.cells #[.int .i64 n, .slice a na ca] 24) = W at *
  refine (awake4_any W).mono ?_
  rintro e w1 ⟨rfl, hb⟩
  have G1 := Lib.hid (G0.out.below hb)
  have H1 := Lib.hid (H0.out.trans (hb.mono hz))
  replace hz := H1.out.size
  obtain ⟨c1, c2, c3⟩ := G1.out.cells
  clear hb G0 H0
  go_wp2_with fail
  refine (rfew_any n 500 300 a na ca w1 hl).mono ?_
  rintro e w2 ⟨rfl, hb⟩
  have G2 := Lib.hid (G1.out.below hb)
  have H2 := Lib.hid (H1.out.trans (hb.mono hz))
  replace hz := H2.out.size
  clear c1 c2 c3
  obtain ⟨c1, c2, c3⟩ := G2.out.cells
  clear hb G1 H1
  cases hq : (decide (n ≤ 500) && decide ((na : Int) ≤ 300))
  · go_wp2_with fail
    refine (awake4_any w2).mono ?_
    rintro e w4 ⟨rfl, hb⟩
    go_wp2_with fail
    go_ret
    exact ⟨rfl, H2.out.trans (hb.mono hz)⟩
  · simp only [Bool.and_eq_true, decide_eq_true_eq] at hq
    obtain ⟨q1, q2⟩ := hq
    have O1 := Lib.hid (encode_told n l a na ca w2 G2.out.row hla hl)
    have O2 := Lib.hid (fun W' (h : Below w2.heap.size w2 W') => rencode_told n l a na ca W' (G2.out.row.below h) hla (by omega))
    have hlen : (encX n l).length ≤ 1000000 := by
      unfold encX
      split
      · rename_i hf
        have hn := formed_nat hf
        rw [hn] at hf
        have F := fine_ord hf
        have h1 := head_len (N := n.toNat) (M := (ordL l).length) (by omega) (by rw [ordL_length]; omega)
        have h2 := body_len F n.toNat (Nat.le_refl _)
        have h3 := pre_le (ordL l) ((n.toNat : Nat) : Int)
        rw [ordL_length] at h3
        unfold encB
        rw [List.length_append]
        omega
      · simp
    generalize encX n l = bs at *
    generalize erO n l = er at *
    go_wp2_with fail
    refine O1.out.mono ?_
    rintro e w3 ⟨a3, m3, d3, rfl, hr3, hl3, hb⟩
    have O3 := Lib.hid (O2.out _ hb)
    have R3 := Lib.hid hr3
    have H3 := Lib.hid (H2.out.trans (hb.mono hz))
    clear c1 c2 c3
    obtain ⟨c1, c2, c3⟩ := (G2.out.below hb).cells
    clear hb hr3 O1 O2 G2 H2
    go_wp2_with fail
    refine O3.out.mono ?_
    rintro e w5 ⟨a5, m5, d5, rfl, hr5, hl5, hb⟩
    have H5 := Lib.hid (H3.out.trans (hb.mono H3.out.size))
    obtain rfl : m3 = m5 := by omega
    have HS := Lib.hid (ref_same bs a3 a5 m3 d3 d5 w5 (R3.out.below hb) hr5 hl3 (by omega))
    have hee : (er == er) = true := by simp
    clear hb hr5 R3 H3 O3 c1 c2 c3
    go_wp2_with fail
    refine HS.out.mono ?_
    rintro e w7 ⟨rfl, hb7⟩
    have H7 := Lib.hid (H5.out.trans (hb7.mono H5.out.size))
    go_wp2_with fail
    go_ret
    exact ⟨rfl, H7.out⟩

theorem FormatEncodes_law {w : World} (cs : Array Value) (g : Int × List (Int × Int)) (h : rdGraph w cs.toList g) :
    Calls Try.prog 7 #[.agg cs] w fun e w' => e = .returned (.bool true) ∧ Below w.heap.size w w' := by
  obtain ⟨a, m, c, rfl, h1, h2, h3, _⟩ := graph_open h
  exact FormatEncodes_walk g.1 g.2 a m c h1 h2 h3

end Go.Proofs.Ytlepmefknglkeaa.Gr
