/- The law GraphOrders. -/
import Derived.Test.YtlepmefknglkeaaGrOrderR
import Derived.Test.YtlepmefknglkeaaGrForms
set_option linter.unusedVariables false
namespace Go.Proofs.Ytlepmefknglkeaa.Gr
open Go.RowKit

/-- A graph in a block of its own, its edges in a row. -/
structure GBox (w : World) (b : Nat) (n : Int) (a : Option Addr) (m c : Nat) (l : List E2) : Prop where
  blk : Blk w b 24 #[.int .i64 n, .slice a m c]
  row : ERow w a l
  len : l.length = m
theorem GBox.below {w w' : World} {b : Nat} {n : Int} {a : Option Addr} {m c : Nat} {l : List E2} (h : GBox w b n a m c l) (hb : Below w.heap.size w w') : GBox w' b n a m c l :=
  ⟨h.blk.below hb h.blk.lt, h.row.below hb, h.len⟩
theorem GBox.new {w : World} {a : Option Addr} {m : Nat} {l : List E2} (n : Int) (c : Nat) (h : ERow w a l) (hl : l.length = m) : GBox (w.alloc (.cells #[.int .i64 n, .slice a m c] 24)) w.heap.size n a m c l :=
  ⟨Blk.new w _ _, h.below ((Below.refl _ _).alloc (Nat.le_refl _) _), hl⟩
theorem GBox.cells {w : World} {b : Nat} {n : Int} {a : Option Addr} {m c : Nat} {l : List E2} (h : GBox w b n a m c l) : w.cell? ⟨b, 0, none⟩ = some (.int .i64 n) ∧ w.cell? ⟨b, 1, none⟩ = some (.slice a m c) ∧ b < w.heap.size :=
  ⟨h.blk.cell 0, h.blk.cell 1, h.blk.lt⟩
theorem below_new (w : World) (o : Obj) : Below w.heap.size w (w.alloc o) := (Below.refl _ _).alloc (Nat.le_refl _) _
theorem Below.then_ {B : Nat} {w w1 w2 : World} (h : Below B w w1) (hB : B ≤ w1.heap.size) (k : Below w1.heap.size w1 w2) : Below B w w2 := h.trans (k.mono hB)

theorem few_some (n : Int) (a : Option Addr) (m c : Nat) (w : World) (hm : m ≤ 9223372036854775807) :
    Calls Try.prog 15 #[.agg #[.int .i64 n, .slice a m c]] w (Told w (decide ((m : Int) ≤ 300))) := few_any n a m c w hm

set_option maxRecDepth 100000 in
set_option maxHeartbeats 1000000 in
theorem GraphOrders_walk {w : World} (n : Int) (l : List E2) (a : Option Addr) (na ca : Nat) (ha : ERow w a l) (hla : l.length = na) (hl : na ≤ 9223372036854775807) :
    Calls Try.prog 5 #[.agg #[.int .i64 n, .slice a na ca]] w (Told w true) := by
  have G0 := Lib.hid (GBox.new n ca ha hla)
  have h0 := below_new w (.cells #[.int .i64 n, .slice a na ca] 24)
  have H0 := Lib.hid h0
  have hz := h0.size
  clear h0 ha
  go_enter Try.func5, Try.ntmps5
  go_wp2_with fail
  generalize w.alloc (.cells #[.int .i64 n, .slice a na ca] 24) = W at *
  refine (awake_any W).mono ?_
  rintro e w1 ⟨rfl, hb⟩
  have G1 := Lib.hid (G0.out.below hb)
  have H1 := Lib.hid (H0.out.trans (hb.mono hz))
  replace hz := H1.out.size
  obtain ⟨c1, c2, c3⟩ := G1.out.cells
  clear hb G0 H0
  go_wp2_with fail
  refine (few_any n a na ca w1 (by omega)).mono ?_
  rintro e w2 ⟨rfl, hb⟩
  have G2 := Lib.hid (G1.out.below hb)
  have H2 := Lib.hid (H1.out.trans (hb.mono hz))
  replace hz := H2.out.size
  clear c1 c2 c3
  obtain ⟨c1, c2, c3⟩ := G2.out.cells
  clear hb G1 H1
  by_cases q1 : (na : Int) ≤ 300
  · simp only [q1, decide_true]
    have O1 := Lib.hid (order_told n l a na ca w2 G2.out.row hla hl)
    have O2 := Lib.hid (fun W' (h : Below w2.heap.size w2 W') => rorder_told n l a na ca W' (G2.out.row.below h) hla (by omega))
    have hol : (ordX n l).length ≤ 300 := by unfold ordX; split <;> simp [ordL_length] <;> omega
    generalize ordX n l = lo at *
    generalize ordN n l = no at *
    generalize erO n l = er at *
    go_wp2_with fail
    refine O1.out.mono ?_
    rintro e w3 ⟨a3, m3, d3, rfl, hr3, hl3, hb⟩
    have hb' := hb.trans ((below_new w3 (.cells #[.int .i64 no, .slice a3 m3 d3] 24)).mono hb.size)
    have A3 := Lib.hid (GBox.new no d3 hr3 hl3)
    have O3 := Lib.hid (O2.out _ hb')
    have G3 := Lib.hid (G2.out.below hb')
    have H3 := Lib.hid (H2.out.trans (hb'.mono hz))
    clear c1 c2 c3
    obtain ⟨c1, c2, c3⟩ := (G2.out.below hb).cells
    clear hb hb' hr3 O1 O2 G2 H2
    go_wp2_with fail
    generalize hW4 : w3.alloc (.cells #[.int .i64 no, .slice a3 m3 d3] 24) = w4 at *
    refine O3.out.mono ?_
    rintro e w5 ⟨a5, m5, d5, rfl, hr5, hl5, hb⟩
    have hb' := hb.trans ((below_new w5 (.cells #[.int .i64 no, .slice a5 m5 d5] 24)).mono hb.size)
    have A5 := Lib.hid (A3.out.below hb')
    have B5 := Lib.hid (GBox.new no d5 hr5 hl5)
    have H5 := Lib.hid (H3.out.trans (hb'.mono H3.out.size))
    clear c1 c2 c3
    obtain ⟨c1, c2, c3⟩ := (A3.out.below hb).cells
    have hS := rsame_any no no lo lo a3 a5 m3 m5 d3 d5 _ A5.out.row B5.out.row hl3 hl5 (by omega) (by omega)
    rw [show sameG no no lo lo = true by unfold sameG sameL; simp] at hS
    have HS := Lib.hid hS
    have hee : (er == er) = true := by simp
    clear hb hb' hr5 A3 G3 H3 A5 B5 O3 hS hW4
    go_wp2_with fail
    refine HS.out.mono ?_
    rintro e w7 ⟨rfl, hb7⟩
    have H7 := Lib.hid (H5.out.trans (hb7.mono H5.out.size))
    go_wp2_with fail
    go_ret
    exact ⟨rfl, H7.out⟩
  · simp only [q1, decide_false]
    go_wp2_with fail
    refine (awake_any w2).mono ?_
    rintro e w4 ⟨rfl, hb⟩
    go_wp2_with fail
    go_ret
    exact ⟨rfl, H2.out.trans (hb.mono hz)⟩

theorem GraphOrders_law {w : World} (cs : Array Value) (g : Int × List (Int × Int)) (h : rdGraph w cs.toList g) :
    Calls Try.prog 5 #[.agg cs] w fun e w' => e = .returned (.bool true) ∧ Below w.heap.size w w' := by
  obtain ⟨a, m, c, rfl, h1, h2, h3, _⟩ := graph_open h
  exact GraphOrders_walk g.1 g.2 a m c h1 h2 h3

end Go.Proofs.Ytlepmefknglkeaa.Gr
