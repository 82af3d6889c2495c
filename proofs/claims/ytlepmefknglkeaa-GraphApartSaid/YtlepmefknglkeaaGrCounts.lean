/- The law GraphCounts. -/
import Derived.Test.YtlepmefknglkeaaGrLoops2
import Derived.Test.YtlepmefknglkeaaGrForms
set_option linter.unusedVariables false
namespace Go.Proofs.Ytlepmefknglkeaa.Gr
open Go.RowKit

def ListTold (xs : List Int) (er : Int) (w : World) (e : Ending) (w' : World) : Prop :=
  ∃ a n c, e = .returned (.tuple #[.slice a n c, .int .i64 er]) ∧ Row w' a (ints xs) ∧ xs.length = n ∧ Below w.heap.size w w'
def degX (n : Int) (l : List E2) : List Int := if formed n l = true then degI n.toNat l else []
def lpX (n : Int) (l : List E2) : List Int := if formed n l = true then lpI l else []
def erX (n : Int) (l : List E2) : Int := if formed n l = true then 0 else 1

theorem told_nil {w w' : World} {e : Ending} (h : e = .returned (.tuple #[.slice none 0 0, .int .i64 1]) ∧ Below w.heap.size w w') : ListTold [] 1 w e w' :=
  ⟨none, 0, 0, h.1, Row.nil _ _, rfl, h.2⟩
theorem told_own {w w' : World} {e : Ending} {v : Value} {n : Nat} {xs : List Int} {ys : List Value} (he : e = .returned (.tuple #[v, .int .i64 0])) (ho : w'.ownsRow w.heap.size 3 1 v n ys) (hb : Below w.heap.size w w') (hy : ys = ints xs) : ListTold xs 0 w e w' := by
  subst hy
  obtain ⟨a, c, rfl, hr, _, _, hl⟩ := own_slice ho
  exact ⟨a, n, c, he, hr, by rw [← hl, ints_len], hb⟩

theorem formed_nat {n : Int} {l : List E2} (h : formed n l = true) : n = (n.toNat : Int) := by
  unfold formed small at h
  simp only [Bool.and_eq_true, decide_eq_true_eq] at h
  omega

theorem deg_told (n : Int) (l : List E2) (a : Option Addr) (m c : Nat) (w : World) (hr : ERow w a l) (hm : l.length = m) (hmm : m ≤ 9223372036854775807) :
    Calls Try.prog 22 #[.agg #[.int .i64 n, .slice a m c]] w (ListTold (degX n l) (erX n l) w) := by
  unfold degX erX
  cases hf : formed n l
  · rw [if_neg (by simp), if_neg (by simp)]
    exact (degrees_no n l a m c w hr hm hmm hf).mono fun _ _ h => told_nil h
  · rw [if_pos rfl, if_pos rfl]
    have hn := formed_nat hf
    rw [hn] at hf ⊢
    exact (degrees_ok n.toNat l a m c w hr hm hmm hf).mono fun _ _ ⟨v, h1, h2, h3⟩ => told_own h1 h2 h3 (degs_ints _ _)
theorem rdeg_told (n : Int) (l : List E2) (a : Option Addr) (m c : Nat) (w : World) (hr : ERow w a l) (hm : l.length = m) (hmm : m ≤ 9223372036854775807) :
    Calls Try.prog 23 #[.agg #[.int .i64 n, .slice a m c]] w (ListTold (degX n l) (erX n l) w) := by
  unfold degX erX
  cases hf : formed n l
  · rw [if_neg (by simp), if_neg (by simp)]
    exact (rdegrees_no n l a m c w hr hm hmm hf).mono fun _ _ h => told_nil h
  · rw [if_pos rfl, if_pos rfl]
    have hn := formed_nat hf
    rw [hn] at hf ⊢
    exact (rdegrees_ok n.toNat l a m c w hr hm hmm hf).mono fun _ _ ⟨v, h1, h2, h3⟩ => told_own h1 h2 h3 (degs_ints _ _)
theorem lp_told (n : Int) (l : List E2) (a : Option Addr) (m c : Nat) (w : World) (hr : ERow w a l) (hm : l.length = m) (hmm : m ≤ 9223372036854775807) :
    Calls Try.prog 24 #[.agg #[.int .i64 n, .slice a m c]] w (ListTold (lpX n l) (erX n l) w) := by
  unfold lpX erX
  cases hf : formed n l
  · rw [if_neg (by simp), if_neg (by simp)]
    exact (loops_no n l a m c w hr hm hmm hf).mono fun _ _ h => told_nil h
  · rw [if_pos rfl, if_pos rfl]
    exact (loops_ok n l a m c w hr hm hmm hf).mono fun _ _ ⟨v, h1, h2, h3⟩ => told_own h1 h2 h3 (lps_ints _)
theorem rlp_told (n : Int) (l : List E2) (a : Option Addr) (m c : Nat) (w : World) (hr : ERow w a l) (hm : l.length = m) (hmm : m ≤ 9223372036854775807) :
    Calls Try.prog 25 #[.agg #[.int .i64 n, .slice a m c]] w (ListTold (lpX n l) (erX n l) w) := by
  unfold lpX erX
  cases hf : formed n l
  · rw [if_neg (by simp), if_neg (by simp)]
    exact (rloops_no n l a m c w hr hm hmm hf).mono fun _ _ h => told_nil h
  · rw [if_pos rfl, if_pos rfl]
    exact (rloops_ok n l a m c w hr hm hmm hf).mono fun _ _ ⟨v, h1, h2, h3⟩ => told_own h1 h2 h3 (lps_ints _)
theorem degX_le {n : Int} {l : List E2} (h : n ≤ 500) : (degX n l).length ≤ 500 := by
  unfold degX degI
  split
  · simp; omega
  · simp
theorem lpX_le (n : Int) (l : List E2) : (lpX n l).length ≤ l.length := by
  unfold lpX
  split
  · have := List.length_filter_le (fun i => decide ((l.getD i (0, 0)).1 = (l.getD i (0, 0)).2)) (List.range l.length)
    simp only [lpI, List.length_map, List.length_range] at this ⊢
    exact this
  · simp

set_option maxRecDepth 100000 in
set_option maxHeartbeats 1000000 in
theorem GraphCounts_walk {w : World} (n : Int) (l : List E2) (a : Option Addr) (na ca : Nat) (ha : ERow w a l) (hla : l.length = na) (hl : na ≤ 9223372036854775807) :
    Calls Try.prog 4 #[.agg #[.int .i64 n, .slice a na ca]] w (Told w true) := by
  have h0 : Below w.heap.size w (w.alloc (.cells #[.int .i64 n, .slice a na ca] 24)) := (Below.refl w.heap.size w).alloc (Nat.le_refl _) _
  have B0 := Lib.hid (Blk.new w 24 #[.int .i64 n, .slice a na ca])
  have H1 := Lib.hid h0
  have HA := Lib.hid (ha.below h0)
  clear h0 ha
  go_enter Try.func4, Try.ntmps4
  go_wp2_with fail
  generalize w.alloc (.cells #[.int .i64 n, .slice a na ca] 24) = W at *
  have Q1 := Lib.hid (fun W' (h : Below W.heap.size W W') => (awake_any W').mono (fun e w2 (he : Told W' true e w2) => (⟨he.1, h.trans (he.2.mono h.size)⟩ : Tw W true e w2)))
  have Q2 := Lib.hid (fun W' (h : Below W.heap.size W W') => (few_any n a na ca W' (by omega)).mono (fun e w2 (he : Told W' _ e w2) => (⟨he.1, h.trans (he.2.mono h.size)⟩ : Tw W _ e w2)))
  have cells := Lib.hid (fun W' (h : Below W.heap.size W W') => (⟨(B0.out.below h B0.out.lt).cell 0, (B0.out.below h B0.out.lt).cell 1⟩ : W'.cell? ⟨w.heap.size, 0, none⟩ = some (.int .i64 n) ∧ W'.cell? ⟨w.heap.size, 1, none⟩ = some (.slice a na ca)))
  refine (Q1.out W (Below.refl _ _)).mono ?_
  rintro e w1 ⟨rfl, hb1⟩
  obtain ⟨c1, c2⟩ := cells.out w1 hb1
  go_wp2_with fail
  refine (Q2.out w1 hb1).mono ?_
  rintro e w2 ⟨rfl, hb2⟩
  clear c1 c2 hb1
  obtain ⟨c1, c2⟩ := cells.out w2 hb2
  by_cases q1 : (na : Int) ≤ 300
  · simp only [q1, decide_true]
    by_cases q2 : (500 : Int) < n
    · go_wp2_with fail
      refine (Q1.out w2 hb2).mono ?_
      rintro e w4 ⟨rfl, hb4⟩
      go_wp2_with fail
      go_ret
      exact ⟨rfl, H1.out.trans (hb4.mono H1.out.size)⟩
    · have hdl := degX_le (n := n) (l := l) (by omega)
      have hll := lpX_le n l
      rw [hla] at hll
      have L1 := Lib.hid (fun W' (h : Below W.heap.size W W') => deg_told n l a na ca W' (HA.out.below h) hla hl)
      have L2 := Lib.hid (fun W' (h : Below W.heap.size W W') => rdeg_told n l a na ca W' (HA.out.below h) hla hl)
      have L3 := Lib.hid (fun W' (h : Below W.heap.size W W') => lp_told n l a na ca W' (HA.out.below h) hla hl)
      have L4 := Lib.hid (fun W' (h : Below W.heap.size W W') => rlp_told n l a na ca W' (HA.out.below h) hla hl)
      generalize degX n l = xs at *
      generalize lpX n l = ys at *
      generalize erX n l = er at *
      go_wp2_with fail
      refine (L1.out w2 hb2).mono ?_
      rintro e w3 ⟨a3, n3, d3, rfl, hr3, hn3, hs3⟩
      have hb3 := hb2.trans (hs3.mono hb2.size)
      clear c1 c2 hs3 hb2
      obtain ⟨c1, c2⟩ := cells.out w3 hb3
      go_wp2_with fail
      refine (L2.out w3 hb3).mono ?_
      rintro e w4 ⟨a4, n4, d4, rfl, hr4, hn4, hs4⟩
      have hb4 := hb3.trans (hs4.mono hb3.size)
      replace hr3 := hr3.below hs4
      clear c1 c2 hs4 hb3
      obtain ⟨c1, c2⟩ := cells.out w4 hb4
      go_wp2_with fail
      refine (L3.out w4 hb4).mono ?_
      rintro e w5 ⟨a5, n5, d5, rfl, hr5, hn5, hs5⟩
      have hb5 := hb4.trans (hs5.mono hb4.size)
      replace hr3 := hr3.below hs5
      replace hr4 := hr4.below hs5
      clear c1 c2 hs5 hb4
      obtain ⟨c1, c2⟩ := cells.out w5 hb5
      go_wp2_with fail
      refine (L4.out w5 hb5).mono ?_
      rintro e w6 ⟨a6, n6, d6, rfl, hr6, hn6, hs6⟩
      have hb6 := hb5.trans (hs6.mono hb5.size)
      replace hr3 := hr3.below hs6
      replace hr4 := hr4.below hs6
      replace hr5 := hr5.below hs6
      have I1 := ints_any xs xs a3 a4 n3 n4 d3 d4 w6 hr3 hr4 hn3 hn4 (by omega) (by omega)
      rw [decide_eq_true rfl] at I1
      have HI1 := Lib.hid I1
      have HI2 := Lib.hid (fun W' (h : Below w6.heap.size w6 W') => ints_any ys ys a5 a6 n5 n6 d5 d6 W' (hr5.below h) (hr6.below h) hn5 hn6 (by omega) (by omega))
      have HB6 := Lib.hid (H1.out.trans (hb6.mono H1.out.size))
      have hee : (er == er) = true := by simp
      clear c1 c2 hs6 hb5 hb6 I1 hr3 hr4 hr5 hr6 L1 L2 L3 L4
      go_wp2_with fail
      refine HI1.out.mono ?_
      rintro e w7 ⟨rfl, hb7⟩
      go_wp2_with fail
      have I2 := HI2.out w7 hb7
      simp only [decide_true] at I2
      have HB7 := Lib.hid (HB6.out.trans (hb7.mono HB6.out.size))
      refine I2.mono ?_
      rintro e w8 ⟨rfl, hb8⟩
      have HB8 := Lib.hid (HB7.out.trans (hb8.mono HB7.out.size))
      clear hb8 hb7 I2
      go_wp2_with fail
      go_ret
      exact ⟨rfl, HB8.out⟩
  · simp only [q1, decide_false]
    go_wp2_with fail
    refine (Q1.out w2 hb2).mono ?_
    rintro e w4 ⟨rfl, hb4⟩
    go_wp2_with fail
    go_ret
    exact ⟨rfl, H1.out.trans (hb4.mono H1.out.size)⟩

theorem GraphCounts_law {w : World} (cs : Array Value) (g : Int × List (Int × Int)) (h : rdGraph w cs.toList g) :
    Calls Try.prog 4 #[.agg cs] w fun e w' => e = .returned (.bool true) ∧ Below w.heap.size w w' := by
  obtain ⟨a, m, c, rfl, h1, h2, h3, _⟩ := graph_open h
  exact GraphCounts_walk g.1 g.2 a m c h1 h2 h3

end Go.Proofs.Ytlepmefknglkeaa.Gr
