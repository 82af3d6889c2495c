/- The law GraphForms. -/
import Derived.Test.YtlepmefknglkeaaGrRef2
import Derived.Test.YtlepmefknglkeaaGrRef3
import Derived.Test.YtlepmefknglkeaaGrOpen
set_option linter.unusedVariables false
namespace Go.Proofs.Ytlepmefknglkeaa.Gr
open Go.RowKit

set_option maxRecDepth 100000 in
theorem awake_any (w : World) :
    Calls Try.prog 14 #[] w (Told w true) := by
  have HF := Lib.hid (fun (a : Option Addr) W (hr : ERow W a [(0, 0)]) => formed_any 1 [(0, 0)] a 1 1 W hr rfl (by omega))
  have HO := Lib.hid (fun W => ordered_any 0 [] none 0 0 W (fun i h => absurd h (by simp)) rfl (by omega))
  have e1 : formed 1 [(0, 0)] = true := by decide
  have e2 : ordered 0 [] = true := by decide
  rw [e1] at HF
  rw [e2] at HO
  go_enter Try.func14, Try.ntmps14
  go_wp2_with fail
  have hr : ERow (w.alloc (.cells #[.int .i64 0, .int .i64 0] 36)) (some ⟨w.heap.size, 0, none⟩) [(0, 0)] := by
    intro i hi
    obtain rfl : i = 0 := by simpa using hi
    exact ⟨w.heap.size, 0, rfl, (Blk.new w _ _).cell 0, (Blk.new w _ _).cell 1, by simp⟩
  have h0 : Below w.heap.size w (w.alloc (.cells #[.int .i64 0, .int .i64 0] 36)) := (Below.refl w.heap.size w).alloc (Nat.le_refl _) _
  refine (HF.out _ _ hr).mono ?_
  rintro e w1 ⟨rfl, hb1⟩
  have h1 := h0.trans (hb1.mono h0.size)
  have H1 := Lib.hid h1
  clear hr h0 hb1 h1 HF
  go_wp2_with fail
  refine (HO.out _).mono ?_
  rintro e w2 ⟨rfl, hb2⟩
  have h2 := H1.out.trans (hb2.mono H1.out.size)
  have H2 := Lib.hid h2
  clear hb2 h2
  go_wp2_with fail
  go_ret
  exact ⟨rfl, H2.out⟩

def Tw (W : World) (b : Bool) (e : Ending) (w2 : World) : Prop := e = .returned (.bool b) ∧ Below W.heap.size W w2

set_option maxRecDepth 100000 in
set_option maxHeartbeats 1000000 in
theorem GraphForms_walk {w : World} (n m : Int) (l k : List E2) (a b : Option Addr) (na nb ca cb : Nat) (ha : ERow w a l) (hb : ERow w b k) (hla : l.length = na) (hkb : k.length = nb) (hl : na ≤ 9223372036854775807) (hm : nb ≤ 9223372036854775807) :
    Calls Try.prog 3 #[.agg #[.int .i64 n, .slice a na ca], .agg #[.int .i64 m, .slice b nb cb]] w (Told w true) := by
  have h0 : Below w.heap.size w (w.alloc (.cells #[.int .i64 n, .slice a na ca] 24)) := (Below.refl w.heap.size w).alloc (Nat.le_refl _) _
  have h1 : Below w.heap.size w ((w.alloc (.cells #[.int .i64 n, .slice a na ca] 24)).alloc (.cells #[.int .i64 m, .slice b nb cb] 24)) := h0.alloc (by simp) _
  have B0 := Lib.hid ((Blk.new w 24 #[.int .i64 n, .slice a na ca]).alloc (.cells #[.int .i64 m, .slice b nb cb] 24))
  have hB1 := Blk.new (w.alloc (.cells #[.int .i64 n, .slice a na ca] 24)) 24 #[.int .i64 m, .slice b nb cb]
  rw [show (w.alloc (.cells #[.int .i64 n, .slice a na ca] 24)).heap.size = w.heap.size + 1 by simp] at hB1
  have B1 := Lib.hid hB1
  have H1 := Lib.hid h1
  have HA := Lib.hid (ha.below h1)
  have HB := Lib.hid (hb.below h1)
  clear h0 h1 hB1 ha hb
  go_enter Try.func3, Try.ntmps3
  go_wp2_with fail
  generalize (w.alloc (.cells #[.int .i64 n, .slice a na ca] 24)).alloc (.cells #[.int .i64 m, .slice b nb cb] 24) = W at *
  have Q1 := Lib.hid (fun W' (h : Below W.heap.size W W') => (awake_any W').mono (fun e w2 (he : Told W' true e w2) => (⟨he.1, h.trans (he.2.mono h.size)⟩ : Tw W true e w2)))
  have Q2 := Lib.hid (fun W' (h : Below W.heap.size W W') => (few_any n a na ca W' (by omega)).mono (fun e w2 (he : Told W' _ e w2) => (⟨he.1, h.trans (he.2.mono h.size)⟩ : Tw W _ e w2)))
  have Q3 := Lib.hid (fun W' (h : Below W.heap.size W W') => (few_any m b nb cb W' (by omega)).mono (fun e w2 (he : Told W' _ e w2) => (⟨he.1, h.trans (he.2.mono h.size)⟩ : Tw W _ e w2)))
  have Q4 := Lib.hid (fun W' (h : Below W.heap.size W W') => (formed_any n l a na ca W' (HA.out.below h) hla (by omega)).mono (fun e w2 (he : Told W' _ e w2) => (⟨he.1, h.trans (he.2.mono h.size)⟩ : Tw W _ e w2)))
  have Q5 := Lib.hid (fun W' (h : Below W.heap.size W W') => (rformed_any n l a na ca W' (HA.out.below h) hla (by omega)).mono (fun e w2 (he : Told W' _ e w2) => (⟨he.1, h.trans (he.2.mono h.size)⟩ : Tw W _ e w2)))
  have Q6 := Lib.hid (fun W' (h : Below W.heap.size W W') (q : (na : Int) ≤ 300) (q' : (nb : Int) ≤ 300) => (ordered_any n l a na ca W' (HA.out.below h) hla (by omega)).mono (fun e w2 (he : Told W' _ e w2) => (⟨he.1, h.trans (he.2.mono h.size)⟩ : Tw W _ e w2)))
  have Q7 := Lib.hid (fun W' (h : Below W.heap.size W W') (q : (na : Int) ≤ 300) (q' : (nb : Int) ≤ 300) => (rordered_any n l a na ca W' (HA.out.below h) hla (by omega)).mono (fun e w2 (he : Told W' _ e w2) => (⟨he.1, h.trans (he.2.mono h.size)⟩ : Tw W _ e w2)))
  have Q8 := Lib.hid (fun W' (h : Below W.heap.size W W') (q : (na : Int) ≤ 300) (q' : (nb : Int) ≤ 300) => (same_any n m l k a b na nb ca cb W' (HA.out.below h) (HB.out.below h) hla hkb (by omega) (by omega)).mono (fun e w2 (he : Told W' _ e w2) => (⟨he.1, h.trans (he.2.mono h.size)⟩ : Tw W _ e w2)))
  have Q9 := Lib.hid (fun W' (h : Below W.heap.size W W') (q : (na : Int) ≤ 300) (q' : (nb : Int) ≤ 300) => (rsame_any n m l k a b na nb ca cb W' (HA.out.below h) (HB.out.below h) hla hkb (by omega) (by omega)).mono (fun e w2 (he : Told W' _ e w2) => (⟨he.1, h.trans (he.2.mono h.size)⟩ : Tw W _ e w2)))
  have hsm : sameG n n l l = true := by unfold sameG sameL; simp
  have Q10 := Lib.hid (fun W' (h : Below W.heap.size W W') (q : (na : Int) ≤ 300) (q' : (nb : Int) ≤ 300) => (same_any n n l l a a na na ca ca W' (HA.out.below h) (HA.out.below h) hla hla (by omega) (by omega)).mono (fun e w2 (he : Told W' _ e w2) => (⟨he.1, h.trans (he.2.mono h.size)⟩ : Tw W _ e w2)))
  rw [hsm] at Q10
  generalize formed n l = b1 at *
  generalize ordered n l = b2 at *
  generalize sameG n m l k = b3 at *
  have cells := Lib.hid (fun W' (h : Below W.heap.size W W') => (⟨⟨(B0.out.below h B0.out.lt).cell 0, (B0.out.below h B0.out.lt).cell 1⟩, (B1.out.below h B1.out.lt).cell 0, (B1.out.below h B1.out.lt).cell 1⟩ : (W'.cell? ⟨w.heap.size, 0, none⟩ = some (.int .i64 n) ∧ W'.cell? ⟨w.heap.size, 1, none⟩ = some (.slice a na ca)) ∧ W'.cell? ⟨w.heap.size + 1, 0, none⟩ = some (.int .i64 m) ∧ W'.cell? ⟨w.heap.size + 1, 1, none⟩ = some (.slice b nb cb)))
  clear hla hkb hsm
  refine (Q1.out W (Below.refl _ _)).mono ?_
  rintro e w1 ⟨rfl, hb1⟩
  obtain ⟨⟨c1, c2⟩, c3, c4⟩ := cells.out w1 hb1
  go_wp2_with fail
  refine (Q2.out w1 hb1).mono ?_
  rintro e w2 ⟨rfl, hb2⟩
  clear c1 c2 c3 c4 hb1
  obtain ⟨⟨c1, c2⟩, c3, c4⟩ := cells.out w2 hb2
  by_cases q1 : (na : Int) ≤ 300
  · simp only [q1, decide_true]
    go_wp2_with fail
    refine (Q3.out w2 hb2).mono ?_
    rintro e w3 ⟨rfl, hb3⟩
    clear c1 c2 c3 c4 hb2
    obtain ⟨⟨c1, c2⟩, c3, c4⟩ := cells.out w3 hb3
    by_cases q2 : (nb : Int) ≤ 300
    · simp only [q2, decide_true]
      go_wp2_with fail
      have hb3d : Below W.heap.size W w3.drew := hb3.drew
      go_region_held3 (fun w' => Below W.heap.size W w' ∧ w'.cell? ⟨w.heap.size, 0, none⟩ = some (.int .i64 n) ∧ w'.cell? ⟨w.heap.size, 1, none⟩ = some (.slice a na ca) ∧ w'.cell? ⟨w.heap.size + 1, 0, none⟩ = some (.int .i64 m) ∧ w'.cell? ⟨w.heap.size + 1, 1, none⟩ = some (.slice b nb cb))
        (exact ⟨by assumption, (cells.out _ (by assumption)).1.1, (cells.out _ (by assumption)).1.2, (cells.out _ (by assumption)).2.1, (cells.out _ (by assumption)).2.2⟩)
        ((first | (go_at_call 16; refine (Q4.out _ (by assumption)).mono ?_; rintro e w4 ⟨rfl, hb4⟩) | (go_at_call 17; refine (Q5.out _ (by assumption)).mono ?_; rintro e w5 ⟨rfl, hb5⟩) | (go_at_call 18; refine (Q6.out _ (by assumption) q1 q2).mono ?_; rintro e w6 ⟨rfl, hb6⟩) | (go_at_call 19; refine (Q7.out _ (by assumption) q1 q2).mono ?_; rintro e w7 ⟨rfl, hb7⟩) | (go_at_call 20; have hh9 := hb9; refine (Q10.out _ (by assumption) q1 q2).mono ?_; rintro e w10 ⟨rfl, hb10⟩) | (go_at_call 20; refine (Q8.out _ (by assumption) q1 q2).mono ?_; rintro e w8 ⟨rfl, hb8⟩) | (go_at_call 21; refine (Q9.out _ (by assumption) q1 q2).mono ?_; rintro e w9 ⟨rfl, hb9⟩)))
      go_wp2_with fail
      go_ret
      exact ⟨rfl, H1.out.trans (hb10.mono H1.out.size)⟩
    · simp only [q2, decide_false]
      go_wp2_with fail
      refine (Q1.out w3 hb3).mono ?_
      rintro e w4 ⟨rfl, hb4⟩
      go_wp2_with fail
      go_ret
      exact ⟨rfl, H1.out.trans (hb4.mono H1.out.size)⟩
  · simp only [q1, decide_false]
    go_wp2_with fail
    refine (Q1.out w2 hb2).mono ?_
    rintro e w4 ⟨rfl, hb4⟩
    go_wp2_with fail
    go_ret
    exact ⟨rfl, H1.out.trans (hb4.mono H1.out.size)⟩

theorem GraphForms_law {w : World} (cs : Array Value) (g : Int × List (Int × Int)) (h : rdGraph w cs.toList g) (cs' : Array Value) (g' : Int × List (Int × Int)) (h' : rdGraph w cs'.toList g') :
    Calls Try.prog 3 #[.agg cs, .agg cs'] w fun e w' => e = .returned (.bool true) ∧ Below w.heap.size w w' := by
  obtain ⟨a, m, c, rfl, h1, h2, h3, _⟩ := graph_open h
  obtain ⟨a', m', c', rfl, h1', h2', h3', _⟩ := graph_open h'
  exact GraphForms_walk g.1 g'.1 g.2 g'.2 a a' m m' c c' h1 h1' h2 h2' h3 h3'

end Go.Proofs.Ytlepmefknglkeaa.Gr
