/- The law JoinCuts. -/
import Derived.Test.YtlbaigkpojkfjaaZJnKeeps
import Derived.Test.YtlbaigkpojkfjaaZJnRefC
import Derived.Test.YtlbaigkpojkfjaaZReg4
set_option linter.unusedVariables false
namespace Go.Proofs.Ytlbaigkpojkfjaa.Fl
open Go.RowKit

theorem ord_cell (o0 o1 o2 o3 o4 : Int) (i : Nat) (hi : i < 5) : (#[.int .i64 o0, .int .i64 o1, .int .i64 o2, .int .i64 o3, .int .i64 o4] : Array Value)[i]? = some (.int .i64 (([o0, o1, o2, o3, o4] : List Int).getD i 0)) := by
  obtain rfl | rfl | rfl | rfl | rfl : i = 0 ∨ i = 1 ∨ i = 2 ∨ i = 3 ∨ i = 4 := by omega
  all_goals rfl
theorem ints5_open {w : World} {ds : Array Value} {os : List Int} (h : rdArr 5 1 (rdInt .i64) w ds.toList os) : ∃ o0 o1 o2 o3 o4 : Int, ds = #[.int .i64 o0, .int .i64 o1, .int .i64 o2, .int .i64 o3, .int .i64 o4] ∧ ∀ k ∈ [o0, o1, o2, o3, o4], -9223372036854775808 ≤ k ∧ k < 9223372036854775808 := by
  obtain ⟨hc, hl, hr⟩ := h
  obtain ⟨ds⟩ := ds
  match os, hl with
  | [a, b, c, d, e], _ =>
    match ds, hc with
    | [v0, v1, v2, v3, v4], _ =>
      have r0 := hr 0 (by simp)
      have r1 := hr 1 (by simp)
      have r2 := hr 2 (by simp)
      have r3 := hr 3 (by simp)
      have r4 := hr 4 (by simp)
      simp [rdInt] at r0 r1 r2 r3 r4
      refine ⟨a, b, c, d, e, by rw [r0.1, r1.1, r2.1, r3.1, r4.1], fun k hk => ?_⟩
      simp at hk
      rcases hk with rfl | rfl | rfl | rfl | rfl
      · exact u_bounds.2.2.2.2 r0.2
      · exact u_bounds.2.2.2.2 r1.2
      · exact u_bounds.2.2.2.2 r2.2
      · exact u_bounds.2.2.2.2 r3.2
      · exact u_bounds.2.2.2.2 r4.2
def CutsLoop (o : List Int) (wN : Nat) (w6 : World) (nv bv iv : Value) (wr : World) : Prop :=
  ∃ (i n : Nat) (b : Bool), nv = .int .i64 (n : Int) ∧ bv = .bool b ∧ iv = .int .i64 (i : Int) ∧ i ≤ 5 ∧ n ≤ i ∧ Below w6.heap.size w6 wr ∧ (b = true → formedO o = false ∨ cutN wN o = none) ∧ (b = false → formedO o = true ∧ wgo wN n (o.drop i) = cutN wN o)
set_option maxRecDepth 100000 in
set_option maxHeartbeats 8000000 in
theorem JoinCuts_walk {w : World} (x : Nat) (hx : x < 256) (o0 o1 o2 o3 o4 : Int) (hbo : ∀ k ∈ [o0, o1, o2, o3, o4], -9223372036854775808 ≤ k ∧ k < 9223372036854775808) (a : Option Addr) (c : Nat) (l : List Tup) (hT : ∀ K : Key, w.heap.size ≤ K.base → Tps K w a l) (ht5 : ∀ t ∈ l, t.length = 5) (hll : l.length ≤ maxLen) :
    Calls Try.prog 5 #[.agg #[.int .u8 (x : Int), .slice a l.length c], .agg #[.int .i64 o0, .int .i64 o1, .int .i64 o2, .int .i64 o3, .int .i64 o4]] w (fun e w' => e = .returned (.bool true) ∧ Below w.heap.size w w') := by
  obtain ⟨wN, hwN⟩ : ∃ wN, wN = 1 + x % 5 := ⟨_, rfl⟩
  have hbl : Below w.heap.size w ((w.alloc (.cells #[.int .u8 (x : Int), .slice a l.length c] 24)).alloc (.cells #[.int .i64 o0, .int .i64 o1, .int .i64 o2, .int .i64 o3, .int .i64 o4] 48)) := ((Below.refl _ _).alloc (Nat.le_refl _) _).alloc (by simp) _
  have HB := Lib.hid hbl
  have hF := (Blk.new w 24 #[.int .u8 (x : Int), .slice a l.length c]).alloc (.cells #[.int .i64 o0, .int .i64 o1, .int .i64 o2, .int .i64 o3, .int .i64 o4] 48)
  have hY := Blk.new (w.alloc (.cells #[.int .u8 (x : Int), .slice a l.length c] 24)) 48 #[.int .i64 o0, .int .i64 o1, .int .i64 o2, .int .i64 o3, .int .i64 o4]
  rw [show (w.alloc (.cells #[.int .u8 (x : Int), .slice a l.length c] 24)).heap.size = w.heap.size + 1 from by simp] at hY
  have HY := Lib.hid hY
  have HF := Lib.hid hF
  have HX := Lib.hid (And.intro hwN hx)
  have HBO := Lib.hid hbo
  clear hbo
  have HT5 := Lib.hid ht5
  have HTP := Lib.hid hT
  have hz0 : w.heap.size < ((w.alloc (.cells #[.int .u8 (x : Int), .slice a l.length c] 24)).alloc (.cells #[.int .i64 o0, .int .i64 o1, .int .i64 o2, .int .i64 o3, .int .i64 o4] 48)).heap.size := hF.lt
  clear hbl hF hY ht5 hT hwN hx
  go_enter Try.func5, Try.ntmps5
  go_wp2_with fail
  generalize ((w.alloc (.cells #[.int .u8 (x : Int), .slice a l.length c] 24)).alloc (.cells #[.int .i64 o0, .int .i64 o1, .int .i64 o2, .int .i64 o3, .int .i64 o4] 48)) = w1 at *
  refine (work13_ok w1).mono ?_
  rintro e w2 ⟨K, rfl, hI2, hK, hb2⟩
  have HI2 := Lib.hid hI2
  have HK := Lib.hid hK
  have HB2 := Lib.hid hb2
  clear hI2 hK hb2
  go_wp2_with fail
  refine (awake13_any w2).mono ?_
  rintro e w3 ⟨rfl, hb3⟩
  have HI3 := Lib.hid (HI2.out.below hb3)
  have HB3 := Lib.hid (HB2.out.trans (hb3.mono HB2.out.size))
  clear hb3 HI2 HB2
  have hF3 := HF.out.below HB3.out HF.out.lt
  have j0 : w3.cell? ⟨w.heap.size, 0, none⟩ = some (.int .u8 (x : Int)) := hF3.cell 0
  have j1 : w3.cell? ⟨w.heap.size, 1, none⟩ = some (.slice a l.length c) := hF3.cell 1
  have HF3 := Lib.hid hF3
  have hY3 := HY.out.below HB3.out HY.out.lt
  have HY3 := Lib.hid hY3
  have HTL := Lib.hid (((HTP.out K (by have := HK.out; omega)).below HB.out).below HB3.out)
  clear hF3 HF HTP hY3 HY
  by_cases hno : 200 < l.length ∨ allB wN l = false
  · have HL := Lib.hid (lay13_no x wN K.wk l a c w3 HX.out.1 HX.out.2 HTL.out HT5.out hno)
    clear hno
    go_wp2_with fail
    refine HL.out.mono ?_
    rintro e w4 ⟨rfl, hb4⟩
    unfold noFile
    have HB4 := Lib.hid (HB.out.trans ((HB3.out.trans (hb4.mono HB3.out.size)).mono (Nat.le_of_lt hz0)))
    clear hb4 HL
    go_wp2_with fail
    go_ret
    exact ⟨rfl, HB4.out.alloc HB4.out.size _⟩
  have hle : l.length ≤ 200 := by omega
  have hall : allB wN l = true := by
    cases h : allB wN l with
    | true => rfl
    | false => exact absurd (.inr h) hno
  have HL := Lib.hid (lay13_yes x wN l a c w3 HX.out.1 HX.out.2 HI3.out fine0 rfl (fun g hg => by
    unfold O0
    have := HB3.out.size
    rw [HK.out]
    omega) (by omega) (by omega) HTL.out HT5.out hle hall)
  clear hno hall
  go_wp2_with fail
  refine HL.out.mono ?_
  rintro e w4 ⟨first, W4, O4, rfl, ho4, hI4, ht4, f4, hfa4, hh4, af4⟩
  unfold fcells
  have hb4 := Turn.belowB HI3.out HK.out (fun _ h => h.elim) HB3.out ht4
  have hbn : Below w4.heap.size w4 (w4.alloc (.cells #[.int .i64 (first : Int), .int .i64 (nB 12 wN l.length : Int), .int .i64 (wN : Int), .int .i64 (l.length : Int)] 29)) := (Below.refl _ _).alloc (Nat.le_refl _) _
  have HG5 := Lib.hid (Blk.new w4 29 #[.int .i64 (first : Int), .int .i64 (nB 12 wN l.length : Int), .int .i64 (wN : Int), .int .i64 (l.length : Int)])
  have HF5 := Lib.hid ((HI3.out.blk ht4 HF3.out (by decide) (by decide) (by decide) (by decide) (by decide) (fun h => h)).below hbn (by have := HF3.out.lt; have := ht4.size; omega))
  have HY5 := Lib.hid ((HI3.out.blk ht4 HY3.out (by decide) (by decide) (by decide) (by decide) (by decide) (fun h => h)).below hbn (by have := HY3.out.lt; have := ht4.size; omega))
  have HTL5 := Lib.hid ((HTL.out.turn HI3.out ht4 (fun g _ h => h)).below hbn)
  have HI5 := Lib.hid (hI4.below hbn)
  have HB5 := Lib.hid (hb4.trans (hbn.mono hb4.size))
  have HP := Lib.hid (And.intro f4 (And.intro hfa4 (And.intro hh4 af4)))
  have HO5 := Lib.hid (fun g (hg : (w4.alloc (.cells #[.int .i64 (first : Int), .int .i64 (nB 12 wN l.length : Int), .int .i64 (wN : Int), .int .i64 (l.length : Int)] 29)).heap.size ≤ g) => ho4.1 g (by have := hbn.size; omega))
  have hz4 : w.heap.size < w4.heap.size := by have := HF3.out.lt; have := ht4.size; omega
  clear ho4 hI4 ht4 f4 hfa4 hh4 af4 hb4 hbn HL HF3 HY3 HTL HI3 j0 j1
  have q0 : (w4.alloc (.cells #[.int .i64 (first : Int), .int .i64 (nB 12 wN l.length : Int), .int .i64 (wN : Int), .int .i64 (l.length : Int)] 29)).cell? ⟨w.heap.size + 1, 0, none⟩ = some (.int .i64 o0) := HY5.out.cell 0
  have q1 : (w4.alloc (.cells #[.int .i64 (first : Int), .int .i64 (nB 12 wN l.length : Int), .int .i64 (wN : Int), .int .i64 (l.length : Int)] 29)).cell? ⟨w.heap.size + 1, 1, none⟩ = some (.int .i64 o1) := HY5.out.cell 1
  have q2 : (w4.alloc (.cells #[.int .i64 (first : Int), .int .i64 (nB 12 wN l.length : Int), .int .i64 (wN : Int), .int .i64 (l.length : Int)] 29)).cell? ⟨w.heap.size + 1, 2, none⟩ = some (.int .i64 o2) := HY5.out.cell 2
  have q3 : (w4.alloc (.cells #[.int .i64 (first : Int), .int .i64 (nB 12 wN l.length : Int), .int .i64 (wN : Int), .int .i64 (l.length : Int)] 29)).cell? ⟨w.heap.size + 1, 3, none⟩ = some (.int .i64 o3) := HY5.out.cell 3
  have q4 : (w4.alloc (.cells #[.int .i64 (first : Int), .int .i64 (nB 12 wN l.length : Int), .int .i64 (wN : Int), .int .i64 (l.length : Int)] 29)).cell? ⟨w.heap.size + 1, 4, none⟩ = some (.int .i64 o4) := HY5.out.cell 4
  have hs5 : (w4.alloc (.cells #[.int .i64 (first : Int), .int .i64 (nB 12 wN l.length : Int), .int .i64 (wN : Int), .int .i64 (l.length : Int)] 29)).heap.size = w4.heap.size + 1 := by simp
  go_wp2_with fail
  generalize hfb : w4.heap.size = fb at *
  generalize w4.alloc (.cells #[.int .i64 (first : Int), .int .i64 (nB 12 wN l.length : Int), .int .i64 (wN : Int), .int .i64 (l.length : Int)] 29) = w5 at *
  have j0 : w5.cell? ⟨w.heap.size, 0, none⟩ = some (.int .u8 (x : Int)) := HF5.out.cell 0
  have j1 : w5.cell? ⟨w.heap.size, 1, none⟩ = some (.slice a l.length c) := HF5.out.cell 1
  have g0 : w5.cell? ⟨fb, 0, none⟩ = some (.int .i64 (first : Int)) := HG5.out.cell 0
  have g1 : w5.cell? ⟨fb, 1, none⟩ = some (.int .i64 (nB 12 wN l.length : Int)) := HG5.out.cell 1
  have g2 : w5.cell? ⟨fb, 2, none⟩ = some (.int .i64 (wN : Int)) := HG5.out.cell 2
  have g3 : w5.cell? ⟨fb, 3, none⟩ = some (.int .i64 (l.length : Int)) := HG5.out.cell 3
  obtain ⟨f5, hfa5, hh5, af5⟩ := HP.out
  have hP6 := Blk.new w5 49 #[.int .i64 o0, .int .i64 o1, .int .i64 o2, .int .i64 o3, .int .i64 o4]
  have hbp : Below w5.heap.size w5 (w5.alloc (.cells #[.int .i64 o0, .int .i64 o1, .int .i64 o2, .int .i64 o3, .int .i64 o4] 49)) := (Below.refl _ _).alloc (Nat.le_refl _) _
  have HFO := refformed_any o0 o1 o2 o3 o4 (w5.alloc (.cells #[.int .i64 o0, .int .i64 o1, .int .i64 o2, .int .i64 o3, .int .i64 o4] 49))
  rw [formedR_eq] at HFO
  refine HFO.mono ?_
  rintro e w6 ⟨rfl, hb6⟩
  have hb56 : Below w5.heap.size w5 w6 := hbp.trans (hb6.mono hbp.size)
  have HP6 := Lib.hid (hP6.below hb6 hP6.lt)
  have HF6 := Lib.hid (HF5.out.below hb56 HF5.out.lt)
  have HY6 := Lib.hid (HY5.out.below hb56 HY5.out.lt)
  have HG6 := Lib.hid (HG5.out.below hb56 HG5.out.lt)
  have HTL6 := Lib.hid (HTL5.out.below hb56)
  have HI6 := Lib.hid (HI5.out.below hb56)
  have HB6 := Lib.hid (HB5.out.trans (hb56.mono HB5.out.size))
  have HO6 := Lib.hid (fun g (hg : w6.heap.size ≤ g) => HO5.out g (by have := hb56.size; omega))
  have hz5 : fb < w5.heap.size := HG5.out.lt
  have HPP := Lib.hid (And.intro f5 (And.intro hfa5 (And.intro hh5 af5)))
  clear hP6 hbp hb6 hb56 HFO j0 j1 q0 q1 q2 q3 q4 g0 g1 g2 g3 HF5 HY5 HG5 HTL5 HI5 HB5 HO5 f5 hfa5 hh5 af5 HP
  rw [hs5] at HP6 hz5
  have HOC := Lib.hid (fun i (hi : i < 5) => ord_cell o0 o1 o2 o3 o4 i hi)
  obtain ⟨o, ho⟩ : ∃ o : List Int, o = [o0, o1, o2, o3, o4] := ⟨_, rfl⟩
  have hlen : o.length = 5 := by rw [ho]; rfl
  have hrel0 : CutsLoop o wN w6 (.int .i64 0) (.bool !formedO o) (.int .i64 0) w6 := by
    refine ⟨0, 0, !formedO o, rfl, rfl, rfl, by omega, by omega, Below.refl _ _, fun h => .inl (by simpa using h), fun h => ⟨by simpa using h, rfl⟩⟩
  have HREL0 := Lib.hid hrel0
  have HBO2 := HBO.out
  rw [← ho] at HBO2 HOC ⊢
  have HBD := Lib.hid HBO2
  have HLEN := Lib.hid hlen
  have HOEQ := Lib.hid ho
  clear hrel0 HBO2 hlen ho HBO
  go_wp2_with fail
  go_loopw [9, 10, 11] (fun nv bv iv wr => CutsLoop o wN w6 nv bv iv wr) (fun _ _ iv _ => 5 - (intOf iv).toNat)
  case atStart => exact HREL0.out
  case round =>
    clear HREL0
    obtain ⟨i, n, b, rfl, rfl, rfl, hi, hni, hbr, hbt, hbf⟩ := hrel
    have HBR := Lib.hid hbr
    have HBT := Lib.hid hbt
    have HBF := Lib.hid hbf
    clear hbr hbt hbf
    by_cases hgo : b = false ∧ (i : Int) < 5
    · obtain ⟨rfl, hlt⟩ := hgo
      obtain ⟨hfo, hw⟩ := HBF.out rfl
      have hl5 := HLEN.out
      have hio : i < o.length := by omega
      obtain ⟨y, hx⟩ : ∃ y, y = o.getD i 0 := ⟨_, rfl⟩
      have hyg : y = o[i] := by rw [hx]; simp [hio]
      have hFr := HF6.out.below HBR.out HF6.out.lt
      have hYr := HY6.out.below HBR.out HY6.out.lt
      have hYi := (hYr.cell i).trans ((HOC.out i (by omega)).trans (by rw [← hx]))
      obtain ⟨bx1, bx2⟩ := HBD.out o[i] (List.getElem_mem hio)
      rw [← hyg] at bx1 bx2
      have hwgo : (y = 0 → wgo wN n (o.drop (i + 1)) = cutN wN o) ∧ (y ≠ 0 → y.natAbs ≤ wN → wgo wN (n + 1) (o.drop (i + 1)) = cutN wN o) ∧ (y ≠ 0 → ¬ y.natAbs ≤ wN → cutN wN o = none) := by
        rw [List.drop_eq_getElem_cons hio, ← hyg] at hw
        unfold wgo at hw
        refine ⟨fun h => ?_, fun h1 h2 => ?_, fun h1 h2 => ?_⟩
        · rw [if_pos h] at hw; exact hw
        · rw [if_neg h1, if_pos h2] at hw; exact hw
        · rw [if_neg h1, if_neg h2] at hw; exact hw.symm
      have HWG := Lib.hid hwgo
      have HFOO := Lib.hid hfo
      have i0 : (0 : Int) ≤ (i : Int) := by omega
      have CELL := Lib.hid (fun W' (h : Below wr.heap.size wr W') => (⟨(hFr.below h hFr.lt).cell 0, (hFr.below h hFr.lt).cell 1, (h.cell hYr.lt).trans hYi⟩ : W'.cell? ⟨w.heap.size, 0, none⟩ = some (.int .u8 (x : Int)) ∧ W'.cell? ⟨w.heap.size, 1, none⟩ = some (.slice a l.length c) ∧ W'.cell? ⟨w.heap.size + 1, i, none⟩ = some (.int .i64 y)))
      have WID := Lib.hid (fun W' (h : Below wr.heap.size wr W') => (width13_any x wN (.slice a l.length c) W' HX.out.1 HX.out.2).mono (fun e w' he => (⟨he.1, h.trans (he.2.mono h.size)⟩ : e = Ending.returned (.int .i64 (wN : Int)) ∧ Below wr.heap.size wr w')))
      have cx : wr.cell? ⟨w.heap.size + 1, i, none⟩ = some (.int .i64 y) := hYi
      have hnw : IntKind.i64.wrap ((n : Int) + 1) = (n : Int) + 1 := by rw [IntKind.wrap_i64]; omega
      have hww : IntKind.i64.wrap (-(wN : Int)) = -(wN : Int) := by have := HX.out.1; rw [IntKind.wrap_i64]; omega
      have hd0 : Below wr.heap.size wr wr.drew := (Below.refl _ _).drew
      clear hfo hw hl5 hx hyg hFr hYr hYi bx1 bx2 hwgo
      by_cases hy0 : y = 0
      · have hgt : ¬ (wN : Int) < y := by omega
        have hlt2 : ¬ y < -(wN : Int) := by omega
        have HN := Lib.hid (HWG.out.1 hy0)
        go_wp2_with fail
        refine mx_begin (fun w' => Below wr.heap.size wr w') [(true, 0), (true, 1), (true, 2), (true, 3), (false, 4), (true, 5), (true, 6), (true, 7), (true, 8), (true, 9), (true, 10), (false, 11), (true, 12), (true, 13), (true, 14), (false, 15)] (by kernel_rfl) (by kernel_rfl) (fun _ _ d _ _ h => by cases d <;> exact h) hd0 ?_
        refine mx_read _ (.int .i64 (i : Int)) rfl (by kernel_rfl) (fun w' hF => by simp [execOp, Act.eval, go_sem]) ?_
        refine mx_read _ (.pointer (some ⟨w.heap.size + 1, i, none⟩)) rfl (by kernel_rfl) (fun w' hF => by simp [execOp, Act.eval, go_sem, i0, hlt]) ?_
        refine mx_read _ (.int .i64 y) rfl (by kernel_rfl) (fun w' hF => by have u := (CELL.out _ hF).2.2; simp [execOp, Act.eval, go_sem, u]) ?_
        refine mx_read _ (.agg #[.int .u8 (x : Int), .slice a l.length c]) rfl (by kernel_rfl) (fun w' hF => by obtain ⟨u0, u1, _⟩ := CELL.out _ hF; simp [execOp, Act.eval, go_sem, u0, u1]) ?_
        refine mx_one _ rfl (by kernel_rfl) (fun K8 hK8 => ?_)
        go_simp
        refine (WID.out _ hd0).mono ?_
        rintro e wwd ⟨rfl, hwd⟩
        refine hK8.out _ _ (fun _ => hwd) ?_
        clear hK8 K8
        refine mx_read _ (.bool false) rfl (by kernel_rfl) (fun w' hF => by simp [execOp, Act.eval, go_sem, hgt]) ?_
        refine mx_read _ (.bool false) rfl (by kernel_rfl) (fun w' hF => by simp [execOp, Act.eval, go_sem]) ?_
        refine mx_read _ (.int .i64 (i : Int)) rfl (by kernel_rfl) (fun w' hF => by simp [execOp, Act.eval, go_sem]) ?_
        refine mx_read _ (.pointer (some ⟨w.heap.size + 1, i, none⟩)) rfl (by kernel_rfl) (fun w' hF => by simp [execOp, Act.eval, go_sem, i0, hlt]) ?_
        refine mx_read _ (.int .i64 y) rfl (by kernel_rfl) (fun w' hF => by have u := (CELL.out _ hF).2.2; simp [execOp, Act.eval, go_sem, u]) ?_
        refine mx_read _ (.agg #[.int .u8 (x : Int), .slice a l.length c]) rfl (by kernel_rfl) (fun w' hF => by obtain ⟨u0, u1, _⟩ := CELL.out _ hF; simp [execOp, Act.eval, go_sem, u0, u1]) ?_
        refine mx_one _ rfl (by kernel_rfl) (fun K8 hK8 => ?_)
        go_simp
        refine (WID.out _ hwd).mono ?_
        rintro e wwd2 ⟨rfl, hwd2⟩
        refine hK8.out _ _ (fun _ => hwd2) ?_
        clear hK8 K8
        refine mx_read _ (.int .i64 (-(wN : Int))) rfl (by kernel_rfl) (fun w' hF => by simp [execOp, Act.eval, go_sem, hww]) ?_
        refine mx_read _ (.bool false) rfl (by kernel_rfl) (fun w' hF => by simp [execOp, Act.eval, go_sem, hlt2]) ?_
        refine mx_read _ (.bool false) rfl (by kernel_rfl) (fun w' hF => by simp [execOp, Act.eval, go_sem]) ?_
        refine mx_one _ rfl (by kernel_rfl) (fun K8 hK8 => ?_)
        go_simp
        refine hK8.out _ _ (fun h => absurd rfl h) ?_
        clear hK8 K8
        refine mx_end ?_
        go_wp2_with fail
        exact ⟨⟨i + 1, n, false, rfl, rfl, rfl, by omega, by omega, HBR.out.trans (hwd2.mono HBR.out.size), (fun h => by cases h), fun _ => ⟨HFOO.out, HN.out⟩⟩, by simp [intOf]; omega⟩
      · by_cases hgt : (wN : Int) < y
        · have HN := Lib.hid (HWG.out.2.2 hy0 (by omega))
          go_wp2_with fail
          refine mx_begin (fun w' => Below wr.heap.size wr w') [(true, 0), (true, 1), (true, 2), (true, 3), (false, 4), (true, 5), (true, 6), (true, 7), (true, 8), (true, 9), (true, 10), (false, 11), (true, 12), (true, 13), (true, 14), (false, 15)] (by kernel_rfl) (by kernel_rfl) (fun _ _ d _ _ h => by cases d <;> exact h) hd0 ?_
          refine mx_read _ (.int .i64 (i : Int)) rfl (by kernel_rfl) (fun w' hF => by simp [execOp, Act.eval, go_sem]) ?_
          refine mx_read _ (.pointer (some ⟨w.heap.size + 1, i, none⟩)) rfl (by kernel_rfl) (fun w' hF => by simp [execOp, Act.eval, go_sem, i0, hlt]) ?_
          refine mx_read _ (.int .i64 y) rfl (by kernel_rfl) (fun w' hF => by have u := (CELL.out _ hF).2.2; simp [execOp, Act.eval, go_sem, u]) ?_
          refine mx_read _ (.agg #[.int .u8 (x : Int), .slice a l.length c]) rfl (by kernel_rfl) (fun w' hF => by obtain ⟨u0, u1, _⟩ := CELL.out _ hF; simp [execOp, Act.eval, go_sem, u0, u1]) ?_
          refine mx_one _ rfl (by kernel_rfl) (fun K8 hK8 => ?_)
          go_simp
          refine (WID.out _ hd0).mono ?_
          rintro e wwd ⟨rfl, hwd⟩
          refine hK8.out _ _ (fun _ => hwd) ?_
          clear hK8 K8
          refine mx_read _ (.bool true) rfl (by kernel_rfl) (fun w' hF => by simp [execOp, Act.eval, go_sem, hgt]) ?_
          refine mx_read _ (.bool true) rfl (by kernel_rfl) (fun w' hF => by simp [execOp, Act.eval, go_sem]) ?_
          refine mx_skip _ rfl (by kernel_rfl) ?_
          refine mx_skip _ rfl (by kernel_rfl) ?_
          refine mx_skip _ rfl (by kernel_rfl) ?_
          refine mx_skip _ rfl (by kernel_rfl) ?_
          refine mx_one_skip _ rfl hwd (by kernel_rfl) ?_
          refine mx_skip _ rfl (by kernel_rfl) ?_
          refine mx_skip _ rfl (by kernel_rfl) ?_
          refine mx_read _ (.bool true) rfl (by kernel_rfl) (fun w' hF => by simp [execOp, Act.eval, go_sem]) ?_
          refine mx_one _ rfl (by kernel_rfl) (fun K8 hK8 => ?_)
          go_simp
          refine hK8.out _ _ (fun h => absurd rfl h) ?_
          clear hK8 K8
          refine mx_end ?_
          go_wp2_with fail
          exact ⟨⟨i + 1, n + 1, true, rfl, rfl, rfl, by omega, by omega, HBR.out.trans (hwd.mono HBR.out.size), (fun _ => .inr HN.out), (fun h => by cases h)⟩, by simp [intOf]; omega⟩
        · by_cases hlt2 : y < -(wN : Int)
          · have HN := Lib.hid (HWG.out.2.2 hy0 (by omega))
            go_wp2_with fail
            refine mx_begin (fun w' => Below wr.heap.size wr w') [(true, 0), (true, 1), (true, 2), (true, 3), (false, 4), (true, 5), (true, 6), (true, 7), (true, 8), (true, 9), (true, 10), (false, 11), (true, 12), (true, 13), (true, 14), (false, 15)] (by kernel_rfl) (by kernel_rfl) (fun _ _ d _ _ h => by cases d <;> exact h) hd0 ?_
            refine mx_read _ (.int .i64 (i : Int)) rfl (by kernel_rfl) (fun w' hF => by simp [execOp, Act.eval, go_sem]) ?_
            refine mx_read _ (.pointer (some ⟨w.heap.size + 1, i, none⟩)) rfl (by kernel_rfl) (fun w' hF => by simp [execOp, Act.eval, go_sem, i0, hlt]) ?_
            refine mx_read _ (.int .i64 y) rfl (by kernel_rfl) (fun w' hF => by have u := (CELL.out _ hF).2.2; simp [execOp, Act.eval, go_sem, u]) ?_
            refine mx_read _ (.agg #[.int .u8 (x : Int), .slice a l.length c]) rfl (by kernel_rfl) (fun w' hF => by obtain ⟨u0, u1, _⟩ := CELL.out _ hF; simp [execOp, Act.eval, go_sem, u0, u1]) ?_
            refine mx_one _ rfl (by kernel_rfl) (fun K8 hK8 => ?_)
            go_simp
            refine (WID.out _ hd0).mono ?_
            rintro e wwd ⟨rfl, hwd⟩
            refine hK8.out _ _ (fun _ => hwd) ?_
            clear hK8 K8
            refine mx_read _ (.bool false) rfl (by kernel_rfl) (fun w' hF => by simp [execOp, Act.eval, go_sem, hgt]) ?_
            refine mx_read _ (.bool false) rfl (by kernel_rfl) (fun w' hF => by simp [execOp, Act.eval, go_sem]) ?_
            refine mx_read _ (.int .i64 (i : Int)) rfl (by kernel_rfl) (fun w' hF => by simp [execOp, Act.eval, go_sem]) ?_
            refine mx_read _ (.pointer (some ⟨w.heap.size + 1, i, none⟩)) rfl (by kernel_rfl) (fun w' hF => by simp [execOp, Act.eval, go_sem, i0, hlt]) ?_
            refine mx_read _ (.int .i64 y) rfl (by kernel_rfl) (fun w' hF => by have u := (CELL.out _ hF).2.2; simp [execOp, Act.eval, go_sem, u]) ?_
            refine mx_read _ (.agg #[.int .u8 (x : Int), .slice a l.length c]) rfl (by kernel_rfl) (fun w' hF => by obtain ⟨u0, u1, _⟩ := CELL.out _ hF; simp [execOp, Act.eval, go_sem, u0, u1]) ?_
            refine mx_one _ rfl (by kernel_rfl) (fun K8 hK8 => ?_)
            go_simp
            refine (WID.out _ hwd).mono ?_
            rintro e wwd2 ⟨rfl, hwd2⟩
            refine hK8.out _ _ (fun _ => hwd2) ?_
            clear hK8 K8
            refine mx_read _ (.int .i64 (-(wN : Int))) rfl (by kernel_rfl) (fun w' hF => by simp [execOp, Act.eval, go_sem, hww]) ?_
            refine mx_read _ (.bool true) rfl (by kernel_rfl) (fun w' hF => by simp [execOp, Act.eval, go_sem, hlt2]) ?_
            refine mx_read _ (.bool true) rfl (by kernel_rfl) (fun w' hF => by simp [execOp, Act.eval, go_sem]) ?_
            refine mx_one _ rfl (by kernel_rfl) (fun K8 hK8 => ?_)
            go_simp
            refine hK8.out _ _ (fun h => absurd rfl h) ?_
            clear hK8 K8
            refine mx_end ?_
            go_wp2_with fail
            exact ⟨⟨i + 1, n + 1, true, rfl, rfl, rfl, by omega, by omega, HBR.out.trans (hwd2.mono HBR.out.size), (fun _ => .inr HN.out), (fun h => by cases h)⟩, by simp [intOf]; omega⟩
          · have HN := Lib.hid (HWG.out.2.1 hy0 (by omega))
            go_wp2_with fail
            refine mx_begin (fun w' => Below wr.heap.size wr w') [(true, 0), (true, 1), (true, 2), (true, 3), (false, 4), (true, 5), (true, 6), (true, 7), (true, 8), (true, 9), (true, 10), (false, 11), (true, 12), (true, 13), (true, 14), (false, 15)] (by kernel_rfl) (by kernel_rfl) (fun _ _ d _ _ h => by cases d <;> exact h) hd0 ?_
            refine mx_read _ (.int .i64 (i : Int)) rfl (by kernel_rfl) (fun w' hF => by simp [execOp, Act.eval, go_sem]) ?_
            refine mx_read _ (.pointer (some ⟨w.heap.size + 1, i, none⟩)) rfl (by kernel_rfl) (fun w' hF => by simp [execOp, Act.eval, go_sem, i0, hlt]) ?_
            refine mx_read _ (.int .i64 y) rfl (by kernel_rfl) (fun w' hF => by have u := (CELL.out _ hF).2.2; simp [execOp, Act.eval, go_sem, u]) ?_
            refine mx_read _ (.agg #[.int .u8 (x : Int), .slice a l.length c]) rfl (by kernel_rfl) (fun w' hF => by obtain ⟨u0, u1, _⟩ := CELL.out _ hF; simp [execOp, Act.eval, go_sem, u0, u1]) ?_
            refine mx_one _ rfl (by kernel_rfl) (fun K8 hK8 => ?_)
            go_simp
            refine (WID.out _ hd0).mono ?_
            rintro e wwd ⟨rfl, hwd⟩
            refine hK8.out _ _ (fun _ => hwd) ?_
            clear hK8 K8
            refine mx_read _ (.bool false) rfl (by kernel_rfl) (fun w' hF => by simp [execOp, Act.eval, go_sem, hgt]) ?_
            refine mx_read _ (.bool false) rfl (by kernel_rfl) (fun w' hF => by simp [execOp, Act.eval, go_sem]) ?_
            refine mx_read _ (.int .i64 (i : Int)) rfl (by kernel_rfl) (fun w' hF => by simp [execOp, Act.eval, go_sem]) ?_
            refine mx_read _ (.pointer (some ⟨w.heap.size + 1, i, none⟩)) rfl (by kernel_rfl) (fun w' hF => by simp [execOp, Act.eval, go_sem, i0, hlt]) ?_
            refine mx_read _ (.int .i64 y) rfl (by kernel_rfl) (fun w' hF => by have u := (CELL.out _ hF).2.2; simp [execOp, Act.eval, go_sem, u]) ?_
            refine mx_read _ (.agg #[.int .u8 (x : Int), .slice a l.length c]) rfl (by kernel_rfl) (fun w' hF => by obtain ⟨u0, u1, _⟩ := CELL.out _ hF; simp [execOp, Act.eval, go_sem, u0, u1]) ?_
            refine mx_one _ rfl (by kernel_rfl) (fun K8 hK8 => ?_)
            go_simp
            refine (WID.out _ hwd).mono ?_
            rintro e wwd2 ⟨rfl, hwd2⟩
            refine hK8.out _ _ (fun _ => hwd2) ?_
            clear hK8 K8
            refine mx_read _ (.int .i64 (-(wN : Int))) rfl (by kernel_rfl) (fun w' hF => by simp [execOp, Act.eval, go_sem, hww]) ?_
            refine mx_read _ (.bool false) rfl (by kernel_rfl) (fun w' hF => by simp [execOp, Act.eval, go_sem, hlt2]) ?_
            refine mx_read _ (.bool false) rfl (by kernel_rfl) (fun w' hF => by simp [execOp, Act.eval, go_sem]) ?_
            refine mx_one _ rfl (by kernel_rfl) (fun K8 hK8 => ?_)
            go_simp
            refine hK8.out _ _ (fun h => absurd rfl h) ?_
            clear hK8 K8
            refine mx_end ?_
            go_wp2_with fail
            exact ⟨⟨i + 1, n + 1, false, rfl, rfl, rfl, by omega, by omega, HBR.out.trans (hwd2.mono HBR.out.size), (fun h => by cases h), fun _ => ⟨HFOO.out, HN.out⟩⟩, by simp [intOf]; omega⟩
    · cases b with
      | true =>
        by_cases hlt : (i : Int) < 5
        · clear hgo
          have hFg := HG6.out.below HBR.out HG6.out.lt
          have hYg := HY6.out.below HBR.out HY6.out.lt
          have g0 : wr.cell? ⟨fb, 0, none⟩ = some (.int .i64 (first : Int)) := hFg.cell 0
          have g1 : wr.cell? ⟨fb, 1, none⟩ = some (.int .i64 (nB 12 wN l.length : Int)) := hFg.cell 1
          have g2 : wr.cell? ⟨fb, 2, none⟩ = some (.int .i64 (wN : Int)) := hFg.cell 2
          have g3 : wr.cell? ⟨fb, 3, none⟩ = some (.int .i64 (l.length : Int)) := hFg.cell 3
          have q0 : wr.cell? ⟨w.heap.size + 1, 0, none⟩ = some (.int .i64 o0) := hYg.cell 0
          have q1 : wr.cell? ⟨w.heap.size + 1, 1, none⟩ = some (.int .i64 o1) := hYg.cell 1
          have q2 : wr.cell? ⟨w.heap.size + 1, 2, none⟩ = some (.int .i64 o2) := hYg.cell 2
          have q3 : wr.cell? ⟨w.heap.size + 1, 3, none⟩ = some (.int .i64 o3) := hYg.cell 3
          have q4 : wr.cell? ⟨w.heap.size + 1, 4, none⟩ = some (.int .i64 o4) := hYg.cell 4
          have HGR := Lib.hid hFg
          have HYR := Lib.hid hYg
          obtain ⟨f5, hfa5, hh5, af5⟩ := HPP.out
          have HCUT := cut_c (o0 := o0) (o1 := o1) (o2 := o2) (o3 := o3) (o4 := o4) (HI6.out.below HBR.out) f5 hh5 (by rw [← HOEQ.out]; exact HBD.out) (by omega) (by omega) (fun g hg => HO6.out g (by have := HBR.out.size; omega))
          rw [← HOEQ.out] at HCUT
          replace HCUT := Lib.hid HCUT
          have HSM := Lib.hid (show Sp.sumX W4.L + nB 12 wN l.length = 5000 by have h1 := af5.sum; rw [sum0] at h1; omega)
          have HU5 := Lib.hid f5.used
          clear f5 hfa5 hh5 af5 hFg hYg
          clear hni hi
          go_wp2_with fail
          refine HCUT.out.mono ?_
          rintro e w7 (⟨_, rfl, hb7⟩ | ⟨n', hn', hpos, hfo', _⟩)
          rotate_left
          · have hc : False := by
              rcases HBT.out (by trivial) with h | h
              · rw [h] at hfo'; cases hfo'
              · rw [h] at hn'; cases hn'
            exact hc.elim
          unfold noFile
          have hbn : Below w7.heap.size w7 (w7.alloc (.cells #[.int .i64 0, .int .i64 0, .int .i64 0, .int .i64 0] 29)) := (Below.refl _ _).alloc (Nat.le_refl _) _
          have hb8 := hb7.trans (hbn.mono hb7.size)
          have hG8 := HGR.out.below hb8 HGR.out.lt
          have hI8 := (HI6.out.below HBR.out).below hb8
          have hB8 := (HB6.out.trans (HBR.out.mono HB6.out.size)).trans (hb8.mono (by have := HB6.out.size; have := HBR.out.size; omega))
          have r0 : (w7.alloc (.cells #[.int .i64 0, .int .i64 0, .int .i64 0, .int .i64 0] 29)).cell? ⟨fb, 0, none⟩ = some (.int .i64 (first : Int)) := hG8.cell 0
          have r1 : (w7.alloc (.cells #[.int .i64 0, .int .i64 0, .int .i64 0, .int .i64 0] 29)).cell? ⟨fb, 1, none⟩ = some (.int .i64 (nB 12 wN l.length : Int)) := hG8.cell 1
          have r2 : (w7.alloc (.cells #[.int .i64 0, .int .i64 0, .int .i64 0, .int .i64 0] 29)).cell? ⟨fb, 2, none⟩ = some (.int .i64 (wN : Int)) := hG8.cell 2
          have r3 : (w7.alloc (.cells #[.int .i64 0, .int .i64 0, .int .i64 0, .int .i64 0] 29)).cell? ⟨fb, 3, none⟩ = some (.int .i64 (l.length : Int)) := hG8.cell 3
          have hbn9 : Below (w7.alloc (.cells #[.int .i64 0, .int .i64 0, .int .i64 0, .int .i64 0] 29)).heap.size (w7.alloc (.cells #[.int .i64 0, .int .i64 0, .int .i64 0, .int .i64 0] 29)) ((w7.alloc (.cells #[.int .i64 0, .int .i64 0, .int .i64 0, .int .i64 0] 29)).alloc (.cells #[.int .i64 (first : Int), .int .i64 (nB 12 wN l.length : Int), .int .i64 (wN : Int), .int .i64 (l.length : Int)] 29)) := (Below.refl _ _).alloc (Nat.le_refl _) _
          have hCL := clean13_ok [nB 12 wN l.length] (w7.alloc (.cells #[.int .i64 0, .int .i64 0, .int .i64 0, .int .i64 0] 29)).heap.size 1 (hI8.below hbn9) (fun i hi => by
            obtain rfl : i = 0 := by simp at hi; omega
            exact (Blk.new (w7.alloc (.cells #[.int .i64 0, .int .i64 0, .int .i64 0, .int .i64 0] 29)) 29 #[.int .i64 (first : Int), .int .i64 (nB 12 wN l.length : Int), .int .i64 (wN : Int), .int .i64 (l.length : Int)]).cell 1) HU5.out (by have h1 := HSM.out; simp; omega) (by simp)
          rw [show (w7.alloc (.cells #[.int .i64 0, .int .i64 0, .int .i64 0, .int .i64 0] 29)).heap.size = w7.heap.size + 1 from by simp, show ([nB 12 wN l.length] : List Nat).length = 1 from rfl] at hCL
          have HCL := Lib.hid hCL
          have HB9 := Lib.hid (hB8.trans (hbn9.mono hB8.size))
          clear hb7 hbn hb8 hG8 hI8 hB8 hbn9 hCL g0 g1 g2 g3 q0 q1 q2 q3 q4 HCUT
          go_wp2_with fail
          refine HCL.out.mono ?_
          rintro e w9 ⟨rfl, hb9⟩
          go_wp2_with fail
          go_ret
          exact ⟨rfl, HB.out.trans ((HB9.out.trans (hb9.mono HB9.out.size)).mono (Nat.le_of_lt hz0))⟩
        · clear hgo
          have hFg := HG6.out.below HBR.out HG6.out.lt
          have hYg := HY6.out.below HBR.out HY6.out.lt
          have g0 : wr.cell? ⟨fb, 0, none⟩ = some (.int .i64 (first : Int)) := hFg.cell 0
          have g1 : wr.cell? ⟨fb, 1, none⟩ = some (.int .i64 (nB 12 wN l.length : Int)) := hFg.cell 1
          have g2 : wr.cell? ⟨fb, 2, none⟩ = some (.int .i64 (wN : Int)) := hFg.cell 2
          have g3 : wr.cell? ⟨fb, 3, none⟩ = some (.int .i64 (l.length : Int)) := hFg.cell 3
          have q0 : wr.cell? ⟨w.heap.size + 1, 0, none⟩ = some (.int .i64 o0) := hYg.cell 0
          have q1 : wr.cell? ⟨w.heap.size + 1, 1, none⟩ = some (.int .i64 o1) := hYg.cell 1
          have q2 : wr.cell? ⟨w.heap.size + 1, 2, none⟩ = some (.int .i64 o2) := hYg.cell 2
          have q3 : wr.cell? ⟨w.heap.size + 1, 3, none⟩ = some (.int .i64 o3) := hYg.cell 3
          have q4 : wr.cell? ⟨w.heap.size + 1, 4, none⟩ = some (.int .i64 o4) := hYg.cell 4
          have HGR := Lib.hid hFg
          have HYR := Lib.hid hYg
          obtain ⟨f5, hfa5, hh5, af5⟩ := HPP.out
          have HCUT := cut_c (o0 := o0) (o1 := o1) (o2 := o2) (o3 := o3) (o4 := o4) (HI6.out.below HBR.out) f5 hh5 (by rw [← HOEQ.out]; exact HBD.out) (by omega) (by omega) (fun g hg => HO6.out g (by have := HBR.out.size; omega))
          rw [← HOEQ.out] at HCUT
          replace HCUT := Lib.hid HCUT
          have HSM := Lib.hid (show Sp.sumX W4.L + nB 12 wN l.length = 5000 by have h1 := af5.sum; rw [sum0] at h1; omega)
          have HU5 := Lib.hid f5.used
          clear f5 hfa5 hh5 af5 hFg hYg
          clear hni hi
          go_wp2_with fail
          refine HCUT.out.mono ?_
          rintro e w7 (⟨_, rfl, hb7⟩ | ⟨n', hn', hpos, hfo', _⟩)
          rotate_left
          · have hc : False := by
              rcases HBT.out (by trivial) with h | h
              · rw [h] at hfo'; cases hfo'
              · rw [h] at hn'; cases hn'
            exact hc.elim
          unfold noFile
          have hbn : Below w7.heap.size w7 (w7.alloc (.cells #[.int .i64 0, .int .i64 0, .int .i64 0, .int .i64 0] 29)) := (Below.refl _ _).alloc (Nat.le_refl _) _
          have hb8 := hb7.trans (hbn.mono hb7.size)
          have hG8 := HGR.out.below hb8 HGR.out.lt
          have hI8 := (HI6.out.below HBR.out).below hb8
          have hB8 := (HB6.out.trans (HBR.out.mono HB6.out.size)).trans (hb8.mono (by have := HB6.out.size; have := HBR.out.size; omega))
          have r0 : (w7.alloc (.cells #[.int .i64 0, .int .i64 0, .int .i64 0, .int .i64 0] 29)).cell? ⟨fb, 0, none⟩ = some (.int .i64 (first : Int)) := hG8.cell 0
          have r1 : (w7.alloc (.cells #[.int .i64 0, .int .i64 0, .int .i64 0, .int .i64 0] 29)).cell? ⟨fb, 1, none⟩ = some (.int .i64 (nB 12 wN l.length : Int)) := hG8.cell 1
          have r2 : (w7.alloc (.cells #[.int .i64 0, .int .i64 0, .int .i64 0, .int .i64 0] 29)).cell? ⟨fb, 2, none⟩ = some (.int .i64 (wN : Int)) := hG8.cell 2
          have r3 : (w7.alloc (.cells #[.int .i64 0, .int .i64 0, .int .i64 0, .int .i64 0] 29)).cell? ⟨fb, 3, none⟩ = some (.int .i64 (l.length : Int)) := hG8.cell 3
          have hbn9 : Below (w7.alloc (.cells #[.int .i64 0, .int .i64 0, .int .i64 0, .int .i64 0] 29)).heap.size (w7.alloc (.cells #[.int .i64 0, .int .i64 0, .int .i64 0, .int .i64 0] 29)) ((w7.alloc (.cells #[.int .i64 0, .int .i64 0, .int .i64 0, .int .i64 0] 29)).alloc (.cells #[.int .i64 (first : Int), .int .i64 (nB 12 wN l.length : Int), .int .i64 (wN : Int), .int .i64 (l.length : Int)] 29)) := (Below.refl _ _).alloc (Nat.le_refl _) _
          have hCL := clean13_ok [nB 12 wN l.length] (w7.alloc (.cells #[.int .i64 0, .int .i64 0, .int .i64 0, .int .i64 0] 29)).heap.size 1 (hI8.below hbn9) (fun i hi => by
            obtain rfl : i = 0 := by simp at hi; omega
            exact (Blk.new (w7.alloc (.cells #[.int .i64 0, .int .i64 0, .int .i64 0, .int .i64 0] 29)) 29 #[.int .i64 (first : Int), .int .i64 (nB 12 wN l.length : Int), .int .i64 (wN : Int), .int .i64 (l.length : Int)]).cell 1) HU5.out (by have h1 := HSM.out; simp; omega) (by simp)
          rw [show (w7.alloc (.cells #[.int .i64 0, .int .i64 0, .int .i64 0, .int .i64 0] 29)).heap.size = w7.heap.size + 1 from by simp, show ([nB 12 wN l.length] : List Nat).length = 1 from rfl] at hCL
          have HCL := Lib.hid hCL
          have HB9 := Lib.hid (hB8.trans (hbn9.mono hB8.size))
          clear hb7 hbn hb8 hG8 hI8 hB8 hbn9 hCL g0 g1 g2 g3 q0 q1 q2 q3 q4 HCUT
          go_wp2_with fail
          refine HCL.out.mono ?_
          rintro e w9 ⟨rfl, hb9⟩
          go_wp2_with fail
          go_ret
          exact ⟨rfl, HB.out.trans ((HB9.out.trans (hb9.mono HB9.out.size)).mono (Nat.le_of_lt hz0))⟩
      | false =>
        have hlt : ¬ (i : Int) < 5 := fun h => hgo ⟨rfl, h⟩
        obtain rfl : i = 5 := by omega
        obtain ⟨hfo, hw⟩ := HBF.out rfl
        rw [List.drop_of_length_le (by have := HLEN.out; omega)] at hw
        have HCN := Lib.hid (hw.symm.trans rfl : cutN wN o = some n)
        have HFOO := Lib.hid hfo
        rw [show ((5 : Nat) : Int) = 5 from rfl]
        clear hgo hlt hfo hw
        by_cases hn0 : n = 0
        · have hnb : ((n : Int) == 0) = true := by simp; omega
          have HN0 := Lib.hid hn0
          clear hn0
          have hFg := HG6.out.below HBR.out HG6.out.lt
          have hYg := HY6.out.below HBR.out HY6.out.lt
          have g0 : wr.cell? ⟨fb, 0, none⟩ = some (.int .i64 (first : Int)) := hFg.cell 0
          have g1 : wr.cell? ⟨fb, 1, none⟩ = some (.int .i64 (nB 12 wN l.length : Int)) := hFg.cell 1
          have g2 : wr.cell? ⟨fb, 2, none⟩ = some (.int .i64 (wN : Int)) := hFg.cell 2
          have g3 : wr.cell? ⟨fb, 3, none⟩ = some (.int .i64 (l.length : Int)) := hFg.cell 3
          have q0 : wr.cell? ⟨w.heap.size + 1, 0, none⟩ = some (.int .i64 o0) := hYg.cell 0
          have q1 : wr.cell? ⟨w.heap.size + 1, 1, none⟩ = some (.int .i64 o1) := hYg.cell 1
          have q2 : wr.cell? ⟨w.heap.size + 1, 2, none⟩ = some (.int .i64 o2) := hYg.cell 2
          have q3 : wr.cell? ⟨w.heap.size + 1, 3, none⟩ = some (.int .i64 o3) := hYg.cell 3
          have q4 : wr.cell? ⟨w.heap.size + 1, 4, none⟩ = some (.int .i64 o4) := hYg.cell 4
          have HGR := Lib.hid hFg
          have HYR := Lib.hid hYg
          obtain ⟨f5, hfa5, hh5, af5⟩ := HPP.out
          have HCUT := cut_c (o0 := o0) (o1 := o1) (o2 := o2) (o3 := o3) (o4 := o4) (HI6.out.below HBR.out) f5 hh5 (by rw [← HOEQ.out]; exact HBD.out) (by omega) (by omega) (fun g hg => HO6.out g (by have := HBR.out.size; omega))
          rw [← HOEQ.out] at HCUT
          replace HCUT := Lib.hid HCUT
          have HSM := Lib.hid (show Sp.sumX W4.L + nB 12 wN l.length = 5000 by have h1 := af5.sum; rw [sum0] at h1; omega)
          have HU5 := Lib.hid f5.used
          clear f5 hfa5 hh5 af5 hFg hYg
          clear hni hi
          go_wp2_with fail
          refine HCUT.out.mono ?_
          rintro e w7 (⟨_, rfl, hb7⟩ | ⟨n', hn', hpos, hfo', _⟩)
          rotate_left
          · rw [HCN.out] at hn'
            injection hn' with hn'
            have := HN0.out
            omega
          unfold noFile
          have hbn : Below w7.heap.size w7 (w7.alloc (.cells #[.int .i64 0, .int .i64 0, .int .i64 0, .int .i64 0] 29)) := (Below.refl _ _).alloc (Nat.le_refl _) _
          have hb8 := hb7.trans (hbn.mono hb7.size)
          have hG8 := HGR.out.below hb8 HGR.out.lt
          have hI8 := (HI6.out.below HBR.out).below hb8
          have hB8 := (HB6.out.trans (HBR.out.mono HB6.out.size)).trans (hb8.mono (by have := HB6.out.size; have := HBR.out.size; omega))
          have r0 : (w7.alloc (.cells #[.int .i64 0, .int .i64 0, .int .i64 0, .int .i64 0] 29)).cell? ⟨fb, 0, none⟩ = some (.int .i64 (first : Int)) := hG8.cell 0
          have r1 : (w7.alloc (.cells #[.int .i64 0, .int .i64 0, .int .i64 0, .int .i64 0] 29)).cell? ⟨fb, 1, none⟩ = some (.int .i64 (nB 12 wN l.length : Int)) := hG8.cell 1
          have r2 : (w7.alloc (.cells #[.int .i64 0, .int .i64 0, .int .i64 0, .int .i64 0] 29)).cell? ⟨fb, 2, none⟩ = some (.int .i64 (wN : Int)) := hG8.cell 2
          have r3 : (w7.alloc (.cells #[.int .i64 0, .int .i64 0, .int .i64 0, .int .i64 0] 29)).cell? ⟨fb, 3, none⟩ = some (.int .i64 (l.length : Int)) := hG8.cell 3
          have hbn9 : Below (w7.alloc (.cells #[.int .i64 0, .int .i64 0, .int .i64 0, .int .i64 0] 29)).heap.size (w7.alloc (.cells #[.int .i64 0, .int .i64 0, .int .i64 0, .int .i64 0] 29)) ((w7.alloc (.cells #[.int .i64 0, .int .i64 0, .int .i64 0, .int .i64 0] 29)).alloc (.cells #[.int .i64 (first : Int), .int .i64 (nB 12 wN l.length : Int), .int .i64 (wN : Int), .int .i64 (l.length : Int)] 29)) := (Below.refl _ _).alloc (Nat.le_refl _) _
          have hCL := clean13_ok [nB 12 wN l.length] (w7.alloc (.cells #[.int .i64 0, .int .i64 0, .int .i64 0, .int .i64 0] 29)).heap.size 1 (hI8.below hbn9) (fun i hi => by
            obtain rfl : i = 0 := by simp at hi; omega
            exact (Blk.new (w7.alloc (.cells #[.int .i64 0, .int .i64 0, .int .i64 0, .int .i64 0] 29)) 29 #[.int .i64 (first : Int), .int .i64 (nB 12 wN l.length : Int), .int .i64 (wN : Int), .int .i64 (l.length : Int)]).cell 1) HU5.out (by have h1 := HSM.out; simp; omega) (by simp)
          rw [show (w7.alloc (.cells #[.int .i64 0, .int .i64 0, .int .i64 0, .int .i64 0] 29)).heap.size = w7.heap.size + 1 from by simp, show ([nB 12 wN l.length] : List Nat).length = 1 from rfl] at hCL
          have HCL := Lib.hid hCL
          have HB9 := Lib.hid (hB8.trans (hbn9.mono hB8.size))
          clear hb7 hbn hb8 hG8 hI8 hB8 hbn9 hCL g0 g1 g2 g3 q0 q1 q2 q3 q4 HCUT
          go_wp2_with fail
          refine HCL.out.mono ?_
          rintro e w9 ⟨rfl, hb9⟩
          go_wp2_with fail
          go_ret
          exact ⟨rfl, HB.out.trans ((HB9.out.trans (hb9.mono HB9.out.size)).mono (Nat.le_of_lt hz0))⟩
        · have hpos : 0 < n := by omega
          have hFg := HG6.out.below HBR.out HG6.out.lt
          have hYg := HY6.out.below HBR.out HY6.out.lt
          have g0 : wr.cell? ⟨fb, 0, none⟩ = some (.int .i64 (first : Int)) := hFg.cell 0
          have g1 : wr.cell? ⟨fb, 1, none⟩ = some (.int .i64 (nB 12 wN l.length : Int)) := hFg.cell 1
          have g2 : wr.cell? ⟨fb, 2, none⟩ = some (.int .i64 (wN : Int)) := hFg.cell 2
          have g3 : wr.cell? ⟨fb, 3, none⟩ = some (.int .i64 (l.length : Int)) := hFg.cell 3
          have q0 : wr.cell? ⟨w.heap.size + 1, 0, none⟩ = some (.int .i64 o0) := hYg.cell 0
          have q1 : wr.cell? ⟨w.heap.size + 1, 1, none⟩ = some (.int .i64 o1) := hYg.cell 1
          have q2 : wr.cell? ⟨w.heap.size + 1, 2, none⟩ = some (.int .i64 o2) := hYg.cell 2
          have q3 : wr.cell? ⟨w.heap.size + 1, 3, none⟩ = some (.int .i64 o3) := hYg.cell 3
          have q4 : wr.cell? ⟨w.heap.size + 1, 4, none⟩ = some (.int .i64 o4) := hYg.cell 4
          have HGR := Lib.hid hFg
          have HYR := Lib.hid hYg
          obtain ⟨f5, hfa5, hh5, af5⟩ := HPP.out
          have HCUT := cut_c (o0 := o0) (o1 := o1) (o2 := o2) (o3 := o3) (o4 := o4) (HI6.out.below HBR.out) f5 hh5 (by rw [← HOEQ.out]; exact HBD.out) (by omega) (by omega) (fun g hg => HO6.out g (by have := HBR.out.size; omega))
          rw [← HOEQ.out] at HCUT
          replace HCUT := Lib.hid HCUT
          have HSM := Lib.hid (show Sp.sumX W4.L + nB 12 wN l.length = 5000 by have h1 := af5.sum; rw [sum0] at h1; omega)
          have HU5 := Lib.hid f5.used
          clear f5 hfa5 hh5 af5 hFg hYg
          go_wp2_with fail
          refine HCUT.out.mono ?_
          rintro e w7 (⟨hbad', _, _⟩ | ⟨n', hn', hpos', hfo', W7, O7, ho7, hI7, ht7, hh⟩)
          · rcases hbad' with h | h | h
            · rw [HCN.out] at h; cases h
            · rw [HFOO.out] at h; cases h
            · rw [HCN.out] at h; injection h with h; omega
          obtain rfl : n = n' := by rw [HCN.out] at hn'; injection hn'
          rcases hh with ⟨first2, rfl, f7, hh7, af7⟩ | ⟨er, her, hwhy, rfl, _⟩
          rotate_left
          · rcases hwhy with ⟨_, h⟩ | h
            · exact absurd HPP.out.2.1 h
            · exact h.elim
          have hIr := HI6.out.below HBR.out
          have hBr := HB6.out.trans (HBR.out.mono HB6.out.size)
          have hFr := HF6.out.below HBR.out HF6.out.lt
          have hPr := HP6.out.below HBR.out HP6.out.lt
          have hb7 := Turn.belowB hIr HK.out (fun _ h => h.elim) hBr ht7
          obtain ⟨lk, hlk⟩ : ∃ lk, lk = l.map (cutT o) := ⟨_, rfl⟩
          rw [← hlk] at hh7 af7 ⊢
          obtain ⟨nk, hnk⟩ : ∃ nk, nk = lk.length := ⟨_, rfl⟩
          have hkl : nk = l.length := by rw [hnk, hlk]; simp
          have HKL := Lib.hid hkl
          clear hkl
          unfold fcells
          rw [← hnk] at af7 ⊢
          obtain ⟨n2, hn2⟩ : ∃ n2, n2 = nB 12 n nk := ⟨_, rfl⟩
          rw [← hn2] at af7 ⊢
          have hbn : Below w7.heap.size w7 (w7.alloc (.cells #[.int .i64 (first2 : Int), .int .i64 (n2 : Int), .int .i64 (n : Int), .int .i64 (nk : Int)] 29)) := (Below.refl _ _).alloc (Nat.le_refl _) _
          have HF8 := Lib.hid ((hIr.blk ht7 hFr (by decide) (by decide) (by decide) (by decide) (by decide) (fun h => h)).below hbn (by have := hFr.lt; have := ht7.size; omega))
          have HG8 := Lib.hid ((hIr.blk ht7 HGR.out (by decide) (by decide) (by decide) (by decide) (by decide) (fun h => h)).below hbn (by have := HGR.out.lt; have := ht7.size; omega))
          have HP8 := Lib.hid ((hIr.blk ht7 hPr (by decide) (by decide) (by decide) (by decide) (by decide) (fun h => h)).below hbn (by have := hPr.lt; have := ht7.size; omega))
          have HX8 := Lib.hid (Blk.new w7 29 #[.int .i64 (first2 : Int), .int .i64 (n2 : Int), .int .i64 (n : Int), .int .i64 (nk : Int)])
          have HTL8 := Lib.hid (((HTL6.out.below HBR.out).turn hIr ht7 (fun g _ h => h)).below hbn)
          have HI8 := Lib.hid (hI7.below hbn)
          have HB8 := Lib.hid (hb7.trans (hbn.mono hb7.size))
          have hz7 : fb + 1 < w7.heap.size := by have := hPr.lt; have := ht7.size; omega
          have HLS := list_f (hI7.below hbn) f7 (af7.fault HPP.out.2.1) hh7 (by omega)
          rw [← hnk, ← hn2] at HLS
          replace HLS := Lib.hid HLS
          have HP9 := Lib.hid (And.intro hh7 (And.intro af7 (And.intro hnk hlk)))
          have hnb : ((n : Int) == 0) = false := by simp; omega
          clear hIr hBr hFr hPr hb7 hbn ho7 hI7 ht7 f7 hh7 af7 hn2 hnk hlk hn' hfo' g0 g1 g2 g3 q0 q1 q2 q3 q4 HCUT HGR HYR
          go_wp2_with fail
          generalize hxb : w7.heap.size = xb at *
          generalize (w7.alloc (.cells #[.int .i64 (first2 : Int), .int .i64 (n2 : Int), .int .i64 (n : Int), .int .i64 (nk : Int)] 29)) = w8 at *
          refine HLS.out.mono ?_
          rintro e w9 ⟨W9, O9, v9, rfl, hown9, ho9, hI9, ht9, f9, hfa9, af9⟩
          have hown9' : w9.ownsRow w8.heap.size 57 5 v9 lk.length (flatT lk) := by rw [← HP9.out.2.2.1]; exact hown9
          have ht5n : ∀ t ∈ lk, t.length = 5 := fun t ht => ((HP9.out.1).fits t ht).1
          obtain ⟨a9, c9, hv9, hT9, _⟩ := tps_own (K := K) hown9' ht5n
          rw [← HP9.out.2.2.1] at hv9
          subst hv9
          have hb9 := Turn.belowB HI8.out HK.out (fun _ h => h.elim) HB8.out ht9
          have hF9 := HI8.out.blk ht9 HF8.out (by decide) (by decide) (by decide) (by decide) (by decide) (fun h => h)
          have hG9 := HI8.out.blk ht9 HG8.out (by decide) (by decide) (by decide) (by decide) (by decide) (fun h => h)
          have hX9 := HI8.out.blk ht9 HX8.out (by decide) (by decide) (by decide) (by decide) (by decide) (fun h => h)
          have hP9 := HI8.out.blk ht9 HP8.out (by decide) (by decide) (by decide) (by decide) (by decide) (fun h => h)
          have hTL9 := HTL8.out.turn HI8.out ht9 (fun g _ h => h)
          have hsum9 : Sp.sumX W9.L + (nB 12 wN l.length + n2) = 5000 := by
            have h1 := HSM.out
            have h2 := HP9.out.2.1.sum
            have h3 := af9.sum
            omega
          have hu9 := f9.used
          have hd0 : Below w9.heap.size w9 w9.drew := (Below.refl _ _).drew
          have hlt : l.length ≤ 1000000 := by omega
          have hnk9 := HP9.out.2.2.1
          have hlk9 := HP9.out.2.2.2
          have CELL := Lib.hid (fun W' (h : Below w9.heap.size w9 W') => (And.intro (hF9.below h hF9.lt) (And.intro (hG9.below h hG9.lt) (And.intro (hX9.below h hX9.lt) (hP9.below h hP9.lt)))))
          have RN := Lib.hid (fun W' (h : Below w9.heap.size w9 W') => (refcut_any l o0 o1 o2 o3 o4 a c W' (by rw [← HOEQ.out]; exact HFOO.out) (hTL9.below h) HT5.out hlt).mono (fun e w' ⟨v, he, ho, hb⟩ => (show ∃ a2 c2, e = Ending.returned (.slice a2 nk c2) ∧ Tps K w' a2 lk ∧ Below w9.heap.size w9 w' from by
            rw [← HOEQ.out, ← hlk9, ← HKL.out, hnk9] at ho
            obtain ⟨a2, c2, hv, hT2, _⟩ := tps_own (K := K) ho ht5n
            rw [← hnk9] at hv
            exact ⟨a2, c2, by rw [he, hv], hT2, h.trans (hb.mono h.size)⟩)))
          have SAME := Lib.hid (fun W' a2 c2 (h : Below w9.heap.size w9 W') (h2 : Tps K W' a2 lk) => (refsame_yes lk a9 a2 c9 c2 W' (hT9.below h) h2 ht5n (by rw [← hnk9, HKL.out]; omega)).mono (fun e w' ⟨he, m, hm⟩ => (⟨he, by rw [hm]; exact ⟨h.os, h.tape, h.output, h.size, h.block⟩⟩ : e = Ending.returned (.bool true) ∧ Below w9.heap.size w9 w')))
          simp only [← hnk9] at SAME
          have CL := Lib.hid (fun W' (h : Below w9.heap.size w9 W') => (clean13_ok [nB 12 wN l.length, n2] W'.heap.size 2 ((hI9.below h).below ((Below.refl W'.heap.size W').alloc (Nat.le_refl _) (.cells #[.int .i64 (first : Int), .int .i64 (nB 12 wN l.length : Int), .int .i64 (wN : Int), .int .i64 (l.length : Int), .int .i64 (first2 : Int), .int .i64 (n2 : Int), .int .i64 (n : Int), .int .i64 (nk : Int)] 29))) (fun i hi => by
            have hB := Blk.new W' 29 #[.int .i64 (first : Int), .int .i64 (nB 12 wN l.length : Int), .int .i64 (wN : Int), .int .i64 (l.length : Int), .int .i64 (first2 : Int), .int .i64 (n2 : Int), .int .i64 (n : Int), .int .i64 (nk : Int)]
            have hi2 : i < 2 := hi
            obtain rfl | rfl : i = 0 ∨ i = 1 := by omega
            · exact hB.cell 1
            · exact hB.cell 5) hu9 (by simpa using hsum9) (by simp)).mono (fun e w' he => (⟨he.1, (h.alloc h.size (.cells #[.int .i64 (first : Int), .int .i64 (nB 12 wN l.length : Int), .int .i64 (wN : Int), .int .i64 (l.length : Int), .int .i64 (first2 : Int), .int .i64 (n2 : Int), .int .i64 (n : Int), .int .i64 (nk : Int)] 29)).trans (he.2.mono (by have := h.size; simp; omega))⟩ : e = Ending.returned (.bool true) ∧ Below w9.heap.size w9 w')))
          simp only [List.length_cons, List.length_nil] at CL
          have HB9 := Lib.hid hb9
          clear hown9 hown9' ht5n hT9 hb9 hF9 hG9 hX9 hP9 hnk9 hlk9 hTL9 hsum9 hu9 ho9 hI9 ht9 f9 hfa9 af9 HLS HF8 HG8 HX8 HP8 HTL8 HI8 hnb
          have C9 := CELL.out _ (Below.refl _ _)
          have t1 : w9.cell? ⟨w.heap.size, 1, none⟩ = some (.slice a l.length c) := C9.1.cell 1
          have t2 : w9.cell? ⟨xb, 2, none⟩ = some (.int .i64 (n : Int)) := C9.2.2.1.cell 2
          have p0 : w9.cell? ⟨fb + 1, 0, none⟩ = some (.int .i64 o0) := C9.2.2.2.cell 0
          have p1 : w9.cell? ⟨fb + 1, 1, none⟩ = some (.int .i64 o1) := C9.2.2.2.cell 1
          have p2 : w9.cell? ⟨fb + 1, 2, none⟩ = some (.int .i64 o2) := C9.2.2.2.cell 2
          have p3 : w9.cell? ⟨fb + 1, 3, none⟩ = some (.int .i64 o3) := C9.2.2.2.cell 3
          have p4 : w9.cell? ⟨fb + 1, 4, none⟩ = some (.int .i64 o4) := C9.2.2.2.cell 4
          clear C9
          go_wp2_with fail
          refine (RN.out _ (Below.refl _ _)).mono ?_
          rintro e wrn ⟨a2, c2, rfl, hT2, hrn⟩
          clear t1 t2 p0 p1 p2 p3 p4
          go_wp2_with fail
          refine (SAME.out _ _ _ hrn hT2).mono ?_
          rintro e wsm ⟨rfl, hsm⟩
          have CS := CELL.out _ hsm
          have r0 : wsm.cell? ⟨fb, 0, none⟩ = some (.int .i64 (first : Int)) := CS.2.1.cell 0
          have r1 : wsm.cell? ⟨fb, 1, none⟩ = some (.int .i64 (nB 12 wN l.length : Int)) := CS.2.1.cell 1
          have r2 : wsm.cell? ⟨fb, 2, none⟩ = some (.int .i64 (wN : Int)) := CS.2.1.cell 2
          have r3 : wsm.cell? ⟨fb, 3, none⟩ = some (.int .i64 (l.length : Int)) := CS.2.1.cell 3
          have v0 : wsm.cell? ⟨xb, 0, none⟩ = some (.int .i64 (first2 : Int)) := CS.2.2.1.cell 0
          have v1 : wsm.cell? ⟨xb, 1, none⟩ = some (.int .i64 (n2 : Int)) := CS.2.2.1.cell 1
          have v2 : wsm.cell? ⟨xb, 2, none⟩ = some (.int .i64 (n : Int)) := CS.2.2.1.cell 2
          have v3 : wsm.cell? ⟨xb, 3, none⟩ = some (.int .i64 (nk : Int)) := CS.2.2.1.cell 3
          clear CS
          go_wp2_with fail
          refine (CL.out _ hsm).mono ?_
          rintro e wcl ⟨rfl, hcl⟩
          go_wp2_with fail
          go_ret
          exact ⟨rfl, HB.out.trans ((HB9.out.trans (hcl.mono HB9.out.size)).mono (Nat.le_of_lt hz0))⟩

theorem JoinCuts_law {w : World} (cs : Array Value) (p : Int × List (List Int)) (h : rdPair 1 1 (rdInt .u8) (rdSlice 5 (rdArr 5 1 (rdInt .i64))) w cs.toList p) (ds : Array Value) (os : List Int) (h2 : rdArr 5 1 (rdInt .i64) w ds.toList os) :
    Calls Try.prog 5 #[.agg cs, .agg ds] w fun e w' => e = .returned (.bool true) ∧ Below w.heap.size w w' := by
  obtain ⟨x, a, c, l, rfl, hx, h5, hm, hT⟩ := table_open h
  obtain ⟨o0, o1, o2, o3, o4, rfl, hb⟩ := ints5_open h2
  exact JoinCuts_walk x hx o0 o1 o2 o3 o4 hb a c l hT h5 hm

end Go.Proofs.Ytlbaigkpojkfjaa.Fl
