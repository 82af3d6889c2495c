/- The law FormatOnly. -/
import Derived.Test.YtlepmefknglkeaaFmtOnlyP
import Derived.Test.YtlepmefknglkeaaFmtAwake
set_option linter.unusedVariables false
namespace Go.Proofs.Ytlepmefknglkeaa.Gr
open Go.RowKit Var

def BytLoop (xs ys : List Nat) (w : World) (iv : Value) (wr : World) : Prop :=
  ∃ i d : Nat, iv = .int .i64 (i : Int) ∧ i ≤ xs.length ∧ xs.take i = ys.take i ∧ w.drewN d = wr

set_option maxRecDepth 100000 in
set_option maxHeartbeats 1000000 in
theorem bytes_any (xs ys : List Nat) (a b : Option Addr) (na nb ca cb : Nat) (w : World) (ha : Row w a (byts xs)) (hb : Row w b (byts ys)) (hla : xs.length = na) (hlb : ys.length = nb) (hl : na ≤ 9223372036854775807) (hl2 : nb ≤ 9223372036854775807) :
    Calls Try.prog 33 #[.slice a na ca, .slice b nb cb] w (Told w (decide (xs = ys))) := by
  by_cases hlen : na = nb
  · subst hlen
    have hee : ((na : Int) != (na : Int)) = false := by simp
    have HA := Lib.hid ha
    have HB := Lib.hid hb
    have HL := Lib.hid hla
    have HM := Lib.hid hlb
    clear ha hb hla hlb
    go_enter Try.func33, Try.ntmps33
    go_wp2_with fail
    go_loopw [5] (fun iv wr => BytLoop xs ys w iv wr) (fun iv _ => na - (intOf iv).toNat)
    case atStart => exact ⟨0, 0, rfl, by omega, rfl, rfl⟩
    case round =>
      obtain ⟨i, d, rfl, hi, htk, rfl⟩ := hrel
      by_cases hlt : (i : Int) < na
      · have k1 : i < xs.length := by have := HL.out; omega
        have k2 : i < ys.length := by have := HM.out; omega
        obtain ⟨b1, o1, rfl, c1, _⟩ := HA.out.at_ (i := i) (by rw [byts_length]; exact k1)
        obtain ⟨b2, o2, rfl, c2, _⟩ := HB.out.at_ (i := i) (by rw [byts_length]; exact k2)
        simp only [byts, List.getElem_map] at c1 c2
        have hk0 : (0 : Int) ≤ (i : Int) := by omega
        have hyes : xs[i] = ys[i] → xs.take (i + 1) = ys.take (i + 1) := fun h => by
          rw [List.take_succ_eq_append_getElem k1, List.take_succ_eq_append_getElem k2, htk, h]
        have hno : xs[i] ≠ ys[i] → decide (xs = ys) = false := fun h => by
          rw [decide_eq_false_iff_not]
          intro e
          subst e
          exact h rfl
        generalize xs[i] = u at *
        generalize ys[i] = v at *
        have HY := Lib.hid hyes
        have HNO := Lib.hid hno
        clear hyes hno htk k1 k2
        by_cases h1 : u = v
        · have HQ := Lib.hid (HY.out h1)
          subst h1
          go_wp2_with fail
          go_quiet (fail)
          go_wp2_with fail
          go_roundw
          case rel => exact ⟨i + 1, _, by go_num, by have := HL.out; omega, HQ.out, rfl⟩
          case measure => simp [intOf]; omega
        · have HQ := Lib.hid (HNO.out h1)
          have h2 : ((u : Int) != (v : Int)) = true := by rw [bne_iff_ne]; omega
          go_wp2_with fail
          go_quiet (fail)
          go_wp2_with fail
          go_ret
          exact ⟨congrArg (fun b => Ending.returned (.bool b)) HQ.out.symm, below_d (below_d (Below.refl _ _) _) _⟩
      · have heq : decide (xs = ys) = true := by
          rw [decide_eq_true_eq]
          rw [List.take_of_length_le (by have := HL.out; omega), List.take_of_length_le (by have := HM.out; omega)] at htk
          exact htk
        have HQ := Lib.hid heq
        clear heq htk
        go_wp2_with fail
        go_ret
        exact ⟨congrArg (fun b => Ending.returned (.bool b)) HQ.out.symm, below_d (Below.refl _ _) _⟩
  · have hee : ((na : Int) != (nb : Int)) = true := by rw [bne_iff_ne]; omega
    have heq : decide (xs = ys) = false := by
      rw [decide_eq_false_iff_not]
      rintro rfl
      exact hlen (hla.symm.trans hlb)
    have HQ := Lib.hid heq
    clear heq ha hb hla hlb hlen
    go_enter Try.func33, Try.ntmps33
    go_wp2_with fail
    go_ret
    exact ⟨congrArg (fun b => Ending.returned (.bool b)) HQ.out.symm, Below.refl _ _⟩

theorem same_self' (n : Int) (l : List E2) : sameG n n l l = true := by unfold sameG sameL; simp
theorem only_plain {A B : Nat} {l k : List E2} (ha : formed A l = true) (hb : formed B k = true) : (decide (encB (ordL l) A = encB (ordL k) B)) = sameG A B (ordL l) (ordL k) := by
  by_cases h : A = B ∧ ordL l = ordL k
  · obtain ⟨rfl, h2⟩ := h
    rw [h2, same_self', decide_eq_true rfl]
  · rw [decide_eq_false (fun e => h (encB_inj (fine_ord ha) (fine_ord hb) e))]
    unfold sameG sameL
    by_cases h1 : A = B
    · have h2 : ¬ ordL l = ordL k := fun e => h ⟨h1, e⟩
      simp [h1, h2]
    · have h3 : ¬ (A : Int) = (B : Int) := by omega
      simp [h3]
theorem encX_len {n : Int} {l : List E2} (h1 : n ≤ 500) (h2 : l.length ≤ 300) : (encX n l).length ≤ 1000000 := by
  unfold encX
  split
  · rename_i hf
    have hn := formed_nat hf
    rw [hn] at hf
    have F := fine_ord hf
    have h1 := head_len (N := n.toNat) (M := (ordL l).length) (by omega) (by rw [ordL_length]; omega)
    have h2 := body_len F n.toNat (Nat.le_refl _)
    have h3 := pre_le (ordL l) ((n.toNat : Nat) : Int)
    rw [ordL_length] at h3
    unfold encB
    rw [List.length_append]
    omega
  · simp

set_option maxRecDepth 100000 in
set_option maxHeartbeats 2000000 in
theorem FormatOnly_walk {w : World} (n m : Int) (l k : List E2) (a b : Option Addr) (ca cb : Nat) (ha : ERow w a l) (hb : ERow w b k) (hl : l.length ≤ 9223372036854775807) (hk : k.length ≤ 9223372036854775807) :
    Calls Try.prog 8 #[.agg #[.int .i64 n, .slice a l.length ca], .agg #[.int .i64 m, .slice b k.length cb]] w (Told w true) := by
  have b0 := below_new w (.cells #[.int .i64 n, .slice a l.length ca] 24)
  have hz0 : (w.alloc (.cells #[.int .i64 n, .slice a l.length ca] 24)).heap.size = w.heap.size + 1 := by simp
  have b1 := below_new (w.alloc (.cells #[.int .i64 n, .slice a l.length ca] 24)) (.cells #[.int .i64 m, .slice b k.length cb] 24)
  have hA0 := (GBox.new n ca ha rfl).below b1
  have hB0 := GBox.new m cb (hb.below b0) rfl
  rw [hz0] at hB0
  have A0 := Lib.hid hA0
  have B0 := Lib.hid hB0
  have H0 := Lib.hid (b0.trans (b1.mono b0.size))
  have hz := H0.out.size
  clear b0 b1 ha hb hA0 hB0 hz0
  go_enter Try.func8, Try.ntmps8
  go_wp2_with fail
  generalize (w.alloc (.cells #[.int .i64 n, .slice a l.length ca] 24)).alloc (.cells #[.int .i64 m, .slice b k.length cb] 24) = W at *
  refine (awake4_any W).mono ?_
  rintro e w1 ⟨rfl, hb⟩
  have A1 := Lib.hid (A0.out.below hb)
  have B1 := Lib.hid (B0.out.below hb)
  have H1 := Lib.hid (H0.out.trans (hb.mono hz))
  replace hz := H1.out.size
  clear hb A0 B0 H0
  obtain ⟨c1, c2, c3⟩ := A1.out.cells
  go_wp2_with fail
  refine (rfew_any n 200 150 a l.length ca w1 hl).mono ?_
  rintro e w2 ⟨rfl, hb⟩
  have A2 := Lib.hid (A1.out.below hb)
  have B2 := Lib.hid (B1.out.below hb)
  have H2 := Lib.hid (H1.out.trans (hb.mono hz))
  replace hz := H2.out.size
  clear hb A1 B1 H1 c1 c2 c3
  obtain ⟨c1, c2, c3⟩ := B2.out.cells
  cases hq : (decide (n ≤ 200) && decide ((l.length : Int) ≤ 150))
  · go_wp2_with fail
    refine (awake4_any w2).mono ?_
    rintro e w4 ⟨rfl, hb⟩
    go_wp2_with fail
    go_ret
    exact ⟨rfl, H2.out.trans (hb.mono hz)⟩
  simp only [Bool.and_eq_true, decide_eq_true_eq] at hq
  obtain ⟨q1, q2⟩ := hq
  go_wp2_with fail
  refine (rfew_any m 200 150 b k.length cb w2 hk).mono ?_
  rintro e w3 ⟨rfl, hb⟩
  have A3 := Lib.hid (A2.out.below hb)
  have B3 := Lib.hid (B2.out.below hb)
  have H3 := Lib.hid (H2.out.trans (hb.mono hz))
  replace hz := H3.out.size
  clear hb A2 B2 H2 c1 c2 c3
  cases hq : (decide (m ≤ 200) && decide ((k.length : Int) ≤ 150))
  · go_wp2_with fail
    refine (awake4_any w3).mono ?_
    rintro e w4 ⟨rfl, hb⟩
    go_wp2_with fail
    go_ret
    exact ⟨rfl, H3.out.trans (hb.mono hz)⟩
  simp only [Bool.and_eq_true, decide_eq_true_eq] at hq
  obtain ⟨q3, q4⟩ := hq
  obtain ⟨c1, c2, c3⟩ := A3.out.cells
  have hx1 := encX_len (n := n) (l := l) (by omega) (by omega)
  have hx2 := encX_len (n := m) (l := k) (by omega) (by omega)
  go_wp2_with fail
  refine (encode_told n l a l.length ca w3 A3.out.row rfl hl).mono ?_
  rintro e w4 ⟨a4, m4, d4, rfl, hr4, hl4, hb⟩
  have A4 := Lib.hid (A3.out.below hb)
  have B4 := Lib.hid (B3.out.below hb)
  have H4 := Lib.hid (H3.out.trans (hb.mono hz))
  replace hz := H4.out.size
  have R4 := Lib.hid hr4
  clear hb A3 B3 H3 c1 c2 c3 hr4
  obtain ⟨c1, c2, c3⟩ := B4.out.cells
  go_wp2_with fail
  refine (encode_told m k b k.length cb w4 B4.out.row rfl hk).mono ?_
  rintro e w5 ⟨a5, m5, d5, rfl, hr5, hl5, hb⟩
  have A5 := Lib.hid (A4.out.below hb)
  have B5 := Lib.hid (B4.out.below hb)
  have H5 := Lib.hid (H4.out.trans (hb.mono hz))
  replace hz := H5.out.size
  have R5 := Lib.hid (R4.out.below hb)
  have S5 := Lib.hid hr5
  clear hb A4 B4 H4 c1 c2 c3 hr5 R4
  cases hfa : formed n l
  · have e1 : erO n l = 1 := by unfold erO; rw [hfa]; rfl
    rw [e1]
    go_wp2_with fail
    go_ret
    exact ⟨rfl, H5.out⟩
  have e1 : erO n l = 0 := by unfold erO; rw [hfa]; rfl
  rw [e1]
  cases hfb : formed m k
  · have e2 : erO m k = 1 := by unfold erO; rw [hfb]; rfl
    rw [e2]
    go_wp2_with fail
    go_ret
    exact ⟨rfl, H5.out⟩
  have e2 : erO m k = 0 := by unfold erO; rw [hfb]; rfl
  rw [e2]
  obtain ⟨A, rfl⟩ : ∃ A : Nat, n = (A : Int) := ⟨n.toNat, formed_nat hfa⟩
  obtain ⟨B, rfl⟩ : ∃ B : Nat, m = (B : Int) := ⟨m.toNat, formed_nat hfb⟩
  have x1 : encX (A : Int) l = encB (ordL l) A := by unfold encX; rw [if_pos hfa]; rfl
  have x2 : encX (B : Int) k = encB (ordL k) B := by unfold encX; rw [if_pos hfb]; rfl
  rw [x1] at hx1 R5 hl4
  rw [x2] at hx2 S5 hl5
  have HPL := Lib.hid (only_plain hfa hfb)
  have O1 := Lib.hid (rorder_ok A l a l.length ca w5 A5.out.row rfl (by omega) hfa)
  have O2 := Lib.hid (fun W' (h : Below w5.heap.size w5 W') => rorder_ok B k b k.length cb W' (B5.out.row.below h) rfl (by omega) hfb)
  generalize encB (ordL l) A = xs at *
  generalize encB (ordL k) B = ys at *
  have hol := ordL_length l
  have hok := ordL_length k
  generalize ordL l = lo at *
  generalize ordL k = ko at *
  obtain ⟨c1, c2, c3⟩ := A5.out.cells
  clear e1 e2 x1 x2 hfa hfb
  go_wp2_with fail
  refine O1.out.mono ?_
  rintro e w6 ⟨a6, m6, d6, rfl, hr6, hl6, hb⟩
  obtain rfl : l.length = m6 := by omega
  have hb' := hb.trans ((below_new w6 (.cells #[.int .i64 (A : Int), .slice a6 l.length d6] 24)).mono hb.size)
  have P7 := Lib.hid (GBox.new (A : Int) d6 hr6 hl6)
  have R7 := Lib.hid (R5.out.below hb')
  have S7 := Lib.hid (S5.out.below hb')
  have O7 := Lib.hid (O2.out _ hb')
  have H7 := Lib.hid (H5.out.trans (hb'.mono hz))
  clear c1 c2 c3
  obtain ⟨c1, c2, c3⟩ := (B5.out.below hb).cells
  clear hb hb' hr6 A5 B5 R5 S5 O1 O2 H5
  go_wp2_with fail
  generalize w6.alloc (.cells #[.int .i64 (A : Int), .slice a6 l.length d6] 24) = w7 at *
  generalize w6.heap.size = bP at *
  replace hz := H7.out.size
  refine O7.out.mono ?_
  rintro e w8 ⟨a8, m8, d8, rfl, hr8, hl8, hb⟩
  obtain rfl : k.length = m8 := by omega
  have hb' := hb.trans ((below_new w8 (.cells #[.int .i64 (B : Int), .slice a8 k.length d8] 24)).mono hb.size)
  have Q9 := Lib.hid (GBox.new (B : Int) d8 hr8 hl8)
  have P9 := Lib.hid (P7.out.below hb')
  have R9 := Lib.hid (R7.out.below hb')
  have S9 := Lib.hid (S7.out.below hb')
  have H9 := Lib.hid (H7.out.trans (hb'.mono hz))
  clear c1 c2 c3 hb hb' hr8 P7 R7 S7 O7 H7
  go_wp2_with fail
  generalize w8.alloc (.cells #[.int .i64 (B : Int), .slice a8 k.length d8] 24) = w9 at *
  generalize w8.heap.size = bQ at *
  have cells := Lib.hid (fun W' (h : Below w9.heap.size w9 W') => (⟨(P9.out.below h).cells.1, (P9.out.below h).cells.2.1, (Q9.out.below h).cells.1, (Q9.out.below h).cells.2.1⟩ : W'.cell? ⟨bP, 0, none⟩ = some (.int .i64 (A : Int)) ∧ W'.cell? ⟨bP, 1, none⟩ = some (.slice a6 l.length d6) ∧ W'.cell? ⟨bQ, 0, none⟩ = some (.int .i64 (B : Int)) ∧ W'.cell? ⟨bQ, 1, none⟩ = some (.slice a8 k.length d8)))
  have C1 := Lib.hid (fun W' (h : Below w9.heap.size w9 W') => (bytes_any xs ys a4 a5 m4 m5 d4 d5 W' (R9.out.below h) (S9.out.below h) hl4 hl5 (by omega) (by omega)).mono (fun e w2 (he : Told W' _ e w2) => (⟨he.1, h.trans (he.2.mono h.size)⟩ : Tw w9 _ e w2)))
  have C2 := Lib.hid (fun W' (h : Below w9.heap.size w9 W') => (rsame_any (A : Int) (B : Int) lo ko a6 a8 l.length k.length d6 d8 W' (P9.out.row.below h) (Q9.out.row.below h) hol hok (by omega) (by omega)).mono (fun e w2 (he : Told W' _ e w2) => (⟨he.1, h.trans (he.2.mono h.size)⟩ : Tw w9 _ e w2)))
  rw [HPL.out] at C1
  generalize sameG (A : Int) (B : Int) lo ko = bb at *
  obtain ⟨c1, c2, c3, c4⟩ := cells.out w9 (Below.refl _ _)
  have hd0 : Below w9.heap.size w9 w9.drew := (Below.refl _ _).drew
  have hbe : (bb == bb) = true := by simp
  go_region_held3 (fun w' => Below w9.heap.size w9 w' ∧ w'.cell? ⟨bP, 0, none⟩ = some (.int .i64 (A : Int)) ∧ w'.cell? ⟨bP, 1, none⟩ = some (.slice a6 l.length d6) ∧ w'.cell? ⟨bQ, 0, none⟩ = some (.int .i64 (B : Int)) ∧ w'.cell? ⟨bQ, 1, none⟩ = some (.slice a8 k.length d8))
    (exact ⟨by assumption, (cells.out _ (by assumption)).1, (cells.out _ (by assumption)).2.1, (cells.out _ (by assumption)).2.2.1, (cells.out _ (by assumption)).2.2.2⟩)
    ((first | (go_at_call 33; refine (C1.out _ (by assumption)).mono ?_; rintro e w10 ⟨rfl, hb10⟩) | (go_at_call 21; refine (C2.out _ (by assumption)).mono ?_; rintro e w11 ⟨rfl, hb11⟩)))
  all_goals
    go_wp2_with fail
    go_ret
    first
      | exact ⟨rfl, H9.out.trans (hb11.mono H9.out.size)⟩
      | exact ⟨rfl, H9.out.trans (hb10.mono H9.out.size)⟩

theorem FormatOnly_law {w : World} (cs : Array Value) (g : Int × List (Int × Int)) (h : rdGraph w cs.toList g) (cs' : Array Value) (g' : Int × List (Int × Int)) (h' : rdGraph w cs'.toList g') :
    Calls Try.prog 8 #[.agg cs, .agg cs'] w fun e w' => e = .returned (.bool true) ∧ Below w.heap.size w w' := by
  obtain ⟨a, m, c, rfl, h1, h2, h3, _⟩ := graph_open h
  obtain ⟨a', m', c', rfl, h1', h2', h3', _⟩ := graph_open h'
  subst h2
  subst h2'
  exact FormatOnly_walk g.1 g'.1 g.2 g'.2 a a' c c' h1 h1' h3 h3'

end Go.Proofs.Ytlepmefknglkeaa.Gr
