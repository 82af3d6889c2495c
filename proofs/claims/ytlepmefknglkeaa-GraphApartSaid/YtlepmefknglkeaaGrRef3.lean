/- The walks of the reference of chapter 03: Same; and of few and awake. -/
import Derived.Test.YtlepmefknglkeaaGrRef
set_option linter.unusedVariables false
namespace Go.Proofs.Ytlepmefknglkeaa.Gr
open Go.RowKit

set_option maxRecDepth 100000 in
theorem few_any (n : Int) (a : Option Addr) (m c : Nat) (w : World) (hm : m ≤ 9223372036854775807) :
    Calls Try.prog 15 #[.agg #[.int .i64 n, .slice a m c]] w (Told w (decide ((m : Int) ≤ 300))) := by
  have h0 : Below w.heap.size w (w.alloc (.cells #[.int .i64 n, .slice a m c] 24)) := (Below.refl w.heap.size w).alloc (Nat.le_refl _) _
  have H0 := Lib.hid h0
  clear h0
  go_enter Try.func15, Try.ntmps15
  go_wp2_with fail
  go_ret
  exact ⟨rfl, H0.out⟩

def SameLoop (l k : List E2) (W : World) (iv : Value) (wr : World) : Prop := ∃ i d : Nat, iv = .int .i64 (i : Int) ∧ i ≤ l.length ∧ l.take i = k.take i ∧ wr = W.drewN d

set_option maxRecDepth 100000 in
set_option maxHeartbeats 1000000 in
theorem rsame_any (n m : Int) (l k : List E2) (a b : Option Addr) (na nb ca cb : Nat) (w : World) (ha : ERow w a l) (hb : ERow w b k) (hla : l.length = na) (hkb : k.length = nb) (hl : na < 4611686018427387904) (hm : nb < 4611686018427387904) :
    Calls Try.prog 21 #[.agg #[.int .i64 n, .slice a na ca], .agg #[.int .i64 m, .slice b nb cb]] w (Told w (sameG n m l k)) := by
  have h0 : Below w.heap.size w (w.alloc (.cells #[.int .i64 n, .slice a na ca] 24)) := (Below.refl w.heap.size w).alloc (Nat.le_refl _) _
  have h1 : Below w.heap.size w ((w.alloc (.cells #[.int .i64 n, .slice a na ca] 24)).alloc (.cells #[.int .i64 m, .slice b nb cb] 24)) := h0.alloc (by simp) _
  have H1 := Lib.hid h1
  by_cases hq : n = m
  · subst hq
    by_cases hlen : na = nb
    · subst hlen
      have B0 := Lib.hid ((Blk.new w 24 #[.int .i64 n, .slice a na ca]).alloc (.cells #[.int .i64 n, .slice b na cb] 24))
      have hB1 := Blk.new (w.alloc (.cells #[.int .i64 n, .slice a na ca] 24)) 24 #[.int .i64 n, .slice b na cb]
      rw [show (w.alloc (.cells #[.int .i64 n, .slice a na ca] 24)).heap.size = w.heap.size + 1 by simp] at hB1
      have B1 := Lib.hid hB1
      have HA := Lib.hid (ha.below h1)
      have HB := Lib.hid (hb.below h1)
      have HL := Lib.hid hla
      have HM := Lib.hid hkb
      have HS := Lib.hid (show sameG n n l k = sameL l k by unfold sameG; simp)
      clear h0 h1 hB1 ha hb hla hkb hm
      go_enter Try.func21, Try.ntmps21
      go_wp2_with fail
      generalize (w.alloc (.cells #[.int .i64 n, .slice a na ca] 24)).alloc (.cells #[.int .i64 n, .slice b na cb] 24) = W at *
      go_loopw [5] (fun iv wr => SameLoop l k W iv wr) (fun iv _ => na - (intOf iv).toNat)
      case atStart => exact ⟨0, 0, rfl, by omega, rfl, rfl⟩
      case round =>
        obtain ⟨i, d, rfl, hi, htk, rfl⟩ := hrel
        have g0 : W.cell? ⟨w.heap.size, 1, none⟩ = some (.slice a na ca) := B0.out.cell 1
        have g1 : W.cell? ⟨w.heap.size + 1, 1, none⟩ = some (.slice b na cb) := B1.out.cell 1
        by_cases hlt : (i : Int) < na
        · have k1 : i < l.length := by have := HL.out; omega
          have k2 : i < k.length := by have := HM.out; omega
          obtain ⟨b1, o1, rfl, c1, c2, _⟩ := HA.out i k1
          obtain ⟨b2, o2, rfl, c3, c4, _⟩ := HB.out i k2
          have hk0 : (0 : Int) ≤ (i : Int) := by omega
          have hyes : eqE l[i] k[i] = true → l.take (i + 1) = k.take (i + 1) := fun h => by
            rw [List.take_succ_eq_append_getElem k1, List.take_succ_eq_append_getElem k2, htk, (eqE_iff _ _).1 h]
          have hno : eqE l[i] k[i] = false → sameL l k = false := fun h => by
            unfold sameL
            rw [decide_eq_false_iff_not]
            intro e
            subst e
            rw [(eqE_iff _ _).2 rfl] at h
            cases h
          generalize l[i] = p1 at *
          generalize k[i] = p2 at *
          obtain ⟨u, v⟩ := p1
          obtain ⟨x, y⟩ := p2
          simp only at c1 c2 c3 c4
          have HY := Lib.hid hyes
          have HNO := Lib.hid hno
          clear hyes hno htk k1 k2
          by_cases h1 : u = x
          · subst h1
            by_cases h2 : v = y
            · subst h2
              have HQ := Lib.hid (HY.out ((eqE_iff _ _).2 rfl))
              go_wp2_with fail
              go_quiet (fail)
              go_wp2_with fail
              go_roundw
              case rel => exact ⟨i + 1, _, by go_num, by have := HL.out; omega, HQ.out, rfl⟩
              case measure => simp [intOf]; omega
            · have HQ := Lib.hid (HNO.out (by simp [eqE, h2]))
              go_wp2_with fail
              go_quiet (fail)
              go_wp2_with fail
              go_ret
              exact ⟨congrArg (fun b => Ending.returned (.bool b)) (by rw [HS.out, HQ.out]), below_d (below_d H1.out _) _⟩
          · have HQ := Lib.hid (HNO.out (by simp [eqE, h1]))
            go_wp2_with fail
            go_quiet (fail)
            go_wp2_with fail
            go_ret
            exact ⟨congrArg (fun b => Ending.returned (.bool b)) (by rw [HS.out, HQ.out]), below_d (below_d H1.out _) _⟩
        · have heq : sameL l k = true := by
            unfold sameL
            rw [decide_eq_true_eq]
            rw [List.take_of_length_le (by have := HL.out; omega), List.take_of_length_le (by have := HM.out; omega)] at htk
            exact htk
          have HQ := Lib.hid heq
          clear heq htk
          go_wp2_with fail
          go_ret
          exact ⟨congrArg (fun b => Ending.returned (.bool b)) (by rw [HS.out, HQ.out]), below_d H1.out _⟩
    · have hee : ((na : Int) != (nb : Int)) = true := by rw [bne_iff_ne]; omega
      have heq : sameG n n l k = false := by
        unfold sameG sameL
        rw [decide_eq_false]
        · simp
        · rintro rfl
          exact hlen (hla.symm.trans hkb)
      have HQ := Lib.hid heq
      clear heq h0 h1 ha hb hla hkb hlen
      go_enter Try.func21, Try.ntmps21
      go_wp2_with fail
      go_ret
      exact ⟨congrArg (fun b => Ending.returned (.bool b)) HQ.out.symm, H1.out⟩
  · have heq : sameG n m l k = false := by
      unfold sameG
      simp [hq]
    have HQ := Lib.hid heq
    have hne : (n != m) = true := by simpa using hq
    clear heq h0 h1 ha hb hla hkb
    go_enter Try.func21, Try.ntmps21
    go_wp2_with fail
    go_ret
    exact ⟨congrArg (fun b => Ending.returned (.bool b)) HQ.out.symm, H1.out⟩

end Go.Proofs.Ytlepmefknglkeaa.Gr
