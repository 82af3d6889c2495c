/- A script of acts, as it lies in memory, and the walk of few. -/
import Derived.Test.YtodjibhnmibedaaDevApart
set_option linter.unusedVariables false
namespace Go.Proofs.Ytodjibhnmibedaa.Dev
open Go.RowKit

abbrev Op5 : Type := Int × Int × Int × Bool × List Bool

/-- Act number i of a script. -/
structure OpAt (w : World) (a : Option Addr) (i : Nat) (o : Op5) : Prop where
  ex : ∃ b off ka kn kc, a = some ⟨b, off, none⟩ ∧ b < w.heap.size ∧ w.cell? ⟨b, off + i * 5, none⟩ = some (.int .i64 o.1) ∧ w.cell? ⟨b, off + i * 5 + 1, none⟩ = some (.int .i64 o.2.1) ∧ w.cell? ⟨b, off + i * 5 + 2, none⟩ = some (.int .u64 o.2.2.1) ∧
    w.cell? ⟨b, off + i * 5 + 3, none⟩ = some (.bool o.2.2.2.1) ∧ w.cell? ⟨b, off + i * 5 + 4, none⟩ = some (.slice ka kn kc) ∧ kn ≤ 9223372036854775807
  wf : (Lit.int .i64 o.1).wf = true ∧ (Lit.int .i64 o.2.1).wf = true ∧ (Lit.int .u64 o.2.2.1).wf = true

theorem rdSlice_ops {w : World} {a : Option Addr} {n c : Nat} {l : List Op5} (h : rdSlice 5 rdOp5 w [.slice a n c] l) :
    l.length = n ∧ n ≤ c ∧ c ≤ maxLen ∧ ∀ i (hi : i < l.length), OpAt w a i l[i] := by
  obtain ⟨a', n', c', e, hl, hn, hc, _, hr⟩ := h
  simp only [List.cons.injEq, Value.slice.injEq, and_true] at e
  obtain ⟨rfl, rfl, rfl⟩ := e
  refine ⟨hl, hn, hc, fun i hi => ?_⟩
  obtain ⟨x, es, rfl, hes, hj, ho⟩ := hr i hi
  obtain ⟨x0, es0, hx0, hes0, hj0, ho0⟩ := hr 0 (by omega)
  injection hx0 with hx0
  subst hx0
  obtain ⟨ka0, kn0, kc0, rfl, -⟩ := op5_cells ho0
  obtain ⟨ka, kn, kc, rfl, h1, h2, h3, -, w1, w2, w3⟩ := op5_cells ho
  obtain ⟨b, off, spot⟩ := x
  have h0 := hj0 0 (by omega)
  rw [show ((⟨b, off, spot⟩ : Addr).add (0 * 5)).add 0 = ⟨b, off, spot⟩ from by simp [Addr.add]] at h0
  have hs := (cell_lt h0).2
  simp only at hs
  subst hs
  unfold maxLen at h3
  have q0 := hj 0 (by omega)
  have q1 := hj 1 (by omega)
  have q2 := hj 2 (by omega)
  have q3 := hj 3 (by omega)
  have q4 := hj 4 (by omega)
  rw [add_none, add_none] at q0 q1 q2 q3 q4
  exact ⟨⟨b, off, ka, kn, kc, rfl, (cell_lt h0).1, by simpa using q0, by simpa using q1, by simpa using q2, by simpa using q3, by simpa using q4, by omega⟩, w1, w2, w3⟩

def FewLoop (n : Nat) (iv : Value) : Prop := ∃ k : Nat, iv = .int .i64 (k : Int) ∧ k ≤ n
def Few (w : World) (n : Nat) (e : Ending) (w' : World) : Prop := ∃ b : Bool, e = .returned (.bool b) ∧ (b = true → n ≤ 80) ∧ w = w'

set_option maxRecDepth 100000 in
theorem few_any {w : World} {a : Option Addr} {n c : Nat} {l : List Op5} (h : rdSlice 5 rdOp5 w [.slice a n c] l) (W : World) (hb : Below w.heap.size w W) :
    Calls Try.prog 21 #[.slice a n c] W (Few W n) := by
  obtain ⟨hl, hn, hc, hr⟩ := rdSlice_ops h
  unfold maxLen at hc
  have hnc : (n : Int) ≤ 9223372036854775807 := by omega
  have HR := Lib.hid hr
  have HL := Lib.hid hl
  have HB := Lib.hid hb
  clear hr h hl hb
  go_enter Try.func21, Try.ntmps21
  go_wp2_with fail
  go_loop [3] (fun iv => FewLoop n iv) (fun iv => n - (intOf iv).toNat)
  case atStart => exact ⟨0, rfl, by omega⟩
  case round =>
    obtain ⟨k, rfl, hk⟩ := hrel
    by_cases hlt : (k : Int) < n
    · by_cases h100 : (k : Int) < 100
      · obtain ⟨⟨b, off, ka, kn, kc, rfl, hbl, c0, c1, c2, c3, c4, hkn⟩, -⟩ := HR.out k (by have := HL.out; omega)
        have d4 : W.cell? ⟨b, off + k * 5 + 4, none⟩ = some (.slice ka kn kc) := by rw [HB.out.cell hbl, c4]
        clear c0 c1 c2 c3 c4
        by_cases h200 : (200 : Int) < kn
        · go_wp2_with fail
          go_ret
          exact ⟨false, rfl, (fun h => by cases h), rfl⟩
        · go_wp2_with fail
          go_round
          case rel => exact ⟨k + 1, by go_num, by omega⟩
          case measure => simp [intOf]; omega
      · have h80 : decide ((n : Int) ≤ 80) = false := by simp; omega
        go_wp2_with fail
        go_ret
        exact ⟨false, rfl, (fun h => by cases h), rfl⟩
    · by_cases h80 : (n : Int) ≤ 80
      · go_wp2_with fail
        go_ret
        exact ⟨true, rfl, fun _ => by omega, rfl⟩
      · go_wp2_with fail
        go_ret
        exact ⟨false, rfl, (fun h => by cases h), rfl⟩

end Go.Proofs.Ytodjibhnmibedaa.Dev
