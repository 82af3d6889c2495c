/- Edges held against each other, and the walks of slices.Equal at edges and of graph.Same. -/
import Derived.Test.YtlepmefknglkeaaGrSorted
import Derived.Laws.StructEq
set_option linter.unusedVariables false
namespace Go.Proofs.Ytlepmefknglkeaa.Gr
open Go.RowKit

def eqE (p q : E2) : Bool := p.1 == q.1 && p.2 == q.2
theorem eqE_iff (p q : E2) : eqE p q = true ↔ p = q := by
  unfold eqE
  rw [Bool.and_eq_true, beq_iff_eq, beq_iff_eq]
  exact ⟨fun ⟨h1, h2⟩ => Prod.ext h1 h2, fun h => by rw [h]; exact ⟨rfl, rfl⟩⟩

theorem equal_edge (d : Nat) (u v x y : Int) (w : World) : (Op.equalIn (d + 2) 36 (.agg #[.int .i64 u, .int .i64 v]) (.agg #[.int .i64 x, .int .i64 y])).run Try.prog w = .ok (eqE (u, v) (x, y)) w := by
  rw [show d + 2 = (d + 1) + 1 from rfl, run_equalIn_struct w (d + 1) 36 _ _ (by kernel_rfl) (by kernel_rfl)]
  have hf : (Try.prog.fieldsOf 36).toList = [{ name := "U", type := 3, offset := 0, embedded := false, tag := "", pkgPath := "", byteOffset := 0 }, { name := "V", type := 3, offset := 1, embedded := false, tag := "", pkgPath := "", byteOffset := 8 }] := by kernel_rfl
  rw [hf]
  have h3 := Try.underlying3
  simp [Op.eqFields, part, run_equalIn_int _ _ _ _ _ _ _ h3, eqE]
  by_cases h1 : u = x
  · by_cases h2 : v = y
    · simp [h1, h2]
    · simp [h1, h2]
  · simp [h1]

@[go_sem] theorem equal_edge' (u v x y : Int) (w : World) : (Op.equalIn 10000 36 (.agg #[.int .i64 u, .int .i64 v]) (.agg #[.int .i64 x, .int .i64 y])).run Try.prog w = .ok (eqE (u, v) (x, y)) w := equal_edge 9998 u v x y w

@[go_sem] theorem neq_edge (u v x y : Int) (w : World) : (binOp .neq 36 (.agg #[.int .i64 u, .int .i64 v]) (.agg #[.int .i64 x, .int .i64 y])).run Try.prog w = .ok (.bool (!eqE (u, v) (x, y))) w := by
  rw [run_neq_struct, show (10000 : Nat) = 9998 + 2 from rfl, equal_edge]
  rfl
@[go_sem] theorem eql_edge (u v x y : Int) (w : World) : (binOp .eql 36 (.agg #[.int .i64 u, .int .i64 v]) (.agg #[.int .i64 x, .int .i64 y])).run Try.prog w = .ok (.bool (eqE (u, v) (x, y))) w := by
  rw [run_eql_struct, show (10000 : Nat) = 9998 + 2 from rfl, equal_edge]
  rfl
theorem guard_edge : Try.prog.eqGuardType Try.prog.depth 36 = false := by kernel_rfl
@[go_sem] theorem eqGuard_edge (op : BinOp) (x y : Operand) (xs ys : Array Value) (w : World) : (eqGuard op 36 x y (.agg xs) (.agg ys)).run Try.prog w = .ok () w := run_eqGuard_agg w op _ x y xs ys guard_edge

def EqLoop (l m : List E2) (w : World) (iv : Value) (wr : World) : Prop := ∃ k d : Nat, iv = .int .i64 (k : Int) ∧ k ≤ l.length ∧ l.take k = m.take k ∧ wr = w.drewN d
def sameL (l m : List E2) : Bool := decide (l = m)

set_option maxRecDepth 100000 in
set_option maxHeartbeats 400000 in
theorem equal_any (l m : List E2) (a b : Option Addr) (na nb ca cb : Nat) (w : World) (ha : ERow w a l) (hb : ERow w b m) (hla : l.length = na) (hmb : m.length = nb) (hl : na < 4611686018427387904) (hm : nb < 4611686018427387904) :
    Calls Try.prog 42 #[.slice a na ca, .slice b nb cb] w fun e w' => e = .returned (.bool (sameL l m)) ∧ ∃ d, w' = w.drewN d := by
  by_cases hlen : na = nb
  · subst hlen
    have hee : ((na : Int) != (na : Int)) = false := by simp
    have HL := Lib.hid hla
    have HM := Lib.hid hmb
    clear hla hmb hm
    go_enter Try.func42, Try.ntmps42
    go_wp2_with fail
    go_loopw [13] (fun iv wr => EqLoop l m w iv wr) (fun iv _ => na - (intOf iv).toNat)
    case atStart => exact ⟨0, 0, rfl, by omega, rfl, rfl⟩
    case round =>
      obtain ⟨k, d, rfl, hk, htk, rfl⟩ := hrel
      by_cases hlt : (k : Int) < na
      · have k1 : k < l.length := by have := HL.out; omega
        have k2 : k < m.length := by have := HM.out; omega
        obtain ⟨b1, o1, rfl, c1, c2, _⟩ := ha k k1
        obtain ⟨b2, o2, rfl, c3, c4, _⟩ := hb k k2
        have hk0 : (0 : Int) ≤ (k : Int) := by omega
        have hyes : eqE l[k] m[k] = true → l.take (k + 1) = m.take (k + 1) := fun h => by
          rw [List.take_succ_eq_append_getElem k1, List.take_succ_eq_append_getElem k2, htk, (eqE_iff _ _).1 h]
        have hno : eqE l[k] m[k] = false → sameL l m = false := fun h => by
          unfold sameL
          rw [decide_eq_false_iff_not]
          intro e
          subst e
          rw [(eqE_iff _ _).2 rfl] at h
          cases h
        generalize l[k] = p1 at *
        generalize m[k] = p2 at *
        obtain ⟨u, v⟩ := p1
        obtain ⟨x, y⟩ := p2
        simp only at c1 c2 c3 c4
        have HY := Lib.hid hyes
        have HNO := Lib.hid hno
        clear hyes hno htk ha hb k1 k2
        by_cases h1 : u = x
        · subst h1
          by_cases h2 : v = y
          · subst h2
            have HQ := Lib.hid (HY.out ((eqE_iff _ _).2 rfl))
            go_wp2_with fail
            go_quiet (fail)
            go_wp2_with fail
            go_roundw
            case rel => exact ⟨k + 1, _, by go_num, by have := HL.out; omega, HQ.out, rfl⟩
            case measure => simp [intOf]; omega
          · have HQ := Lib.hid (HNO.out (by simp [eqE, h2]))
            go_wp2_with fail
            go_quiet (fail)
            go_wp2_with fail
            go_ret
            exact ⟨congrArg (fun b => Ending.returned (.bool b)) HQ.out.symm, _, by first | rfl | exact World.drewN_drewN _ _ _⟩
        · have HQ := Lib.hid (HNO.out (by simp [eqE, h1]))
          go_wp2_with fail
          go_quiet (fail)
          go_wp2_with fail
          go_ret
          exact ⟨congrArg (fun b => Ending.returned (.bool b)) HQ.out.symm, _, by first | rfl | exact World.drewN_drewN _ _ _⟩
      · have heq : sameL l m = true := by
          unfold sameL
          rw [decide_eq_true_eq]
          rw [List.take_of_length_le (by have := HL.out; omega), List.take_of_length_le (by have := HM.out; omega)] at htk
          exact htk
        have HQ := Lib.hid heq
        clear heq htk ha hb
        go_wp2_with fail
        go_ret
        exact ⟨congrArg (fun b => Ending.returned (.bool b)) HQ.out.symm, _, by first | rfl | exact World.drewN_drewN _ _ _⟩
  · have hee : ((na : Int) != (nb : Int)) = true := by rw [bne_iff_ne]; omega
    have heq : sameL l m = false := by
      unfold sameL
      rw [decide_eq_false_iff_not]
      rintro rfl
      exact hlen (hla.symm.trans hmb)
    have HQ := Lib.hid heq
    clear heq hlen ha hb hla hmb
    go_enter Try.func42, Try.ntmps42
    go_wp2_with fail
    go_ret
    exact ⟨congrArg (fun b => Ending.returned (.bool b)) HQ.out.symm, 0, rfl⟩

def sameG (n m : Int) (l k : List E2) : Bool := n == m && sameL l k

set_option maxRecDepth 100000 in
set_option maxHeartbeats 400000 in
theorem same_any (n m : Int) (l k : List E2) (a b : Option Addr) (na nb ca cb : Nat) (w : World) (ha : ERow w a l) (hb : ERow w b k) (hla : l.length = na) (hkb : k.length = nb) (hl : na < 4611686018427387904) (hm : nb < 4611686018427387904) :
    Calls Try.prog 20 #[.agg #[.int .i64 n, .slice a na ca], .agg #[.int .i64 m, .slice b nb cb]] w (Told w (sameG n m l k)) := by
  have h0 : Below w.heap.size w (w.alloc (.cells #[.int .i64 n, .slice a na ca] 24)) := (Below.refl w.heap.size w).alloc (Nat.le_refl _) _
  have h1 : Below w.heap.size w ((w.alloc (.cells #[.int .i64 n, .slice a na ca] 24)).alloc (.cells #[.int .i64 m, .slice b nb cb] 24)) := h0.alloc (by simp) _
  have HS := Lib.hid (fun W (hW : Below w.heap.size w W) => equal_any l k a b na nb ca cb W (ha.below hW) (hb.below hW) hla hkb hl hm)
  have H1 := Lib.hid h1
  have hsame : sameG n m l k = (n == m && sameL l k) := rfl
  have HO := Lib.hid hsame
  clear h0 h1 ha hb hla hkb hl hm hsame
  go_enter Try.func20, Try.ntmps20
  by_cases hq : n = m
  · subst hq
    go_wp2_with fail
    refine (HS.out _ H1.out).mono ?_
    rintro e w1 ⟨rfl, d, rfl⟩
    go_wp2_with fail
    go_ret
    exact ⟨congrArg (fun b => Ending.returned (.bool b)) (by rw [HO.out]; simp), below_d H1.out _⟩
  · go_wp2_with fail
    go_ret
    exact ⟨congrArg (fun b => Ending.returned (.bool b)) (by rw [HO.out]; simp [hq]), H1.out⟩

end Go.Proofs.Ytlepmefknglkeaa.Gr
