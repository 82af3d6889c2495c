/- The walk of the reference's Decode (under way). -/
import Derived.Test.YtlepmefknglkeaaFmtDecP
import Derived.Test.YtlepmefknglkeaaGrOrderR
import Derived.Test.YtlepmefknglkeaaGrOrders
set_option linter.unusedVariables false
namespace Go.Proofs.Ytlepmefknglkeaa.Gr
open Go.RowKit Var

def DecTold (n : Int) (l : List E2) (p er : Int) (w : World) (e : Ending) (w' : World) : Prop :=
  ∃ a m c, e = .returned (.tuple #[.agg #[.int .i64 n, .slice a m c], .int .i64 p, .int .i64 er]) ∧ ERow w' a l ∧ l.length = m ∧ Below w.heap.size w w'

/-- A refusal: the result's own block is set to the zero graph. -/
theorem dec_none {w w1 : World} {g : Nat} (p : Int) (hB : Blk w1 g 24 #[.int .i64 0, .slice none 0 0]) (h : Below w.heap.size w w1) (hg : w.heap.size ≤ g) :
    DecTold 0 [] p 3 w (.returned (.tuple #[.agg #[.int .i64 0, .slice none 0 0], .int .i64 p, .int .i64 3])) ((w1.setCell ⟨g, 0, none⟩ (.int .i64 0)).setCell ⟨g, 1, none⟩ (.slice none 0 0)) :=
  ⟨none, 0, 0, rfl, fun i hi => absurd hi (by simp), rfl, (h.setCell hg _).setCell hg _⟩

set_option maxRecDepth 100000 in
set_option maxHeartbeats 1000000 in
theorem rdecode_magic (a : Option Addr) (n c : Nat) (b : List Nat) (w : World) (hn : n < 1000000000) (hr : Row w a (byts b)) (hl : b.length = n) (hb : b = [] ∨ b.head? ≠ some 71) :
    Calls Try.prog 35 #[.slice a n c] w (DecTold 0 [] 0 3 w) := by
  have h1 := below_new w (.cells #[.int .i64 0, .slice none 0 0] 24)
  have h2 := h1.trans ((below_new (w.alloc (.cells #[.int .i64 0, .slice none 0 0] 24)) (.cells #[.int .i64 0, .slice none 0 0] 24)).mono h1.size)
  have B1 := Lib.hid ((Blk.new w 24 #[.int .i64 0, .slice none 0 0]).alloc (.cells #[.int .i64 0, .slice none 0 0] 24))
  have B2 := Blk.new (w.alloc (.cells #[.int .i64 0, .slice none 0 0] 24)) 24 #[.int .i64 0, .slice none 0 0]
  rw [show (w.alloc (.cells #[.int .i64 0, .slice none 0 0] 24)).heap.size = w.heap.size + 1 by simp] at B2
  have HB2 := Lib.hid B2
  have H2 := Lib.hid h2
  clear h1 h2 B2
  rcases Nat.eq_zero_or_pos n with h0 | h0
  · subst h0
    clear hb hr hl
    go_enter Try.func35, Try.ntmps35
    go_wp2_with fail
    generalize (w.alloc (.cells #[.int .i64 0, .slice none 0 0] 24)).alloc (.cells #[.int .i64 0, .slice none 0 0] 24) = W at *
    have r0 : W.cell? ⟨w.heap.size, 0, none⟩ = some (.int .i64 0) := B1.out.cell 0
    have r1 : W.cell? ⟨w.heap.size, 1, none⟩ = some (.slice none 0 0) := B1.out.cell 1
    (try simp only [Exit.inBlock, Exit.then])
    refine bodyPost_ret (by simp [results, Try.results35, go_sem, r0, r1]; try rfl) rfl ?_
    exact ⟨none, 0, 0, rfl, fun i hi => absurd hi (by simp), rfl, H2.out⟩
  · obtain ⟨x, hx, hx71⟩ : ∃ x, b[0]? = some x ∧ x ≠ 71 := by
      cases b with
      | nil => simp at hl; omega
      | cons x t =>
        refine ⟨x, rfl, fun e => ?_⟩
        subst e
        simp at hb
    have hr2 := hr.below ((below_new w (.cells #[.int .i64 0, .slice none 0 0] 24)))
    obtain ⟨g, off, rfl, e1, hg⟩ := hr.at_ (i := 0) (by rw [byts_length]; omega)
    have e2 : (byts b)[0]'(by rw [byts_length]; omega) = .int .u8 (x : Int) := by
      obtain ⟨h7, h8⟩ := List.getElem?_eq_some_iff.1 hx
      simp [byts, h8]
    rw [e2, Nat.add_zero] at e1
    have hne : ((x : Int) != 71) = true := by rw [bne_iff_ne]; omega
    have hn0 : (0 : Int) < n := by omega
    have hn1 : ¬ (n : Int) = 0 := by omega
    have hn2 : ((n : Int) == 0) = false := by simp; omega
    clear hb hr hl hr2 e2 hx
    go_enter Try.func35, Try.ntmps35
    go_wp2_with fail
    generalize (w.alloc (.cells #[.int .i64 0, .slice none 0 0] 24)).alloc (.cells #[.int .i64 0, .slice none 0 0] 24) = W at *
    have r0 : W.cell? ⟨w.heap.size, 0, none⟩ = some (.int .i64 0) := B1.out.cell 0
    have r1 : W.cell? ⟨w.heap.size, 1, none⟩ = some (.slice none 0 0) := B1.out.cell 1
    (try simp only [Exit.inBlock, Exit.then])
    refine bodyPost_ret (by simp [results, Try.results35, go_sem, r0, r1]; try rfl) rfl ?_
    exact ⟨none, 0, 0, rfl, fun i hi => absurd hi (by simp), rfl, H2.out⟩

/-- The first number is none. -/
theorem head_cell {w : World} {a : Option Addr} {b : List Nat} (hr : Row w a (byts b)) (hb : b.head? = some 71) : ∃ g off, a = some ⟨g, off, none⟩ ∧ w.cell? ⟨g, off, none⟩ = some (.int .u8 71) ∧ g < w.heap.size ∧ 0 < b.length := by
  cases b with
  | nil => simp at hb
  | cons x t =>
    obtain rfl : x = 71 := by simpa using hb
    obtain ⟨g, off, h1, h2, h3⟩ := hr.at_ (i := 0) (by simp [byts])
    exact ⟨g, off, h1, by simpa [byts] using h2, h3, by simp⟩

set_option maxRecDepth 100000 in
set_option maxHeartbeats 1000000 in
theorem rdecode_first (a : Option Addr) (n c : Nat) (b : List Nat) (w : World) (hn : n < 1000000000) (hr : Row w a (byts b)) (hl : b.length = n) (h256 : ∀ x ∈ b, x < 256) (hb : b.head? = some 71) (hf : (num b 1 1073741824).2.2 = true) :
    Calls Try.prog 35 #[.slice a n c] w (DecTold 0 [] (num b 1 1073741824).2.1 3 w) := by
  have h1 := below_new w (.cells #[.int .i64 0, .slice none 0 0] 24)
  have h2 := h1.trans ((below_new (w.alloc (.cells #[.int .i64 0, .slice none 0 0] 24)) (.cells #[.int .i64 0, .slice none 0 0] 24)).mono h1.size)
  have B1 := Lib.hid ((Blk.new w 24 #[.int .i64 0, .slice none 0 0]).alloc (.cells #[.int .i64 0, .slice none 0 0] 24))
  have B2 := Blk.new (w.alloc (.cells #[.int .i64 0, .slice none 0 0] 24)) 24 #[.int .i64 0, .slice none 0 0]
  rw [show (w.alloc (.cells #[.int .i64 0, .slice none 0 0] 24)).heap.size = w.heap.size + 1 by simp] at B2
  have HB2 := Lib.hid B2
  have H2 := Lib.hid h2
  have N1 := number_any a n c b 1 1073741824 _ h256 hn (by omega) (hr.below h2) hl
  rw [show ((1073741824 : Nat) : Int) = 1073741824 from rfl, hf] at N1
  generalize num b 1 1073741824 = q at *
  have HN := Lib.hid N1
  obtain ⟨g, off, rfl, e1, hg, hlb⟩ := head_cell hr hb
  have hn1 : ¬ (n : Int) = 0 := by omega
  have hn2 : ((n : Int) == 0) = false := by simp; omega
  have hn0 : (0 : Int) < n := by omega
  clear h1 h2 B2 N1 hr hl h256 hb hf
  go_enter Try.func35, Try.ntmps35
  go_wp2_with fail
  generalize (w.alloc (.cells #[.int .i64 0, .slice none 0 0] 24)).alloc (.cells #[.int .i64 0, .slice none 0 0] 24) = W at *
  refine HN.out.mono ?_
  rintro e w1 ⟨rfl, rfl⟩
  have r0 : W.cell? ⟨w.heap.size, 0, none⟩ = some (.int .i64 0) := B1.out.cell 0
  have r1 : W.cell? ⟨w.heap.size, 1, none⟩ = some (.slice none 0 0) := B1.out.cell 1
  have f0 := B1.out.frozen 0
  have f1 := B1.out.frozen 1
  have s0 : W.cell? ⟨w.heap.size + 1, 0, none⟩ = some (.int .i64 0) := HB2.out.cell 0
  have s1 : W.cell? ⟨w.heap.size + 1, 1, none⟩ = some (.slice none 0 0) := HB2.out.cell 1
  have hl1 := B1.out.lt
  go_wp2_with fail
  obtain ⟨_, r2, r3⟩ := res_cells B1.out (.int .i64 0) (.slice none 0 0)
  (try simp only [Exit.inBlock, Exit.then])
  refine bodyPost_ret (by simp [results, Try.results35, go_sem, r2, r3]; try rfl) rfl ?_
  exact dec_none q.2.1 B1.out H2.out (Nat.le_refl _)

set_option maxRecDepth 100000 in
set_option maxHeartbeats 1000000 in
theorem rdecode_second (a : Option Addr) (n c : Nat) (b : List Nat) (w : World) (hn : n < 1000000000) (hr : Row w a (byts b)) (hl : b.length = n) (h256 : ∀ x ∈ b, x < 256) (hb : b.head? = some 71) (hf : (num b 1 1073741824).2.2 = false) (hf2 : (num b (num b 1 1073741824).2.1 (if (num b 1 1073741824).1 = 0 then 0 else 1073741824)).2.2 = true) :
    Calls Try.prog 35 #[.slice a n c] w (DecTold 0 [] (num b (num b 1 1073741824).2.1 (if (num b 1 1073741824).1 = 0 then 0 else 1073741824)).2.1 3 w) := by
  have h1 := below_new w (.cells #[.int .i64 0, .slice none 0 0] 24)
  have h2 := h1.trans ((below_new (w.alloc (.cells #[.int .i64 0, .slice none 0 0] 24)) (.cells #[.int .i64 0, .slice none 0 0] 24)).mono h1.size)
  have B1 := Lib.hid ((Blk.new w 24 #[.int .i64 0, .slice none 0 0]).alloc (.cells #[.int .i64 0, .slice none 0 0] 24))
  have B2 := Blk.new (w.alloc (.cells #[.int .i64 0, .slice none 0 0] 24)) 24 #[.int .i64 0, .slice none 0 0]
  rw [show (w.alloc (.cells #[.int .i64 0, .slice none 0 0] 24)).heap.size = w.heap.size + 1 by simp] at B2
  have HB2 := Lib.hid B2
  have H2 := Lib.hid h2
  have N1 := number_any a n c b 1 1073741824 _ h256 hn (by omega) (hr.below h2) hl
  rw [show ((1073741824 : Nat) : Int) = 1073741824 from rfl, hf] at N1
  generalize num b 1 1073741824 = q at *
  have HN := Lib.hid N1
  have N2 := number_any a n c b q.2.1 (if q.1 = 0 then 0 else 1073741824) _ h256 hn (by split <;> omega) (hr.below h2) hl
  rw [show (((if q.1 = 0 then 0 else 1073741824 : Nat)) : Int) = if q.1 = 0 then 0 else 1073741824 by split <;> rfl, hf2] at N2
  generalize hmo : (if q.1 = 0 then (0 : Int) else 1073741824) = mo at *
  generalize num b q.2.1 mo = q2 at *
  have HN2 := Lib.hid N2
  obtain ⟨g, off, rfl, e1, hg, hlb⟩ := head_cell hr hb
  have hn1 : ¬ (n : Int) = 0 := by omega
  have hn2 : ((n : Int) == 0) = false := by simp; omega
  have hn0 : (0 : Int) < n := by omega
  clear h1 h2 B2 N1 N2 hr hl h256 hb hf hf2
  have HMO := Lib.hid hmo
  clear hmo
  go_enter Try.func35, Try.ntmps35
  go_wp2_with fail
  generalize (w.alloc (.cells #[.int .i64 0, .slice none 0 0] 24)).alloc (.cells #[.int .i64 0, .slice none 0 0] 24) = W at *
  refine HN.out.mono ?_
  rintro e w1 ⟨rfl, rfl⟩
  by_cases h0 : q.1 = 0
  · have hm := HMO.out
    rw [if_pos h0] at hm
    subst hm
    have h00 : (q.1 == 0) = true := by simp [h0]
    go_wp2_with fail
    refine HN2.out.mono ?_
    rintro e w1 ⟨rfl, rfl⟩
    have r0 : W.cell? ⟨w.heap.size, 0, none⟩ = some (.int .i64 0) := B1.out.cell 0
    have r1 : W.cell? ⟨w.heap.size, 1, none⟩ = some (.slice none 0 0) := B1.out.cell 1
    have f0 := B1.out.frozen 0
    have f1 := B1.out.frozen 1
    have s0 : W.cell? ⟨w.heap.size + 1, 0, none⟩ = some (.int .i64 0) := HB2.out.cell 0
    have s1 : W.cell? ⟨w.heap.size + 1, 1, none⟩ = some (.slice none 0 0) := HB2.out.cell 1
    have hl1 := B1.out.lt
    go_wp2_with fail
    obtain ⟨_, r2, r3⟩ := res_cells B1.out (.int .i64 0) (.slice none 0 0)
    (try simp only [Exit.inBlock, Exit.then])
    refine bodyPost_ret (by simp [results, Try.results35, go_sem, r2, r3]; try rfl) rfl ?_
    exact dec_none q2.2.1 B1.out H2.out (Nat.le_refl _)
  · have hm := HMO.out
    rw [if_neg h0] at hm
    subst hm
    have h00 : (q.1 == 0) = false := by simp [h0]
    go_wp2_with fail
    refine HN2.out.mono ?_
    rintro e w1 ⟨rfl, rfl⟩
    have r0 : W.cell? ⟨w.heap.size, 0, none⟩ = some (.int .i64 0) := B1.out.cell 0
    have r1 : W.cell? ⟨w.heap.size, 1, none⟩ = some (.slice none 0 0) := B1.out.cell 1
    have f0 := B1.out.frozen 0
    have f1 := B1.out.frozen 1
    have s0 : W.cell? ⟨w.heap.size + 1, 0, none⟩ = some (.int .i64 0) := HB2.out.cell 0
    have s1 : W.cell? ⟨w.heap.size + 1, 1, none⟩ = some (.slice none 0 0) := HB2.out.cell 1
    have hl1 := B1.out.lt
    go_wp2_with fail
    obtain ⟨_, r2, r3⟩ := res_cells B1.out (.int .i64 0) (.slice none 0 0)
    (try simp only [Exit.inBlock, Exit.then])
    refine bodyPost_ret (by simp [results, Try.results35, go_sem, r2, r3]; try rfl) rfl ?_
    exact dec_none q2.2.1 B1.out H2.out (Nat.le_refl _)

end Go.Proofs.Ytlepmefknglkeaa.Gr
