/- Texts of mine, packed: JnLay, JnClean, JnNumC. -/
import Derived.Test.YtlbaigkpojkfjaaK13
set_option linter.unusedVariables false

/- Chapter 13's laws: a table is laid. -/
namespace Go.Proofs.Ytlbaigkpojkfjaa.Fl
open Go.RowKit

set_option maxRecDepth 100000 in
set_option maxHeartbeats 4000000 in
theorem lay13_no {K : Key} (x wN : Nat) (p : Nat) (l : List Tup) (a : Option Addr) (c : Nat) (w : World) (hx : wN = 1 + x % 5) (hb : x < 256) (hl : Tps K w a l) (ht5 : ∀ t ∈ l, t.length = 5) (h : 200 < l.length ∨ allB wN l = false) :
    Calls Try.prog 11 #[P p, .agg #[.int .u8 (x : Int), .slice a l.length c]] w (fun e w' => e = .returned (.tuple #[.agg noFile, .bool false]) ∧ Below w.heap.size w w') := by
  have hbl : Below w.heap.size w ((w.alloc (.cells #[.int .u8 (x : Int), .slice a l.length c] 24)).alloc (.cells noFile 29)) := ((Below.refl _ _).alloc (Nat.le_refl _) _).alloc (by simp) _
  have hF := (Blk.new w 24 #[.int .u8 (x : Int), .slice a l.length c]).alloc (.cells noFile 29)
  have hR := Blk.new (w.alloc (.cells #[.int .u8 (x : Int), .slice a l.length c] 24)) 29 noFile
  rw [show (w.alloc (.cells #[.int .u8 (x : Int), .slice a l.length c] 24)).heap.size = w.heap.size + 1 from by simp] at hR
  have HT := Lib.hid (hl.below hbl)
  have HB := Lib.hid hbl
  have HF := Lib.hid hF
  have HR := Lib.hid hR
  have HT5 := Lib.hid ht5
  have HX := Lib.hid (And.intro hx hb)
  have HH := Lib.hid h
  unfold noFile at *
  clear hbl hF hR hl hx hb ht5 h
  go_enter Try.func11, Try.ntmps11
  go_wp2_with fail
  generalize ((w.alloc (.cells #[.int .u8 (x : Int), .slice a l.length c] 24)).alloc (.cells #[.int .i64 0, .int .i64 0, .int .i64 0, .int .i64 0] 29)) = w1 at *
  have hz1 : w.heap.size + 1 < w1.heap.size := HR.out.lt
  have hd0 : Below w1.heap.size w1 w1.drew := (Below.refl _ _).drew
  have CELL := Lib.hid (fun W' (h : Below w1.heap.size w1 W') => (And.intro ((HF.out.below h HF.out.lt).cell 0) ((HF.out.below h HF.out.lt).cell 1) : W'.cell? ⟨w.heap.size, 0, none⟩ = some (.int .u8 (x : Int)) ∧ W'.cell? ⟨w.heap.size, 1, none⟩ = some (.slice a l.length c)))
  have WID := Lib.hid (fun W' (h : Below w1.heap.size w1 W') => (width13_any x wN (.slice a l.length c) W' HX.out.1 HX.out.2).mono (fun e w' he => (⟨he.1, h.trans (he.2.mono h.size)⟩ : e = Ending.returned (.int .i64 (wN : Int)) ∧ Below w1.heap.size w1 w')))
  by_cases hlt : (200 : Int) < (l.length : Int)
  · have e1 : decide ((200 : Int) < (l.length : Int)) = true := by simpa using hlt
    have e2 : decide (200 < l.length) = true := by simp; omega
    have c0 : w1.cell? ⟨w.heap.size, 0, none⟩ = some (.int .u8 (x : Int)) := HF.out.cell 0
    have c1 : w1.cell? ⟨w.heap.size, 1, none⟩ = some (.slice a l.length c) := HF.out.cell 1
    go_quiet (fail)
    have hb2 : Below w1.heap.size w1 (w1.drewN nq) := ⟨rfl, rfl, rfl, Nat.le_refl _, fun _ _ => rfl⟩
    clear c0 c1 e1 e2
    generalize w1.drewN nq = w2 at *
    have hR2 := HR.out.below hb2 HR.out.lt
    have p0 : w2.cell? ⟨w.heap.size + 1, 0, none⟩ = some (.int .i64 0) := hR2.cell 0
    have p1 : w2.cell? ⟨w.heap.size + 1, 1, none⟩ = some (.int .i64 0) := hR2.cell 1
    have p2 : w2.cell? ⟨w.heap.size + 1, 2, none⟩ = some (.int .i64 0) := hR2.cell 2
    have p3 : w2.cell? ⟨w.heap.size + 1, 3, none⟩ = some (.int .i64 0) := hR2.cell 3
    have g0 := hR2.frozen 0
    have g1 := hR2.frozen 1
    have g2 := hR2.frozen 2
    have g3 := hR2.frozen 3
    have HR3 := Lib.hid ((((hR2.set_ 0 (.int .i64 0)).set_ 1 (.int .i64 0)).set_ 2 (.int .i64 0)).set_ 3 (.int .i64 0))
    have HB3 := Lib.hid (((((HB.out.trans (hb2.mono (by have := HB.out.size; omega))).setCell (p := ⟨w.heap.size + 1, 0, none⟩) (by simp) (.int .i64 0)).setCell (p := ⟨w.heap.size + 1, 1, none⟩) (by simp) (.int .i64 0)).setCell (p := ⟨w.heap.size + 1, 2, none⟩) (by simp) (.int .i64 0)).setCell (p := ⟨w.heap.size + 1, 3, none⟩) (by simp) (.int .i64 0))
    clear hR2 hb2
    go_wp2_with fail
    generalize ((((w2.setCell ⟨w.heap.size + 1, 0, none⟩ (.int .i64 0)).setCell ⟨w.heap.size + 1, 1, none⟩ (.int .i64 0)).setCell ⟨w.heap.size + 1, 2, none⟩ (.int .i64 0)).setCell ⟨w.heap.size + 1, 3, none⟩ (.int .i64 0)) = w3 at *
    have s0 : w3.cell? ⟨w.heap.size + 1, 0, none⟩ = some (.int .i64 0) := HR3.out.cell 0
    have s1 : w3.cell? ⟨w.heap.size + 1, 1, none⟩ = some (.int .i64 0) := HR3.out.cell 1
    have s2 : w3.cell? ⟨w.heap.size + 1, 2, none⟩ = some (.int .i64 0) := HR3.out.cell 2
    have s3 : w3.cell? ⟨w.heap.size + 1, 3, none⟩ = some (.int .i64 0) := HR3.out.cell 3
    refine bodyPost_ret (v := .tuple #[.agg #[.int .i64 0, .int .i64 0, .int .i64 0, .int .i64 0], .bool false]) (by simp [results, Try.results11, go_sem, s0, s1, s2, s3]; try rfl) rfl ?_
    exact ⟨rfl, HB3.out⟩
  · have hle : l.length ≤ 200 := by omega
    have HALL := Lib.hid (fun W' (h : Below w1.heap.size w1 W') => (refall_any wN l a c W' (by have := HX.out.1; omega) (HT.out.below h) HT5.out (by omega)).mono (fun e w' he => (⟨by rw [he.1, (show allB wN l = false by rcases HH.out with h | h; (omega); exact h)], h.trans (he.2.mono h.size)⟩ : e = Ending.returned (.bool false) ∧ Below w1.heap.size w1 w')))
    have e1 : decide ((200 : Int) < (l.length : Int)) = false := by simpa using hlt
    have e2 : decide (200 < l.length) = false := by simp; omega
    go_region_held3 (fun w' => Below w1.heap.size w1 w' ∧ w'.cell? ⟨w.heap.size, 0, none⟩ = some (.int .u8 (x : Int)) ∧ w'.cell? ⟨w.heap.size, 1, none⟩ = some (.slice a l.length c))
      (exact ⟨by assumption, (CELL.out _ (by assumption)).1, (CELL.out _ (by assumption)).2⟩)
      (first
        | (go_at_call 13; refine (WID.out _ (by assumption)).mono ?_; rintro e wwd ⟨rfl, hwd⟩)
        | (go_at_call 31; refine (HALL.out _ (by assumption)).mono ?_; rintro e wal ⟨rfl, hal⟩))
    have hb2 := hal
    have hR2 := HR.out.below hb2 HR.out.lt
    have p0 : wal.cell? ⟨w.heap.size + 1, 0, none⟩ = some (.int .i64 0) := hR2.cell 0
    have p1 : wal.cell? ⟨w.heap.size + 1, 1, none⟩ = some (.int .i64 0) := hR2.cell 1
    have p2 : wal.cell? ⟨w.heap.size + 1, 2, none⟩ = some (.int .i64 0) := hR2.cell 2
    have p3 : wal.cell? ⟨w.heap.size + 1, 3, none⟩ = some (.int .i64 0) := hR2.cell 3
    have g0 := hR2.frozen 0
    have g1 := hR2.frozen 1
    have g2 := hR2.frozen 2
    have g3 := hR2.frozen 3
    have HR3 := Lib.hid ((((hR2.set_ 0 (.int .i64 0)).set_ 1 (.int .i64 0)).set_ 2 (.int .i64 0)).set_ 3 (.int .i64 0))
    have HB3 := Lib.hid (((((HB.out.trans (hb2.mono (by have := HB.out.size; omega))).setCell (p := ⟨w.heap.size + 1, 0, none⟩) (by simp) (.int .i64 0)).setCell (p := ⟨w.heap.size + 1, 1, none⟩) (by simp) (.int .i64 0)).setCell (p := ⟨w.heap.size + 1, 2, none⟩) (by simp) (.int .i64 0)).setCell (p := ⟨w.heap.size + 1, 3, none⟩) (by simp) (.int .i64 0))
    clear hR2 hb2
    go_wp2_with fail
    generalize ((((wal.setCell ⟨w.heap.size + 1, 0, none⟩ (.int .i64 0)).setCell ⟨w.heap.size + 1, 1, none⟩ (.int .i64 0)).setCell ⟨w.heap.size + 1, 2, none⟩ (.int .i64 0)).setCell ⟨w.heap.size + 1, 3, none⟩ (.int .i64 0)) = w3 at *
    have s0 : w3.cell? ⟨w.heap.size + 1, 0, none⟩ = some (.int .i64 0) := HR3.out.cell 0
    have s1 : w3.cell? ⟨w.heap.size + 1, 1, none⟩ = some (.int .i64 0) := HR3.out.cell 1
    have s2 : w3.cell? ⟨w.heap.size + 1, 2, none⟩ = some (.int .i64 0) := HR3.out.cell 2
    have s3 : w3.cell? ⟨w.heap.size + 1, 3, none⟩ = some (.int .i64 0) := HR3.out.cell 3
    refine bodyPost_ret (v := .tuple #[.agg #[.int .i64 0, .int .i64 0, .int .i64 0, .int .i64 0], .bool false]) (by simp [results, Try.results11, go_sem, s0, s1, s2, s3]; try rfl) rfl ?_
    exact ⟨rfl, HB3.out⟩

def LaidF (w : World) (O : Nat → Prop) (K : Key) (W : Wk) (c a wN : Nat) (l : List Tup) (e : Ending) (w' : World) : Prop :=
  ∃ first W' O', e = .returned (.tuple #[.agg (fcells first (nB 12 wN l.length) wN l.length), .bool true]) ∧ Okin w w' O O' ∧ WkI w' O' K W' ∧ Turn K (fun _ => False) w w' ∧ Fine W' (c + 200) (a + 200) ∧ W'.D.fault = -1 ∧ Held W' first wN l ∧ After W W' (nB 12 wN l.length)
/-- Before a file is laid: the file's own box isn't there, or it is. -/
structure La1 (w1 w : World) : Prop where
  b : Below w1.heap.size w1 w
structure La2 (w1 w : World) (q : Nat) : Prop where
  b : Below w1.heap.size w1 w
  blk : Blk w q 29 noFile
  far : w1.heap.size ≤ q
/-- Behind it. -/
structure LQ (w1 w : World) (O : Nat → Prop) (K : Key) (W : Wk) (c0 a0 wN : Nat) (l : List Tup) (tb : Nat) (cs : Array Value) (first : Nat) (W' : Wk) (O' : Nat → Prop) : Prop where
  okin : Okin w1 w O O'
  wk : WkI w O' K W'
  turn : Turn K (fun q => w1.heap.size ≤ q) w1 w
  fine : Fine W' (c0 + 200) (a0 + 200)
  fault : W'.D.fault = -1
  held : Held W' first wN l
  after : After W W' (nB 12 wN l.length)
  tab : Blk w tb 24 cs
structure LQ2 (w1 w : World) (O : Nat → Prop) (K : Key) (W : Wk) (c0 a0 wN : Nat) (l : List Tup) (tb : Nat) (cs : Array Value) (first : Nat) (W' : Wk) (O' : Nat → Prop) (q : Nat) (fs : Array Value) : Prop where
  lq : LQ w1 w O K W c0 a0 wN l tb cs first W' O'
  blk : Blk w q 29 fs
  far : w1.heap.size ≤ q
section
variable {w1 w w' : World} {O O' : Nat → Prop} {K : Key} {W W' : Wk} {c0 a0 wN tb first q : Nat} {l : List Tup} {cs fs : Array Value}
theorem La1.alloc (h : La1 w1 w) : La2 w1 (w.alloc (.cells noFile 29)) w.heap.size :=
  ⟨h.b.alloc h.b.size _, Blk.new _ _ _, h.b.size⟩
theorem La1.below (h : La1 w1 w) (hb : Below w.heap.size w w') : La1 w1 w' := ⟨h.b.trans (hb.mono h.b.size)⟩
theorem La2.below (h : La2 w1 w q) (hb : Below w.heap.size w w') : La2 w1 w' q := ⟨h.b.trans (hb.mono h.b.size), h.blk.below hb h.blk.lt, h.far⟩
theorem LQ.alloc (h : LQ w1 w O K W c0 a0 wN l tb cs first W' O') (fs : Array Value) : LQ2 w1 (w.alloc (.cells fs 29)) O K W c0 a0 wN l tb cs first W' O' w.heap.size fs := by
  have hb : Below w.heap.size w (w.alloc (.cells fs 29)) := (Below.refl _ _).alloc (Nat.le_refl _) _
  exact ⟨⟨⟨fun g hg => h.okin.1 g (by have := hb.size; omega), h.okin.2⟩, h.wk.below hb, h.turn.trans (Turn.below hb), h.fine, h.fault, h.held, h.after, h.tab.below hb h.tab.lt⟩, Blk.new _ _ _, h.turn.size⟩
theorem LQ2.store {x0 x1 x2 x3 : Value} (h : LQ2 w1 w O K W c0 a0 wN l tb cs first W' O' q #[x0, x1, x2, x3]) (a b c d : Value) : LQ2 w1 (four w q a b c d) O K W c0 a0 wN l tb cs first W' O' q #[a, b, c, d] := by
  obtain ⟨h1, h2, h3⟩ := four_store h.lq.wk h.blk a b c d
  have ht := h.lq.wk.blk h3 h.lq.tab (by decide) (by decide) (by decide) (by decide) (by decide) (fun e => h.lq.tab.ne_ h.blk (by decide) e)
  exact ⟨⟨⟨fun g hg => h.lq.okin.1 g (by have := h3.size; omega), h.lq.okin.2⟩, h1, h.lq.turn.trans (h3.mono (fun k e => by rw [e]; exact h.far)), h.lq.fine, h.lq.fault, h.lq.held, h.lq.after, ht⟩, h2, h.far⟩
theorem LQ.cells {u v : Value} (h : LQ w1 w O K W c0 a0 wN l tb #[u, v] first W' O') : w.cell? ⟨tb, 0, none⟩ = some u ∧ w.cell? ⟨tb, 1, none⟩ = some v := ⟨h.tab.cell 0, h.tab.cell 1⟩
theorem LQ2.cells {u v : Value} (h : LQ2 w1 w O K W c0 a0 wN l tb #[u, v] first W' O' q fs) : w.cell? ⟨tb, 0, none⟩ = some u ∧ w.cell? ⟨tb, 1, none⟩ = some v := h.lq.cells
theorem lay_q {a : Option Addr} {c : Nat} (hI : WkI w1 O K W) (hF : Fine W c0 a0) (hfa : W.D.fault = -1) (hO : ∀ g, w1.heap.size ≤ g → O g) (hc : c0 + 200 ≤ 5000) (ha : a0 ≤ 100000000) (hl : Tps K w1 a l) (ht5 : ∀ t ∈ l, t.length = 5) (hle : l.length ≤ 200) (hfit : FitsW wN l) (n1 : 1 ≤ wN) (n5 : wN ≤ 5) (htab : Blk w1 tb 24 cs) (hb : Below w1.heap.size w1 w) :
    Calls Try.prog 30 #[P K.wk, .int .i64 (wN : Int), .slice a l.length c] w (fun e w' => ∃ (first : Nat) (W' : Wk) (O' : Nat → Prop), e = .returned (.tuple #[.agg #[.int .i64 (first : Int), .int .i64 (nB 12 wN l.length : Int), .int .i64 (wN : Int), .int .i64 (l.length : Int)], .int .i64 0]) ∧ LQ w1 w' O K W c0 a0 wN l tb cs first W' O' ∧ Turn K (fun _ => False) w w') := by
  have hnb := nB_few n1 n5 hle
  refine (lay_c wN l a c (hI.below hb) hF.sure (by rw [hF.B, hF.blocks]; exact Nat.le_refl _) n1 n5 (by omega) (by rw [hF.size, hF.used, hF.room]; omega) (hl.below hb) ht5 (by have := hF.acts; omega) (fun g hg => hO g (by have := hb.size; omega))).mono ?_
  rintro e w' ⟨W', O', ho, hI', ht, hh⟩
  rcases hh with ⟨first, rfl, hok⟩ | ⟨er, rfl, hno⟩
  · obtain ⟨f1, f2, f3⟩ := fine_laid hF hI.inv hok n1 n5 hle hc
    refine ⟨first, W', O', by rw [hF.size]; rfl, ⟨⟨ho.1, fun g hg h => ho.2 g (by have := hb.size; omega) h⟩, hI', (Turn.below hb).trans (ht.mono (fun _ h => h.elim)), f1, f3.fault hfa, f2, f3, ?_⟩, ht⟩
    exact (hI.below hb).blk ht (htab.below hb htab.lt) (by decide) (by decide) (by decide) (by decide) (by decide) (fun h => h)
  · exact (hno.not hfit hfa ⟨c0, by rw [hF.size]; exact hF.room_ (by omega)⟩).elim
theorem lay_q2 {a : Option Addr} {c : Nat} (hI : WkI w1 O K W) (hF : Fine W c0 a0) (hfa : W.D.fault = -1) (hO : ∀ g, w1.heap.size ≤ g → O g) (hc : c0 + 200 ≤ 5000) (ha : a0 ≤ 100000000) (hl : Tps K w1 a l) (ht5 : ∀ t ∈ l, t.length = 5) (hle : l.length ≤ 200) (hfit : FitsW wN l) (n1 : 1 ≤ wN) (n5 : wN ≤ 5) (htab : Blk w1 tb 24 cs) (hb : La2 w1 w q) :
    Calls Try.prog 30 #[P K.wk, .int .i64 (wN : Int), .slice a l.length c] w (fun e w' => ∃ (first : Nat) (W' : Wk) (O' : Nat → Prop), e = .returned (.tuple #[.agg #[.int .i64 (first : Int), .int .i64 (nB 12 wN l.length : Int), .int .i64 (wN : Int), .int .i64 (l.length : Int)], .int .i64 0]) ∧ LQ2 w1 w' O K W c0 a0 wN l tb cs first W' O' q noFile) := by
  refine (lay_q hI hF hfa hO hc ha hl ht5 hle hfit n1 n5 htab hb.b).mono ?_
  rintro e w' ⟨first, W', O', he, hq, ht⟩
  exact ⟨first, W', O', he, hq, (hI.below hb.b).blk ht hb.blk (by decide) (by decide) (by decide) (by decide) (by decide) (fun h => h), hb.far⟩
end

set_option maxRecDepth 100000 in
set_option maxHeartbeats 4000000 in
theorem lay13_yes {K : Key} {O : Nat → Prop} {W : Wk} {c0 a0 : Nat} (x wN : Nat) (l : List Tup) (a : Option Addr) (c : Nat) (w : World) (hx : wN = 1 + x % 5) (hb : x < 256) (hI : WkI w O K W) (hF0 : Fine W c0 a0) (hfa : W.D.fault = -1) (hO : ∀ g, w.heap.size ≤ g → O g) (hc : c0 + 200 ≤ 5000) (ha : a0 ≤ 100000000)
    (hl : Tps K w a l) (ht5 : ∀ t ∈ l, t.length = 5) (hle : l.length ≤ 200) (hall : allB wN l = true) :
    Calls Try.prog 11 #[P K.wk, .agg #[.int .u8 (x : Int), .slice a l.length c]] w (LaidF w O K W c0 a0 wN l) := by
  have hbl : Below w.heap.size w ((w.alloc (.cells #[.int .u8 (x : Int), .slice a l.length c] 24)).alloc (.cells noFile 29)) := ((Below.refl _ _).alloc (Nat.le_refl _) _).alloc (by simp) _
  have hF := (Blk.new w 24 #[.int .u8 (x : Int), .slice a l.length c]).alloc (.cells noFile 29)
  have hR := Blk.new (w.alloc (.cells #[.int .u8 (x : Int), .slice a l.length c] 24)) 29 noFile
  rw [show (w.alloc (.cells #[.int .u8 (x : Int), .slice a l.length c] 24)).heap.size = w.heap.size + 1 from by simp] at hR
  have HT := Lib.hid (hl.below hbl)
  have HB := Lib.hid hbl
  have HF := Lib.hid hF
  have HR := Lib.hid hR
  have HT5 := Lib.hid ht5
  have HI := Lib.hid (hI.below hbl)
  have HX := Lib.hid (And.intro hx hb)
  have HF0 := Lib.hid hF0
  clear hF0
  have HO := Lib.hid hO
  have HAL := Lib.hid hall
  have HFA := Lib.hid hfa
  have HC := Lib.hid (And.intro hc ha)
  unfold noFile at *
  clear hbl hF hR hl hx hb ht5 hI hO hall hfa hc ha
  go_enter Try.func11, Try.ntmps11
  go_wp2_with fail
  generalize ((w.alloc (.cells #[.int .u8 (x : Int), .slice a l.length c] 24)).alloc (.cells #[.int .i64 0, .int .i64 0, .int .i64 0, .int .i64 0] 29)) = w1 at *
  have hz1 : w.heap.size + 1 < w1.heap.size := HR.out.lt
  have hd0 : Below w1.heap.size w1 w1.drew := (Below.refl _ _).drew
  have CELL := Lib.hid (fun W' (h : Below w1.heap.size w1 W') => (And.intro ((HF.out.below h HF.out.lt).cell 0) ((HF.out.below h HF.out.lt).cell 1) : W'.cell? ⟨w.heap.size, 0, none⟩ = some (.int .u8 (x : Int)) ∧ W'.cell? ⟨w.heap.size, 1, none⟩ = some (.slice a l.length c)))
  have WID := Lib.hid (fun W' (h : Below w1.heap.size w1 W') => (width13_any x wN (.slice a l.length c) W' HX.out.1 HX.out.2).mono (fun e w' he => (⟨he.1, h.trans (he.2.mono h.size)⟩ : e = Ending.returned (.int .i64 (wN : Int)) ∧ Below w1.heap.size w1 w')))
  have HALL := Lib.hid (fun W' (h : Below w1.heap.size w1 W') => (refall_any wN l a c W' (by have := HX.out.1; omega) (HT.out.below h) HT5.out (by omega)).mono (fun e w' he => (⟨by rw [he.1, HAL.out], h.trans (he.2.mono h.size)⟩ : e = Ending.returned (.bool true) ∧ Below w1.heap.size w1 w')))
  have hlt : ¬ (200 : Int) < (l.length : Int) := by omega
  have e1 : decide ((200 : Int) < (l.length : Int)) = false := by simpa using hlt
  have e2 : decide (200 < l.length) = false := by simp; omega
  go_region_held3 (fun w' => Below w1.heap.size w1 w' ∧ w'.cell? ⟨w.heap.size, 0, none⟩ = some (.int .u8 (x : Int)) ∧ w'.cell? ⟨w.heap.size, 1, none⟩ = some (.slice a l.length c))
      (exact ⟨by assumption, (CELL.out _ (by assumption)).1, (CELL.out _ (by assumption)).2⟩)
      (first
        | (go_at_call 13; refine (WID.out _ (by assumption)).mono ?_; rintro e wwd ⟨rfl, hwd⟩)
        | (go_at_call 31; refine (HALL.out _ (by assumption)).mono ?_; rintro e wal ⟨rfl, hal⟩))
  go_wp2_with fail
  have HFN := Lib.hid ((allB_iff HT5.out).1 HAL.out)
  have HLQ := Lib.hid (fun W' (h : La1 wal W') => lay_q (c := c) (HI.out.below hal) HF0.out HFA.out (fun g hg => HO.out g (by have := hal.size; have := HB.out.size; omega)) HC.out.1 HC.out.2 (HT.out.below hal) HT5.out hle HFN.out (by have := HX.out.1; omega) (by have := HX.out.1; omega) (HF.out.below hal HF.out.lt) h.b)
  have HLQ2 := Lib.hid (fun W' q (h : La2 wal W' q) => lay_q2 (c := c) (HI.out.below hal) HF0.out HFA.out (fun g hg => HO.out g (by have := hal.size; have := HB.out.size; omega)) HC.out.1 HC.out.2 (HT.out.below hal) HT5.out hle HFN.out (by have := HX.out.1; omega) (by have := HX.out.1; omega) (HF.out.below hal HF.out.lt) h)
  have hA1 : La1 wal wal.drew := ⟨(Below.refl _ _).drew⟩
  have hA2 : La2 wal (wal.drew.alloc (.cells noFile 29)) wal.heap.size := hA1.alloc
  have WID2 := Lib.hid (fun W' => width13_any x wN (.slice a l.length c) W' HX.out.1 HX.out.2)
  have CEL := Lib.hid (fun W' (h : La1 wal W') => (And.intro (((HF.out.below hal HF.out.lt).below h.b (HF.out.below hal HF.out.lt).lt).cell 0) (((HF.out.below hal HF.out.lt).below h.b (HF.out.below hal HF.out.lt).lt).cell 1) : W'.cell? ⟨w.heap.size, 0, none⟩ = some (.int .u8 (x : Int)) ∧ W'.cell? ⟨w.heap.size, 1, none⟩ = some (.slice a l.length c)))
  have CEL2 := Lib.hid (fun W' q (h : La2 wal W' q) => (And.intro (((HF.out.below hal HF.out.lt).below h.b (HF.out.below hal HF.out.lt).lt).cell 0) (((HF.out.below hal HF.out.lt).below h.b (HF.out.below hal HF.out.lt).lt).cell 1) : W'.cell? ⟨w.heap.size, 0, none⟩ = some (.int .u8 (x : Int)) ∧ W'.cell? ⟨w.heap.size, 1, none⟩ = some (.slice a l.length c)))
  have HI2 := Lib.hid (HI.out.below hal)
  have HR2 := Lib.hid (HR.out.below hal HR.out.lt)
  have HB2 := Lib.hid (HB.out.trans (hal.mono (by have := HB.out.size; omega)))
  have hzw : w.heap.size + 1 < wal.heap.size := by have := hal.size; omega
  unfold noFile at *
  clear CELL WID HALL hal hd0
  go_region_held3 (fun w' => w'.cell? ⟨w.heap.size, 0, none⟩ = some (.int .u8 (x : Int)) ∧ w'.cell? ⟨w.heap.size, 1, none⟩ = some (.slice a l.length c))
      (first | exact CEL.out _ (by assumption) | exact CEL2.out _ _ (by assumption) | exact LQ.cells (by assumption) | exact LQ2.cells (by assumption))
      (first
        | (go_at_call 13; refine (WID2.out _).mono ?_; rintro e wwd ⟨rfl, hwd⟩; first | (have hB1 := La1.below (by assumption) hwd; have hB2 := hB1.alloc) | (have hB2 := La2.below (by assumption) hwd))
        | (go_at_call 30; first | (refine (HLQ.out _ (by assumption)).mono ?_; rintro e wla ⟨first, W', O', rfl, hq, _⟩; have hq2 := hq.alloc noFile; have hq3 := hq.alloc #[.int .i64 (first : Int), .int .i64 (nB 12 wN l.length : Int), .int .i64 (wN : Int), .int .i64 (l.length : Int)]; unfold noFile at *) | (refine (HLQ2.out _ _ (by assumption)).mono ?_; rintro e wla ⟨first, W', O', rfl, hq2⟩; have p0 : wla.cell? ⟨_, 0, none⟩ = some (.int .i64 0) := hq2.blk.cell 0; have p1 : wla.cell? ⟨_, 1, none⟩ = some (.int .i64 0) := hq2.blk.cell 1; have p2 : wla.cell? ⟨_, 2, none⟩ = some (.int .i64 0) := hq2.blk.cell 2; have p3 : wla.cell? ⟨_, 3, none⟩ = some (.int .i64 0) := hq2.blk.cell 3; have g0 := hq2.blk.frozen 0; have g1 := hq2.blk.frozen 1; have g2 := hq2.blk.frozen 2; have g3 := hq2.blk.frozen 3; have hq3 := hq2.store (.int .i64 (first : Int)) (.int .i64 (nB 12 wN l.length : Int)) (.int .i64 (wN : Int)) (.int .i64 (l.length : Int)); unfold four at hq3)))
  · have hRX := HI2.out.blk hq3.lq.turn HR2.out (by decide) (by decide) (by decide) (by decide) (by decide) (fun h => by omega)
    clear hq
    have HQ3 := Lib.hid hq3
    have HRX := Lib.hid hRX
    clear hq2 hq3 hRX
    generalize (wla.alloc (.cells #[.int .i64 (first : Int), .int .i64 (nB 12 wN l.length : Int), .int .i64 (wN : Int), .int .i64 (l.length : Int)] 29)) = w9 at *
    have j0 : w9.cell? ⟨wla.heap.size, 0, none⟩ = some (.int .i64 (first : Int)) := HQ3.out.blk.cell 0
    have j1 : w9.cell? ⟨wla.heap.size, 1, none⟩ = some (.int .i64 (nB 12 wN l.length : Int)) := HQ3.out.blk.cell 1
    have j2 : w9.cell? ⟨wla.heap.size, 2, none⟩ = some (.int .i64 (wN : Int)) := HQ3.out.blk.cell 2
    have j3 : w9.cell? ⟨wla.heap.size, 3, none⟩ = some (.int .i64 (l.length : Int)) := HQ3.out.blk.cell 3
    have r0 : w9.cell? ⟨w.heap.size + 1, 0, none⟩ = some (.int .i64 0) := HRX.out.cell 0
    have r1 : w9.cell? ⟨w.heap.size + 1, 1, none⟩ = some (.int .i64 0) := HRX.out.cell 1
    have r2 : w9.cell? ⟨w.heap.size + 1, 2, none⟩ = some (.int .i64 0) := HRX.out.cell 2
    have r3 : w9.cell? ⟨w.heap.size + 1, 3, none⟩ = some (.int .i64 0) := HRX.out.cell 3
    have k0 := HRX.out.frozen 0
    have k1 := HRX.out.frozen 1
    have k2 := HRX.out.frozen 2
    have k3 := HRX.out.frozen 3
    have hfs := four_store HQ3.out.lq.wk HRX.out (.int .i64 (first : Int)) (.int .i64 (nB 12 wN l.length : Int)) (.int .i64 (wN : Int)) (.int .i64 (l.length : Int))
    have HFS := Lib.hid hfs
    unfold four at HFS
    clear hfs
    go_wp2_with fail
    generalize ((((w9.setCell ⟨w.heap.size + 1, 0, none⟩ (.int .i64 (first : Int))).setCell ⟨w.heap.size + 1, 1, none⟩ (.int .i64 (nB 12 wN l.length : Int))).setCell ⟨w.heap.size + 1, 2, none⟩ (.int .i64 (wN : Int))).setCell ⟨w.heap.size + 1, 3, none⟩ (.int .i64 (l.length : Int))) = wz at *
    obtain ⟨i1, i2, i3⟩ := HFS.out
    have s0 : wz.cell? ⟨w.heap.size + 1, 0, none⟩ = some (.int .i64 (first : Int)) := i2.cell 0
    have s1 : wz.cell? ⟨w.heap.size + 1, 1, none⟩ = some (.int .i64 (nB 12 wN l.length : Int)) := i2.cell 1
    have s2 : wz.cell? ⟨w.heap.size + 1, 2, none⟩ = some (.int .i64 (wN : Int)) := i2.cell 2
    have s3 : wz.cell? ⟨w.heap.size + 1, 3, none⟩ = some (.int .i64 (l.length : Int)) := i2.cell 3
    refine bodyPost_ret (v := .tuple #[.agg #[.int .i64 (first : Int), .int .i64 (nB 12 wN l.length : Int), .int .i64 (wN : Int), .int .i64 (l.length : Int)], .bool true]) (by simp [results, Try.results11, go_sem, s0, s1, s2, s3]; try rfl) rfl ?_
    have hlq := HQ3.out.lq
    have hbw : Below w.heap.size w wal := HB2.out
    have hTT : Turn K (fun q => w.heap.size ≤ q) w wz := ((Turn.below hbw).trans (hlq.turn.mono (fun q h => by have := hbw.size; omega))).trans (i3.mono (fun q e => by rw [e]; omega))
    exact ⟨first, W', O', rfl, ⟨fun g hg => hlq.okin.1 g (by have := i3.size; omega), fun g hg h => hlq.okin.2 g (by have := hbw.size; omega) h⟩, i1, turn_fresh2 hTT (fun q hq => .inl hq), hlq.fine, hlq.fault, hlq.held, hlq.after⟩
  · have hRX := HI2.out.blk hq3.lq.turn HR2.out (by decide) (by decide) (by decide) (by decide) (by decide) (fun h => by omega)
    clear p0 p1 p2 p3 g0 g1 g2 g3
    have HQ3 := Lib.hid hq3
    have HRX := Lib.hid hRX
    clear hq2 hq3 hRX
    generalize ((((wla.setCell ⟨wwd.heap.size, 0, none⟩ (.int .i64 (first : Int))).setCell ⟨wwd.heap.size, 1, none⟩ (.int .i64 (nB 12 wN l.length : Int))).setCell ⟨wwd.heap.size, 2, none⟩ (.int .i64 (wN : Int))).setCell ⟨wwd.heap.size, 3, none⟩ (.int .i64 (l.length : Int))) = w9 at *
    have j0 : w9.cell? ⟨wwd.heap.size, 0, none⟩ = some (.int .i64 (first : Int)) := HQ3.out.blk.cell 0
    have j1 : w9.cell? ⟨wwd.heap.size, 1, none⟩ = some (.int .i64 (nB 12 wN l.length : Int)) := HQ3.out.blk.cell 1
    have j2 : w9.cell? ⟨wwd.heap.size, 2, none⟩ = some (.int .i64 (wN : Int)) := HQ3.out.blk.cell 2
    have j3 : w9.cell? ⟨wwd.heap.size, 3, none⟩ = some (.int .i64 (l.length : Int)) := HQ3.out.blk.cell 3
    have r0 : w9.cell? ⟨w.heap.size + 1, 0, none⟩ = some (.int .i64 0) := HRX.out.cell 0
    have r1 : w9.cell? ⟨w.heap.size + 1, 1, none⟩ = some (.int .i64 0) := HRX.out.cell 1
    have r2 : w9.cell? ⟨w.heap.size + 1, 2, none⟩ = some (.int .i64 0) := HRX.out.cell 2
    have r3 : w9.cell? ⟨w.heap.size + 1, 3, none⟩ = some (.int .i64 0) := HRX.out.cell 3
    have k0 := HRX.out.frozen 0
    have k1 := HRX.out.frozen 1
    have k2 := HRX.out.frozen 2
    have k3 := HRX.out.frozen 3
    have hfs := four_store HQ3.out.lq.wk HRX.out (.int .i64 (first : Int)) (.int .i64 (nB 12 wN l.length : Int)) (.int .i64 (wN : Int)) (.int .i64 (l.length : Int))
    have HFS := Lib.hid hfs
    unfold four at HFS
    clear hfs
    go_wp2_with fail
    generalize ((((w9.setCell ⟨w.heap.size + 1, 0, none⟩ (.int .i64 (first : Int))).setCell ⟨w.heap.size + 1, 1, none⟩ (.int .i64 (nB 12 wN l.length : Int))).setCell ⟨w.heap.size + 1, 2, none⟩ (.int .i64 (wN : Int))).setCell ⟨w.heap.size + 1, 3, none⟩ (.int .i64 (l.length : Int))) = wz at *
    obtain ⟨i1, i2, i3⟩ := HFS.out
    have s0 : wz.cell? ⟨w.heap.size + 1, 0, none⟩ = some (.int .i64 (first : Int)) := i2.cell 0
    have s1 : wz.cell? ⟨w.heap.size + 1, 1, none⟩ = some (.int .i64 (nB 12 wN l.length : Int)) := i2.cell 1
    have s2 : wz.cell? ⟨w.heap.size + 1, 2, none⟩ = some (.int .i64 (wN : Int)) := i2.cell 2
    have s3 : wz.cell? ⟨w.heap.size + 1, 3, none⟩ = some (.int .i64 (l.length : Int)) := i2.cell 3
    refine bodyPost_ret (v := .tuple #[.agg #[.int .i64 (first : Int), .int .i64 (nB 12 wN l.length : Int), .int .i64 (wN : Int), .int .i64 (l.length : Int)], .bool true]) (by simp [results, Try.results11, go_sem, s0, s1, s2, s3]; try rfl) rfl ?_
    have hlq := HQ3.out.lq
    have hbw : Below w.heap.size w wal := HB2.out
    have hTT : Turn K (fun q => w.heap.size ≤ q) w wz := ((Turn.below hbw).trans (hlq.turn.mono (fun q h => by have := hbw.size; omega))).trans (i3.mono (fun q e => by rw [e]; omega))
    exact ⟨first, W', O', rfl, ⟨fun g hg => hlq.okin.1 g (by have := i3.size; omega), fun g hg h => hlq.okin.2 g (by have := hbw.size; omega) h⟩, i1, turn_fresh2 hTT (fun q hq => .inl hq), hlq.fine, hlq.fault, hlq.held, hlq.after⟩
  · have hRX := HI2.out.blk hq3.lq.turn HR2.out (by decide) (by decide) (by decide) (by decide) (by decide) (fun h => by omega)
    clear p0 p1 p2 p3 g0 g1 g2 g3
    have HQ3 := Lib.hid hq3
    have HRX := Lib.hid hRX
    clear hq2 hq3 hRX
    generalize ((((wla.setCell ⟨wal.heap.size, 0, none⟩ (.int .i64 (first : Int))).setCell ⟨wal.heap.size, 1, none⟩ (.int .i64 (nB 12 wN l.length : Int))).setCell ⟨wal.heap.size, 2, none⟩ (.int .i64 (wN : Int))).setCell ⟨wal.heap.size, 3, none⟩ (.int .i64 (l.length : Int))) = w9 at *
    have j0 : w9.cell? ⟨wal.heap.size, 0, none⟩ = some (.int .i64 (first : Int)) := HQ3.out.blk.cell 0
    have j1 : w9.cell? ⟨wal.heap.size, 1, none⟩ = some (.int .i64 (nB 12 wN l.length : Int)) := HQ3.out.blk.cell 1
    have j2 : w9.cell? ⟨wal.heap.size, 2, none⟩ = some (.int .i64 (wN : Int)) := HQ3.out.blk.cell 2
    have j3 : w9.cell? ⟨wal.heap.size, 3, none⟩ = some (.int .i64 (l.length : Int)) := HQ3.out.blk.cell 3
    have r0 : w9.cell? ⟨w.heap.size + 1, 0, none⟩ = some (.int .i64 0) := HRX.out.cell 0
    have r1 : w9.cell? ⟨w.heap.size + 1, 1, none⟩ = some (.int .i64 0) := HRX.out.cell 1
    have r2 : w9.cell? ⟨w.heap.size + 1, 2, none⟩ = some (.int .i64 0) := HRX.out.cell 2
    have r3 : w9.cell? ⟨w.heap.size + 1, 3, none⟩ = some (.int .i64 0) := HRX.out.cell 3
    have k0 := HRX.out.frozen 0
    have k1 := HRX.out.frozen 1
    have k2 := HRX.out.frozen 2
    have k3 := HRX.out.frozen 3
    have hfs := four_store HQ3.out.lq.wk HRX.out (.int .i64 (first : Int)) (.int .i64 (nB 12 wN l.length : Int)) (.int .i64 (wN : Int)) (.int .i64 (l.length : Int))
    have HFS := Lib.hid hfs
    unfold four at HFS
    clear hfs
    go_wp2_with fail
    generalize ((((w9.setCell ⟨w.heap.size + 1, 0, none⟩ (.int .i64 (first : Int))).setCell ⟨w.heap.size + 1, 1, none⟩ (.int .i64 (nB 12 wN l.length : Int))).setCell ⟨w.heap.size + 1, 2, none⟩ (.int .i64 (wN : Int))).setCell ⟨w.heap.size + 1, 3, none⟩ (.int .i64 (l.length : Int))) = wz at *
    obtain ⟨i1, i2, i3⟩ := HFS.out
    have s0 : wz.cell? ⟨w.heap.size + 1, 0, none⟩ = some (.int .i64 (first : Int)) := i2.cell 0
    have s1 : wz.cell? ⟨w.heap.size + 1, 1, none⟩ = some (.int .i64 (nB 12 wN l.length : Int)) := i2.cell 1
    have s2 : wz.cell? ⟨w.heap.size + 1, 2, none⟩ = some (.int .i64 (wN : Int)) := i2.cell 2
    have s3 : wz.cell? ⟨w.heap.size + 1, 3, none⟩ = some (.int .i64 (l.length : Int)) := i2.cell 3
    refine bodyPost_ret (v := .tuple #[.agg #[.int .i64 (first : Int), .int .i64 (nB 12 wN l.length : Int), .int .i64 (wN : Int), .int .i64 (l.length : Int)], .bool true]) (by simp [results, Try.results11, go_sem, s0, s1, s2, s3]; try rfl) rfl ?_
    have hlq := HQ3.out.lq
    have hbw : Below w.heap.size w wal := HB2.out
    have hTT : Turn K (fun q => w.heap.size ≤ q) w wz := ((Turn.below hbw).trans (hlq.turn.mono (fun q h => by have := hbw.size; omega))).trans (i3.mono (fun q e => by rw [e]; omega))
    exact ⟨first, W', O', rfl, ⟨fun g hg => hlq.okin.1 g (by have := i3.size; omega), fun g hg h => hlq.okin.2 g (by have := hbw.size; omega) h⟩, i1, turn_fresh2 hTT (fun q hq => .inl hq), hlq.fine, hlq.fault, hlq.held, hlq.after⟩

end Go.Proofs.Ytlbaigkpojkfjaa.Fl

/- Chapter 13's laws: what is asked of a work in the end. -/
namespace Go.Proofs.Ytlbaigkpojkfjaa.Fl
open Go.RowKit

def CleanLoop (bs : List Nat) (w : World) (nv iv : Value) (wr : World) : Prop := ∃ i : Nat, nv = .int .i64 ((bs.take i).sum : Int) ∧ iv = .int .i64 (i : Int) ∧ i ≤ bs.length ∧ ∃ m, wr = w.drewN m
theorem sum_take_le (bs : List Nat) (i : Nat) : (bs.take i).sum ≤ bs.sum := by
  conv => rhs; rw [← List.take_append_drop i bs, List.sum_append]
  omega
set_option maxRecDepth 100000 in
set_option maxHeartbeats 4000000 in
theorem clean13_ok {w : World} {O : Nat → Prop} {K : Key} {W : Wk} (bs : List Nat) (g c : Nat) (hI : WkI w O K W) (hrow : ∀ i (hi : i < bs.length), w.cell? ⟨g, i * 4 + 1, none⟩ = some (.int .i64 (bs[i] : Int))) (hu : W.A.used = 0) (hs : Sp.sumX W.L + bs.sum = 5000) (hl : bs.length ≤ 100) :
    Calls Try.prog 14 #[P K.wk, .slice (some ⟨g, 0, none⟩) bs.length c] w (fun e w' => e = .returned (.bool true) ∧ Below w.heap.size w w') := by
  have HI := Lib.hid hI
  have HR := Lib.hid hrow
  have HU := Lib.hid hu
  have HS := Lib.hid hs
  clear hI hrow hu hs
  go_enter Try.func14, Try.ntmps14
  go_wp2_with fail
  go_loopw [5, 6] (fun nv iv wr => CleanLoop bs w nv iv wr) (fun _ iv _ => bs.length - (match iv with | .int _ n => n.toNat | _ => 0))
  case atStart => exact ⟨0, rfl, rfl, Nat.zero_le _, 0, rfl⟩
  case round =>
    obtain ⟨i, rfl, rfl, hi, m, rfl⟩ := hrel
    by_cases hlt : (i : Int) < (bs.length : Int)
    · have h1 : i < bs.length := by omega
      have c0 : (w.drewN m).cell? ⟨g, i * 4 + 1, none⟩ = some (.int .i64 (bs[i] : Int)) := HR.out i h1
      have hsum : (bs.take (i + 1)).sum = (bs.take i).sum + bs[i] := by rw [List.take_succ_eq_append_getElem h1, List.sum_append]; simp
      have hle := sum_take_le bs (i + 1)
      have hS := HS.out
      have hwr : IntKind.i64.wrap (((bs.take i).sum : Nat) + (bs[i] : Int)) = ((bs.take (i + 1)).sum : Int) := by rw [IntKind.wrap_i64, hsum]; omega
      have HSUM := Lib.hid (And.intro hsum hle)
      have hi0 : (0 : Int) ≤ (i : Int) := by omega
      clear hsum hle hS
      go_wp2_with fail
      exact ⟨⟨i + 1, rfl, rfl, by omega, m, rfl⟩, by simp only; omega⟩
    · obtain rfl : i = bs.length := by omega
      have hI2 : WkI (w.drewN m) O K W := HI.out.drewN m
      have hB2 : Below w.heap.size w (w.drewN m) := ⟨rfl, rfl, rfl, Nat.le_refl _, fun _ _ => rfl⟩
      have ht : bs.take bs.length = bs := List.take_of_length_le (Nat.le_refl _)
      have hwr : IntKind.i64.wrap (5000 - ((bs.sum : Nat) : Int)) = (Sp.sumX W.L : Int) := by have := HS.out; rw [IntKind.wrap_i64]; omega
      have heq : (5000 - ((bs.sum : Nat) : Int)) = (Sp.sumX W.L : Int) := by have := HS.out; omega
      rw [ht]
      generalize bs.sum = n at *
      generalize w.drewN m = w1 at *
      have AR := Lib.hid (fun W' (h : Below w1.heap.size w1 W') => (arena_any (hI2.below h)).mono (fun e w' he => (⟨he.1, he.2 ▸ h⟩ : e = Ending.returned (P K.a) ∧ Below w1.heap.size w1 w')))
      have US := Lib.hid (fun W' (h : Below w1.heap.size w1 W') => (used_w (hI2.below h)).mono (fun e w' he => (⟨by rw [he.1, HU.out]; rfl, he.2 ▸ h⟩ : e = Ending.returned (.int .i64 0) ∧ Below w1.heap.size w1 w')))
      have SP := Lib.hid (fun W' (h : Below w1.heap.size w1 W') => (space_any (hI2.below h)).mono (fun e w' he => (⟨he.1, he.2 ▸ h⟩ : e = Ending.returned (P K.s) ∧ Below w1.heap.size w1 w')))
      have SF := Lib.hid (fun W' (h : Below w1.heap.size w1 W') => (spfree_w (hI2.below h)).mono (fun e w' he => (⟨he.1, h.trans (he.2.mono h.size)⟩ : e = Ending.returned (.int .i64 (Sp.sumX W.L : Int)) ∧ Below w1.heap.size w1 w')))
      have HB2 := Lib.hid hB2
      have HEQ := Lib.hid heq
      clear hI2 hB2 heq
      go_wp2_with fail
      refine (AR.out _ (Below.refl _ _)).mono ?_
      rintro e wa ⟨rfl, ha⟩
      go_wp2_with fail
      refine (US.out _ ha).mono ?_
      rintro e wb ⟨rfl, hb⟩
      go_wp2_with fail
      refine (SP.out _ hb).mono ?_
      rintro e wc ⟨rfl, hc⟩
      go_wp2_with fail
      refine (SF.out _ hc).mono ?_
      rintro e wd ⟨rfl, hd⟩
      go_wp2_with fail
      go_ret
      exact ⟨by simp [HEQ.out], HB2.out.trans (hd.mono HB2.out.size)⟩

end Go.Proofs.Ytlbaigkpojkfjaa.Fl

/- join.Number as a whole; what wakes chapter 13's laws. -/
namespace Go.Proofs.Ytlbaigkpojkfjaa.Fl
open Go.RowKit

def numT (l : List Tup) (wN : Nat) (from_ : Int) (k : Nat) : Tup := (l.getD k []).set wN (BitVec.ofInt 64 (from_ + (k : Int)))
def numL (l : List Tup) (wN : Nat) (from_ : Int) : List Tup := (List.range l.length).map (numT l wN from_)
theorem made_all (mk : Nat → Tup) (n : Nat) : made mk (fun _ => true) n = (List.range n).map mk := by
  unfold made
  rw [List.filter_eq_self.2 (fun _ _ => rfl)]
theorem numL_len (l : List Tup) (wN : Nat) (from_ : Int) : (numL l wN from_).length = l.length := by simp [numL]
theorem numT_fits {l : List Tup} {wN : Nat} {from_ : Int} {k : Nat} (hk : k < l.length) (hf : FitsW wN l) : FitsW (wN + 1) [numT l wN from_ k] := fun t ht => by
  rw [List.mem_singleton.1 ht]
  have hg : l.getD k [] = l[k] := by simp [hk]
  obtain ⟨h5, hz⟩ := hf _ (List.getElem_mem hk)
  unfold numT
  rw [hg]
  refine ⟨by rw [List.length_set]; exact h5, ?_⟩
  rw [List.drop_set_of_lt (by omega)]
  unfold Crc.zeroW at hz ⊢
  rw [List.all_eq_true] at hz ⊢
  have hd : (l[k].drop wN).drop 1 = l[k].drop (wN + 1) := by rw [List.drop_drop]
  exact fun b hb => hz b (List.mem_of_mem_drop (i := 1) (by rw [hd]; exact hb))

section
variable {w w' : World} {O : Nat → Prop} {K : Key} {W : Wk}
theorem number_c {first wN c0 a0 : Nat} {l : List Tup} (from_ : Int) (hI : WkI w O K W) (hF : Fine W c0 a0) (hH : Held W first wN l) (h4 : wN ≤ 4) (hlo : -9223372036854775808 ≤ from_) (hhi : from_ + 200 < 9223372036854775807) (hc : c0 + 200 ≤ 5000) (ha : a0 ≤ 400000000000) (hO : ∀ g, w.heap.size ≤ g → O g) :
    Calls Try.prog 12 #[P K.wk, .agg #[.int .i64 (first : Int), .int .i64 (nB 12 wN l.length : Int), .int .i64 (wN : Int), .int .i64 (l.length : Int)], .int .i64 from_] w (EachF w O K W c0 a0 (wN + 1) (numL l wN from_) JE0 0 (fun _ => False)) := by
  obtain ⟨n1, n5⟩ := hH.wid
  have hfew := hH.few
  refine (number_go (wM := wN + 1) (bound := l.length) (out := fun _ => numL l wN from_) hI (by omega) (by omega) (fun w1 hb c hcs hB => ?_)).mono ?_
  · have hm : Rich 33 (P c) K W.L (fun q => q = c) 0 (fun k m w _ _ => m = 0 ∧ Blk w c 74 #[.int .i64 (wN : Int), .int .i64 (from_ + (k : Int))]) JE0 (fun _ => False) l (numT l wN from_) (fun _ => true) := (count_maker (at_ := wN) (by omega) (fun t ht => (hH.fits t ht).1) hlo (by omega)).rich W.L
    have hgo := each_any hm first wN (wN + 1) (hI.below hb) hF.sure (by rw [hF.B, hF.blocks]; exact Nat.le_refl _) n1 n5 (by omega) (by omega) (by omega) hH.fits (by rw [hF.size]; exact hH.lies) (.inr (by rw [hF.size, hF.blocks]; exact hH.fit)) (by have := hH.fit; omega) (fun j hj => hH.held j (by rw [hF.size] at hj; exact hj)) (by rw [hF.size, hF.used, hF.room]; omega) (Nat.zero_le _) (by have := hF.acts; omega) (fun g hg => hO g (by have := hb.size; omega)) ⟨rfl, by rw [Int.natCast_zero, Int.add_zero]; exact hB⟩ (fun g hg => by rw [hg]; exact hB.lt) (fun k hk _ => numT_fits hk hH.fits)
    rw [hF.size, made_all] at hgo
    rw [show ((wN : Int) + 1) = ((wN + 1 : Nat) : Int) from by omega]
    exact hgo
  · rintro e w' ⟨_, h⟩
    refine fine_each hF hI.inv h (by omega) (by omega) hfew (by rw [numL_len]; exact Nat.le_refl _) ?_ hc
    have := made_fits (wM := wN + 1) (mk := numT l wN from_) (kp := fun _ => true) (n := l.length) (fun k hk _ => numT_fits hk hH.fits)
    rw [made_all] at this
    exact this
end

set_option maxRecDepth 100000 in
set_option maxHeartbeats 1000000 in
theorem awake13_any (w : World) : Calls Try.prog 10 #[] w fun e w' => e = .returned (.bool true) ∧ Below w.heap.size w w' := by
  have HW := Lib.hid (work13_ok w)
  go_enter Try.func10, Try.ntmps10
  go_wp2_with fail
  refine HW.out.mono ?_
  rintro e w1 ⟨K, rfl, hI1, hK, hb1⟩
  have hbn : Below w1.heap.size w1 (w1.alloc (.cells #[.int .i64 5, .int .i64 0, .int .i64 0, .int .i64 0, .int .i64 0, .int .i64 7, .int .i64 0, .int .i64 0, .int .i64 0, .int .i64 0] 57)) := (Below.refl _ _).alloc (Nat.le_refl _) _
  have hT : Tps K (w1.alloc (.cells #[.int .i64 5, .int .i64 0, .int .i64 0, .int .i64 0, .int .i64 0, .int .i64 7, .int .i64 0, .int .i64 0, .int .i64 0, .int .i64 0] 57)) (some ⟨w1.heap.size, 0, none⟩) [[5, 0, 0, 0, 0], [7, 0, 0, 0, 0]] := Tps.of_blk (rest := []) (Blk.new w1 _ _) (by decide)
  have hL := lay_c 1 [[5, 0, 0, 0, 0], [7, 0, 0, 0, 0]] (some ⟨w1.heap.size, 0, none⟩) 2 (hI1.below hbn) (sure_fresh 12 5000) (by decide) (by omega) (by omega) (by decide) (by decide) hT (by decide) (by decide) (fun g hg => by
    unfold O0
    have := hbn.size
    have := hb1.size
    rw [hK]
    omega)
  have HL := Lib.hid hL
  have HI1 := Lib.hid (hI1.below hbn)
  have HK := Lib.hid hK
  have HB1 := Lib.hid hb1
  have HBN := Lib.hid hbn
  rw [show ((1 : Nat) : Int) = 1 from rfl, show ([[5, 0, 0, 0, 0], [7, 0, 0, 0, 0]] : List Tup).length = 2 from rfl] at HL
  clear hbn hT hL hI1 hK hb1 HW
  go_wp2_with fail
  refine HL.out.mono ?_
  rintro e w3 ⟨W', O', ho, hI3, ht3, h⟩
  rcases h with ⟨first, rfl, hok⟩ | ⟨er, rfl, hno⟩
  · obtain ⟨f1, f2, f3⟩ := fine_laid fine0 HI1.out.inv hok (by omega) (by omega) (by decide) (by omega)
    rw [show fcells first (nB (wk0 12 5000 60).D.size 1 ([[5, 0, 0, 0, 0], [7, 0, 0, 0, 0]] : List Tup).length) 1 ([[5, 0, 0, 0, 0], [7, 0, 0, 0, 0]] : List Tup).length = #[.int .i64 (first : Int), .int .i64 1, .int .i64 1, .int .i64 2] from rfl]
    have hb3 := Turn.belowB HI1.out HK.out (fun _ h => h.elim) (HB1.out.trans (HBN.out.mono HB1.out.size)) ht3
    have hbn : Below w3.heap.size w3 (w3.alloc (.cells #[.int .i64 (first : Int), .int .i64 1, .int .i64 1, .int .i64 2] 29)) := (Below.refl _ _).alloc (Nat.le_refl _) _
    have hFA := Lib.hid (f3.fault rfl)
    have hF4 := Blk.new w3 29 #[.int .i64 (first : Int), .int .i64 1, .int .i64 1, .int .i64 2]
    have HF4 := Lib.hid hF4
    have HB4 := Lib.hid (hb3.trans (hbn.mono hb3.size))
    have HI4 := Lib.hid (hI3.below hbn)
    have HN := Lib.hid (number_c 3 (hI3.below hbn) f1 f2 (by omega) (by omega) (by omega) (by omega) (by omega) (fun g hg => ho.1 g (by have := hbn.size; omega)))
    rw [show nB 12 1 ([[5, 0, 0, 0, 0], [7, 0, 0, 0, 0]] : List Tup).length = 1 from rfl, show ((1 : Nat) : Int) = 1 from rfl, show (([[5, 0, 0, 0, 0], [7, 0, 0, 0, 0]] : List Tup).length : Int) = 2 from rfl] at HN
    clear hb3 hbn hF4 hI3 ht3 hok f1 f2 f3 HL
    go_wp2_with fail
    generalize w3.alloc (.cells #[.int .i64 (first : Int), .int .i64 1, .int .i64 1, .int .i64 2] 29) = w4 at *
    refine HN.out.mono ?_
    rintro e w5 ⟨W5, O5, ho5, hI5, ht5, h⟩
    have HB5 := Lib.hid (Turn.belowB HI4.out HK.out (fun _ h => h.elim) HB4.out ht5)
    rcases h with ⟨first2, rfl, f1, f2, f3⟩ | ⟨er, her, hwhy, rfl, _⟩
    · rw [show fcells first2 (nB 12 (1 + 1) (numL [[5, 0, 0, 0, 0], [7, 0, 0, 0, 0]] 1 3).length) (1 + 1) (numL [[5, 0, 0, 0, 0], [7, 0, 0, 0, 0]] 1 3).length = #[.int .i64 (first2 : Int), .int .i64 1, .int .i64 2, .int .i64 2] from rfl]
      clear ho5 hI5 ht5 f1 f2 f3 HN
      go_wp2_with fail
      go_ret
      exact ⟨rfl, HB5.out.alloc HB5.out.size _⟩
    · rcases hwhy with ⟨_, h⟩ | h
      · exact absurd hFA.out h
      · exact h.elim
  · exact (hno.not (fun t ht => by simp at ht; rcases ht with rfl | rfl <;> exact ⟨rfl, by decide⟩) rfl ⟨0, room_whole (B := 5000) (n := 1) (by decide)⟩).elim

end Go.Proofs.Ytlbaigkpojkfjaa.Fl
