/- Texts of mine, packed: FlClose, FlMake, FlFree, FlOk, FlPuts. -/
import Derived.Test.YtmmkncocgjgapaaK7
import Derived.Test.YtmmkncocgjgapaaK8
set_option linter.unusedVariables false

/- The walk of a writer's Close. -/

namespace Go.Proofs.Ytmmkncocgjgapaa.Fl
open Go.RowKit

def Wr.shut (Z : Wr) : Wr := { Z with blocks := Z.at_, first := if Z.at_ = 0 then 0 else Z.first, closed := true }
def fcells (first blocks width count : Nat) : Array Value := #[.int .i64 (first : Int), .int .i64 (blocks : Int), .int .i64 (width : Int), .int .i64 (count : Int)]
def Wr.file (Z : Wr) : Array Value := fcells Z.shut.first Z.shut.blocks Z.width Z.count
theorem wcells_shut0 (K : Key) (Z : Wr) (h : Z.at_ = 0) : ((wcells K { Z with closed := true }).setIfInBounds 2 (.int .i64 (Z.at_ : Int))).setIfInBounds 1 (.int .i64 0) = wcells K Z.shut := by
  simp [wcells, Wr.shut, h]
theorem wcells_shut1 (K : Key) (Z : Wr) (h : Z.at_ ≠ 0) : (wcells K { Z with closed := true }).setIfInBounds 2 (.int .i64 (Z.at_ : Int)) = wcells K Z.shut := by
  simp [wcells, Wr.shut, h]

section
variable {w w' : World} {O : Nat → Prop} {K : Key} {W : Wk} {x : Nat} {X : Wr} {E : Nat → Prop}
def four (w : World) (g : Nat) (a b c d : Value) : World := (((w.setCell ⟨g, 0, none⟩ a).setCell ⟨g, 1, none⟩ b).setCell ⟨g, 2, none⟩ c).setCell ⟨g, 3, none⟩ d
theorem four_store (hI : WkI w O K W) {g : Nat} {a' b' c' d' : Value} (hb : Blk w g 32 #[a', b', c', d']) (a b c d : Value) :
    WkI (four w g a b c d) O K W ∧ Blk (four w g a b c d) g 32 #[a, b, c, d] ∧ Turn K (fun k => k = g) w (four w g a b c d) := by
  obtain ⟨h1, h2, h3⟩ := aside_store hI hb 0 a (by decide)
  obtain ⟨i1, i2, i3⟩ := aside_store h1 h2 1 b (by decide)
  obtain ⟨j1, j2, j3⟩ := aside_store i1 i2 2 c (by decide)
  obtain ⟨k1, k2, k3⟩ := aside_store j1 j2 3 d (by decide)
  exact ⟨k1, k2, ((h3.trans i3).trans j3).trans k3⟩
def noFile : Array Value := #[.int .i64 0, .int .i64 0, .int .i64 0, .int .i64 0]
def CloseOk (w : World) (O : Nat → Prop) (K : Key) (W : Wk) (x : Nat) (X Z : Wr) (D' : Dev.Dv) (e : Ending) (w' : World) : Prop :=
  ∃ L', e = .returned (.tuple #[.agg Z.file, .int .i64 0]) ∧ GaveRel W.L W.B (Z.first + Z.at_) (Z.blocks - Z.at_) L' ∧ WkI w' O K { W with D := D', A := W.A.release X.buf W.D.size, L := L' } ∧ Blk w' x 117 (wcells K Z.shut) ∧ Turn K (Own x X) w w'
def CloseTold (w : World) (O : Nat → Prop) (K : Key) (W : Wk) (x : Nat) (X : Wr) (e : Ending) (w' : World) : Prop :=
  (X.n = 0 ∧ CloseOk w O K W x X X W.D e w') ∨ (0 < X.n ∧ (X.wrote W).1 = 0 ∧ CloseOk w O K W x X { X with n := 0, at_ := X.at_ + 1 } (X.wrote W).2 e w') ∨
  (0 < X.n ∧ (X.wrote W).1 ≠ 0 ∧ ∃ L', e = .returned (.tuple #[.agg noFile, .int .i64 (X.wrote W).1]) ∧ GaveRel W.L W.B X.first X.blocks L' ∧ WkI w' O K { W with D := (X.wrote W).2, A := W.A.release X.buf W.D.size, L := L' } ∧ Blk w' x 117 (wcells K { X with closed := true }) ∧ Turn K (Own x X) w w')

theorem close_nil (w : World) : Calls Try.prog 24 #[.pointer none] w fun e w' => e = .returned (.tuple #[.agg noFile, .int .i64 1]) ∧ Below w.heap.size w w' := by
  have hb : Below w.heap.size w (w.alloc (.cells noFile 32)) := (Below.refl _ _).alloc (Nat.le_refl _) _
  have hB := Blk.new w 32 noFile
  have hs : ∀ i u, Below w.heap.size w ((w.alloc (.cells noFile 32)).setCell ⟨w.heap.size, i, none⟩ u) := fun i u => hb.setCell (by simp) _
  have c0 := hB.cell 0
  have c1 := hB.cell 1
  have c2 := hB.cell 2
  have c3 := hB.cell 3
  simp only [noFile] at c0 c1 c2 c3
  go_enter Try.func24, Try.ntmps24
  have HB := Lib.hid hb
  clear hb hB hs
  go_wp2_with fail
  refine bodyPost_ret (v := .tuple #[.agg noFile, .int .i64 1]) (by simp [results, Try.results24, go_sem, c0, c1, c2, c3]; try rfl) rfl ?_
  exact ⟨rfl, HB.out⟩
theorem close_closed (h : WrAt w O K W x X) (hc : X.closed = true) : Calls Try.prog 24 #[P x] w fun e w' => e = .returned (.tuple #[.agg noFile, .int .i64 1]) ∧ Below w.heap.size w w' := by
  have hb : Below w.heap.size w (w.alloc (.cells noFile 32)) := (Below.refl _ _).alloc (Nat.le_refl _) _
  have c9 : (w.alloc (.cells noFile 32)).cell? ⟨x, 9, none⟩ = some (.bool X.closed) := (h.blk.below hb h.blk.lt).cell 9
  rw [hc] at c9
  have hB := Blk.new w 32 noFile
  have c0 := hB.cell 0
  have c1 := hB.cell 1
  have c2 := hB.cell 2
  have c3 := hB.cell 3
  simp only [noFile] at c0 c1 c2 c3 c9
  have HB := Lib.hid hb
  clear hb hB h
  go_enter Try.func24, Try.ntmps24
  go_wp2_with fail
  refine bodyPost_ret (v := .tuple #[.agg noFile, .int .i64 1]) (by simp [results, Try.results24, go_sem, c0, c1, c2, c3]; try rfl) rfl ?_
  exact ⟨rfl, HB.out⟩

/-- The writer behind the last flush, and the device. -/
def Wr.last (X : Wr) (W : Wk) : Wr × Dev.Dv := if X.n = 0 then (X, W.D) else ({ X with n := 0, at_ := X.at_ + 1 }, (X.wrote W).2)
theorem last_same (X : Wr) (W : Wk) : (X.last W).1.first = X.first ∧ (X.last W).1.blocks = X.blocks ∧ (X.last W).1.width = X.width ∧ (X.last W).1.count = X.count ∧ (X.last W).1.buf = X.buf ∧ (X.last W).1.ws = X.ws ∧ (X.last W).1.closed = X.closed ∧ (X.last W).2.size = W.D.size := by
  unfold Wr.last
  split
  · exact ⟨rfl, rfl, rfl, rfl, rfl, rfl, rfl, rfl⟩
  · exact ⟨rfl, rfl, rfl, rfl, rfl, rfl, rfl, (Dev.wr_kin W.D _ _).size⟩
structure Shut1 (w0 : World) (O : Nat → Prop) (K : Key) (V : Wk) (x fb : Nat) (X Z : Wr) (wx : World) : Prop where
  wk : WkI wx O K V
  blk : Blk wx x 117 (wcells K Z)
  buf : BufAt wx O V X.buf X.arr X.ws
  res : Blk wx fb 32 noFile
  turn : Turn K (Own x X) w0 wx
def Shut2 (w0 : World) (O : Nat → Prop) (K : Key) (W V : Wk) (x fb : Nat) (X Z : Wr) (wx : World) : Prop :=
  ∃ L', GaveRel W.L W.B (Z.first + Z.at_) (Z.blocks - Z.at_) L' ∧ WkI wx O K { V with A := V.A.release X.buf V.D.size, L := L' } ∧ Blk wx x 117 (wcells K { Z with closed := true }) ∧ Blk wx fb 32 noFile ∧ Turn K (Own x X) w0 wx
def Shut3 (w0 : World) (O : Nat → Prop) (K : Key) (W V : Wk) (x fb : Nat) (X Z : Wr) (wx : World) : Prop :=
  ∃ L', GaveRel W.L W.B (Z.first + Z.at_) (Z.blocks - Z.at_) L' ∧ WkI wx O K { V with A := V.A.release X.buf V.D.size, L := L' } ∧ Blk wx x 117 (wcells K Z.shut) ∧ Blk wx fb 32 noFile ∧ Turn K (Own x X) w0 wx
def CloseYes (w : World) (O : Nat → Prop) (K : Key) (W : Wk) (x : Nat) (X : Wr) (e : Ending) (w' : World) : Prop :=
  (0 < X.n → (X.wrote W).1 = 0) ∧ ∃ L', e = .returned (.tuple #[.agg (X.last W).1.file, .int .i64 0]) ∧ GaveRel W.L W.B (X.first + (X.last W).1.at_) (X.blocks - (X.last W).1.at_) L' ∧
    WkI w' O K { W with D := (X.last W).2, A := W.A.release X.buf W.D.size, L := L' } ∧ Blk w' x 117 (wcells K (X.last W).1.shut) ∧ Turn K (fun k => Own x X k ∨ w.heap.size ≤ k) w w'
def CloseNo (w : World) (O : Nat → Prop) (K : Key) (W : Wk) (x : Nat) (X : Wr) (e : Ending) (w' : World) : Prop :=
  0 < X.n ∧ (X.wrote W).1 ≠ 0 ∧ ∃ L', e = .returned (.tuple #[.agg noFile, .int .i64 (X.wrote W).1]) ∧ GaveRel W.L W.B X.first X.blocks L' ∧
    WkI w' O K { W with D := (X.wrote W).2, A := W.A.release X.buf W.D.size, L := L' } ∧ Blk w' x 117 (wcells K { X with closed := true }) ∧ Turn K (fun k => Own x X k ∨ w.heap.size ≤ k) w w'
def Closed (w : World) (O : Nat → Prop) (K : Key) (W : Wk) (x : Nat) (X : Wr) (e : Ending) (w' : World) : Prop := CloseYes w O K W x X e w' ∨ CloseNo w O K W x X e w'

set_option maxRecDepth 100000 in
set_option maxHeartbeats 4000000 in
theorem close_any (hI : WkI w O K W) (h : WrAt w O K W x X) (hc : X.closed = false) (hn : X.n + 2 ≤ W.D.size) (hat : (X.last W).1.at_ ≤ X.blocks) (hac : W.D.acts + 1 < 1099511627776) (hO : ∀ g, w.heap.size ≤ g → O g) :
    Calls Try.prog 24 #[P x] w (Closed w O K W x X) := by
  have hb : Below w.heap.size w (w.alloc (.cells noFile 32)) := (Below.refl _ _).alloc (Nat.le_refl _) _
  have hI0 := hI.below hb
  have hB0 := (h.live hc).stay (E := fun _ => False) hI (Turn.below hb) (fun h => h) (fun h => h)
  have hX0 := h.blk.below hb h.blk.lt
  have hF0 := Blk.new w 32 noFile
  obtain ⟨hl1, hl2⟩ := h.lies
  have hfx : w.heap.size ≠ x := by have := h.blk.lt; omega
  have hW0 : WrAt (w.alloc (.cells noFile 32)) O K W x X := ⟨hX0, fun _ => hB0, h.width, h.bound, h.lies⟩
  have hz := hb.size
  have hal : X.at_ ≤ 100000000 := by
    have h1 : X.at_ ≤ (X.last W).1.at_ := by
      unfold Wr.last
      split
      · exact Nat.le_refl _
      · exact Nat.le_succ _
    omega
  have HFL := Lib.hid (flush_any hI0 hW0 hc hn hal hac (fun g hg => hO g (by omega)))
  have c9 : (w.alloc (.cells noFile 32)).cell? ⟨x, 9, none⟩ = some (.bool X.closed) := hX0.cell 9
  have c7 : (w.alloc (.cells noFile 32)).cell? ⟨x, 7, none⟩ = some (.int .i64 (X.n : Int)) := hX0.cell 7
  rw [hc] at c9
  have HI0 := Lib.hid hI0
  have HB0 := Lib.hid hB0
  have HX0 := Lib.hid hX0
  have HF0 : Hid (Blk (w.alloc (.cells noFile 32)) w.heap.size 32 noFile) := Lib.hid hF0
  have HFX := Lib.hid hfx
  have HT0 : Hid (Turn K (Own x X) w (w.alloc (.cells noFile 32))) := Lib.hid (Turn.below hb)
  have HC := Lib.hid hc
  have hsm := last_same X W
  have HSM := Lib.hid hsm
  unfold noFile at c9 c7 HI0 HB0 HX0 HF0 HT0 HFL
  clear hI h hb hI0 hB0 hX0 hF0 hW0 hO hfx hz hc hsm
  go_enter Try.func24, Try.ntmps24
  go_upto_if 18 with (fail)
  generalize w.alloc (.cells #[.int .i64 0, .int .i64 0, .int .i64 0, .int .i64 0] 32) = w1 at *
  go_cut [] (fun wx => (0 < X.n → (X.wrote W).1 = 0) ∧ Shut1 w O K { W with D := (X.last W).2 } x w.heap.size X (X.last W).1 wx)
  case first =>
    by_cases h0 : X.n = 0
    · have h0n : decide (0 < X.n) = false := by simp; omega
      have h0i : (X.n : Int) ≤ 0 := by omega
      have hla : X.last W = (X, W.D) := by unfold Wr.last; rw [if_pos h0]
      have HLA := Lib.hid hla
      have H0 := Lib.hid h0
      clear h0 hla hat HFL
      go_wp2_with fail
      go_meet
      rw [HLA.out]
      exact ⟨fun h => absurd H0.out (by omega), HI0.out, HX0.out, HB0.out, HF0.out, HT0.out⟩
    · have h0i : (0 : Int) < (X.n : Int) := by omega
      have hla : X.last W = ({ X with n := 0, at_ := X.at_ + 1 }, (X.wrote W).2) := by unfold Wr.last; rw [if_neg h0]
      have HLA := Lib.hid hla
      have H0 := Lib.hid h0
      clear h0 hla hat
      go_wp2_with fail
      refine HFL.out.mono ?_
      rintro e w5 (⟨hr, rfl, hI5, hX5, ht5⟩ | ⟨hr, L', rfl, hg, hI5, hX5, ht5⟩)
      · have hks : (X.wrote W).2.size = W.D.size := (Dev.wr_kin W.D _ _).size
        have hB5 := HB0.out.turn HI0.out ht5 (show ¬ X.buf = x from fun e => HX0.out.ne_ HB0.out.blk (by decide) e.symm) (show ¬ X.arr = x from fun e => HX0.out.ne_ HB0.out.row (by decide) e.symm) (fun _ h => h) (W' := { W with D := (X.wrote W).2 }) hks (fun _ h _ => h)
        have hF5 := HI0.out.blk ht5 HF0.out (by decide) (by decide) (by decide) (by decide) (by decide) HFX.out
        have HM := Lib.hid (show (0 < X.n → (X.wrote W).1 = 0) ∧ Shut1 w O K { W with D := (X.wrote W).2 } x w.heap.size X { X with n := 0, at_ := X.at_ + 1 } w5 from ⟨fun _ => hr, hI5, hX5, hB5, hF5, HT0.out.trans (ht5.mono (E' := Own x X) (fun k h => .inl h))⟩)
        clear hr hI5 hX5 ht5 hks hB5 hF5 HI0 HX0 HB0 HF0 HT0 c9 c7 HFL
        go_wp2_with fail
        go_meet
        rw [HLA.out]
        exact HM.out
      · have hne : ((X.wrote W).1 != 0) = true := by simpa using hr
        have hfo : ¬ Own x X w.heap.size := by
          rintro (e | e | e)
          · exact HFX.out e
          · exact HF0.out.ne_ HB0.out.blk (by decide) e
          · exact HF0.out.ne_ HB0.out.row (by decide) e
        have hF5 := HI0.out.blk ht5 HF0.out (by decide) (by decide) (by decide) (by decide) (by decide) hfo
        obtain ⟨hI6, hF6, ht6⟩ := four_store hI5 hF5 (.int .i64 0) (.int .i64 0) (.int .i64 0) (.int .i64 0)
        have hX6 := hI5.blk ht6 hX5 (by decide) (by decide) (by decide) (by decide) (by decide) (fun e => HFX.out e.symm)
        have hT6 := ((HT0.out.trans ht5).mono (E' := fun k => Own x X k ∨ w.heap.size ≤ k) (fun k h => .inl h)).trans (ht6.mono (E' := fun k => Own x X k ∨ w.heap.size ≤ k) (fun k h => .inr (by have h' : k = w.heap.size := h; omega)))
        unfold four at hI6 hF6 hX6 hT6
        have p0 : w5.cell? ⟨w.heap.size, 0, none⟩ = some (.int .i64 0) := hF5.cell 0
        have p1 : w5.cell? ⟨w.heap.size, 1, none⟩ = some (.int .i64 0) := hF5.cell 1
        have p2 : w5.cell? ⟨w.heap.size, 2, none⟩ = some (.int .i64 0) := hF5.cell 2
        have p3 : w5.cell? ⟨w.heap.size, 3, none⟩ = some (.int .i64 0) := hF5.cell 3
        have g0 := hF5.frozen 0
        have g1 := hF5.frozen 1
        have g2 := hF5.frozen 2
        have g3 := hF5.frozen 3
        have HR := Lib.hid hr
        have HI6 := Lib.hid hI6
        have HF6 := Lib.hid hF6
        have HX6 := Lib.hid hX6
        have HT6 := Lib.hid hT6
        have HG := Lib.hid hg
        clear hr hI5 hX5 ht5 hg hfo hF5 hI6 hF6 ht6 hX6 hT6 HI0 HX0 HB0 HF0 HT0 c9 c7 HFL
        go_wp2_with fail
        generalize ((((w5.setCell ⟨w.heap.size, 0, none⟩ (.int .i64 0)).setCell ⟨w.heap.size, 1, none⟩ (.int .i64 0)).setCell ⟨w.heap.size, 2, none⟩ (.int .i64 0)).setCell ⟨w.heap.size, 3, none⟩ (.int .i64 0)) = w6 at *
        have s0 : w6.cell? ⟨w.heap.size, 0, none⟩ = some (.int .i64 0) := HF6.out.cell 0
        have s1 : w6.cell? ⟨w.heap.size, 1, none⟩ = some (.int .i64 0) := HF6.out.cell 1
        have s2 : w6.cell? ⟨w.heap.size, 2, none⟩ = some (.int .i64 0) := HF6.out.cell 2
        have s3 : w6.cell? ⟨w.heap.size, 3, none⟩ = some (.int .i64 0) := HF6.out.cell 3
        refine bodyPost_ret (v := .tuple #[.agg #[.int .i64 0, .int .i64 0, .int .i64 0, .int .i64 0], .int .i64 (X.wrote W).1]) (by simp [results, Try.results24, go_sem, s0, s1, s2, s3]; try rfl) rfl ?_
        exact .inr ⟨by omega, HR.out, L', rfl, HG.out, HI6.out, HX6.out, HT6.out⟩
  case rest =>
    have HSM' := HSM
    obtain ⟨hwr, hM⟩ := hcut
    have HWR := Lib.hid hwr
    obtain ⟨Z, D1, hZL⟩ : ∃ Z D1, X.last W = (Z, D1) := ⟨_, _, rfl⟩
    rw [hZL] at hM hat
    have hsm := HSM.out
    rw [hZL] at hsm
    obtain ⟨m1, m2, m3, m4, m5, m6, m7, m8⟩ := hsm
    simp only at m1 m2 m3 m4 m5 m6 m7 m8 hat hM
    have HZL := Lib.hid hZL
    have M1 := Lib.hid m1
    have M2 := Lib.hid m2
    have M5 := Lib.hid m5
    have M8 := Lib.hid m8
    have hzb : Z.at_ ≤ Z.blocks := by omega
    have hzf : Z.first ≤ 900000 ∧ Z.blocks ≤ 100000000 := by omega
    have HM := Lib.hid hM
    have hzc : Z.closed = false := by rw [m7]; exact HC.out
    have z9 : wc.cell? ⟨x, 9, none⟩ = some (.bool Z.closed) := HM.out.blk.cell 9
    have fz9 := HM.out.blk.frozen 9
    have hI1 := (wr_store HM.out.wk HM.out.blk 9 (.bool true)).1
    have hX1 := (wr_store HM.out.wk HM.out.blk 9 (.bool true)).2.1
    have ht1 := (wr_store HM.out.wk HM.out.blk 9 (.bool true)).2.2
    rw [wcells_close] at hX1
    have hB1 := HM.out.buf.stay HM.out.wk ht1 (fun e => HM.out.blk.ne_ HM.out.buf.blk (by decide) e.symm) (fun e => HM.out.blk.ne_ HM.out.buf.row (by decide) e.symm)
    have hF1 := HM.out.wk.blk ht1 HM.out.res (by decide) (by decide) (by decide) (by decide) (by decide) HFX.out
    have HXB := Lib.hid (show x ≠ X.buf from fun e => HM.out.blk.ne_ HM.out.buf.blk (by decide) e)
    have HFB := Lib.hid (show w.heap.size ≠ X.buf from fun e => HM.out.res.ne_ HM.out.buf.blk (by decide) e)
    have HT1 := Lib.hid (HM.out.turn.trans (ht1.mono (E' := Own x X) (fun k h => .inl h)))
    have HI1 := Lib.hid hI1
    have HX1 := Lib.hid hX1
    have HB1 := Lib.hid hB1
    have HF1 := Lib.hid hF1
    clear hI1 hX1 hB1 hF1 ht1 hM hwr hZL m1 m2 m3 m4 m5 m6 m7 m8 HM HSM HSM' HI0 HB0 HX0 HF0 HT0 HFL c9 c7
    go_wp2_with fail
    refine wp_reads_one 11 (by kernel_rfl) rfl (by kernel_rfl) (fun _ _ d _ _ h => by cases d <;> exact h) ?_; simp only [List.take_succ_cons, List.take_zero, List.drop_succ_cons, List.drop_zero]
    generalize hw2 : (wc.setCell ⟨x, 9, none⟩ (.bool true)).drew = w2
    have HI2 : Hid (WkI w2 O K { W with D := D1 }) := Lib.hid (by rw [← hw2]; exact HI1.out.drew)
    have HX2 : Hid (Blk w2 x 117 (wcells K { Z with closed := true })) := Lib.hid (by rw [← hw2]; exact HX1.out)
    have HB2 : Hid (BufAt w2 O { W with D := D1 } X.buf X.arr X.ws) := Lib.hid (by rw [← hw2]; exact ⟨HB1.out.blk, HB1.out.row, HB1.out.len, HB1.out.out, HB1.out.st⟩)
    have HF2 : Hid (Blk w2 w.heap.size 32 noFile) := Lib.hid (by rw [← hw2]; exact HF1.out)
    have HT2 : Hid (Turn K (Own x X) w w2) := Lib.hid (by rw [← hw2]; exact HT1.out.drew)
    have d0 : w2.cell? ⟨x, 0, none⟩ = some (P K.wk) := HX2.out.cell 0
    have d6 : w2.cell? ⟨x, 6, none⟩ = some (P X.buf) := by rw [← M5.out]; exact HX2.out.cell 6
    have k1 : w2.cell? ⟨K.wk, 1, none⟩ = some (P K.a) := HI2.out.box.cell 1
    have HRL := Lib.hid (release_w HI2.out HB2.out)
    clear hw2 HI1 HX1 HB1 HF1 HT1 z9 fz9
    repeat (refine sg_step (fun K2 hK => ?_); go_simp; refine hK.out _ ?_; clear hK K2)
    refine sg_nil (fun K hK => ?_); go_simp
    (with_reducible refine HRL.out.mono ?_)
    rintro e w3 ⟨rfl, hI3, ht3⟩
    refine hK.out _ _ ?_; clear hK K
    repeat (refine sg_step (fun K2 hK => ?_); go_simp; refine hK.out _ ?_; clear hK K2)
    refine sg_nil ?_
    have HI3 := Lib.hid hI3.drew
    have HX3 : Hid (Blk w3.drew x 117 (wcells K { Z with closed := true })) := Lib.hid (HI2.out.blk ht3 HX2.out (by decide) (by decide) (by decide) (by decide) (by decide) HXB.out)
    have HF3 : Hid (Blk w3.drew w.heap.size 32 noFile) := Lib.hid (HI2.out.blk ht3 HF2.out (by decide) (by decide) (by decide) (by decide) (by decide) HFB.out)
    have HT3 := Lib.hid (HT2.out.trans (ht3.mono (E' := Own x X) (fun k h => .inr (.inl h)))).drew
    have y2 : w3.drew.cell? ⟨x, 2, none⟩ = some (.int .i64 (Z.blocks : Int)) := HX3.out.cell 2
    have y8 : w3.drew.cell? ⟨x, 8, none⟩ = some (.int .i64 (Z.at_ : Int)) := HX3.out.cell 8
    clear hI3 ht3 HRL HI2 HX2 HB2 HF2 HT2 d0 d6 k1
    go_wp2_with fail
    refine wp_reads (by kernel_rfl) (by kernel_rfl) ?_
    generalize w3.drew = w4 at *
    repeat (refine sg_step (fun K2 hK => ?_); go_simp; refine hK.out _ ?_; clear hK K2)
    refine sg_nil ?_
    go_upto_if 49 with (fail)
    go_cut [] (fun wx => Shut2 w O K W { W with D := D1 } x w.heap.size X Z wx)
    case first =>
      by_cases hlt : (Z.at_ : Int) < (Z.blocks : Int)
      · have zs : IntKind.i64.wrap ((Z.first : Int) + (Z.at_ : Int)) = (Z.first : Int) + (Z.at_ : Int) := by rw [IntKind.wrap_i64]; omega
        have zd : IntKind.i64.wrap ((Z.blocks : Int) - (Z.at_ : Int)) = (Z.blocks : Int) - (Z.at_ : Int) := by rw [IntKind.wrap_i64]; omega
        have HG := Lib.hid (give_w HI3.out.drew ((Z.first : Int) + (Z.at_ : Int)) ((Z.blocks : Int) - (Z.at_ : Int)))
        have x0 : w4.drew.cell? ⟨x, 0, none⟩ = some (P K.wk) := HX3.out.cell 0
        have x1 : w4.drew.cell? ⟨x, 1, none⟩ = some (.int .i64 (Z.first : Int)) := HX3.out.cell 1
        have x2 : w4.drew.cell? ⟨x, 2, none⟩ = some (.int .i64 (Z.blocks : Int)) := HX3.out.cell 2
        have x8 : w4.drew.cell? ⟨x, 8, none⟩ = some (.int .i64 (Z.at_ : Int)) := HX3.out.cell 8
        have k2 : w4.drew.cell? ⟨K.wk, 2, none⟩ = some (P K.s) := HI3.out.box.cell 2
        have HI5 := Lib.hid HI3.out.drew
        have HX5 : Hid (Blk w4.drew x 117 (wcells K { Z with closed := true })) := Lib.hid HX3.out
        have HF5 : Hid (Blk w4.drew w.heap.size 32 noFile) := Lib.hid HF3.out
        have HT5 := Lib.hid HT3.out.drew
        clear y2 y8 HI3 HX3 HT3 HF3
        go_wp2_with fail
        refine wp_reads_one 27 (by kernel_rfl) rfl (by kernel_rfl) (fun _ _ d _ _ h => by cases d <;> exact h) ?_; simp only [List.take_succ_cons, List.take_zero, List.drop_succ_cons, List.drop_zero]
        generalize w4.drew = w5 at *
        repeat (refine sg_step (fun K2 hK => ?_); go_simp; refine hK.out _ ?_; clear hK K2)
        refine sg_nil (fun K hK => ?_); go_simp
        (with_reducible refine HG.out.mono ?_)
        rintro e w6 ⟨er, L', rfl, hg, hI6, ht6⟩
        refine hK.out _ _ ?_; clear hK K
        repeat (refine sg_step (fun K2 hK => ?_); go_simp; refine hK.out _ ?_; clear hK K2)
        refine sg_nil ?_
        have hX6 := HI5.out.blk ht6 HX5.out (by decide) (by decide) (by decide) (by decide) (by decide) (fun h => h)
        have hF6 := HI5.out.blk ht6 HF5.out (by decide) (by decide) (by decide) (by decide) (by decide) (fun h => h)
        have HS := Lib.hid (show Shut2 w O K W { W with D := D1 } x w.heap.size X Z w6 from ⟨L', .inr ⟨by omega, er, by rw [show (((Z.first + Z.at_ : Nat)) : Int) = (Z.first : Int) + (Z.at_ : Int) from by omega, show (((Z.blocks - Z.at_ : Nat)) : Int) = (Z.blocks : Int) - (Z.at_ : Int) from by omega]; exact hg⟩, hI6, hX6, hF6, HT5.out.trans (ht6.mono (fun k h => h.elim))⟩)
        clear x0 x1 x2 x8 k2 zs zd hI6 ht6 hX6 hF6 hg HG HI5 HX5 HT5 HF5 hlt
        go_wp2_with fail
        go_meet
        exact HS.out
      · have hge : (Z.blocks : Int) ≤ (Z.at_ : Int) := by omega
        have HS := Lib.hid (show Shut2 w O K W { W with D := D1 } x w.heap.size X Z w4 from ⟨W.L, .inl ⟨by omega, rfl⟩, HI3.out, HX3.out, HF3.out, HT3.out⟩)
        clear HI3 HX3 HT3 HF3 y2 y8 hlt
        go_wp2_with fail
        go_meet
        exact HS.out
    case rest =>
      clear HI3 HX3 HT3 HF3 y2 y8
      obtain ⟨L', hg, hI, hX, hF, hT⟩ := hcut
      have HG := Lib.hid hg
      have HI6 := Lib.hid hI
      have HX6 := Lib.hid hX
      have HF6 := Lib.hid hF
      have HT6 := Lib.hid hT
      clear hg hI hX hF hT
      have hI7 := (wr_store HI6.out HX6.out 2 (.int .i64 (Z.at_ : Int))).1
      have hX7 := (wr_store HI6.out HX6.out 2 (.int .i64 (Z.at_ : Int))).2.1
      have ht7 := (wr_store HI6.out HX6.out 2 (.int .i64 (Z.at_ : Int))).2.2
      have hF7 := HI6.out.blk ht7 HF6.out (by decide) (by decide) (by decide) (by decide) (by decide) HFX.out
      have z8 : wc.cell? ⟨x, 8, none⟩ = some (.int .i64 (Z.at_ : Int)) := HX6.out.cell 8
      have z2 : wc.cell? ⟨x, 2, none⟩ = some (.int .i64 (Z.blocks : Int)) := HX6.out.cell 2
      have f2 := HX6.out.frozen 2
      have q8 : (wc.setCell ⟨x, 2, none⟩ (.int .i64 (Z.at_ : Int))).cell? ⟨x, 8, none⟩ = some (.int .i64 (Z.at_ : Int)) := hX7.cell 8
      have HI7 := Lib.hid hI7
      have HX7 := Lib.hid hX7
      have HF7 := Lib.hid hF7
      have HT7 := Lib.hid (HT6.out.trans (ht7.mono (E' := Own x X) (fun k h => .inl h)))
      clear hI7 hX7 ht7 hF7 HT6 HI6 HX6 HF6
      go_upto_if 90 with (fail)
      generalize wc.setCell ⟨x, 2, none⟩ (.int .i64 (Z.at_ : Int)) = w7 at *
      clear z8 z2 f2
      go_cut [] (fun wx => Shut3 w O K W { W with D := D1 } x w.heap.size X Z wx)
      case first =>
        by_cases h0 : Z.at_ = 0
        · have h0b : ((Z.at_ : Int) == 0) = true := by simp [h0]
          have hI8 := (wr_store HI7.out HX7.out 1 (.int .i64 0)).1
          have hX8 := (wr_store HI7.out HX7.out 1 (.int .i64 0)).2.1
          have ht8 := (wr_store HI7.out HX7.out 1 (.int .i64 0)).2.2
          have hF8 := HI7.out.blk ht8 HF7.out (by decide) (by decide) (by decide) (by decide) (by decide) HFX.out
          rw [wcells_shut0 K Z h0] at hX8
          have q1 : w7.cell? ⟨x, 1, none⟩ = some (.int .i64 (Z.first : Int)) := HX7.out.cell 1
          have gq1 := HX7.out.frozen 1
          have HS := Lib.hid (show Shut3 w O K W { W with D := D1 } x w.heap.size X Z _ from ⟨L', HG.out, hI8, hX8, hF8, HT7.out.trans (ht8.mono (E' := Own x X) (fun k h => .inl h))⟩)
          clear h0 hI8 hX8 ht8 hF8 HI7 HX7 HF7 HT7
          go_wp2_with fail
          go_meet
          exact HS.out
        · have h0b : ((Z.at_ : Int) == 0) = false := by simp [h0]
          have hX8 := HX7.out
          rw [wcells_shut1 K Z h0] at hX8
          have HS := Lib.hid (show Shut3 w O K W { W with D := D1 } x w.heap.size X Z w7 from ⟨L', HG.out, HI7.out, hX8, HF7.out, HT7.out⟩)
          clear h0 hX8 HI7 HX7 HF7 HT7
          go_wp2_with fail
          go_meet
          exact HS.out
      case rest =>
        clear HI7 HX7 HF7 HT7 q8 HG
        obtain ⟨L2, hg, hI, hX, hF, hT⟩ := hcut
        have r1 : wc.cell? ⟨x, 1, none⟩ = some (.int .i64 (Z.shut.first : Int)) := hX.cell 1
        have r2 : wc.cell? ⟨x, 2, none⟩ = some (.int .i64 (Z.shut.blocks : Int)) := hX.cell 2
        have r3 : wc.cell? ⟨x, 3, none⟩ = some (.int .i64 (Z.width : Int)) := hX.cell 3
        have r4 : wc.cell? ⟨x, 4, none⟩ = some (.int .i64 (Z.count : Int)) := hX.cell 4
        have p0 : wc.cell? ⟨w.heap.size, 0, none⟩ = some (.int .i64 0) := hF.cell 0
        have p1 : wc.cell? ⟨w.heap.size, 1, none⟩ = some (.int .i64 0) := hF.cell 1
        have p2 : wc.cell? ⟨w.heap.size, 2, none⟩ = some (.int .i64 0) := hF.cell 2
        have p3 : wc.cell? ⟨w.heap.size, 3, none⟩ = some (.int .i64 0) := hF.cell 3
        have g0 := hF.frozen 0
        have g1 := hF.frozen 1
        have g2 := hF.frozen 2
        have g3 := hF.frozen 3
        obtain ⟨hI9, hB9, ht9⟩ := four_store hI hF (.int .i64 (Z.shut.first : Int)) (.int .i64 (Z.shut.blocks : Int)) (.int .i64 (Z.width : Int)) (.int .i64 (Z.count : Int))
        have hX9 := hI.blk ht9 hX (by decide) (by decide) (by decide) (by decide) (by decide) (fun e => HFX.out e.symm)
        have hT9 := (hT.mono (E' := fun k => Own x X k ∨ w.heap.size ≤ k) (fun k h => .inl h)).trans (ht9.mono (E' := fun k => Own x X k ∨ w.heap.size ≤ k) (fun k h => .inr (by have h' : k = w.heap.size := h; omega)))
        unfold four at hI9 hB9 hX9 hT9
        have HI9 := Lib.hid hI9
        have HB9 := Lib.hid hB9
        have HX9 := Lib.hid hX9
        have HT9 := Lib.hid hT9
        have HG := Lib.hid hg
        clear hI9 hB9 hX9 hT9 ht9 hI hX hF hT hg
        go_wp2_with fail
        generalize (((wc.setCell ⟨w.heap.size, 0, none⟩ (.int .i64 (Z.shut.first : Int))).setCell ⟨w.heap.size, 1, none⟩ (.int .i64 (Z.shut.blocks : Int))).setCell ⟨w.heap.size, 2, none⟩ (.int .i64 (Z.width : Int))).setCell ⟨w.heap.size, 3, none⟩ (.int .i64 (Z.count : Int)) = w9 at *
        have s0 : w9.cell? ⟨w.heap.size, 0, none⟩ = some (.int .i64 (Z.shut.first : Int)) := HB9.out.cell 0
        have s1 : w9.cell? ⟨w.heap.size, 1, none⟩ = some (.int .i64 (Z.shut.blocks : Int)) := HB9.out.cell 1
        have s2 : w9.cell? ⟨w.heap.size, 2, none⟩ = some (.int .i64 (Z.width : Int)) := HB9.out.cell 2
        have s3 : w9.cell? ⟨w.heap.size, 3, none⟩ = some (.int .i64 (Z.count : Int)) := HB9.out.cell 3
        refine bodyPost_ret (v := .tuple #[.agg #[.int .i64 (Z.shut.first : Int), .int .i64 (Z.shut.blocks : Int), .int .i64 (Z.width : Int), .int .i64 (Z.count : Int)], .int .i64 0]) (by simp [results, Try.results24, go_sem, s0, s1, s2, s3]; try rfl) rfl ?_
        refine .inl ⟨HWR.out, L2, ?_, ?_, ?_, ?_, HT9.out⟩
        · rw [HZL.out]; rfl
        · rw [HZL.out]
          have := HG.out
          rw [M1.out, M2.out] at this
          exact this
        · rw [HZL.out]
          have := HI9.out
          rw [show ({ W with D := D1 } : Wk).D.size = W.D.size from M8.out] at this
          exact this
        · rw [HZL.out]
          exact HX9.out
end

end Go.Proofs.Ytmmkncocgjgapaa.Fl

/- The walk of Write of a work: a writer, or what is lacking. -/
namespace Go.Proofs.Ytmmkncocgjgapaa.Fl
open Go.RowKit

def cellV (w : World) (p : Addr) : Value := (w.cell? p).getD undef
theorem cellV_of {w : World} {p : Addr} {v : Value} (h : w.cell? p = some v) : w.cell? p = some (cellV w p) := by
  unfold cellV
  rw [h]
  rfl
theorem cellV_set {w : World} {p : Addr} {v : Value} (h : w.cell? p = some v) (y : Value) : (w.setCell p y).cell? p = some (cellV (w.setCell p y) p) :=
  cellV_of (World.cell?_setCell_same w p y h)
theorem blocksOf_bd {size : Nat} {width count : Int} (h8 : 8 ≤ size) (h : size ≤ 256) (h1 : 1 ≤ width) (h5 : width ≤ 5) (hc : 0 ≤ count) : 0 ≤ blocksOf size width count ∧ blocksOf size width count ≤ count := by
  obtain ⟨g1, g2, g3, g4⟩ := holds_bd (width := width) h8 h
  have g5 := g3 h1 h5
  unfold blocksOf
  generalize holds size width = n at *
  refine ⟨Int.ediv_nonneg (by omega) (by omega), ?_⟩
  rcases Int.lt_or_le 0 count with hp | hp
  · have : count + n - 1 < (count + 1) * n := by
      have h6 : count * 1 ≤ count * n := Int.mul_le_mul_of_nonneg_left g5 (by omega)
      rw [Int.add_mul]
      omega
    have := Int.ediv_lt_of_lt_mul (by omega : 0 < n) this
    omega
  · have : count = 0 := by omega
    subst this
    rw [Int.ediv_eq_zero_of_lt (by omega) (by omega)]
    exact Int.le_refl _

section
variable {w w' : World} {O : Nat → Prop} {K : Key} {W : Wk} {x : Nat} {E : Nat → Prop}

def MakeNo (w : World) (er : Int) (e : Ending) (w' : World) : Prop := e = .returned (.tuple #[.pointer none, .int .i64 er]) ∧ Below w.heap.size w w'
theorem make_nil (width bound : Int) (w : World) : Calls Try.prog 22 #[.pointer none, .int .i64 width, .int .i64 bound] w (MakeNo w 1) := by
  go_enter Try.func22, Try.ntmps22
  go_wp2_with fail
  refine (holds_nil width w).mono ?_
  rintro e w1 ⟨rfl, rfl⟩
  go_wp2_with fail
  go_ret2
  exact ⟨rfl, Below.refl _ _⟩
theorem make_arg (width bound : Int) (hI : WkI w O K W) (hb : width < 1 ∨ 5 < width ∨ bound < 0 ∨ 100000000 < bound) : Calls Try.prog 22 #[P K.wk, .int .i64 width, .int .i64 bound] w (MakeNo w 1) := by
  have HH := Lib.hid (holds_any hI width)
  obtain ⟨s8, s256⟩ := hI.size
  obtain ⟨g1, g2, g3, g4⟩ := holds_bd (width := width) s8 s256
  by_cases h0 : width < 1 ∨ 5 < width
  · have hz : holds W.D.size width = 0 := by unfold holds; rw [if_pos h0]
    rw [hz] at HH
    clear hI hb h0 hz g1 g2 g3 g4
    go_enter Try.func22, Try.ntmps22
    go_wp2_with fail
    refine HH.out.mono ?_
    rintro e w1 ⟨rfl, rfl⟩
    go_wp2_with fail
    go_ret2
    exact ⟨rfl, Below.refl _ _⟩
  have g5 := g3 (by omega) (by omega)
  generalize holds W.D.size width = n at *
  have hn0 : (n == 0) = false := by rw [beq_eq_false_iff_ne]; omega
  by_cases h1 : bound < 0
  · clear hI hb h0 g1 g2 g3 g4
    go_enter Try.func22, Try.ntmps22
    go_wp2_with fail
    refine HH.out.mono ?_
    rintro e w1 ⟨rfl, rfl⟩
    go_wp2_with fail
    go_ret2
    exact ⟨rfl, Below.refl _ _⟩
  · have h2 : 100000000 < bound := by omega
    clear hI hb h0 g1 g2 g3 g4
    go_enter Try.func22, Try.ntmps22
    go_wp2_with fail
    refine HH.out.mono ?_
    rintro e w1 ⟨rfl, rfl⟩
    go_wp2_with fail
    go_ret2
    exact ⟨rfl, Below.refl _ _⟩

set_option maxRecDepth 100000 in
set_option maxHeartbeats 2000000 in
theorem make_room (wN bN : Nat) (hI : WkI w O K W) (h1 : 1 ≤ wN) (h5 : wN ≤ 5) (hb : bN ≤ 100000000) (hn : (W.A.room : Int) - W.A.used < W.D.size) : Calls Try.prog 22 #[P K.wk, .int .i64 (wN : Int), .int .i64 (bN : Int)] w (MakeNo w 7) := by
  have HH := Lib.hid (holds_any hI (wN : Int))
  obtain ⟨s8, s256⟩ := hI.size
  obtain ⟨g1, g2, g3, g4⟩ := holds_bd (width := (wN : Int)) s8 s256
  have g5 := g3 (by omega) (by omega)
  have HG := Lib.hid (grant_no hI.drew hn)
  have HS := Lib.hid (dsize_any hI.drew)
  have j0 : w.drew.cell? ⟨K.wk, 0, none⟩ = some (P K.d) := hI.box.cell 0
  have j1 : w.drew.cell? ⟨K.wk, 1, none⟩ = some (P K.a) := hI.box.cell 1
  generalize holds W.D.size (wN : Int) = n at *
  have hn0 : (n == 0) = false := by rw [beq_eq_false_iff_ne]; omega
  have b1 : (0 : Int) ≤ (bN : Int) := by omega
  have b2 : (bN : Int) ≤ 100000000 := by omega
  clear hI g3 g4
  go_enter Try.func22, Try.ntmps22
  go_wp2_with fail
  refine HH.out.mono ?_
  rintro e w1 ⟨rfl, rfl⟩
  go_wp2_with fail
  refine wp_reads_one 9 (by kernel_rfl) rfl (by kernel_rfl) (fun _ _ d _ _ h => by cases d <;> exact h) ?_; simp only [List.take_succ_cons, List.take_zero, List.drop_succ_cons, List.drop_zero]
  repeat (refine sg_step (fun K2 hK => ?_); go_simp; refine hK.out _ ?_; clear hK K2)
  (refine sg_step (fun K2 hK => ?_); go_simp; refine ⟨_, Calls.still (HS.out), hK.out _ ?_⟩; clear hK K2)
  repeat (refine sg_step (fun K2 hK => ?_); go_simp; refine hK.out _ ?_; clear hK K2)
  refine sg_nil (fun K hK => ?_); go_simp
  refine HG.out.mono ?_
  rintro e w2 ⟨rfl, q, rfl⟩
  refine hK.out _ _ ?_; clear hK K
  repeat (refine sg_step (fun K2 hK => ?_); go_simp; refine hK.out _ ?_; clear hK K2)
  refine sg_nil ?_
  go_wp2_with fail
  go_ret2
  exact ⟨rfl, ⟨rfl, rfl, rfl, Nat.le_refl _, fun _ _ => rfl⟩⟩

/-- What a writer begins with. -/
theorem turn_fresh {E : Nat → Prop} (h : Turn K E w w') (hE : ∀ k, E k → w.heap.size ≤ k) : Turn K (fun _ => False) w w' := by
  refine Chg.mono ⟨h.os, h.tape, h.output, h.size, fun k hk hn => ?_⟩ (fun k _ h => h)
  exact Chg.block h k hk (fun hf => hn (by
    rcases hf with e | e | e | e | e | e | e | e | e
    · exact .inl e
    · exact .inr (.inl e)
    · exact .inr (.inr (.inl e))
    · exact .inr (.inr (.inr (.inl e)))
    · exact .inr (.inr (.inr (.inr (.inl e))))
    · exact .inr (.inr (.inr (.inr (.inr (.inl e)))))
    · exact .inr (.inr (.inr (.inr (.inr (.inr (.inl e))))))
    · exact .inr (.inr (.inr (.inr (.inr (.inr (.inr (.inl e)))))))
    · exact absurd hk (by have := hE k e; omega)))
def fresh (size first blocks wN bN b d : Nat) : Wr := ⟨first, blocks, wN, 0, bN, b, d, 0, 0, false, zeros size⟩
def Made (w : World) (O : Nat → Prop) (K : Key) (W : Wk) (wN bN : Nat) (e : Ending) (w' : World) : Prop :=
  ∃ b d, w.heap.size ≤ b ∧ w.heap.size ≤ d ∧ Turn K (fun _ => False) w w' ∧
    ((∃ (r er : Int) (L' : List Sp.Ext), 0 < blocksOf W.D.size wN bN ∧ Sp.TakeRel W.L 0 W.B (blocksOf W.D.size wN bN) r er L' ∧ er ≠ 0 ∧ e = .returned (.tuple #[.pointer none, .int .i64 er]) ∧ WkI w' (but O d) K { W with A := (W.A.grant W.D.size b).release b W.D.size, L := L' }) ∨
     (∃ (x first : Nat) (L' : List Sp.Ext), ((blocksOf W.D.size wN bN = 0 ∧ first = 0 ∧ L' = W.L) ∨ (0 < blocksOf W.D.size wN bN ∧ Sp.TakeRel W.L 0 W.B (blocksOf W.D.size wN bN) (first : Int) 0 L')) ∧ w.heap.size ≤ x ∧ e = .returned (.tuple #[P x, .int .i64 0]) ∧
       WkI w' (but O d) K { W with A := W.A.grant W.D.size b, L := L' } ∧ WrAt w' (but O d) K { W with A := W.A.grant W.D.size b, L := L' } x (fresh W.D.size first (blocksOf W.D.size wN bN).toNat wN bN b d)))

set_option maxRecDepth 100000 in
set_option maxHeartbeats 4000000 in
theorem make_any (wN bN : Nat) (hI : WkI w O K W) (h1 : 1 ≤ wN) (h5 : wN ≤ 5) (hb : bN ≤ 100000000) (hn : W.D.size ≤ W.A.room - W.A.used) : Calls Try.prog 22 #[P K.wk, .int .i64 (wN : Int), .int .i64 (bN : Int)] w (Made w O K W wN bN) := by
  have HH := Lib.hid (holds_any hI (wN : Int))
  obtain ⟨s8, s256⟩ := hI.size
  obtain ⟨g1, g2, g3, g4⟩ := holds_bd (width := (wN : Int)) s8 s256
  have g5 := g3 (by omega) (by omega)
  have hbd := blocksOf_bd (count := (bN : Int)) s8 s256 (width := (wN : Int)) (by omega) (by omega) (by omega)
  have HG := Lib.hid (grant_w hI.drew W.D.size hn)
  have HS := Lib.hid (dsize_any hI.drew)
  have j0 : w.drew.cell? ⟨K.wk, 0, none⟩ = some (P K.d) := hI.box.cell 0
  have j1 : w.drew.cell? ⟨K.wk, 1, none⟩ = some (P K.a) := hI.box.cell 1
  have HI := Lib.hid hI
  have hn0 : (holds W.D.size (wN : Int) == 0) = false := by rw [beq_eq_false_iff_ne]; omega
  have b1 : (0 : Int) ≤ (bN : Int) := by omega
  have b2 : (bN : Int) ≤ 100000000 := by omega
  clear hI g3 g4
  go_enter Try.func22, Try.ntmps22
  go_wp2_with fail
  refine HH.out.mono ?_
  rintro e w1 ⟨rfl, rfl⟩
  go_wp2_with fail
  refine wp_reads_one 9 (by kernel_rfl) rfl (by kernel_rfl) (fun _ _ d _ _ h => by cases d <;> exact h) ?_; simp only [List.take_succ_cons, List.take_zero, List.drop_succ_cons, List.drop_zero]
  repeat (refine sg_step (fun K2 hK => ?_); go_simp; refine hK.out _ ?_; clear hK K2)
  (refine sg_step (fun K2 hK => ?_); go_simp; refine ⟨_, Calls.still (HS.out), hK.out _ ?_⟩; clear hK K2)
  repeat (refine sg_step (fun K2 hK => ?_); go_simp; refine hK.out _ ?_; clear hK K2)
  refine sg_nil (fun K hK => ?_); go_simp
  refine HG.out.mono ?_
  rintro e w2 ⟨b, d, rfl, hI2, hb2, hd2, q1, q2, q3, ht2⟩
  refine hK.out _ _ ?_; clear hK K
  repeat (refine sg_step (fun K2 hK => ?_); go_simp; refine hK.out _ ?_; clear hK K2)
  refine sg_nil ?_
  have HT2 : Hid (Turn K (fun _ => False) w w2) := Lib.hid ((Turn.refl K _ w).drew.trans ht2)
  have HBL := Lib.hid (blocks_any hI2 (wN : Int) (bN : Int) ⟨by omega, by omega⟩ b1 b2)
  have HI2 := Lib.hid hI2
  have HB2 := Lib.hid hb2
  have HD2 := Lib.hid hd2
  have q1' : w.heap.size ≤ b := q1
  have q2' : w.heap.size ≤ d := q2
  have hz2 : w.heap.size ≤ w2.heap.size := HT2.out.size
  clear hI2 hb2 hd2 ht2 q1 q2 HG HS HH j0 j1
  go_wp2_with fail
  refine HBL.out.mono ?_
  rintro e w3 ⟨rfl, rfl⟩
  obtain ⟨nb, hnb⟩ : ∃ nb : Nat, blocksOf W.D.size (wN : Int) (bN : Int) = (nb : Int) := ⟨(blocksOf W.D.size (wN : Int) (bN : Int)).toNat, by omega⟩
  have HNB := Lib.hid hnb
  rw [show ({ W with A := W.A.grant W.D.size b } : Wk).D.size = W.D.size from rfl, hnb]
  have hnb2 : nb ≤ 100000000 := by omega
  clear HBL hnb hbd
  by_cases h0 : nb = 0
  · have h0b : decide (0 < nb) = false := by simp; omega
    have h0i : (nb : Int) ≤ 0 := by omega
    have H0 := Lib.hid h0
    clear h0
    go_wp2_with fail
    go_ret2
    have hbn : Below w2.heap.size w2 (w2.alloc (.cells (wcells K (fresh W.D.size 0 nb wN bN b d)) 117)) := (Below.refl _ _).alloc (Nat.le_refl _) _
    have e0 : nb = 0 := H0.out
    have hnbz : blocksOf W.D.size (wN : Int) (bN : Int) = 0 := by rw [HNB.out, e0]; rfl
    have hsame : wcells K (fresh W.D.size 0 nb wN bN b d) = #[P K.wk, .int .i64 0, .int .i64 (nb : Int), .int .i64 (wN : Int), .int .i64 0, .int .i64 (bN : Int), P b, .int .i64 0, .int .i64 0, .bool false] := rfl
    rw [hsame] at hbn
    refine ⟨b, d, q1', q2', HT2.out.trans (Turn.below hbn), .inr ⟨w2.heap.size, 0, W.L, .inl ⟨hnbz, rfl, rfl⟩, hz2, rfl, HI2.out.below hbn, ?_⟩⟩
    have hnt : (blocksOf W.D.size (wN : Int) (bN : Int)).toNat = nb := by rw [HNB.out]; rfl
    rw [hnt]
    exact ⟨Blk.new w2 _ _, fun _ => ⟨HB2.out.below hbn HB2.out.lt, HD2.out.below hbn HD2.out.lt, by simp [zeros, fresh], fun h => h.2 rfl, grant_st _ _ _⟩, ⟨h1, h5⟩, hb, ⟨by show (0 : Nat) ≤ _; omega, hnb2⟩⟩
  · have h0i : (0 : Int) < (nb : Int) := by omega
    have hbn : Below w2.heap.size w2 (w2.alloc (.cells (wcells K (fresh W.D.size 0 nb wN bN b d)) 117)) := (Below.refl _ _).alloc (Nat.le_refl _) _
    have hX3 := Blk.new w2 117 (wcells K (fresh W.D.size 0 nb wN bN b d))
    have hsame : wcells K (fresh W.D.size 0 nb wN bN b d) = #[P K.wk, .int .i64 0, .int .i64 (nb : Int), .int .i64 (wN : Int), .int .i64 0, .int .i64 (bN : Int), P b, .int .i64 0, .int .i64 0, .bool false] := rfl
    have HI3 := Lib.hid (HI2.out.below hbn)
    have HB3 := Lib.hid (HB2.out.below hbn HB2.out.lt)
    have HD3 := Lib.hid (HD2.out.below hbn HD2.out.lt)
    have HX3 := Lib.hid hX3
    have HT3 := Lib.hid (HT2.out.trans (Turn.below hbn))
    rw [hsame] at HI3 HB3 HD3 HX3 HT3
    have HSM := Lib.hid hsame
    clear hbn hX3 hsame HI2 HB2 HD2 HT2
    go_wp2_with fail
    generalize w2.alloc (.cells #[P K.wk, .int .i64 0, .int .i64 (nb : Int), .int .i64 (wN : Int), .int .i64 0, .int .i64 (bN : Int), P b, .int .i64 0, .int .i64 0, .bool false] 117) = w3 at *
    have hxlt : w2.heap.size < w3.heap.size := HX3.out.lt
    obtain ⟨xb, hxb⟩ : ∃ xb, xb = w2.heap.size := ⟨_, rfl⟩
    rw [← hxb] at HX3 hz2 hxlt
    rw [← hxb]
    clear hxb
    have s2 : w3.cell? ⟨K.wk, 2, none⟩ = some (P K.s) := HI3.out.box.cell 2
    have x1 : w3.cell? ⟨xb, 1, none⟩ = some (.int .i64 0) := HX3.out.cell 1
    have x2 : w3.cell? ⟨xb, 2, none⟩ = some (.int .i64 (nb : Int)) := HX3.out.cell 2
    have fx1 := HX3.out.frozen 1
    have hKX : ∀ i j : Nat, (⟨xb, i, none⟩ : Addr) ≠ ⟨K.wk, j, none⟩ := fun i j e => HI3.out.box.ne_ HX3.out (by decide) (by injection e with e; exact e.symm)
    have HKX := Lib.hid hKX
    have HTK := Lib.hid (fun (W0 : World) (h : W0 = w3.drew) => h ▸ take_w HI3.out.drew (nb : Int))
    clear hKX
    go_region_held3 (fun w' => w'.cell? ⟨K.wk, 2, none⟩ = some (P K.s) ∧ w'.cell? ⟨xb, 2, none⟩ = some (.int .i64 (nb : Int)) ∧ w'.frozen? ⟨xb, 1, none⟩ = false ∧ w'.cell? ⟨xb, 1, none⟩ = some (cellV w' ⟨xb, 1, none⟩))
      (((try go_split_ands); (try dsimp only); (repeat' apply And.intro) <;> first
        | assumption
        | exact cellV_of (w := w3.drew) x1
        | exact hI4.box.cell 2
        | exact (HI3.out.drew.blk ht4 (show Blk w3.drew xb 117 _ from HX3.out) (by decide) (by decide) (by decide) (by decide) (by decide) (fun h => h)).cell 2
        | exact (HI3.out.drew.blk ht4 (show Blk w3.drew xb 117 _ from HX3.out) (by decide) (by decide) (by decide) (by decide) (by decide) (fun h => h)).frozen 1
        | exact cellV_of ((HI3.out.drew.blk ht4 (show Blk w3.drew xb 117 _ from HX3.out) (by decide) (by decide) (by decide) (by decide) (by decide) (fun h => h)).cell 1)
        | exact cellV_set (by assumption) _
        | (rw [World.frozen?_setCell]; assumption)
        | exact (World.cell?_setCell_other _ _ _ _ (HKX.out 1 2)).trans (by assumption)
        | exact (World.cell?_setCell_other _ _ _ _ (by intro e; injection e with _ e; cases e)).trans (by assumption)))
      ((go_at_call 49; refine (HTK.out _ rfl).mono ?_; rintro e w4 ⟨r, er, L', rfl, htk, hI4, ht4⟩))
    have hX4 := (HI3.out.drew.blk ht4 (show Blk w3.drew xb 117 _ from HX3.out) (by decide) (by decide) (by decide) (by decide) (by decide) (fun h => h))
    have hB4 : BufAt w4 (but O d) { ({ W with A := W.A.grant W.D.size b } : Wk) with L := L' } b d (zeros W.D.size) :=
      ⟨HI3.out.drew.blk ht4 (show Blk w3.drew b 112 _ from HB3.out) (by decide) (by decide) (by decide) (by decide) (by decide) (fun h => h), HI3.out.drew.blk ht4 (show Blk w3.drew d 23 _ from HD3.out) (by decide) (by decide) (by decide) (by decide) (by decide) (fun h => h), by simp [zeros], fun h => h.2 rfl, grant_st _ _ _⟩
    have hT4 := HT3.out.drew.trans ht4
    obtain ⟨hI5, hX5, ht5⟩ := wr_store hI4 hX4 1 (.int .i64 r)
    have hB5 := hB4.stay hI4 ht5 (fun e => hX4.ne_ hB4.blk (by decide) e.symm) (fun e => hX4.ne_ hB4.row (by decide) e.symm)
    have HI5 := Lib.hid hI5
    have HX5 := Lib.hid hX5
    have HB5 := Lib.hid hB5
    have hT5 : Turn K (fun k => k = xb) w _ := (hT4.mono (fun k h => h.elim)).trans ht5
    have HTK2 := Lib.hid htk
    have HT5' : Turn K (fun _ => False) w (w4.setCell ⟨xb, 1, none⟩ (.int .i64 r)) := turn_fresh hT5 (fun k e => by rw [e]; exact hz2)
    have HT5 := Lib.hid HT5'
    clear hX4 hB4 hT4 hI5 hX5 ht5 hB5 hT5 HT5' hI4 ht4 htk HTK HI3 HB3 HD3 HX3 HT3 HKX s2 x1 x2 fx1
    generalize w4.setCell ⟨xb, 1, none⟩ (.int .i64 r) = w5 at *
    by_cases her : er = 0
    · have hne : (er != 0) = false := by simp [her]
      have HER := Lib.hid her
      clear her
      go_wp2_with fail
      go_ret2
      obtain ⟨fN, hfN, hfl⟩ : ∃ fN : Nat, r = (fN : Int) ∧ fN ≤ 900000 := by
        rcases HTK2.out with ⟨_, _, h, _⟩ | ⟨_, _, _, h, _⟩ | ⟨_, k, hk, _, _, h, _⟩
        · rw [HER.out] at h; cases h
        · rw [HER.out] at h; cases h
        · have ho := HI.out.inv.ok _ (List.getElem_mem hk)
          have hs := HI.out.small
          exact ⟨(W.L[k]).1, h, by omega⟩
      have hnt : (blocksOf W.D.size (wN : Int) (bN : Int)).toNat = nb := by rw [HNB.out]; rfl
      refine ⟨b, d, q1', q2', HT5.out, .inr ⟨xb, fN, L', .inr ⟨by rw [HNB.out]; exact h0i, ?_⟩, hz2, rfl, HI5.out, ?_⟩⟩
      · have := HTK2.out
        rw [HER.out, hfN] at this
        rw [HNB.out]
        exact this
      · rw [hnt]
        refine ⟨?_, fun _ => HB5.out, ⟨h1, h5⟩, hb, ⟨hfl, hnb2⟩⟩
        have hx := HX5.out
        rw [hfN] at hx
        exact hx
    · have hne : (er != 0) = true := by simpa using her
      have HER := Lib.hid her
      have k1 : w5.cell? ⟨K.wk, 1, none⟩ = some (P K.a) := HI5.out.box.cell 1
      have HRL := Lib.hid (release_w HI5.out HB5.out)
      clear her
      go_wp2_with fail
      refine HRL.out.mono ?_
      rintro e w6 ⟨rfl, hI6, ht6⟩
      have HI6 := Lib.hid hI6
      have HT6 := Lib.hid ht6
      clear hI6 ht6 HRL k1
      go_wp2_with fail
      go_ret2
      exact ⟨b, d, q1', q2', turn_fresh ((HT5.out.mono (fun k h => h.elim)).trans HT6.out) (fun k e => by rw [e]; exact q1'), .inl ⟨r, er, L', by rw [HNB.out]; exact h0i, by rw [HNB.out]; exact HTK2.out, HER.out, rfl, HI6.out⟩⟩
end

end Go.Proofs.Ytmmkncocgjgapaa.Fl

/- The walk of Free of a work: a file's blocks go back to the space. -/
namespace Go.Proofs.Ytmmkncocgjgapaa.Fl
open Go.RowKit

section
variable {w w' : World} {O : Nat → Prop} {K : Key} {W : Wk} {x : Nat} {E : Nat → Prop}

def FreeNo (w : World) (er : Int) (e : Ending) (w' : World) : Prop := e = .returned (.int .i64 er) ∧ Below w.heap.size w w'

set_option maxRecDepth 100000 in
set_option maxHeartbeats 1000000 in
theorem free_nil (first blocks width count : Int) (w : World) : Calls Try.prog 29 #[.pointer none, .agg (fvals first blocks width count)] w (FreeNo w 1) := by
  have hb : Below w.heap.size w (w.alloc (.cells (fvals first blocks width count) 32)) := (Below.refl _ _).alloc (Nat.le_refl _) _
  have HB := Lib.hid hb
  unfold fvals at *
  clear hb
  go_enter Try.func29, Try.ntmps29
  go_wp2_with fail
  go_ret
  exact ⟨rfl, HB.out⟩

set_option maxRecDepth 100000 in
set_option maxHeartbeats 1000000 in
theorem free_zero (first width count : Int) (wk : Nat) (w : World) : Calls Try.prog 29 #[P wk, .agg (fvals first 0 width count)] w (FreeNo w 0) := by
  have hb : Below w.heap.size w (w.alloc (.cells (fvals first 0 width count) 32)) := (Below.refl _ _).alloc (Nat.le_refl _) _
  have hF := Blk.new w 32 (fvals first 0 width count)
  have HB := Lib.hid hb
  have HF := Lib.hid hF
  unfold fvals at *
  clear hb hF
  go_enter Try.func29, Try.ntmps29
  go_wp2_with fail
  generalize w.alloc (.cells #[.int .i64 first, .int .i64 0, .int .i64 width, .int .i64 count] 32) = w1 at *
  have k1 : w1.cell? ⟨w.heap.size, 1, none⟩ = some (.int .i64 0) := HF.out.cell 1
  go_wp2_with fail
  go_ret
  exact ⟨rfl, HB.out⟩

set_option maxRecDepth 100000 in
set_option maxHeartbeats 4000000 in
theorem free_any (first blocks width count : Int) (hI : WkI w O K W) (hn : blocks ≠ 0) : Calls Try.prog 29 #[P K.wk, .agg (fvals first blocks width count)] w (GvTold w O K W first blocks) := by
  have hb : Below w.heap.size w (w.alloc (.cells (fvals first blocks width count) 32)) := (Below.refl _ _).alloc (Nat.le_refl _) _
  have hF := Blk.new w 32 (fvals first blocks width count)
  have HT : Hid (Turn K (fun _ => False) w _) := Lib.hid (Turn.below hb)
  have HI := Lib.hid (hI.below hb)
  have HF := Lib.hid hF
  have hnb : (blocks == 0) = false := by rw [beq_eq_false_iff_ne]; exact hn
  unfold fvals at *
  clear hb hF hI hn
  go_enter Try.func29, Try.ntmps29
  go_wp2_with fail
  generalize w.alloc (.cells #[.int .i64 first, .int .i64 blocks, .int .i64 width, .int .i64 count] 32) = w1 at *
  have k0 : w1.cell? ⟨w.heap.size, 0, none⟩ = some (.int .i64 first) := HF.out.cell 0
  have k1 : w1.cell? ⟨w.heap.size, 1, none⟩ = some (.int .i64 blocks) := HF.out.cell 1
  go_wp2_with fail
  have q0 : w1.drew.cell? ⟨w.heap.size, 0, none⟩ = some (.int .i64 first) := k0
  have q1 : w1.drew.cell? ⟨w.heap.size, 1, none⟩ = some (.int .i64 blocks) := k1
  have q2 : w1.drew.cell? ⟨K.wk, 2, none⟩ = some (P K.s) := HI.out.box.cell 2
  have HG := Lib.hid (give_w HI.out.drew first blocks)
  refine wp_reads_one 8 (by kernel_rfl) rfl (by kernel_rfl) (fun _ _ d _ _ h => by cases d <;> exact h) ?_; simp only [List.take_succ_cons, List.take_zero, List.drop_succ_cons, List.drop_zero]
  repeat (refine sg_step (fun K2 hK => ?_); go_simp; refine hK.out _ ?_; clear hK K2)
  refine sg_nil (fun K hK => ?_); go_simp
  refine HG.out.mono ?_
  rintro e w2 ⟨er, L', rfl, hg, hI2, ht2⟩
  have HI2 := Lib.hid hI2
  have HG2 := Lib.hid hg
  have HT2 := Lib.hid (HT.out.drew.trans ht2)
  clear hI2 hg ht2
  refine hK.out _ _ ?_; clear hK K
  repeat (refine sg_step (fun K2 hK => ?_); go_simp; refine hK.out _ ?_; clear hK K2)
  refine sg_nil ?_
  go_wp2_with fail
  go_ret
  exact ⟨er, L', rfl, HG2.out, HI2.out, HT2.out⟩
end

end Go.Proofs.Ytmmkncocgjgapaa.Fl

/- What a writer keeps, in plain words; the law of Put as a whole. -/
namespace Go.Proofs.Ytmmkncocgjgapaa.Fl
open Go.RowKit

/-- How many tuples of a width a block holds. -/
def hN (size width : Nat) : Nat := (size - 2) / width
theorem hN_eq {size width : Nat} (h8 : 8 ≤ size) (h1 : 1 ≤ width) (h5 : width ≤ 5) : holds size (width : Int) = (hN size width : Int) := by
  unfold holds hN
  rw [if_neg (by omega), show (size : Int) - 2 = ((size - 2 : Nat) : Int) from by omega]
  exact (Int.natCast_ediv _ _).symm
theorem hN_pos {size width : Nat} (h8 : 8 ≤ size) (h1 : 1 ≤ width) (h5 : width ≤ 5) : 1 ≤ hN size width := by
  unfold hN
  exact (Nat.le_div_iff_mul_le (by omega)).2 (by omega)
theorem hN_mul (size width : Nat) : hN size width * width ≤ size - 2 := Nat.div_mul_le_self _ _

/-- Whole blocks are written, the rest lies in the buffer. -/
structure Wr.Ok (size : Nat) (X : Wr) : Prop where
  part : ∃ k, k < hN size X.width ∧ X.n = k * X.width ∧ X.count = X.at_ * hN size X.width + k
  blocks : (X.blocks : Int) = blocksOf size X.width X.bound
  le : X.count ≤ X.bound

section
variable {size : Nat} {X : Wr} {t : Tup}
theorem Wr.Ok.room (h : X.Ok size) (h8 : 8 ≤ size) (h1 : 1 ≤ X.width) (h5 : X.width ≤ 5) : (X.n : Int) + X.width ≤ holds size X.width * X.width := by
  obtain ⟨k, hk, e, _⟩ := h.part
  rw [hN_eq h8 h1 h5, e]
  have : (k + 1) * X.width ≤ hN size X.width * X.width := Nat.mul_le_mul_right _ hk
  rw [Nat.add_mul, Nat.one_mul] at this
  exact_mod_cast this
theorem Wr.Ok.fits (h : X.Ok size) (h8 : 8 ≤ size) : X.n + 2 ≤ size := by
  obtain ⟨k, hk, e, _⟩ := h.part
  have h1 : k * X.width ≤ hN size X.width * X.width := Nat.mul_le_mul_right _ (Nat.le_of_lt hk)
  have h2 := hN_mul size X.width
  omega
theorem Wr.Ok.at_le (h : X.Ok size) : X.at_ ≤ X.count := by
  obtain ⟨k, hk, _, e⟩ := h.part
  have : X.at_ * 1 ≤ X.at_ * hN size X.width := Nat.mul_le_mul_left _ (by omega)
  omega
theorem Wr.Ok.new (b d first blocks wN bN : Nat) (h8 : 8 ≤ size) (h1 : 1 ≤ wN) (h5 : wN ≤ 5) (hb : (blocks : Int) = blocksOf size wN bN) : (fresh size first blocks wN bN b d).Ok size :=
  ⟨⟨0, hN_pos h8 h1 h5, by simp [fresh], by simp [fresh]⟩, hb, Nat.zero_le _⟩
theorem Wr.Ok.cap (h : X.Ok size) (h8 : 8 ≤ size) (h1 : 1 ≤ X.width) (h5 : X.width ≤ 5) : X.bound ≤ X.blocks * hN size X.width := by
  have hb := h.blocks
  have hp := hN_pos h8 h1 h5
  unfold blocksOf at hb
  rw [hN_eq h8 h1 h5] at hb
  have e : ((X.bound : Int) + (hN size X.width : Int) - 1) = ((X.bound + hN size X.width - 1 : Nat) : Int) := by omega
  rw [e, ← Int.natCast_ediv] at hb
  have hb' : X.blocks = (X.bound + hN size X.width - 1) / hN size X.width := by exact_mod_cast hb
  have h1 := Nat.div_add_mod (X.bound + hN size X.width - 1) (hN size X.width)
  have h2 := Nat.mod_lt (X.bound + hN size X.width - 1) (show 0 < hN size X.width by omega)
  rw [← hb', Nat.mul_comm] at h1
  omega
theorem Wr.Ok.last_at (h : X.Ok size) (h8 : 8 ≤ size) (h1 : 1 ≤ X.width) (h5 : X.width ≤ 5) (W : Wk) : (X.last W).1.at_ ≤ X.blocks := by
  obtain ⟨k, hk, e, hc⟩ := h.part
  have hcap := h.cap h8 h1 h5
  have hle := h.le
  unfold Wr.last
  split
  · show X.at_ ≤ X.blocks
    exact Nat.le_of_mul_le_mul_right (show X.at_ * hN size X.width ≤ X.blocks * hN size X.width by omega) (by omega)
  · rename_i hn
    show X.at_ + 1 ≤ X.blocks
    have hk0 : k ≠ 0 := fun e0 => hn (by rw [e, e0, Nat.zero_mul])
    exact Nat.lt_of_mul_lt_mul_right (show X.at_ * hN size X.width < X.blocks * hN size X.width by omega)
theorem Wr.Ok.div (h : X.Ok size) (h1 : 1 ≤ X.width) {k : Nat} (e : X.n = k * X.width) : ((X.n : Int) + X.width) / X.width = (k : Int) + 1 := by
  have e1 : ((X.n : Int) + X.width) = ((k : Int) + 1) * X.width := by rw [e, Int.add_mul, Int.one_mul, Int.natCast_mul]
  rw [e1]
  exact Int.mul_ediv_cancel _ (by omega)
theorem Wr.Ok.put (h : X.Ok size) (h8 : 8 ≤ size) (h1 : 1 ≤ X.width) (h5 : X.width ≤ 5) (hb : X.count ≠ X.bound) (hd : ((X.n : Int) + X.width) / X.width ≠ holds size X.width) : (X.put t).Ok size := by
  obtain ⟨k, hk, e, hc⟩ := h.part
  rw [h.div h1 e, hN_eq h8 h1 h5] at hd
  have hle := h.le
  refine ⟨⟨k + 1, ?_, ?_, ?_⟩, h.blocks, ?_⟩
  · show k + 1 < hN size X.width
    omega
  · show X.n + X.width = (k + 1) * X.width
    rw [e, Nat.add_mul, Nat.one_mul]
  · show X.count + 1 = X.at_ * hN size X.width + (k + 1)
    omega
  · show X.count + 1 ≤ X.bound
    omega
theorem Wr.Ok.flush (h : X.Ok size) (h8 : 8 ≤ size) (h1 : 1 ≤ X.width) (h5 : X.width ≤ 5) (hb : X.count ≠ X.bound) (hd : ((X.n : Int) + X.width) / X.width = holds size X.width) : Wr.Ok size { X.put t with n := 0, at_ := X.at_ + 1 } := by
  obtain ⟨k, hk, e, hc⟩ := h.part
  rw [h.div h1 e, hN_eq h8 h1 h5] at hd
  have hle := h.le
  refine ⟨⟨0, hN_pos h8 h1 h5, (Nat.zero_mul _).symm, ?_⟩, h.blocks, ?_⟩
  · show X.count + 1 = (X.at_ + 1) * hN size X.width + 0
    rw [Nat.add_mul]
    omega
  · show X.count + 1 ≤ X.bound
    omega
end


section
variable {w w' : World} {O : Nat → Prop} {K : Key} {W : Wk} {x : Nat} {X : Wr} {t : Tup}

/-- The writer behind a tuple that was put, and the device. -/
def Wr.next (X : Wr) (W : Wk) (t : Tup) : Wr × Dev.Dv :=
  if ((X.n : Int) + X.width) / X.width = holds W.D.size X.width then ({ X.put t with n := 0, at_ := X.at_ + 1 }, ((X.put t).wrote W).2) else (X.put t, W.D)
theorem next_same (X : Wr) (W : Wk) (t : Tup) : (X.next W t).1.first = X.first ∧ (X.next W t).1.blocks = X.blocks ∧ (X.next W t).1.width = X.width ∧ (X.next W t).1.bound = X.bound ∧ (X.next W t).1.count = X.count + 1 ∧ (X.next W t).1.buf = X.buf ∧ (X.next W t).1.arr = X.arr ∧ (X.next W t).1.ws = (X.put t).ws ∧ (X.next W t).1.closed = X.closed ∧ (X.next W t).2.size = W.D.size := by
  unfold Wr.next
  split
  · exact ⟨rfl, rfl, rfl, rfl, rfl, rfl, rfl, rfl, rfl, (Dev.wr_kin W.D _ _).size⟩
  · exact ⟨rfl, rfl, rfl, rfl, rfl, rfl, rfl, rfl, rfl, rfl⟩
theorem Wr.Ok.next {size : Nat} (h : X.Ok W.D.size) (h8 : 8 ≤ W.D.size) (h1 : 1 ≤ X.width) (h5 : X.width ≤ 5) (hb : X.count ≠ X.bound) : (X.next W t).1.Ok W.D.size := by
  unfold Wr.next
  split
  · rename_i hd
    exact h.flush h8 h1 h5 hb hd
  · rename_i hd
    exact h.put h8 h1 h5 hb hd

def PutYes (w : World) (O : Nat → Prop) (K : Key) (W : Wk) (x : Nat) (X : Wr) (t : Tup) (e : Ending) (w' : World) : Prop :=
  (((X.n : Int) + X.width) / X.width = holds W.D.size X.width → ((X.put t).wrote W).1 = 0) ∧ e = .returned (.int .i64 0) ∧
    WkI w' O K { W with D := (X.next W t).2 } ∧ WrAt w' O K { W with D := (X.next W t).2 } x (X.next W t).1 ∧ Turn K (Own x X) w w'
def PutNo (w : World) (O : Nat → Prop) (K : Key) (W : Wk) (x : Nat) (X : Wr) (t : Tup) (e : Ending) (w' : World) : Prop :=
  ((X.n : Int) + X.width) / X.width = holds W.D.size X.width ∧ ((X.put t).wrote W).1 ≠ 0 ∧ ∃ L', e = .returned (.int .i64 ((X.put t).wrote W).1) ∧ GaveRel W.L W.B X.first X.blocks L' ∧
    WkI w' O K { W with D := ((X.put t).wrote W).2, A := W.A.release X.buf W.D.size, L := L' } ∧ Blk w' x 117 (wcells K { X.put t with closed := true }) ∧ Turn K (Own x X) w w'
def PutAll (w : World) (O : Nat → Prop) (K : Key) (W : Wk) (x : Nat) (X : Wr) (t : Tup) (e : Ending) (w' : World) : Prop :=
  (Crc.zeroW (t.drop X.width) = false ∧ e = .returned (.int .i64 1) ∧ Below w.heap.size w w') ∨
  (Crc.zeroW (t.drop X.width) = true ∧ X.count = X.bound ∧ e = .returned (.int .i64 5) ∧ Below w.heap.size w w') ∨
  (Crc.zeroW (t.drop X.width) = true ∧ X.count ≠ X.bound ∧ (PutYes w O K W x X t e w' ∨ PutNo w O K W x X t e w'))

theorem put_live (t : Tup) (ht : t.length = 5) (hI : WkI w O K W) (h : WrAt w O K W x X) (hc : X.closed = false) (ho : X.Ok W.D.size) (hac : W.D.acts + 1 < 1099511627776) (hO : ∀ g, w.heap.size ≤ g → O g) :
    Calls Try.prog 23 #[P x, .agg (icells t).toArray] w (PutAll w O K W x X t) := by
  obtain ⟨s8, s256⟩ := hI.size
  obtain ⟨w1, w5⟩ := h.width
  have hB0 := h.live hc
  have hx1 : x ≠ X.buf := h.blk.ne_ hB0.blk (by decide)
  have hx2 : x ≠ X.arr := h.blk.ne_ hB0.row (by decide)
  cases hz : Crc.zeroW (t.drop X.width) with
  | false =>
    refine (put_misfit t ht hI h hc hz).mono ?_
    rintro e w' ⟨rfl, hb⟩
    exact .inl ⟨hz, rfl, hb⟩
  | true =>
    by_cases hb : X.count = X.bound
    · refine (put_full t ht h hc hz hb).mono ?_
      rintro e w' ⟨rfl, hbl⟩
      exact .inr (.inl ⟨hz, hb, rfl, hbl⟩)
    · have hle := ho.le
      have hbd := h.bound
      have hat := ho.at_le
      refine (put_any t ht hI h hc hz (ho.room s8 w1 w5) (by omega) (by omega) hac hO hb).mono ?_
      rintro e w' hp
      refine .inr (.inr ⟨hz, hb, ?_⟩)
      rcases hp with ⟨hd, rfl, hI', hX', hB', ht'⟩ | ⟨hd, wm, htm, hBm, hIm, hf⟩
      · refine .inl ⟨fun e => absurd e hd, rfl, ?_, ?_, ht'⟩
        · rw [Wr.next, if_neg hd]; exact hI'
        · rw [Wr.next, if_neg hd]
          exact ⟨hX', fun _ => hB', h.width, h.bound, h.lies⟩
      · rcases hf with ⟨h0, rfl, hI', hX', ht'⟩ | ⟨h0, L', rfl, hg, hI', hX', ht'⟩
        · have hB' := hBm.stay hIm ht' (fun e => hx1 e.symm) (fun e => hx2 e.symm)
          have hk : ((X.put t).wrote W).2.size = W.D.size := (Dev.wr_kin W.D _ _).size
          refine .inl ⟨fun _ => h0, rfl, ?_, ?_, htm.trans (ht'.mono (fun k e => .inl e))⟩
          · rw [Wr.next, if_pos hd]; exact hI'
          · rw [Wr.next, if_pos hd]
            refine ⟨hX', fun _ => ⟨?_, hB'.row, ?_, hB'.out, ?_⟩, h.width, h.bound, h.lies⟩
            · have := hB'.blk
              rw [← hk] at this
              exact this
            · exact hB'.len.trans hk.symm
            · have := hB'.st
              rw [← hk] at this
              exact this
        · exact .inr ⟨hd, h0, L', rfl, hg, hI', hX', htm.trans ht'⟩
end

end Go.Proofs.Ytmmkncocgjgapaa.Fl

/- Tuples put one behind another, in plain words; rows of tuples in memory. -/
namespace Go.Proofs.Ytmmkncocgjgapaa.Fl
open Go.RowKit

/-- The writer and the device behind tuples that were put. -/
def puts (W : Wk) (X : Wr) : List Tup → Wr × Dev.Dv
  | [] => (X, W.D)
  | t :: l => puts { W with D := (X.next W t).2 } (X.next W t).1 l
/-- Each of them fits, and each write went well. -/
def putsOk (W : Wk) (X : Wr) : List Tup → Prop
  | [] => True
  | t :: l => (Crc.zeroW (t.drop X.width) = true ∧ (((X.n : Int) + X.width) / X.width = holds W.D.size X.width → ((X.put t).wrote W).1 = 0)) ∧ putsOk { W with D := (X.next W t).2 } (X.next W t).1 l

theorem puts_snoc (W : Wk) (X : Wr) (l : List Tup) (t : Tup) : puts W X (l ++ [t]) = (puts W X l).1.next { W with D := (puts W X l).2 } t := by
  induction l generalizing W X with
  | nil => rfl
  | cons a l ih =>
    show puts _ _ (l ++ [t]) = _
    rw [ih]
    rfl
theorem putsOk_snoc (W : Wk) (X : Wr) (l : List Tup) (t : Tup) : putsOk W X (l ++ [t]) ↔ putsOk W X l ∧ putsOk { W with D := (puts W X l).2 } (puts W X l).1 [t] := by
  induction l generalizing W X with
  | nil => exact ⟨fun h => ⟨trivial, h⟩, fun h => h.2⟩
  | cons a l ih =>
    show _ ∧ putsOk _ _ (l ++ [t]) ↔ (_ ∧ _) ∧ _
    rw [ih]
    exact and_assoc.symm

structure PutsKin (W : Wk) (X : Wr) (n : Nat) (r : Wr × Dev.Dv) : Prop where
  first : r.1.first = X.first
  blocks : r.1.blocks = X.blocks
  width : r.1.width = X.width
  bound : r.1.bound = X.bound
  count : r.1.count = X.count + n
  buf : r.1.buf = X.buf
  arr : r.1.arr = X.arr
  closed : r.1.closed = X.closed
  size : r.2.size = W.D.size
  acts : r.2.acts ≤ W.D.acts + n
theorem next_acts (X : Wr) (W : Wk) (t : Tup) : (X.next W t).2.acts ≤ W.D.acts + 1 := by
  unfold Wr.next
  split
  · exact (Dev.wr_kin W.D _ _).acts
  · exact Nat.le_succ _
theorem puts_kin (W : Wk) (X : Wr) (l : List Tup) : PutsKin W X l.length (puts W X l) := by
  induction l generalizing W X with
  | nil => exact ⟨rfl, rfl, rfl, rfl, rfl, rfl, rfl, rfl, rfl, Nat.le_refl _⟩
  | cons t l ih =>
    have h := ih { W with D := (X.next W t).2 } (X.next W t).1
    obtain ⟨a1, a2, a3, a4, a5, a6, a7, a8, a9, a10⟩ := next_same X W t
    have ha := next_acts X W t
    have h10 : (puts { W with D := (X.next W t).2 } (X.next W t).1 l).2.acts ≤ (X.next W t).2.acts + l.length := h.acts
    exact ⟨h.first.trans a1, h.blocks.trans a2, h.width.trans a3, h.bound.trans a4, h.count.trans (by rw [a5, List.length_cons]; omega), h.buf.trans a6, h.arr.trans a7, h.closed.trans a9, h.size.trans a10, by rw [List.length_cons]; show (puts { W with D := (X.next W t).2 } (X.next W t).1 l).2.acts ≤ _; omega⟩
theorem puts_ok {W : Wk} {X : Wr} (l : List Tup) (h : X.Ok W.D.size) (h8 : 8 ≤ W.D.size) (h1 : 1 ≤ X.width) (h5 : X.width ≤ 5) (hb : X.count + l.length ≤ X.bound) : (puts W X l).1.Ok W.D.size := by
  induction l generalizing W X with
  | nil => exact h
  | cons t l ih =>
    obtain ⟨a1, a2, a3, a4, a5, a6, a7, a8, a9, a10⟩ := next_same X W t
    rw [List.length_cons] at hb
    have hn : (X.next W t).1.Ok W.D.size := Wr.Ok.next (size := W.D.size) h h8 h1 h5 (by omega)
    have hz : ({ W with D := (X.next W t).2 } : Wk).D.size = W.D.size := a10
    have := ih (W := { W with D := (X.next W t).2 }) (X := (X.next W t).1) (by rw [hz]; exact hn) (by rw [hz]; exact h8) (by rw [a3]; exact h1) (by rw [a3]; exact h5) (by rw [a5, a4]; omega)
    rw [hz] at this
    exact this

/-- A list of tuples as cells. -/
def flatT (l : List Tup) : List Value := (l.map icells).flatten
theorem flatT_cons (t : Tup) (l : List Tup) : flatT (t :: l) = icells t ++ flatT l := by simp [flatT]
theorem flatT_append (l m : List Tup) : flatT (l ++ m) = flatT l ++ flatT m := by simp [flatT]
theorem flatT_length (l : List Tup) (h : ∀ t ∈ l, t.length = 5) : (flatT l).length = l.length * 5 := by
  induction l with
  | nil => rfl
  | cons t l ih =>
    rw [flatT_cons, List.length_append, icells_length, h t (List.mem_cons_self ..), ih (fun u hu => h u (List.mem_cons_of_mem _ hu)), List.length_cons]
    omega
theorem flatT_get (l : List Tup) (h : ∀ t ∈ l, t.length = 5) (k j : Nat) (hk : k < l.length) (hj : j < 5) : (flatT l)[k * 5 + j]? = (icells l[k])[j]? := by
  induction l generalizing k with
  | nil => exact absurd hk (by simp)
  | cons t l ih =>
    have h5 : (icells t).length = 5 := by rw [icells_length]; exact h t (List.mem_cons_self ..)
    rw [flatT_cons]
    cases k with
    | zero =>
      rw [List.getElem?_append_left (by omega)]
      simp
    | succ k =>
      rw [List.getElem?_append_right (by omega), h5, show (k + 1) * 5 + j - 5 = k * 5 + j from by omega]
      exact ih (fun u hu => h u (List.mem_cons_of_mem _ hu)) k (by simpa using hk)

/-- Tuples at an address. -/
def TpsAt (w : World) (a : Option Addr) (l : List Tup) : Prop := ∀ k j (hk : k < l.length), j < 5 → ∃ g, a = some ⟨g, 0, none⟩ ∧ w.cell? ⟨g, k * 5 + j, none⟩ = (icells l[k])[j]?
theorem TpsAt.nil (w : World) (a : Option Addr) : TpsAt w a [] := fun k j hk => absurd hk (by simp)
theorem TpsAt.of_blk {w : World} {g : Nat} {l : List Tup} {rest : List Value} (h : Blk w g 45 (flatT l ++ rest).toArray) (h5 : ∀ t ∈ l, t.length = 5) : TpsAt w (some ⟨g, 0, none⟩) l := by
  intro k j hk hj
  refine ⟨g, rfl, ?_⟩
  have hl := flatT_length l h5
  rw [h.cell, List.getElem?_toArray, List.getElem?_append_left (by omega)]
  exact flatT_get l h5 k j hk hj

end Go.Proofs.Ytmmkncocgjgapaa.Fl
