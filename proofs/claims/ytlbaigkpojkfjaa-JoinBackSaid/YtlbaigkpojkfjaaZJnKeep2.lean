/- join.Keep as a whole. -/
import Derived.Test.YtlbaigkpojkfjaaZJnKeep
set_option linter.unusedVariables false
namespace Go.Proofs.Ytlbaigkpojkfjaa.Fl
open Go.RowKit

section
variable {w w' : World} {O : Nat → Prop} {K : Key} {W : Wk}

/-- Is a tuple kept? -/
def keepB (col : Nat) (lo hi : Int) (t : Tup) : Bool := decide (lo ≤ (t.getD col 0).toInt) && decide ((t.getD col 0).toInt ≤ hi)
/-- The keeper as a maker. -/
theorem keep_maker {col : Nat} {lo hi : Int} {l : List Tup} (hat : col < 5) (h5 : ∀ t ∈ l, t.length = 5) :
    Maker 42 (.agg #[.int .i64 (col : Int), .int .i64 lo, .int .i64 hi]) K (fun _ => False) (fun _ _ => True) l (fun k => l.getD k []) (fun k => keepB col lo hi (l.getD k [])) where
  call := by
    intro k hk w O W hI _
    have h5k : l[k].length = 5 := h5 _ (List.getElem_mem hk)
    have hg : l.getD k [] = l[k] := by simp [hk]
    simp only [hg]
    obtain ⟨a, b, c', d, e, hl⟩ : ∃ a b c d e : BitVec 64, l[k] = [a, b, c, d, e] := by
      match l[k], h5k with
      | [a, b, c, d, e], _ => exact ⟨_, _, _, _, _, rfl⟩
    rw [hl]
    have hv : (#[.int .i64 a.toInt, .int .i64 b.toInt, .int .i64 c'.toInt, .int .i64 d.toInt, .int .i64 e.toInt] : Array Value)[col]? = some (.int .i64 (([a, b, c', d, e] : Tup).getD col 0).toInt) := by
      obtain rfl | rfl | rfl | rfl | rfl : col = 0 ∨ col = 1 ∨ col = 2 ∨ col = 3 ∨ col = 4 := by omega
      all_goals rfl
    refine (keep_one (w := w) (lo := lo) (hi := hi) hat hv rfl).mono ?_
    rintro e w' ⟨rfl, hb⟩
    exact ⟨rfl, hI.below hb, trivial, Turn.below hb⟩
  stay := fun _ _ _ _ _ _ _ _ _ _ => trivial
  five := by
    intro k hk
    have hg : l.getD k [] = l[k] := by simp [hk]
    show (l.getD k []).length = 5
    rw [hg]
    exact h5 _ (List.getElem_mem hk)
  enter := fun args w => rfl

set_option maxRecDepth 100000 in
set_option maxHeartbeats 1000000 in
theorem column_any (first blocks width count k : Int) (w : World) : Calls Try.prog 41 #[.agg #[.int .i64 first, .int .i64 blocks, .int .i64 width, .int .i64 count], .int .i64 k] w (fun e w' => e = .returned (.bool (decide (0 ≤ k ∧ k < width ∧ k < 5))) ∧ Below w.heap.size w w') := by
  have hF := Blk.new w 29 #[.int .i64 first, .int .i64 blocks, .int .i64 width, .int .i64 count]
  have hbl : Below w.heap.size w (w.alloc (.cells #[.int .i64 first, .int .i64 blocks, .int .i64 width, .int .i64 count] 29)) := (Below.refl _ _).alloc (Nat.le_refl _) _
  have HB := Lib.hid hbl
  have HF := Lib.hid hF
  clear hbl hF
  by_cases h1 : 0 ≤ k
  · by_cases h2 : k < width
    · go_enter Try.func41, Try.ntmps41
      go_wp2_with fail
      generalize w.alloc (.cells #[.int .i64 first, .int .i64 blocks, .int .i64 width, .int .i64 count] 29) = w1 at *
      have c2 : w1.cell? ⟨w.heap.size, 2, none⟩ = some (.int .i64 width) := HF.out.cell 2
      go_ret
      exact ⟨by first | (simp [h1, h2]; done) | (simp; omega), HB.out⟩
    · go_enter Try.func41, Try.ntmps41
      go_wp2_with fail
      generalize w.alloc (.cells #[.int .i64 first, .int .i64 blocks, .int .i64 width, .int .i64 count] 29) = w1 at *
      have c2 : w1.cell? ⟨w.heap.size, 2, none⟩ = some (.int .i64 width) := HF.out.cell 2
      go_wp2_with fail
      go_ret
      exact ⟨by first | (simp [h1, h2]; done) | (simp; omega), HB.out⟩
  · go_enter Try.func41, Try.ntmps41
    go_wp2_with fail
    generalize w.alloc (.cells #[.int .i64 first, .int .i64 blocks, .int .i64 width, .int .i64 count] 29) = w1 at *
    have c2 : w1.cell? ⟨w.heap.size, 2, none⟩ = some (.int .i64 width) := HF.out.cell 2
    go_wp2_with fail
    go_ret
    exact ⟨by first | (simp [h1]; done) | (simp; omega), HB.out⟩

set_option maxRecDepth 100000 in
set_option maxHeartbeats 2000000 in
theorem keep_arg {first blocks width count col lo hi : Int} {rv : Value} (hw : ¬ (0 ≤ col ∧ col < width ∧ col < 5)) : Calls Try.prog 18 #[rv, .agg #[.int .i64 first, .int .i64 blocks, .int .i64 width, .int .i64 count], .int .i64 col, .int .i64 lo, .int .i64 hi] w (fun e w' => e = .returned (.tuple #[.agg noFile, .int .i64 1]) ∧ Below w.heap.size w w') := by
  have hZ := Blk.new (w.alloc (.cells #[.int .i64 first, .int .i64 blocks, .int .i64 width, .int .i64 count] 29)) 29 noFile
  rw [show (w.alloc (.cells #[.int .i64 first, .int .i64 blocks, .int .i64 width, .int .i64 count] 29)).heap.size = w.heap.size + 1 from by simp] at hZ
  have hF := (Blk.new w 29 #[.int .i64 first, .int .i64 blocks, .int .i64 width, .int .i64 count]).alloc (.cells noFile 29)
  have hbl : Below w.heap.size w ((w.alloc (.cells #[.int .i64 first, .int .i64 blocks, .int .i64 width, .int .i64 count] 29)).alloc (.cells noFile 29)) := ((Below.refl _ _).alloc (Nat.le_refl _) _).alloc (by simp) _
  have HC := Lib.hid (column_any first blocks width count col)
  rw [show decide (0 ≤ col ∧ col < width ∧ col < 5) = false from by simpa using hw] at HC
  have HZ := Lib.hid hZ
  have HF := Lib.hid hF
  have HBL := Lib.hid hbl
  unfold noFile at *
  clear hZ hbl hF hw
  go_enter Try.func18, Try.ntmps18
  go_wp2_with fail
  generalize ((w.alloc (.cells #[.int .i64 first, .int .i64 blocks, .int .i64 width, .int .i64 count] 29)).alloc (.cells #[.int .i64 0, .int .i64 0, .int .i64 0, .int .i64 0] 29)) = w9 at *
  have k0 : w9.cell? ⟨w.heap.size, 0, none⟩ = some (.int .i64 first) := HF.out.cell 0
  have k1 : w9.cell? ⟨w.heap.size, 1, none⟩ = some (.int .i64 blocks) := HF.out.cell 1
  have k2 : w9.cell? ⟨w.heap.size, 2, none⟩ = some (.int .i64 width) := HF.out.cell 2
  have k3 : w9.cell? ⟨w.heap.size, 3, none⟩ = some (.int .i64 count) := HF.out.cell 3
  go_wp2_with fail
  refine (HC.out w9).mono ?_
  rintro e w2 ⟨rfl, hb2⟩
  have hR2 := HZ.out.below hb2 HZ.out.lt
  have HB2 := Lib.hid (HBL.out.trans (hb2.mono HBL.out.size))
  have p0 : w2.cell? ⟨w.heap.size + 1, 0, none⟩ = some (.int .i64 0) := hR2.cell 0
  have p1 : w2.cell? ⟨w.heap.size + 1, 1, none⟩ = some (.int .i64 0) := hR2.cell 1
  have p2 : w2.cell? ⟨w.heap.size + 1, 2, none⟩ = some (.int .i64 0) := hR2.cell 2
  have p3 : w2.cell? ⟨w.heap.size + 1, 3, none⟩ = some (.int .i64 0) := hR2.cell 3
  have g0 := hR2.frozen 0
  have g1 := hR2.frozen 1
  have g2 := hR2.frozen 2
  have g3 := hR2.frozen 3
  have HR3 := Lib.hid ((((hR2.set_ 0 (.int .i64 0)).set_ 1 (.int .i64 0)).set_ 2 (.int .i64 0)).set_ 3 (.int .i64 0))
  have HB3 := Lib.hid ((((HB2.out.setCell (p := ⟨w.heap.size + 1, 0, none⟩) (by simp) (.int .i64 0)).setCell (p := ⟨w.heap.size + 1, 1, none⟩) (by simp) (.int .i64 0)).setCell (p := ⟨w.heap.size + 1, 2, none⟩) (by simp) (.int .i64 0)).setCell (p := ⟨w.heap.size + 1, 3, none⟩) (by simp) (.int .i64 0))
  clear hR2 hb2
  go_wp2_with fail
  generalize ((((w2.setCell ⟨w.heap.size + 1, 0, none⟩ (.int .i64 0)).setCell ⟨w.heap.size + 1, 1, none⟩ (.int .i64 0)).setCell ⟨w.heap.size + 1, 2, none⟩ (.int .i64 0)).setCell ⟨w.heap.size + 1, 3, none⟩ (.int .i64 0)) = w3 at *
  have s0 : w3.cell? ⟨w.heap.size + 1, 0, none⟩ = some (.int .i64 0) := HR3.out.cell 0
  have s1 : w3.cell? ⟨w.heap.size + 1, 1, none⟩ = some (.int .i64 0) := HR3.out.cell 1
  have s2 : w3.cell? ⟨w.heap.size + 1, 2, none⟩ = some (.int .i64 0) := HR3.out.cell 2
  have s3 : w3.cell? ⟨w.heap.size + 1, 3, none⟩ = some (.int .i64 0) := HR3.out.cell 3
  refine bodyPost_ret (v := .tuple #[.agg #[.int .i64 0, .int .i64 0, .int .i64 0, .int .i64 0], .int .i64 1]) (by simp [results, Try.results18, go_sem, s0, s1, s2, s3]; try rfl) rfl ?_
  exact ⟨rfl, HB3.out⟩


set_option maxRecDepth 100000 in
set_option maxHeartbeats 2000000 in
theorem keep_go {first blocks width count col lo hi : Int} {rv : Value} {wM bound : Nat} {out : List Tup} {Why : Int → Prop} (hI : WkI w O K W) (hw : 0 ≤ col ∧ col < width ∧ col < 5)
    (hE : ∀ w1, Below w.heap.size w w1 → Calls Try.prog 32 #[rv, .agg #[.int .i64 first, .int .i64 blocks, .int .i64 width, .int .i64 count], .int .i64 width, .func (.func 42) #[.agg #[.int .i64 col, .int .i64 lo, .int .i64 hi]] #[]] w1 (EachC w1 O K W (fun _ => False) wM bound out JE0 0 Why)) : Calls Try.prog 18 #[rv, .agg #[.int .i64 first, .int .i64 blocks, .int .i64 width, .int .i64 count], .int .i64 col, .int .i64 lo, .int .i64 hi] w (EachC w O K W (fun _ => False) wM bound out JE0 0 Why) := by
  have hZ := Blk.new (w.alloc (.cells #[.int .i64 first, .int .i64 blocks, .int .i64 width, .int .i64 count] 29)) 29 noFile
  rw [show (w.alloc (.cells #[.int .i64 first, .int .i64 blocks, .int .i64 width, .int .i64 count] 29)).heap.size = w.heap.size + 1 from by simp] at hZ
  have hF := (Blk.new w 29 #[.int .i64 first, .int .i64 blocks, .int .i64 width, .int .i64 count]).alloc (.cells noFile 29)
  have hbl : Below w.heap.size w ((w.alloc (.cells #[.int .i64 first, .int .i64 blocks, .int .i64 width, .int .i64 count] 29)).alloc (.cells noFile 29)) := ((Below.refl _ _).alloc (Nat.le_refl _) _).alloc (by simp) _
  have HC := Lib.hid (column_any first blocks width count col)
  rw [show decide (0 ≤ col ∧ col < width ∧ col < 5) = true from by simpa using hw] at HC
  have HZ := Lib.hid hZ
  have HF := Lib.hid hF
  have HBL := Lib.hid hbl
  have HE := Lib.hid hE
  have HI := Lib.hid hI
  unfold noFile at *
  clear hZ hbl hF hw hE hI
  go_enter Try.func18, Try.ntmps18
  go_wp2_with fail
  generalize ((w.alloc (.cells #[.int .i64 first, .int .i64 blocks, .int .i64 width, .int .i64 count] 29)).alloc (.cells #[.int .i64 0, .int .i64 0, .int .i64 0, .int .i64 0] 29)) = w9 at *
  have k0 : w9.cell? ⟨w.heap.size, 0, none⟩ = some (.int .i64 first) := HF.out.cell 0
  have k1 : w9.cell? ⟨w.heap.size, 1, none⟩ = some (.int .i64 blocks) := HF.out.cell 1
  have k2 : w9.cell? ⟨w.heap.size, 2, none⟩ = some (.int .i64 width) := HF.out.cell 2
  have k3 : w9.cell? ⟨w.heap.size, 3, none⟩ = some (.int .i64 count) := HF.out.cell 3
  go_wp2_with fail
  refine (HC.out w9).mono ?_
  rintro e w1 ⟨rfl, hb1⟩
  have HZ1 := Lib.hid (HZ.out.below hb1 HZ.out.lt)
  have HB1 := Lib.hid (HBL.out.trans (hb1.mono HBL.out.size))
  have hF1 := HF.out.below hb1 HF.out.lt
  have k0' : w1.cell? ⟨w.heap.size, 0, none⟩ = some (.int .i64 first) := hF1.cell 0
  have k1' : w1.cell? ⟨w.heap.size, 1, none⟩ = some (.int .i64 blocks) := hF1.cell 1
  have k2' : w1.cell? ⟨w.heap.size, 2, none⟩ = some (.int .i64 width) := hF1.cell 2
  have k3' : w1.cell? ⟨w.heap.size, 3, none⟩ = some (.int .i64 count) := hF1.cell 3
  clear hF1 hb1 k0 k1 k2 k3 HC
  go_wp2_with fail
  refine (HE.out w1 HB1.out).mono ?_
  rintro e w2 hh
  obtain ⟨a, b, c, d, er, rfl, hR2, hR3, hEC⟩ := each_pass (stays0 K _) (HI.out.below HB1.out) HZ1.out (by omega) (fun q hq => hq.elim) (fun h => h) HB1.out hh
  have HR3 := Lib.hid hR3
  have HEC := Lib.hid hEC
  have g0 := hR2.frozen 0
  have g1 := hR2.frozen 1
  have g2 := hR2.frozen 2
  have g3 := hR2.frozen 3
  have p0 : w2.cell? ⟨w.heap.size + 1, 0, none⟩ = some (.int .i64 0) := hR2.cell 0
  have p1 : w2.cell? ⟨w.heap.size + 1, 1, none⟩ = some (.int .i64 0) := hR2.cell 1
  have p2 : w2.cell? ⟨w.heap.size + 1, 2, none⟩ = some (.int .i64 0) := hR2.cell 2
  have p3 : w2.cell? ⟨w.heap.size + 1, 3, none⟩ = some (.int .i64 0) := hR2.cell 3
  unfold four at HR3 HEC
  clear hh hR2 hR3 hEC
  go_wp2_with fail
  generalize ((((w2.setCell ⟨w.heap.size + 1, 0, none⟩ (.int .i64 a)).setCell ⟨w.heap.size + 1, 1, none⟩ (.int .i64 b)).setCell ⟨w.heap.size + 1, 2, none⟩ (.int .i64 c)).setCell ⟨w.heap.size + 1, 3, none⟩ (.int .i64 d)) = w3 at *
  have s0 : w3.cell? ⟨w.heap.size + 1, 0, none⟩ = some (.int .i64 a) := HR3.out.cell 0
  have s1 : w3.cell? ⟨w.heap.size + 1, 1, none⟩ = some (.int .i64 b) := HR3.out.cell 1
  have s2 : w3.cell? ⟨w.heap.size + 1, 2, none⟩ = some (.int .i64 c) := HR3.out.cell 2
  have s3 : w3.cell? ⟨w.heap.size + 1, 3, none⟩ = some (.int .i64 d) := HR3.out.cell 3
  refine bodyPost_ret (v := .tuple #[.agg #[.int .i64 a, .int .i64 b, .int .i64 c, .int .i64 d], .int .i64 er]) (by simp [results, Try.results18, go_sem, s0, s1, s2, s3]; try rfl) rfl ?_
  exact HEC.out

theorem keep_c {first wN c0 a0 col : Nat} {l : List Tup} (lo hi : Int) (hI : WkI w O K W) (hF : Fine W c0 a0) (hH : Held W first wN l) (hcol : col < wN) (hc : c0 + 200 ≤ 5000) (ha : a0 ≤ 400000000000) (hO : ∀ g, w.heap.size ≤ g → O g) :
    Calls Try.prog 18 #[P K.wk, .agg #[.int .i64 (first : Int), .int .i64 (nB 12 wN l.length : Int), .int .i64 (wN : Int), .int .i64 (l.length : Int)], .int .i64 (col : Int), .int .i64 lo, .int .i64 hi] w (EachF w O K W c0 a0 wN (l.filter (keepB col lo hi)) JE0 0 (fun _ => False)) := by
  obtain ⟨n1, n5⟩ := hH.wid
  have hfew := hH.few
  have hmd : made (fun k => l.getD k []) (fun k => keepB col lo hi (l.getD k [])) l.length = l.filter (keepB col lo hi) := by
    unfold made
    have h1 : (List.range l.length).map (fun k => l.getD k []) = l := by
      refine List.ext_getElem (by simp) (fun i h1 h2 => by simp [h2])
    conv => rhs; rw [← h1]
    rw [List.filter_map]
    rfl
  have hfit : ∀ k, k < l.length → FitsW wN [l.getD k []] := fun k hk t ht => by
    rw [List.mem_singleton.1 ht]
    have hg : l.getD k [] = l[k] := by simp [hk]
    rw [hg]
    exact hH.fits _ (List.getElem_mem hk)
  refine (keep_go (wM := wN) (bound := l.length) (out := l.filter (keepB col lo hi)) (Why := fun _ => False) hI ⟨by omega, by omega, by omega⟩ (fun w1 hb => ?_)).mono ?_
  · have hm : Rich 42 (.agg #[.int .i64 (col : Int), .int .i64 lo, .int .i64 hi]) K W.L (fun _ => False) 0 (fun k m w _ _ => m = 0 ∧ True) JE0 (fun _ => False) l (fun k => l.getD k []) (fun k => keepB col lo hi (l.getD k [])) := (keep_maker (by omega) (fun t ht => (hH.fits t ht).1)).rich W.L
    have hgo := each_any hm first wN wN (hI.below hb) hF.sure (by rw [hF.B, hF.blocks]; exact Nat.le_refl _) n1 n5 n1 n5 (by omega) hH.fits (by rw [hF.size]; exact hH.lies) (.inr (by rw [hF.size, hF.blocks]; exact hH.fit)) (by have := hH.fit; omega) (fun j hj => hH.held j (by rw [hF.size] at hj; exact hj)) (by rw [hF.size, hF.used, hF.room]; omega) (Nat.zero_le _) (by have := hF.acts; omega) (fun g hg => hO g (by have := hb.size; omega)) ⟨rfl, trivial⟩ (fun g hg => hg.elim) (fun k hk _ => hfit k hk)
    rw [hF.size, hmd] at hgo
    exact hgo
  · rintro e w' h
    refine fine_each hF hI.inv h n1 n5 hfew (List.length_filter_le _ _) ?_ hc
    have := made_fits (wM := wN) (mk := fun k => l.getD k []) (kp := fun k => keepB col lo hi (l.getD k [])) (n := l.length) (fun k hk _ => hfit k hk)
    rw [hmd] at this
    exact this
end

end Go.Proofs.Ytlbaigkpojkfjaa.Fl
