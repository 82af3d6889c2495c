/- The law JoinBack. -/
import Derived.Test.YtlbaigkpojkfjaaZJnBackP
set_option linter.unusedVariables false
namespace Go.Proofs.Ytlbaigkpojkfjaa.Fl
open Go.RowKit

section
variable {w w' : World} {O : Nat → Prop} {K : Key} {W : Wk}
theorem each_good {c a wM : Nat} {out : List Tup} {Why : Int → Prop} {e : Ending} (hfa : W.D.fault = -1) (hW : ∀ er, ¬ Why er) (h : EachF w O K W c a wM out JE0 0 Why e w') :
    ∃ first W' O', e = .returned (.tuple #[.agg (fcells first (nB 12 wM out.length) wM out.length), .int .i64 0]) ∧ Okin w w' O O' ∧ WkI w' O' K W' ∧ Turn K (fun _ => False) w w' ∧ Fine W' (c + 200) (a + 2000000) ∧ W'.D.fault = -1 ∧ Held W' first wM out ∧ After W W' (nB 12 wM out.length) := by
  obtain ⟨W', O', ho, hI, ht, hh⟩ := h
  rcases hh with ⟨first, rfl, hfi, hhe, haf⟩ | ⟨er, her, hwhy, rfl, _, _⟩
  · exact ⟨first, W', O', rfl, ho, hI, ht, hfi, haf.fault hfa, hhe, haf⟩
  · rcases hwhy with ⟨_, h⟩ | h
    · exact absurd hfa h
    · exact absurd h (hW er)
theorem cut_good {first wN c0 a0 n : Nat} {l : List Tup} {o0 o1 o2 o3 o4 : Int} (hI : WkI w O K W) (hF : Fine W c0 a0) (hH : Held W first wN l) (hb : ∀ k ∈ [o0, o1, o2, o3, o4], -9223372036854775808 ≤ k ∧ k < 9223372036854775808) (hc : c0 + 200 ≤ 5000) (ha : a0 ≤ 400000000000) (hO : ∀ g, w.heap.size ≤ g → O g) (hn : cutN wN [o0, o1, o2, o3, o4] = some n) (hpos : 0 < n) (hfo : formedO [o0, o1, o2, o3, o4] = true) :
    Calls Try.prog 21 #[P K.wk, .agg #[.int .i64 (first : Int), .int .i64 (nB 12 wN l.length : Int), .int .i64 (wN : Int), .int .i64 (l.length : Int)], .agg #[.int .i64 o0, .int .i64 o1, .int .i64 o2, .int .i64 o3, .int .i64 o4]] w (EachF w O K W c0 a0 n (l.map (cutT [o0, o1, o2, o3, o4])) JE0 0 (fun _ => False)) := by
  refine (cut_c hI hF hH hb hc ha hO).mono ?_
  rintro e w' (⟨h, _⟩ | ⟨n2, h2, _, _, h⟩)
  · exfalso
    rcases h with h | h | h
    · rw [hn] at h; cases h
    · rw [hfo] at h; cases h
    · rw [hn] at h; injection h with h; omega
  · rw [hn] at h2
    injection h2 with h2
    rw [← h2] at h
    exact h
end

/-- The orders' cells behind i rounds. -/
def oCells (i : Nat) : Array Value := #[.int .i64 (if 1 ≤ i then 1 else 0), .int .i64 (if 2 ≤ i then 2 else 0), .int .i64 (if 3 ≤ i then 3 else 0), .int .i64 0, .int .i64 0]
def pCells (i : Nat) : Array Value := #[.int .i64 0, .int .i64 (if 1 ≤ i then 1 else 0), .int .i64 (if 2 ≤ i then 2 else 0), .int .i64 (if 3 ≤ i then 3 else 0), .int .i64 0]
theorem JS.cell {w w1 : World} {O : Nat → Prop} {K : Key} {W : Wk} (h : JS w1 w K O W) {g : Nat} {t : TypeId} {cs : Array Value} (hb : Blk w g t cs) (hg : w1.heap.size ≤ g) (ht : t ≠ 97 ∧ t ≠ 101 ∧ t ≠ 104 ∧ t ≠ 128 ∧ t ≠ 109 ∧ t ≠ 157 ∧ t ≠ 106 ∧ t ≠ 125) (i : Nat) (u : Value) : JS w1 (w.setCell ⟨g, i, none⟩ u) K O W :=
  ⟨(aside_store h.wk hb i u ht).1, fun q hq => h.out q (by have := (aside_store h.wk hb i u ht).2.2.size; omega), h.bel.setCell hg u⟩
structure BkLoop (w1 w9 wr : World) (K : Key) (O : Nat → Prop) (W : Wk) (fp xp ob pb : Nat) (fcs xcs : Array Value) (i : Nat) : Prop where
  js : JS w1 wr K O W
  f : Blk wr fp 29 fcs
  x : Blk wr xp 29 xcs
  o : Blk wr ob 48 (oCells i)
  p : Blk wr pb 48 (pCells i)

set_option maxRecDepth 100000 in
set_option maxHeartbeats 8000000 in
theorem JoinBack_walk {w : World} (xa : Nat) (hxa : xa < 256) (aA : Option Addr) (cA : Nat) (la : List Tup) (hTA : ∀ K : Key, w.heap.size ≤ K.base → Tps K w aA la) (ha5 : ∀ t ∈ la, t.length = 5) (hma : la.length ≤ maxLen) :
    Calls Try.prog 7 #[.agg #[.int .u8 (xa : Int), .slice aA la.length cA]] w (fun e w' => e = .returned (.bool true) ∧ Below w.heap.size w w') := by
  obtain ⟨aN, haN⟩ : ∃ aN, aN = 1 + xa % 5 := ⟨_, rfl⟩
  have hbl : Below w.heap.size w (w.alloc (.cells #[.int .u8 (xa : Int), .slice aA la.length cA] 24)) := (Below.refl _ _).alloc (Nat.le_refl _) _
  have hA := Blk.new w 24 #[.int .u8 (xa : Int), .slice aA la.length cA]
  have HB := Lib.hid hbl
  have HA1 := Lib.hid hA
  have HXA := Lib.hid (And.intro haN hxa)
  have HTA := Lib.hid hTA
  have HA5 := Lib.hid ha5
  clear hbl hA haN hxa hTA ha5
  go_enter Try.func7, Try.ntmps7
  go_upto_region 1 with (fail)
  generalize (w.alloc (.cells #[.int .u8 (xa : Int), .slice aA la.length cA] 24)) = w1 at *
  have hz0 : w.heap.size < w1.heap.size := HA1.out.lt
  go_wp2_with fail
  refine (work13_ok w1).mono ?_
  rintro e w2 ⟨K, rfl, hI2, hK, hb2⟩
  have HK := Lib.hid hK
  have HS2 := Lib.hid (show JS w1 w2 K (O0 K) (wk0 12 5000 60) from ⟨hI2, fun g hg => by unfold O0; have := hb2.size; rw [hK]; omega, hb2⟩)
  have HPA := Lib.hid ((HTA.out K (by omega)).below HB.out)
  clear hI2 hK hb2 HTA
  go_wp2_with fail
  refine (awake13_any w2).mono ?_
  rintro e w3 ⟨rfl, hb3⟩
  have HS3 := Lib.hid (HS2.out.below hb3)
  have hA3 := HA1.out.below HS3.out.bel HA1.out.lt
  have a0 : w3.cell? ⟨w.heap.size, 0, none⟩ = some (.int .u8 (xa : Int)) := hA3.cell 0
  have a1 : w3.cell? ⟨w.heap.size, 1, none⟩ = some (.slice aA la.length cA) := hA3.cell 1
  clear hb3 HS2 hA3
  by_cases hno : 200 < la.length ∨ allB aN la = false
  · have HL := Lib.hid (lay13_no xa aN K.wk la aA cA w3 HXA.out.1 HXA.out.2 (HPA.out.below HS3.out.bel) HA5.out hno)
    clear hno
    go_wp2_with fail
    refine HL.out.mono ?_
    rintro e w4 ⟨rfl, hb4⟩
    unfold noFile
    have HS4 := Lib.hid ((HS3.out.below hb4).alloc (.cells #[.int .i64 0, .int .i64 0, .int .i64 0, .int .i64 0] 29))
    clear hb4 HL HS3 a0 a1
    go_wp2_with fail
    go_ret
    exact ⟨rfl, HB.out.trans (HS4.out.bel.mono (Nat.le_of_lt hz0))⟩
  have hle : la.length ≤ 200 := by omega
  have hall : allB aN la = true := by
    cases h : allB aN la with
    | true => rfl
    | false => exact absurd (.inr h) hno
  have HL := Lib.hid (lay13_yes xa aN la aA cA w3 HXA.out.1 HXA.out.2 HS3.out.wk fine0 rfl HS3.out.out (by omega) (by omega) (HPA.out.below HS3.out.bel) HA5.out hle hall)
  clear hno hall
  go_wp2_with fail
  refine HL.out.mono ?_
  rintro e w4 ⟨fa, W4, O4, rfl, ho4, hI4, ht4, f4, hfa4, hh4, af4⟩
  unfold fcells
  have HS5 := Lib.hid ((HS3.out.turn HK.out ht4 hI4 ho4.1).alloc (.cells #[.int .i64 (fa : Int), .int .i64 (nB 12 aN la.length : Int), .int .i64 (aN : Int), .int .i64 (la.length : Int)] 29))
  have Hf5 := Lib.hid (Blk.new w4 29 #[.int .i64 (fa : Int), .int .i64 (nB 12 aN la.length : Int), .int .i64 (aN : Int), .int .i64 (la.length : Int)])
  have hfp : w1.heap.size ≤ w4.heap.size := (HS3.out.turn HK.out ht4 hI4 ho4.1).bel.size
  have HP5 := Lib.hid (And.intro f4 (And.intro hfa4 (And.intro hh4 (show Sp.sumX W4.L + nB 12 aN la.length = 5000 by have h1 := af4.sum; rw [sum0] at h1; omega))))
  clear ho4 hI4 ht4 f4 hfa4 hh4 af4 HL HS3 a0 a1
  go_upto_region 5 with (fail)
  generalize hfpe : w4.heap.size = fp at *
  generalize w4.alloc (.cells #[.int .i64 (fa : Int), .int .i64 (nB 12 aN la.length : Int), .int .i64 (aN : Int), .int .i64 (la.length : Int)] 29) = w5 at *
  have hA5b := HA1.out.below HS5.out.bel HA1.out.lt
  have a0 : w5.cell? ⟨w.heap.size, 0, none⟩ = some (.int .u8 (xa : Int)) := hA5b.cell 0
  have a1 : w5.cell? ⟨w.heap.size, 1, none⟩ = some (.slice aA la.length cA) := hA5b.cell 1
  have HWI := Lib.hid (width13_any xa aN (.slice aA la.length cA) w5 HXA.out.1 HXA.out.2)
  clear hA5b
  by_cases hbig : 3 < aN
  · have hbig2 : (3 : Int) < (aN : Int) := by omega
    clear hbig
    go_wp2_with fail
    refine HWI.out.mono ?_
    rintro e w6 ⟨rfl, hb6⟩
    have HS6 := Lib.hid (HS5.out.below hb6)
    clear hb6 HWI
    go_wp2_with fail
    go_ret
    exact ⟨rfl, HB.out.trans (HS6.out.bel.mono (Nat.le_of_lt hz0))⟩
  have hn3 : aN ≤ 3 := by omega
  have hbig2 : ¬ (3 : Int) < (aN : Int) := by omega
  have hn1 : 1 ≤ aN := by have := HXA.out.1; omega
  clear hbig
  go_wp2_with fail
  refine HWI.out.mono ?_
  rintro e w6 ⟨rfl, hb6⟩
  have HS6 := Lib.hid (HS5.out.below hb6)
  have Hf6 := Lib.hid (Hf5.out.below hb6 Hf5.out.lt)
  clear hb6 HWI HS5 Hf5 a0 a1
  have hA6b := HA1.out.below HS6.out.bel HA1.out.lt
  have a0 : w6.cell? ⟨w.heap.size, 0, none⟩ = some (.int .u8 (xa : Int)) := hA6b.cell 0
  have a1 : w6.cell? ⟨w.heap.size, 1, none⟩ = some (.slice aA la.length cA) := hA6b.cell 1
  have HWI := Lib.hid (width13_any xa aN (.slice aA la.length cA) w6 HXA.out.1 HXA.out.2)
  clear hA6b
  go_upto_region 7 with (fail)
  go_wp2_with fail
  refine HWI.out.mono ?_
  rintro e w7 ⟨rfl, hb7⟩
  have HS7 := Lib.hid (HS6.out.below hb7)
  have Hf7 := Lib.hid (Hf6.out.below hb7 Hf6.out.lt)
  clear hb7 HWI HS6 Hf6 a0 a1 hbig2
  have pf0 : w7.cell? ⟨fp, 0, none⟩ = some (.int .i64 (fa : Int)) := Hf7.out.cell 0
  have pf1 : w7.cell? ⟨fp, 1, none⟩ = some (.int .i64 (nB 12 aN la.length : Int)) := Hf7.out.cell 1
  have pf2 : w7.cell? ⟨fp, 2, none⟩ = some (.int .i64 (aN : Int)) := Hf7.out.cell 2
  have pf3 : w7.cell? ⟨fp, 3, none⟩ = some (.int .i64 (la.length : Int)) := Hf7.out.cell 3
  go_upto_region 8 with (fail)
  have HC := Lib.hid (number_c 5 HS7.out.wk HP5.out.1 HP5.out.2.2.1 (by omega) (by omega) (by omega) (by omega) (by omega) HS7.out.out)
  go_wp2_with fail
  refine HC.out.mono ?_
  rintro e w8' hE
  have HP7 := HP5
  obtain ⟨fx, W8, O8, rfl, ho, hI, ht, hfi, hft, hhe, haf⟩ := each_good HP7.out.2.1 (fun _ h => h) hE
  obtain ⟨nx, hnx⟩ : ∃ nx, nx = nB 12 (aN + 1) (numL la aN 5).length := ⟨_, rfl⟩
  unfold fcells
  rw [show (numL la aN 5).length = la.length from numL_len _ _ _] at hnx ⊢
  rw [← hnx]
  have hS := HS7.out.turn HK.out ht hI ho.1
  have hfx := HS7.out.file ht Hf7.out
  have HS8 := Lib.hid (hS.alloc (.cells #[.int .i64 (fx : Int), .int .i64 (nx : Int), .int .i64 (aN + 1 : Int), .int .i64 (la.length : Int)] 29))
  have Hf8 := Lib.hid (hfx.alloc (.cells #[.int .i64 (fx : Int), .int .i64 (nx : Int), .int .i64 (aN + 1 : Int), .int .i64 (la.length : Int)] 29))
  have Hx8 := Lib.hid (Blk.new w8' 29 #[.int .i64 (fx : Int), .int .i64 (nx : Int), .int .i64 (aN + 1 : Int), .int .i64 (la.length : Int)])
  have HP8 := Lib.hid (And.intro hfi (And.intro hft (And.intro hhe (show Sp.sumX W8.L + (nB 12 aN la.length + nx) = 5000 by have h1 := haf.sum; rw [show (numL la aN 5).length = la.length from numL_len _ _ _, ← hnx] at h1; have h2 := HP5.out.2.2.2; omega))))
  have HN8 := Lib.hid hnx
  have hfx8 : fp < w8'.heap.size := hfx.lt
  clear ho hI ht hfi hft hhe haf hS HC HP7 hnx HS7 Hf7 pf0 pf1 pf2 pf3
  go_upto_region 9 with (fail)
  generalize hxpe : w8'.heap.size = xp at *
  generalize w8'.alloc (.cells #[.int .i64 (fx : Int), .int .i64 (nx : Int), .int .i64 (aN + 1 : Int), .int .i64 (la.length : Int)] 29) = w8 at *
  have hob : xp < w8.heap.size := Hx8.out.lt
  have HS9 := Lib.hid ((HS8.out.alloc (.cells #[.int .i64 0, .int .i64 0, .int .i64 0, .int .i64 0, .int .i64 0] 48)).alloc (.cells #[.int .i64 0, .int .i64 0, .int .i64 0, .int .i64 0, .int .i64 0] 48))
  have Hf9 := Lib.hid ((Hf8.out.alloc (.cells #[.int .i64 0, .int .i64 0, .int .i64 0, .int .i64 0, .int .i64 0] 48)).alloc (.cells #[.int .i64 0, .int .i64 0, .int .i64 0, .int .i64 0, .int .i64 0] 48))
  have Hx9 := Lib.hid ((Hx8.out.alloc (.cells #[.int .i64 0, .int .i64 0, .int .i64 0, .int .i64 0, .int .i64 0] 48)).alloc (.cells #[.int .i64 0, .int .i64 0, .int .i64 0, .int .i64 0, .int .i64 0] 48))
  have Ho9 := Lib.hid ((Blk.new w8 48 #[.int .i64 0, .int .i64 0, .int .i64 0, .int .i64 0, .int .i64 0]).alloc (.cells #[.int .i64 0, .int .i64 0, .int .i64 0, .int .i64 0, .int .i64 0] 48))
  have hp9 := Blk.new (w8.alloc (.cells #[.int .i64 0, .int .i64 0, .int .i64 0, .int .i64 0, .int .i64 0] 48)) 48 #[.int .i64 0, .int .i64 0, .int .i64 0, .int .i64 0, .int .i64 0]
  rw [show (w8.alloc (.cells #[.int .i64 0, .int .i64 0, .int .i64 0, .int .i64 0, .int .i64 0] 48)).heap.size = w8.heap.size + 1 from by simp] at hp9
  have Hp9 := Lib.hid hp9
  clear hp9 HS8 Hf8 Hx8
  go_upto_region 10 with (fail)
  generalize hobe : w8.heap.size = ob at *
  generalize (w8.alloc (.cells #[.int .i64 0, .int .i64 0, .int .i64 0, .int .i64 0, .int .i64 0] 48)).alloc (.cells #[.int .i64 0, .int .i64 0, .int .i64 0, .int .i64 0, .int .i64 0] 48) = w9 at *
  have hpb : ob < ob + 1 := Nat.lt_succ_self _
  have HW1 := Lib.hid (show w1.heap.size ≤ fp from hfp)
  go_wp2_with fail
  go_loopw [11] (fun iv wr => ∃ i : Nat, iv = .int .i64 (i : Int) ∧ i ≤ aN ∧ BkLoop w1 w9 wr K O8 W8 fp xp ob (ob + 1) #[.int .i64 (fa : Int), .int .i64 (nB 12 aN la.length : Int), .int .i64 (aN : Int), .int .i64 (la.length : Int)] #[.int .i64 (fx : Int), .int .i64 (nx : Int), .int .i64 (aN + 1 : Int), .int .i64 (la.length : Int)] i) (fun iv _ => aN - (intOf iv).toNat)
  case atStart => exact ⟨0, rfl, Nat.zero_le _, HS9.out, Hf9.out, Hx9.out, Ho9.out, Hp9.out⟩
  case round =>
    obtain ⟨i, rfl, hi, hR⟩ := hrel
    have HR := Lib.hid hR
    clear hR
    by_cases hlt : i < aN
    · have hlt2 : (i : Int) < (aN : Int) := by omega
      obtain rfl | rfl | rfl : i = 0 ∨ i = 1 ∨ i = 2 := by omega
      · rw [show ((0 : Nat) : Int) = 0 from rfl] at *
        have o0 : wr.cell? ⟨ob, 0, none⟩ = some (.int .i64 0) := HR.out.o.cell 0
        have of := HR.out.o.frozen 0
        have p0 : wr.cell? ⟨ob + 1, 1, none⟩ = some (.int .i64 0) := HR.out.p.cell 1
        have pf := HR.out.p.frozen 1
        have hj1 := HR.out.js.cell HR.out.o (by omega) (by decide) 0 (.int .i64 1)
        have hp1 := HR.out.p.far (p := ⟨ob, 0, none⟩) (show ob + 1 ≠ ob by omega) (.int .i64 1)
        have hj2 := hj1.cell hp1 (by omega) (by decide) 1 (.int .i64 1)
        have HR2 := Lib.hid (show BkLoop w1 w9 ((wr.setCell ⟨ob, 0, none⟩ (.int .i64 1)).setCell ⟨ob + 1, 1, none⟩ (.int .i64 1)) K O8 W8 fp xp ob (ob + 1) #[.int .i64 (fa : Int), .int .i64 (nB 12 aN la.length : Int), .int .i64 (aN : Int), .int .i64 (la.length : Int)] #[.int .i64 (fx : Int), .int .i64 (nx : Int), .int .i64 (aN + 1 : Int), .int .i64 (la.length : Int)] 1 from ⟨hj2, (HR.out.f.far (p := ⟨ob, 0, none⟩) (show fp ≠ ob by omega) _).far (p := ⟨ob + 1, 1, none⟩) (show fp ≠ ob + 1 by omega) _, (HR.out.x.far (p := ⟨ob, 0, none⟩) (show xp ≠ ob by omega) _).far (p := ⟨ob + 1, 1, none⟩) (show xp ≠ ob + 1 by omega) _, (HR.out.o.set_ 0 (.int .i64 1)).far (p := ⟨ob + 1, 1, none⟩) (show ob ≠ ob + 1 by omega) _, hp1.set_ 1 (.int .i64 1)⟩)
        clear hj1 hp1 hj2 HR
        go_wp2_with fail
        go_roundw
        case rel => exact ⟨1, rfl, by omega, HR2.out⟩
        case measure => simp [intOf]; omega
      · rw [show ((1 : Nat) : Int) = 1 from rfl] at *
        have o0 : wr.cell? ⟨ob, 1, none⟩ = some (.int .i64 0) := HR.out.o.cell 1
        have of := HR.out.o.frozen 1
        have p0 : wr.cell? ⟨ob + 1, 2, none⟩ = some (.int .i64 0) := HR.out.p.cell 2
        have pf := HR.out.p.frozen 2
        have hj1 := HR.out.js.cell HR.out.o (by omega) (by decide) 1 (.int .i64 2)
        have hp1 := HR.out.p.far (p := ⟨ob, 1, none⟩) (show ob + 1 ≠ ob by omega) (.int .i64 2)
        have hj2 := hj1.cell hp1 (by omega) (by decide) 2 (.int .i64 2)
        have HR2 := Lib.hid (show BkLoop w1 w9 ((wr.setCell ⟨ob, 1, none⟩ (.int .i64 2)).setCell ⟨ob + 1, 2, none⟩ (.int .i64 2)) K O8 W8 fp xp ob (ob + 1) #[.int .i64 (fa : Int), .int .i64 (nB 12 aN la.length : Int), .int .i64 (aN : Int), .int .i64 (la.length : Int)] #[.int .i64 (fx : Int), .int .i64 (nx : Int), .int .i64 (aN + 1 : Int), .int .i64 (la.length : Int)] 2 from ⟨hj2, (HR.out.f.far (p := ⟨ob, 1, none⟩) (show fp ≠ ob by omega) _).far (p := ⟨ob + 1, 2, none⟩) (show fp ≠ ob + 1 by omega) _, (HR.out.x.far (p := ⟨ob, 1, none⟩) (show xp ≠ ob by omega) _).far (p := ⟨ob + 1, 2, none⟩) (show xp ≠ ob + 1 by omega) _, (HR.out.o.set_ 1 (.int .i64 2)).far (p := ⟨ob + 1, 2, none⟩) (show ob ≠ ob + 1 by omega) _, hp1.set_ 2 (.int .i64 2)⟩)
        clear hj1 hp1 hj2 HR
        go_wp2_with fail
        go_roundw
        case rel => exact ⟨2, rfl, by omega, HR2.out⟩
        case measure => simp [intOf]; omega
      · rw [show ((2 : Nat) : Int) = 2 from rfl] at *
        have o0 : wr.cell? ⟨ob, 2, none⟩ = some (.int .i64 0) := HR.out.o.cell 2
        have of := HR.out.o.frozen 2
        have p0 : wr.cell? ⟨ob + 1, 3, none⟩ = some (.int .i64 0) := HR.out.p.cell 3
        have pf := HR.out.p.frozen 3
        have hj1 := HR.out.js.cell HR.out.o (by omega) (by decide) 2 (.int .i64 3)
        have hp1 := HR.out.p.far (p := ⟨ob, 2, none⟩) (show ob + 1 ≠ ob by omega) (.int .i64 3)
        have hj2 := hj1.cell hp1 (by omega) (by decide) 3 (.int .i64 3)
        have HR2 := Lib.hid (show BkLoop w1 w9 ((wr.setCell ⟨ob, 2, none⟩ (.int .i64 3)).setCell ⟨ob + 1, 3, none⟩ (.int .i64 3)) K O8 W8 fp xp ob (ob + 1) #[.int .i64 (fa : Int), .int .i64 (nB 12 aN la.length : Int), .int .i64 (aN : Int), .int .i64 (la.length : Int)] #[.int .i64 (fx : Int), .int .i64 (nx : Int), .int .i64 (aN + 1 : Int), .int .i64 (la.length : Int)] 3 from ⟨hj2, (HR.out.f.far (p := ⟨ob, 2, none⟩) (show fp ≠ ob by omega) _).far (p := ⟨ob + 1, 3, none⟩) (show fp ≠ ob + 1 by omega) _, (HR.out.x.far (p := ⟨ob, 2, none⟩) (show xp ≠ ob by omega) _).far (p := ⟨ob + 1, 3, none⟩) (show xp ≠ ob + 1 by omega) _, (HR.out.o.set_ 2 (.int .i64 3)).far (p := ⟨ob + 1, 3, none⟩) (show ob ≠ ob + 1 by omega) _, hp1.set_ 3 (.int .i64 3)⟩)
        clear hj1 hp1 hj2 HR
        go_wp2_with fail
        go_roundw
        case rel => exact ⟨3, rfl, by omega, HR2.out⟩
        case measure => simp [intOf]; omega
    · obtain rfl : aN = i := by omega
      clear hlt hi
      have pf := HR.out.p.frozen 0
      have p0 : wr.cell? ⟨ob + 1, 0, none⟩ = some (.int .i64 0) := HR.out.p.cell 0
      obtain ⟨o1, ho1⟩ : ∃ o1 : Int, o1 = if 2 ≤ aN then 2 else 0 := ⟨_, rfl⟩
      obtain ⟨o2, ho2⟩ : ∃ o2 : Int, o2 = if 3 ≤ aN then 3 else 0 := ⟨_, rfl⟩
      have HO := Lib.hid (And.intro ho1 ho2)
      have hoc : oCells aN = #[.int .i64 1, .int .i64 o1, .int .i64 o2, .int .i64 0, .int .i64 0] := by unfold oCells; rw [if_pos hn1, ho1, ho2]
      have hpc : (pCells aN).setIfInBounds 0 (.int .i64 ((aN : Int) + 1)) = #[.int .i64 ((aN : Int) + 1), .int .i64 1, .int .i64 o1, .int .i64 o2, .int .i64 0] := by unfold pCells; rw [if_pos hn1, ho1, ho2]; rfl
      have hj2 := HR.out.js.cell HR.out.p (by omega) (by decide) 0 (.int .i64 ((aN : Int) + 1))
      have hpS := HR.out.p.set_ 0 (.int .i64 ((aN : Int) + 1))
      rw [hpc] at hpS
      have hoS := HR.out.o.far (p := ⟨ob + 1, 0, none⟩) (show ob ≠ ob + 1 by omega) (.int .i64 ((aN : Int) + 1))
      rw [hoc] at hoS
      have HS10 := Lib.hid hj2
      have Hf10 := Lib.hid (HR.out.f.far (p := ⟨ob + 1, 0, none⟩) (show fp ≠ ob + 1 by omega) (.int .i64 ((aN : Int) + 1)))
      have Hx10 := Lib.hid (HR.out.x.far (p := ⟨ob + 1, 0, none⟩) (show xp ≠ ob + 1 by omega) (.int .i64 ((aN : Int) + 1)))
      have Ho10 := Lib.hid hoS
      have Hp10 := Lib.hid hpS
      have HOK := Lib.hid (ord_ok hn1 hn3)
      have HFT := Lib.hid (HP5.out.2.2.1.fits)
      clear hpc hoc hj2 hpS hoS HR ho1 ho2 HS9 Hf9 Hx9 Ho9 Hp9
      have e1 : IntKind.i64.wrap ((aN : Int) + 1) = (aN : Int) + 1 := by rw [IntKind.wrap_i64]; omega
      go_upto_region 16 with (fail)
      generalize wr.setCell ⟨ob + 1, 0, none⟩ (.int .i64 ((aN : Int) + 1)) = w10 at *
      clear p0 pf
      have HP10 := HP8
      clear HP8
      have px0 : w10.cell? ⟨xp, 0, none⟩ = some (.int .i64 (fx : Int)) := Hx10.out.cell 0
      have px1 : w10.cell? ⟨xp, 1, none⟩ = some (.int .i64 (nx : Int)) := Hx10.out.cell 1
      have px2 : w10.cell? ⟨xp, 2, none⟩ = some (.int .i64 (aN + 1 : Int)) := Hx10.out.cell 2
      have px3 : w10.cell? ⟨xp, 3, none⟩ = some (.int .i64 (la.length : Int)) := Hx10.out.cell 3
      have po0 : w10.cell? ⟨ob, 0, none⟩ = some (.int .i64 1) := Ho10.out.cell 0
      have po1 : w10.cell? ⟨ob, 1, none⟩ = some (.int .i64 o1) := Ho10.out.cell 1
      have po2 : w10.cell? ⟨ob, 2, none⟩ = some (.int .i64 o2) := Ho10.out.cell 2
      have po3 : w10.cell? ⟨ob, 3, none⟩ = some (.int .i64 0) := Ho10.out.cell 3
      have po4 : w10.cell? ⟨ob, 4, none⟩ = some (.int .i64 0) := Ho10.out.cell 4
      have hC := cut_good (n := aN) (o0 := 1) (o1 := o1) (o2 := o2) (o3 := 0) (o4 := 0) HS10.out.wk HP10.out.1 HP10.out.2.2.1 (by intro k hk; have h1 := HO.out.1; have h2 := HO.out.2; simp only [List.mem_cons, List.mem_nil_iff, or_false] at hk; split at h1 <;> split at h2 <;> omega) (by omega) (by omega) HS10.out.out (by rw [HO.out.1, HO.out.2]; exact HOK.out.1) hn1 (by rw [HO.out.1, HO.out.2]; exact HOK.out.2.1)
      rw [show (numL la aN 5).length = la.length from numL_len _ _ _, ← HN8.out] at hC
      rw [show ((aN + 1 : Nat) : Int) = (aN : Int) + 1 from rfl] at hC
      rw [show (numL la aN 5).map (cutT [1, o1, o2, 0, 0]) = la from by rw [HO.out.1, HO.out.2]; exact backY hn1 hn3 HFT.out] at hC
      have HC := Lib.hid hC
      clear hC
      go_wp2_with fail
      refine HC.out.mono ?_
      rintro e w11' hE
      obtain ⟨fy, W11, O11, rfl, ho, hI, ht, hfi, hft, hhe, haf⟩ := each_good HP10.out.2.1 (fun _ h => h) hE
      obtain ⟨ny, hny⟩ : ∃ ny, ny = nB 12 (aN) (la).length := ⟨_, rfl⟩
      unfold fcells
      rw [show (la).length = la.length from rfl] at hny ⊢
      rw [← hny]
      have hS := HS10.out.turn HK.out ht hI ho.1
      have hfx := HS10.out.file ht Hf10.out
      have hxx := HS10.out.file ht Hx10.out
      have hox := HS10.out.wk.blk ht Ho10.out (by decide) (by decide) (by decide) (by decide) (by decide) (fun h => h)
      have hpx := HS10.out.wk.blk ht Hp10.out (by decide) (by decide) (by decide) (by decide) (by decide) (fun h => h)
      have HS11 := Lib.hid (hS.alloc (.cells #[.int .i64 (fy : Int), .int .i64 (ny : Int), .int .i64 (aN : Int), .int .i64 (la.length : Int)] 29))
      have Hf11 := Lib.hid (hfx.alloc (.cells #[.int .i64 (fy : Int), .int .i64 (ny : Int), .int .i64 (aN : Int), .int .i64 (la.length : Int)] 29))
      have Hx11 := Lib.hid (hxx.alloc (.cells #[.int .i64 (fy : Int), .int .i64 (ny : Int), .int .i64 (aN : Int), .int .i64 (la.length : Int)] 29))
      have Ho11 := Lib.hid (hox.alloc (.cells #[.int .i64 (fy : Int), .int .i64 (ny : Int), .int .i64 (aN : Int), .int .i64 (la.length : Int)] 29))
      have Hp11 := Lib.hid (hpx.alloc (.cells #[.int .i64 (fy : Int), .int .i64 (ny : Int), .int .i64 (aN : Int), .int .i64 (la.length : Int)] 29))
      have Hy11 := Lib.hid (Blk.new w11' 29 #[.int .i64 (fy : Int), .int .i64 (ny : Int), .int .i64 (aN : Int), .int .i64 (la.length : Int)])
      have HP11 := Lib.hid (And.intro hfi (And.intro hft (And.intro (haf.keep _ _ _ HP10.out.2.2.1) (And.intro hhe (show Sp.sumX W11.L + (nB 12 aN la.length + nx + ny) = 5000 by have h1 := haf.sum; rw [← hny] at h1; have h2 := HP10.out.2.2.2; omega)))))
      have HNY := Lib.hid hny
      have hyp : ob + 1 < w11'.heap.size := hpx.lt
      clear ho hI ht hfi hft hhe haf hS HC hny HS10 Hf10 Hx10 Ho10 Hp10 px0 px1 px2 px3 po0 po1 po2 po3 po4
      clear hfx hxx hox hpx
      go_upto_region 17 with (fail)
      generalize hype : w11'.heap.size = yp at *
      generalize w11'.alloc (.cells #[.int .i64 (fy : Int), .int .i64 (ny : Int), .int .i64 (aN : Int), .int .i64 (la.length : Int)] 29) = w11 at *
      have px0 : w11.cell? ⟨xp, 0, none⟩ = some (.int .i64 (fx : Int)) := Hx11.out.cell 0
      have px1 : w11.cell? ⟨xp, 1, none⟩ = some (.int .i64 (nx : Int)) := Hx11.out.cell 1
      have px2 : w11.cell? ⟨xp, 2, none⟩ = some (.int .i64 (aN + 1 : Int)) := Hx11.out.cell 2
      have px3 : w11.cell? ⟨xp, 3, none⟩ = some (.int .i64 (la.length : Int)) := Hx11.out.cell 3
      have pp0 : w11.cell? ⟨ob + 1, 0, none⟩ = some (.int .i64 ((aN : Int) + 1)) := Hp11.out.cell 0
      have pp1 : w11.cell? ⟨ob + 1, 1, none⟩ = some (.int .i64 1) := Hp11.out.cell 1
      have pp2 : w11.cell? ⟨ob + 1, 2, none⟩ = some (.int .i64 o1) := Hp11.out.cell 2
      have pp3 : w11.cell? ⟨ob + 1, 3, none⟩ = some (.int .i64 o2) := Hp11.out.cell 3
      have pp4 : w11.cell? ⟨ob + 1, 4, none⟩ = some (.int .i64 0) := Hp11.out.cell 4
      have hC := cut_good (n := aN + 1) (o0 := (aN : Int) + 1) (o1 := 1) (o2 := o1) (o3 := o2) (o4 := 0) HS11.out.wk HP11.out.1 HP11.out.2.2.1 (by intro k hk; have h1 := HO.out.1; have h2 := HO.out.2; simp only [List.mem_cons, List.mem_nil_iff, or_false] at hk; split at h1 <;> split at h2 <;> omega) (by omega) (by omega) HS11.out.out (by rw [HO.out.1, HO.out.2]; exact HOK.out.2.2.1) (by omega) (by rw [HO.out.1, HO.out.2]; exact HOK.out.2.2.2)
      rw [show (numL la aN 5).length = la.length from numL_len _ _ _, ← HN8.out] at hC
      rw [show ((aN + 1 : Nat) : Int) = (aN : Int) + 1 from rfl] at hC
      rw [show (numL la aN 5).map (cutT [(aN : Int) + 1, 1, o1, o2, 0]) = backZ la aN from by rw [HO.out.1, HO.out.2]; rfl] at hC
      have HC := Lib.hid hC
      clear hC
      go_wp2_with fail
      refine HC.out.mono ?_
      rintro e w12' hE
      obtain ⟨fz, W12, O12, rfl, ho, hI, ht, hfi, hft, hhe, haf⟩ := each_good HP11.out.2.1 (fun _ h => h) hE
      obtain ⟨nz, hnz⟩ : ∃ nz, nz = nB 12 (aN + 1) (backZ la aN).length := ⟨_, rfl⟩
      unfold fcells
      rw [show (backZ la aN).length = la.length from backZ_len] at hnz ⊢
      rw [← hnz]
      have hS := HS11.out.turn HK.out ht hI ho.1
      have hfx := HS11.out.file ht Hf11.out
      have hxx := HS11.out.file ht Hx11.out
      have hox := HS11.out.wk.blk ht Ho11.out (by decide) (by decide) (by decide) (by decide) (by decide) (fun h => h)
      have hpx := HS11.out.wk.blk ht Hp11.out (by decide) (by decide) (by decide) (by decide) (by decide) (fun h => h)
      have hyx := HS11.out.file ht Hy11.out
      have HS12 := Lib.hid (hS.alloc (.cells #[.int .i64 (fz : Int), .int .i64 (nz : Int), .int .i64 (aN + 1 : Int), .int .i64 (la.length : Int)] 29))
      have Hf12 := Lib.hid (hfx.alloc (.cells #[.int .i64 (fz : Int), .int .i64 (nz : Int), .int .i64 (aN + 1 : Int), .int .i64 (la.length : Int)] 29))
      have Hx12 := Lib.hid (hxx.alloc (.cells #[.int .i64 (fz : Int), .int .i64 (nz : Int), .int .i64 (aN + 1 : Int), .int .i64 (la.length : Int)] 29))
      have Ho12 := Lib.hid (hox.alloc (.cells #[.int .i64 (fz : Int), .int .i64 (nz : Int), .int .i64 (aN + 1 : Int), .int .i64 (la.length : Int)] 29))
      have Hp12 := Lib.hid (hpx.alloc (.cells #[.int .i64 (fz : Int), .int .i64 (nz : Int), .int .i64 (aN + 1 : Int), .int .i64 (la.length : Int)] 29))
      have Hy12 := Lib.hid (hyx.alloc (.cells #[.int .i64 (fz : Int), .int .i64 (nz : Int), .int .i64 (aN + 1 : Int), .int .i64 (la.length : Int)] 29))
      have Hz12 := Lib.hid (Blk.new w12' 29 #[.int .i64 (fz : Int), .int .i64 (nz : Int), .int .i64 (aN + 1 : Int), .int .i64 (la.length : Int)])
      have HP12 := Lib.hid (And.intro hfi (And.intro hft (And.intro (haf.keep _ _ _ HP11.out.2.2.2.1) (And.intro hhe (show Sp.sumX W12.L + (nB 12 aN la.length + nx + ny + nz) = 5000 by have h1 := haf.sum; rw [show (backZ la aN).length = la.length from backZ_len, ← hnz] at h1; have h2 := HP11.out.2.2.2.2; omega)))))
      have HNZ := Lib.hid hnz
      have hzp : yp < w12'.heap.size := hyx.lt
      clear ho hI ht hfi hft hhe haf hS HC hnz HS11 Hf11 Hx11 Ho11 Hp11 Hy11 px0 px1 px2 px3 pp0 pp1 pp2 pp3 pp4
      clear hfx hxx hox hpx hyx
      go_upto_region 18 with (fail)
      generalize hzpe : w12'.heap.size = zp at *
      generalize w12'.alloc (.cells #[.int .i64 (fz : Int), .int .i64 (nz : Int), .int .i64 (aN + 1 : Int), .int .i64 (la.length : Int)] 29) = w12 at *
      have pz0 : w12.cell? ⟨zp, 0, none⟩ = some (.int .i64 (fz : Int)) := Hz12.out.cell 0
      have pz1 : w12.cell? ⟨zp, 1, none⟩ = some (.int .i64 (nz : Int)) := Hz12.out.cell 1
      have pz2 : w12.cell? ⟨zp, 2, none⟩ = some (.int .i64 (aN + 1 : Int)) := Hz12.out.cell 2
      have pz3 : w12.cell? ⟨zp, 3, none⟩ = some (.int .i64 (la.length : Int)) := Hz12.out.cell 3
      have hC := look_c (key := 0) (val := aN) (dst := aN + 1) (wM := aN + 1 + 1) HS12.out.wk HP12.out.1 HP12.out.2.2.2.1 HP12.out.2.2.2.1 (by omega) (by omega) (by omega) (by omega) (by omega) (by omega) HS12.out.out
      rw [show nB 12 (aN + 1) (backZ la aN).length = nz from by rw [show (backZ la aN).length = la.length from backZ_len]; exact HNZ.out.symm, show (((backZ la aN).length : Nat) : Int) = (la.length : Int) from by rw [backZ_len]] at hC
      rw [show ((aN + 1 : Nat) : Int) = (aN : Int) + 1 from rfl] at hC
      rw [show ((0 : Nat) : Int) = 0 from rfl] at hC
      rw [show made (lkMk (backZ la aN) 0 aN (aN + 1) (backZ la aN)) (fun _ => true) (backZ la aN).length = backU la aN from rfl] at hC
      have HC := Lib.hid hC
      clear hC
      go_wp2_with fail
      refine HC.out.mono ?_
      rintro e w13' hE
      obtain ⟨fu, W13, O13, rfl, ho, hI, ht, hfi, hft, hhe, haf⟩ := each_good HP12.out.2.1 (fun er h => backU_good hn1 hn3 HFT.out hle h.2) hE
      obtain ⟨nu, hnu⟩ : ∃ nu, nu = nB 12 (aN + 1 + 1) (backU la aN).length := ⟨_, rfl⟩
      unfold fcells
      rw [show (backU la aN).length = la.length from backU_len] at hnu ⊢
      rw [← hnu]
      have hS := HS12.out.turn HK.out ht hI ho.1
      have hfx := HS12.out.file ht Hf12.out
      have hxx := HS12.out.file ht Hx12.out
      have hox := HS12.out.wk.blk ht Ho12.out (by decide) (by decide) (by decide) (by decide) (by decide) (fun h => h)
      have hpx := HS12.out.wk.blk ht Hp12.out (by decide) (by decide) (by decide) (by decide) (by decide) (fun h => h)
      have hyx := HS12.out.file ht Hy12.out
      have hzx := HS12.out.file ht Hz12.out
      have HS13 := Lib.hid (hS.alloc (.cells #[.int .i64 (fu : Int), .int .i64 (nu : Int), .int .i64 (aN + 1 + 1 : Int), .int .i64 (la.length : Int)] 29))
      have Hf13 := Lib.hid (hfx.alloc (.cells #[.int .i64 (fu : Int), .int .i64 (nu : Int), .int .i64 (aN + 1 + 1 : Int), .int .i64 (la.length : Int)] 29))
      have Hx13 := Lib.hid (hxx.alloc (.cells #[.int .i64 (fu : Int), .int .i64 (nu : Int), .int .i64 (aN + 1 + 1 : Int), .int .i64 (la.length : Int)] 29))
      have Ho13 := Lib.hid (hox.alloc (.cells #[.int .i64 (fu : Int), .int .i64 (nu : Int), .int .i64 (aN + 1 + 1 : Int), .int .i64 (la.length : Int)] 29))
      have Hp13 := Lib.hid (hpx.alloc (.cells #[.int .i64 (fu : Int), .int .i64 (nu : Int), .int .i64 (aN + 1 + 1 : Int), .int .i64 (la.length : Int)] 29))
      have Hy13 := Lib.hid (hyx.alloc (.cells #[.int .i64 (fu : Int), .int .i64 (nu : Int), .int .i64 (aN + 1 + 1 : Int), .int .i64 (la.length : Int)] 29))
      have Hz13 := Lib.hid (hzx.alloc (.cells #[.int .i64 (fu : Int), .int .i64 (nu : Int), .int .i64 (aN + 1 + 1 : Int), .int .i64 (la.length : Int)] 29))
      have Hu13 := Lib.hid (Blk.new w13' 29 #[.int .i64 (fu : Int), .int .i64 (nu : Int), .int .i64 (aN + 1 + 1 : Int), .int .i64 (la.length : Int)])
      have HP13 := Lib.hid (And.intro hfi (And.intro hft (And.intro (haf.keep _ _ _ HP12.out.2.2.1) (And.intro hhe (show Sp.sumX W13.L + (nB 12 aN la.length + nx + ny + nz + nu) = 5000 by have h1 := haf.sum; rw [show (backU la aN).length = la.length from backU_len, ← hnu] at h1; have h2 := HP12.out.2.2.2.2; omega)))))
      have HNU := Lib.hid hnu
      have hup : zp < w13'.heap.size := hzx.lt
      clear ho hI ht hfi hft hhe haf hS HC hnu HS12 Hf12 Hx12 Ho12 Hp12 Hy12 Hz12 pz0 pz1 pz2 pz3
      clear hfx hxx hox hpx hyx hzx
      go_upto_region 19 with (fail)
      generalize hupe : w13'.heap.size = up at *
      generalize w13'.alloc (.cells #[.int .i64 (fu : Int), .int .i64 (nu : Int), .int .i64 (aN + 1 + 1 : Int), .int .i64 (la.length : Int)] 29) = w13 at *
      have py0 : w13.cell? ⟨yp, 0, none⟩ = some (.int .i64 (fy : Int)) := Hy13.out.cell 0
      have py1 : w13.cell? ⟨yp, 1, none⟩ = some (.int .i64 (ny : Int)) := Hy13.out.cell 1
      have py2 : w13.cell? ⟨yp, 2, none⟩ = some (.int .i64 (aN : Int)) := Hy13.out.cell 2
      have py3 : w13.cell? ⟨yp, 3, none⟩ = some (.int .i64 (la.length : Int)) := Hy13.out.cell 3
      have hC := list_f HS13.out.wk HP13.out.1 HP13.out.2.1 HP13.out.2.2.1 (by omega)
      rw [← HNY.out] at hC
      have HC := Lib.hid hC
      clear hC
      go_wp2_with fail
      refine HC.out.mono ?_
      rintro e w14 ⟨W14, O14, v14, rfl, hown, ho, hI, ht, hfi, hft, haf⟩
      obtain ⟨a3, c3, rfl, hT3, _⟩ := tps_own (K := K) hown HA5.out
      have HS14 := Lib.hid (HS13.out.turn HK.out ht hI ho.1)
      have HT3 := Lib.hid hT3
      have HP14 := Lib.hid (And.intro hfi (And.intro hft (And.intro (haf.keep _ _ _ HP13.out.2.2.2.1) (show Sp.sumX W14.L + (nB 12 aN la.length + nx + ny + nz + nu) = 5000 by have h1 := haf.sum; have h2 := HP13.out.2.2.2.2; omega))))
      have Hf14 := Lib.hid (HS13.out.file ht Hf13.out)
      have Hx14 := Lib.hid (HS13.out.file ht Hx13.out)
      have Hy14 := Lib.hid (HS13.out.file ht Hy13.out)
      have Hz14 := Lib.hid (HS13.out.file ht Hz13.out)
      have Hu14 := Lib.hid (HS13.out.file ht Hu13.out)
      clear HS13 Hf13 Hx13 Hy13 Hz13 Hu13
      clear hown ho hI ht hfi hft haf hT3 HC py0 py1 py2 py3
      have pu0 : w14.cell? ⟨up, 0, none⟩ = some (.int .i64 (fu : Int)) := Hu14.out.cell 0
      have pu1 : w14.cell? ⟨up, 1, none⟩ = some (.int .i64 (nu : Int)) := Hu14.out.cell 1
      have pu2 : w14.cell? ⟨up, 2, none⟩ = some (.int .i64 (aN + 1 + 1 : Int)) := Hu14.out.cell 2
      have pu3 : w14.cell? ⟨up, 3, none⟩ = some (.int .i64 (la.length : Int)) := Hu14.out.cell 3
      have hC := list_f HS14.out.wk HP14.out.1 HP14.out.2.1 HP14.out.2.2.1 (by omega)
      rw [show nB 12 (aN + 1 + 1) (backU la aN).length = nu from by rw [show (backU la aN).length = la.length from backU_len]; exact HNU.out.symm, show (((backU la aN).length : Nat) : Int) = (la.length : Int) from by rw [backU_len], show ((aN + 1 + 1 : Nat) : Int) = (aN : Int) + 1 + 1 from rfl] at hC
      have HC := Lib.hid hC
      clear hC
      go_wp2_with fail
      refine HC.out.mono ?_
      rintro e w15 ⟨W15, O15, v15, rfl, hown, ho, hI, ht, hfi, hft, haf⟩
      have hU5 : ∀ t ∈ backU la aN, t.length = 5 := fun t htm => (HP14.out.2.2.1.fits t htm).1
      obtain ⟨a4, c4, hv, hT4, _⟩ := tps_own (K := K) hown hU5
      rw [backU_len] at hv
      subst hv
      have HS15 := Lib.hid (HS14.out.turn HK.out ht hI ho.1)
      have HT4 := Lib.hid hT4
      have HU5 := Lib.hid hU5
      have HT34 := Lib.hid (HT3.out.turn HS14.out.wk ht (fun g _ h => h))
      have HP15 := Lib.hid (And.intro hfi.used (show Sp.sumX W15.L + (nB 12 aN la.length + nx + ny + nz + nu) = 5000 by have h1 := haf.sum; have h2 := HP14.out.2.2.2; omega))
      have Hf15 := Lib.hid (HS14.out.file ht Hf14.out)
      have Hx15 := Lib.hid (HS14.out.file ht Hx14.out)
      have Hy15 := Lib.hid (HS14.out.file ht Hy14.out)
      have Hz15 := Lib.hid (HS14.out.file ht Hz14.out)
      have Hu15 := Lib.hid (HS14.out.file ht Hu14.out)
      clear HS14 Hf14 Hx14 Hy14 Hz14 Hu14
      clear hown ho hI ht hfi hft haf hT4 hU5 HC HT3 pu0 pu1 pu2 pu3
      have hA15 := HA1.out.below HS15.out.bel HA1.out.lt
      have a1 : w15.cell? ⟨w.heap.size, 1, none⟩ = some (.slice aA la.length cA) := hA15.cell 1
      have HSA := Lib.hid (refsame_yes la a3 aA c3 cA w15 HT34.out (HPA.out.below HS15.out.bel) HA5.out (by omega))
      clear hA15
      go_upto_region 21 with (fail)
      go_cut [136] (fun v wx => v = .bool false ∧ Below w15.heap.size w15 wx)
      case first =>
        go_wp2_with fail
        refine HSA.out.mono ?_
        rintro e w16 ⟨rfl, m16, hm16⟩
        have hb16 : Below w15.heap.size w15 w16 := by rw [hm16]; exact ⟨rfl, rfl, rfl, Nat.le_refl _, fun _ _ => rfl⟩
        have HS16 := Lib.hid (HS15.out.below hb16)
        have HB16 := Lib.hid hb16
        have hA16 := HA1.out.below HS16.out.bel HA1.out.lt
        have a1 : w16.cell? ⟨w.heap.size, 1, none⟩ = some (.slice aA la.length cA) := hA16.cell 1
        clear hA16 hm16 hb16 HSA
        go_wp2_with fail
        go_meet
        exact ⟨by simp, HB16.out⟩
      case rest =>
        obtain ⟨rfl, hb16⟩ := hcut
        have HS16 := Lib.hid (HS15.out.below hb16)
        have HU16 := Lib.hid (HT4.out.below hb16)
        have Hf16 := Lib.hid (Hf15.out.below hb16 Hf15.out.lt)
        have Hx16 := Lib.hid (Hx15.out.below hb16 Hx15.out.lt)
        have Hy16 := Lib.hid (Hy15.out.below hb16 Hy15.out.lt)
        have Hz16 := Lib.hid (Hz15.out.below hb16 Hz15.out.lt)
        have Hu16 := Lib.hid (Hu15.out.below hb16 Hu15.out.lt)
        clear HS15 hb16 a1 HSA HT4 HT34 Hf15 Hx15 Hy15 Hz15 Hu15
        go_wp2_with fail
        go_loopw [22] (fun iv wr => ∃ m : Nat, iv = .int .i64 (m : Int) ∧ m ≤ la.length ∧ Below wc.heap.size wc wr) (fun iv _ => la.length - (intOf iv).toNat)
        case atStart => exact ⟨0, rfl, Nat.zero_le _, Below.refl _ _⟩
        case round =>
          obtain ⟨m, rfl, hm, hbr⟩ := hrel
          have HBR := Lib.hid hbr
          by_cases hlt : m < la.length
          · have hlt2 : (m : Int) < (la.length : Int) := by omega
            have HS17 := Lib.hid (HS16.out.below hbr)
            have hAr := HA1.out.below HS17.out.bel HA1.out.lt
            have a1 : wr.cell? ⟨w.heap.size, 1, none⟩ = some (.slice aA la.length cA) := hAr.cell 1
            obtain ⟨gu, ou, rfl, u0, u1, u2, u3, u4, hue, q0, q1, q2, q3, q4⟩ := (HU16.out.below hbr).cells HU5.out (k := m) (by rw [backU_len]; exact hlt)
            obtain ⟨ga, oa, rfl, t0, t1, t2, t3, t4, hte, r0, r1, r2, r3, r4⟩ := (HPA.out.below HS17.out.bel).cells HA5.out hlt
            obtain ⟨b1, b2, b3⟩ := backU_at hn1 hn3 HFT.out hle hlt
            rw [show (backU la aN).getD m [] = [u0, u1, u2, u3, u4] from by rw [List.getD_eq_getElem?_getD, List.getElem?_eq_getElem (by rw [backU_len]; exact hlt)]; exact hue] at b1 b2
            rw [hte] at b2
            have i0 : (0 : Int) ≤ (m : Int) := by omega
            have e5 : IntKind.i64.wrap ((m : Int) + 5) = (m : Int) + 5 := by rw [IntKind.wrap_i64]; omega
            have c0 : u0.toInt = (m : Int) + 5 := by have h : u0.toInt = 5 + (m : Int) := b1; omega
            rw [c0] at q0
            have HAN := Lib.hid (And.intro hn1 hn3)
            have HMM := Lib.hid (And.intro hm hlt)
            clear b1 b3 hAr hbr c0 hue hte hm hlt
            obtain rfl | rfl | rfl : aN = 1 ∨ aN = 2 ∨ aN = 3 := by omega
            · have c1 : u2.toInt = t0.toInt := b2
              rw [c1] at q2
              clear b2 c1
              go_wp2_with fail
              go_quiet (fail)
              have hbq : Below wc.heap.size wc (wr.drewN nq) := ⟨HBR.out.os, HBR.out.tape, HBR.out.output, HBR.out.size, HBR.out.block⟩
              have HBQ := Lib.hid hbq
              clear hbq
              go_wp2_with fail
              go_roundw
              case rel => exact ⟨m + 1, by go_num, HMM.out.2, HBQ.out⟩
              case measure => have := HMM.out.2; simp [intOf]; omega
            · have c1 : u3.toInt = t1.toInt := b2
              rw [c1] at q3
              clear b2 c1
              go_wp2_with fail
              go_quiet (fail)
              have hbq : Below wc.heap.size wc (wr.drewN nq) := ⟨HBR.out.os, HBR.out.tape, HBR.out.output, HBR.out.size, HBR.out.block⟩
              have HBQ := Lib.hid hbq
              clear hbq
              go_wp2_with fail
              go_roundw
              case rel => exact ⟨m + 1, by go_num, HMM.out.2, HBQ.out⟩
              case measure => have := HMM.out.2; simp [intOf]; omega
            · have c1 : u4.toInt = t2.toInt := b2
              rw [c1] at q4
              clear b2 c1
              go_wp2_with fail
              go_quiet (fail)
              have hbq : Below wc.heap.size wc (wr.drewN nq) := ⟨HBR.out.os, HBR.out.tape, HBR.out.output, HBR.out.size, HBR.out.block⟩
              have HBQ := Lib.hid hbq
              clear hbq
              go_wp2_with fail
              go_roundw
              case rel => exact ⟨m + 1, by go_num, HMM.out.2, HBQ.out⟩
              case measure => have := HMM.out.2; simp [intOf]; omega
          · have hlt2 : ¬ (m : Int) < (la.length : Int) := by omega
            have HS17 := Lib.hid (HS16.out.below hbr)
            have Hf17 := Lib.hid (Hf16.out.below hbr Hf16.out.lt)
            have Hx17 := Lib.hid (Hx16.out.below hbr Hx16.out.lt)
            have Hy17 := Lib.hid (Hy16.out.below hbr Hy16.out.lt)
            have Hz17 := Lib.hid (Hz16.out.below hbr Hz16.out.lt)
            have Hu17 := Lib.hid (Hu16.out.below hbr Hu16.out.lt)
            have cf0 : wr.cell? ⟨fp, 0, none⟩ = some (.int .i64 (fa : Int)) := Hf17.out.cell 0
            have cf1 : wr.cell? ⟨fp, 1, none⟩ = some (.int .i64 (nB 12 aN la.length : Int)) := Hf17.out.cell 1
            have cf2 : wr.cell? ⟨fp, 2, none⟩ = some (.int .i64 (aN : Int)) := Hf17.out.cell 2
            have cf3 : wr.cell? ⟨fp, 3, none⟩ = some (.int .i64 (la.length : Int)) := Hf17.out.cell 3
            have cx0 : wr.cell? ⟨xp, 0, none⟩ = some (.int .i64 (fx : Int)) := Hx17.out.cell 0
            have cx1 : wr.cell? ⟨xp, 1, none⟩ = some (.int .i64 (nx : Int)) := Hx17.out.cell 1
            have cx2 : wr.cell? ⟨xp, 2, none⟩ = some (.int .i64 (aN + 1 : Int)) := Hx17.out.cell 2
            have cx3 : wr.cell? ⟨xp, 3, none⟩ = some (.int .i64 (la.length : Int)) := Hx17.out.cell 3
            have cy0 : wr.cell? ⟨yp, 0, none⟩ = some (.int .i64 (fy : Int)) := Hy17.out.cell 0
            have cy1 : wr.cell? ⟨yp, 1, none⟩ = some (.int .i64 (ny : Int)) := Hy17.out.cell 1
            have cy2 : wr.cell? ⟨yp, 2, none⟩ = some (.int .i64 (aN : Int)) := Hy17.out.cell 2
            have cy3 : wr.cell? ⟨yp, 3, none⟩ = some (.int .i64 (la.length : Int)) := Hy17.out.cell 3
            have cz0 : wr.cell? ⟨zp, 0, none⟩ = some (.int .i64 (fz : Int)) := Hz17.out.cell 0
            have cz1 : wr.cell? ⟨zp, 1, none⟩ = some (.int .i64 (nz : Int)) := Hz17.out.cell 1
            have cz2 : wr.cell? ⟨zp, 2, none⟩ = some (.int .i64 (aN + 1 : Int)) := Hz17.out.cell 2
            have cz3 : wr.cell? ⟨zp, 3, none⟩ = some (.int .i64 (la.length : Int)) := Hz17.out.cell 3
            have cu0 : wr.cell? ⟨up, 0, none⟩ = some (.int .i64 (fu : Int)) := Hu17.out.cell 0
            have cu1 : wr.cell? ⟨up, 1, none⟩ = some (.int .i64 (nu : Int)) := Hu17.out.cell 1
            have cu2 : wr.cell? ⟨up, 2, none⟩ = some (.int .i64 (aN + 1 + 1 : Int)) := Hu17.out.cell 2
            have cu3 : wr.cell? ⟨up, 3, none⟩ = some (.int .i64 (la.length : Int)) := Hu17.out.cell 3
            have hS18 := HS17.out.alloc (.cells #[.int .i64 (fa : Int), .int .i64 (nB 12 aN la.length : Int), .int .i64 (aN : Int), .int .i64 (la.length : Int), .int .i64 (fx : Int), .int .i64 (nx : Int), .int .i64 (aN + 1 : Int), .int .i64 (la.length : Int), .int .i64 (fy : Int), .int .i64 (ny : Int), .int .i64 (aN : Int), .int .i64 (la.length : Int), .int .i64 (fz : Int), .int .i64 (nz : Int), .int .i64 (aN + 1 : Int), .int .i64 (la.length : Int), .int .i64 (fu : Int), .int .i64 (nu : Int), .int .i64 (aN + 1 + 1 : Int), .int .i64 (la.length : Int)] 29)
            have hB18 := Blk.new wr 29 #[.int .i64 (fa : Int), .int .i64 (nB 12 aN la.length : Int), .int .i64 (aN : Int), .int .i64 (la.length : Int), .int .i64 (fx : Int), .int .i64 (nx : Int), .int .i64 (aN + 1 : Int), .int .i64 (la.length : Int), .int .i64 (fy : Int), .int .i64 (ny : Int), .int .i64 (aN : Int), .int .i64 (la.length : Int), .int .i64 (fz : Int), .int .i64 (nz : Int), .int .i64 (aN + 1 : Int), .int .i64 (la.length : Int), .int .i64 (fu : Int), .int .i64 (nu : Int), .int .i64 (aN + 1 + 1 : Int), .int .i64 (la.length : Int)]
            have HCL := Lib.hid (clean13_ok [nB 12 aN la.length, nx, ny, nz, nu] wr.heap.size 5 hS18.wk (fun i hi => by
              have hi5 : i < 5 := hi
              obtain rfl | rfl | rfl | rfl | rfl : i = 0 ∨ i = 1 ∨ i = 2 ∨ i = 3 ∨ i = 4 := by omega
              · exact hB18.cell 1
              · exact hB18.cell 5
              · exact hB18.cell 9
              · exact hB18.cell 13
              · exact hB18.cell 17) HP15.out.1 (by simp; have := HP15.out.2; omega) (by simp))
            rw [show ([nB 12 aN la.length, nx, ny, nz, nu] : List Nat).length = 5 from rfl] at HCL
            have HB18 := Lib.hid hS18.bel
            clear hS18 hB18 hbr hm HS16 HS17 HU16 Hf16 Hf17 Hx16 Hx17 Hy16 Hy17 Hz16 Hz17 Hu16 Hu17
            go_wp2_with fail
            refine HCL.out.mono ?_
            rintro e w18 ⟨rfl, hb18⟩
            go_wp2_with fail
            go_ret
            exact ⟨rfl, HB.out.trans ((HB18.out.trans (hb18.mono HB18.out.size)).mono (Nat.le_of_lt hz0))⟩

theorem JoinBack_law {w : World} (cs : Array Value) (p : Int × List (List Int)) (h : rdPair 1 1 (rdInt .u8) (rdSlice 5 (rdArr 5 1 (rdInt .i64))) w cs.toList p) :
    Calls Try.prog 7 #[.agg cs] w fun e w' => e = .returned (.bool true) ∧ Below w.heap.size w w' := by
  obtain ⟨x, a, c, l, rfl, hx, h5, hm, hT⟩ := table_open h
  exact JoinBack_walk x hx a c l hT h5 hm

end Go.Proofs.Ytlbaigkpojkfjaa.Fl
