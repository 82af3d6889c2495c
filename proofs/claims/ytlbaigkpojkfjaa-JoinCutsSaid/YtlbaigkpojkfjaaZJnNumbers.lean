/- The law JoinNumbers. -/
import Derived.Test.YtlbaigkpojkfjaaZJnRef
set_option linter.unusedVariables false
namespace Go.Proofs.Ytlbaigkpojkfjaa.Fl
open Go.RowKit

section
variable {w w' : World} {O : Nat → Prop} {K : Key} {W : Wk}
/-- List of a file that is held, where no fault comes. -/
theorem list_f {first wN c0 a0 : Nat} {l : List Tup} (hI : WkI w O K W) (hF : Fine W c0 a0) (hfa : W.D.fault = -1) (hH : Held W first wN l) (ha : a0 ≤ 500000000000) :
    Calls Try.prog 15 #[P K.wk, .agg #[.int .i64 (first : Int), .int .i64 (nB 12 wN l.length : Int), .int .i64 (wN : Int), .int .i64 (l.length : Int)]] w (fun e w' => ∃ W' O' v, e = .returned (.tuple #[v, .int .i64 0]) ∧ w'.ownsRow w.heap.size 57 5 v l.length (flatT l) ∧ Okin w w' O O' ∧ WkI w' O' K W' ∧ Turn K (fun _ => False) w w' ∧ Fine W' c0 (a0 + 100000000) ∧ W'.D.fault = -1 ∧ After W W' 0) := by
  obtain ⟨n1, n5⟩ := hH.wid
  have hl := list_c wN first l hI hF.sure n1 n5 (by have := hH.few; omega) hH.fits (by rw [hF.size]; exact hH.lies) (.inr (by rw [hF.size, hF.blocks]; exact hH.fit)) (by have := hH.fit; omega) (by rw [hF.size, hF.used, hF.room]; omega) (by have := hF.acts; have := hH.few; omega)
  rw [hF.size] at hl
  refine hl.mono ?_
  rintro e w' ⟨W', O', ho, hI', ht, hW, hh⟩
  rcases hh with ⟨v, rfl, hown, hg⟩ | ⟨hbad, _⟩
  · exact ⟨W', O', v, rfl, hown, ho, hI', ht, ⟨hW.size.trans hF.size, hW.blocks.trans hF.blocks, hW.sure, by rw [hW.arn]; exact hF.used, by rw [hW.arn]; exact hF.room, hW.B.trans hF.B, fun b h1 h2 => by rw [hW.L]; exact hF.free b h1 h2, by have := hW.acts; have := hF.acts; omega⟩, hW.fault hfa, ⟨fun f v m hm => hm.stay hW.size (fun b hb => by rw [← hW.L]; exact hb) (fun i _ => by rw [hW.now]), by rw [hW.L]; rfl, hW.fault⟩⟩
  · exact absurd hfa hbad
end

set_option maxRecDepth 100000 in
set_option maxHeartbeats 8000000 in
theorem JoinNumbers_walk {w : World} (x : Nat) (hx : x < 256) (from_ : Int) (hlo : -9223372036854775808 ≤ from_) (a : Option Addr) (c : Nat) (l : List Tup) (hT : ∀ K : Key, w.heap.size ≤ K.base → Tps K w a l) (ht5 : ∀ t ∈ l, t.length = 5) (hll : l.length ≤ maxLen) :
    Calls Try.prog 3 #[.agg #[.int .u8 (x : Int), .slice a l.length c], .int .i64 from_] w (fun e w' => e = .returned (.bool true) ∧ Below w.heap.size w w') := by
  obtain ⟨wN, hwN⟩ : ∃ wN, wN = 1 + x % 5 := ⟨_, rfl⟩
  have hbl : Below w.heap.size w (w.alloc (.cells #[.int .u8 (x : Int), .slice a l.length c] 24)) := (Below.refl _ _).alloc (Nat.le_refl _) _
  have HB := Lib.hid hbl
  have hF := Blk.new w 24 #[.int .u8 (x : Int), .slice a l.length c]
  have HF := Lib.hid hF
  have HX := Lib.hid (And.intro hwN hx)
  have HT5 := Lib.hid ht5
  have HTP := Lib.hid hT
  have HLO := Lib.hid hlo
  have hz0 : w.heap.size < (w.alloc (.cells #[.int .u8 (x : Int), .slice a l.length c] 24)).heap.size := hF.lt
  clear hbl hF ht5 hT hwN hx hlo
  go_enter Try.func3, Try.ntmps3
  go_wp2_with fail
  generalize w.alloc (.cells #[.int .u8 (x : Int), .slice a l.length c] 24) = w1 at *
  refine (work13_ok w1).mono ?_
  rintro e w2 ⟨K, rfl, hI2, hK, hb2⟩
  have HI2 := Lib.hid hI2
  have HK := Lib.hid hK
  have HB2 := Lib.hid hb2
  clear hI2 hK hb2
  go_wp2_with fail
  refine (awake13_any w2).mono ?_
  rintro e w3 ⟨rfl, hb3⟩
  have HI3 := Lib.hid (HI2.out.below hb3)
  have HB3 := Lib.hid (HB2.out.trans (hb3.mono HB2.out.size))
  clear hb3 HI2 HB2
  by_cases hbig : (4611686018427387904 : Int) < from_
  · go_wp2_with fail
    refine (awake13_any w3).mono ?_
    rintro e w4 ⟨rfl, hb4⟩
    have HB4 := Lib.hid (HB.out.trans ((HB3.out.trans (hb4.mono HB3.out.size)).mono (Nat.le_of_lt hz0)))
    clear hb4
    go_wp2_with fail
    go_ret
    exact ⟨rfl, HB4.out⟩
  have hF3 := HF.out.below HB3.out HF.out.lt
  have j0 : w3.cell? ⟨w.heap.size, 0, none⟩ = some (.int .u8 (x : Int)) := hF3.cell 0
  have j1 : w3.cell? ⟨w.heap.size, 1, none⟩ = some (.slice a l.length c) := hF3.cell 1
  have HF3 := Lib.hid hF3
  have HTL := Lib.hid (((HTP.out K (by have := HK.out; omega)).below HB.out).below HB3.out)
  clear hF3 HF HTP
  by_cases hno : 200 < l.length ∨ allB wN l = false
  · have HL := Lib.hid (lay13_no x wN K.wk l a c w3 HX.out.1 HX.out.2 HTL.out HT5.out hno)
    clear hno
    go_wp2_with fail
    refine HL.out.mono ?_
    rintro e w4 ⟨rfl, hb4⟩
    unfold noFile
    have HB4 := Lib.hid (HB.out.trans ((HB3.out.trans (hb4.mono HB3.out.size)).mono (Nat.le_of_lt hz0)))
    clear hb4 HL
    go_wp2_with fail
    go_ret
    exact ⟨rfl, HB4.out.alloc HB4.out.size _⟩
  have hle : l.length ≤ 200 := by omega
  have hall : allB wN l = true := by
    cases h : allB wN l with
    | true => rfl
    | false => exact absurd (.inr h) hno
  have HL := Lib.hid (lay13_yes x wN l a c w3 HX.out.1 HX.out.2 HI3.out fine0 rfl (fun g hg => by
    unfold O0
    have := HB3.out.size
    rw [HK.out]
    omega) (by omega) (by omega) HTL.out HT5.out hle hall)
  clear hno hall
  go_wp2_with fail
  refine HL.out.mono ?_
  rintro e w4 ⟨first, W4, O4, rfl, ho4, hI4, ht4, f4, hfa4, hh4, af4⟩
  unfold fcells
  have hb4 := Turn.belowB HI3.out HK.out (fun _ h => h.elim) HB3.out ht4
  have hbn : Below w4.heap.size w4 (w4.alloc (.cells #[.int .i64 (first : Int), .int .i64 (nB 12 wN l.length : Int), .int .i64 (wN : Int), .int .i64 (l.length : Int)] 29)) := (Below.refl _ _).alloc (Nat.le_refl _) _
  have HG5 := Lib.hid (Blk.new w4 29 #[.int .i64 (first : Int), .int .i64 (nB 12 wN l.length : Int), .int .i64 (wN : Int), .int .i64 (l.length : Int)])
  have HF5 := Lib.hid ((HI3.out.blk ht4 HF3.out (by decide) (by decide) (by decide) (by decide) (by decide) (fun h => h)).below hbn (by have := HF3.out.lt; have := ht4.size; omega))
  have HTL5 := Lib.hid ((HTL.out.turn HI3.out ht4 (fun g _ h => h)).below hbn)
  have HI5 := Lib.hid (hI4.below hbn)
  have HB5 := Lib.hid (hb4.trans (hbn.mono hb4.size))
  have HP := Lib.hid (And.intro f4 (And.intro hfa4 (And.intro hh4 af4)))
  have HO5 := Lib.hid (fun g (hg : (w4.alloc (.cells #[.int .i64 (first : Int), .int .i64 (nB 12 wN l.length : Int), .int .i64 (wN : Int), .int .i64 (l.length : Int)] 29)).heap.size ≤ g) => ho4.1 g (by have := hbn.size; omega))
  have hz4 : w.heap.size < w4.heap.size := by have := HF3.out.lt; have := ht4.size; omega
  clear ho4 hI4 ht4 f4 hfa4 hh4 af4 hb4 hbn HL HF3 HTL HI3 j0 j1
  go_wp2_with fail
  generalize hfb : w4.heap.size = fb at *
  generalize w4.alloc (.cells #[.int .i64 (first : Int), .int .i64 (nB 12 wN l.length : Int), .int .i64 (wN : Int), .int .i64 (l.length : Int)] 29) = w5 at *
  have j0 : w5.cell? ⟨w.heap.size, 0, none⟩ = some (.int .u8 (x : Int)) := HF5.out.cell 0
  have j1 : w5.cell? ⟨w.heap.size, 1, none⟩ = some (.slice a l.length c) := HF5.out.cell 1
  have g0 : w5.cell? ⟨fb, 0, none⟩ = some (.int .i64 (first : Int)) := HG5.out.cell 0
  have g1 : w5.cell? ⟨fb, 1, none⟩ = some (.int .i64 (nB 12 wN l.length : Int)) := HG5.out.cell 1
  have g2 : w5.cell? ⟨fb, 2, none⟩ = some (.int .i64 (wN : Int)) := HG5.out.cell 2
  have g3 : w5.cell? ⟨fb, 3, none⟩ = some (.int .i64 (l.length : Int)) := HG5.out.cell 3
  obtain ⟨f5, hfa5, hh5, af5⟩ := HP.out
  by_cases h5 : wN = 5
  · have HN := Lib.hid (number_arg (p := 0) (w := w5) (first := (first : Int)) (blocks := (nB 12 wN l.length : Int)) (width := (wN : Int)) (count := (l.length : Int)) (from_ := from_) (rv := P K.wk) (.inr (by omega)))
    have hw5b : ((wN : Int) == 5) = true := by simp; omega
    clear h5
    refine HN.out.mono ?_
    rintro e w6 ⟨rfl, hb6⟩
    unfold noFile
    have hbn6 : Below w6.heap.size w6 (w6.alloc (.cells #[.int .i64 0, .int .i64 0, .int .i64 0, .int .i64 0] 29)) := (Below.refl _ _).alloc (Nat.le_refl _) _
    have hb56 : Below w5.heap.size w5 (w6.alloc (.cells #[.int .i64 0, .int .i64 0, .int .i64 0, .int .i64 0] 29)) := hb6.trans (hbn6.mono hb6.size)
    have HF7 := Lib.hid (HF5.out.below hb56 HF5.out.lt)
    have HG7 := Lib.hid (HG5.out.below hb56 HG5.out.lt)
    have HI7 := Lib.hid (HI5.out.below hb56)
    have HB7 := Lib.hid (HB5.out.trans (hb56.mono HB5.out.size))
    clear hb6 hbn6 hb56 j0 j1 g0 g1 g2 g3 HN HG5 HF5
    have j0 : (w6.alloc (.cells #[.int .i64 0, .int .i64 0, .int .i64 0, .int .i64 0] 29)).cell? ⟨w.heap.size, 0, none⟩ = some (.int .u8 (x : Int)) := HF7.out.cell 0
    have j1 : (w6.alloc (.cells #[.int .i64 0, .int .i64 0, .int .i64 0, .int .i64 0] 29)).cell? ⟨w.heap.size, 1, none⟩ = some (.slice a l.length c) := HF7.out.cell 1
    go_wp2_with fail
    generalize w6.alloc (.cells #[.int .i64 0, .int .i64 0, .int .i64 0, .int .i64 0] 29) = w7 at *
    refine (width13_any x wN (.slice a l.length c) w7 HX.out.1 HX.out.2).mono ?_
    rintro e w8 ⟨rfl, hb8⟩
    have HG8 := Lib.hid (HG7.out.below hb8 HG7.out.lt)
    have HI8 := Lib.hid (HI7.out.below hb8)
    have HB8 := Lib.hid (HB7.out.trans (hb8.mono HB7.out.size))
    have g0 : w8.cell? ⟨fb, 0, none⟩ = some (.int .i64 (first : Int)) := HG8.out.cell 0
    have g1 : w8.cell? ⟨fb, 1, none⟩ = some (.int .i64 (nB 12 wN l.length : Int)) := HG8.out.cell 1
    have g2 : w8.cell? ⟨fb, 2, none⟩ = some (.int .i64 (wN : Int)) := HG8.out.cell 2
    have g3 : w8.cell? ⟨fb, 3, none⟩ = some (.int .i64 (l.length : Int)) := HG8.out.cell 3
    have hbn9 : Below w8.heap.size w8 (w8.alloc (.cells #[.int .i64 (first : Int), .int .i64 (nB 12 wN l.length : Int), .int .i64 (wN : Int), .int .i64 (l.length : Int)] 29)) := (Below.refl _ _).alloc (Nat.le_refl _) _
    have hCL := clean13_ok [nB 12 wN l.length] w8.heap.size 1 (HI8.out.below hbn9) (fun i hi => by
      obtain rfl : i = 0 := by simp at hi; omega
      exact (Blk.new w8 29 #[.int .i64 (first : Int), .int .i64 (nB 12 wN l.length : Int), .int .i64 (wN : Int), .int .i64 (l.length : Int)]).cell 1) f5.used (by have h1 := af5.sum; rw [sum0] at h1; simp; omega) (by simp)
    have HCL := Lib.hid hCL
    have HB9 := Lib.hid (HB8.out.trans (hbn9.mono HB8.out.size))
    rw [show ([nB 12 wN l.length] : List Nat).length = 1 from rfl] at HCL
    clear hb8 hbn9 hCL j0 j1 HG7 HI7 HB7 HF7
    go_wp2_with fail
    refine HCL.out.mono ?_
    rintro e w9 ⟨rfl, hb9⟩
    go_wp2_with fail
    go_ret
    exact ⟨rfl, HB.out.trans ((HB9.out.trans (hb9.mono HB9.out.size)).mono (Nat.le_of_lt hz0))⟩
  · have h4 : wN ≤ 4 := by have := hh5.wid; omega
    have hw5b : ((wN : Int) == 5) = false := by simp; omega
    have HN := Lib.hid (number_c from_ HI5.out f5 hh5 h4 HLO.out (by omega) (by omega) (by omega) HO5.out)
    have hsum5 := af5.sum
    rw [sum0] at hsum5
    have HS5 := Lib.hid hsum5
    have HH5 := Lib.hid (And.intro hfa5 hh5)
    clear hsum5 f5 hfa5 hh5 af5 HP h5
    go_wp2_with fail
    refine HN.out.mono ?_
    rintro e w6 ⟨W6, O6, ho6, hI6, ht6, hh⟩
    rcases hh with ⟨first2, rfl, f6, hh6, af6⟩ | ⟨er, her, hwhy, rfl, _⟩
    rotate_left
    · rcases hwhy with ⟨_, h⟩ | h
      · exact absurd HH5.out.1 h
      · exact h.elim
    have hb6 := Turn.belowB HI5.out HK.out (fun _ h => h.elim) HB5.out ht6
    have hlen := numL_len l wN from_
    unfold fcells
    rw [hlen] at af6 ⊢
    rw [show (((wN + 1 : Nat) : Int)) = (wN : Int) + 1 from by omega]
    obtain ⟨n2, hn2⟩ : ∃ n2, n2 = nB 12 (wN + 1) l.length := ⟨_, rfl⟩
    rw [← hn2] at af6 ⊢
    have hbn : Below w6.heap.size w6 (w6.alloc (.cells #[.int .i64 (first2 : Int), .int .i64 (n2 : Int), .int .i64 ((wN : Int) + 1), .int .i64 (l.length : Int)] 29)) := (Below.refl _ _).alloc (Nat.le_refl _) _
    have HF7 := Lib.hid ((HI5.out.blk ht6 HF5.out (by decide) (by decide) (by decide) (by decide) (by decide) (fun h => h)).below hbn (by have := HF5.out.lt; have := ht6.size; omega))
    have HG7 := Lib.hid ((HI5.out.blk ht6 HG5.out (by decide) (by decide) (by decide) (by decide) (by decide) (fun h => h)).below hbn (by have := HG5.out.lt; have := ht6.size; omega))
    have HX7 := Lib.hid (Blk.new w6 29 #[.int .i64 (first2 : Int), .int .i64 (n2 : Int), .int .i64 ((wN : Int) + 1), .int .i64 (l.length : Int)])
    have HTL7 := Lib.hid ((HTL5.out.turn HI5.out ht6 (fun g _ h => h)).below hbn)
    have HI7 := Lib.hid (hI6.below hbn)
    have HB7 := Lib.hid (hb6.trans (hbn.mono hb6.size))
    have HP7 := Lib.hid (And.intro f6 (And.intro (af6.fault HH5.out.1) (And.intro hh6 (And.intro af6 hn2))))
    have HO7 := Lib.hid (fun g (hg : (w6.alloc (.cells #[.int .i64 (first2 : Int), .int .i64 (n2 : Int), .int .i64 ((wN : Int) + 1), .int .i64 (l.length : Int)] 29)).heap.size ≤ g) => ho6.1 g (by have := hbn.size; omega))
    have hz6 : fb < w6.heap.size := by have := HG5.out.lt; have := ht6.size; omega
    have j0' : (w6.alloc (.cells #[.int .i64 (first2 : Int), .int .i64 (n2 : Int), .int .i64 ((wN : Int) + 1), .int .i64 (l.length : Int)] 29)).cell? ⟨w.heap.size, 0, none⟩ = some (.int .u8 (x : Int)) := HF7.out.cell 0
    have j1' : (w6.alloc (.cells #[.int .i64 (first2 : Int), .int .i64 (n2 : Int), .int .i64 ((wN : Int) + 1), .int .i64 (l.length : Int)] 29)).cell? ⟨w.heap.size, 1, none⟩ = some (.slice a l.length c) := HF7.out.cell 1
    clear j0 j1 g0 g1 g2 g3 hlen hbn hb6 ho6 hI6 ht6 f6 hh6 af6 hn2 HN HI5 HTL5 HG5 HF5
    go_wp2_with fail
    generalize hxb : w6.heap.size = xb at *
    generalize w6.alloc (.cells #[.int .i64 (first2 : Int), .int .i64 (n2 : Int), .int .i64 ((wN : Int) + 1), .int .i64 (l.length : Int)] 29) = w7 at *
    refine (width13_any x wN (.slice a l.length c) w7 HX.out.1 HX.out.2).mono ?_
    rintro e w8 ⟨rfl, hb8⟩
    have HF8 := Lib.hid (HF7.out.below hb8 HF7.out.lt)
    have HG8 := Lib.hid (HG7.out.below hb8 HG7.out.lt)
    have HX8 := Lib.hid (HX7.out.below hb8 HX7.out.lt)
    have HTL8 := Lib.hid (HTL7.out.below hb8)
    have HI8 := Lib.hid (HI7.out.below hb8)
    have HB8 := Lib.hid (HB7.out.trans (hb8.mono HB7.out.size))
    have HO8 := Lib.hid (fun g (hg : w8.heap.size ≤ g) => HO7.out g (by have := hb8.size; omega))
    have g0 : w8.cell? ⟨xb, 0, none⟩ = some (.int .i64 (first2 : Int)) := HX8.out.cell 0
    have g1 : w8.cell? ⟨xb, 1, none⟩ = some (.int .i64 (n2 : Int)) := HX8.out.cell 1
    have g2 : w8.cell? ⟨xb, 2, none⟩ = some (.int .i64 ((wN : Int) + 1)) := HX8.out.cell 2
    have g3 : w8.cell? ⟨xb, 3, none⟩ = some (.int .i64 (l.length : Int)) := HX8.out.cell 3
    obtain ⟨f8, hfa8, hh8, af8, hn2⟩ := HP7.out
    have HLS := list_f HI8.out f8 hfa8 hh8 (by omega)
    rw [numL_len, ← hn2, show (((wN + 1 : Nat) : Int)) = (wN : Int) + 1 from by omega] at HLS
    replace HLS := Lib.hid HLS
    clear hb8 j0' j1' HF7 HG7 HX7 HTL7 HI7 HB7 HO7 f8 hfa8 hh8 af8 hn2
    go_wp2_with fail
    refine HLS.out.mono ?_
    rintro e w9 ⟨W9, O9, v9, rfl, hown9, ho9, hI9, ht9, f9, hfa9, af9⟩
    have hown9' : w9.ownsRow w8.heap.size 57 5 v9 (numL l wN from_).length (flatT (numL l wN from_)) := by rw [numL_len]; exact hown9
    have ht5n : ∀ t ∈ numL l wN from_, t.length = 5 := fun t ht => ((HP7.out.2.2.1).fits t ht).1
    obtain ⟨a9, c9, hv9, hT9, _⟩ := tps_own (K := K) hown9' ht5n
    rw [numL_len] at hv9
    subst hv9
    have hb9 := Turn.belowB HI8.out HK.out (fun _ h => h.elim) HB8.out ht9
    have hF9 := HI8.out.blk ht9 HF8.out (by decide) (by decide) (by decide) (by decide) (by decide) (fun h => h)
    have hG9 := HI8.out.blk ht9 HG8.out (by decide) (by decide) (by decide) (by decide) (by decide) (fun h => h)
    have hX9 := HI8.out.blk ht9 HX8.out (by decide) (by decide) (by decide) (by decide) (by decide) (fun h => h)
    have hTL9 := HTL8.out.turn HI8.out ht9 (fun g _ h => h)
    have hsum9 : Sp.sumX W9.L + (nB 12 wN l.length + n2) = 5000 := by
      have h1 := HS5.out
      have h2 := HP7.out.2.2.2.1.sum
      have h3 := af9.sum
      omega
    have hu9 := f9.used
    have hd0 : Below w9.heap.size w9 w9.drew := (Below.refl _ _).drew
    have hlt : l.length ≤ 1000000 := by omega
    have hN4 : wN ≤ 4 := by have h := HP7.out.2.2.1.wid.2; omega
    have CELL := Lib.hid (fun W' (h : Below w9.heap.size w9 W') => (And.intro (hF9.below h hF9.lt) (And.intro (hG9.below h hG9.lt) (hX9.below h hX9.lt))))
    have WID := Lib.hid (fun W' (h : Below w9.heap.size w9 W') => (width13_any x wN (.slice a l.length c) W' HX.out.1 HX.out.2).mono (fun e w' he => (⟨he.1, h.trans (he.2.mono h.size)⟩ : e = Ending.returned (.int .i64 (wN : Int)) ∧ Below w9.heap.size w9 w')))
    have RN := Lib.hid (fun W' (h : Below w9.heap.size w9 W') => (refnum_any l wN from_ a c W' hN4 (hTL9.below h) HT5.out hlt HLO.out (by omega)).mono (fun e w' ⟨v, he, ho, hb⟩ => (show ∃ a2 c2, e = Ending.returned (.slice a2 l.length c2) ∧ Tps K w' a2 (numL l wN from_) ∧ Below w9.heap.size w9 w' from by
      have ho' : w'.ownsRow W'.heap.size 57 5 v (numL l wN from_).length (flatT (numL l wN from_)) := by rw [numL_len]; exact ho
      obtain ⟨a2, c2, hv, hT2, _⟩ := tps_own (K := K) ho' ht5n
      rw [numL_len] at hv
      exact ⟨a2, c2, by rw [he, hv], hT2, h.trans (hb.mono h.size)⟩)))
    have SAME := Lib.hid (fun W' a2 c2 (h : Below w9.heap.size w9 W') (h2 : Tps K W' a2 (numL l wN from_)) => (refsame_yes (numL l wN from_) a9 a2 c9 c2 W' (hT9.below h) h2 ht5n (by rw [numL_len]; exact hlt)).mono (fun e w' ⟨he, m, hm⟩ => (⟨he, by rw [hm]; exact ⟨h.os, h.tape, h.output, h.size, h.block⟩⟩ : e = Ending.returned (.bool true) ∧ Below w9.heap.size w9 w')))
    simp only [numL_len] at SAME
    have CL := Lib.hid (fun W' (h : Below w9.heap.size w9 W') => (clean13_ok [nB 12 wN l.length, n2] W'.heap.size 2 ((hI9.below h).below ((Below.refl W'.heap.size W').alloc (Nat.le_refl _) (.cells #[.int .i64 (first : Int), .int .i64 (nB 12 wN l.length : Int), .int .i64 (wN : Int), .int .i64 (l.length : Int), .int .i64 (first2 : Int), .int .i64 (n2 : Int), .int .i64 ((wN : Int) + 1), .int .i64 (l.length : Int)] 29))) (fun i hi => by
      have hB := Blk.new W' 29 #[.int .i64 (first : Int), .int .i64 (nB 12 wN l.length : Int), .int .i64 (wN : Int), .int .i64 (l.length : Int), .int .i64 (first2 : Int), .int .i64 (n2 : Int), .int .i64 ((wN : Int) + 1), .int .i64 (l.length : Int)]
      have hi2 : i < 2 := hi
      obtain rfl | rfl : i = 0 ∨ i = 1 := by omega
      · exact hB.cell 1
      · exact hB.cell 5) hu9 (by simpa using hsum9) (by simp)).mono (fun e w' he => (⟨he.1, (h.alloc h.size (.cells #[.int .i64 (first : Int), .int .i64 (nB 12 wN l.length : Int), .int .i64 (wN : Int), .int .i64 (l.length : Int), .int .i64 (first2 : Int), .int .i64 (n2 : Int), .int .i64 ((wN : Int) + 1), .int .i64 (l.length : Int)] 29)).trans (he.2.mono (by have := h.size; simp; omega))⟩ : e = Ending.returned (.bool true) ∧ Below w9.heap.size w9 w')))
    simp only [List.length_cons, List.length_nil] at CL
    have HB9 := Lib.hid hb9
    have hnw : IntKind.i64.wrap ((wN : Int) + 1) = (wN : Int) + 1 := by rw [IntKind.wrap_i64]; omega
    clear hown9 hown9' ht5n hT9 hb9 hF9 hG9 hX9 hTL9 hsum9 hu9 ho9 hI9 ht9 f9 hfa9 af9 g0 g1 g2 g3 HLS HF8 HG8 HX8 HTL8 HI8
    go_wp2_with fail
    go_region_held3 (fun w' => w'.cell? ⟨w.heap.size, 0, none⟩ = some (.int .u8 (x : Int)) ∧ w'.cell? ⟨w.heap.size, 1, none⟩ = some (.slice a l.length c) ∧ w'.cell? ⟨fb, 0, none⟩ = some (.int .i64 (first : Int)) ∧ w'.cell? ⟨fb, 1, none⟩ = some (.int .i64 (nB 12 wN l.length : Int)) ∧ w'.cell? ⟨fb, 2, none⟩ = some (.int .i64 (wN : Int)) ∧ w'.cell? ⟨fb, 3, none⟩ = some (.int .i64 (l.length : Int)) ∧ w'.cell? ⟨xb, 0, none⟩ = some (.int .i64 (first2 : Int)) ∧ w'.cell? ⟨xb, 1, none⟩ = some (.int .i64 (n2 : Int)) ∧ w'.cell? ⟨xb, 2, none⟩ = some (.int .i64 ((wN : Int) + 1)) ∧ w'.cell? ⟨xb, 3, none⟩ = some (.int .i64 (l.length : Int)))
      (exact ⟨(CELL.out _ (by assumption)).1.cell 0, (CELL.out _ (by assumption)).1.cell 1, (CELL.out _ (by assumption)).2.1.cell 0, (CELL.out _ (by assumption)).2.1.cell 1, (CELL.out _ (by assumption)).2.1.cell 2, (CELL.out _ (by assumption)).2.1.cell 3, (CELL.out _ (by assumption)).2.2.cell 0, (CELL.out _ (by assumption)).2.2.cell 1, (CELL.out _ (by assumption)).2.2.cell 2, (CELL.out _ (by assumption)).2.2.cell 3⟩)
      (first
        | (go_at_call 13; refine (WID.out _ (by assumption)).mono ?_; rintro e wwd ⟨rfl, hwd⟩)
        | (go_at_call 17; refine (RN.out _ (by assumption)).mono ?_; rintro e wrn ⟨a2, c2, rfl, hT2, hrn⟩)
        | (go_at_call 16; refine (SAME.out _ _ _ (by assumption) (by assumption)).mono ?_; rintro e wsm ⟨rfl, hsm⟩; have hsa := Below.alloc hsm hsm.size (.cells #[.int .i64 (first : Int), .int .i64 (nB 12 wN l.length : Int), .int .i64 (wN : Int), .int .i64 (l.length : Int), .int .i64 (first2 : Int), .int .i64 (n2 : Int), .int .i64 ((wN : Int) + 1), .int .i64 (l.length : Int)] 29))
        | (go_at_call 14; refine (CL.out _ (by assumption)).mono ?_; rintro e wcl ⟨rfl, hcl⟩))
    go_wp2_with fail
    go_ret
    exact ⟨rfl, HB.out.trans ((HB9.out.trans (hcl.mono HB9.out.size)).mono (Nat.le_of_lt hz0))⟩

/-- A table that came in as a law's argument. -/
theorem table_open {w : World} {cs : Array Value} {p : Int × List (List Int)} (h : rdPair 1 1 (rdInt .u8) (rdSlice 5 (rdArr 5 1 (rdInt .i64))) w cs.toList p) :
    ∃ (x : Nat) (a : Option Addr) (c : Nat) (lt : List Tup), cs = #[.int .u8 (x : Int), .slice a lt.length c] ∧ x < 256 ∧ (∀ t ∈ lt, t.length = 5) ∧ lt.length ≤ maxLen ∧ ∀ K : Key, w.heap.size ≤ K.base → Tps K w a lt := by
  obtain ⟨hl, ⟨h1, hx⟩, h2⟩ := h
  obtain ⟨cs⟩ := cs
  match cs, hl with
  | [u, v], _ =>
    simp at h1 h2
    obtain ⟨a, n, c, hv, _⟩ := (show ∃ a n c, v = .slice a n c ∧ True from by
      obtain ⟨a', n', c', e, _⟩ := h2
      simp only [List.cons.injEq, and_true] at e
      exact ⟨a', n', c', e, trivial⟩)
    subst hv
    obtain ⟨lt, hn, h5, hm, _, hT⟩ := tups_of h2
    subst hn
    have hb := u_bounds.2.2.1 hx
    refine ⟨p.1.toNat, a, c, lt, ?_, by omega, h5, hm, hT⟩
    rw [h1, show ((p.1.toNat : Nat) : Int) = p.1 from by omega]
theorem JoinNumbers_law {w : World} (cs : Array Value) (p : Int × List (List Int)) (h : rdPair 1 1 (rdInt .u8) (rdSlice 5 (rdArr 5 1 (rdInt .i64))) w cs.toList p) (from_ : Int) (hf : (Lit.int .i64 from_).wf = true) :
    Calls Try.prog 3 #[.agg cs, .int .i64 from_] w fun e w' => e = .returned (.bool true) ∧ Below w.heap.size w w' := by
  obtain ⟨x, a, c, l, rfl, hx, h5, hm, hT⟩ := table_open h
  exact JoinNumbers_walk x hx from_ (by have := u_bounds.2.2.2.2 hf; omega) a c l hT h5 hm

end Go.Proofs.Ytlbaigkpojkfjaa.Fl
