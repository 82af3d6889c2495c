/- The law JoinKeeps. -/
import Derived.Test.YtlbaigkpojkfjaaZJnNumbers
import Derived.Test.YtlbaigkpojkfjaaZJnRefK
set_option linter.unusedVariables false
namespace Go.Proofs.Ytlbaigkpojkfjaa.Fl
open Go.RowKit

set_option maxRecDepth 100000 in
set_option maxHeartbeats 8000000 in
theorem JoinKeeps_walk {w : World} (x : Nat) (hx : x < 256) (col lo hi : Int) (a : Option Addr) (c : Nat) (l : List Tup) (hT : ∀ K : Key, w.heap.size ≤ K.base → Tps K w a l) (ht5 : ∀ t ∈ l, t.length = 5) (hll : l.length ≤ maxLen) :
    Calls Try.prog 4 #[.agg #[.int .u8 (x : Int), .slice a l.length c], .int .i64 col, .agg #[.int .i64 lo, .int .i64 hi]] w (fun e w' => e = .returned (.bool true) ∧ Below w.heap.size w w') := by
  obtain ⟨wN, hwN⟩ : ∃ wN, wN = 1 + x % 5 := ⟨_, rfl⟩
  have hbl : Below w.heap.size w ((w.alloc (.cells #[.int .u8 (x : Int), .slice a l.length c] 24)).alloc (.cells #[.int .i64 lo, .int .i64 hi] 43)) := ((Below.refl _ _).alloc (Nat.le_refl _) _).alloc (by simp) _
  have HB := Lib.hid hbl
  have hF := (Blk.new w 24 #[.int .u8 (x : Int), .slice a l.length c]).alloc (.cells #[.int .i64 lo, .int .i64 hi] 43)
  have hY := Blk.new (w.alloc (.cells #[.int .u8 (x : Int), .slice a l.length c] 24)) 43 #[.int .i64 lo, .int .i64 hi]
  rw [show (w.alloc (.cells #[.int .u8 (x : Int), .slice a l.length c] 24)).heap.size = w.heap.size + 1 from by simp] at hY
  have HY := Lib.hid hY
  have HF := Lib.hid hF
  have HX := Lib.hid (And.intro hwN hx)
  have HT5 := Lib.hid ht5
  have HTP := Lib.hid hT
  have hz0 : w.heap.size < ((w.alloc (.cells #[.int .u8 (x : Int), .slice a l.length c] 24)).alloc (.cells #[.int .i64 lo, .int .i64 hi] 43)).heap.size := hF.lt
  clear hbl hF hY ht5 hT hwN hx
  go_enter Try.func4, Try.ntmps4
  go_wp2_with fail
  generalize ((w.alloc (.cells #[.int .u8 (x : Int), .slice a l.length c] 24)).alloc (.cells #[.int .i64 lo, .int .i64 hi] 43)) = w1 at *
  refine (work13_ok w1).mono ?_
  rintro e w2 ⟨K, rfl, hI2, hK, hb2⟩
  have HI2 := Lib.hid hI2
  have HK := Lib.hid hK
  have HB2 := Lib.hid hb2
  clear hI2 hK hb2
  go_wp2_with fail
  refine (awake13_any w2).mono ?_
  rintro e w3 ⟨rfl, hb3⟩
  have HI3 := Lib.hid (HI2.out.below hb3)
  have HB3 := Lib.hid (HB2.out.trans (hb3.mono HB2.out.size))
  clear hb3 HI2 HB2
  have hF3 := HF.out.below HB3.out HF.out.lt
  have j0 : w3.cell? ⟨w.heap.size, 0, none⟩ = some (.int .u8 (x : Int)) := hF3.cell 0
  have j1 : w3.cell? ⟨w.heap.size, 1, none⟩ = some (.slice a l.length c) := hF3.cell 1
  have HF3 := Lib.hid hF3
  have hY3 := HY.out.below HB3.out HY.out.lt
  have HY3 := Lib.hid hY3
  have HTL := Lib.hid (((HTP.out K (by have := HK.out; omega)).below HB.out).below HB3.out)
  clear hF3 HF HTP hY3 HY
  by_cases hno : 200 < l.length ∨ allB wN l = false
  · have HL := Lib.hid (lay13_no x wN K.wk l a c w3 HX.out.1 HX.out.2 HTL.out HT5.out hno)
    clear hno
    go_wp2_with fail
    refine HL.out.mono ?_
    rintro e w4 ⟨rfl, hb4⟩
    unfold noFile
    have HB4 := Lib.hid (HB.out.trans ((HB3.out.trans (hb4.mono HB3.out.size)).mono (Nat.le_of_lt hz0)))
    clear hb4 HL
    go_wp2_with fail
    go_ret
    exact ⟨rfl, HB4.out.alloc HB4.out.size _⟩
  have hle : l.length ≤ 200 := by omega
  have hall : allB wN l = true := by
    cases h : allB wN l with
    | true => rfl
    | false => exact absurd (.inr h) hno
  have HL := Lib.hid (lay13_yes x wN l a c w3 HX.out.1 HX.out.2 HI3.out fine0 rfl (fun g hg => by
    unfold O0
    have := HB3.out.size
    rw [HK.out]
    omega) (by omega) (by omega) HTL.out HT5.out hle hall)
  clear hno hall
  go_wp2_with fail
  refine HL.out.mono ?_
  rintro e w4 ⟨first, W4, O4, rfl, ho4, hI4, ht4, f4, hfa4, hh4, af4⟩
  unfold fcells
  have hb4 := Turn.belowB HI3.out HK.out (fun _ h => h.elim) HB3.out ht4
  have hbn : Below w4.heap.size w4 (w4.alloc (.cells #[.int .i64 (first : Int), .int .i64 (nB 12 wN l.length : Int), .int .i64 (wN : Int), .int .i64 (l.length : Int)] 29)) := (Below.refl _ _).alloc (Nat.le_refl _) _
  have HG5 := Lib.hid (Blk.new w4 29 #[.int .i64 (first : Int), .int .i64 (nB 12 wN l.length : Int), .int .i64 (wN : Int), .int .i64 (l.length : Int)])
  have HF5 := Lib.hid ((HI3.out.blk ht4 HF3.out (by decide) (by decide) (by decide) (by decide) (by decide) (fun h => h)).below hbn (by have := HF3.out.lt; have := ht4.size; omega))
  have HY5 := Lib.hid ((HI3.out.blk ht4 HY3.out (by decide) (by decide) (by decide) (by decide) (by decide) (fun h => h)).below hbn (by have := HY3.out.lt; have := ht4.size; omega))
  have HTL5 := Lib.hid ((HTL.out.turn HI3.out ht4 (fun g _ h => h)).below hbn)
  have HI5 := Lib.hid (hI4.below hbn)
  have HB5 := Lib.hid (hb4.trans (hbn.mono hb4.size))
  have HP := Lib.hid (And.intro f4 (And.intro hfa4 (And.intro hh4 af4)))
  have HO5 := Lib.hid (fun g (hg : (w4.alloc (.cells #[.int .i64 (first : Int), .int .i64 (nB 12 wN l.length : Int), .int .i64 (wN : Int), .int .i64 (l.length : Int)] 29)).heap.size ≤ g) => ho4.1 g (by have := hbn.size; omega))
  have hz4 : w.heap.size < w4.heap.size := by have := HF3.out.lt; have := ht4.size; omega
  clear ho4 hI4 ht4 f4 hfa4 hh4 af4 hb4 hbn HL HF3 HY3 HTL HI3 j0 j1
  have j2 : (w4.alloc (.cells #[.int .i64 (first : Int), .int .i64 (nB 12 wN l.length : Int), .int .i64 (wN : Int), .int .i64 (l.length : Int)] 29)).cell? ⟨w.heap.size + 1, 0, none⟩ = some (.int .i64 lo) := HY5.out.cell 0
  have j3 : (w4.alloc (.cells #[.int .i64 (first : Int), .int .i64 (nB 12 wN l.length : Int), .int .i64 (wN : Int), .int .i64 (l.length : Int)] 29)).cell? ⟨w.heap.size + 1, 1, none⟩ = some (.int .i64 hi) := HY5.out.cell 1
  go_wp2_with fail
  generalize hfb : w4.heap.size = fb at *
  generalize w4.alloc (.cells #[.int .i64 (first : Int), .int .i64 (nB 12 wN l.length : Int), .int .i64 (wN : Int), .int .i64 (l.length : Int)] 29) = w5 at *
  have j0 : w5.cell? ⟨w.heap.size, 0, none⟩ = some (.int .u8 (x : Int)) := HF5.out.cell 0
  have j1 : w5.cell? ⟨w.heap.size, 1, none⟩ = some (.slice a l.length c) := HF5.out.cell 1
  have g0 : w5.cell? ⟨fb, 0, none⟩ = some (.int .i64 (first : Int)) := HG5.out.cell 0
  have g1 : w5.cell? ⟨fb, 1, none⟩ = some (.int .i64 (nB 12 wN l.length : Int)) := HG5.out.cell 1
  have g2 : w5.cell? ⟨fb, 2, none⟩ = some (.int .i64 (wN : Int)) := HG5.out.cell 2
  have g3 : w5.cell? ⟨fb, 3, none⟩ = some (.int .i64 (l.length : Int)) := HG5.out.cell 3
  obtain ⟨f5, hfa5, hh5, af5⟩ := HP.out
  by_cases hbadc : col < 0 ∨ (wN : Int) ≤ col
  · have HN := Lib.hid (keep_arg (w := w5) (first := (first : Int)) (blocks := (nB 12 wN l.length : Int)) (width := (wN : Int)) (count := (l.length : Int)) (col := col) (lo := lo) (hi := hi) (rv := P K.wk) (by omega))
    refine HN.out.mono ?_
    rintro e w6 ⟨rfl, hb6⟩
    unfold noFile
    have hbn6 : Below w6.heap.size w6 (w6.alloc (.cells #[.int .i64 0, .int .i64 0, .int .i64 0, .int .i64 0] 29)) := (Below.refl _ _).alloc (Nat.le_refl _) _
    have hb56 : Below w5.heap.size w5 (w6.alloc (.cells #[.int .i64 0, .int .i64 0, .int .i64 0, .int .i64 0] 29)) := hb6.trans (hbn6.mono hb6.size)
    have HF7 := Lib.hid (HF5.out.below hb56 HF5.out.lt)
    have HG7 := Lib.hid (HG5.out.below hb56 HG5.out.lt)
    have HI7 := Lib.hid (HI5.out.below hb56)
    have HB7 := Lib.hid (HB5.out.trans (hb56.mono HB5.out.size))
    clear hb6 hbn6 hb56 j0 j1 j2 j3 g0 g1 g2 g3 HN HG5 HF5
    by_cases hneg : col < 0
    · have j0 : (w6.alloc (.cells #[.int .i64 0, .int .i64 0, .int .i64 0, .int .i64 0] 29)).cell? ⟨w.heap.size, 0, none⟩ = some (.int .u8 (x : Int)) := HF7.out.cell 0
      obtain ⟨w8, hw8⟩ : ∃ w8, w8 = (w6.alloc (.cells #[.int .i64 0, .int .i64 0, .int .i64 0, .int .i64 0] 29)) := ⟨_, rfl⟩
      rw [← hw8] at HF7 HG7 HI7 HB7 j0
      have HG8 := HG7
      have HI8 := HI7
      have HB8 := HB7
      have g0 : (w6.alloc (.cells #[.int .i64 0, .int .i64 0, .int .i64 0, .int .i64 0] 29)).cell? ⟨fb, 0, none⟩ = some (.int .i64 (first : Int)) := by rw [← hw8]; exact HG7.out.cell 0
      have g1 : (w6.alloc (.cells #[.int .i64 0, .int .i64 0, .int .i64 0, .int .i64 0] 29)).cell? ⟨fb, 1, none⟩ = some (.int .i64 (nB 12 wN l.length : Int)) := by rw [← hw8]; exact HG7.out.cell 1
      have g2 : (w6.alloc (.cells #[.int .i64 0, .int .i64 0, .int .i64 0, .int .i64 0] 29)).cell? ⟨fb, 2, none⟩ = some (.int .i64 (wN : Int)) := by rw [← hw8]; exact HG7.out.cell 2
      have g3 : (w6.alloc (.cells #[.int .i64 0, .int .i64 0, .int .i64 0, .int .i64 0] 29)).cell? ⟨fb, 3, none⟩ = some (.int .i64 (l.length : Int)) := by rw [← hw8]; exact HG7.out.cell 3
      have hbn9 : Below w8.heap.size w8 (w8.alloc (.cells #[.int .i64 (first : Int), .int .i64 (nB 12 wN l.length : Int), .int .i64 (wN : Int), .int .i64 (l.length : Int)] 29)) := (Below.refl _ _).alloc (Nat.le_refl _) _
      have hCL := clean13_ok [nB 12 wN l.length] w8.heap.size 1 (HI8.out.below hbn9) (fun i hi => by
        obtain rfl : i = 0 := by simp at hi; omega
        exact (Blk.new w8 29 #[.int .i64 (first : Int), .int .i64 (nB 12 wN l.length : Int), .int .i64 (wN : Int), .int .i64 (l.length : Int)]).cell 1) f5.used (by have h1 := af5.sum; rw [sum0] at h1; simp; omega) (by simp)
      have HCL := Lib.hid hCL
      have HB9 := Lib.hid (HB8.out.trans (hbn9.mono HB8.out.size))
      rw [show ([nB 12 wN l.length] : List Nat).length = 1 from rfl] at HCL
      clear hbn9 hCL
      rw [hw8] at HCL HB9
      rw [show (w6.alloc (.cells #[.int .i64 0, .int .i64 0, .int .i64 0, .int .i64 0] 29)).heap.size = w6.heap.size + 1 from by simp] at HCL
      clear HG7 HI7 HB7 HF7 HG8 HI8 HB8 j0
      clear hbadc hw8
      go_wp2_with fail
      refine HCL.out.mono ?_
      rintro e w9 ⟨rfl, hb9⟩
      go_wp2_with fail
      go_ret
      exact ⟨rfl, HB.out.trans ((HB9.out.trans (hb9.mono HB9.out.size)).mono (Nat.le_of_lt hz0))⟩
    · have hge : (wN : Int) ≤ col := by omega
      clear hbadc
      have j0 : (w6.alloc (.cells #[.int .i64 0, .int .i64 0, .int .i64 0, .int .i64 0] 29)).cell? ⟨w.heap.size, 0, none⟩ = some (.int .u8 (x : Int)) := HF7.out.cell 0
      have j1 : (w6.alloc (.cells #[.int .i64 0, .int .i64 0, .int .i64 0, .int .i64 0] 29)).cell? ⟨w.heap.size, 1, none⟩ = some (.slice a l.length c) := HF7.out.cell 1
      go_wp2_with fail
      generalize w6.alloc (.cells #[.int .i64 0, .int .i64 0, .int .i64 0, .int .i64 0] 29) = w7 at *
      refine (width13_any x wN (.slice a l.length c) w7 HX.out.1 HX.out.2).mono ?_
      rintro e w8 ⟨rfl, hb8⟩
      have HG8 := Lib.hid (HG7.out.below hb8 HG7.out.lt)
      have HI8 := Lib.hid (HI7.out.below hb8)
      have HB8 := Lib.hid (HB7.out.trans (hb8.mono HB7.out.size))
      have g0 : w8.cell? ⟨fb, 0, none⟩ = some (.int .i64 (first : Int)) := HG8.out.cell 0
      have g1 : w8.cell? ⟨fb, 1, none⟩ = some (.int .i64 (nB 12 wN l.length : Int)) := HG8.out.cell 1
      have g2 : w8.cell? ⟨fb, 2, none⟩ = some (.int .i64 (wN : Int)) := HG8.out.cell 2
      have g3 : w8.cell? ⟨fb, 3, none⟩ = some (.int .i64 (l.length : Int)) := HG8.out.cell 3
      have hbn9 : Below w8.heap.size w8 (w8.alloc (.cells #[.int .i64 (first : Int), .int .i64 (nB 12 wN l.length : Int), .int .i64 (wN : Int), .int .i64 (l.length : Int)] 29)) := (Below.refl _ _).alloc (Nat.le_refl _) _
      have hCL := clean13_ok [nB 12 wN l.length] w8.heap.size 1 (HI8.out.below hbn9) (fun i hi => by
        obtain rfl : i = 0 := by simp at hi; omega
        exact (Blk.new w8 29 #[.int .i64 (first : Int), .int .i64 (nB 12 wN l.length : Int), .int .i64 (wN : Int), .int .i64 (l.length : Int)]).cell 1) f5.used (by have h1 := af5.sum; rw [sum0] at h1; simp; omega) (by simp)
      have HCL := Lib.hid hCL
      have HB9 := Lib.hid (HB8.out.trans (hbn9.mono HB8.out.size))
      rw [show ([nB 12 wN l.length] : List Nat).length = 1 from rfl] at HCL
      clear hb8 hbn9 hCL HG7 HI7 HB7 HF7
      go_wp2_with fail
      refine HCL.out.mono ?_
      rintro e w9 ⟨rfl, hb9⟩
      go_wp2_with fail
      go_ret
      exact ⟨rfl, HB.out.trans ((HB9.out.trans (hb9.mono HB9.out.size)).mono (Nat.le_of_lt hz0))⟩
  · obtain ⟨cn, rfl⟩ := Int.eq_ofNat_of_zero_le (show 0 ≤ col by omega)
    have hcn : cn < wN := by omega
    have hcn0 : ¬ (cn : Int) < 0 := by omega
    have hcnw : ¬ (wN : Int) ≤ (cn : Int) := by omega
    have HN := Lib.hid (keep_c lo hi HI5.out f5 hh5 hcn (by omega) (by omega) HO5.out)
    have hsum5 := af5.sum
    rw [sum0] at hsum5
    have HS5 := Lib.hid hsum5
    have HH5 := Lib.hid (And.intro hfa5 hh5)
    clear hsum5 f5 hfa5 hh5 af5 HP hbadc
    go_wp2_with fail
    refine HN.out.mono ?_
    rintro e w6 ⟨W6, O6, ho6, hI6, ht6, hh⟩
    rcases hh with ⟨first2, rfl, f6, hh6, af6⟩ | ⟨er, her, hwhy, rfl, _⟩
    rotate_left
    · rcases hwhy with ⟨_, h⟩ | h
      · exact absurd HH5.out.1 h
      · exact h.elim
    have hb6 := Turn.belowB HI5.out HK.out (fun _ h => h.elim) HB5.out ht6
    obtain ⟨lk, hlk⟩ : ∃ lk, lk = l.filter (keepB cn lo hi) := ⟨_, rfl⟩
    rw [← hlk] at hh6 af6 ⊢
    obtain ⟨nk, hnk⟩ : ∃ nk, nk = lk.length := ⟨_, rfl⟩
    have hkl : nk ≤ l.length := by rw [hnk, hlk]; exact List.length_filter_le _ _
    unfold fcells
    rw [← hnk] at af6 ⊢
    obtain ⟨n2, hn2⟩ : ∃ n2, n2 = nB 12 wN nk := ⟨_, rfl⟩
    rw [← hn2] at af6 ⊢
    have hbn : Below w6.heap.size w6 (w6.alloc (.cells #[.int .i64 (first2 : Int), .int .i64 (n2 : Int), .int .i64 (wN : Int), .int .i64 (nk : Int)] 29)) := (Below.refl _ _).alloc (Nat.le_refl _) _
    have HF7 := Lib.hid ((HI5.out.blk ht6 HF5.out (by decide) (by decide) (by decide) (by decide) (by decide) (fun h => h)).below hbn (by have := HF5.out.lt; have := ht6.size; omega))
    have HG7 := Lib.hid ((HI5.out.blk ht6 HG5.out (by decide) (by decide) (by decide) (by decide) (by decide) (fun h => h)).below hbn (by have := HG5.out.lt; have := ht6.size; omega))
    have HX7 := Lib.hid (Blk.new w6 29 #[.int .i64 (first2 : Int), .int .i64 (n2 : Int), .int .i64 (wN : Int), .int .i64 (nk : Int)])
    have HY7 := Lib.hid ((HI5.out.blk ht6 HY5.out (by decide) (by decide) (by decide) (by decide) (by decide) (fun h => h)).below hbn (by have := HY5.out.lt; have := ht6.size; omega))
    have HTL7 := Lib.hid ((HTL5.out.turn HI5.out ht6 (fun g _ h => h)).below hbn)
    have HI7 := Lib.hid (hI6.below hbn)
    have HB7 := Lib.hid (hb6.trans (hbn.mono hb6.size))
    have HP7 := Lib.hid (And.intro f6 (And.intro (af6.fault HH5.out.1) (And.intro hh6 (And.intro af6 (And.intro hn2 (And.intro hnk hlk))))))
    have HO7 := Lib.hid (fun g (hg : (w6.alloc (.cells #[.int .i64 (first2 : Int), .int .i64 (n2 : Int), .int .i64 (wN : Int), .int .i64 (nk : Int)] 29)).heap.size ≤ g) => ho6.1 g (by have := hbn.size; omega))
    have hz6 : fb < w6.heap.size := by have := HG5.out.lt; have := ht6.size; omega
    have j0' : (w6.alloc (.cells #[.int .i64 (first2 : Int), .int .i64 (n2 : Int), .int .i64 (wN : Int), .int .i64 (nk : Int)] 29)).cell? ⟨w.heap.size, 0, none⟩ = some (.int .u8 (x : Int)) := HF7.out.cell 0
    have j1' : (w6.alloc (.cells #[.int .i64 (first2 : Int), .int .i64 (n2 : Int), .int .i64 (wN : Int), .int .i64 (nk : Int)] 29)).cell? ⟨w.heap.size, 1, none⟩ = some (.slice a l.length c) := HF7.out.cell 1
    clear j0 j1 j2 j3 g0 g1 g2 g3 hbn hb6 ho6 hI6 ht6 f6 hh6 af6 hn2 hnk hlk HN HI5 HTL5 HG5 HF5 HY5
    go_wp2_with fail
    generalize hxb : w6.heap.size = xb at *
    generalize w6.alloc (.cells #[.int .i64 (first2 : Int), .int .i64 (n2 : Int), .int .i64 (wN : Int), .int .i64 (nk : Int)] 29) = w7 at *
    refine (width13_any x wN (.slice a l.length c) w7 HX.out.1 HX.out.2).mono ?_
    rintro e w8 ⟨rfl, hb8⟩
    have HF8 := Lib.hid (HF7.out.below hb8 HF7.out.lt)
    have HG8 := Lib.hid (HG7.out.below hb8 HG7.out.lt)
    have HX8 := Lib.hid (HX7.out.below hb8 HX7.out.lt)
    have HY8 := Lib.hid (HY7.out.below hb8 HY7.out.lt)
    have HTL8 := Lib.hid (HTL7.out.below hb8)
    have HI8 := Lib.hid (HI7.out.below hb8)
    have HB8 := Lib.hid (HB7.out.trans (hb8.mono HB7.out.size))
    have HO8 := Lib.hid (fun g (hg : w8.heap.size ≤ g) => HO7.out g (by have := hb8.size; omega))
    have g0 : w8.cell? ⟨xb, 0, none⟩ = some (.int .i64 (first2 : Int)) := HX8.out.cell 0
    have g1 : w8.cell? ⟨xb, 1, none⟩ = some (.int .i64 (n2 : Int)) := HX8.out.cell 1
    have g2 : w8.cell? ⟨xb, 2, none⟩ = some (.int .i64 (wN : Int)) := HX8.out.cell 2
    have g3 : w8.cell? ⟨xb, 3, none⟩ = some (.int .i64 (nk : Int)) := HX8.out.cell 3
    obtain ⟨f8, hfa8, hh8, af8, hn2, hnk, hlk⟩ := HP7.out
    have HLS := list_f HI8.out f8 hfa8 hh8 (by omega)
    rw [← hnk, ← hn2] at HLS
    replace HLS := Lib.hid HLS
    clear hb8 j0' j1' HF7 HG7 HX7 HTL7 HY7 HI7 HB7 HO7 f8 hfa8 hh8 af8 hn2 hnk hlk
    go_wp2_with fail
    refine HLS.out.mono ?_
    rintro e w9 ⟨W9, O9, v9, rfl, hown9, ho9, hI9, ht9, f9, hfa9, af9⟩
    have hown9' : w9.ownsRow w8.heap.size 57 5 v9 lk.length (flatT lk) := by rw [← HP7.out.2.2.2.2.2.1]; exact hown9
    have ht5n : ∀ t ∈ lk, t.length = 5 := fun t ht => ((HP7.out.2.2.1).fits t ht).1
    obtain ⟨a9, c9, hv9, hT9, _⟩ := tps_own (K := K) hown9' ht5n
    rw [← HP7.out.2.2.2.2.2.1] at hv9
    subst hv9
    have hb9 := Turn.belowB HI8.out HK.out (fun _ h => h.elim) HB8.out ht9
    have hF9 := HI8.out.blk ht9 HF8.out (by decide) (by decide) (by decide) (by decide) (by decide) (fun h => h)
    have hG9 := HI8.out.blk ht9 HG8.out (by decide) (by decide) (by decide) (by decide) (by decide) (fun h => h)
    have hX9 := HI8.out.blk ht9 HX8.out (by decide) (by decide) (by decide) (by decide) (by decide) (fun h => h)
    have hY9 := HI8.out.blk ht9 HY8.out (by decide) (by decide) (by decide) (by decide) (by decide) (fun h => h)
    have hTL9 := HTL8.out.turn HI8.out ht9 (fun g _ h => h)
    have hsum9 : Sp.sumX W9.L + (nB 12 wN l.length + n2) = 5000 := by
      have h1 := HS5.out
      have h2 := HP7.out.2.2.2.1.sum
      have h3 := af9.sum
      omega
    have hu9 := f9.used
    have hd0 : Below w9.heap.size w9 w9.drew := (Below.refl _ _).drew
    have hlt : l.length ≤ 1000000 := by omega
    have hc5 : cn < 5 := by have h := HP7.out.2.2.1.wid.2; omega
    have hnk9 := HP7.out.2.2.2.2.2.1
    have hlk9 := HP7.out.2.2.2.2.2.2
    have CELL := Lib.hid (fun W' (h : Below w9.heap.size w9 W') => (And.intro (hF9.below h hF9.lt) (And.intro (hG9.below h hG9.lt) (And.intro (hX9.below h hX9.lt) (hY9.below h hY9.lt)))))
    have WID := Lib.hid (fun W' (h : Below w9.heap.size w9 W') => (width13_any x wN (.slice a l.length c) W' HX.out.1 HX.out.2).mono (fun e w' he => (⟨he.1, h.trans (he.2.mono h.size)⟩ : e = Ending.returned (.int .i64 (wN : Int)) ∧ Below w9.heap.size w9 w')))
    have RN := Lib.hid (fun W' (h : Below w9.heap.size w9 W') => (refkeep_any l cn lo hi a c W' hc5 (hTL9.below h) HT5.out hlt).mono (fun e w' ⟨v, he, ho, hb⟩ => (show ∃ a2 c2, e = Ending.returned (.slice a2 nk c2) ∧ Tps K w' a2 lk ∧ Below w9.heap.size w9 w' from by
      rw [← hlk9] at ho
      obtain ⟨a2, c2, hv, hT2, _⟩ := tps_own (K := K) ho ht5n
      rw [← hnk9] at hv
      exact ⟨a2, c2, by rw [he, hv], hT2, h.trans (hb.mono h.size)⟩)))
    have SAME := Lib.hid (fun W' a2 c2 (h : Below w9.heap.size w9 W') (h2 : Tps K W' a2 lk) => (refsame_yes lk a9 a2 c9 c2 W' (hT9.below h) h2 ht5n (by rw [← hnk9]; omega)).mono (fun e w' ⟨he, m, hm⟩ => (⟨he, by rw [hm]; exact ⟨h.os, h.tape, h.output, h.size, h.block⟩⟩ : e = Ending.returned (.bool true) ∧ Below w9.heap.size w9 w')))
    simp only [← hnk9] at SAME
    have CL := Lib.hid (fun W' (h : Below w9.heap.size w9 W') => (clean13_ok [nB 12 wN l.length, n2] W'.heap.size 2 ((hI9.below h).below ((Below.refl W'.heap.size W').alloc (Nat.le_refl _) (.cells #[.int .i64 (first : Int), .int .i64 (nB 12 wN l.length : Int), .int .i64 (wN : Int), .int .i64 (l.length : Int), .int .i64 (first2 : Int), .int .i64 (n2 : Int), .int .i64 (wN : Int), .int .i64 (nk : Int)] 29))) (fun i hi => by
      have hB := Blk.new W' 29 #[.int .i64 (first : Int), .int .i64 (nB 12 wN l.length : Int), .int .i64 (wN : Int), .int .i64 (l.length : Int), .int .i64 (first2 : Int), .int .i64 (n2 : Int), .int .i64 (wN : Int), .int .i64 (nk : Int)]
      have hi2 : i < 2 := hi
      obtain rfl | rfl : i = 0 ∨ i = 1 := by omega
      · exact hB.cell 1
      · exact hB.cell 5) hu9 (by simpa using hsum9) (by simp)).mono (fun e w' he => (⟨he.1, (h.alloc h.size (.cells #[.int .i64 (first : Int), .int .i64 (nB 12 wN l.length : Int), .int .i64 (wN : Int), .int .i64 (l.length : Int), .int .i64 (first2 : Int), .int .i64 (n2 : Int), .int .i64 (wN : Int), .int .i64 (nk : Int)] 29)).trans (he.2.mono (by have := h.size; simp; omega))⟩ : e = Ending.returned (.bool true) ∧ Below w9.heap.size w9 w')))
    simp only [List.length_cons, List.length_nil] at CL
    have HB9 := Lib.hid hb9
    clear hown9 hown9' ht5n hT9 hb9 hF9 hG9 hX9 hY9 hnk9 hlk9 hTL9 hsum9 hu9 ho9 hI9 ht9 f9 hfa9 af9 g0 g1 g2 g3 HLS HF8 HG8 HX8 HY8 HTL8 HI8
    go_wp2_with fail
    go_region_held3 (fun w' => w'.cell? ⟨w.heap.size, 0, none⟩ = some (.int .u8 (x : Int)) ∧ w'.cell? ⟨w.heap.size, 1, none⟩ = some (.slice a l.length c) ∧ w'.cell? ⟨fb, 0, none⟩ = some (.int .i64 (first : Int)) ∧ w'.cell? ⟨fb, 1, none⟩ = some (.int .i64 (nB 12 wN l.length : Int)) ∧ w'.cell? ⟨fb, 2, none⟩ = some (.int .i64 (wN : Int)) ∧ w'.cell? ⟨fb, 3, none⟩ = some (.int .i64 (l.length : Int)) ∧ w'.cell? ⟨xb, 0, none⟩ = some (.int .i64 (first2 : Int)) ∧ w'.cell? ⟨xb, 1, none⟩ = some (.int .i64 (n2 : Int)) ∧ w'.cell? ⟨xb, 2, none⟩ = some (.int .i64 (wN : Int)) ∧ w'.cell? ⟨xb, 3, none⟩ = some (.int .i64 (nk : Int)) ∧ w'.cell? ⟨w.heap.size + 1, 0, none⟩ = some (.int .i64 lo) ∧ w'.cell? ⟨w.heap.size + 1, 1, none⟩ = some (.int .i64 hi))
      (exact ⟨(CELL.out _ (by assumption)).1.cell 0, (CELL.out _ (by assumption)).1.cell 1, (CELL.out _ (by assumption)).2.1.cell 0, (CELL.out _ (by assumption)).2.1.cell 1, (CELL.out _ (by assumption)).2.1.cell 2, (CELL.out _ (by assumption)).2.1.cell 3, (CELL.out _ (by assumption)).2.2.1.cell 0, (CELL.out _ (by assumption)).2.2.1.cell 1, (CELL.out _ (by assumption)).2.2.1.cell 2, (CELL.out _ (by assumption)).2.2.1.cell 3, (CELL.out _ (by assumption)).2.2.2.cell 0, (CELL.out _ (by assumption)).2.2.2.cell 1⟩)
      (first
        | (go_at_call 13; refine (WID.out _ (by assumption)).mono ?_; rintro e wwd ⟨rfl, hwd⟩)
        | (go_at_call 19; refine (RN.out _ (by assumption)).mono ?_; rintro e wrn ⟨a2, c2, rfl, hT2, hrn⟩)
        | (go_at_call 16; refine (SAME.out _ _ _ (by assumption) (by assumption)).mono ?_; rintro e wsm ⟨rfl, hsm⟩; have hsa := Below.alloc hsm hsm.size (.cells #[.int .i64 (first : Int), .int .i64 (nB 12 wN l.length : Int), .int .i64 (wN : Int), .int .i64 (l.length : Int), .int .i64 (first2 : Int), .int .i64 (n2 : Int), .int .i64 (wN : Int), .int .i64 (nk : Int)] 29))
        | (go_at_call 14; refine (CL.out _ (by assumption)).mono ?_; rintro e wcl ⟨rfl, hcl⟩))
    go_wp2_with fail
    go_ret
    exact ⟨rfl, HB.out.trans ((HB9.out.trans (hcl.mono HB9.out.size)).mono (Nat.le_of_lt hz0))⟩

theorem JoinKeeps_law {w : World} (cs : Array Value) (p : Int × List (List Int)) (h : rdPair 1 1 (rdInt .u8) (rdSlice 5 (rdArr 5 1 (rdInt .i64))) w cs.toList p) (col : Int) (_hc : (Lit.int .i64 col).wf = true) (ds : Array Value) (two : List Int) (h2 : rdArr 2 1 (rdInt .i64) w ds.toList two) :
    Calls Try.prog 4 #[.agg cs, .int .i64 col, .agg ds] w fun e w' => e = .returned (.bool true) ∧ Below w.heap.size w w' := by
  obtain ⟨x, a, c, l, rfl, hx, h5, hm, hT⟩ := table_open h
  obtain ⟨lo, hi, rfl, _⟩ := rdArr2_ints h2
  exact JoinKeeps_walk x hx col lo hi a c l hT h5 hm

end Go.Proofs.Ytlbaigkpojkfjaa.Fl
