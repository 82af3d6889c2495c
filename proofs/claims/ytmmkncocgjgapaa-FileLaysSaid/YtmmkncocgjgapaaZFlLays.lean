/- The law FileLays. -/
import Derived.Test.YtmmkncocgjgapaaK11
set_option linter.unusedVariables false
namespace Go.Proofs.Ytmmkncocgjgapaa.Fl
open Go.RowKit

section
variable {w w' : World} {O : Nat → Prop} {K : Key} {W : Wk}
/-- A file that was laid alone is freed. -/
def FreedTold (w : World) (O : Nat → Prop) (K : Key) (W : Wk) (L : List Sp.Ext) (e : Ending) (w' : World) : Prop :=
  e = .returned (.int .i64 0) ∧ WkI w' O K { W with L := L } ∧ Turn K (fun _ => False) w w'
theorem freed_c {L : List Sp.Ext} {n first : Nat} (width count : Int) (hI : WkI w O K W) (hL : Sp.Inv 0 W.B L) (ht : TookN L W.B n first W.L) :
    Calls Try.prog 29 #[P K.wk, .agg (fvals first n width count)] w (FreedTold w O K W L) := by
  rcases ht with ⟨rfl, rfl, e⟩ | ⟨h0, ht⟩
  · refine (free_zero 0 width count K.wk w).mono ?_
    rintro e' w' ⟨rfl, hb⟩
    have : ({ W with L := L } : Wk) = W := by rw [← e]
    exact ⟨rfl, by rw [this]; exact hI.below hb, Turn.below hb⟩
  · refine (free_any (first : Int) (n : Int) width count hI (by omega)).mono ?_
    rintro e' w' ⟨er, L', rfl, hg, hI', ht'⟩
    obtain ⟨rfl, rfl⟩ := Sp.take_give hL ht hg
    exact ⟨rfl, hI', ht'⟩
end

set_option maxRecDepth 100000 in
set_option maxHeartbeats 4000000 in
theorem FileLays_no {w : World} (S B room width : Int) (a : Option Addr) (n c : Nat) (h : ¬ (Dev.NewFits S B ∧ room ≤ 100000 ∧ B ≤ 5000)) :
    Calls Try.prog 7 #[.agg #[.int .i64 S, .int .i64 B, .int .i64 room], .int .i64 width, .slice a n c] w (fun e w' => e = .returned (.bool true) ∧ Below w.heap.size w w') := by
  have hbl : Below w.heap.size w (w.alloc (.cells #[.int .i64 S, .int .i64 B, .int .i64 room] 28)) := (Below.refl _ _).alloc (Nat.le_refl _) _
  have HB := Lib.hid hbl
  have hF := Blk.new w 28 #[.int .i64 S, .int .i64 B, .int .i64 room]
  have HW := Lib.hid (work_no S B room (w.alloc (.cells #[.int .i64 S, .int .i64 B, .int .i64 room] 28)) h)
  clear hbl h
  go_enter Try.func7, Try.ntmps7
  go_wp2_with fail
  generalize w.alloc (.cells #[.int .i64 S, .int .i64 B, .int .i64 room] 28) = w1 at *
  have k0 : w1.cell? ⟨w.heap.size, 0, none⟩ = some (.int .i64 S) := hF.cell 0
  have k1 : w1.cell? ⟨w.heap.size, 1, none⟩ = some (.int .i64 B) := hF.cell 1
  have k2 : w1.cell? ⟨w.heap.size, 2, none⟩ = some (.int .i64 room) := hF.cell 2
  clear hF
  go_wp2_with fail
  refine HW.out.mono ?_
  rintro e w2 ⟨rfl, hb2⟩
  go_wp2_with fail
  refine (awake10_any w2).mono ?_
  rintro e w3 ⟨rfl, hb3⟩
  go_wp2_with fail
  refine (awake10_any w3).mono ?_
  rintro e w4 ⟨rfl, hb4⟩
  have HB4 := Lib.hid (((HB.out.trans (hb2.mono HB.out.size)).trans (hb3.mono (by have := HB.out.size; have := hb2.size; omega))).trans (hb4.mono (by have := HB.out.size; have := hb2.size; have := hb3.size; omega)))
  clear hb2 hb3 hb4
  go_wp2_with fail
  go_ret
  exact ⟨rfl, HB4.out⟩

set_option maxRecDepth 100000 in
set_option maxHeartbeats 8000000 in
theorem FileLays_yes {w : World} (S B : Nat) (room width : Int) (a : Option Addr) (c : Nat) (l : List Tup) (h8 : 8 ≤ S) (h256 : S ≤ 256) (hB : B ≤ 5000) (hr : room ≤ 100000) (hr2 : -9223372036854775808 ≤ room) (hT : ∀ K : Key, w.heap.size ≤ K.base → Tps K w a l) (ht5 : ∀ t ∈ l, t.length = 5) (hll : l.length ≤ maxLen) :
    Calls Try.prog 7 #[.agg #[.int .i64 (S : Int), .int .i64 (B : Int), .int .i64 room], .int .i64 width, .slice a l.length c] w (fun e w' => e = .returned (.bool true) ∧ Below w.heap.size w w') := by
  have hbl : Below w.heap.size w (w.alloc (.cells #[.int .i64 (S : Int), .int .i64 (B : Int), .int .i64 room] 28)) := (Below.refl _ _).alloc (Nat.le_refl _) _
  have HB := Lib.hid hbl
  have hF := Blk.new w 28 #[.int .i64 (S : Int), .int .i64 (B : Int), .int .i64 room]
  have HW := Lib.hid (work_ok S B room (w.alloc (.cells #[.int .i64 (S : Int), .int .i64 (B : Int), .int .i64 room] 28)) h8 h256 hB hr hr2)
  have HF := Lib.hid hF
  have HT5 := Lib.hid ht5
  have HTP := Lib.hid hT
  have hz0 : w.heap.size < (w.alloc (.cells #[.int .i64 (S : Int), .int .i64 (B : Int), .int .i64 room] 28)).heap.size := hF.lt
  clear hbl hF ht5 hT
  go_enter Try.func7, Try.ntmps7
  go_wp2_with fail
  generalize w.alloc (.cells #[.int .i64 (S : Int), .int .i64 (B : Int), .int .i64 room] 28) = w1 at *
  have k0 : w1.cell? ⟨w.heap.size, 0, none⟩ = some (.int .i64 (S : Int)) := HF.out.cell 0
  have k1 : w1.cell? ⟨w.heap.size, 1, none⟩ = some (.int .i64 (B : Int)) := HF.out.cell 1
  have k2 : w1.cell? ⟨w.heap.size, 2, none⟩ = some (.int .i64 room) := HF.out.cell 2
  go_wp2_with fail
  refine HW.out.mono ?_
  rintro e w2 ⟨K, rfl, hI2, hK, hb2⟩
  have HI2 := Lib.hid hI2
  have HK := Lib.hid hK
  have HB2 := Lib.hid hb2
  clear hI2 hK hb2 k0 k1 k2 HW
  go_wp2_with fail
  refine (awake10_any w2).mono ?_
  rintro e w3 ⟨rfl, hb3⟩
  have HI3 := Lib.hid (HI2.out.below hb3)
  have HB3 := Lib.hid (HB2.out.trans (hb3.mono HB2.out.size))
  clear hb3 HI2 HB2
  by_cases hbig : (500 : Int) < (l.length : Int)
  · go_wp2_with fail
    refine (awake10_any w3).mono ?_
    rintro e w4 ⟨rfl, hb4⟩
    have HB4 := Lib.hid (HB.out.trans ((HB3.out.trans (hb4.mono HB3.out.size)).mono (Nat.le_of_lt hz0)))
    clear hb4
    go_wp2_with fail
    go_ret
    exact ⟨rfl, HB4.out⟩
  have hF3 := HF.out.below HB3.out HF.out.lt
  have j0 : w3.cell? ⟨w.heap.size, 0, none⟩ = some (.int .i64 (S : Int)) := hF3.cell 0
  have j1 : w3.cell? ⟨w.heap.size, 1, none⟩ = some (.int .i64 (B : Int)) := hF3.cell 1
  have j2 : w3.cell? ⟨w.heap.size, 2, none⟩ = some (.int .i64 room) := hF3.cell 2
  have HF3 := Lib.hid hF3
  have hz3 : w.heap.size < w3.heap.size := hF3.lt
  have HTL := Lib.hid (((HTP.out K (by have := HK.out; omega)).below HB.out).below HB3.out)
  have hnn : (l.length : Int) ≤ 500 := by omega
  clear hF3 HF hbig HTP
  by_cases hw : width < 1 ∨ 5 < width
  · have HL := Lib.hid (lay_arg width a l.length c HI3.out (by omega))
    have HBK := Lib.hid (fun W' => refblocks_no (S : Int) width (l.length : Int) W' hw)
    have HHD := Lib.hid (fun W' => refholds_no (S : Int) width W' hw)
    clear hw
    go_wp2_with fail
    refine HL.out.mono ?_
    rintro e w4 ⟨rfl, hb4⟩
    have hF4 := HF3.out.below hb4 HF3.out.lt
    have i0 : w4.cell? ⟨w.heap.size, 0, none⟩ = some (.int .i64 (S : Int)) := hF4.cell 0
    have hz4 : w.heap.size < w4.heap.size := hF4.lt
    have HB4 := Lib.hid (HB.out.trans ((HB3.out.trans (hb4.mono HB3.out.size)).mono (Nat.le_of_lt hz0)))
    clear j0 j1 j2 hF4 hb4 HL
    unfold noFile
    go_wp2_with fail
    refine (HBK.out _).mono ?_
    rintro e w5 ⟨rfl, rfl⟩
    go_wp2_with fail
    refine (HHD.out _).mono ?_
    rintro e w5 ⟨rfl, rfl⟩
    go_wp2_with fail
    go_ret
    exact ⟨rfl, HB4.out.alloc HB4.out.size _⟩
  obtain ⟨wN, rfl⟩ := Int.eq_ofNat_of_zero_le (show 0 ≤ width by omega)
  have hw1 : 1 ≤ wN := by omega
  have hw5 : wN ≤ 5 := by omega
  have hp := hN_pos h8 hw1 hw5
  have hle := nB_le (size := S) (wN := wN) (count := l.length) hp
  have hh0 : ((hN S wN : Int) == 0) = false := by rw [beq_eq_false_iff_ne]; omega
  have HBK := Lib.hid (fun W' => refblocks_ok S wN l.length W' h8 h256 hw1 hw5 (by omega))
  have HHD := Lib.hid (fun W' => refholds_ok S wN W' h8 h256 hw1 hw5)
  have HPP := Lib.hid hp
  clear hw hp
  by_cases hroom : room < (S : Int)
  · have HL := Lib.hid (lay_room wN a l.length c HI3.out hw1 hw5 (by omega) (by show ((room.toNat : Nat) : Int) - ((0 : Nat) : Int) < (S : Int); omega))
    go_wp2_with fail
    refine HL.out.mono ?_
    rintro e w4 ⟨rfl, hb4⟩
    unfold noFile
    have hbn : Below w4.heap.size w4 (w4.alloc (.cells #[.int .i64 0, .int .i64 0, .int .i64 0, .int .i64 0] 32)) := (Below.refl _ _).alloc (Nat.le_refl _) _
    have hb5 := hb4.trans (hbn.mono hb4.size)
    have HF5 := Lib.hid (HF3.out.below hb5 HF3.out.lt)
    have HI5 := Lib.hid (HI3.out.below hb5)
    have HB5 := Lib.hid (HB.out.trans ((HB3.out.trans (hb5.mono HB3.out.size)).mono (Nat.le_of_lt hz0)))
    have i4 : w4.cell? ⟨w.heap.size, 0, none⟩ = some (.int .i64 (S : Int)) := (HF3.out.below hb4 HF3.out.lt).cell 0
    have hz4 : w.heap.size < w4.heap.size := (HF3.out.below hb4 HF3.out.lt).lt
    clear j0 j1 j2 hb4 hbn hb5 HL
    go_wp2_with fail
    generalize w4.alloc (.cells #[.int .i64 0, .int .i64 0, .int .i64 0, .int .i64 0] 32) = w5 at *
    have i0 : w5.cell? ⟨w.heap.size, 0, none⟩ = some (.int .i64 (S : Int)) := HF5.out.cell 0
    have i1 : w5.cell? ⟨w.heap.size, 1, none⟩ = some (.int .i64 (B : Int)) := HF5.out.cell 1
    have i2 : w5.cell? ⟨w.heap.size, 2, none⟩ = some (.int .i64 room) := HF5.out.cell 2
    clear i4
    refine (HBK.out _).mono ?_
    rintro e w6 ⟨rfl, rfl⟩
    go_wp2_with fail
    refine (HHD.out _).mono ?_
    rintro e w6 ⟨rfl, rfl⟩
    go_wp2_with fail
    have CELL := Lib.hid (fun W' (h : Below w5.heap.size w5 W') => (HF5.out.below h HF5.out.lt).cell 1)
    have SP := Lib.hid (fun W' (h : Below w5.heap.size w5 W') => (space_any (HI5.out.below h)).mono (fun e w' he => (⟨he.1, he.2 ▸ h⟩ : e = Ending.returned (P K.s) ∧ Below w5.heap.size w5 w')))
    have SF := Lib.hid (fun W' (h : Below w5.heap.size w5 W') => (spfree_w (HI5.out.below h)).mono (fun e w' he => (⟨by rw [he.1]; rfl, h.trans (he.2.mono h.size)⟩ : e = Ending.returned (.int .i64 ((Sp.sumX (Sp.wholeL 0 B) : Nat) : Int)) ∧ Below w5.heap.size w5 w')))
    rw [sum_whole] at SF
    have hd0 : Below w5.heap.size w5 w5.drew := (Below.refl _ _).drew
    clear i0 i2
    go_region_held3 (fun w' => Below w5.heap.size w5 w' ∧ w'.cell? ⟨w.heap.size, 1, none⟩ = some (.int .i64 (B : Int)))
      (exact ⟨by assumption, CELL.out _ (by assumption)⟩)
      ((first | (go_at_call 30; refine (SP.out _ (by assumption)).mono ?_; rintro e wsp ⟨rfl, hsp⟩) | (go_at_call 34; refine (SF.out _ (by assumption)).mono ?_; rintro e wsf ⟨rfl, hsf⟩)))
    all_goals
      go_wp2_with fail
      go_ret
      exact ⟨rfl, HB5.out.trans (hsf.mono HB5.out.size)⟩
  have hnroom : ¬ room < (S : Int) := hroom
  have HL := Lib.hid (lay_c wN l a c HI3.out (sure_fresh S B) (Nat.le_refl _) hw1 hw5 (by omega) (by show S ≤ room.toNat - 0; omega) HTL.out HT5.out (by show 0 + l.length + 1 < _; omega) (fun g hg => by
    unfold O0
    have := HB3.out.size
    rw [HK.out]
    omega))
  go_wp2_with fail
  refine HL.out.mono ?_
  rintro e w4 ⟨W', O', ho, hI4, ht4, hres⟩
  have hb4 := Turn.belowB HI3.out HK.out (fun _ h => h.elim) HB3.out ht4
  have hb34 : Below w1.heap.size w1 w4 := hb4
  have hF4 : Blk w4 w.heap.size 28 #[.int .i64 (S : Int), .int .i64 (B : Int), .int .i64 room] := HI3.out.blk ht4 HF3.out (by decide) (by decide) (by decide) (by decide) (by decide) (fun h => h)
  have hTL4 := HTL.out.turn HI3.out ht4 (fun g _ h => h)
  have i4 : w4.cell? ⟨w.heap.size, 0, none⟩ = some (.int .i64 (S : Int)) := hF4.cell 0
  have hz4 : w.heap.size < w4.heap.size := hF4.lt
  rcases hres with ⟨first, rfl, hok⟩ | ⟨er, rfl, hno⟩
  · have hsp := hok.took.spec (Sp.whole_inv 0 B)
    have hnB : nB S wN l.length ≤ B := by
      rcases hsp.fit with h | h
      · have h' : first + nB S wN l.length ≤ B := h
        omega
      · have h' : nB S wN l.length = 0 := h
        omega
    obtain rfl : first = 0 := laid_first hsp hnB
    have hsz : W'.D.size = S := hok.goes.size
    have hpl : allB wN l = true := (allB_iff HT5.out).2 hok.fits
    have hbn : Below w4.heap.size w4 (w4.alloc (.cells (fcells 0 (nB S wN l.length) wN l.length) 32)) := (Below.refl _ _).alloc (Nat.le_refl _) _
    have hG5 := Blk.new w4 32 (fcells 0 (nB S wN l.length) wN l.length)
    have hb5 := hb4.trans (hbn.mono hb4.size)
    have HI5 := Lib.hid (hI4.below hbn)
    have HF5 := Lib.hid (hF4.below hbn hF4.lt)
    have HG5 := Lib.hid hG5
    have HB5 := Lib.hid hb5
    have HOK := Lib.hid hok
    have HTL5 := Lib.hid (hTL4.below hbn)
    have HLS := Lib.hid (fun w6 (h : Below (w4.alloc (.cells (fcells 0 (nB S wN l.length) wN l.length) 32)).heap.size (w4.alloc (.cells (fcells 0 (nB S wN l.length) wN l.length) 32)) w6) =>
      list_c wN 0 l ((hI4.below hbn).below h) (hok.goes.sure (sure_fresh S B)) hw1 hw5 (by omega) hok.fits (by rw [hsz]; exact hok.lies) (.inr (by rw [hsz, hok.goes.blocks, Nat.zero_add]; exact hnB)) (by omega) (by rw [hsz, hok.arn]; show S ≤ room.toNat - 0; omega) (by have := hok.goes.acts; have h0 : (wk0 S B room).D.acts = 0 := rfl; have h2 : nB (wk0 S B room).D.size wN l.length = nB S wN l.length := rfl; omega))
    rw [hsz] at HLS
    rw [show fcells 0 (nB (wk0 S B room).D.size wN l.length) wN l.length = fcells 0 (nB S wN l.length) wN l.length from rfl]
    rw [show fcells 0 (nB S wN l.length) wN l.length = #[.int .i64 0, .int .i64 (nB S wN l.length : Int), .int .i64 (wN : Int), .int .i64 (l.length : Int)] from rfl] at *
    have hnBi : (nB S wN l.length : Int) ≤ (B : Int) := by omega
    have HPL := Lib.hid hpl
    have HHO := Lib.hid ho
    have HSZ := Lib.hid hsz
    clear hb5 hG5 hbn hTL4 hF4 hb4 hb34 hI4 ht4 ho hok hsp hnB hpl hsz j0 j1 j2 HL HI3 HF3 HTL
    go_wp2_with fail
    generalize hfb : w4.heap.size = fb at *
    have hzf : w.heap.size < fb := hz4
    generalize w4.alloc (.cells #[.int .i64 0, .int .i64 (nB S wN l.length : Int), .int .i64 (wN : Int), .int .i64 (l.length : Int)] 32) = w5 at *
    have i0 : w5.cell? ⟨w.heap.size, 0, none⟩ = some (.int .i64 (S : Int)) := HF5.out.cell 0
    have i1 : w5.cell? ⟨w.heap.size, 1, none⟩ = some (.int .i64 (B : Int)) := HF5.out.cell 1
    have i2 : w5.cell? ⟨w.heap.size, 2, none⟩ = some (.int .i64 room) := HF5.out.cell 2
    clear i4 hfb
    refine (HBK.out _).mono ?_
    rintro e w6 ⟨rfl, rfl⟩
    go_wp2_with fail
    refine (HHD.out _).mono ?_
    rintro e w6 ⟨rfl, rfl⟩
    go_wp2_with fail
    refine (refall_any wN l a c w5 hw5 HTL5.out HT5.out (by omega)).mono ?_
    rintro e w6 ⟨rfl, hb6⟩
    rw [HPL.out]
    have hG6 := HG5.out.below hb6 HG5.out.lt
    have f0 : w6.cell? ⟨fb, 0, none⟩ = some (.int .i64 0) := hG6.cell 0
    have f1 : w6.cell? ⟨fb, 1, none⟩ = some (.int .i64 (nB S wN l.length : Int)) := hG6.cell 1
    have f2 : w6.cell? ⟨fb, 2, none⟩ = some (.int .i64 (wN : Int)) := hG6.cell 2
    have f3 : w6.cell? ⟨fb, 3, none⟩ = some (.int .i64 (l.length : Int)) := hG6.cell 3
    have HLS6 := Lib.hid (HLS.out w6 hb6)
    have HG6 := Lib.hid hG6
    have HF6 := Lib.hid (HF5.out.below hb6 HF5.out.lt)
    have HI6 := Lib.hid (HI5.out.below hb6)
    have HTL6 := Lib.hid (HTL5.out.below hb6)
    have HB6 := Lib.hid (HB5.out.trans (hb6.mono HB5.out.size))
    clear hG6 hb6 i0 i1 i2 HLS HBK HHD
    go_wp2_with fail
    refine HLS6.out.mono ?_
    rintro e w7 ⟨W7, O7, ho7, hI7, ht7, hW7, hres7⟩
    rcases hres7 with ⟨v, rfl, hown, hg7⟩ | ⟨hbad, _⟩
    · obtain ⟨a7, c7, rfl, hT7, _⟩ := tps_own (K := K) hown HT5.out
      have hb7 := Turn.belowB HI6.out HK.out (fun _ h => h.elim) HB6.out ht7
      have hG7 := HI6.out.blk ht7 HG6.out (by decide) (by decide) (by decide) (by decide) (by decide) (fun h => h)
      have hF7 := HI6.out.blk ht7 HF6.out (by decide) (by decide) (by decide) (by decide) (by decide) (fun h => h)
      have hTL7 := HTL6.out.turn HI6.out ht7 (fun g _ h => h)
      have f0' : w7.cell? ⟨fb, 0, none⟩ = some (.int .i64 0) := hG7.cell 0
      have f1' : w7.cell? ⟨fb, 1, none⟩ = some (.int .i64 (nB S wN l.length : Int)) := hG7.cell 1
      have f2' : w7.cell? ⟨fb, 2, none⟩ = some (.int .i64 (wN : Int)) := hG7.cell 2
      have f3' : w7.cell? ⟨fb, 3, none⟩ = some (.int .i64 (l.length : Int)) := hG7.cell 3
      have HSM := Lib.hid (refsame_yes l a7 a c7 c w7 hT7 hTL7 HT5.out (by omega))
      have HG7 := Lib.hid hG7
      have HF7 := Lib.hid hF7
      have HI7 := Lib.hid hI7
      have HB7 := Lib.hid hb7
      have HW7 := Lib.hid hW7
      clear hG7 hF7 hb7 hI7 ht7 hW7 hg7 ho7 hown hT7 hTL7 f0 f1 f2 f3 HLS6 HG6 HF6 HI6 HTL6 HB6
      go_wp2_with fail
      refine HSM.out.mono ?_
      rintro e w8' ⟨rfl, m, rfl⟩
      have hI8 : WkI (w7.drewN m) O7 K W7 := HI7.out.drewN m
      have hG8 : Blk (w7.drewN m) fb 32 #[.int .i64 0, .int .i64 (nB S wN l.length : Int), .int .i64 (wN : Int), .int .i64 (l.length : Int)] := HG7.out
      have hF8 : Blk (w7.drewN m) w.heap.size 28 #[.int .i64 (S : Int), .int .i64 (B : Int), .int .i64 room] := HF7.out
      have hb8 : Below w1.heap.size w1 (w7.drewN m) := ⟨HB7.out.os, HB7.out.tape, HB7.out.output, HB7.out.size, HB7.out.block⟩
      have husd : W7.A.used = 0 := by rw [HW7.out.arn, HOK.out.arn]; rfl
      have hpk : W7.A.peak = S := by
        rw [HW7.out.arn, HOK.out.arn, HSZ.out]
        show max (max 0 (0 + S)) (0 + S) = S
        omega
      have htk : TookN (Sp.wholeL 0 B) B (nB S wN l.length) 0 W'.L := HOK.out.took
      have hsum : (Sp.sumX W7.L : Int) = (B : Int) - (nB S wN l.length : Int) := by
        have h1 := TookN.sum (Sp.whole_inv 0 B) (htk.spec (Sp.whole_inv 0 B))
        rw [sum_whole] at h1
        rw [HW7.out.L]
        omega
      have hB7 : W7.B = B := by rw [HW7.out.B, HOK.out.B]; rfl
      have htk7 : TookN (Sp.wholeL 0 B) W7.B (nB S wN l.length) 0 W7.L := by rw [HW7.out.L, hB7]; exact htk
      have hinv7 : Sp.Inv 0 W7.B (Sp.wholeL 0 B) := by rw [hB7]; exact Sp.whole_inv 0 B
      have US := Lib.hid (fun W' (h : WkI W' O7 K W7) => (used_w h).mono (fun e w' he => (⟨by rw [he.1, husd]; rfl, he.2⟩ : e = Ending.returned (.int .i64 0) ∧ W' = w')))
      have PK := Lib.hid (fun W' (h : WkI W' O7 K W7) => (peak_w h).mono (fun e w' he => (⟨by rw [he.1, hpk], he.2⟩ : e = Ending.returned (.int .i64 (S : Int)) ∧ W' = w')))
      have SF1 := Lib.hid (fun W' (h : WkI W' O7 K W7) => (spfree_w h).mono (fun e w' he => (⟨by rw [he.1, hsum], he.2⟩ : e = Ending.returned (.int .i64 ((B : Int) - (nB S wN l.length : Int))) ∧ Below W'.heap.size W' w')))
      have FR := Lib.hid (fun W' (h : WkI W' O7 K W7) => freed_c (first := 0) (wN : Int) (l.length : Int) h hinv7 htk7)
      rw [show ((0 : Nat) : Int) = 0 from rfl] at FR
      have SF2 := Lib.hid (fun W' (h : WkI W' O7 K { W7 with L := Sp.wholeL 0 B }) => (spfree_w h).mono (fun e w' he => (⟨by rw [he.1]; show Ending.returned (.int .i64 ((Sp.sumX (Sp.wholeL 0 B) : Nat) : Int)) = _; rw [sum_whole], he.2⟩ : e = Ending.returned (.int .i64 (B : Int)) ∧ Below W'.heap.size W' w')))
      have CELL := Lib.hid (fun W' (h : Turn K (fun _ => False) (w7.drewN m) W') => (And.intro (hI8.blk h hF8 (by decide) (by decide) (by decide) (by decide) (by decide) (fun h => h)) (hI8.blk h hG8 (by decide) (by decide) (by decide) (by decide) (by decide) (fun h => h))))
      have HB8 := Lib.hid hb8
      have HI8 := Lib.hid hI8
      have hI8d : WkI (w7.drewN m).drew O7 K W7 := hI8.drew
      have ht0 : Turn K (fun _ => False) (w7.drewN m) (w7.drewN m).drew := (Turn.refl _ _ _).drew
      have g0 : (w7.drewN m).cell? ⟨w.heap.size, 0, none⟩ = some (.int .i64 (S : Int)) := hF8.cell 0
      have g1 : (w7.drewN m).cell? ⟨w.heap.size, 1, none⟩ = some (.int .i64 (B : Int)) := hF8.cell 1
      have f0 : (w7.drewN m).cell? ⟨fb, 0, none⟩ = some (.int .i64 0) := hG8.cell 0
      have f1 : (w7.drewN m).cell? ⟨fb, 1, none⟩ = some (.int .i64 (nB S wN l.length : Int)) := hG8.cell 1
      have f2 : (w7.drewN m).cell? ⟨fb, 2, none⟩ = some (.int .i64 (wN : Int)) := hG8.cell 2
      have f3 : (w7.drewN m).cell? ⟨fb, 3, none⟩ = some (.int .i64 (l.length : Int)) := hG8.cell 3
      have hBB : (B : Int) ≤ 5000 := by omega
      have hwr : IntKind.i64.wrap ((B : Int) - (nB S wN l.length : Int)) = (B : Int) - (nB S wN l.length : Int) := by rw [IntKind.wrap_i64]; omega
      clear hI8 hG8 hF8 hb8 husd hpk htk hsum hB7 htk7 hinv7 f0' f1' f2' f3' HSM HG7 HF7 HI7 HB7
      generalize w7.drewN m = w8 at *
      go_wp2_with fail
      go_region_held3 (fun w' => w'.cell? ⟨w.heap.size, 0, none⟩ = some (.int .i64 (S : Int)) ∧ w'.cell? ⟨w.heap.size, 1, none⟩ = some (.int .i64 (B : Int)) ∧ w'.cell? ⟨fb, 0, none⟩ = some (.int .i64 0) ∧ w'.cell? ⟨fb, 1, none⟩ = some (.int .i64 (nB S wN l.length : Int)) ∧ w'.cell? ⟨fb, 2, none⟩ = some (.int .i64 (wN : Int)) ∧ w'.cell? ⟨fb, 3, none⟩ = some (.int .i64 (l.length : Int)))
        (exact ⟨(CELL.out _ (by assumption)).1.cell 0, (CELL.out _ (by assumption)).1.cell 1, (CELL.out _ (by assumption)).2.cell 0, (CELL.out _ (by assumption)).2.cell 1, (CELL.out _ (by assumption)).2.cell 2, (CELL.out _ (by assumption)).2.cell 3⟩)
        ((first
          | (go_at_call 18; refine (arena_any (by assumption)).mono ?_; rintro e war ⟨rfl, rfl⟩)
          | (go_at_call 19; refine (US.out _ (by assumption)).mono ?_; rintro e wus ⟨rfl, rfl⟩)
          | (go_at_call 35; refine (PK.out _ (by assumption)).mono ?_; rintro e wpk ⟨rfl, rfl⟩)
          | (go_at_call 30; refine (space_any (by assumption)).mono ?_; rintro e wsp ⟨rfl, rfl⟩)
          | (go_at_call 34; refine (SF1.out _ (by assumption)).mono ?_; rintro e wsf ⟨rfl, hbsf⟩; have hIsf := WkI.below (O := O7) (K := K) (W := W7) (by assumption) hbsf; have htsf := Turn.trans (K := K) (E := fun _ => False) (w := w8) (by assumption) (Turn.below hbsf))
          | (go_at_call 34; refine (SF2.out _ (by assumption)).mono ?_; rintro e wsg ⟨rfl, hbsg⟩; have htsg := Turn.trans (K := K) (E := fun _ => False) (w := w8) (by assumption) (Turn.below hbsg))
          | (go_at_call 29; refine (FR.out _ (by assumption)).mono ?_; rintro e wfr ⟨rfl, hIfr, htfr'⟩; have htfr := Turn.trans (K := K) (E := fun _ => False) (w := w8) (by assumption) htfr')))
      all_goals
        go_wp2_with fail
        go_ret
        exact ⟨rfl, HB.out.trans ((Turn.belowB HI8.out HK.out (fun _ h => h.elim) HB8.out htsg).mono (Nat.le_of_lt hz0))⟩
    · exact absurd (HOK.out.goes.fault rfl) hbad
  · have hacts : W'.A.used = 0 := by rw [hno.arn]; rfl
    have hsum : Sp.sumX W'.L = B := by rw [hno.L]; exact sum_whole B
    have hbn : Below w4.heap.size w4 (w4.alloc (.cells #[.int .i64 0, .int .i64 0, .int .i64 0, .int .i64 0] 32)) := (Below.refl _ _).alloc (Nat.le_refl _) _
    have hb5 := hb4.trans (hbn.mono hb4.size)
    have HI5 := Lib.hid (hI4.below hbn)
    have HF5 := Lib.hid (hF4.below hbn hF4.lt)
    have HB5 := Lib.hid (HB.out.trans (hb5.mono (Nat.le_of_lt hz0)))
    have HTL5 := Lib.hid (hTL4.below hbn)
    have HUS := Lib.hid hacts
    have HSU := Lib.hid hsum
    have HHO := Lib.hid ho
    unfold noFile
    rcases hno.why with ⟨rfl, hn0, hnr⟩ | ⟨rfl, hnf, hrm⟩ | ⟨_, hbad⟩
    · have hnB : (B : Int) < (nB S wN l.length : Int) := by
        rcases Nat.lt_or_ge B (nB S wN l.length) with h | h
        · omega
        · exact absurd (room_whole h) (hnr 0)
      clear hb5 hbn hTL4 hF4 hb4 hb34 hI4 ht4 ho hno hn0 hnr hacts hsum j0 j1 j2 HL HI3 HF3 HTL
      go_wp2_with fail
      generalize w4.alloc (.cells #[.int .i64 0, .int .i64 0, .int .i64 0, .int .i64 0] 32) = w5 at *
      have i0 : w5.cell? ⟨w.heap.size, 0, none⟩ = some (.int .i64 (S : Int)) := HF5.out.cell 0
      have i1 : w5.cell? ⟨w.heap.size, 1, none⟩ = some (.int .i64 (B : Int)) := HF5.out.cell 1
      have i2 : w5.cell? ⟨w.heap.size, 2, none⟩ = some (.int .i64 room) := HF5.out.cell 2
      clear i4
      refine (HBK.out _).mono ?_
      rintro e w6 ⟨rfl, rfl⟩
      go_wp2_with fail
      refine (HHD.out _).mono ?_
      rintro e w6 ⟨rfl, rfl⟩
      go_wp2_with fail
      refine (arena_any HI5.out).mono ?_
      rintro e w6 ⟨rfl, rfl⟩
      go_wp2_with fail
      refine (used_w HI5.out).mono ?_
      rintro e w6 ⟨rfl, rfl⟩
      rw [HUS.out]
      go_wp2_with fail
      go_ret
      exact ⟨rfl, HB5.out⟩
    · have hnB : (nB S wN l.length : Int) ≤ (B : Int) := by
        rcases Nat.eq_zero_or_pos (nB S wN l.length) with h | h
        · omega
        · obtain ⟨p, hp⟩ := hrm h
          obtain ⟨e, he, h1, h2⟩ := hp (p + nB S wN l.length - 1) (by omega) (by show _ < p + nB S wN l.length; omega)
          have hok := (Sp.whole_inv 0 B).ok e he
          omega
      have hpl : allB wN l = false := by
        cases h : allB wN l with
        | false => rfl
        | true => exact absurd ((allB_iff HT5.out).1 h) hnf
      have HPL := Lib.hid hpl
      clear hb5 hbn hTL4 hF4 hb4 hb34 hI4 ht4 ho hno hnf hrm hacts hsum hpl j0 j1 j2 HL HI3 HF3 HTL
      go_wp2_with fail
      generalize w4.alloc (.cells #[.int .i64 0, .int .i64 0, .int .i64 0, .int .i64 0] 32) = w5 at *
      have i0 : w5.cell? ⟨w.heap.size, 0, none⟩ = some (.int .i64 (S : Int)) := HF5.out.cell 0
      have i1 : w5.cell? ⟨w.heap.size, 1, none⟩ = some (.int .i64 (B : Int)) := HF5.out.cell 1
      have i2 : w5.cell? ⟨w.heap.size, 2, none⟩ = some (.int .i64 room) := HF5.out.cell 2
      clear i4
      refine (HBK.out _).mono ?_
      rintro e w6 ⟨rfl, rfl⟩
      go_wp2_with fail
      refine (HHD.out _).mono ?_
      rintro e w6 ⟨rfl, rfl⟩
      go_wp2_with fail
      refine (refall_any wN l a c w5 hw5 HTL5.out HT5.out (by omega)).mono ?_
      rintro e w6 ⟨rfl, hb6⟩
      rw [HPL.out]
      have HF6 := Lib.hid (HF5.out.below hb6 HF5.out.lt)
      have HI6 := Lib.hid (HI5.out.below hb6)
      have HB6 := Lib.hid (HB5.out.trans (hb6.mono HB5.out.size))
      have i1' : w6.cell? ⟨w.heap.size, 1, none⟩ = some (.int .i64 (B : Int)) := HF6.out.cell 1
      have CELL := Lib.hid (fun W' (h : Below w6.heap.size w6 W') => (HF6.out.below h HF6.out.lt).cell 1)
      have AR := Lib.hid (fun W' (h : Below w6.heap.size w6 W') => (arena_any (HI6.out.below h)).mono (fun e w' he => (⟨he.1, he.2 ▸ h⟩ : e = Ending.returned (P K.a) ∧ Below w6.heap.size w6 w')))
      have US := Lib.hid (fun W' (h : Below w6.heap.size w6 W') => (used_w (HI6.out.below h)).mono (fun e w' he => (⟨by rw [he.1, HUS.out]; rfl, he.2 ▸ h⟩ : e = Ending.returned (.int .i64 0) ∧ Below w6.heap.size w6 w')))
      have SP := Lib.hid (fun W' (h : Below w6.heap.size w6 W') => (space_any (HI6.out.below h)).mono (fun e w' he => (⟨he.1, he.2 ▸ h⟩ : e = Ending.returned (P K.s) ∧ Below w6.heap.size w6 w')))
      have SF := Lib.hid (fun W' (h : Below w6.heap.size w6 W') => (spfree_w (HI6.out.below h)).mono (fun e w' he => (⟨by rw [he.1, HSU.out], h.trans (he.2.mono h.size)⟩ : e = Ending.returned (.int .i64 (B : Int)) ∧ Below w6.heap.size w6 w')))
      have hd0 : Below w6.heap.size w6 w6.drew := (Below.refl _ _).drew
      clear i0 i1 i2 hb6
      go_wp2_with fail
      go_region_held3 (fun w' => Below w6.heap.size w6 w' ∧ w'.cell? ⟨w.heap.size, 1, none⟩ = some (.int .i64 (B : Int)))
        (exact ⟨by assumption, CELL.out _ (by assumption)⟩)
        ((first | (go_at_call 18; refine (AR.out _ (by assumption)).mono ?_; rintro e war ⟨rfl, har⟩) | (go_at_call 19; refine (US.out _ (by assumption)).mono ?_; rintro e wus ⟨rfl, hus⟩) | (go_at_call 30; refine (SP.out _ (by assumption)).mono ?_; rintro e wsp ⟨rfl, hsp⟩) | (go_at_call 34; refine (SF.out _ (by assumption)).mono ?_; rintro e wsf ⟨rfl, hsf⟩)))
      all_goals
        go_wp2_with fail
        go_ret
        exact ⟨rfl, HB6.out.trans (hsf.mono HB6.out.size)⟩
    · exact absurd rfl hbad

theorem place_open {w : World} {cs : Array Value} {p : Int × Int × Int} (h : rdPair 1 2 (rdInt .i64) (rdPair 1 1 (rdInt .i64) (rdInt .i64)) w cs.toList p) : cs = #[.int .i64 p.1, .int .i64 p.2.1, .int .i64 p.2.2] ∧ -9223372036854775808 ≤ p.2.2 := by
  obtain ⟨hl, ⟨h1, _⟩, _, ⟨h2, _⟩, h3, h4⟩ := h
  obtain ⟨cs⟩ := cs
  match cs, hl with
  | [a, b, c], _ =>
    simp at h1 h2 h3
    subst h1 h2 h3
    have := u_bounds.2.2.2.2 h4
    exact ⟨rfl, by omega⟩
theorem FileLays_law {w : World} (cs : Array Value) (p : Int × Int × Int) (h : rdPair 1 2 (rdInt .i64) (rdPair 1 1 (rdInt .i64) (rdInt .i64)) w cs.toList p) (width : Int) (hw : (Lit.int .i64 width).wf = true) (a : Option Addr) (n c : Nat) (l : List (List Int)) (hl : rdSlice 5 (rdArr 5 1 (rdInt .i64)) w [.slice a n c] l) :
    Calls Try.prog 7 #[.agg cs, .int .i64 width, .slice a n c] w fun e w' => e = .returned (.bool true) ∧ Below w.heap.size w w' := by
  obtain ⟨rfl, hr⟩ := place_open h
  obtain ⟨S, B, room⟩ := p
  obtain ⟨lt, hn, h5, hm, _, hT⟩ := tups_of hl
  subst hn
  by_cases hf : Dev.NewFits S B ∧ room ≤ 100000 ∧ B ≤ 5000
  · obtain ⟨⟨h1, h2, h3, h4⟩, h5', h6⟩ := hf
    obtain ⟨s, rfl⟩ := Int.eq_ofNat_of_zero_le (show 0 ≤ S by omega)
    obtain ⟨b, rfl⟩ := Int.eq_ofNat_of_zero_le h3
    exact FileLays_yes s b room width a c lt (by omega) (by omega) (by omega) h5' hr hT h5 hm
  · exact FileLays_no S B room width a lt.length c hf

end Go.Proofs.Ytmmkncocgjgapaa.Fl
