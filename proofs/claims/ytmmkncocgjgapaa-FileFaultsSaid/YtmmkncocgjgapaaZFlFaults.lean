/- The law FileFaults. -/
import Derived.Test.YtmmkncocgjgapaaK11
set_option linter.unusedVariables false
namespace Go.Proofs.Ytmmkncocgjgapaa.Fl
open Go.RowKit

section
variable {w w' : World} {O : Nat → Prop} {K : Key} {W : Wk}
theorem setfault_w (n : Int) (hI : WkI w O K W) (hn : n ≤ 1000000) : Calls Try.prog 36 #[P K.d, .int .i64 n] w fun e w' => e = .returned (.tuple #[]) ∧ WkI w' O K { W with D := W.D.setFault n } ∧ Turn K (fun _ => False) w w' := by
  obtain ⟨pv, hd⟩ := hI.dev
  refine (Dev.setfault_any n hd.box).mono ?_
  rintro e w' ⟨rfl, hb, hc⟩
  have hN : Dev.Nums (W.D.setFault n) := ⟨hd.nums.fuse, by unfold Dev.NumOk Dev.Dv.setFault; simp only; omega, hd.nums.acts, ⟨hd.nums.fit.1, hd.nums.fit.2, hd.nums.fit.3, hd.nums.fit.4, hd.nums.fit.5, hd.nums.fit.6⟩⟩
  have hd' := hd.of_box hc hb rfl rfl rfl hN
  obtain ⟨q1, q2⟩ := dev_turn hI hd hd' (hc.mono (fun _ _ h => .inl h))
  exact ⟨rfl, q1, q2⟩
theorem acts_w (hI : WkI w O K W) : Calls Try.prog 37 #[P K.d] w fun e w' => e = .returned (.int .i64 (W.D.acts : Int)) ∧ w = w' := by
  obtain ⟨pv, hd⟩ := hI.dev
  exact Dev.acts_any hd.box
end

set_option maxRecDepth 100000 in
set_option maxHeartbeats 8000000 in
theorem FileFaults_walk {w : World} (x y z : Nat) (hx : x < 256) (hy : y < 256) (hz : z < 256) (a : Option Addr) (c : Nat) (l : List Tup) (hT : ∀ K : Key, w.heap.size ≤ K.base → Tps K w a l) (ht5 : ∀ t ∈ l, t.length = 5) (hll : l.length ≤ maxLen) :
    Calls Try.prog 8 #[.agg #[.int .u8 (x : Int), .int .u8 (y : Int)], .slice a l.length c, .int .u8 (z : Int)] w (fun e w' => e = .returned (.bool true) ∧ Below w.heap.size w w') := by
  obtain ⟨S, hS, hS8, hS2⟩ : ∃ S : Nat, 8 + (x : Int) % 60 = (S : Int) ∧ 8 ≤ S ∧ S ≤ 256 := ⟨8 + x % 60, by omega, by omega, by omega⟩
  obtain ⟨wN, hwN, hw1, hw5⟩ : ∃ wN : Nat, 1 + (y : Int) % 5 = (wN : Int) ∧ 1 ≤ wN ∧ wN ≤ 5 := ⟨1 + y % 5, by omega, by omega, by omega⟩
  have hbl : Below w.heap.size w (w.alloc (.cells #[.int .u8 (x : Int), .int .u8 (y : Int)] 88)) := (Below.refl _ _).alloc (Nat.le_refl _) _
  have HB := Lib.hid hbl
  have hF := Blk.new w 88 #[.int .u8 (x : Int), .int .u8 (y : Int)]
  have HS := Lib.hid hS
  have HWN := Lib.hid hwN
  have HT5 := Lib.hid ht5
  have HTP := Lib.hid hT
  have HW := Lib.hid (work_ok S 500 1000 (w.alloc (.cells #[.int .u8 (x : Int), .int .u8 (y : Int)] 88)).drew hS8 hS2 (by omega) (by omega) (by omega))
  have HF := Lib.hid hF
  have hz0 : w.heap.size < (w.alloc (.cells #[.int .u8 (x : Int), .int .u8 (y : Int)] 88)).heap.size := hF.lt
  rw [show ((500 : Nat) : Int) = 500 from rfl] at HW
  clear hbl hF hS hwN ht5 hT
  go_enter Try.func8, Try.ntmps8
  go_wp2_with fail
  generalize w.alloc (.cells #[.int .u8 (x : Int), .int .u8 (y : Int)] 88) = w1 at *
  have k0 : w1.cell? ⟨w.heap.size, 0, none⟩ = some (.int .u8 (x : Int)) := HF.out.cell 0
  have k1 : w1.cell? ⟨w.heap.size, 1, none⟩ = some (.int .u8 (y : Int)) := HF.out.cell 1
  have y3 : IntKind.i64.wrap ((x : Int) % 60) = (x : Int) % 60 := by rw [IntKind.wrap_i64]; omega
  have y4 : IntKind.i64.wrap ((y : Int) % 5) = (y : Int) % 5 := by rw [IntKind.wrap_i64]; omega
  have yS : IntKind.i64.wrap (S : Int) = (S : Int) := by rw [IntKind.wrap_i64]; omega
  have yW : IntKind.i64.wrap (wN : Int) = (wN : Int) := by rw [IntKind.wrap_i64]; omega
  have y5 : IntKind.i64.wrap (8 + IntKind.i64.wrap ((x : Int).tmod 60)) = (S : Int) := by
    rw [Int.tmod_eq_emod_of_nonneg (by omega), y3, HS.out, yS]
  have y6 : IntKind.i64.wrap (1 + IntKind.i64.wrap ((y : Int).tmod 5)) = (wN : Int) := by
    rw [Int.tmod_eq_emod_of_nonneg (by omega), y4, HWN.out, yW]
  refine wp_reads (by kernel_rfl) (by kernel_rfl) ?_
  repeat (refine sg_step (fun K2 hK => ?_); go_simp; refine hK.out _ ?_; clear hK K2)
  refine sg_nil ?_
  have hzd : Below w1.heap.size w1 w1.drew := (Below.refl _ _).drew
  generalize hw1d : w1.drew = w1d at *
  have hs1d : w1d.heap.size = w1.heap.size := by rw [← hw1d]; rfl
  clear k0 k1 y3 y4 yS yW y5 y6 hw1d
  go_wp2_with fail
  refine HW.out.mono ?_
  rintro e w2 ⟨K, rfl, hI2, hK, hb2⟩
  have HI2 := Lib.hid hI2
  have HK := Lib.hid (hK.trans hs1d)
  have HB2 := Lib.hid (hzd.trans (hb2.mono (by omega)))
  clear hI2 hK hb2 HW hzd
  go_wp2_with fail
  refine (awake10_any w2).mono ?_
  rintro e w3 ⟨rfl, hb3⟩
  have HI3 := Lib.hid (HI2.out.below hb3)
  have HB3 := Lib.hid (HB2.out.trans (hb3.mono HB2.out.size))
  clear hb3 HI2 HB2
  by_cases hbig : (200 : Int) < (l.length : Int)
  · go_wp2_with fail
    refine (awake10_any w3).mono ?_
    rintro e w4 ⟨rfl, hb4⟩
    have HB4 := Lib.hid (HB.out.trans ((HB3.out.trans (hb4.mono HB3.out.size)).mono (Nat.le_of_lt hz0)))
    clear hb4
    go_wp2_with fail
    go_ret
    exact ⟨rfl, HB4.out⟩
  have hnn : (l.length : Int) ≤ 200 := by omega
  have HTL := Lib.hid (((HTP.out K (by have := HK.out; omega)).below HB.out).below HB3.out)
  have hz3 : w.heap.size < w3.heap.size := by have := HB3.out.size; omega
  have yz : IntKind.i64.wrap (z : Int) = (z : Int) := by rw [IntKind.wrap_i64]; omega
  have HSF := Lib.hid (setfault_w (z : Int) HI3.out (by omega))
  clear hbig HTP HF
  go_wp2_with fail
  refine (device_any HI3.out).mono ?_
  rintro e w4 ⟨rfl, rfl⟩
  go_wp2_with fail
  refine HSF.out.mono ?_
  rintro e w4 ⟨rfl, hI4, ht4⟩
  have hb4 := Turn.belowB HI3.out HK.out (fun _ h => h.elim) HB3.out ht4
  have hTL4 := HTL.out.turn HI3.out ht4 (fun g _ h => h)
  obtain ⟨V, hV⟩ : ∃ V : Wk, V = { (wk0 S 500 1000) with D := (wk0 S 500 1000).D.setFault (z : Int) } := ⟨_, rfl⟩
  rw [← hV] at hI4
  have hVs : Sure V.D := by rw [hV]; exact ⟨rfl, rfl⟩
  have hVz : V.D.size = S := by rw [hV]; rfl
  have hp := hN_pos hS8 hw1 hw5
  have hle := nB_le (size := S) (wN := wN) (count := l.length) hp
  have HL := Lib.hid (lay_c wN l a c hI4 hVs (by rw [hV]; exact Nat.le_refl _) hw1 hw5 (by omega) (by rw [hVz, hV]; show S ≤ (1000 : Int).toNat - 0; omega) hTL4 HT5.out (by rw [hV]; show 0 + l.length + 1 < _; omega) (fun g hg => by
    unfold O0
    have := hb4.size
    rw [HK.out]
    omega))
  have HI4 := Lib.hid hI4
  have HB4 := Lib.hid hb4
  have HTL4 := Lib.hid hTL4
  have HV := Lib.hid hV
  have HVS := Lib.hid hVs
  have HVZ := Lib.hid hVz
  clear hI4 hb4 hTL4 hV hVs hVz ht4 HTL HSF hp
  go_wp2_with fail
  refine HL.out.mono ?_
  rintro e w5 ⟨W', O', ho, hI5, ht5, hres⟩
  have hb5 := Turn.belowB HI4.out HK.out (fun _ h => h.elim) HB4.out ht5
  have hTL5 := HTL4.out.turn HI4.out ht5 (fun g _ h => h)
  have hroom : ∃ p, Sp.Room V.L p (nB V.D.size wN l.length) := by
    rw [HVZ.out, HV.out]
    exact ⟨0, room_whole (B := 500) (n := nB S wN l.length) (by omega)⟩
  have hVA : V.A.used = 0 ∧ V.A.room = 1000 ∧ V.A.peak = 0 := by rw [HV.out]; exact ⟨rfl, rfl, rfl⟩
  have hVL : V.L = Sp.wholeL 0 500 := by rw [HV.out]; rfl
  have hVB : V.B = 500 := by rw [HV.out]; rfl
  have hVac : V.D.acts = 0 := by rw [HV.out]; rfl
  have hVbl : V.D.blocks = 500 := by rw [HV.out]; rfl
  have hz5 : w.heap.size < w5.heap.size := by have := hb5.size; omega
  rcases hres with ⟨first, rfl, hok⟩ | ⟨er, rfl, hno⟩
  · have hinvV : Sp.Inv 0 V.B V.L := by rw [hVB, hVL]; exact Sp.whole_inv 0 500
    have hsp := hok.took.spec hinvV
    have hn500 : nB S wN l.length ≤ 500 := by omega
    have hfirst : first = 0 := by
      have h := hsp
      rw [hVL, hVB, HVZ.out] at h
      exact laid_first h hn500
    subst hfirst
    have hsz : W'.D.size = S := hok.goes.size.trans HVZ.out
    have hbn : Below w5.heap.size w5 (w5.alloc (.cells (fcells 0 (nB S wN l.length) wN l.length) 32)) := (Below.refl _ _).alloc (Nat.le_refl _) _
    have hgo := hok.goes
    have hlies := hok.lies
    have hsum := TookN.sum hinvV hsp
    rw [HVZ.out] at hgo hlies hsum
    have hsum' : (Sp.sumX W'.L : Int) = 500 - (nB S wN l.length : Int) := by
      rw [hVL, sum_whole] at hsum
      omega
    have HLS := Lib.hid (list_c wN 0 l (hI5.below hbn) (hgo.sure HVS.out) hw1 hw5 (by omega) hok.fits (by rw [hsz]; exact hlies) (.inr (by rw [hsz, hgo.blocks, hVbl, Nat.zero_add]; exact hn500)) (by omega) (by rw [hsz, hok.arn]; show S ≤ V.A.room - V.A.used; rw [hVA.1, hVA.2.1]; omega) (by have := hgo.acts; omega))
    rw [hsz] at HLS
    rw [HVZ.out]
    have husd : W'.A.used = 0 := by rw [hok.arn]; exact hVA.1
    have hac' : W'.D.acts = nB S wN l.length := by rw [hgo.acts, hVac, Nat.zero_add]
    rw [show fcells 0 (nB S wN l.length) wN l.length = #[.int .i64 0, .int .i64 (nB S wN l.length : Int), .int .i64 (wN : Int), .int .i64 (l.length : Int)] from rfl] at *
    have HG6 := Lib.hid (Blk.new w5 32 #[.int .i64 0, .int .i64 (nB S wN l.length : Int), .int .i64 (wN : Int), .int .i64 (l.length : Int)])
    have HI6 := Lib.hid (hI5.below hbn)
    have HB6 := Lib.hid (hb5.trans (hbn.mono hb5.size))
    have HTL6 := Lib.hid (hTL5.below hbn)
    have HUS := Lib.hid husd
    have HSU := Lib.hid hsum'
    have HAC := Lib.hid hac'
    have HSZ := Lib.hid hsz
    clear hinvV hsp hbn hgo hlies hsum hsum' husd hac' hsz hok hI5 ht5 hb5 hTL5 hroom hVA hVL hVB hVac hVbl ho HL HI4 HB4 HTL4
    go_wp2_with fail
    generalize hfb : w5.heap.size = fb at *
    generalize w5.alloc (.cells #[.int .i64 0, .int .i64 (nB S wN l.length : Int), .int .i64 (wN : Int), .int .i64 (l.length : Int)] 32) = w6 at *
    refine HLS.out.mono ?_
    rintro e w7 ⟨W7, O7, ho7, hI7, ht7, hW7, hres7⟩
    have hb7 := Turn.belowB HI6.out HK.out (fun _ h => h.elim) HB6.out ht7
    have hG7 := HI6.out.blk ht7 HG6.out (by decide) (by decide) (by decide) (by decide) (by decide) (fun h => h)
    have hTL7 := HTL6.out.turn HI6.out ht7 (fun g _ h => h)
    have HG7 := Lib.hid hG7
    have HI7 := Lib.hid hI7
    have HB7 := Lib.hid hb7
    have HW7 := Lib.hid hW7
    rcases hres7 with ⟨v, rfl, hown, hg7⟩ | ⟨hbad, rfl⟩
    · obtain ⟨a7, c7, rfl, hT7, _⟩ := tps_own (K := K) hown HT5.out
      rw [HSZ.out] at hg7
      have hac7 : (W7.D.acts : Int) = 2 * (nB S wN l.length : Int) := by rw [hg7.acts, HAC.out]; omega
      have hwr : IntKind.i64.wrap (2 * (nB S wN l.length : Int)) = 2 * (nB S wN l.length : Int) := by rw [IntKind.wrap_i64]; omega
      have SM := Lib.hid (fun W' (h : Below w7.heap.size w7 W') => (refsame_yes l a7 a c7 c W' (hT7.below h) (hTL7.below h) HT5.out (by omega)).mono (fun e w' he => (⟨he.1, by obtain ⟨m, hm⟩ := he.2; rw [hm]; exact ⟨h.os, h.tape, h.output, h.size, h.block⟩⟩ : e = Ending.returned (.bool true) ∧ Below w7.heap.size w7 w')))
      have DV := Lib.hid (fun W' (h : Below w7.heap.size w7 W') => (device_any (hI7.below h)).mono (fun e w' he => (⟨he.1, he.2 ▸ h⟩ : e = Ending.returned (P K.d) ∧ Below w7.heap.size w7 w')))
      have AC := Lib.hid (fun W' (h : Below w7.heap.size w7 W') => (acts_w (hI7.below h)).mono (fun e w' he => (⟨by rw [he.1, hac7], he.2 ▸ h⟩ : e = Ending.returned (.int .i64 (2 * (nB S wN l.length : Int))) ∧ Below w7.heap.size w7 w')))
      have CELL := Lib.hid (fun W' (h : Below w7.heap.size w7 W') => (hG7.below h hG7.lt).cell 1)
      have f1 : w7.cell? ⟨fb, 1, none⟩ = some (.int .i64 (nB S wN l.length : Int)) := hG7.cell 1
      have hd0 : Below w7.heap.size w7 w7.drew := (Below.refl _ _).drew
      clear hown hT7 hTL7 hg7 hac7 hb7 hG7 hI7 hW7 ht7 ho7 HLS HI6 HB6 HTL6 HUS HSU HAC HG6
      go_wp2_with fail
      go_region_held3 (fun w' => Below w7.heap.size w7 w' ∧ w'.cell? ⟨fb, 1, none⟩ = some (.int .i64 (nB S wN l.length : Int)))
        (exact ⟨by assumption, CELL.out _ (by assumption)⟩)
        ((first
          | (go_at_call 26; refine (SM.out _ (by assumption)).mono ?_; rintro e wsm ⟨rfl, hsm⟩)
          | (go_at_call 13; refine (DV.out _ (by assumption)).mono ?_; rintro e wdv ⟨rfl, hdv⟩)
          | (go_at_call 37; refine (AC.out _ (by assumption)).mono ?_; rintro e wac ⟨rfl, hac⟩)))
      all_goals
        go_wp2_with fail
        go_ret
        exact ⟨rfl, HB.out.trans ((HB7.out.trans (hac.mono HB7.out.size)).mono (Nat.le_of_lt hz0))⟩
    · have husd7 : W7.A.used = 0 := by rw [hW7.arn]; exact HUS.out
      have hwr : IntKind.i64.wrap (500 - (nB S wN l.length : Int)) = 500 - (nB S wN l.length : Int) := by rw [IntKind.wrap_i64]; omega
      have AR := Lib.hid (fun W' (h : Below w7.heap.size w7 W') => (arena_any (hI7.below h)).mono (fun e w' he => (⟨he.1, he.2 ▸ h⟩ : e = Ending.returned (P K.a) ∧ Below w7.heap.size w7 w')))
      have US := Lib.hid (fun W' (h : Below w7.heap.size w7 W') => (used_w (hI7.below h)).mono (fun e w' he => (⟨by rw [he.1, husd7]; rfl, he.2 ▸ h⟩ : e = Ending.returned (.int .i64 0) ∧ Below w7.heap.size w7 w')))
      have SP := Lib.hid (fun W' (h : Below w7.heap.size w7 W') => (space_any (hI7.below h)).mono (fun e w' he => (⟨he.1, he.2 ▸ h⟩ : e = Ending.returned (P K.s) ∧ Below w7.heap.size w7 w')))
      have SF := Lib.hid (fun W' (h : Below w7.heap.size w7 W') => (spfree_w (hI7.below h)).mono (fun e w' he => (⟨by rw [he.1, hW7.L, HSU.out], h.trans (he.2.mono h.size)⟩ : e = Ending.returned (.int .i64 (500 - (nB S wN l.length : Int))) ∧ Below w7.heap.size w7 w')))
      have CELL := Lib.hid (fun W' (h : Below w7.heap.size w7 W') => (hG7.below h hG7.lt).cell 1)
      have f1 : w7.cell? ⟨fb, 1, none⟩ = some (.int .i64 (nB S wN l.length : Int)) := hG7.cell 1
      have hd0 : Below w7.heap.size w7 w7.drew := (Below.refl _ _).drew
      clear hTL7 hb7 hG7 hI7 hW7 ht7 ho7 HLS HI6 HB6 HTL6 HUS HSU HAC HG6 husd7
      go_wp2_with fail
      go_region_held3 (fun w' => Below w7.heap.size w7 w' ∧ w'.cell? ⟨fb, 1, none⟩ = some (.int .i64 (nB S wN l.length : Int)))
        (exact ⟨by assumption, CELL.out _ (by assumption)⟩)
        ((first
          | (go_at_call 18; refine (AR.out _ (by assumption)).mono ?_; rintro e war ⟨rfl, har⟩)
          | (go_at_call 19; refine (US.out _ (by assumption)).mono ?_; rintro e wus ⟨rfl, hus⟩)
          | (go_at_call 30; refine (SP.out _ (by assumption)).mono ?_; rintro e wsp ⟨rfl, hsp⟩)
          | (go_at_call 34; refine (SF.out _ (by assumption)).mono ?_; rintro e wsf ⟨rfl, hsf⟩)))
      all_goals
        go_wp2_with fail
        go_ret
        exact ⟨rfl, HB.out.trans ((HB7.out.trans (hsf.mono HB7.out.size)).mono (Nat.le_of_lt hz0))⟩
  · have her : er = 6 ∨ er = 1 := by
      rcases hno.why with ⟨_, _, h⟩ | ⟨h, _⟩ | ⟨h, _⟩
      · obtain ⟨p, hp⟩ := hroom
        exact absurd hp (h p)
      · exact .inr h
      · exact .inl h
    have husd : W'.A.used = 0 := by rw [hno.arn]; exact hVA.1
    have hsum : Sp.sumX W'.L = 500 := by rw [hno.L, hVL]; exact sum_whole 500
    have hbn : Below w5.heap.size w5 (w5.alloc (.cells #[.int .i64 0, .int .i64 0, .int .i64 0, .int .i64 0] 32)) := (Below.refl _ _).alloc (Nat.le_refl _) _
    have hne : (er != 0) = true := by rcases her with h | h <;> rw [h] <;> rfl
    have HI6 := Lib.hid (hI5.below hbn)
    have HB6 := Lib.hid (hb5.trans (hbn.mono hb5.size))
    have HG6 := Lib.hid (Blk.new w5 32 #[.int .i64 0, .int .i64 0, .int .i64 0, .int .i64 0])
    have HUS := Lib.hid husd
    have HSU := Lib.hid hsum
    unfold noFile
    clear hbn hI5 ht5 hb5 hTL5 hroom hVA hVL hVB hVac hVbl hno husd hsum ho HL
    rcases her with rfl | rfl
    all_goals
      go_wp2_with fail
      generalize hfb : w5.heap.size = fb at *
      generalize w5.alloc (.cells #[.int .i64 0, .int .i64 0, .int .i64 0, .int .i64 0] 32) = w6 at *
      refine (arena_any HI6.out).mono ?_
      rintro e w7 ⟨rfl, rfl⟩
      go_wp2_with fail
      refine (used_w HI6.out).mono ?_
      rintro e w7 ⟨rfl, rfl⟩
      rw [HUS.out]
      go_wp2_with fail
      refine (space_any HI6.out).mono ?_
      rintro e w7 ⟨rfl, rfl⟩
      go_wp2_with fail
      refine (spfree_w HI6.out).mono ?_
      rintro e w7 ⟨rfl, hb7⟩
      rw [HSU.out]
      have hG7 := HG6.out.below hb7 HG6.out.lt
      have f0 : w7.cell? ⟨fb, 0, none⟩ = some (.int .i64 0) := hG7.cell 0
      have f1 : w7.cell? ⟨fb, 1, none⟩ = some (.int .i64 0) := hG7.cell 1
      have f2 : w7.cell? ⟨fb, 2, none⟩ = some (.int .i64 0) := hG7.cell 2
      have f3 : w7.cell? ⟨fb, 3, none⟩ = some (.int .i64 0) := hG7.cell 3
      have HB7 := Lib.hid (HB.out.trans ((HB6.out.trans (hb7.mono HB6.out.size)).mono (Nat.le_of_lt hz0)))
      clear hG7 hb7
      go_wp2_with fail
      go_ret
      exact ⟨rfl, HB7.out⟩

theorem FileFaults_law {w : World} (cs : Array Value) (two : List Int) (h : rdArr 2 1 (rdInt .u8) w cs.toList two) (a : Option Addr) (n c : Nat) (l : List (List Int)) (hl : rdSlice 5 (rdArr 5 1 (rdInt .i64)) w [.slice a n c] l) (z : Int) (hz : (Lit.int .u8 z).wf = true) :
    Calls Try.prog 8 #[.agg cs, .slice a n c, .int .u8 z] w fun e w' => e = .returned (.bool true) ∧ Below w.heap.size w w' := by
  obtain ⟨x, y, rfl, hx, hy, _⟩ := rdArr2_ints h
  obtain ⟨lt, hn, h5, hm, _, hT⟩ := tups_of hl
  subst hn
  have hx := u_bounds.2.2.1 hx
  have hy := u_bounds.2.2.1 hy
  have hz := u_bounds.2.2.1 hz
  obtain ⟨x, rfl⟩ := Int.eq_ofNat_of_zero_le hx.1
  obtain ⟨y, rfl⟩ := Int.eq_ofNat_of_zero_le hy.1
  obtain ⟨z, rfl⟩ := Int.eq_ofNat_of_zero_le hz.1
  exact FileFaults_walk x y z (by omega) (by omega) (by omega) a c lt hT h5 hm

end Go.Proofs.Ytmmkncocgjgapaa.Fl
