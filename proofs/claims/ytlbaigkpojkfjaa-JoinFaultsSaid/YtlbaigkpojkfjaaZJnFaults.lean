/- The law JoinFaults. -/
import Derived.Test.YtlbaigkpojkfjaaZJnJS
import Derived.Deep.CutBlock
set_option linter.unusedVariables false
namespace Go.Proofs.Ytlbaigkpojkfjaa.Fl
open Go.RowKit

set_option maxRecDepth 100000 in
set_option maxHeartbeats 8000000 in
theorem JoinFaults_walk {w : World} (xa xb n : Nat) (hxa : xa < 256) (hxb : xb < 256) (hn : n < 256) (aA aB : Option Addr) (cA cB : Nat) (la lb : List Tup) (hTA : ∀ K : Key, w.heap.size ≤ K.base → Tps K w aA la) (hTB : ∀ K : Key, w.heap.size ≤ K.base → Tps K w aB lb) (ha5 : ∀ t ∈ la, t.length = 5) (hb5 : ∀ t ∈ lb, t.length = 5) (hma : la.length ≤ maxLen) (hmb : lb.length ≤ maxLen) :
    Calls Try.prog 8 #[.agg #[.int .u8 (xa : Int), .slice aA la.length cA], .agg #[.int .u8 (xb : Int), .slice aB lb.length cB], .int .u8 (n : Int)] w (fun e w' => e = .returned (.bool true) ∧ Below w.heap.size w w') := by
  obtain ⟨aN, haN⟩ : ∃ aN, aN = 1 + xa % 5 := ⟨_, rfl⟩
  obtain ⟨bN, hbN⟩ : ∃ bN, bN = 1 + xb % 5 := ⟨_, rfl⟩
  have hbl : Below w.heap.size w ((w.alloc (.cells #[.int .u8 (xa : Int), .slice aA la.length cA] 24)).alloc (.cells #[.int .u8 (xb : Int), .slice aB lb.length cB] 24)) := ((Below.refl _ _).alloc (Nat.le_refl _) _).alloc (by simp) _
  have hA := (Blk.new w 24 #[.int .u8 (xa : Int), .slice aA la.length cA]).alloc (.cells #[.int .u8 (xb : Int), .slice aB lb.length cB] 24)
  have hB := Blk.new (w.alloc (.cells #[.int .u8 (xa : Int), .slice aA la.length cA] 24)) 24 #[.int .u8 (xb : Int), .slice aB lb.length cB]
  rw [show (w.alloc (.cells #[.int .u8 (xa : Int), .slice aA la.length cA] 24)).heap.size = w.heap.size + 1 from by simp] at hB
  have HB := Lib.hid hbl
  have HA1 := Lib.hid hA
  have HB1 := Lib.hid hB
  have HXA := Lib.hid (And.intro haN hxa)
  have HXB := Lib.hid (And.intro hbN hxb)
  have HTA := Lib.hid hTA
  have HTB := Lib.hid hTB
  have HA5 := Lib.hid ha5
  have HB5 := Lib.hid hb5
  clear hbl hA hB haN hxa hbN hxb hTA hTB ha5 hb5
  go_enter Try.func8, Try.ntmps8
  go_upto_region 1 with (fail)
  generalize ((w.alloc (.cells #[.int .u8 (xa : Int), .slice aA la.length cA] 24)).alloc (.cells #[.int .u8 (xb : Int), .slice aB lb.length cB] 24)) = w1 at *
  have hz0 : w.heap.size < w1.heap.size := HA1.out.lt
  go_wp2_with fail
  refine (work13_ok w1).mono ?_
  rintro e w2 ⟨K, rfl, hI2, hK, hb2⟩
  have HK := Lib.hid hK
  have HS2 := Lib.hid (show JS w1 w2 K (O0 K) (wk0 12 5000 60) from ⟨hI2, fun g hg => by unfold O0; have := hb2.size; rw [hK]; omega, hb2⟩)
  have HPA := Lib.hid ((HTA.out K (by omega)).below HB.out)
  have HPB := Lib.hid ((HTB.out K (by omega)).below HB.out)
  clear hI2 hK hb2 HTA HTB
  go_wp2_with fail
  refine (awake13_any w2).mono ?_
  rintro e w3 ⟨rfl, hb3⟩
  have HS3 := Lib.hid (HS2.out.below hb3)
  have hA3 := HA1.out.below HS3.out.bel HA1.out.lt
  have a0 : w3.cell? ⟨w.heap.size, 0, none⟩ = some (.int .u8 (xa : Int)) := hA3.cell 0
  have a1 : w3.cell? ⟨w.heap.size, 1, none⟩ = some (.slice aA la.length cA) := hA3.cell 1
  clear hb3 HS2 hA3
  by_cases hno : 200 < la.length ∨ allB aN la = false
  · have HL := Lib.hid (lay13_no xa aN K.wk la aA cA w3 HXA.out.1 HXA.out.2 (HPA.out.below HS3.out.bel) HA5.out hno)
    clear hno
    go_wp2_with fail
    refine HL.out.mono ?_
    rintro e w4 ⟨rfl, hb4⟩
    unfold noFile
    have HS4 := Lib.hid ((HS3.out.below hb4).alloc (.cells #[.int .i64 0, .int .i64 0, .int .i64 0, .int .i64 0] 29))
    clear hb4 HL HS3 a0 a1
    have hB4 := HB1.out.below HS4.out.bel HB1.out.lt
    have b0 : (w4.alloc (.cells #[.int .i64 0, .int .i64 0, .int .i64 0, .int .i64 0] 29)).cell? ⟨w.heap.size + 1, 0, none⟩ = some (.int .u8 (xb : Int)) := hB4.cell 0
    have b1 : (w4.alloc (.cells #[.int .i64 0, .int .i64 0, .int .i64 0, .int .i64 0] 29)).cell? ⟨w.heap.size + 1, 1, none⟩ = some (.slice aB lb.length cB) := hB4.cell 1
    clear hB4
    go_upto_region 5 with (fail)
    generalize w4.alloc (.cells #[.int .i64 0, .int .i64 0, .int .i64 0, .int .i64 0] 29) = w5 at *
    by_cases hno : 200 < lb.length ∨ allB bN lb = false
    · have HL := Lib.hid (lay13_no xb bN K.wk lb aB cB w5 HXB.out.1 HXB.out.2 (HPB.out.below HS4.out.bel) HB5.out hno)
      clear hno
      go_wp2_with fail
      refine HL.out.mono ?_
      rintro e w6 ⟨rfl, hb6⟩
      unfold noFile
      have HS6 := Lib.hid ((HS4.out.below hb6).alloc (.cells #[.int .i64 0, .int .i64 0, .int .i64 0, .int .i64 0] 29))
      clear hb6 HL
      go_wp2_with fail
      go_ret
      exact ⟨rfl, HB.out.trans (HS6.out.bel.mono (Nat.le_of_lt hz0))⟩
    · have hle : lb.length ≤ 200 := by omega
      have hall : allB bN lb = true := by
        cases h : allB bN lb with
        | true => rfl
        | false => exact absurd (.inr h) hno
      have HL := Lib.hid (lay13_yes xb bN lb aB cB w5 HXB.out.1 HXB.out.2 HS4.out.wk fine0 rfl HS4.out.out (by omega) (by omega) (HPB.out.below HS4.out.bel) HB5.out hle hall)
      clear hno hall
      go_wp2_with fail
      refine HL.out.mono ?_
      rintro e w6 ⟨fb, W6, O6, rfl, ho6, hI6, ht6, _⟩
      unfold fcells
      have HS6 := Lib.hid ((HS4.out.turn HK.out ht6 hI6 ho6.1).alloc (.cells #[.int .i64 (fb : Int), .int .i64 (nB 12 bN lb.length : Int), .int .i64 (bN : Int), .int .i64 (lb.length : Int)] 29))
      clear ho6 hI6 ht6 HL
      go_wp2_with fail
      go_ret
      exact ⟨rfl, HB.out.trans (HS6.out.bel.mono (Nat.le_of_lt hz0))⟩
  have hle : la.length ≤ 200 := by omega
  have hall : allB aN la = true := by
    cases h : allB aN la with
    | true => rfl
    | false => exact absurd (.inr h) hno
  have HL := Lib.hid (lay13_yes xa aN la aA cA w3 HXA.out.1 HXA.out.2 HS3.out.wk fine0 rfl HS3.out.out (by omega) (by omega) (HPA.out.below HS3.out.bel) HA5.out hle hall)
  clear hno hall
  go_wp2_with fail
  refine HL.out.mono ?_
  rintro e w4 ⟨fa, W4, O4, rfl, ho4, hI4, ht4, f4, hfa4, hh4, af4⟩
  unfold fcells
  have HS5 := Lib.hid ((HS3.out.turn HK.out ht4 hI4 ho4.1).alloc (.cells #[.int .i64 (fa : Int), .int .i64 (nB 12 aN la.length : Int), .int .i64 (aN : Int), .int .i64 (la.length : Int)] 29))
  have HFA5 := Lib.hid (Blk.new w4 29 #[.int .i64 (fa : Int), .int .i64 (nB 12 aN la.length : Int), .int .i64 (aN : Int), .int .i64 (la.length : Int)])
  have hfp : w1.heap.size ≤ w4.heap.size := (HS3.out.turn HK.out ht4 hI4 ho4.1).bel.size
  have HP5 := Lib.hid (And.intro f4 (And.intro hfa4 (And.intro hh4 af4)))
  clear ho4 hI4 ht4 f4 hfa4 hh4 af4 HL HS3 a0 a1
  have hB5 := HB1.out.below HS5.out.bel HB1.out.lt
  have b0 : (w4.alloc (.cells #[.int .i64 (fa : Int), .int .i64 (nB 12 aN la.length : Int), .int .i64 (aN : Int), .int .i64 (la.length : Int)] 29)).cell? ⟨w.heap.size + 1, 0, none⟩ = some (.int .u8 (xb : Int)) := hB5.cell 0
  have b1 : (w4.alloc (.cells #[.int .i64 (fa : Int), .int .i64 (nB 12 aN la.length : Int), .int .i64 (aN : Int), .int .i64 (la.length : Int)] 29)).cell? ⟨w.heap.size + 1, 1, none⟩ = some (.slice aB lb.length cB) := hB5.cell 1
  clear hB5
  go_upto_region 5 with (fail)
  generalize hfpe : w4.heap.size = fp at *
  generalize w4.alloc (.cells #[.int .i64 (fa : Int), .int .i64 (nB 12 aN la.length : Int), .int .i64 (aN : Int), .int .i64 (la.length : Int)] 29) = w5 at *
  by_cases hno : 200 < lb.length ∨ allB bN lb = false
  · have HL := Lib.hid (lay13_no xb bN K.wk lb aB cB w5 HXB.out.1 HXB.out.2 (HPB.out.below HS5.out.bel) HB5.out hno)
    clear hno
    go_wp2_with fail
    refine HL.out.mono ?_
    rintro e w6 ⟨rfl, hb6⟩
    unfold noFile
    have HS6 := Lib.hid ((HS5.out.below hb6).alloc (.cells #[.int .i64 0, .int .i64 0, .int .i64 0, .int .i64 0] 29))
    clear hb6 HL
    go_wp2_with fail
    go_ret
    exact ⟨rfl, HB.out.trans (HS6.out.bel.mono (Nat.le_of_lt hz0))⟩
  have hleb : lb.length ≤ 200 := by omega
  have hall : allB bN lb = true := by
    cases h : allB bN lb with
    | true => rfl
    | false => exact absurd (.inr h) hno
  have HL := Lib.hid (lay13_yes xb bN lb aB cB w5 HXB.out.1 HXB.out.2 HS5.out.wk HP5.out.1 HP5.out.2.1 HS5.out.out (by omega) (by omega) (HPB.out.below HS5.out.bel) HB5.out hleb hall)
  clear hno hall
  go_wp2_with fail
  refine HL.out.mono ?_
  rintro e w6 ⟨fb, W6, O6, rfl, ho6, hI6, ht6, f6, hfa6, hh6, af6⟩
  unfold fcells
  have HS7 := Lib.hid ((HS5.out.turn HK.out ht6 hI6 ho6.1).alloc (.cells #[.int .i64 (fb : Int), .int .i64 (nB 12 bN lb.length : Int), .int .i64 (bN : Int), .int .i64 (lb.length : Int)] 29))
  have HFB7 := Lib.hid (Blk.new w6 29 #[.int .i64 (fb : Int), .int .i64 (nB 12 bN lb.length : Int), .int .i64 (bN : Int), .int .i64 (lb.length : Int)])
  have HFA7 := Lib.hid ((HS5.out.file ht6 HFA5.out).alloc (.cells #[.int .i64 (fb : Int), .int .i64 (nB 12 bN lb.length : Int), .int .i64 (bN : Int), .int .i64 (lb.length : Int)] 29))
  have hgp : fp < w6.heap.size := (HS5.out.file ht6 HFA5.out).lt
  have hgs : w6.heap.size < (w6.alloc (.cells #[.int .i64 (fb : Int), .int .i64 (nB 12 bN lb.length : Int), .int .i64 (bN : Int), .int .i64 (lb.length : Int)] 29)).heap.size := by simp
  have HP7 := Lib.hid (And.intro f6 (And.intro (af6.keep _ _ _ HP5.out.2.2.1) (And.intro hh6 (show Sp.sumX W6.L + (nB 12 aN la.length + nB 12 bN lb.length) = 5000 by have h1 := HP5.out.2.2.2.sum; have h2 := af6.sum; rw [sum0] at h1; omega))))
  clear ho6 hI6 ht6 f6 hfa6 hh6 af6 HL HS5 HFA5 b0 b1 HP5
  go_upto_region 8 with (fail)
  generalize hgpe : w6.heap.size = gp at *
  generalize w6.alloc (.cells #[.int .i64 (fb : Int), .int .i64 (nB 12 bN lb.length : Int), .int .i64 (bN : Int), .int .i64 (lb.length : Int)] 29) = w7 at *
  have yn : IntKind.i64.wrap (n : Int) = (n : Int) := by rw [IntKind.wrap_i64]; omega
  have HDV := Lib.hid (device_any HS7.out.wk)
  go_wp2_with fail
  refine HDV.out.mono ?_
  rintro e w8 ⟨rfl, rfl⟩
  have HSF := Lib.hid (setfault_w (n : Int) HS7.out.wk (by omega))
  clear HDV
  go_wp2_with fail
  refine HSF.out.mono ?_
  rintro e w9 ⟨rfl, hI9, ht9⟩
  have hs9 := HS7.out.turn HK.out ht9 hI9 (fun g hg => HS7.out.out g (by have := ht9.size; omega))
  have hfa9 := HS7.out.file ht9 HFA7.out
  have hfb9 := HS7.out.file ht9 HFB7.out
  have hxp : gp < w9.heap.size := hfb9.lt
  have HS10 := Lib.hid (hs9.alloc (.cells #[.int .i64 0, .int .i64 0, .int .i64 0, .int .i64 0] 29))
  have HFA10 := Lib.hid (hfa9.alloc (.cells #[.int .i64 0, .int .i64 0, .int .i64 0, .int .i64 0] 29))
  have HFB10 := Lib.hid (hfb9.alloc (.cells #[.int .i64 0, .int .i64 0, .int .i64 0, .int .i64 0] 29))
  have HX10 := Lib.hid (Blk.new w9 29 #[.int .i64 0, .int .i64 0, .int .i64 0, .int .i64 0])
  have HFI := Lib.hid (And.intro (HP7.out.1.fault_ (n : Int)) (And.intro (HP7.out.2.1.fault_ (n : Int)) (And.intro (HP7.out.2.2.1.fault_ (n : Int)) (show Sp.sumX ({ W6 with D := W6.D.setFault n } : Wk).L + (nB 12 aN la.length + nB 12 bN lb.length) = 5000 from HP7.out.2.2.2))))
  clear hI9 ht9 hs9 hfa9 hfb9 HSF HS7 HFA7 HFB7 HP7 yn
  go_upto_region 11 with (fail)
  generalize hxpe : w9.heap.size = xp at *
  generalize w9.alloc (.cells #[.int .i64 0, .int .i64 0, .int .i64 0, .int .i64 0] 29) = w10 at *
  generalize hWe : ({ W6 with D := W6.D.setFault n } : Wk) = W at *
  have HWL := Lib.hid (show W.L = W6.L by rw [← hWe])
  clear hWe
  obtain ⟨r, hr, hr4⟩ : ∃ r : Nat, (n : Int).tmod 4 = (r : Int) ∧ r < 4 := ⟨n % 4, by rw [Int.tmod_eq_emod_of_nonneg (by omega)]; omega, by omega⟩
  have hrw : IntKind.u8.wrap (r : Int) = (r : Int) := by show (r : Int) % 256 = r; omega
  go_upto_block 0 with (fail)
  clear hr hrw
  go_cut [13] (fun ev wx => ∃ (W' : Wk) (O' : Nat → Prop) (x0 x2 x3 er : Int) (nx : Nat), ev = .int .i64 er ∧ SwC w1 wx K W fp gp xp #[.int .i64 (fa : Int), .int .i64 (nB 12 aN la.length : Int), .int .i64 (aN : Int), .int .i64 (la.length : Int)] #[.int .i64 (fb : Int), .int .i64 (nB 12 bN lb.length : Int), .int .i64 (bN : Int), .int .i64 (lb.length : Int)] (0 + 200 + 200 + 200) (0 + 200 + 200 + 2000000) O' W' x0 x2 x3 er nx)
  case first =>
    obtain rfl | rfl | rfl | rfl : r = 0 ∨ r = 1 ∨ r = 2 ∨ r = 3 := by omega
    · rw [show ((0 : Nat) : Int) = 0 from rfl]
      have p0 : w10.cell? ⟨fp, 0, none⟩ = some (.int .i64 (fa : Int)) := HFA10.out.cell 0
      have p1 : w10.cell? ⟨fp, 1, none⟩ = some (.int .i64 (nB 12 aN la.length : Int)) := HFA10.out.cell 1
      have p2 : w10.cell? ⟨fp, 2, none⟩ = some (.int .i64 (aN : Int)) := HFA10.out.cell 2
      have p3 : w10.cell? ⟨fp, 3, none⟩ = some (.int .i64 (la.length : Int)) := HFA10.out.cell 3
      have q0 : w10.cell? ⟨gp, 0, none⟩ = some (.int .i64 (fb : Int)) := HFB10.out.cell 0
      have q1 : w10.cell? ⟨gp, 1, none⟩ = some (.int .i64 (nB 12 bN lb.length : Int)) := HFB10.out.cell 1
      have q2 : w10.cell? ⟨gp, 2, none⟩ = some (.int .i64 (bN : Int)) := HFB10.out.cell 2
      have q3 : w10.cell? ⟨gp, 3, none⟩ = some (.int .i64 (lb.length : Int)) := HFB10.out.cell 3
      have HC := Lib.hid (look_c (key := 0) (val := 0) (dst := 1) (wM := max aN (1 + 1)) HS10.out.wk HFI.out.1 HFI.out.2.1 HFI.out.2.2.1 (by have := HFI.out.2.1.wid; omega) (by have := HFI.out.2.2.1.wid; omega) (by omega) rfl (by omega) (by omega) HS10.out.out)
      rw [show ((0 : Nat) : Int) = 0 from rfl, show ((1 : Nat) : Int) = 1 from rfl] at HC
      go_wp2_with fail
      refine HC.out.mono ?_
      rintro e w11 hE
      obtain ⟨x0, x2, x3, er, nx, W', O', rfl, hx11, hsw⟩ := sw_of_each (w1 := w1) (fp := fp) (gp := gp) (xp := xp) HK.out HS10.out HFA10.out HFB10.out HX10.out (by omega) (by omega) (by omega) HFI.out.1 (fun er h => h.1) hE
      have HSW := Lib.hid hsw
      unfold four at HSW
      clear hsw hE HC p0 p1 p2 p3 q0 q1 q2 q3
      have z0 : w11.cell? ⟨xp, 0, none⟩ = some (.int .i64 0) := hx11.cell 0
      have v0 := hx11.frozen 0
      have z1 : w11.cell? ⟨xp, 1, none⟩ = some (.int .i64 0) := hx11.cell 1
      have v1 := hx11.frozen 1
      have z2 : w11.cell? ⟨xp, 2, none⟩ = some (.int .i64 0) := hx11.cell 2
      have v2 := hx11.frozen 2
      have z3 : w11.cell? ⟨xp, 3, none⟩ = some (.int .i64 0) := hx11.cell 3
      have v3 := hx11.frozen 3
      go_wp2_with fail
      go_meet
      exact ⟨W', O', x0, x2, x3, er, nx, rfl, HSW.out⟩
    · rw [show ((1 : Nat) : Int) = 1 from rfl]
      have p0 : w10.cell? ⟨fp, 0, none⟩ = some (.int .i64 (fa : Int)) := HFA10.out.cell 0
      have p1 : w10.cell? ⟨fp, 1, none⟩ = some (.int .i64 (nB 12 aN la.length : Int)) := HFA10.out.cell 1
      have p2 : w10.cell? ⟨fp, 2, none⟩ = some (.int .i64 (aN : Int)) := HFA10.out.cell 2
      have p3 : w10.cell? ⟨fp, 3, none⟩ = some (.int .i64 (la.length : Int)) := HFA10.out.cell 3
      have HC := Lib.hid (cut_c (o0 := 1) (o1 := 0) (o2 := 0) (o3 := 0) (o4 := 0) HS10.out.wk HFI.out.1 HFI.out.2.1 (by intro k hk; simp at hk; rcases hk with rfl | rfl <;> omega) (by omega) (by omega) HS10.out.out)
      go_wp2_with fail
      refine HC.out.mono ?_
      rintro e w11 hE
      have hE : EachF w10 O6 K W (0 + 200 + 200) (0 + 200 + 200) 1 (la.map (cutT [1, 0, 0, 0, 0])) JE0 0 (fun _ => False) e w11 := by
        have h1 := HFI.out.2.1.wid.1
        have hcn : cutN aN [1, 0, 0, 0, 0] = some 1 := by unfold cutN wgo; rw [if_neg (by decide), if_pos (by show 1 ≤ aN; omega)]; rfl
        rcases hE with ⟨h, _⟩ | ⟨n2, h2, _, _, hE⟩
        · exfalso
          rcases h with h | h | h
          · rw [hcn] at h; cases h
          · exact absurd h (by decide)
          · rw [hcn] at h; cases h
        · rw [hcn] at h2
          injection h2 with h2
          rw [← h2] at hE
          exact hE
      obtain ⟨x0, x2, x3, er, nx, W', O', rfl, hx11, hsw⟩ := sw_of_each (w1 := w1) (fp := fp) (gp := gp) (xp := xp) HK.out HS10.out HFA10.out HFB10.out HX10.out (by omega) (by omega) (by omega) HFI.out.1 (fun er h => h.elim) hE
      have HSW := Lib.hid hsw
      unfold four at HSW
      clear hsw hE HC p0 p1 p2 p3
      have z0 : w11.cell? ⟨xp, 0, none⟩ = some (.int .i64 0) := hx11.cell 0
      have v0 := hx11.frozen 0
      have z1 : w11.cell? ⟨xp, 1, none⟩ = some (.int .i64 0) := hx11.cell 1
      have v1 := hx11.frozen 1
      have z2 : w11.cell? ⟨xp, 2, none⟩ = some (.int .i64 0) := hx11.cell 2
      have v2 := hx11.frozen 2
      have z3 : w11.cell? ⟨xp, 3, none⟩ = some (.int .i64 0) := hx11.cell 3
      have v3 := hx11.frozen 3
      go_wp2_with fail
      go_meet
      exact ⟨W', O', x0, x2, x3, er, nx, rfl, HSW.out⟩
    · rw [show ((2 : Nat) : Int) = 2 from rfl]
      have q0 : w10.cell? ⟨gp, 0, none⟩ = some (.int .i64 (fb : Int)) := HFB10.out.cell 0
      have q1 : w10.cell? ⟨gp, 1, none⟩ = some (.int .i64 (nB 12 bN lb.length : Int)) := HFB10.out.cell 1
      have q2 : w10.cell? ⟨gp, 2, none⟩ = some (.int .i64 (bN : Int)) := HFB10.out.cell 2
      have q3 : w10.cell? ⟨gp, 3, none⟩ = some (.int .i64 (lb.length : Int)) := HFB10.out.cell 3
      have HC := Lib.hid (keep_c (col := 0) 0 5 HS10.out.wk HFI.out.1 HFI.out.2.2.1 (by have := HFI.out.2.2.1.wid; omega) (by omega) (by omega) HS10.out.out)
      rw [show ((0 : Nat) : Int) = 0 from rfl] at HC
      go_wp2_with fail
      refine HC.out.mono ?_
      rintro e w11 hE
      obtain ⟨x0, x2, x3, er, nx, W', O', rfl, hx11, hsw⟩ := sw_of_each (w1 := w1) (fp := fp) (gp := gp) (xp := xp) HK.out HS10.out HFA10.out HFB10.out HX10.out (by omega) (by omega) (by omega) HFI.out.1 (fun er h => h.elim) hE
      have HSW := Lib.hid hsw
      unfold four at HSW
      clear hsw hE HC q0 q1 q2 q3
      have z0 : w11.cell? ⟨xp, 0, none⟩ = some (.int .i64 0) := hx11.cell 0
      have v0 := hx11.frozen 0
      have z1 : w11.cell? ⟨xp, 1, none⟩ = some (.int .i64 0) := hx11.cell 1
      have v1 := hx11.frozen 1
      have z2 : w11.cell? ⟨xp, 2, none⟩ = some (.int .i64 0) := hx11.cell 2
      have v2 := hx11.frozen 2
      have z3 : w11.cell? ⟨xp, 3, none⟩ = some (.int .i64 0) := hx11.cell 3
      have v3 := hx11.frozen 3
      go_wp2_with fail
      go_meet
      exact ⟨W', O', x0, x2, x3, er, nx, rfl, HSW.out⟩
    · rw [show ((3 : Nat) : Int) = 3 from rfl]
      by_cases hb5 : bN = 5
      · have HB5N := Lib.hid hb5
        clear hb5
        have q0 : w10.cell? ⟨gp, 0, none⟩ = some (.int .i64 (fb : Int)) := HFB10.out.cell 0
        have q1 : w10.cell? ⟨gp, 1, none⟩ = some (.int .i64 (nB 12 bN lb.length : Int)) := HFB10.out.cell 1
        have q2 : w10.cell? ⟨gp, 2, none⟩ = some (.int .i64 (bN : Int)) := HFB10.out.cell 2
        have q3 : w10.cell? ⟨gp, 3, none⟩ = some (.int .i64 (lb.length : Int)) := HFB10.out.cell 3
        have HC := Lib.hid (number_arg (w := w10) (p := 0) (first := (fb : Int)) (blocks := (nB 12 bN lb.length : Int)) (width := (bN : Int)) (count := (lb.length : Int)) (from_ := 0) (rv := P K.wk) (by have := HB5N.out; omega))
        go_wp2_with fail
        refine HC.out.mono ?_
        rintro e w11 hE
        obtain ⟨x0, x2, x3, er, nx, W', O', rfl, hx11, hsw⟩ := sw_of_arg (w1 := w1) (fp := fp) (gp := gp) (xp := xp) HS10.out HFA10.out HFB10.out HX10.out (by omega) (by omega) (by omega) HFI.out.1 hE
        have HSW := Lib.hid hsw
        unfold four at HSW
        clear hsw hE HC q0 q1 q2 q3
        have z0 : w11.cell? ⟨xp, 0, none⟩ = some (.int .i64 0) := hx11.cell 0
        have v0 := hx11.frozen 0
        have z1 : w11.cell? ⟨xp, 1, none⟩ = some (.int .i64 0) := hx11.cell 1
        have v1 := hx11.frozen 1
        have z2 : w11.cell? ⟨xp, 2, none⟩ = some (.int .i64 0) := hx11.cell 2
        have v2 := hx11.frozen 2
        have z3 : w11.cell? ⟨xp, 3, none⟩ = some (.int .i64 0) := hx11.cell 3
        have v3 := hx11.frozen 3
        go_wp2_with fail
        go_meet
        exact ⟨W', O', x0, x2, x3, er, nx, rfl, HSW.out⟩
      · have hbw : bN ≤ 4 := by have := HFI.out.2.2.1.wid; omega
        clear hb5
        have q0 : w10.cell? ⟨gp, 0, none⟩ = some (.int .i64 (fb : Int)) := HFB10.out.cell 0
        have q1 : w10.cell? ⟨gp, 1, none⟩ = some (.int .i64 (nB 12 bN lb.length : Int)) := HFB10.out.cell 1
        have q2 : w10.cell? ⟨gp, 2, none⟩ = some (.int .i64 (bN : Int)) := HFB10.out.cell 2
        have q3 : w10.cell? ⟨gp, 3, none⟩ = some (.int .i64 (lb.length : Int)) := HFB10.out.cell 3
        have HC := Lib.hid (number_c 0 HS10.out.wk HFI.out.1 HFI.out.2.2.1 (by omega) (by omega) (by omega) (by omega) (by omega) HS10.out.out)
        go_wp2_with fail
        refine HC.out.mono ?_
        rintro e w11 hE
        obtain ⟨x0, x2, x3, er, nx, W', O', rfl, hx11, hsw⟩ := sw_of_each (w1 := w1) (fp := fp) (gp := gp) (xp := xp) HK.out HS10.out HFA10.out HFB10.out HX10.out (by omega) (by omega) (by omega) HFI.out.1 (fun er h => h.elim) hE
        have HSW := Lib.hid hsw
        unfold four at HSW
        clear hsw hE HC q0 q1 q2 q3
        have z0 : w11.cell? ⟨xp, 0, none⟩ = some (.int .i64 0) := hx11.cell 0
        have v0 := hx11.frozen 0
        have z1 : w11.cell? ⟨xp, 1, none⟩ = some (.int .i64 0) := hx11.cell 1
        have v1 := hx11.frozen 1
        have z2 : w11.cell? ⟨xp, 2, none⟩ = some (.int .i64 0) := hx11.cell 2
        have v2 := hx11.frozen 2
        have z3 : w11.cell? ⟨xp, 3, none⟩ = some (.int .i64 0) := hx11.cell 3
        have v3 := hx11.frozen 3
        go_wp2_with fail
        go_meet
        exact ⟨W', O', x0, x2, x3, er, nx, rfl, HSW.out⟩
  case rest =>
    obtain ⟨W', O', x0, x2, x3, er, nx, rfl, hsw⟩ := hcut
    have HSW := Lib.hid hsw
    have HDV := Lib.hid (device_any hsw.js.wk)
    have HSF := Lib.hid (setfault_w (-1) hsw.js.wk (by omega))
    clear hsw
    go_wp2_with fail
    refine HDV.out.mono ?_
    rintro e w8 ⟨rfl, rfl⟩
    go_wp2_with fail
    refine HSF.out.mono ?_
    rintro e w9 ⟨rfl, hI9, ht9⟩
    have HS12 := Lib.hid (HSW.out.js.turn HK.out ht9 hI9 (fun g hg => HSW.out.js.out g (by have := ht9.size; omega)))
    have HFA12 := Lib.hid (HSW.out.js.file ht9 HSW.out.f)
    have HFB12 := Lib.hid (HSW.out.js.file ht9 HSW.out.g)
    have HX12 := Lib.hid (HSW.out.js.file ht9 HSW.out.x)
    have HFJ := Lib.hid (And.intro (HSW.out.fine.fault_ (-1)) (And.intro ((HSW.out.after.keep _ _ _ HFI.out.2.1).fault_ (-1)) (And.intro ((HSW.out.after.keep _ _ _ HFI.out.2.2.1).fault_ (-1)) (show Sp.sumX ({ W' with D := W'.D.setFault (-1) } : Wk).L + (nB 12 aN la.length + nB 12 bN lb.length + nx) = 5000 by have h1 := HSW.out.after.sum; have h2 : Sp.sumX W.L + (nB 12 aN la.length + nB 12 bN lb.length) = 5000 := (by rw [HWL.out]; exact HFI.out.2.2.2); show Sp.sumX W'.L + (nB 12 aN la.length + nB 12 bN lb.length + nx) = 5000; omega))))
    have HFT : Hid (({ W' with D := W'.D.setFault (-1) } : Wk).D.fault = -1) := Lib.hid rfl
    have HER := Lib.hid HSW.out.er
    clear hI9 ht9 HSF HDV HSW HS10 HFA10 HFB10 HX10
    generalize hW2e : ({ W' with D := W'.D.setFault (-1) } : Wk) = W2 at *
    have HWL2 := Lib.hid (show W2.L = W'.L by rw [← hW2e])
    clear hW2e
    have k0 : w9.cell? ⟨xp, 0, none⟩ = some (.int .i64 x0) := HX12.out.cell 0
    have k1 : w9.cell? ⟨xp, 1, none⟩ = some (.int .i64 (nx : Int)) := HX12.out.cell 1
    have k2 : w9.cell? ⟨xp, 2, none⟩ = some (.int .i64 x2) := HX12.out.cell 2
    have k3 : w9.cell? ⟨xp, 3, none⟩ = some (.int .i64 x3) := HX12.out.cell 3
    go_upto_region 21 with (fail)
    go_cut [105] (fun v wx => v = .bool false ∧ w9 = wx)
    case first =>
      rcases HER.out with rfl | ⟨hero, rfl, rfl, rfl, rfl⟩
      · go_wp2_with fail
        go_meet
        exact ⟨rfl, rfl⟩
      · rw [show ((0 : Nat) : Int) = 0 from rfl] at k1
        rcases hero with rfl | rfl | rfl
        · go_wp2_with fail
          go_meet
          exact ⟨rfl, rfl⟩
        · go_wp2_with fail
          go_meet
          exact ⟨rfl, rfl⟩
        · go_wp2_with fail
          go_meet
          exact ⟨rfl, rfl⟩
    case rest =>
      obtain ⟨rfl, rfl⟩ := hcut
      clear k0 k1 k2 k3
      have p0 : w9.cell? ⟨fp, 0, none⟩ = some (.int .i64 (fa : Int)) := HFA12.out.cell 0
      have p1 : w9.cell? ⟨fp, 1, none⟩ = some (.int .i64 (nB 12 aN la.length : Int)) := HFA12.out.cell 1
      have p2 : w9.cell? ⟨fp, 2, none⟩ = some (.int .i64 (aN : Int)) := HFA12.out.cell 2
      have p3 : w9.cell? ⟨fp, 3, none⟩ = some (.int .i64 (la.length : Int)) := HFA12.out.cell 3
      have HLA := Lib.hid (list_f HS12.out.wk HFJ.out.1 HFT.out HFJ.out.2.1 (by omega))
      go_wp2_with fail
      refine HLA.out.mono ?_
      rintro e w13 ⟨W3, O3, v3, rfl, hown3, ho3, hI3, ht3, f3, hft3, af3⟩
      obtain ⟨a3, c3, rfl, hT3, _⟩ := tps_own (K := K) hown3 HA5.out
      have HS13 := Lib.hid (HS12.out.turn HK.out ht3 hI3 ho3.1)
      have HFA13 := Lib.hid (HS12.out.file ht3 HFA12.out)
      have HFB13 := Lib.hid (HS12.out.file ht3 HFB12.out)
      have HX13 := Lib.hid (HS12.out.file ht3 HX12.out)
      have HT3 := Lib.hid hT3
      have HF3 := Lib.hid (And.intro f3 (And.intro hft3 (And.intro (af3.keep _ _ _ HFJ.out.2.2.1) (show Sp.sumX W3.L + (nB 12 aN la.length + nB 12 bN lb.length + nx) = 5000 by have h1 := af3.sum; have h2 : Sp.sumX W2.L + (nB 12 aN la.length + nB 12 bN lb.length + nx) = 5000 := HFJ.out.2.2.2; omega))))
      clear hown3 ho3 hI3 ht3 f3 hft3 af3 hT3 HLA p0 p1 p2 p3 HS12 HFA12 HFB12 HX12
      have q0 : w13.cell? ⟨gp, 0, none⟩ = some (.int .i64 (fb : Int)) := HFB13.out.cell 0
      have q1 : w13.cell? ⟨gp, 1, none⟩ = some (.int .i64 (nB 12 bN lb.length : Int)) := HFB13.out.cell 1
      have q2 : w13.cell? ⟨gp, 2, none⟩ = some (.int .i64 (bN : Int)) := HFB13.out.cell 2
      have q3 : w13.cell? ⟨gp, 3, none⟩ = some (.int .i64 (lb.length : Int)) := HFB13.out.cell 3
      have HLB := Lib.hid (list_f HS13.out.wk HF3.out.1 HF3.out.2.1 HF3.out.2.2.1 (by omega))
      go_wp2_with fail
      refine HLB.out.mono ?_
      rintro e w14 ⟨W4, O4', v4, rfl, hown4, ho4, hI4, ht4, f4, hft4, af4⟩
      obtain ⟨a4, c4, rfl, hT4, _⟩ := tps_own (K := K) hown4 HB5.out
      have HS14 := Lib.hid (HS13.out.turn HK.out ht4 hI4 ho4.1)
      have HFA14 := Lib.hid (HS13.out.file ht4 HFA13.out)
      have HFB14 := Lib.hid (HS13.out.file ht4 HFB13.out)
      have HX14 := Lib.hid (HS13.out.file ht4 HX13.out)
      have HT34 := Lib.hid (HT3.out.turn HS13.out.wk ht4 (fun g _ h => h))
      have HT4 := Lib.hid hT4
      have HF4 := Lib.hid (And.intro f4.used (show Sp.sumX W4.L + (nB 12 aN la.length + nB 12 bN lb.length + nx) = 5000 by have h1 := af4.sum; have h2 := HF3.out.2.2.2; omega))
      clear hown4 ho4 hI4 ht4 f4 hft4 af4 hT4 HLB q0 q1 q2 q3 HS13 HFA13 HFB13 HX13 HT3
      have hA14 := HA1.out.below HS14.out.bel HA1.out.lt
      have a1 : w14.cell? ⟨w.heap.size, 1, none⟩ = some (.slice aA la.length cA) := hA14.cell 1
      have HSA := Lib.hid (refsame_yes la a3 aA c3 cA w14 HT34.out (HPA.out.below HS14.out.bel) HA5.out (by omega))
      clear hA14
      go_wp2_with fail
      refine HSA.out.mono ?_
      rintro e w15 ⟨rfl, m15, hm15⟩
      have hb15 : Below w14.heap.size w14 w15 := by rw [hm15]; exact ⟨rfl, rfl, rfl, Nat.le_refl _, fun _ _ => rfl⟩
      have HS15 := Lib.hid (HS14.out.below hb15)
      have hB15 := HB1.out.below HS15.out.bel HB1.out.lt
      have b1 : w15.cell? ⟨w.heap.size + 1, 1, none⟩ = some (.slice aB lb.length cB) := hB15.cell 1
      have HSB := Lib.hid (refsame_yes lb a4 aB c4 cB w15 (HT4.out.below hb15) (HPB.out.below HS15.out.bel) HB5.out (by omega))
      have HFA15 := Lib.hid (HFA14.out.below hb15 HFA14.out.lt)
      have HFB15 := Lib.hid (HFB14.out.below hb15 HFB14.out.lt)
      have HX15 := Lib.hid (HX14.out.below hb15 HX14.out.lt)
      clear hB15 hm15 hb15 a1 HSA HS14 HFA14 HFB14 HX14 HT4 HT34
      go_wp2_with fail
      refine HSB.out.mono ?_
      rintro e w16 ⟨rfl, m16, hm16⟩
      have hb16 : Below w15.heap.size w15 w16 := by rw [hm16]; exact ⟨rfl, rfl, rfl, Nat.le_refl _, fun _ _ => rfl⟩
      have HS16 := Lib.hid (HS15.out.below hb16)
      have hfa16 := HFA15.out.below hb16 HFA15.out.lt
      have hfb16 := HFB15.out.below hb16 HFB15.out.lt
      have hx16 := HX15.out.below hb16 HX15.out.lt
      have p0 : w16.cell? ⟨fp, 0, none⟩ = some (.int .i64 (fa : Int)) := hfa16.cell 0
      have p1 : w16.cell? ⟨fp, 1, none⟩ = some (.int .i64 (nB 12 aN la.length : Int)) := hfa16.cell 1
      have p2 : w16.cell? ⟨fp, 2, none⟩ = some (.int .i64 (aN : Int)) := hfa16.cell 2
      have p3 : w16.cell? ⟨fp, 3, none⟩ = some (.int .i64 (la.length : Int)) := hfa16.cell 3
      have q0 : w16.cell? ⟨gp, 0, none⟩ = some (.int .i64 (fb : Int)) := hfb16.cell 0
      have q1 : w16.cell? ⟨gp, 1, none⟩ = some (.int .i64 (nB 12 bN lb.length : Int)) := hfb16.cell 1
      have q2 : w16.cell? ⟨gp, 2, none⟩ = some (.int .i64 (bN : Int)) := hfb16.cell 2
      have q3 : w16.cell? ⟨gp, 3, none⟩ = some (.int .i64 (lb.length : Int)) := hfb16.cell 3
      have k0 : w16.cell? ⟨xp, 0, none⟩ = some (.int .i64 x0) := hx16.cell 0
      have k1 : w16.cell? ⟨xp, 1, none⟩ = some (.int .i64 (nx : Int)) := hx16.cell 1
      have k2 : w16.cell? ⟨xp, 2, none⟩ = some (.int .i64 x2) := hx16.cell 2
      have k3 : w16.cell? ⟨xp, 3, none⟩ = some (.int .i64 x3) := hx16.cell 3
      have hS17 := HS16.out.alloc (.cells #[.int .i64 (fa : Int), .int .i64 (nB 12 aN la.length : Int), .int .i64 (aN : Int), .int .i64 (la.length : Int), .int .i64 (fb : Int), .int .i64 (nB 12 bN lb.length : Int), .int .i64 (bN : Int), .int .i64 (lb.length : Int), .int .i64 x0, .int .i64 (nx : Int), .int .i64 x2, .int .i64 x3] 29)
      have hB17 := Blk.new w16 29 #[.int .i64 (fa : Int), .int .i64 (nB 12 aN la.length : Int), .int .i64 (aN : Int), .int .i64 (la.length : Int), .int .i64 (fb : Int), .int .i64 (nB 12 bN lb.length : Int), .int .i64 (bN : Int), .int .i64 (lb.length : Int), .int .i64 x0, .int .i64 (nx : Int), .int .i64 x2, .int .i64 x3]
      have HCL := Lib.hid (clean13_ok [nB 12 aN la.length, nB 12 bN lb.length, nx] w16.heap.size 3 hS17.wk (fun i hi => by
        have hi3 : i < 3 := hi
        obtain rfl | rfl | rfl : i = 0 ∨ i = 1 ∨ i = 2 := by omega
        · exact hB17.cell 1
        · exact hB17.cell 5
        · exact hB17.cell 9) HF4.out.1 (by simp; have := HF4.out.2; omega) (by simp))
      rw [show ([nB 12 aN la.length, nB 12 bN lb.length, nx] : List Nat).length = 3 from rfl] at HCL
      have HB17 := Lib.hid hS17.bel
      clear hb16 hm16 hfa16 hfb16 hx16 hS17 hB17 b1 HSB HS15 HS16 HFA15 HFB15 HX15
      go_wp2_with fail
      refine HCL.out.mono ?_
      rintro e w18 ⟨rfl, hb18⟩
      go_wp2_with fail
      go_ret
      exact ⟨rfl, HB.out.trans ((HB17.out.trans (hb18.mono HB17.out.size)).mono (Nat.le_of_lt hz0))⟩

theorem JoinFaults_law {w : World} (cs : Array Value) (p : Int × List (List Int)) (h : rdPair 1 1 (rdInt .u8) (rdSlice 5 (rdArr 5 1 (rdInt .i64))) w cs.toList p) (ds : Array Value) (q : Int × List (List Int)) (h2 : rdPair 1 1 (rdInt .u8) (rdSlice 5 (rdArr 5 1 (rdInt .i64))) w ds.toList q) (n : Int) (hn : (Lit.int .u8 n).wf = true) :
    Calls Try.prog 8 #[.agg cs, .agg ds, .int .u8 n] w fun e w' => e = .returned (.bool true) ∧ Below w.heap.size w w' := by
  obtain ⟨xa, aA, cA, la, rfl, hxa, ha5, hma, hTA⟩ := table_open h
  obtain ⟨xb, aB, cB, lb, rfl, hxb, hb5, hmb, hTB⟩ := table_open h2
  have hb := u_bounds.2.2.1 hn
  obtain ⟨n', rfl⟩ := Int.eq_ofNat_of_zero_le hb.1
  exact JoinFaults_walk xa xb n' hxa hxb (by omega) aA aB cA cB la lb hTA hTB ha5 hb5 hma hmb

end Go.Proofs.Ytlbaigkpojkfjaa.Fl
