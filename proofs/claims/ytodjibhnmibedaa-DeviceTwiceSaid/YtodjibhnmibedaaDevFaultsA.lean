/- The walk of the law DeviceFaults, with a fault. -/
import Derived.Test.YtodjibhnmibedaaDevFaults
set_option linter.unusedVariables false
namespace Go.Proofs.Ytodjibhnmibedaa.Dev
open Go.RowKit

theorem bars_zero {D : Dv} {n : Nat} (h1 : D.down = false) (h2 : D.blocks = 1) (h3 : n = D.size) : D.bars 0 n = 0 := by
  unfold Dv.bars
  rw [h1, if_neg (by decide), if_neg (by omega)]
theorem bars_down {D : Dv} {i : Int} {n : Nat} (h1 : D.down = true) : D.bars i n = 8 := by
  unfold Dv.bars
  rw [h1, if_pos rfl]

theorem write_at {w : World} {a rl rn base : Nat} {pv : Value} {D : Dv} (i : Int) (l : Option Addr) (n c : Nat) (ws : List Value) (h : At w base a rl rn pv D) (hn : ws.length = n) (h2 : n = D.size) (h1 : D.down = false) (hb : D.blocks = 1) (hf : D.act.1 = 0) (hac : D.acts + 1 < 1099511627776) (hr : Row w l ws) (h1c : ∀ u ∈ ws, u.oneCell' = true) (hbase : base ≤ w.heap.size) (hla : ∀ x, l = some x → x.block ≠ a) (hi : i = 0 := by rfl) :
    Calls Try.prog 14 #[.pointer (some ⟨a, 0, none⟩), .int .i64 i, .slice l n c] w (Put w base a rl rn pv (D.act.2.put i ws)) := by
  subst hn; subst hi
  exact write_put 0 l c ws h (bars_zero h1 hb h2) hf hac hr h1c hbase hla

set_option maxRecDepth 100000 in
set_option maxHeartbeats 4000000 in
theorem faults_fault (n : Nat) (hn : n < 256) (l : List Int) (hl : ∀ x ∈ l, 0 ≤ x ∧ x < 256) (s : Option Addr) (m c : Nat) (w : World) (hm : l.length = m) (hs : Row w s (l.map (Value.int .u8))) (h60 : m ≤ 60) :
    Calls Try.prog 4 #[.int .u8 (n : Int), .slice s m c, .bool false] w fun e w' => e = .returned (.bool true) ∧ Below w.heap.size w w' := by
  have HN := Lib.hid (fun w => new_ok 8 1 w (by omega) (by omega) (by omega))
  have wn : IntKind.i64.wrap (n : Int) = (n : Int) := by rw [IntKind.wrap_i64]; omega
  have h60i : (m : Int) ≤ 60 := by omega
  have HM := Lib.hid hm
  clear hm
  go_enter Try.func4, Try.ntmps4
  go_wp2_with fail
  refine (awake_any _).mono ?_
  rintro e1 w1 ⟨rfl, hb1⟩
  go_wp2_with fail
  refine (HN.out _).mono ?_
  rintro e2 w2 ⟨rfl, hA2, hb2, hs2⟩
  have h2 := hb1.trans (hb2.mono hb1.size)
  have A2 := hA2 w.heap.size
  obtain ⟨d, hd⟩ : ∃ d, d = w1.heap.size + 2 := ⟨_, rfl⟩
  obtain ⟨rl, hrl⟩ : ∃ r, r = w1.heap.size := ⟨_, rfl⟩
  rw [← hd, ← hrl] at A2
  rw [← hd]
  have hz1 := hb1.size
  have hlo : w.heap.size ≤ d ∧ w.heap.size ≤ rl ∧ w.heap.size ≤ rl + 1 := by omega
  have HSF := Lib.hid (setfault_any (n : Int) A2.box)
  have HA2 := Lib.hid A2
  clear hA2 hb2 hs2 hd hrl HN hb1 A2 hz1
  go_wp2_with fail
  refine HSF.out.mono ?_
  rintro e3 w3 ⟨rfl, hB3, hc3⟩
  have hR : Round w d rl (rl + 1) ((fresh 8 1).setFault (n : Int)) false n 0 0 0 w3 := by
    refine ⟨⟨_, HA2.out.of_box hc3 hB3 rfl rfl rfl ⟨?_, ?_, HA2.out.nums.acts, ⟨HA2.out.nums.fit.1, HA2.out.nums.fit.2, HA2.out.nums.fit.3, HA2.out.nums.fit.4, HA2.out.nums.fit.5, HA2.out.nums.fit.6⟩⟩⟩, ⟨rfl, rfl, Nat.le_refl _, ?_, ?_⟩, rfl, rfl, (Chg.of_below h2).trans hc3 (fun q _ e => by omega)⟩
    · unfold NumOk Dv.setFault fresh; simp only; omega
    · unfold NumOk Dv.setFault fresh; simp only; omega
    · intro hf
      cases hf
    · intro hf
      exact ⟨rfl, rfl, (fun _ => by simp only [Dv.setFault]; omega), (fun h => by omega)⟩
  have HR := Lib.hid hR
  clear hR hB3 hc3 h2 HA2 HSF
  go_wp2_with fail
  go_loopw [9, 10, 11] (fun lv dv iv wr => FaultLoop w d rl (rl + 1) false n m lv dv iv wr) (fun _ _ iv _ => m - (intOf iv).toNat)
  case atStart => exact ⟨0, 0, 0, _, rfl, rfl, rfl, by omega, HR.out⟩
  case round =>
    obtain ⟨k, last, done, D, rfl, rfl, rfl, hk, R⟩ := hrel
    clear HR
    have hda : done ≤ 60 := by have := R.acts; have := R.mode.2.2.1; omega
    by_cases hlt : (k : Int) < m
    · have hkl : k < l.length := by have := HM.out; omega
      obtain ⟨sb, so, rfl, hsc, hsl⟩ := hs.at_ (i := k) (by rw [List.length_map]; exact hkl)
      rw [List.getElem_map] at hsc
      have hx := hl _ (List.getElem_mem hkl)
      have hcell : wr.cell? ⟨sb, so + k, none⟩ = some (.int .u8 l[k]) := by
        rw [World.cell?_of_block (R.bel.block sb hsl (by omega)), hsc]
      generalize l[k] = x at *
      obtain ⟨q, hq⟩ : ∃ q, x % 3 = q := ⟨_, rfl⟩
      have hq3 : q = 0 ∨ q = 1 ∨ q = 2 := by omega
      have uk : IntKind.u64.wrap (k : Int) = (k : Int) := by rw [show IntKind.u64.wrap (k : Int) = (k : Int) % 18446744073709551616 from rfl]; omega
      obtain ⟨pv, A⟩ := R.ex
      have hlr := (R.lo hlo.1).2
      have hft := foot_lo A hlo (Nat.le_refl _)
      have hsz : D.size = 8 ∧ D.blocks = 1 := ⟨R.mode.1, R.mode.2.1⟩
      have hac : D.acts + 1 < 1000 := by have := R.mode.2.2.1; omega
      have hll : (last != last) = false := by simp
      have HRd := Lib.hid R
      have HA := Lib.hid A
      have HLR := Lib.hid hlr
      have HFT := Lib.hid hft
      have HS := Lib.hid hsz
      have HAC := Lib.hid hac
      clear hlr hft hsz hac hs hl hsc hkl
      by_cases hkn : k = n
      · have e1 : ((k : Int) == (n : Int)) = true := by rw [hkn]; simp
        have HKN := Lib.hid hkn
        clear hkn
        have hkn := HKN
        rcases hq3 with rfl | rfl | rfl
        · obtain ⟨g1, g2, -, -⟩ := mode_fault HRd.out.mode hkn.out
          have hbz := bars_zero (n := D.size) g1 HS.out.2 rfl
          have hf : D.act.1 ≠ 0 := by rw [g2]; decide
          have hC := read_failed 0 HA.out.box HA.out.nums hbz hf
          have HC := Lib.hid hC
          have HG2 := Lib.hid g2
          clear hC hbz g1 A R g2 hf
          go_wp2_with fail
          refine HC.out.mono ?_
          rintro e4 w4 ⟨rfl, hbx, hc⟩
          rw [HG2.out]
          have HR2 := Lib.hid (HRd.out.bad hkn.out ⟨_, HA.out.acted hc hbx (by have := HAC.out; omega)⟩ (HLR.out _ hc))
          clear hbx hc
          go_wp2_with fail
          go_roundw
          case rel => exact ⟨k + 1, last, done, _, by go_num, rfl, rfl, by omega, HR2.out⟩
          case measure => simp [intOf]; omega
        · obtain ⟨g1, g2, -, -⟩ := mode_fault HRd.out.mode hkn.out
          have hbz := bars_zero (n := D.size) g1 HS.out.2 rfl
          have hf : D.act.1 ≠ 0 := by rw [g2]; decide
          have A' := HA.out.below ((Below.refl wr.heap.size wr).alloc (Nat.le_refl _) (.cells (wcells ((k : Int) + 1)).toArray 22))
          have hr' := Row.new wr (wcells ((k : Int) + 1)).toArray 22 (0, 0)
          have hdl := A'.box.lt
          have hd2 := HA.out.box.lt
          have hC := write_failed 0 (some ⟨wr.heap.size, 0, none⟩) 8 8 A'.box A'.nums (bars_zero g1 HS.out.2 HS.out.1.symm) hf
          have HC := Lib.hid hC
          have HG2 := Lib.hid g2
          have HAP := Lib.hid A'
          clear hC hbz g1 A R g2 hf A' hr' hdl hd2
          go_wp2_with fail
          refine HC.out.mono ?_
          rintro e4 w4 ⟨rfl, hbx, hc⟩
          rw [HG2.out]
          have HR2 := Lib.hid (HRd.out.bad hkn.out ⟨_, HAP.out.acted hc hbx (by have := HAC.out; omega)⟩ ((HRd.out.bel.alloc _).trans hc (fun q _ e => by omega)))
          clear hbx hc
          go_wp2_with fail
          go_roundw
          case rel => exact ⟨k + 1, last, done, _, by go_num, rfl, rfl, by omega, HR2.out⟩
          case measure => simp [intOf]; omega
        · obtain ⟨g1, g2, -, -⟩ := mode_fault HRd.out.mode hkn.out
          have hbz := bars_zero (n := D.size) g1 HS.out.2 rfl
          have hf : D.act.1 ≠ 0 := by rw [g2]; decide
          have hC := sync_failed HA.out.box HA.out.nums g1 hf
          have HC := Lib.hid hC
          have HG2 := Lib.hid g2
          clear hC hbz g1 A R g2 hf
          go_wp2_with fail
          refine HC.out.mono ?_
          rintro e4 w4 ⟨rfl, hbx, hc⟩
          rw [HG2.out]
          have HR2 := Lib.hid (HRd.out.bad hkn.out ⟨_, HA.out.acted hc hbx (by have := HAC.out; omega)⟩ (HLR.out _ hc))
          clear hbx hc
          go_wp2_with fail
          go_roundw
          case rel => exact ⟨k + 1, last, done, _, by go_num, rfl, rfl, by omega, HR2.out⟩
          case measure => simp [intOf]; omega
      · have e1 : ((k : Int) == (n : Int)) = false := by rw [beq_eq_false_iff_ne]; omega
        have hb : ¬ Bad false n k := by rintro (h | ⟨h, _⟩); exact hkn h; cases h
        rcases hq3 with rfl | rfl | rfl
        · obtain ⟨g1, g2, -, -⟩ := mode_good HRd.out.mode hb
          have hbz := bars_zero (n := D.size) g1 HS.out.2 rfl
          have hC := read_got 0 HA.out hbz g2 (by have := HAC.out; omega)
          have HC := Lib.hid hC
          have HG2 := Lib.hid g2
          clear hC hbz g1 A R g2
          go_wp2_with fail
          refine HC.out.mono ?_
          rintro e4 w4 ⟨g, gc, rfl, ho, hg, hbx, hc⟩
          rw [HS.out.1] at ho
          rw [HS.out.1]
          have hn := HRd.out.now
          rw [hn] at ho
          have s0 : w4.cell? ⟨g, 0, none⟩ = some (.int .u64 last) := ho.cellAt 0 (by omega)
          have HR2 := Lib.hid (HRd.out.ok hb ⟨_, HA.out.acted hc hbx (by have := HAC.out; omega)⟩ (HLR.out _ hc))
          clear ho hg hbx hc hn
          clear hb
          go_wp2_with fail
          go_roundw
          case rel => exact ⟨k + 1, last, done + 1, _, by go_num, rfl, by go_num, by omega, HR2.out⟩
          case measure => simp [intOf]; omega
        · obtain ⟨g1, g2, -, -⟩ := mode_good HRd.out.mode hb
          have hbz := bars_zero (n := D.size) g1 HS.out.2 rfl
          have A' := HA.out.below ((Below.refl wr.heap.size wr).alloc (Nat.le_refl _) (.cells (wcells ((k : Int) + 1)).toArray 22))
          have hr' := Row.new wr (wcells ((k : Int) + 1)).toArray 22 (0, 0)
          have hdl := A'.box.lt
          have hd2 := HA.out.box.lt
          have hC := write_at 0 (some ⟨wr.heap.size, 0, none⟩) 8 8 (wcells ((k : Int) + 1)) A' rfl HS.out.1.symm g1 HS.out.2 g2 (by have := HAC.out; omega) hr' (by intro u hu; simp [wcells] at hu; rcases hu with rfl | rfl <;> rfl) (by have := HRd.out.bel.size; simp; omega) (by rintro z hz; injection hz with hz; subst hz; show wr.heap.size ≠ d; omega)
          have HC := Lib.hid hC
          have HG2 := Lib.hid g2
          have HAP := Lib.hid A'
          clear hC hbz g1 A R g2 A' hr' hdl hd2
          go_wp2_with fail
          refine HC.out.mono ?_
          rintro e4 w4 ⟨rfl, hA4, hc⟩
          have HR2 := Lib.hid (HRd.out.put hb ((k : Int) + 1) hA4 ((HRd.out.bel.alloc _).trans hc (fun q _ e => HFT.out q e)))
          clear hA4 hc
          clear hb
          go_wp2_with fail
          go_roundw
          case rel => exact ⟨k + 1, (k : Int) + 1, done + 1, _, by go_num, rfl, by go_num, by omega, HR2.out⟩
          case measure => simp [intOf]; omega
        · obtain ⟨g1, g2, -, -⟩ := mode_good HRd.out.mode hb
          have hbz := bars_zero (n := D.size) g1 HS.out.2 rfl
          have hC := sync_done HA.out g1 g2 (by have := HAC.out; omega)
          have HC := Lib.hid hC
          have HG2 := Lib.hid g2
          clear hC hbz g1 A R g2
          go_wp2_with fail
          refine HC.out.mono ?_
          rintro e4 w4 ⟨rfl, hA4, hc⟩
          have HR2 := Lib.hid (HRd.out.sync hb ⟨_, hA4⟩ (HRd.out.bel.trans hc (fun q _ e => HFT.out q e)))
          clear hA4 hc
          clear hb
          go_wp2_with fail
          go_roundw
          case rel => exact ⟨k + 1, last, done + 1, _, by go_num, rfl, by go_num, by omega, HR2.out⟩
          case measure => simp [intOf]; omega
    · obtain rfl : k = m := by have := HM.out; omega
      obtain ⟨pv, A⟩ := R.ex
      have HAc := Lib.hid (acts_any A.box)
      have HDn := Lib.hid (down_any A.box)
      have hdd : (D.acts : Int) = (done : Int) := by rw [R.acts]
      rw [hdd] at HAc
      have hdn : D.down = false := (R.mode.2.2.2.2 rfl).2.1
      rw [hdn] at HDn
      have HB := Lib.hid R.bel
      have hee : ((done : Int) == (done : Int)) = true := by simp
      clear R A hdn hdd
      go_wp2_with fail
      refine HAc.out.mono ?_
      rintro e4 w4 ⟨rfl, rfl⟩
      go_wp2_with fail
      refine HDn.out.mono ?_
      rintro e4 w4 ⟨rfl, rfl⟩
      go_wp2_with fail
      go_ret
      exact ⟨rfl, HB.out.below_of (Nat.le_refl _) (fun q hq e => by omega)⟩

end Go.Proofs.Ytodjibhnmibedaa.Dev
