/- The walk of the law ManifestCuts. -/
import Derived.Test.YtmmkncocgjgapaaDoorZMfCutsP
set_option linter.unusedVariables false
namespace Go.Proofs.YtmmkncocgjgapaaDoor.Mf
open Go.RowKit Dev

def CutLoop (B m k n : Nat) (W0 : World) (dv sv iv : Value) (wr : World) : Prop :=
  ∃ (i : Nat) (da dl dn : Nat) (pv : Value) (D : Dv) (τ : Nat → Nat → Hold) (r : Nat → Hold) (sn : List Ent), iv = .int .i64 (i : Int) ∧ i ≤ n ∧ dv = .pointer (some ⟨da, 0, none⟩) ∧ At wr (fun g => B ≤ g) da dl dn pv D ∧ Base B (fun g => B ≤ g) da dl dn ∧ Sl D k τ ∧
    D.size = m ∧ D.blocks = 2 * k ∧ D.acts ≤ 100 * i ∧ Inv k (2 * i) τ r ∧ sn = entsH (bestN r 2) ∧ wr.ownsRow B 57 5 sv sn.length (flatM sn) ∧ Below B W0 wr ∧ B ≤ wr.heap.size

set_option maxRecDepth 100000 in
set_option maxHeartbeats 8000000 in
theorem ManifestCuts_law {w : World} (size : Int) (hs : (Lit.int .u8 size).wf = true) (a : Option Addr) (n c : Nat) (l : List CutD) (hl : rdSlice 4 RdCut w [.slice a n c] l) :
    Calls Tryd.prog 6 #[.int .u8 size, .slice a n c] w (fun e w' => e = .returned (.bool true) ∧ Below w.heap.size w w') := by
  obtain ⟨-, hn1, hn2, hcuts⟩ := cuts_of hl
  have hs8 : 0 ≤ size ∧ size ≤ 255 := by simpa [Lit.wf, IntKind.min, IntKind.max, IntKind.signed, IntKind.bits] using hs
  have HC := Lib.hid hcuts
  have HN := Lib.hid (And.intro hn1 hn2)
  have HAW := Lib.hid (fun w => awake_any w)
  clear hl hs hcuts hn1 hn2
  by_cases h10 : n ≤ 10
  · have h10i : ¬ (10 : Int) < (n : Int) := by omega
    go_enter Tryd.func6, Tryd.ntmps6
    go_wp2_with fail
    refine (HAW.out _).mono ?_
    rintro e w2 ⟨rfl, hb⟩
    have HB := Lib.hid hb
    obtain ⟨m, hm⟩ : ∃ m : Nat, (m : Int) = 8 + size % 60 := ⟨(8 + size % 60).toNat, by omega⟩
    have hmb : 8 ≤ m ∧ m ≤ 67 := by omega
    have hc1 : IntKind.i64.wrap size = size := by rw [IntKind.wrap_i64]; omega
    have hc2 : size.tmod 60 = size % 60 := Int.tmod_eq_emod_of_nonneg hs8.1
    have hc3 : IntKind.i64.wrap (8 + size % 60) = (m : Int) := by rw [IntKind.wrap_i64, hm]; omega
    have HMB := Lib.hid hmb
    clear hm hmb hb
    obtain ⟨k, hk⟩ : ∃ k, k = slotN m := ⟨_, rfl⟩
    have hkb := slotN_bd HMB.out.1 (by have := HMB.out; omega)
    rw [← hk] at hkb
    have hsl := fun w => refslot_ok m w HMB.out.1 (by have := HMB.out; omega)
    rw [← hk] at hsl
    have HSL := Lib.hid hsl
    have hkw : IntKind.i64.wrap (2 * (k : Int)) = ((2 * k : Nat) : Int) := by rw [IntKind.wrap_i64]; omega
    have HNEW := Lib.hid (new_ok m (2 * k) w2 HMB.out.1 (by have := HMB.out; omega) (by omega))
    have HK := Lib.hid (And.intro hk (And.intro hkb.1 hkb.2.1))
    clear hk hkb hsl
    obtain ⟨k2, h2k⟩ : ∃ k2, k2 = 2 * k := ⟨_, rfl⟩
    rw [← h2k] at hkw HNEW
    have H2K := Lib.hid h2k
    clear h2k
    go_wp2_with fail
    refine (HSL.out _).mono ?_
    rintro e _ ⟨rfl, rfl⟩
    go_wp2_with fail
    refine HNEW.out.mono ?_
    rintro e w3 ⟨rfl, hA, hb3, hz3⟩
    obtain ⟨B, hBd⟩ : ∃ B, B = w.heap.size := ⟨_, rfl⟩
    have hw2 : B ≤ w2.heap.size := by rw [hBd]; exact HB.out.size
    have HBASE := Lib.hid (show Base B (fun g => B ≤ g) (w2.heap.size + 2) w2.heap.size (w2.heap.size + 1) from ⟨fun g h => h, by omega, by omega, by omega⟩)
    have HB3 := Lib.hid (HB.out.trans (hb3.mono HB.out.size))
    rw [← hBd] at HB3
    have HA3 := Lib.hid (hA (fun g => B ≤ g))
    have HBD := Lib.hid hBd
    have hsl0 : Sl (fresh m k2) k (fun _ _ => none) := by
      have h := zero_sl (size := m) (blocks := k2) HMB.out.1 (by have := H2K.out; have := HK.out.1; omega)
      rw [← HK.out.1] at h
      exact h
    have HSL0 := Lib.hid hsl0
    have HW3 := Lib.hid (show B ≤ w3.heap.size from by rw [HBD.out]; exact HB3.out.size)
    clear hA hb3 hz3 hw2 hBd hsl0 hkw
    go_wp2_with fail
    go_loopw [6, 8, 9] (fun dv sv iv wr => CutLoop B m k n w3 dv sv iv wr) (fun _ _ iv _ => n - (intOf iv).toNat)
    case atStart => exact ⟨0, _, _, _, _, _, _, _, _, rfl, Nat.zero_le _, rfl, HA3.out, HBASE.out, HSL0.out, rfl, H2K.out, Nat.zero_le _, zero_inv k (by have := HK.out; omega), rfl, World.ownsRow_nil _ _ _ _, Below.refl _ _, HW3.out⟩
    case round =>
      clear HA3 HBASE HSL0 HNEW HW3
      obtain ⟨i, da, dl, dn, pv, D, τ, r, sn, rfl, hi, rfl, hA, hB, hS, hsz, hbl, hac, hI, hsn, hown, hbw, hz⟩ := hrel
      have HA := Lib.hid hA
      have HBS := Lib.hid hB
      have HS := Lib.hid hS
      have HD := Lib.hid (And.intro hsz (And.intro hbl hac))
      have HI := Lib.hid hI
      have HSN := Lib.hid hsn
      have HO := Lib.hid hown
      have HBW := Lib.hid hbw
      have HZ := Lib.hid hz
      have HWB := Lib.hid (show ∀ w', Below B w3 w' → Below w.heap.size w w' from fun w' h => by
        have h2 := HB3.out.trans h
        rw [HBD.out] at h2
        exact h2)
      clear hB hS hsz hbl hac hI hsn
      by_cases hlt : i < n
      · have hlt2 : (i : Int) < (n : Int) := by omega
        have i0 : (0 : Int) ≤ (i : Int) := by omega
        obtain ⟨b, o, la, ln, lc, L, at_, ka, kn, kc, keep, wh, rfl, hcut, hL, ha0, ha1, hkr, hkl, hkc, hkm⟩ := HC.out i hlt
        have hcw := hcut.below (HWB.out _ hbw)
        obtain ⟨c0, c1, c2, c3⟩ := hcw
        have HCUT := Lib.hid hcut
        have HL := Lib.hid hL
        have HKP := Lib.hid (And.intro hkr (And.intro hkl (And.intro hkc hkm)))
        have HAT := Lib.hid (And.intro ha0 ha1)
        have HM := Lib.hid (And.intro hi hlt)
        have HF := Lib.hid (hL.below (HWB.out _ hbw)).few
        have hib : i ≤ 10 := by omega
        clear hA hown hbw hz hi hlt hcut hL ha0 ha1 hkr hkl hkc hkm
        go_wp2_with fail
        refine HF.out.mono ?_
        rintro e _ ⟨bf, rfl, hbt, rfl⟩
        cases bf with
        | false =>
          clear hbt HF
          go_wp2_with fail
          go_ret
          exact ⟨rfl, HWB.out _ HBW.out⟩
        | true =>
          obtain ⟨h20, -⟩ := hbt rfl
          have H20 := Lib.hid h20
          clear hbt HF h20
          by_cases hk100 : (100 : Int) < (kn : Int)
          · go_wp2_with fail
            go_ret
            exact ⟨rfl, HWB.out _ HBW.out⟩
          · have HK100 := Lib.hid (show kn ≤ 100 by omega)
            have HLD := Lib.hid (load_sl HA.out HS.out HI.out (by omega) (by have := HD.out; have := HK.out; omega))
            go_wp2_with fail
            refine HLD.out.mono ?_
            rintro e w4 ⟨v4, rfl, hov, hA4, hch⟩
            have hb4 : Below B w3 w4 := HBW.out.trans (hch.below_of HZ.out (fun q hq e => by have := HBS.out.a; omega))
            have HO4 := Lib.hid (own_chg HO.out hch (fun q hq e => own_ne_blk HO.out HA.out.box (by decide) (by rw [← e]; exact hq)))
            have HA4 := Lib.hid hA4
            have HB4 := Lib.hid hb4
            have HZ4 := Lib.hid (Nat.le_trans HZ.out hch.size)
            obtain ⟨c0, c1, c2, c3⟩ := HCUT.out.below (HWB.out _ hb4)
            obtain ⟨nx, hnx⟩ : ∃ nx, nx = nextH (D.size - 2) k τ r := ⟨_, rfl⟩
            obtain ⟨x1, x2, -, -⟩ := HI.out.nextH (span := D.size - 2) (by have := HK.out; omega) (by omega)
            rw [← hnx] at x1 x2 ⊢
            have HNX := Lib.hid (And.intro hnx (And.intro x1 x2))
            have HFM := Lib.hid ((HL.out.below (HWB.out _ hb4)).formed (by have := H20.out; have := HL.out.len; omega))
            clear hb4 hch hA4 hov HLD HA HO HBW HZ hnx x1 x2
            go_wp2_with fail
            refine HFM.out.mono ?_
            rintro e w5 ⟨rfl, hb5⟩
            have HB5 := Lib.hid (HB4.out.trans (hb5.mono HZ4.out))
            have HA5 := Lib.hid (HA4.out.below hb5)
            have HO5 := Lib.hid (own_kept HO4.out hb5)
            have HZ5 := Lib.hid (Nat.le_trans HZ4.out hb5.size)
            obtain ⟨c0, c1, c2, c3⟩ := HCUT.out.below (HWB.out _ HB5.out)
            clear hb5 HFM HA4 HO4 HB4 HZ4
            cases hfL : formedM L with
            | false =>
              clear hfL
              go_wp2_with fail
              go_ret
              exact ⟨rfl, HWB.out _ HB5.out⟩
            | true =>
              have HFL := Lib.hid hfL
              clear hfL
              have hkw1 : IntKind.i64.wrap ((k : Int) + 1) = ((k + 1 : Nat) : Int) := by have := HK.out; rw [IntKind.wrap_i64]; omega
              have haw : IntKind.i64.wrap at_ = at_ := by have := HAT.out; rw [IntKind.wrap_i64]; omega
              obtain ⟨f, hf⟩ : ∃ f : Nat, f = at_.toNat % (k + 1) := ⟨_, rfl⟩
              have hfk : f ≤ k := by rw [hf]; exact Nat.le_of_lt_succ (Nat.mod_lt _ (by omega))
              have hk1n : ¬ (k : Int) + 1 = 0 := by omega
              have hrem : at_.tmod ((k : Int) + 1) = (f : Int) := by
                rw [show (k : Int) + 1 = ((k + 1 : Nat) : Int) from rfl]
                have := HAT.out
                rw [Int.tmod_eq_emod_of_nonneg this.1, hf, Int.natCast_emod, Int.toNat_of_nonneg this.1]
              have HFK := Lib.hid hfk
              clear hf hfk
              go_upto_if 94 with (fail)
              go_cut [] (fun wx => ∃ Df, At wx (fun g => B ≤ g) da dl dn pv Df ∧ (wh = true ∧ Df = Mf.plus D (2 * k) ∨ wh = false ∧ Df = (Mf.plus D (2 * k)).setFuse (f : Int)) ∧ Chg (fun j => j = da) w5 wx)
              case first =>
                have hd0 : Below w5.heap.size w5 w5.drew := (Below.refl _ _).drew
                cases wh with
                | true =>
                  clear c0 c1 c2
                  go_wp2_with fail
                  go_meet
                  exact ⟨_, HA5.out, .inl ⟨trivial, rfl⟩, Chg.refl _ _⟩
                | false =>
                  have CELL := Lib.hid (fun w' (hF : Below w5.heap.size w5 w') => CutAt.below ⟨c0, c1, c2, c3⟩ hF)
                  clear c0 c1 c2 c3
                  go_wp2_with fail
                  refine mx_begin (fun w' => Below w5.heap.size w5 w') [(true, 0), (true, 1), (true, 2), (true, 3), (true, 4), (true, 5), (true, 6), (true, 7), (false, 8), (true, 9), (true, 10), (false, 11)] (by kernel_rfl) (by kernel_rfl) (fun _ _ d _ _ h => by cases d <;> exact h) hd0 ?_
                  refine mx_read _ (.pointer (some ⟨da, 0, none⟩)) rfl (by kernel_rfl) (fun w' hF => by have u1 := (CELL.out _ hF).at_; simp [execOp, Act.eval, go_sem]) ?_
                  refine mx_read _ (.slice (some ⟨b, o, none⟩) n c) rfl (by kernel_rfl) (fun w' hF => by have u1 := (CELL.out _ hF).at_; simp [execOp, Act.eval, go_sem]) ?_
                  refine mx_read _ (.int .i64 (i : Int)) rfl (by kernel_rfl) (fun w' hF => by have u1 := (CELL.out _ hF).at_; simp [execOp, Act.eval, go_sem]) ?_
                  refine mx_read _ (.pointer (some ⟨b, o + i * 4, none⟩)) rfl (by kernel_rfl) (fun w' hF => by have u1 := (CELL.out _ hF).at_; simp [execOp, Act.eval, go_sem, i0, hlt2]) ?_
                  refine mx_read _ (.pointer (some ⟨b, o + i * 4 + 1, none⟩)) rfl (by kernel_rfl) (fun w' hF => by have u1 := (CELL.out _ hF).at_; simp [execOp, Act.eval, go_sem]) ?_
                  refine mx_read _ (.int .u8 at_) rfl (by kernel_rfl) (fun w' hF => by have u1 := (CELL.out _ hF).at_; simp [execOp, Act.eval, go_sem, u1]) ?_
                  refine mx_read _ (.int .i64 at_) rfl (by kernel_rfl) (fun w' hF => by have u1 := (CELL.out _ hF).at_; simp [execOp, Act.eval, go_sem, haw]) ?_
                  refine mx_read _ (.int .i64 (m : Int)) rfl (by kernel_rfl) (fun w' hF => by have u1 := (CELL.out _ hF).at_; simp [execOp, Act.eval, go_sem]) ?_
                  refine mx_one _ rfl (by kernel_rfl) (fun K8 hK8 => ?_)
                  go_simp
                  refine (HSL.out _).mono ?_
                  rintro e _ ⟨rfl, rfl⟩
                  refine hK8.out _ _ (fun _ => hd0) ?_
                  clear hK8 K8
                  refine mx_read _ (.int .i64 ((k + 1 : Nat) : Int)) rfl (by kernel_rfl) (fun w' hF => by have u1 := (CELL.out _ hF).at_; simp [execOp, Act.eval, go_sem, hkw1]) ?_
                  refine mx_read _ (.int .i64 (f : Int)) rfl (by kernel_rfl) (fun w' hF => by have u1 := (CELL.out _ hF).at_; simp [execOp, Act.eval, go_sem, hrem, hk1n]) ?_
                  refine mx_one _ rfl (by kernel_rfl) (fun K8 hK8 => ?_)
                  go_simp
                  refine (setfuse_any (f : Int) (HA5.out.below hd0).box).mono ?_
                  rintro e w6 ⟨rfl, hbx, hc6⟩
                  have hA6 := fuse_at (HA5.out.below hd0) (by have := HFK.out; have := HK.out; omega) hbx hc6
                  refine hK8.out _ _ (fun h => absurd rfl h) ?_
                  clear hK8 K8
                  refine mx_end ?_
                  go_wp2_with fail
                  go_meet
                  exact ⟨_, hA6, .inr ⟨trivial, rfl⟩, (Chg.of_below' hd0).trans hc6 (fun _ _ h => h)⟩
              case rest =>
                obtain ⟨Df, hA6, hdf, hc6⟩ := hcut
                have hstep : ∃ ev E, saveGo Df (saveL Df.size k nx L) = (ev, E) ∧ (ev == (0 : Int)) = wh ∧ Stepped k (2 * i) (Mf.plus D (2 * k)) E τ r nx L keep wh ∧ Df.down = false ∧ Df.size = m ∧ Df.blocks = 2 * k ∧ Df.acts = D.acts + 2 * k := by
                  have hS2 := HS.out.plus (2 * k)
                  rcases hdf with ⟨rfl, rfl⟩ | ⟨rfl, rfl⟩
                  · obtain ⟨E, e1, e2⟩ := step_whole hS2 HI.out (by have := HK.out; omega) (by omega) HNX.out.1 HFL.out keep
                    exact ⟨0, E, e1, rfl, e2, hS2.calm.down, HD.out.1, HD.out.2.1, rfl⟩
                  · obtain ⟨E, e1, e2⟩ := step_cut hS2 HI.out (by have := HK.out; omega) (by omega) HNX.out.1 HFL.out keep HFK.out
                    exact ⟨8, E, e1, rfl, e2, hS2.calm.down, HD.out.1, HD.out.2.1, rfl⟩
                obtain ⟨ev, E, hgo, hev, hst, hdn, hds, hdb, hda⟩ := hstep
                have hz6 : B ≤ wc.heap.size := Nat.le_trans HZ5.out hc6.size
                have hb6 : Below B w3 wc := HB5.out.trans (hc6.below_of HZ5.out (fun q hq e => by have := HBS.out.a; omega))
                have HO6 := Lib.hid (own_chg HO5.out hc6 (fun q hq e => own_ne_blk HO5.out HA5.out.box (by decide) (by rw [← e]; exact hq)))
                obtain ⟨c0, c1, c2, c3⟩ := HCUT.out.below (HWB.out _ hb6)
                have hsv := save_any (k := k) hA6 hdn (by rw [hds]; exact HK.out.1) (by omega) HBS.out (fun g hg => Nat.le_trans hz6 hg) (by rw [hda]; have := HD.out; have := HK.out; omega) L la ln lc (HL.out.row.below (HWB.out _ hb6)) HL.out.len HFL.out nx HNX.out.2.1 (by have := HNX.out.2.2; omega)
                have HA6 := Lib.hid hA6
                have HB6 := Lib.hid hb6
                have HZ6 := Lib.hid hz6
                have HSV := Lib.hid hsv
                have HGO := Lib.hid hgo
                have HST := Lib.hid hst
                clear hA6 hdf hc6 hz6 hb6 hsv hgo hst hdn hds hdb hda HA5 HO5 HB5 HZ5 hrem hk1n haw hkw1
                go_wp2_with fail
                refine HSV.out.mono ?_
                rintro e w7 ⟨rfl, ⟨pv7, hA7⟩, hc7⟩
                rw [HGO.out] at hA7 ⊢
                have hA7 : At w7 (fun g => B ≤ g) da dl dn pv7 E := hA7
                have hb7 := HB6.out.trans (own_below hc7 HZ6.out)
                have HO7 := Lib.hid (own_chg HO6.out hc7 (fun q hq e => by
                  obtain ⟨_, cs, hx⟩ := own_blk HO6.out hq
                  exact own_else HA6.out hx (by decide) (by decide) e))
                have HZ7 := Lib.hid (Nat.le_trans HZ6.out hc7.size)
                obtain ⟨c0, c1, c2, c3⟩ := HCUT.out.below (HWB.out _ hb7)
                have hcr := crash_any hA7 keep ka kn kc (HKP.out.1.below (HWB.out _ hb7)) HKP.out.2.1 (by have := HK100.out; omega) (fun x hx hp => by
                  obtain ⟨b', o', e', _, hlt⟩ := HKP.out.1.at_ (i := 0) (by rw [List.length_map]; exact hp)
                  rw [e'] at hx
                  injection hx with hx
                  subst hx
                  have := HBS.out.a
                  have := HBD.out
                  show b' ≠ da
                  omega) (by obtain ⟨τ', r', -, -, -, -, -, -, -, h8⟩ := HST.out; have := HK.out; omega)
                have HCR := Lib.hid hcr
                have HB7 := Lib.hid hb7
                have HA7 := Lib.hid hA7
                clear hA7 hc7 hb7 hcr HSV HA6 HO6 HB6 HZ6
                go_wp2_with fail
                refine HCR.out.mono ?_
                rintro e w8 ⟨dx, dl2, dn2, rfl, hA8, -, hc8, hx1, hx2, hx3⟩
                obtain ⟨τ', r', hsl8, hi8, hbst, hbwh, hes, heb, hea, -⟩ := HST.out
                have HB8S := Lib.hid (show Base B (fun g => B ≤ g) dx dl2 dn2 from ⟨fun g h => h, by have := HZ7.out; omega, by have := HZ7.out; omega, by have := HZ7.out; omega⟩)
                have hb8 := HB7.out.trans (hc8.below_of HZ7.out (fun q hq e => by have := HBS.out.a; omega))
                have HO8 := Lib.hid (own_chg HO7.out hc8 (fun q hq e => own_ne_blk HO7.out HA7.out.box (by decide) (by rw [← e]; exact hq)))
                have HZ8 := Lib.hid (Nat.le_trans HZ7.out hc8.size)
                have HSL8 := Lib.hid hsl8
                have HI8 := Lib.hid hi8
                have HBST := Lib.hid (And.intro hbst hbwh)
                have HDE := Lib.hid (show (E.crash keep).size = m ∧ (E.crash keep).blocks = 2 * k ∧ (E.crash keep).acts ≤ D.acts + 2 * k + k + 1 from ⟨hes.trans HD.out.1, heb.trans HD.out.2.1, hea⟩)
                obtain ⟨c0, c1, c2, c3⟩ := HCUT.out.below (HWB.out _ hb8)
                have HLD := Lib.hid (load_sl hA8 hsl8 hi8 (by omega) (by have := HDE.out; have := HD.out; have := HK.out; omega))
                have HA8 := Lib.hid hA8
                have HB8 := Lib.hid hb8
                clear hA8 hc8 hx1 hx2 hx3 hsl8 hi8 hbst hbwh hes heb hea hb8 HCR HST HO7 HB7 HZ7 HA7 HGO
                generalize E.crash keep = E8 at *
                go_wp2_with fail
                refine HLD.out.mono ?_
                rintro e w9 ⟨v9, rfl, hov, hA9, hch⟩
                have hb9 := HB8.out.trans (hch.below_of HZ8.out (fun q hq e => by have := HB8S.out.a; omega))
                have HO9 := Lib.hid (own_chg HO8.out hch (fun q hq e => own_ne_blk HO8.out HA8.out.box (by decide) (by rw [← e]; exact hq)))
                have HZ9 := Lib.hid (Nat.le_trans HZ8.out hch.size)
                obtain ⟨va, vc, rfl, hrv, -, hvc, hvm⟩ := own_ents hov
                have hbl12 : (entsH (bestN r' 2)).length ≤ 12 := by
                  cases e : bestN r' 2 with
                  | none => exact Nat.zero_le _
                  | some q0 =>
                    have := HI8.out.best (by have := HK.out; omega)
                    rw [e] at this
                    split at this
                    · exact formed_len (HI8.out.gen (by have := HK.out; omega) (by omega) this.symm).2.2.2.2
                    · exact formed_len (HI8.out.gen (by have := HK.out; omega) (by omega) this.symm).2.2.2.2
                have HPL := Lib.hid (plain_any (entsH (bestN r' 2)) va _ vc w9 hrv rfl (by omega))
                have HA9 := Lib.hid hA9
                have HB9 := Lib.hid hb9
                have HL12 := Lib.hid hbl12
                obtain ⟨ll, hll⟩ : ∃ ll, ll = entsH (bestN r' 2) := ⟨_, rfl⟩
                rw [← hll] at HPL HL12 ⊢
                have HLL := Lib.hid hll
                clear hov hA9 hch hb9 hrv hvc hvm hbl12 hll HLD HO8 HB8 HZ8 HA8
                go_wp2_with fail
                refine HPL.out.mono ?_
                rintro e w10 ⟨v10, rfl, hov, hb⟩
                have hb10 := HB9.out.trans (hb.mono HZ9.out)
                have HG10 := Lib.hid hov
                have HO10 := Lib.hid (own_kept HO9.out hb)
                have HZ10 := Lib.hid (Nat.le_trans HZ9.out hb.size)
                have HA10 := Lib.hid (HA9.out.below hb)
                have HB10 := Lib.hid hb10
                obtain ⟨c0, c1, c2, c3⟩ := HCUT.out.below (HWB.out _ hb10)
                have HPL2 := Lib.hid ((HL.out.below (HWB.out _ hb10)).plain (by have := H20.out; have := HL.out.len; omega))
                clear hov hb hb10 HPL HO9 HB9 HA9
                go_wp2_with fail
                refine HPL2.out.mono ?_
                rintro e w11 ⟨v11, rfl, hov, hb⟩
                have hb11 := HB10.out.trans (hb.mono HZ10.out)
                have HG11 := Lib.hid (own_kept HG10.out hb)
                have HO11 := Lib.hid (own_kept HO10.out hb)
                have HZ11 := Lib.hid (Nat.le_trans HZ10.out hb.size)
                have HA11 := Lib.hid (HA10.out.below hb)
                have HB11 := Lib.hid hb11
                obtain ⟨xg, yg, rfl, hrg, -, -, -⟩ := own_ents HG11.out
                obtain ⟨xl, yl, rfl, hrl, -, -, -⟩ := own_ents hov
                have HSM := Lib.hid (same_any ll L xg xl ll.length ln yg yl w11 hrg hrl rfl HL.out.len (by have := HL12.out; omega) (by have := formed_len HFL.out; have := HL.out.len; omega))
                clear hov hb hb11 hrg hrl HPL2 HG10 HO10 HB10 HA10
                go_wp2_with fail
                refine HSM.out.mono ?_
                rintro e w12 ⟨is, rfl, hist, hb⟩
                have hb12 := HB11.out.trans (hb.mono HZ11.out)
                have HG12 := Lib.hid (own_kept HG11.out hb)
                have HO12 := Lib.hid (own_kept HO11.out hb)
                have HZ12 := Lib.hid (Nat.le_trans HZ11.out hb.size)
                have HA12 := Lib.hid (HA11.out.below hb)
                have HB12 := Lib.hid hb12
                obtain ⟨c0, c1, c2, c3⟩ := HCUT.out.below (HWB.out _ hb12)
                have HIST := Lib.hid hist
                clear hb hb12 hist HSM HG11 HO11 HB11 HA11 HZ11
                go_upto_region 25 with (fail)
                go_cut [165] (fun v wx => v = .bool false ∧ Below w12.heap.size w12 wx)
                case first =>
                  cases is with
                  | true =>
                    go_wp2_with fail
                    go_meet
                    exact ⟨rfl, Below.refl _ _⟩
                  | false =>
                    have hne : ¬ bestN r' 2 = some (nx, L) := fun e => by
                      have := HIST.out (by rw [HLL.out, e]; rfl)
                      cases this
                    have hwf : wh = false := by
                      cases wh with
                      | false => rfl
                      | true => exact absurd (HBST.out.2 rfl) hne
                    subst hwf
                    have hbb : bestN r' 2 = bestN r 2 := by
                      rcases HBST.out.1 with h | h
                      · exact absurd h hne
                      · exact h
                    have hls : ll = sn := by rw [HLL.out, HSN.out, hbb]
                    obtain ⟨xg2, yg2, eg, hrg, -, -, -⟩ := own_ents HG12.out
                    injection eg with e1 e2 e3
                    subst e1 e3
                    obtain ⟨xs, ys, rfl, hrs, -, -, -⟩ := own_ents HO12.out
                    have HSM := Lib.hid (same_any ll sn xg xs ll.length sn.length yg ys w12 hrg hrs rfl rfl (by have := HL12.out; omega) (by have := HL12.out; rw [← hls]; omega))
                    have HLS := Lib.hid hls
                    clear hne hbb hls hrg hrs c0 c1 c2 e2
                    go_wp2_with fail
                    refine HSM.out.mono ?_
                    rintro e w13 ⟨b2, rfl, hb2t, hb2⟩
                    obtain rfl := hb2t HLS.out
                    have HB2 := Lib.hid hb2
                    clear hb2t hb2 HSM
                    go_wp2_with fail
                    go_meet
                    exact ⟨rfl, HB2.out⟩
                case rest =>
                  obtain ⟨rfl, hbx⟩ := hcut
                  have HAX := Lib.hid (HA12.out.below hbx)
                  have HGX := Lib.hid (own_mono (own_kept HG12.out hbx) HZ9.out)
                  have HBX := Lib.hid (HB12.out.trans (hbx.mono HZ12.out))
                  have HZX := Lib.hid (Nat.le_trans HZ12.out hbx.size)
                  have hcr := crash_any (HA12.out.below hbx) [] none 0 0 (Row.nil _ _) rfl (by omega) (fun x hx hp => by cases hx) (by rw [show (Mf.plus E8 (2 * k)).pend = E8.pend from rfl, HSL8.out.pend]; exact Nat.lt_of_lt_of_le (by decide) (Nat.le_refl _))
                  have HCR := Lib.hid hcr
                  clear hcr hbx c0 c1 c2 c3
                  go_wp2_with fail
                  refine HCR.out.mono ?_
                  rintro e w14 ⟨ex, el, en, rfl, hA14, -, hc14, hx1, hx2, hx3⟩
                  have HA14 := Lib.hid hA14
                  have HB14S := Lib.hid (show Base B (fun g => B ≤ g) ex el en from ⟨fun g h => h, by have := HZX.out; omega, by have := HZX.out; omega, by have := HZX.out; omega⟩)
                  have HG14 := Lib.hid (own_chg HGX.out hc14 (fun q hq e => own_ne_blk HGX.out HAX.out.box (by decide) (by rw [← e]; exact hq)))
                  have HB14 := Lib.hid (HBX.out.trans (hc14.below_of HZX.out (fun q hq e => by have := HB8S.out.a; omega)))
                  have HZ14 := Lib.hid (Nat.le_trans HZX.out hc14.size)
                  clear hA14 hc14 hx1 hx2 hx3 HCR
                  go_wp2_with fail
                  go_roundw
                  case rel => exact ⟨i + 1, ex, el, en, _, _, τ', r', ll, by have := HM.out; go_num, by have := HM.out; omega, rfl, HA14.out, HB14S.out, (HSL8.out.plus (2 * k)).crash [], HDE.out.1, HDE.out.2.1, by
                      have := HDE.out.2.2
                      have := HD.out.2.2
                      have := HK.out
                      show E8.acts + 2 * k ≤ 100 * (i + 1)
                      omega, by rw [Nat.mul_add]; exact HI8.out, HLL.out, HG14.out, HB14.out, HZ14.out⟩
                  case measure => have := HM.out; simp [intOf]; omega
      · obtain rfl : i = n := by omega
        have hlt2 : ¬ (i : Int) < (i : Int) := by omega
        have HLD := Lib.hid (load_sl hA HS.out HI.out (by omega) (by have := HD.out; have := HK.out; omega))
        clear hA hown hbw hz hi hlt
        go_wp2_with fail
        refine HLD.out.mono ?_
        rintro e w9 ⟨v9, rfl, hov, hA9, hch⟩
        have hb9 := HBW.out.trans (hch.below_of HZ.out (fun q hq e => by have := HBS.out.a; omega))
        have HO9 := Lib.hid (own_chg HO.out hch (fun q hq e => own_ne_blk HO.out HA.out.box (by decide) (by rw [← e]; exact hq)))
        have HZ9 := Lib.hid (Nat.le_trans HZ.out hch.size)
        have HB9 := Lib.hid hb9
        have hbl12 : (entsH (bestN r 2)).length ≤ 12 := by
          cases e : bestN r 2 with
          | none => exact Nat.zero_le _
          | some q0 =>
            have := HI.out.best (by have := HK.out; omega)
            rw [e] at this
            split at this
            · exact formed_len (HI.out.gen (by have := HK.out; omega) (by omega) this.symm).2.2.2.2
            · exact formed_len (HI.out.gen (by have := HK.out; omega) (by omega) this.symm).2.2.2.2
        rw [← HSN.out] at hov hbl12
        obtain ⟨va, vc, rfl, hrv, -, -, -⟩ := own_ents hov
        have HPL := Lib.hid (plain_any sn va _ vc w9 hrv rfl (by omega))
        have HL12 := Lib.hid hbl12
        clear hov hA9 hch hb9 hrv hbl12 HLD
        go_wp2_with fail
        refine HPL.out.mono ?_
        rintro e w10 ⟨v10, rfl, hov, hb⟩
        have hb10 := HB9.out.trans (hb.mono HZ9.out)
        obtain ⟨xg, yg, rfl, hrg, -, -, -⟩ := own_ents hov
        obtain ⟨xs, ys, rfl, hrs, -, -, -⟩ := own_ents (own_kept HO9.out hb)
        have HSM := Lib.hid (same_any sn sn xg xs sn.length sn.length yg ys w10 hrg hrs rfl rfl (by have := HL12.out; omega) (by have := HL12.out; omega))
        have HB10 := Lib.hid hb10
        have HZ10 := Lib.hid (Nat.le_trans HZ9.out hb.size)
        clear hov hb hb10 hrg hrs HPL
        go_wp2_with fail
        refine HSM.out.mono ?_
        rintro e w11 ⟨b2, rfl, hb2t, hb2⟩
        obtain rfl := hb2t rfl
        have HB11 := Lib.hid (HB10.out.trans (hb2.mono HZ10.out))
        clear hb2t hb2 HSM
        go_wp2_with fail
        go_ret
        exact ⟨rfl, HWB.out _ HB11.out⟩
  · have h10i : (10 : Int) < (n : Int) := by omega
    go_enter Tryd.func6, Tryd.ntmps6
    go_wp2_with fail
    refine (HAW.out _).mono ?_
    rintro e w2 ⟨rfl, hb⟩
    have HB := Lib.hid hb
    clear hb
    go_wp2_with fail
    refine (HAW.out _).mono ?_
    rintro e w3 ⟨rfl, hb3⟩
    have HB3 := Lib.hid (HB.out.trans (hb3.mono HB.out.size))
    clear hb3
    go_wp2_with fail
    go_ret
    exact ⟨rfl, HB3.out⟩

end Go.Proofs.YtmmkncocgjgapaaDoor.Mf
