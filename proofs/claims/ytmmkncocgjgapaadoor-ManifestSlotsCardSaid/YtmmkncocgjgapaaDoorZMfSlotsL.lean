/- The walk of the law ManifestSlots. -/
import Derived.Test.YtmmkncocgjgapaaDoorZMfBack
import Derived.Test.YtmmkncocgjgapaaDoorK3
set_option linter.unusedVariables false
namespace Go.Proofs.YtmmkncocgjgapaaDoor.Mf
open Go.RowKit Dev

def markL (n : Nat) : List (BitVec 64) := 7#64 :: List.replicate (n - 1) 0#64
theorem markL_length {n : Nat} (h : 1 ≤ n) : (markL n).length = n := by simp [markL]; omega
theorem over_at (f : Int → Option (List Value)) (size k g : Nat) (l : List Ent) (x : Int) : ∀ m, m ≤ k →
    ((∀ i, i < m → x ≠ ((g % 2 * k + i : Nat) : Int)) → over f ((saveL size k g l).take m) x = f x) ∧ (∀ i, i < m → x = ((g % 2 * k + i : Nat) : Int) → over f ((saveL size k g l).take m) x = some (blkW size (g % 2 * k + i) (some (partM (wordsM g l) (size - 2) i, BitVec.ofNat 64 g))))
  | 0, _ => ⟨fun _ => rfl, fun i h => absurd h (Nat.not_lt_zero _)⟩
  | m + 1, hm => by
    obtain ⟨h1, h2⟩ := over_at f size k g l x m (by omega)
    have hg := saveL_get size k g l m (by omega)
    rw [List.getElem?_eq_some_iff] at hg
    obtain ⟨hlt, hg⟩ := hg
    rw [List.take_succ_eq_append_getElem hlt, over_snoc, hg]
    unfold upd
    simp only
    refine ⟨fun h => ?_, fun i hi hx => ?_⟩
    · rw [if_neg (h m (by omega))]
      exact h1 (fun i hi => h i (by omega))
    · by_cases e : x = ((g % 2 * k + m : Nat) : Int)
      · rw [if_pos e]
        have : i = m := by omega
        subst this
        rfl
      · rw [if_neg e]
        exact h2 i (by
          have : i ≠ m := fun h => e (h ▸ hx)
          omega) hx

theorem seal_mark {p : List (BitVec 64)} {size : Nat} {tag x : BitVec 64} (hp : p.length + 2 ≤ size) (h8 : 8 ≤ size) (ht : tag ≠ 0#64) : Crc.sealW p size tag x ≠ markL size := by
  intro h
  have h1 : (Crc.sealW p size tag x)[size - 2]? = some tag := by
    unfold Crc.sealW Crc.bodyW
    rw [List.getElem?_append_left (by simp; omega), List.getElem?_append_right (by simp; omega)]
    have e : size - 2 - (p.length + (size - 2 - p.length)) = 0 := by omega
    simp [e]
  have h2 : (markL size)[size - 2]? = some 0#64 := by
    unfold markL
    obtain ⟨s, rfl⟩ : ∃ s, size = s + 3 := ⟨size - 3, by omega⟩
    rw [show s + 3 - 2 = s + 1 from by omega, List.getElem?_cons_succ, List.getElem?_replicate, if_pos (by omega)]
  rw [h, h2] at h1
  injection h1 with h1
  exact ht h1.symm
/-- What is read of each block behind a Save over marked ones. -/
theorem mark_words {D E : Dv} {k g : Nat} {L : List Ent} (h8 : 8 ≤ D.size) (hk : 0 < k) (hnow : ∀ j : Nat, j < 2 * k + 2 → D.now (j : Int) = some (Crc.words (markL D.size))) (hE : E.now = over D.now (saveL D.size k g L)) (hg1 : 1 ≤ g) (hg2 : g ≤ 4611686018427387904) {i : Nat} (hi : i < 2 * k + 2) :
    ∃ lw, E.words (i : Int) = Crc.words lw ∧ lw.length = D.size ∧ Crc.sameW lw (markL D.size) = !decide (i / k = g % 2) := by
  have hl := saveL_length D.size k g L
  obtain ⟨h1, h2⟩ := over_at D.now D.size k g L (i : Int) k (Nat.le_refl _)
  rw [List.take_of_length_le (by omega), ← hE] at h1 h2
  unfold Dv.words
  by_cases ho : i / k = g % 2
  · have hd := Nat.div_add_mod i k
    rw [ho, Nat.mul_comm] at hd
    have hm := Nat.mod_lt i hk
    rw [h2 (i % k) hm (by rw [hd])]
    have hp : (partM (wordsM g L) (D.size - 2) (i % k)).length + 2 ≤ D.size := by rw [partM_length]; omega
    refine ⟨_, rfl, Crc.sealW_length hp, ?_⟩
    unfold Crc.sameW
    rw [decide_eq_false (seal_mark hp h8 (fun e => by
      have := congrArg BitVec.toNat e
      rw [BitVec.toNat_ofNat, Nat.mod_eq_of_lt (by omega)] at this
      simp at this
      omega)), decide_eq_true ho]
    rfl
  · rw [h1 (fun j hj e => ho (by
      have e2 : i = g % 2 * k + j := by omega
      rw [e2, Nat.mul_comm, Nat.mul_add_div hk, Nat.div_eq_of_lt hj, Nat.add_zero])), hnow i hi]
    refine ⟨markL D.size, rfl, markL_length (by omega), ?_⟩
    unfold Crc.sameW
    rw [decide_eq_true rfl, decide_eq_false ho]
    rfl
/-- The loop that marks all blocks. -/
def MarkLoop (B : Nat) (w : World) (da dl dn : Nat) (m k2 mk : Nat) (iv : Value) (wr : World) : Prop :=
  ∃ (i : Nat) (pv : Value) (D : Dv), iv = .int .i64 (i : Int) ∧ i ≤ k2 ∧ At wr (fun g => B ≤ g ∧ g ≠ mk) da dl dn pv D ∧ Calm D ∧ D.size = m ∧ D.blocks = k2 ∧ D.acts ≤ i ∧ (∀ j : Nat, j < i → D.now (j : Int) = some (Crc.words (markL m))) ∧
    Blk wr mk 35 (Crc.words (markL m)).toArray ∧ Below B w wr ∧ w.heap.size ≤ wr.heap.size
def ReadLoop2 (B : Nat) (w : World) (da dl dn : Nat) (E : Dv) (k2 mk : Nat) (pv : Value) (iv : Value) (wr : World) : Prop :=
  ∃ (i : Nat), iv = .int .i64 (i : Int) ∧ i ≤ k2 ∧ At wr (fun g => B ≤ g ∧ g ≠ mk) da dl dn pv (plus E i) ∧ Blk wr mk 35 (Crc.words (markL E.size)).toArray ∧ Below B w wr ∧ B ≤ wr.heap.size

set_option maxRecDepth 100000 in
set_option maxHeartbeats 4000000 in
theorem ManifestSlots_law {w : World} (size : Int) (hs : (Lit.int .u8 size).wf = true) (gen : Int) (hg : (Lit.int .u8 gen).wf = true) (a : Option Addr) (n c : Nat) (l : List (ByteArray × Int × Int × Int × Int)) (hl : rdSlice 5 RdEnt w [.slice a n c] l) :
    Calls Tryd.prog 5 #[.int .u8 size, .int .u8 gen, .slice a n c] w (fun e w' => e = .returned (.bool true) ∧ Below w.heap.size w w') := by
  obtain ⟨L, hL⟩ := arg_of hl
  have hs8 : 0 ≤ size ∧ size ≤ 255 := by simpa [Lit.wf, IntKind.min, IntKind.max, IntKind.signed, IntKind.bits] using hs
  have hg8 : 0 ≤ gen ∧ gen ≤ 255 := by simpa [Lit.wf, IntKind.min, IntKind.max, IntKind.signed, IntKind.bits] using hg
  have HL := Lib.hid hL
  have HAW := Lib.hid (fun w => awake_any w)
  have RET : Hid (∀ w', Below w.heap.size w w' → Calls Tryd.prog 7 #[] w' (fun e w'' => e = .returned (.bool true) ∧ Below w.heap.size w w'')) := Lib.hid (fun w' hb => (awake_any w').mono (fun e w'' h => ⟨h.1, hb.trans (h.2.mono hb.size)⟩))
  clear hl hs hL hg
  go_enter Tryd.func5, Tryd.ntmps5
  go_wp2_with fail
  refine (HAW.out _).mono ?_
  rintro e w2 ⟨rfl, hb⟩
  have HB := Lib.hid hb
  have HF := Lib.hid (HL.out.below hb).few
  clear hb
  go_wp2_with fail
  refine HF.out.mono ?_
  rintro e _ ⟨b, rfl, hbt, rfl⟩
  cases b with
  | false =>
    clear hbt HF
    go_wp2_with fail
    refine (RET.out _ HB.out).mono ?_
    rintro e w3 ⟨rfl, hb3⟩
    go_wp2_with fail
    go_ret
    exact ⟨rfl, hb3⟩
  | true =>
    obtain ⟨h20, hnm⟩ := hbt rfl
    have H20 := Lib.hid h20
    have HFM := Lib.hid ((HL.out.below HB.out).formed (by have := HL.out.len; omega))
    clear hbt HF h20 hnm
    go_wp2_with fail
    refine HFM.out.mono ?_
    rintro e w3 ⟨rfl, hb3⟩
    have HB3 := Lib.hid (HB.out.trans (hb3.mono HB.out.size))
    clear hb3 HFM HB
    cases hfL : formedM L with
    | false =>
      clear hfL
      go_wp2_with fail
      refine (RET.out _ HB3.out).mono ?_
      rintro e w4 ⟨rfl, hb4⟩
      go_wp2_with fail
      go_ret
      exact ⟨rfl, hb4⟩
    | true =>
      have HFL := Lib.hid hfL
      clear hfL RET HAW
      obtain ⟨m, hm⟩ : ∃ m : Nat, (m : Int) = 8 + size % 200 := ⟨(8 + size % 200).toNat, by omega⟩
      have hmb : 8 ≤ m ∧ m ≤ 207 := by omega
      have hc1 : IntKind.i64.wrap size = size := by rw [IntKind.wrap_i64]; omega
      have hc2 : size.tmod 200 = size % 200 := Int.tmod_eq_emod_of_nonneg hs8.1
      have hc3 : IntKind.i64.wrap (8 + size % 200) = (m : Int) := by rw [IntKind.wrap_i64, hm]; omega
      have HMB := Lib.hid hmb
      obtain ⟨g, hgg⟩ : ∃ g : Nat, (g : Int) = 1 + gen := ⟨(1 + gen).toNat, by omega⟩
      have hc4 : IntKind.u64.wrap gen = gen := by rw [IntKind.wrap_u64]; omega
      have hc5 : IntKind.u64.wrap (1 + gen) = (g : Int) := by rw [IntKind.wrap_u64, hgg]; omega
      have HGB := Lib.hid (show 1 ≤ g ∧ g ≤ 256 by omega)
      clear hm hmb hgg
      obtain ⟨k, hk⟩ : ∃ k, k = slotN m := ⟨_, rfl⟩
      have hkb := slotN_bd HMB.out.1 (by have := HMB.out; omega)
      rw [← hk] at hkb
      have hsl := fun w => slot_ok m w HMB.out.1 (by have := HMB.out; omega)
      rw [← hk] at hsl
      have HSL := Lib.hid hsl
      have hkw : IntKind.i64.wrap (2 * (k : Int)) = ((2 * k : Nat) : Int) := by rw [IntKind.wrap_i64]; omega
      have hkw2 : IntKind.i64.wrap (((2 * k : Nat) : Int) + 2) = ((2 * k + 2 : Nat) : Int) := by rw [IntKind.wrap_i64]; omega
      have hk1 : ¬ (k : Int) < 1 := by omega
      have HNEW := Lib.hid (new_ok m (2 * k + 2) w3 HMB.out.1 (by have := HMB.out; omega) (by omega))
      have HK := Lib.hid (And.intro hk (And.intro hkb.1 hkb.2.1))
      clear hk hkb hsl
      obtain ⟨k2, h2k⟩ : ∃ k2, k2 = 2 * k + 2 := ⟨_, rfl⟩
      obtain ⟨kk, hkk⟩ : ∃ kk, kk = 2 * k := ⟨_, rfl⟩
      rw [← h2k] at hkw2 HNEW
      rw [← hkk] at hkw hkw2
      have H2K := Lib.hid (And.intro h2k hkk)
      clear h2k hkk
      go_wp2_with fail
      refine (HSL.out _).mono ?_
      rintro e _ ⟨rfl, rfl⟩
      go_wp2_with fail
      refine HNEW.out.mono ?_
      rintro e w5 ⟨rfl, hA, hb5, hz5⟩
      obtain ⟨B, hBd⟩ : ∃ B, B = w.heap.size := ⟨_, rfl⟩
      have hw3 : B ≤ w3.heap.size := by rw [hBd]; exact HB3.out.size
      have hBase : Base B (fun g => B ≤ g ∧ g ≠ w5.heap.size) (w3.heap.size + 2) w3.heap.size (w3.heap.size + 1) := ⟨fun g h => h.1, by omega, by omega, by omega⟩
      have HB5 := Lib.hid (HB3.out.trans (hb5.mono HB3.out.size))
      rw [← hBd] at HB5
      have HA5 := Lib.hid (hA (fun g => B ≤ g ∧ g ≠ w5.heap.size))
      have HD5 := Lib.hid (fresh_calm m k2)
      have HBASE := Lib.hid hBase
      have HBD := Lib.hid hBd
      generalize w3.heap.size + 2 = da at *
      generalize w3.heap.size + 1 = dn at *
      generalize w3.heap.size = dl at *
      have HW5 := Lib.hid (show B ≤ w5.heap.size from by rw [HBD.out]; exact HB5.out.size)
      have hmk := fun W => run_make_of (P := Tryd.prog) (t := 40) (e := 35) (bytes := 8) (z := .int .u64 0) Tryd.underlying40 (by kernel_rfl) rfl .i64 .i64 m (by have := HMB.out; omega) (by have := HMB.out; omega) W
      clear hA hb5 hz5 hw3 hBase hBd
      go_upto_region 10 with (fail)
      have hbm := Blk.new w5 35 (same m (.int .u64 0))
      have hm0 : (0 : Int) < (m : Int) := by have := HMB.out; omega
      have hbn : Below w5.heap.size w5 (w5.alloc (.cells (same m (.int .u64 0)) 35)) := (Below.refl _ _).alloc (Nat.le_refl _) _
      have HA6 := Lib.hid (HA5.out.below hbn)
      have HB6 := Lib.hid (show Below B w _ from HB5.out.trans (hbn.mono HW5.out))
      have HS6 := Lib.hid hbn.size
      have hmkB : B ≤ w5.heap.size := HW5.out
      have hmne : w5.heap.size ≠ da := by have := HA5.out.box.lt; omega
      clear hbn HA5 HB5 HNEW HW5
      generalize w5.heap.size = mk at *
      generalize w5.alloc (.cells (same m (.int .u64 0)) 35) = w6 at *
      have hce : w6.cell? ⟨mk, 0, none⟩ = some (.int .u64 0) := by rw [hbm.cell 0]; exact same_get m _ 0 (by omega)
      have hfz := hbm.frozen 0
      have hlist : (same m (.int .u64 0)).setIfInBounds 0 (.int .u64 7) = (Crc.words (markL m)).toArray := by
        obtain ⟨s, rfl⟩ : ∃ s, m = s + 1 := ⟨m - 1, by omega⟩
        apply Array.toList_inj.1
        rw [Array.toList_setIfInBounds, same_list, List.replicate_succ]
        unfold markL Crc.words
        simp only [List.set_cons_zero, List.map_cons, List.map_replicate, Nat.add_sub_cancel]
        rfl
      have hb7 := hbm.set_ 0 (.int .u64 7)
      rw [hlist] at hb7
      have hc7 : Chg (fun j => j = mk) w6 (w6.setCell ⟨mk, 0, none⟩ (.int .u64 7)) := Chg.setCell (Chg.refl (fun j => j = mk) w6) ⟨mk, 0, none⟩ _ (fun _ => rfl)
      have hA7 := HA6.out.chg hc7 (Ne.symm hmne) (Ne.symm (HA6.out.lasts.ne_blk hbm)) (Ne.symm (HA6.out.now.ne_blk hbm)) (fun g hg => by cases hg) (fun g cs hg hx => hg.2)
      have hB7 := HB6.out.trans (hc7.below_of (B := B) (by have := HB6.out.size; have := HBD.out; omega) (fun j hj e => by omega))
      have HA7 := Lib.hid hA7
      have HB7 := Lib.hid hB7
      have HM7 := Lib.hid hb7
      have HMB2 := Lib.hid (And.intro hmkB hmne)
      clear hA7 hB7 hb7 hlist hbm hc7 HA6 HB6
      go_wp2_with fail
      generalize w6.setCell ⟨mk, 0, none⟩ (.int .u64 7) = w7 at *
      clear hce hfz hm0 hmkB hmne
      go_loopw [13] (fun iv wr => MarkLoop B w7 da dl dn m k2 mk iv wr) (fun iv _ => k2 - (intOf iv).toNat)
      case atStart => exact ⟨0, _, _, rfl, Nat.zero_le _, HA7.out, HD5.out, rfl, rfl, Nat.le_refl _, fun j h => absurd h (Nat.not_lt_zero _), HM7.out, Below.refl _ _, Nat.le_refl _⟩
      case round =>
        obtain ⟨i, pv, D, rfl, hi, hA, hcm, hsz, hbl, hac, hnow, hmb, hbw, hz⟩ := hrel
        have HA := Lib.hid hA
        have HCM := Lib.hid (And.intro hcm (And.intro hsz (And.intro hbl hac)))
        have HNOW := Lib.hid hnow
        have HMK := Lib.hid hmb
        have HBW := Lib.hid hbw
        have HZ := Lib.hid hz
        by_cases hlt : i < k2
        · have hlt2 : (i : Int) < (k2 : Int) := by omega
          have hml : (Crc.words (markL m)).length = m := by rw [Crc.words_length, markL_length (by have := HMB.out; omega)]
          have hwr : D.wr (i : Int) (Crc.words (markL m)) = (0, (plus D 1).put (i : Int) (Crc.words (markL m))) := by
            unfold Dv.wr
            rw [if_pos (by unfold Dv.bars; rw [hcm.down, hml]; simp; omega), hcm.act, if_pos rfl]
          have hm6 : mk < w7.heap.size := HM7.out.lt
          have HWR := Lib.hid (wr_any (i := (i : Int)) (l := some ⟨mk, 0, none⟩) (n := m) (c := m) (ws := Crc.words (markL m)) hA hml (by have := HK.out; have := H2K.out; omega) (by have := Row.of_blk hmb; simpa using this) (fl_one _) (fun g hg => ⟨by have := HB7.out.size; have := HBD.out; omega, by omega⟩) (fun x hx => by injection hx with hx; subst hx; exact HMB2.out.2) (by have := HMB.out; omega))
          have HWE := Lib.hid hwr
          have HM := Lib.hid (And.intro hi hlt)
          have hib : i < 1000 := by have := HK.out; have := H2K.out; omega
          clear hA hcm hsz hbl hac hnow hmb hbw hz hi hlt hml hwr hm6
          go_wp2_with fail
          refine HWR.out.mono ?_
          rintro e w8 ⟨rfl, ⟨pv8, hA8⟩, hc8⟩
          have HM8 := Lib.hid (HMK.out.chg hc8 (foot_else HA.out HMK.out (by decide) (by decide)))
          have HB8 := Lib.hid (HBW.out.trans (HBASE.out.foot HA.out hc8 (by have := HB7.out.size; have := HBD.out; have := HZ.out; omega)))
          have HZ8 := Lib.hid (Nat.le_trans HZ.out hc8.size)
          rw [HWE.out] at hA8 ⊢
          have HA8 := Lib.hid hA8
          clear hA8 hc8 HWR
          go_wp2_with fail
          go_roundw
          case rel =>
            refine ⟨i + 1, pv8, _, by have := HM.out; go_num, by have := HM.out; omega, HA8.out, ⟨HCM.out.1.down, HCM.out.1.fuse, HCM.out.1.fault⟩, HCM.out.2.1, HCM.out.2.2.1, Nat.succ_le_succ HCM.out.2.2.2, fun j hj => ?_, HM8.out, HB8.out, HZ8.out⟩
            show upd D.now (i : Int) _ (j : Int) = _
            unfold upd
            by_cases e : (j : Int) = (i : Int)
            · rw [if_pos e]
            · rw [if_neg e]
              exact HNOW.out j (by omega)
          case measure => have := HM.out; simp [intOf]; omega
        · obtain rfl : i = k2 := by omega
          have hlt2 : ¬ (i : Int) < (i : Int) := by omega
          clear hA hcm hsz hbl hac hnow hmb hbw hz hi hlt
          have hbwr : Below w.heap.size w wr := by have h := HB7.out.trans HBW.out; rw [HBD.out] at h; exact h
          have hsv := save_any (k := k) HA.out HCM.out.1.down (by rw [HCM.out.2.1]; exact HK.out.1) (by rw [HCM.out.2.2.1]; have := H2K.out; omega) HBASE.out (fun g hg => ⟨by have := HB7.out.size; have := HBD.out; have := HZ.out; omega, by have := HM7.out.lt; have := HZ.out; omega⟩) (by have := HCM.out.2.2.2; have := HK.out; have := H2K.out; omega) L a n c (HL.out.row.below hbwr) HL.out.len HFL.out g HGB.out.1 (by have := HGB.out; omega)
          obtain ⟨E, hgo, hcE, hsE, hbE, -, hnE, -, haE⟩ := go_calm (saveL D.size k g L) D HCM.out.1 (saveL_fits (by rw [HCM.out.2.1]; exact HMB.out.1) (by rw [HCM.out.2.2.1]; have := H2K.out; omega))
          rw [saveL_length] at haE
          have HSV := Lib.hid hsv
          have HGO := Lib.hid hgo
          have HE := Lib.hid (And.intro hcE (And.intro (hsE.trans HCM.out.2.1) (And.intro (hbE.trans HCM.out.2.2.1) haE)))
          have HWD := Lib.hid (fun (j : Nat) (hj : j < i) => mark_words (D := D) (E := E) (k := k) (g := g) (L := L) (i := j) (by rw [HCM.out.2.1]; exact HMB.out.1) (by have := HK.out; omega) (fun j hj => by rw [HCM.out.2.1]; exact HNOW.out j (by have := H2K.out; omega)) hnE HGB.out.1 (by have := HGB.out; omega) (by have := H2K.out; omega))
          clear hbwr hsv hgo hcE hsE hbE hnE haE
          go_wp2_with fail
          refine HSV.out.mono ?_
          rintro e w9 ⟨rfl, ⟨pv9, hA9⟩, hc9⟩
          rw [HGO.out] at hA9 ⊢
          have HM9 := Lib.hid (HMK.out.chg hc9 (own_else HA.out HMK.out (by decide) (by decide)))
          have hB7 : B ≤ w7.heap.size := by have := HB7.out.size; have := HBD.out; omega
          have HB9 := Lib.hid (HBW.out.trans (own_below hc9 (by have := HZ.out; omega)))
          have HZ9 := Lib.hid (show B ≤ w9.heap.size from Nat.le_trans (Nat.le_trans hB7 HZ.out) hc9.size)
          have HA9 := Lib.hid hA9
          clear hA9 hc9 HSV HA HMK HBW HZ HGO hB7
          go_wp2_with fail
          go_loopw [14] (fun iv wr => ReadLoop2 B w7 da dl dn E i mk pv9 iv wr) (fun iv _ => i - (intOf iv).toNat)
          case atStart => exact ⟨0, rfl, Nat.zero_le _, HA9.out, by rw [HE.out.2.1]; exact HM9.out, HB9.out, HZ9.out⟩
          case round =>
            clear HA9 HM9 HB9 HZ9
            obtain ⟨j, rfl, hj, hA, hmb, hbw, hz⟩ := hrel
            have HA := Lib.hid hA
            have HMK := Lib.hid hmb
            have HBW := Lib.hid hbw
            have HZ := Lib.hid hz
            by_cases hlt : j < i
            · have hlt2 : (j : Int) < (i : Int) := by omega
              obtain ⟨lw, hlw, hll, hsw⟩ := HWD.out j hlt
              rw [HCM.out.2.1] at hll hsw
              have hrd := (HE.out.1.plus j).rd (i := (j : Int)) (by omega) (by show (j : Int) < (E.blocks : Int); rw [HE.out.2.2.1]; omega)
              rw [plus_plus] at hrd
              have HR := Lib.hid (rd_ok (i := (j : Int)) hA (by rw [hrd]) (by show E.acts + j + 1 < _; have := HE.out.2.2.2; have := HCM.out.2.2.2; have := HK.out; have := H2K.out; omega))
              have hrd2 := Lib.hid hrd
              have HLW := Lib.hid (And.intro hlw (And.intro hll hsw))
              have HM := Lib.hid (And.intro hj hlt)
              have hjb : j < 1000 := by have := HK.out; have := H2K.out; omega
              have hkk0 : ¬ (k : Int) = 0 := by have := HK.out; omega
              obtain ⟨y, hy⟩ : ∃ y, y = j / k := ⟨_, rfl⟩
              have hyj : y ≤ j := by rw [hy]; exact Nat.div_le_self j k
              have hdv : (j : Int).tdiv (k : Int) = (y : Int) := by rw [Int.tdiv_eq_ediv_of_nonneg (by omega), hy, Int.natCast_ediv]
              have hgc : IntKind.i64.wrap ((g : Int) % 2) = (g : Int) % 2 := by rw [IntKind.wrap_i64]; omega
              have hdw : IntKind.i64.wrap (y : Int) = (y : Int) := by rw [IntKind.wrap_i64]; omega
              have hown2 : y = g % 2 → j < 2 * k := fun e => by
                have := Nat.div_add_mod j k
                have hm := Nat.mod_lt j (show 0 < k by have := HK.out; omega)
                rw [← hy, e] at this
                have : k * (g % 2) ≤ k * 1 := Nat.mul_le_mul_left _ (by omega)
                omega
              have HY := Lib.hid (And.intro hy hown2)
              have hkw3 : IntKind.i64.wrap (2 * (k : Int)) = (kk : Int) := by have := H2K.out; have := HK.out; rw [IntKind.wrap_i64]; omega
              clear hy hown2
              clear hA hmb hbw hz hj hlt hlw hll hsw hrd
              go_wp2_with fail
              refine HR.out.mono ?_
              rintro e w10 ⟨gb, gc, rfl, ho, hgb, hA10, hc10⟩
              rw [hrd2.out] at hA10
              have HA10 := Lib.hid hA10
              have hmne : mk ≠ da := HMB2.out.2
              have HM10 := Lib.hid (HMK.out.chg hc10 hmne)
              have HB10 := Lib.hid (HBW.out.trans (hc10.below_of HZ.out (fun q hq e => by have := HBASE.out.a; omega)))
              have HZ10 := Lib.hid (Nat.le_trans HZ.out hc10.size)
              have hro : Row w10 (some ⟨gb, 0, none⟩) (Crc.words lw) := by
                have h := (Row.of_own ho).1
                rw [show (plus E j).words (j : Int) = E.words (j : Int) from rfl, HLW.out.1] at h
                exact h
              have hsE : (plus E j).size = m := HE.out.2.1
              rw [hsE]
              have hrm := Row.of_blk HM10.out
              have hsm := Crc.same_any lw (markL m) (some ⟨gb, 0, none⟩) (some ⟨mk, 0, none⟩) gc m w10 hro (by rw [HE.out.2.1] at hrm; simpa using hrm) (by rw [HLW.out.2.1]; have := HMB.out; omega) (by rw [markL_length (by have := HMB.out; omega)]; have := HMB.out; omega)
              rw [HLW.out.2.1, markL_length (by have := HMB.out; omega), HLW.out.2.2] at hsm
              have HSM := Lib.hid hsm
              clear ho hgb hA10 hc10 hro hrm hsm hsE hmne HA HMK HBW HZ HR
              by_cases hown : y = g % 2
              · have hb1 : ((y : Int) == (g : Int) % 2) = true := by rw [beq_iff_eq]; omega
                have hb2 : (j : Int) < (kk : Int) := by have := HY.out.2 hown; have := H2K.out; omega
                have HDE := Lib.hid (show decide (j / k = g % 2) = true from by rw [← HY.out.1]; exact decide_eq_true hown)
                clear hown
                go_wp2_with fail
                refine HSM.out.mono ?_
                rintro e w11 ⟨rfl, dd, rfl⟩
                rw [HDE.out]
                go_wp2_with fail
                go_roundw
                case rel => exact ⟨j + 1, by have := HM.out; go_num, by have := HM.out; omega, HA10.out.drewN dd, HM10.out, below_dn HB10.out dd, HZ10.out⟩
                case measure => have := HM.out; simp [intOf]; omega
              · have hb1 : ((y : Int) == (g : Int) % 2) = false := by rw [beq_eq_false_iff_ne]; omega
                have HDE := Lib.hid (show decide (j / k = g % 2) = false from by rw [← HY.out.1]; exact decide_eq_false hown)
                clear hown
                go_wp2_with fail
                refine HSM.out.mono ?_
                rintro e w11 ⟨rfl, dd, rfl⟩
                rw [HDE.out]
                go_wp2_with fail
                go_roundw
                case rel => exact ⟨j + 1, by have := HM.out; go_num, by have := HM.out; omega, HA10.out.drewN dd, HM10.out, below_dn HB10.out dd, HZ10.out⟩
                case measure => have := HM.out; simp [intOf]; omega
            · have hlt2 : ¬ (j : Int) < (i : Int) := by omega
              rename_i wz _
              have HF := Lib.hid (by
                have h := HB7.out.trans hbw
                rw [HBD.out] at h
                exact h)
              clear hA hmb hbw hz hj hlt
              go_wp2_with fail
              go_ret
              exact ⟨rfl, HF.out⟩

end Go.Proofs.YtmmkncocgjgapaaDoor.Mf
