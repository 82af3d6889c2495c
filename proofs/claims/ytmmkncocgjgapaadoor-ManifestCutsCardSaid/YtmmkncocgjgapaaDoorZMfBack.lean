/- The walk of the law ManifestBack. -/
import Derived.Test.YtmmkncocgjgapaaDoorK3
import Derived.Test.YtmmkncocgjgapaaDoorK8
set_option linter.unusedVariables false
namespace Go.Proofs.YtmmkncocgjgapaaDoor.Mf
open Go.RowKit Dev

/-- A list of entries that came in. -/
structure Arg (w : World) (a : Option Addr) (n c : Nat) (L : List Ent) : Prop where
  row : Row w a (flatM L)
  len : L.length = n
  cap : n ≤ c
  max : c ≤ maxLen
  names : ∀ j (hj : j < L.length), L[j].name.size ≤ maxLen
theorem arg_of {w : World} {a : Option Addr} {n c : Nat} {l : List (ByteArray × Int × Int × Int × Int)} (h : rdSlice 5 RdEnt w [.slice a n c] l) : ∃ L, Arg w a n c L := by
  obtain ⟨L, -, h1, h2, h3, h4, h5⟩ := ents_of h
  exact ⟨L, h4, h1, h2, h3, h5⟩
theorem Arg.below {w w' : World} {a : Option Addr} {n c : Nat} {L : List Ent} (h : Arg w a n c L) (hb : Below w.heap.size w w') : Arg w' a n c L := ⟨h.row.below hb, h.len, h.cap, h.max, h.names⟩
theorem Arg.few {w : World} {a : Option Addr} {n c : Nat} {L : List Ent} (h : Arg w a n c L) : Calls Tryd.prog 8 #[.slice a n c] w (FewC L w) :=
  few_all L a n c w h.row h.len (by have := h.cap; have := h.max; unfold maxLen at this; omega) h.names
theorem Arg.formed {w : World} {a : Option Addr} {n c : Nat} {L : List Ent} (h : Arg w a n c L) (hn : n ≤ 20) : Calls Tryd.prog 9 #[.slice a n c] w (fun e w' => e = .returned (.bool (formedM L)) ∧ Below w.heap.size w w') :=
  formed_any L a n c w h.row h.len (by omega) h.names
theorem Arg.plain {w : World} {a : Option Addr} {n c : Nat} {L : List Ent} (h : Arg w a n c L) (hn : n ≤ 20) : Calls Tryd.prog 11 #[.slice a n c] w (fun e w' => ∃ v, e = .returned v ∧ w'.ownsRow w.heap.size 57 5 v n (flatM L) ∧ Below w.heap.size w w') :=
  plain_any L a n c w h.row h.len (by omega)
theorem formed_len {L : List Ent} (h : formedM L = true) : L.length ≤ 12 := by unfold formedM at h; exact (of_decide_eq_true h).1

set_option maxRecDepth 100000 in
set_option maxHeartbeats 4000000 in
theorem ManifestBack_law {w : World} (size : Int) (hs : (Lit.int .u8 size).wf = true) (a : Option Addr) (n c : Nat) (l : List (ByteArray × Int × Int × Int × Int)) (hl : rdSlice 5 RdEnt w [.slice a n c] l) (a2 : Option Addr) (n2 c2 : Nat) (l2 : List (ByteArray × Int × Int × Int × Int)) (hl2 : rdSlice 5 RdEnt w [.slice a2 n2 c2] l2) :
    Calls Tryd.prog 4 #[.int .u8 size, .slice a n c, .slice a2 n2 c2] w (fun e w' => e = .returned (.bool true) ∧ Below w.heap.size w w') := by
  obtain ⟨L, hL⟩ := arg_of hl
  obtain ⟨M, hM⟩ := arg_of hl2
  have hs8 : 0 ≤ size ∧ size ≤ 255 := by simpa [Lit.wf, IntKind.min, IntKind.max, IntKind.signed, IntKind.bits] using hs
  have HL := Lib.hid hL
  have HM := Lib.hid hM
  have HAW := Lib.hid (fun w => awake_any w)
  have RET : Hid (∀ w', Below w.heap.size w w' → Calls Tryd.prog 7 #[] w' (fun e w'' => e = .returned (.bool true) ∧ Below w.heap.size w w'')) := Lib.hid (fun w' hb => (awake_any w').mono (fun e w'' h => ⟨h.1, hb.trans (h.2.mono hb.size)⟩))
  clear hl hl2 hs hL hM
  go_enter Tryd.func4, Tryd.ntmps4
  go_wp2_with fail
  refine (HAW.out _).mono ?_
  rintro e w2 ⟨rfl, hb⟩
  have HB := Lib.hid hb
  have HF := Lib.hid (HL.out.below hb).few
  have HF2 := Lib.hid (HM.out.below hb).few
  clear hb
  go_wp2_with fail
  refine HF.out.mono ?_
  rintro e _ ⟨b, rfl, hbt, rfl⟩
  cases b with
  | false =>
    clear hbt HF HF2
    go_wp2_with fail
    refine (RET.out _ HB.out).mono ?_
    rintro e w3 ⟨rfl, hb3⟩
    go_wp2_with fail
    go_ret
    exact ⟨rfl, hb3⟩
  | true =>
    obtain ⟨h20, hnm⟩ := hbt rfl
    have H20 := Lib.hid h20
    clear hbt HF h20 hnm
    go_wp2_with fail
    refine HF2.out.mono ?_
    rintro e _ ⟨b, rfl, hbt, rfl⟩
    cases b with
    | false =>
      clear hbt HF2
      go_wp2_with fail
      refine (RET.out _ HB.out).mono ?_
      rintro e w3 ⟨rfl, hb3⟩
      go_wp2_with fail
      go_ret
      exact ⟨rfl, hb3⟩
    | true =>
      obtain ⟨h20, hnm⟩ := hbt rfl
      have HFM := Lib.hid ((HL.out.below HB.out).formed (by have := H20.out; have := HL.out.len; omega))
      have HM20 := Lib.hid h20
      clear hbt HF2 h20 hnm
      go_wp2_with fail
      refine HFM.out.mono ?_
      rintro e w3 ⟨rfl, hb3⟩
      have HB3 := Lib.hid (HB.out.trans (hb3.mono HB.out.size))
      clear hb3 HFM HB
      cases hfL : formedM L with
      | false =>
        clear hfL
        go_wp2_with fail
        refine (RET.out _ HB3.out).mono ?_
        rintro e w4 ⟨rfl, hb4⟩
        go_wp2_with fail
        go_ret
        exact ⟨rfl, hb4⟩
      | true =>
        have HFL := Lib.hid hfL
        have HFM := Lib.hid ((HM.out.below HB3.out).formed (by have := HM20.out; have := HM.out.len; omega))
        clear hfL
        go_wp2_with fail
        refine HFM.out.mono ?_
        rintro e w4 ⟨rfl, hb4⟩
        have HB4 := Lib.hid (HB3.out.trans (hb4.mono HB3.out.size))
        clear hb4 HFM HB3
        cases hfM : formedM M with
        | false =>
          clear hfM
          go_wp2_with fail
          refine (RET.out _ HB4.out).mono ?_
          rintro e w5 ⟨rfl, hb5⟩
          go_wp2_with fail
          go_ret
          exact ⟨rfl, hb5⟩
        | true =>
          have HFM2 := Lib.hid hfM
          clear hfM RET HAW
          obtain ⟨m, hm⟩ : ∃ m : Nat, (m : Int) = 8 + size % 200 := ⟨(8 + size % 200).toNat, by omega⟩
          have hmb : 8 ≤ m ∧ m ≤ 207 := by omega
          have hc1 : IntKind.i64.wrap size = size := by rw [IntKind.wrap_i64]; omega
          have hc2 : size.tmod 200 = size % 200 := Int.tmod_eq_emod_of_nonneg hs8.1
          have hc3 : IntKind.i64.wrap (8 + size % 200) = (m : Int) := by rw [IntKind.wrap_i64, hm]; omega
          have HMB := Lib.hid hmb
          clear hm hmb
          obtain ⟨k, hk⟩ : ∃ k, k = slotN m := ⟨_, rfl⟩
          have hkb := slotN_bd HMB.out.1 (by have := HMB.out; omega)
          rw [← hk] at hkb
          have hsl := fun w => slot_ok m w HMB.out.1 (by have := HMB.out; omega)
          rw [← hk] at hsl
          have HSL := Lib.hid hsl
          have hkw : IntKind.i64.wrap (2 * (k : Int)) = ((2 * k : Nat) : Int) := by rw [IntKind.wrap_i64]; omega
          have HNEW := Lib.hid (new_ok m (2 * k) w4 HMB.out.1 (by have := HMB.out; omega) (by omega))
          have HK := Lib.hid (And.intro hk (And.intro hkb.1 hkb.2.1))
          clear hk hkb hsl
          generalize h2k : 2 * k = k2 at *
          have H2K := Lib.hid h2k
          clear h2k
          go_wp2_with fail
          refine (HSL.out _).mono ?_
          rintro e _ ⟨rfl, rfl⟩
          go_wp2_with fail
          refine HNEW.out.mono ?_
          rintro e w5 ⟨rfl, hA, hb5, hz5⟩
          obtain ⟨B, hBd⟩ : ∃ B, B = w.heap.size := ⟨_, rfl⟩
          have hw4 : B ≤ w4.heap.size := by rw [hBd]; exact HB4.out.size
          have hBase : Base B (fun g => B ≤ g) (w4.heap.size + 2) w4.heap.size (w4.heap.size + 1) := ⟨fun g h => h, by omega, by omega, by omega⟩
          have HB5 := Lib.hid (HB4.out.trans (hb5.mono HB4.out.size))
          rw [← hBd] at HB5
          have HA5 := Lib.hid (hA (fun g => B ≤ g))
          have HBASE := Lib.hid hBase
          have hsl0 : Sl (fresh m k2) k (fun _ _ => none) := by
            have h := zero_sl (size := m) (blocks := k2) HMB.out.1 (by have := H2K.out; have := HK.out.1; omega)
            rw [← HK.out.1] at h
            exact h
          have HSL0 := Lib.hid hsl0
          have HI0 := Lib.hid (zero_inv k (by have := HK.out; omega))
          generalize hD : fresh m k2 = D0 at *
          have HD0 := Lib.hid (show D0.acts = 0 ∧ D0.size = m from by rw [← hD]; exact ⟨rfl, rfl⟩)
          have HBD := Lib.hid hBd
          generalize w4.heap.size + 2 = da at *
          generalize w4.heap.size + 1 = dn at *
          generalize w4.heap.size = dl at *
          have HW5 := Lib.hid (show B ≤ w5.heap.size from by rw [HBD.out]; exact HB5.out.size)
          have HSV := Lib.hid (save_sl HA5.out HSL0.out HBASE.out HW5.out (fun g hg => Nat.le_trans HW5.out hg) (by rw [HD0.out.1]; have := HK.out; omega) L a n c (HL.out.row.below (by rw [← HBD.out]; exact HB5.out)) HL.out.len HFL.out 1 (by omega) (by omega))
          clear hA hb5 hz5 hw4 hBase hsl0 hD hBd hkw
          go_wp2_with fail
          refine HSV.out.mono ?_
          rintro e w6 ⟨rfl, E1, pv1, hA, hsl, hsz, hbl, hac, hbw, -⟩
          obtain ⟨r1, hI, hbest, hnext⟩ := HI0.out.whole (n := 1) (l := L) (by have := HK.out; omega) (by omega) (by omega) HFL.out
          have HA6 := Lib.hid hA
          have HSL1 := Lib.hid hsl
          have HI1 := Lib.hid hI
          have HB6 := Lib.hid (show Below B w w6 from HB5.out.trans hbw)
          have HD1 := Lib.hid (show E1.acts ≤ 20 ∧ E1.size = m from by have := HD0.out; have := HK.out; exact ⟨by omega, by omega⟩)
          have HW6 := Lib.hid (show B ≤ w6.heap.size from Nat.le_trans HW5.out hbw.size)
          clear hA hsl hI hbest hnext hsz hbl hac hbw HSV
          have HSV := Lib.hid (save_sl HA6.out HSL1.out HBASE.out HW6.out (fun g hg => Nat.le_trans HW6.out hg) (by have := HD1.out; have := HK.out; omega) M a2 n2 c2 (HM.out.row.below (by rw [← HBD.out]; exact HB6.out)) HM.out.len HFM2.out 2 (by omega) (by omega))
          go_wp2_with fail
          refine HSV.out.mono ?_
          rintro e w7 ⟨rfl, E2, pv2, hA, hsl, hsz, hbl, hac, hbw, -⟩
          obtain ⟨r2, hI, hbest, hnext⟩ := HI1.out.whole (n := 2) (l := M) (by have := HK.out; omega) (by omega) (by omega) HFM2.out
          have HA7 := Lib.hid hA
          have HSL2 := Lib.hid hsl
          have HI2 := Lib.hid hI
          have HB7 := Lib.hid (show Below B w w7 from HB6.out.trans hbw)
          have HD2 := Lib.hid (show E2.acts ≤ 40 ∧ E2.size = m from by have := HD1.out; have := HK.out; exact ⟨by omega, by omega⟩)
          have HW7 := Lib.hid (show B ≤ w7.heap.size from Nat.le_trans HW6.out hbw.size)
          have HN2 := Lib.hid (And.intro hbest (hnext (E2.size - 2)))
          clear hA hsl hI hbest hnext hsz hbl hac hbw HSV
          have HLD := Lib.hid (load_sl HA7.out HSL2.out HI2.out (by omega) (by have := HD2.out; have := HK.out; omega))
          go_wp2_with fail
          refine HLD.out.mono ?_
          rintro e w8 ⟨v, rfl, hov, hA, hch⟩
          rw [HN2.out.1, HN2.out.2]
          rw [HN2.out.1, show entsH (some (2, M)) = M from rfl] at hov
          have hbw : Below B w7 w8 := hch.below_of HW7.out (fun k hk e => by have := HBASE.out.a; omega)
          have HOV := Lib.hid hov
          have HA8 := Lib.hid hA
          have HB8 := Lib.hid (show Below B w w8 from HB7.out.trans hbw)
          have HW8 := Lib.hid (show B ≤ w8.heap.size from Nat.le_trans HW7.out hbw.size)
          clear hov hA hch hbw HLD
          obtain ⟨va, vc, rfl, hrv, -, hvc, hvm⟩ := own_ents HOV.out
          have HPL := Lib.hid (plain_any M va _ vc w8 hrv rfl (by have := formed_len HFM2.out; omega))
          clear hrv hvc hvm
          go_wp2_with fail
          refine HPL.out.mono ?_
          rintro e w9 ⟨v9, rfl, hov9, hb9⟩
          have HO9 := Lib.hid hov9
          have HB9 := Lib.hid (show Below B w w9 from HB8.out.trans (hb9.mono HW8.out))
          have HW9 := Lib.hid (show B ≤ w9.heap.size from Nat.le_trans HW8.out hb9.size)
          have HA9 := Lib.hid (HA8.out.below hb9)
          have HPL2 := Lib.hid ((HM.out.below (by rw [← HBD.out]; exact HB9.out)).plain (by have := HM20.out; have := HM.out.len; omega))
          clear hov9 hb9 HPL HOV HA8
          go_wp2_with fail
          refine HPL2.out.mono ?_
          rintro e w10 ⟨v10, rfl, hov10, hb10⟩
          have HB10 := Lib.hid (show Below B w w10 from HB9.out.trans (hb10.mono HW9.out))
          have HW10 := Lib.hid (show B ≤ w10.heap.size from Nat.le_trans HW9.out hb10.size)
          have HA10 := Lib.hid (HA9.out.below hb10)
          obtain ⟨x9, y9, rfl, hr9, -, -, -⟩ := own_ents (own_kept HO9.out hb10)
          obtain ⟨x10, y10, rfl, hr10, -, -, -⟩ := own_ents hov10
          have HSM := Lib.hid (same_any M M x9 x10 M.length n2 y9 y10 w10 hr9 hr10 rfl HM.out.len (by have := formed_len HFM2.out; omega) (by have := formed_len HFM2.out; have := HM.out.len; omega))
          clear hov10 hb10 hr9 hr10 HO9 HPL2 HA9
          go_wp2_with fail
          refine HSM.out.mono ?_
          rintro e w11 ⟨b, rfl, hbt, hb11⟩
          obtain rfl := hbt rfl
          have HB11 := Lib.hid (show Below B w w11 from HB10.out.trans (hb11.mono HW10.out))
          have HW11 := Lib.hid (show B ≤ w11.heap.size from Nat.le_trans HW10.out hb11.size)
          have HA11 := Lib.hid (HA10.out.below hb11)
          have HSV := Lib.hid (save_sl (HA10.out.below hb11) (HSL2.out.plus (2 * k)) HBASE.out HW11.out (fun g hg => Nat.le_trans HW11.out hg) (by have := HD2.out; have := HK.out; show E2.acts + 2 * k + k + 1 < _; omega) L a n c (HL.out.row.below (by rw [← HBD.out]; exact HB11.out)) HL.out.len HFL.out 5 (by omega) (by omega))
          clear hbt hb11 HSM HA10
          go_wp2_with fail
          refine HSV.out.mono ?_
          rintro e w12 ⟨rfl, E3, pv3, hA, hsl, hsz, hbl, hac, hbw, -⟩
          obtain ⟨r3, hI, hbest, hnext⟩ := HI2.out.whole (n := 5) (l := L) (by have := HK.out; omega) (by omega) (by omega) HFL.out
          have HB12 := Lib.hid (show Below B w w12 from HB11.out.trans hbw)
          have HW12 := Lib.hid (show B ≤ w12.heap.size from Nat.le_trans HW11.out hbw.size)
          have HN3 := Lib.hid (And.intro hbest (hnext (E3.size - 2)))
          have HLD := Lib.hid (load_sl hA hsl hI (by omega) (by have := HD2.out; have := HK.out; have e : (plus E2 (2 * k)).acts = E2.acts + 2 * k := rfl; rw [e] at hac; omega))
          clear hA hsl hI hbest hnext hsz hbl hac hbw HSV
          go_wp2_with fail
          refine HLD.out.mono ?_
          rintro e w13 ⟨v, rfl, hov, hA, hch⟩
          rw [HN3.out.1, HN3.out.2]
          rw [HN3.out.1, show entsH (some (5, L)) = L from rfl] at hov
          have hbw : Below B w12 w13 := hch.below_of HW12.out (fun k hk e => by have := HBASE.out.a; omega)
          have HOV := Lib.hid hov
          have HB13 := Lib.hid (show Below B w w13 from HB12.out.trans hbw)
          have HW13 := Lib.hid (show B ≤ w13.heap.size from Nat.le_trans HW12.out hbw.size)
          clear hov hA hch hbw HLD
          obtain ⟨va, vc, rfl, hrv, -, hvc, hvm⟩ := own_ents HOV.out
          have HPL := Lib.hid (plain_any L va _ vc w13 hrv rfl (by have := formed_len HFL.out; omega))
          clear hrv hvc hvm
          go_wp2_with fail
          refine HPL.out.mono ?_
          rintro e w14 ⟨v14, rfl, hov14, hb14⟩
          have HO14 := Lib.hid hov14
          have HB14 := Lib.hid (show Below B w w14 from HB13.out.trans (hb14.mono HW13.out))
          have HW14 := Lib.hid (show B ≤ w14.heap.size from Nat.le_trans HW13.out hb14.size)
          have HPL2 := Lib.hid ((HL.out.below (by rw [← HBD.out]; exact HB14.out)).plain (by have := H20.out; have := HL.out.len; omega))
          clear hov14 hb14 HPL HOV
          go_wp2_with fail
          refine HPL2.out.mono ?_
          rintro e w15 ⟨v15, rfl, hov15, hb15⟩
          have HB15 := Lib.hid (show Below B w w15 from HB14.out.trans (hb15.mono HW14.out))
          have HW15 := Lib.hid (show B ≤ w15.heap.size from Nat.le_trans HW14.out hb15.size)
          obtain ⟨x14, y14, rfl, hr14, -, -, -⟩ := own_ents (own_kept HO14.out hb15)
          obtain ⟨x15, y15, rfl, hr15, -, -, -⟩ := own_ents hov15
          have HSM := Lib.hid (same_any L L x14 x15 L.length n y14 y15 w15 hr14 hr15 rfl HL.out.len (by have := formed_len HFL.out; omega) (by have := formed_len HFL.out; have := HL.out.len; omega))
          clear hov15 hb15 hr14 hr15 HO14 HPL2
          go_wp2_with fail
          refine HSM.out.mono ?_
          rintro e w16 ⟨b, rfl, hbt, hb16⟩
          obtain rfl := hbt rfl
          have HB16 := Lib.hid (show Below B w w16 from HB15.out.trans (hb16.mono HW15.out))
          clear hbt hb16 HSM
          rw [HBD.out] at HB16
          go_wp2_with fail
          go_ret
          exact ⟨rfl, HB16.out⟩

end Go.Proofs.YtmmkncocgjgapaaDoor.Mf
