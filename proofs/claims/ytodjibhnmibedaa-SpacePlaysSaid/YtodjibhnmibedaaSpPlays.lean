/- The law SpacePlays. (Laid out of XSpPlays.src by mac.py.) -/
import Derived.Test.YtodjibhnmibedaaSpPlaysW
import Derived.Deep.RegionHeld3
set_option linter.unusedVariables false
namespace Go.Proofs.Ytodjibhnmibedaa.Sp
open Go.RowKit

def PlaysL (w : World) (s q tb F B len : Nat) (lv iv : Value) (wr : World) : Prop := ∃ (i : Nat) (L G : List Ext) (T : List Bool) (v : Value), iv = .int .i64 (i : Int) ∧ i ≤ len ∧ G.length ≤ i ∧ PlW w wr s q tb F B v lv L G T ∧ Mt F B L T
theorem own_sl {w : World} {base n : Nat} {t : TypeId} {v : Value} {L : List Ext} (h : w.ownsRow base t 2 v n (flatX L)) : ∃ a c, v = .slice a n c := by
  obtain ⟨hl, hv⟩ := own2 h
  rcases hv with ⟨rfl, h0⟩ | ⟨g, cap, rfl, _⟩
  · subst h0; subst hl; exact ⟨_, _, rfl⟩
  · exact ⟨_, _, rfl⟩
theorem sumX_le {F B : Nat} {L : List Ext} {T : List Bool} (h : Mt F B L T) : sumX L ≤ B := by
  rw [h.sum, ← h.len]
  exact List.length_filter_le _ _

theorem PlW.cellG {w0 w : World} {s q tb F B g cG k u z : Nat} {v : Value} {L G : List Ext} {T : List Bool} (h : PlW w0 w s q tb F B v (.slice (some ⟨g, 0, none⟩) G.length cG) L G T) (hk : k < G.length) (hu : u = G[k].1) (hz : z = G[k].2) :
    w.cell? ⟨g, k * 2, none⟩ = some (.int .i64 (u : Int)) ∧ w.cell? ⟨g, k * 2 + 1, none⟩ = some (.int .i64 (z : Int)) := by
  obtain ⟨g', hg, e1, e2⟩ := ext_cells h.row hk
  injection hg with hg
  injection hg with hg
  subst hg
  rw [hu, hz]
  exact ⟨e1, e2⟩

set_option maxRecDepth 100000 in
set_option maxHeartbeats 4000000 in
theorem SpacePlays_walk {w : World} (first : Int) (hfi : (Lit.int .i64 first).wf = true) (bl : Nat) (hbl : bl < 65536) (a : Option Addr) (n c : Nat) (l : List Op7) (hr : ORow w a l) (hl : l.length = n) (hn : n ≤ 9223372036854775807) :
    Calls Try.prog 9 #[.int .i64 first, .int .u16 (bl : Int), .slice a n c] w (Told w true) := by
  by_cases hbig : (80 : Int) < n
  · clear hr hl
    go_enter Try.func9, Try.ntmps9
    go_wp2_with fail
    refine (awake7_any w).mono ?_
    rintro e w1 ⟨rfl, hb1⟩
    go_wp2_with fail
    refine (awake7_any w1).mono ?_
    rintro e w2 ⟨rfl, hb2⟩
    go_wp2_with fail
    go_ret
    exact ⟨rfl, hb1.trans (hb2.mono hb1.size)⟩
  · obtain ⟨B, hB, hB300⟩ : ∃ B : Nat, (B : Int) = (bl : Int) % 300 ∧ B < 300 := ⟨bl % 300, by omega, by omega⟩
    have HBB := Lib.hid hB
    have HR := Lib.hid hr
    have HL := Lib.hid hl
    have hln : n ≤ l.length := by omega
    have hln2 : l.length ≤ n := by omega
    have y1 : IntKind.i64.wrap ((bl : Int) % 300) = (bl : Int) % 300 := by rw [IntKind.wrap_i64]; omega
    clear hr hl hB
    go_enter Try.func9, Try.ntmps9
    go_wp2_with fail
    refine (awake7_any w).mono ?_
    rintro e w1 ⟨rfl, hb1⟩
    go_wp2_with fail
    rw [← HBB.out]
    by_cases hF : first < 0 ∨ 1000000 < first
    · refine (new_no first B w1 (by unfold OkNew; rw [decide_eq_false_iff_not]; omega)).mono ?_
      rintro e w2 ⟨rfl, rfl⟩
      go_wp2_with fail
      refine (rnew_no first B w1 hF (by omega)).mono ?_
      rintro e w2 ⟨rfl, rfl⟩
      go_wp2_with fail
      go_ret
      exact ⟨rfl, hb1⟩
    obtain ⟨F, rfl⟩ := Int.eq_ofNat_of_zero_le (show 0 ≤ first by omega)
    have hFn : F ≤ 1000000 := by omega
    clear hF y1
    have HN := Lib.hid (new_ok F B w1 hFn (by omega))
    refine HN.out.mono ?_
    rintro e w2 ⟨s, v, rfl, hs1, hs2, hs3⟩
    have HS2 := Lib.hid hs2
    have HB2 := Lib.hid hs3
    have HS1 := Lib.hid hs1
    have HB1 := Lib.hid hb1
    have HN2 := Lib.hid (rnew_ok F B w2 hFn (by omega))
    clear hs1 hs2 hs3 hb1 HN
    go_wp2_with fail
    refine HN2.out.mono ?_
    rintro e w3 ⟨rfl, hr3, hb3⟩
    have hz1 := HB1.out.size
    have hz2 := HB2.out.size
    have hbw : Below w.heap.size w w3 := (HB1.out.trans (HB2.out.mono hz1)).trans (hb3.mono (by omega))
    have HPW : Hid (PlW w w3 s (w2.heap.size + 1) w2.heap.size F B v (.slice none 0 0) (wholeL F B) [] (List.replicate B false)) :=
      Lib.hid ⟨(HS2.out.below hb3).base_le hz1, Nat.le_trans hz1 HS1.out, hbw, hr3, by omega, by omega, World.ownsRow_nil _ _ _ _, fun _ h => by simp [Value.ownBlock] at h⟩
    have HMT := Lib.hid (Mt.new F B)
    clear hr3 hb3 hbw HS2 HB2 HS1 HB1 HN2
    generalize w2.heap.size = tb at *
    obtain ⟨q, hq⟩ : ∃ q, q = tb + 1 := ⟨_, rfl⟩
    rw [← hq] at HPW
    rw [← hq]
    clear hq hz1 hz2
    go_wp2_with fail
    go_loopw [10, 11] (fun lv iv wr => PlaysL w s q tb F B n lv iv wr) (fun _ iv _ => n - (intOf iv).toNat)
    case atStart => exact ⟨0, _, _, _, _, rfl, by omega, by simp, HPW.out, HMT.out⟩
    case round =>
      clear HPW HMT
      obtain ⟨i, L, G, T, v, rfl, hi, hgi, hpw, hmt⟩ := hrel
      have HPW := Lib.hid hpw
      have HMT := Lib.hid hmt
      have HGI := Lib.hid hgi
      have hfr := hpw.bel
      obtain ⟨aG, cG, rfl⟩ := own_sl hpw.row
      clear hpw hmt
      by_cases hlt : (i : Int) < n
      · have hil : i < l.length := by omega
        obtain ⟨b, off, rfl, c0, c1, c2, hbl⟩ := (HR.out.below hfr) i hil
        obtain ⟨kd, hkd⟩ : ∃ kd, kd = l[i].1 := ⟨_, rfl⟩
        obtain ⟨fi, hfi⟩ : ∃ fi, fi = l[i].2.1 := ⟨_, rfl⟩
        obtain ⟨nn, hnn⟩ : ∃ nn, nn = l[i].2.2 := ⟨_, rfl⟩
        rw [← hkd] at c0
        rw [← hfi] at c1
        rw [← hnn] at c2
        have hi0 : (0 : Int) ≤ (i : Int) := by omega
        have HPO : Hid (PlO w (wr.alloc (.cells #[.int .i64 kd, .int .i64 fi, .int .i64 nn] 67)) s q tb F B v (.slice aG G.length cG) L G T wr.heap.size #[.int .i64 kd, .int .i64 fi, .int .i64 nn]) :=
          Lib.hid ⟨HPW.out.below ((Below.refl _ _).alloc (Nat.le_refl _) _), Blk.new _ _ _⟩
        clear hkd hfi hnn hfr HPW
        by_cases k1 : kd = 1
        · have k1b : (kd == 1) = true := by simp [k1]
          have HT := Lib.hid (take_o HPO.out HMT.out.inv (by omega) nn)
          clear k1
          go_wp2_with fail
          refine HT.out.mono ?_
          rintro e w4 ⟨r, er, L', v', rfl, h4, hg4⟩
          have HRT := Lib.hid (rtake_o h4 nn)
          have d2 := h4.2.cell 2
          have HG4 := Lib.hid hg4
          clear h4 hg4 HT
          go_wp2_with fail
          refine HRT.out.mono ?_
          rintro e w5 ⟨r2, er2, T', rfl, h5, hr5⟩
          obtain ⟨rfl, rfl, hm5⟩ := HMT.out.take HG4.out hr5
          have H5 := Lib.hid h5
          replace HMT := Lib.hid hm5
          clear HRT HG4 HPO d2 h5 hm5
          rcases hr5 with ⟨h1, rfl, rfl, rfl⟩ | ⟨h1, h2, rfl, rfl, rfl⟩ | ⟨rfl, k, m, rfl, h1, h2, h3, h4, hrp, rfl⟩
          · clear h1
            have HPW := Lib.hid H5.out.1
            go_wp2_with fail
            have HF := Lib.hid (free_any s F B _ _ _ _ HPW.out.sp (Nat.le_trans (sumX_le HMT.out) (by omega)))
            go_wp2_with fail
            refine HF.out.mono ?_
            rintro e w20 ⟨rfl, hb20⟩
            have HP2 := Lib.hid (HPW.out.below hb20)
            have HF2 := Lib.hid (rfree_any q tb F _ _ HP2.out.rf)
            rw [← HMT.out.sum] at HF2
            have hsu := sumX_le HMT.out
            clear hb20 HF HPW
            go_wp2_with fail
            refine HF2.out.mono ?_
            rintro e w21 ⟨rfl, rfl⟩
            have HE := Lib.hid (extents_any s F B _ _ _ _ HP2.out.sp)
            clear HF2
            go_wp2_with fail
            refine HE.out.mono ?_
            rintro e w22 ⟨a22, n22, c22, rfl, ho22, hb22⟩
            obtain ⟨hln22, -⟩ := own2 ho22
            have HP3 := Lib.hid (HP2.out.below hb22)
            have HO3 := Lib.hid ho22
            have HE2 := Lib.hid (rextents_any q tb F _ _ HP3.out.rf)
            clear ho22 hb22 HE HP2
            go_wp2_with fail
            refine HE2.out.mono ?_
            rintro e w23 ⟨a23, c23, E, rfl, ho23, hb23, hre⟩
            obtain rfl := HMT.out.rex hre
            have HP4 := Lib.hid (HP3.out.below hb23)
            have HO4 := Lib.hid (own_chg HO3.out (Chg.of_below' (S := fun _ => False) hb23) (fun _ _ h => h))
            have hln : E.length ≤ B := HMT.out.inv.len.1
            subst hln22
            have HS := Lib.hid (same_any _ _ _ _ _ _ _ _ _ HO4.out ho23 (by omega))
            clear HE2 HP3 HO3 ho23 hb23 hre
            go_wp2_with fail
            refine HS.out.mono ?_
            rintro e w24 ⟨rfl, hb24⟩
            have HP5 := Lib.hid (HP4.out.below hb24)
            clear hb24 HS HP4 HO4
            go_wp2_with fail
            go_roundw
            case rel => exact ⟨i + 1, _, _, _, _, by go_num, by omega, by have := HGI.out; omega, HP5.out, HMT.out⟩
            case measure => simp [intOf]; omega
          · clear h1 h2
            have HPW := Lib.hid H5.out.1
            go_wp2_with fail
            have HF := Lib.hid (free_any s F B _ _ _ _ HPW.out.sp (Nat.le_trans (sumX_le HMT.out) (by omega)))
            go_wp2_with fail
            refine HF.out.mono ?_
            rintro e w20 ⟨rfl, hb20⟩
            have HP2 := Lib.hid (HPW.out.below hb20)
            have HF2 := Lib.hid (rfree_any q tb F _ _ HP2.out.rf)
            rw [← HMT.out.sum] at HF2
            have hsu := sumX_le HMT.out
            clear hb20 HF HPW
            go_wp2_with fail
            refine HF2.out.mono ?_
            rintro e w21 ⟨rfl, rfl⟩
            have HE := Lib.hid (extents_any s F B _ _ _ _ HP2.out.sp)
            clear HF2
            go_wp2_with fail
            refine HE.out.mono ?_
            rintro e w22 ⟨a22, n22, c22, rfl, ho22, hb22⟩
            obtain ⟨hln22, -⟩ := own2 ho22
            have HP3 := Lib.hid (HP2.out.below hb22)
            have HO3 := Lib.hid ho22
            have HE2 := Lib.hid (rextents_any q tb F _ _ HP3.out.rf)
            clear ho22 hb22 HE HP2
            go_wp2_with fail
            refine HE2.out.mono ?_
            rintro e w23 ⟨a23, c23, E, rfl, ho23, hb23, hre⟩
            obtain rfl := HMT.out.rex hre
            have HP4 := Lib.hid (HP3.out.below hb23)
            have HO4 := Lib.hid (own_chg HO3.out (Chg.of_below' (S := fun _ => False) hb23) (fun _ _ h => h))
            have hln : E.length ≤ B := HMT.out.inv.len.1
            subst hln22
            have HS := Lib.hid (same_any _ _ _ _ _ _ _ _ _ HO4.out ho23 (by omega))
            clear HE2 HP3 HO3 ho23 hb23 hre
            go_wp2_with fail
            refine HS.out.mono ?_
            rintro e w24 ⟨rfl, hb24⟩
            have HP5 := Lib.hid (HP4.out.below hb24)
            clear hb24 HS HP4 HO4
            go_wp2_with fail
            go_roundw
            case rel => exact ⟨i + 1, _, _, _, _, by go_num, by omega, by have := HGI.out; omega, HP5.out, HMT.out⟩
            case measure => simp [intOf]; omega
          · obtain ⟨p, hp⟩ : ∃ p : Nat, r = p := ⟨F + k, hrp⟩
            clear h1 h2 h3 h4 hrp
            subst hp
            have d2 := H5.out.2.cell 2
            have e8 := Row.new w5 #[.int .i64 (p : Int), .int .i64 (m : Int)] 69 (0, 0)
            have e7 : (#[Value.int .i64 (p : Int), .int .i64 (m : Int)]).toList = flatX [(p, m)] := rfl
            rw [e7] at e8
            have HRW := Lib.hid e8
            have HA6 := Lib.hid (H5.out.1.below ((Below.refl w5.heap.size w5).alloc (Nat.le_refl _) (.cells #[.int .i64 (p : Int), .int .i64 (m : Int)] 69)))
            have hzz := HA6.out.bel.size
            clear e7 e8 H5
            go_wp2_with (at_builtin; go_must (refine wpList_append rfl (.tmp 84) (.tmp 89) _ rfl el_ext w.heap.size _ G.length (flatX G) rfl HA6.out.row _ 1 1 (flatX [(p, m)]) rfl rfl HRW.out (flatX_one _) (by unfold maxLen; omega) (by omega) (by simpa using hzz) ?_))
            intro v7 w7 hown7 hg7 hv7 hb7
            rw [← flatX_append] at hown7
            have h7 := HA6.out.app hown7 (by simp) (Chg.of_grown hg7) (hv7.imp id (fun h => by rw [h]; simp))
            have hgi2 : (G ++ [(p, m)]).length ≤ i + 1 := by simp; omega
            clear hown7 hg7 hv7 hb7 HRW HA6 hzz d2
            have HPW := Lib.hid h7
            replace HGI := Lib.hid hgi2
            clear h7 hgi2 hgi
            obtain ⟨a7, c7, hv⟩ := own_sl HPW.out.row
            rw [show (G ++ [(p, m)]).length = G.length + 1 from by simp] at hv
            subst hv
            go_wp2_with fail
            have HF := Lib.hid (free_any s F B _ _ _ _ HPW.out.sp (Nat.le_trans (sumX_le HMT.out) (by omega)))
            go_wp2_with fail
            refine HF.out.mono ?_
            rintro e w20 ⟨rfl, hb20⟩
            have HP2 := Lib.hid (HPW.out.below hb20)
            have HF2 := Lib.hid (rfree_any q tb F _ _ HP2.out.rf)
            rw [← HMT.out.sum] at HF2
            have hsu := sumX_le HMT.out
            clear hb20 HF HPW
            go_wp2_with fail
            refine HF2.out.mono ?_
            rintro e w21 ⟨rfl, rfl⟩
            have HE := Lib.hid (extents_any s F B _ _ _ _ HP2.out.sp)
            clear HF2
            go_wp2_with fail
            refine HE.out.mono ?_
            rintro e w22 ⟨a22, n22, c22, rfl, ho22, hb22⟩
            obtain ⟨hln22, -⟩ := own2 ho22
            have HP3 := Lib.hid (HP2.out.below hb22)
            have HO3 := Lib.hid ho22
            have HE2 := Lib.hid (rextents_any q tb F _ _ HP3.out.rf)
            clear ho22 hb22 HE HP2
            go_wp2_with fail
            refine HE2.out.mono ?_
            rintro e w23 ⟨a23, c23, E, rfl, ho23, hb23, hre⟩
            obtain rfl := HMT.out.rex hre
            have HP4 := Lib.hid (HP3.out.below hb23)
            have HO4 := Lib.hid (own_chg HO3.out (Chg.of_below' (S := fun _ => False) hb23) (fun _ _ h => h))
            have hln : E.length ≤ B := HMT.out.inv.len.1
            subst hln22
            have HS := Lib.hid (same_any _ _ _ _ _ _ _ _ _ HO4.out ho23 (by omega))
            clear HE2 HP3 HO3 ho23 hb23 hre
            go_wp2_with fail
            refine HS.out.mono ?_
            rintro e w24 ⟨rfl, hb24⟩
            have HP5 := Lib.hid (HP4.out.below hb24)
            clear hb24 HS HP4 HO4
            go_wp2_with fail
            go_roundw
            case rel => exact ⟨i + 1, _, _, _, _, by go_num, by omega, HGI.out, HP5.out, HMT.out⟩
            case measure => simp [intOf]; omega
        · have k1b : (kd == 1) = false := by simp [k1]
          by_cases k2 : kd = 2
          · have k2b : (kd == 2) = true := by simp [k2]
            clear k1 k2
            have HG := Lib.hid (fun W' hb' => give_o (HPO.out.below (w' := W') hb') HMT.out.inv (by omega) fi nn)
            go_wp2_with fail
            clear c0 c1 c2
            have o1 := HPO.out.2.cell 1
            have o2 := HPO.out.2.cell 2
            generalize wr.alloc (.cells #[.int .i64 kd, .int .i64 fi, .int .i64 nn] 67) = W1 at *
            go_region_held3 (fun w' => w'.cell? ⟨wr.heap.size, 1, none⟩ = some (.int .i64 fi) ∧ w'.cell? ⟨wr.heap.size, 2, none⟩ = some (.int .i64 nn))
              (first | exact ⟨o1, o2⟩ | exact ⟨H6.out.2.cell 1, H6.out.2.cell 2⟩ | exact ⟨H5.out.2.cell 1, H5.out.2.cell 2⟩)
              (first | (go_at_call 34; refine (HG.out _ (Below.refl _ _).drew).mono ?_; rintro e w5 ⟨er, L', v', rfl, h5, hg5⟩; have H5 := Lib.hid h5; have HG5 := Lib.hid hg5; clear h5 hg5) | (go_at_call 35; refine (rgive_o H5.out fi nn).mono ?_; rintro e w6 ⟨er2, T', rfl, h6, hr6⟩; obtain ⟨rfl, hm6⟩ := Mt.give HMT.out hFn (by omega) HG5.out hr6; have H6 := Lib.hid h6; have HM6 := Lib.hid hm6; clear h6 hm6 hr6))
            have HPW := Lib.hid H6.out.1
            replace HMT := HM6
            clear HG H5 H6 HG5 HM6 o1 o2 HPO
            go_wp2_with fail
            have HF := Lib.hid (free_any s F B _ _ _ _ HPW.out.sp (Nat.le_trans (sumX_le HMT.out) (by omega)))
            go_wp2_with fail
            refine HF.out.mono ?_
            rintro e w20 ⟨rfl, hb20⟩
            have HP2 := Lib.hid (HPW.out.below hb20)
            have HF2 := Lib.hid (rfree_any q tb F _ _ HP2.out.rf)
            rw [← HMT.out.sum] at HF2
            have hsu := sumX_le HMT.out
            clear hb20 HF HPW
            go_wp2_with fail
            refine HF2.out.mono ?_
            rintro e w21 ⟨rfl, rfl⟩
            have HE := Lib.hid (extents_any s F B _ _ _ _ HP2.out.sp)
            clear HF2
            go_wp2_with fail
            refine HE.out.mono ?_
            rintro e w22 ⟨a22, n22, c22, rfl, ho22, hb22⟩
            obtain ⟨hln22, -⟩ := own2 ho22
            have HP3 := Lib.hid (HP2.out.below hb22)
            have HO3 := Lib.hid ho22
            have HE2 := Lib.hid (rextents_any q tb F _ _ HP3.out.rf)
            clear ho22 hb22 HE HP2
            go_wp2_with fail
            refine HE2.out.mono ?_
            rintro e w23 ⟨a23, c23, E, rfl, ho23, hb23, hre⟩
            obtain rfl := HMT.out.rex hre
            have HP4 := Lib.hid (HP3.out.below hb23)
            have HO4 := Lib.hid (own_chg HO3.out (Chg.of_below' (S := fun _ => False) hb23) (fun _ _ h => h))
            have hln : E.length ≤ B := HMT.out.inv.len.1
            subst hln22
            have HS := Lib.hid (same_any _ _ _ _ _ _ _ _ _ HO4.out ho23 (by omega))
            clear HE2 HP3 HO3 ho23 hb23 hre
            go_wp2_with fail
            refine HS.out.mono ?_
            rintro e w24 ⟨rfl, hb24⟩
            have HP5 := Lib.hid (HP4.out.below hb24)
            clear hb24 HS HP4 HO4
            go_wp2_with fail
            go_roundw
            case rel => exact ⟨i + 1, _, _, _, _, by go_num, by omega, by have := HGI.out; omega, HP5.out, HMT.out⟩
            case measure => simp [intOf]; omega
          · have k2b : (kd == 2) = false := by simp [k2]
            by_cases k3 : kd = 3
            · have k3b : (kd == 3) = true := by simp [k3]
              clear k1 k2 k3
              have HG := Lib.hid (fun W' hb' => hold_o (HPO.out.below (w' := W') hb') HMT.out.inv (by omega) fi nn)
              go_wp2_with fail
              clear c0 c1 c2
              have o1 := HPO.out.2.cell 1
              have o2 := HPO.out.2.cell 2
              generalize wr.alloc (.cells #[.int .i64 kd, .int .i64 fi, .int .i64 nn] 67) = W1 at *
              go_region_held3 (fun w' => w'.cell? ⟨wr.heap.size, 1, none⟩ = some (.int .i64 fi) ∧ w'.cell? ⟨wr.heap.size, 2, none⟩ = some (.int .i64 nn))
                (first | exact ⟨o1, o2⟩ | exact ⟨H6.out.2.cell 1, H6.out.2.cell 2⟩ | exact ⟨H5.out.2.cell 1, H5.out.2.cell 2⟩)
                (first | (go_at_call 29; refine (HG.out _ (Below.refl _ _).drew).mono ?_; rintro e w5 ⟨er, L', v', rfl, h5, hg5⟩; have H5 := Lib.hid h5; have HG5 := Lib.hid hg5; clear h5 hg5) | (go_at_call 36; refine (rhold_o H5.out fi nn).mono ?_; rintro e w6 ⟨er2, T', rfl, h6, hr6⟩; obtain ⟨rfl, hm6⟩ := Mt.hold HMT.out hFn (by omega) HG5.out hr6; have H6 := Lib.hid h6; have HM6 := Lib.hid hm6; clear h6 hm6 hr6))
              have HPW := Lib.hid H6.out.1
              replace HMT := HM6
              clear HG H5 H6 HG5 HM6 o1 o2 HPO
              go_wp2_with fail
              have HF := Lib.hid (free_any s F B _ _ _ _ HPW.out.sp (Nat.le_trans (sumX_le HMT.out) (by omega)))
              go_wp2_with fail
              refine HF.out.mono ?_
              rintro e w20 ⟨rfl, hb20⟩
              have HP2 := Lib.hid (HPW.out.below hb20)
              have HF2 := Lib.hid (rfree_any q tb F _ _ HP2.out.rf)
              rw [← HMT.out.sum] at HF2
              have hsu := sumX_le HMT.out
              clear hb20 HF HPW
              go_wp2_with fail
              refine HF2.out.mono ?_
              rintro e w21 ⟨rfl, rfl⟩
              have HE := Lib.hid (extents_any s F B _ _ _ _ HP2.out.sp)
              clear HF2
              go_wp2_with fail
              refine HE.out.mono ?_
              rintro e w22 ⟨a22, n22, c22, rfl, ho22, hb22⟩
              obtain ⟨hln22, -⟩ := own2 ho22
              have HP3 := Lib.hid (HP2.out.below hb22)
              have HO3 := Lib.hid ho22
              have HE2 := Lib.hid (rextents_any q tb F _ _ HP3.out.rf)
              clear ho22 hb22 HE HP2
              go_wp2_with fail
              refine HE2.out.mono ?_
              rintro e w23 ⟨a23, c23, E, rfl, ho23, hb23, hre⟩
              obtain rfl := HMT.out.rex hre
              have HP4 := Lib.hid (HP3.out.below hb23)
              have HO4 := Lib.hid (own_chg HO3.out (Chg.of_below' (S := fun _ => False) hb23) (fun _ _ h => h))
              have hln : E.length ≤ B := HMT.out.inv.len.1
              subst hln22
              have HS := Lib.hid (same_any _ _ _ _ _ _ _ _ _ HO4.out ho23 (by omega))
              clear HE2 HP3 HO3 ho23 hb23 hre
              go_wp2_with fail
              refine HS.out.mono ?_
              rintro e w24 ⟨rfl, hb24⟩
              have HP5 := Lib.hid (HP4.out.below hb24)
              clear hb24 HS HP4 HO4
              go_wp2_with fail
              go_roundw
              case rel => exact ⟨i + 1, _, _, _, _, by go_num, by omega, by have := HGI.out; omega, HP5.out, HMT.out⟩
              case measure => simp [intOf]; omega
            · have k3b : (kd == 3) = false := by simp [k3]
              by_cases k4 : kd = 4
              · have k4b : (kd == 4) = true := by simp [k4]
                clear k1 k2 k3 k4
                by_cases f1 : fi < 0
                · have f2 : decide ((0 : Int) ≤ fi) = false := by rw [decide_eq_false_iff_not]; omega
                  go_wp2_with fail
                  go_quiet (fail)
                  have HPW := Lib.hid (HPO.out.1.below (below_dn _ _ nq))
                  clear HPO c0 c1 c2
                  go_wp2_with fail
                  have HF := Lib.hid (free_any s F B _ _ _ _ HPW.out.sp (Nat.le_trans (sumX_le HMT.out) (by omega)))
                  go_wp2_with fail
                  refine HF.out.mono ?_
                  rintro e w20 ⟨rfl, hb20⟩
                  have HP2 := Lib.hid (HPW.out.below hb20)
                  have HF2 := Lib.hid (rfree_any q tb F _ _ HP2.out.rf)
                  rw [← HMT.out.sum] at HF2
                  have hsu := sumX_le HMT.out
                  clear hb20 HF HPW
                  go_wp2_with fail
                  refine HF2.out.mono ?_
                  rintro e w21 ⟨rfl, rfl⟩
                  have HE := Lib.hid (extents_any s F B _ _ _ _ HP2.out.sp)
                  clear HF2
                  go_wp2_with fail
                  refine HE.out.mono ?_
                  rintro e w22 ⟨a22, n22, c22, rfl, ho22, hb22⟩
                  obtain ⟨hln22, -⟩ := own2 ho22
                  have HP3 := Lib.hid (HP2.out.below hb22)
                  have HO3 := Lib.hid ho22
                  have HE2 := Lib.hid (rextents_any q tb F _ _ HP3.out.rf)
                  clear ho22 hb22 HE HP2
                  go_wp2_with fail
                  refine HE2.out.mono ?_
                  rintro e w23 ⟨a23, c23, E, rfl, ho23, hb23, hre⟩
                  obtain rfl := HMT.out.rex hre
                  have HP4 := Lib.hid (HP3.out.below hb23)
                  have HO4 := Lib.hid (own_chg HO3.out (Chg.of_below' (S := fun _ => False) hb23) (fun _ _ h => h))
                  have hln : E.length ≤ B := HMT.out.inv.len.1
                  subst hln22
                  have HS := Lib.hid (same_any _ _ _ _ _ _ _ _ _ HO4.out ho23 (by omega))
                  clear HE2 HP3 HO3 ho23 hb23 hre
                  go_wp2_with fail
                  refine HS.out.mono ?_
                  rintro e w24 ⟨rfl, hb24⟩
                  have HP5 := Lib.hid (HP4.out.below hb24)
                  clear hb24 HS HP4 HO4
                  go_wp2_with fail
                  go_roundw
                  case rel => exact ⟨i + 1, _, _, _, _, by go_num, by omega, by have := HGI.out; omega, HP5.out, HMT.out⟩
                  case measure => simp [intOf]; omega
                · have f2 : decide ((0 : Int) ≤ fi) = true := by rw [decide_eq_true_iff]; omega
                  by_cases f3 : fi < (G.length : Int)
                  · obtain ⟨k, rfl⟩ := Int.eq_ofNat_of_zero_le (show 0 ≤ fi by omega)
                    have hkl : k < G.length := by omega
                    have f4 : decide (k < G.length) = true := by rw [decide_eq_true_iff]; exact hkl
                    have f5 : decide ((k : Int) < (G.length : Int)) = true := by rw [decide_eq_true_iff]; exact f3
                    obtain ⟨u, hu⟩ : ∃ u, u = G[k].1 := ⟨_, rfl⟩
                    obtain ⟨z, hz⟩ : ∃ z, z = G[k].2 := ⟨_, rfl⟩
                    obtain ⟨g, rfl, -, -⟩ := ext_cells HPO.out.1.row hkl
                    have HU := Lib.hid hu
                    have HZ := Lib.hid hz
                    clear hu hz
                    have HG := Lib.hid (fun W' hb' => give_o (HPO.out.below (w' := W') hb') HMT.out.inv (by omega) (u : Int) (z : Int))
                    clear f1
                    go_wp2_with fail
                    clear c0 c1 c2
                    have o1 := HPO.out.2.cell 1
                    obtain ⟨o2, o3⟩ := HPO.out.1.cellG hkl HU.out HZ.out
                    generalize wr.alloc (.cells #[.int .i64 kd, .int .i64 (k : Int), .int .i64 nn] 67) = W1 at *
                    go_region_held3 (fun w' => w'.cell? ⟨wr.heap.size, 1, none⟩ = some (.int .i64 (k : Int)) ∧ w'.cell? ⟨g, k * 2, none⟩ = some (.int .i64 (u : Int)) ∧ w'.cell? ⟨g, k * 2 + 1, none⟩ = some (.int .i64 (z : Int)))
                      (first | exact ⟨o1, o2, o3⟩ | exact ⟨H6.out.2.cell 1, H6.out.1.cellG hkl HU.out HZ.out⟩ | exact ⟨H5.out.2.cell 1, H5.out.1.cellG hkl HU.out HZ.out⟩)
                      (first | (go_at_call 34; refine (HG.out _ (Below.refl _ _).drew).mono ?_; rintro e w5 ⟨er, L', v', rfl, h5, hg5⟩; have H5 := Lib.hid h5; have HG5 := Lib.hid hg5; clear h5 hg5) | (go_at_call 35; refine (rgive_o H5.out (u : Int) (z : Int)).mono ?_; rintro e w6 ⟨er2, T', rfl, h6, hr6⟩; obtain ⟨rfl, hm6⟩ := HMT.out.give hFn (by omega) HG5.out hr6; have H6 := Lib.hid h6; have HM6 := Lib.hid hm6; clear h6 hm6 hr6))
                    have HPW := Lib.hid H6.out.1
                    replace HMT := HM6
                    clear HG H5 H6 HG5 HM6 o1 o2 o3 HPO
                    go_wp2_with fail
                    have HF := Lib.hid (free_any s F B _ _ _ _ HPW.out.sp (Nat.le_trans (sumX_le HMT.out) (by omega)))
                    go_wp2_with fail
                    refine HF.out.mono ?_
                    rintro e w20 ⟨rfl, hb20⟩
                    have HP2 := Lib.hid (HPW.out.below hb20)
                    have HF2 := Lib.hid (rfree_any q tb F _ _ HP2.out.rf)
                    rw [← HMT.out.sum] at HF2
                    have hsu := sumX_le HMT.out
                    clear hb20 HF HPW
                    go_wp2_with fail
                    refine HF2.out.mono ?_
                    rintro e w21 ⟨rfl, rfl⟩
                    have HE := Lib.hid (extents_any s F B _ _ _ _ HP2.out.sp)
                    clear HF2
                    go_wp2_with fail
                    refine HE.out.mono ?_
                    rintro e w22 ⟨a22, n22, c22, rfl, ho22, hb22⟩
                    obtain ⟨hln22, -⟩ := own2 ho22
                    have HP3 := Lib.hid (HP2.out.below hb22)
                    have HO3 := Lib.hid ho22
                    have HE2 := Lib.hid (rextents_any q tb F _ _ HP3.out.rf)
                    clear ho22 hb22 HE HP2
                    go_wp2_with fail
                    refine HE2.out.mono ?_
                    rintro e w23 ⟨a23, c23, E, rfl, ho23, hb23, hre⟩
                    obtain rfl := HMT.out.rex hre
                    have HP4 := Lib.hid (HP3.out.below hb23)
                    have HO4 := Lib.hid (own_chg HO3.out (Chg.of_below' (S := fun _ => False) hb23) (fun _ _ h => h))
                    have hln : E.length ≤ B := HMT.out.inv.len.1
                    subst hln22
                    have HS := Lib.hid (same_any _ _ _ _ _ _ _ _ _ HO4.out ho23 (by omega))
                    clear HE2 HP3 HO3 ho23 hb23 hre
                    go_wp2_with fail
                    refine HS.out.mono ?_
                    rintro e w24 ⟨rfl, hb24⟩
                    have HP5 := Lib.hid (HP4.out.below hb24)
                    clear hb24 HS HP4 HO4
                    go_wp2_with fail
                    go_roundw
                    case rel => exact ⟨i + 1, _, _, _, _, by go_num, by omega, by have := HGI.out; omega, HP5.out, HMT.out⟩
                    case measure => simp [intOf]; omega
                  · have f4 : decide (fi < (G.length : Int)) = false := by rw [decide_eq_false_iff_not]; exact f3
                    go_wp2_with fail
                    go_quiet (fail)
                    have HPW := Lib.hid (HPO.out.1.below (below_dn _ _ nq))
                    clear HPO c0 c1 c2
                    go_wp2_with fail
                    have HF := Lib.hid (free_any s F B _ _ _ _ HPW.out.sp (Nat.le_trans (sumX_le HMT.out) (by omega)))
                    go_wp2_with fail
                    refine HF.out.mono ?_
                    rintro e w20 ⟨rfl, hb20⟩
                    have HP2 := Lib.hid (HPW.out.below hb20)
                    have HF2 := Lib.hid (rfree_any q tb F _ _ HP2.out.rf)
                    rw [← HMT.out.sum] at HF2
                    have hsu := sumX_le HMT.out
                    clear hb20 HF HPW
                    go_wp2_with fail
                    refine HF2.out.mono ?_
                    rintro e w21 ⟨rfl, rfl⟩
                    have HE := Lib.hid (extents_any s F B _ _ _ _ HP2.out.sp)
                    clear HF2
                    go_wp2_with fail
                    refine HE.out.mono ?_
                    rintro e w22 ⟨a22, n22, c22, rfl, ho22, hb22⟩
                    obtain ⟨hln22, -⟩ := own2 ho22
                    have HP3 := Lib.hid (HP2.out.below hb22)
                    have HO3 := Lib.hid ho22
                    have HE2 := Lib.hid (rextents_any q tb F _ _ HP3.out.rf)
                    clear ho22 hb22 HE HP2
                    go_wp2_with fail
                    refine HE2.out.mono ?_
                    rintro e w23 ⟨a23, c23, E, rfl, ho23, hb23, hre⟩
                    obtain rfl := HMT.out.rex hre
                    have HP4 := Lib.hid (HP3.out.below hb23)
                    have HO4 := Lib.hid (own_chg HO3.out (Chg.of_below' (S := fun _ => False) hb23) (fun _ _ h => h))
                    have hln : E.length ≤ B := HMT.out.inv.len.1
                    subst hln22
                    have HS := Lib.hid (same_any _ _ _ _ _ _ _ _ _ HO4.out ho23 (by omega))
                    clear HE2 HP3 HO3 ho23 hb23 hre
                    go_wp2_with fail
                    refine HS.out.mono ?_
                    rintro e w24 ⟨rfl, hb24⟩
                    have HP5 := Lib.hid (HP4.out.below hb24)
                    clear hb24 HS HP4 HO4
                    go_wp2_with fail
                    go_roundw
                    case rel => exact ⟨i + 1, _, _, _, _, by go_num, by omega, by have := HGI.out; omega, HP5.out, HMT.out⟩
                    case measure => simp [intOf]; omega
              · have k4b : (kd == 4) = false := by simp [k4]
                clear k1 k2 k3 k4
                have HPW := Lib.hid HPO.out.1
                go_wp2_with fail
                have HF := Lib.hid (free_any s F B _ _ _ _ HPW.out.sp (Nat.le_trans (sumX_le HMT.out) (by omega)))
                go_wp2_with fail
                refine HF.out.mono ?_
                rintro e w20 ⟨rfl, hb20⟩
                have HP2 := Lib.hid (HPW.out.below hb20)
                have HF2 := Lib.hid (rfree_any q tb F _ _ HP2.out.rf)
                rw [← HMT.out.sum] at HF2
                have hsu := sumX_le HMT.out
                clear hb20 HF HPW
                go_wp2_with fail
                refine HF2.out.mono ?_
                rintro e w21 ⟨rfl, rfl⟩
                have HE := Lib.hid (extents_any s F B _ _ _ _ HP2.out.sp)
                clear HF2
                go_wp2_with fail
                refine HE.out.mono ?_
                rintro e w22 ⟨a22, n22, c22, rfl, ho22, hb22⟩
                obtain ⟨hln22, -⟩ := own2 ho22
                have HP3 := Lib.hid (HP2.out.below hb22)
                have HO3 := Lib.hid ho22
                have HE2 := Lib.hid (rextents_any q tb F _ _ HP3.out.rf)
                clear ho22 hb22 HE HP2
                go_wp2_with fail
                refine HE2.out.mono ?_
                rintro e w23 ⟨a23, c23, E, rfl, ho23, hb23, hre⟩
                obtain rfl := HMT.out.rex hre
                have HP4 := Lib.hid (HP3.out.below hb23)
                have HO4 := Lib.hid (own_chg HO3.out (Chg.of_below' (S := fun _ => False) hb23) (fun _ _ h => h))
                have hln : E.length ≤ B := HMT.out.inv.len.1
                subst hln22
                have HS := Lib.hid (same_any _ _ _ _ _ _ _ _ _ HO4.out ho23 (by omega))
                clear HE2 HP3 HO3 ho23 hb23 hre
                go_wp2_with fail
                refine HS.out.mono ?_
                rintro e w24 ⟨rfl, hb24⟩
                have HP5 := Lib.hid (HP4.out.below hb24)
                clear hb24 HS HP4 HO4
                go_wp2_with fail
                go_roundw
                case rel => exact ⟨i + 1, _, _, _, _, by go_num, by omega, by have := HGI.out; omega, HP5.out, HMT.out⟩
                case measure => simp [intOf]; omega
      · obtain rfl : i = n := by omega
        go_wp2_with fail
        go_ret
        exact ⟨rfl, hfr⟩

theorem SpacePlays_law {w : World} (first : Int) (hf : (Lit.int .i64 first).wf = true) (x : Int) (hx : (Lit.int .u16 x).wf = true) (a : Option Addr) (n c : Nat) (l : List Op7) (h : rdSlice 3 (rdPair 1 2 (rdInt .i64) (rdPair 1 1 (rdInt .i64) (rdInt .i64))) w [.slice a n c] l) :
    Calls Try.prog 9 #[.int .i64 first, .int .u16 x, .slice a n c] w fun e w' => e = .returned (.bool true) ∧ Below w.heap.size w w' := by
  obtain ⟨h1, h2, h3⟩ := orow_of h
  have hb := u_bounds.2.1 hx
  obtain ⟨m, rfl⟩ := Int.eq_ofNat_of_zero_le hb.1
  exact SpacePlays_walk first hf m (by omega) a n c l h1 h2 h3

end Go.Proofs.Ytodjibhnmibedaa.Sp
