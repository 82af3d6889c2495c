/- The walk of the law ArenaPlays. -/
import Derived.Test.YtoodkfjldflbeaaArenaPlaysP
set_option linter.unusedVariables false
namespace Go.Proofs.Ytoodkfjldflbeaa.Arena
open Go.RowKit

def PlLoop (w : World) (a r q : Nat) (v iv : Value) (wr : World) : Prop :=
  ∃ (k : Nat) (A : Ar) (G : List Nat) (L : List (Nat × Bool)), iv = .int .i64 (k : Int) ∧ k ≤ 60 ∧ G.length ≤ k ∧ Std A G L ∧ Pl w a r q A A.room A.peak G G L v wr

set_option maxRecDepth 100000 in
set_option maxHeartbeats 800000 in
theorem plays_law (room : Int) (hrl : -9223372036854775808 ≤ room) (hr : room ≤ 100000) (l : List (Int × Int)) (s : Option Addr) (n c : Nat) (w : World) (h : rdSlice 2 (rdPair 1 1 (rdInt .i64) (rdInt .i64)) w [.slice s n c] l) (hn2 : n ≤ 60) :
    Calls Try.prog 6 #[.int .i64 room, .slice s n c] w fun e w' => e = .returned (.bool true) ∧ Below w.heap.size w w' := by
  obtain ⟨hn, _, _, hs, hwf⟩ := rdSlice_pairs h
  go_enter Try.func6, Try.ntmps6
  go_wp2_with fail
  refine (awake_any _).mono ?_
  rintro e w1 ⟨rfl, hb1⟩
  go_wp2_with fail
  refine (new_any room _ (by omega) hrl).mono ?_
  rintro e w2 ⟨rfl, hA, hb2⟩
  have hb3 := hb1.trans (hb2.mono hb1.size)
  have hz1 := hb1.size
  obtain ⟨a, ha⟩ : ∃ a, a = w1.heap.size + 1 := ⟨_, rfl⟩
  obtain ⟨r, hr'⟩ : ∃ r, r = w1.heap.size := ⟨_, rfl⟩
  have hab : w.heap.size ≤ a ∧ w.heap.size ≤ r := by omega
  rw [← ha, ← hr'] at hA
  rw [← ha]
  clear ha hr' hz1 hb2
  go_wp2_with fail
  refine (refnew_any room _ (by omega) hrl).mono ?_
  rintro e w3 ⟨rfl, hQ, hb4⟩
  have hA3 := hA.chg (Chg.of_below' (S := fun _ => False) hb4) (fun h => h) (fun h => h) (fun p hp h => h.elim)
  have hb5 := hb3.trans (hb4.mono hb3.size)
  have hz3 := hb3.size
  obtain ⟨q, hq⟩ : ∃ q, q = w2.heap.size := ⟨_, rfl⟩
  rw [← hq] at hQ
  rw [← hq]
  have hlo : w.heap.size ≤ a ∧ w.heap.size ≤ r ∧ w.heap.size ≤ q := by omega
  clear hA hq hz3 hb4 hb3 hb1
  go_wp2_with fail
  go_loopw [7, 8] (fun v iv wr => PlLoop w a r q v iv wr) (fun _ iv _ => n - (intOf iv).toNat)
  case atStart => exact ⟨0, _, [], [], rfl, by omega, by simp, ⟨rfl, List.nodup_nil, rfl, fun j hj => by simp at hj⟩, ⟨hA3, hb5, World.ownsRow_nil _ _ _ _, ⟨_, _, hQ, World.ownsRow_nil _ _ _ _, World.ownsRow_nil _ _ _ _⟩, fun g hg => by simp at hg, fun j hj => by simp at hj, hlo⟩⟩
  case round =>
    obtain ⟨k, A, G, L, rfl, hk, hG, hSt, hP⟩ := hrel
    by_cases hlt : (k : Int) < n
    · obtain ⟨b1, o1, rfl, hc1, hc2, l1⟩ := hs k (by omega)
      have hx := u_bounds.2.2.2.2 (hwf (l[k]'(by omega)) (List.getElem_mem _)).2
      have e1 : wr.cell? ⟨b1, o1 + k * 2, none⟩ = some (.int .i64 (l[k]'(by omega)).1) := by rw [hP.bel.cell l1, hc1]
      have e2 : wr.cell? ⟨b1, o1 + k * 2 + 1, none⟩ = some (.int .i64 (l[k]'(by omega)).2) := by rw [hP.bel.cell l1, hc2]
      clear hc1 hc2
      generalize l[k]'(by omega) = x at *
      obtain ⟨kind, x⟩ := x
      clear h hs hwf hA3 hb5 hQ
      have HSt := Lib.hid hSt
      have HP := Lib.hid hP
      have HG := Lib.hid hG
      by_cases hkind : kind = 1
      · have hkb : (kind == 1) = true := by rw [hkind]; rfl
        clear hkind
        have hat := hP.at_
        have hrf := hP.rf
        have hus := hSt.used
        have hlen := hSt.len
        obtain ⟨ok1, ok2, ok3, ok4, ok5⟩ := hP.at_.ok
        clear ok1 ok4
        rcases Int.lt_or_le x 0 with hx0 | hx0
        · clear hP hSt hus hlen
          go_wp2_with fail
          refine (grant_neg a r A x _ hx0).mono ?_
          rintro e w3 ⟨rfl, rfl⟩
          go_wp2_with fail
          refine (refgrant_neg q x _ hx0).mono ?_
          rintro e w4 ⟨rfl, rfl⟩
          go_wp2_with fail
          clear hrf hat ok2 ok3 ok5
          have hQ2 := HP.out.at_
          have hRf2 := HP.out.rf
          have hbel2 := HP.out.bel
          have hsz2 := hbel2.size
          obtain ⟨ok1, ok2, ok3, ok4, ok5⟩ := HP.out.at_.ok
          clear ok1 ok4
          have hus := HSt.out.used
          have hln := HSt.out.len
          have HU1 := Lib.hid (fun d => used_any a r _ _ (hQ2.drewN d))
          have HU2 := Lib.hid (fun d => left_any a r _ _ (hQ2.drewN d))
          have HU3 := Lib.hid (fun d => room_any a r _ _ (hQ2.drewN d))
          have HU4 := Lib.hid (fun d => peak_any a r _ _ (hQ2.drewN d))
          have HU5 := Lib.hid (fun d => refused_ok w.heap.size q _ _ _ _ (hRf2.quiet ⟨d, rfl⟩) (by omega) (by omega))
          rw [← hus] at HU5
          obtain ⟨vs, vt, hB, hS2, hT2⟩ := hRf2.ex
          have d0 : wr.cell? ⟨q, 0, none⟩ = some (.int .i64 (A.room : Int)) := by rw [hB.cell 0]; rfl
          have d1 : wr.cell? ⟨q, 1, none⟩ = some (.int .i64 (A.peak : Int)) := by rw [hB.cell 1]; rfl
          have u1 : IntKind.i64.wrap ((A.room : Int) - A.used) = (A.room : Int) - A.used := by rw [IntKind.wrap_i64]; omega
          clear hB hS2 hT2 hRf2 hus hln
          go_quiet ((first | (go_at_call 14; exact Calls.quiet_of_same' (HU2.out _)) | (go_at_call 15; exact Calls.quiet_of_same' (HU4.out _)) | (go_at_call 28; exact Calls.quiet_of_same' (HU3.out _)) | (go_at_call 26; exact Calls.quiet_of_same' (HU1.out _)) | (go_at_call 27; exact Calls.quiet_of_same' (HU5.out _))))
          go_wp2_with fail
          go_roundw
          case rel => exact ⟨k + 1, A, G, L, by go_num, by omega, by have := HG.out; omega, HSt.out, HP.out.quiet ⟨_, rfl⟩⟩
          case measure => simp [intOf]; omega
        rcases Int.lt_or_le ((A.room : Int) - A.used) x with hxr | hxr
        · have hxr2 : (A.room : Int) - tot L < x := by omega
          have hll : L.length ≤ 60 := by omega
          have hto : tot L ≤ A.room := by omega
          clear hP hSt hus hlen
          go_wp2_with fail
          refine (grant_room a r A x _ hat hxr).mono ?_
          rintro e w3 ⟨rfl, hq3⟩
          go_wp2_with fail
          refine (refgrant_room w.heap.size q _ _ L x _ (hrf.quiet hq3) hto ok5 (by omega) hxr2).mono ?_
          rintro e w4 ⟨rfl, hq4⟩
          have P4 := (HP.out.quiet hq3).quiet hq4
          clear hrf hat ok2 ok3 ok5 hq3 hq4 hxr2 hto hll
          have HP4 := Lib.hid P4
          clear P4
          go_wp2_with fail
          have hQ2 := HP4.out.at_
          have hRf2 := HP4.out.rf
          have hbel2 := HP4.out.bel
          have hsz2 := hbel2.size
          obtain ⟨ok1, ok2, ok3, ok4, ok5⟩ := HP4.out.at_.ok
          clear ok1 ok4
          have hus := HSt.out.used
          have hln := HSt.out.len
          have HU1 := Lib.hid (fun d => used_any a r _ _ (hQ2.drewN d))
          have HU2 := Lib.hid (fun d => left_any a r _ _ (hQ2.drewN d))
          have HU3 := Lib.hid (fun d => room_any a r _ _ (hQ2.drewN d))
          have HU4 := Lib.hid (fun d => peak_any a r _ _ (hQ2.drewN d))
          have HU5 := Lib.hid (fun d => refused_ok w.heap.size q _ _ _ _ (hRf2.quiet ⟨d, rfl⟩) (by omega) (by omega))
          rw [← hus] at HU5
          obtain ⟨vs, vt, hB, hS2, hT2⟩ := hRf2.ex
          have d0 : w4.cell? ⟨q, 0, none⟩ = some (.int .i64 (A.room : Int)) := by rw [hB.cell 0]; rfl
          have d1 : w4.cell? ⟨q, 1, none⟩ = some (.int .i64 (A.peak : Int)) := by rw [hB.cell 1]; rfl
          have u1 : IntKind.i64.wrap ((A.room : Int) - A.used) = (A.room : Int) - A.used := by rw [IntKind.wrap_i64]; omega
          clear hB hS2 hT2 hRf2 hus hln
          go_quiet ((first | (go_at_call 14; exact Calls.quiet_of_same' (HU2.out _)) | (go_at_call 15; exact Calls.quiet_of_same' (HU4.out _)) | (go_at_call 28; exact Calls.quiet_of_same' (HU3.out _)) | (go_at_call 26; exact Calls.quiet_of_same' (HU1.out _)) | (go_at_call 27; exact Calls.quiet_of_same' (HU5.out _))))
          go_wp2_with fail
          go_roundw
          case rel => exact ⟨k + 1, A, G, L, by go_num, by omega, by have := HG.out; omega, HSt.out, HP4.out.quiet ⟨_, rfl⟩⟩
          case measure => simp [intOf]; omega
        obtain ⟨y, rfl⟩ := Int.eq_ofNat_of_zero_le hx0
        have hll : L.length ≤ 60 := by omega
        have hto : tot L ≤ A.room := by omega
        have hyl : y ≤ A.room - tot L := by omega
        have htp : tot L ≤ A.peak := by omega
        have hzw := hP.bel.size
        clear hP hSt hus hlen
        go_wp2_with fail
        refine (grant_ok a r A y _ hat (by omega)).mono ?_
        rintro e w3 ⟨gb, gd, rfl, hA3, hB3, hD3, g1, g2, g3, hg3⟩
        have P3 := HP.out.grant hA3 hB3 g1 hg3 HSt.out.len
        have hbG : gb ∉ G := fun hm => by
          obtain ⟨_, u, hu⟩ := HP.out.buf _ hm
          have := hu.lt
          omega
        have S3 := HSt.out.grant (n := y) hbG
        have hz3 := hg3.size
        go_wp2_with fail
        refine (refgrant_ok w.heap.size q _ _ L y _ P3.rf P3.lo.2.2 (by omega) htp hto ok5 (by omega) hyl).mono ?_
        rintro e w4 ⟨rfl, hR4, hc4, hb4⟩
        have P4 := P3.ref hc4 hb4 hR4 (fun j hj hj' hfj => by
          have hl := HSt.out.len
          simp only [List.length_append, List.length_singleton] at hj hj'
          by_cases hjL : j < L.length
          · rw [List.getElem_append_left hjL] at hfj
            exact P3.held j (by simp; omega) hjL hfj
          · rw [List.getElem_append_right (by omega)] at hfj
            simp at hfj)
        have hB4 := hB3.chg hc4 (not_rf hB3 (by decide) (by decide) (by decide))
        have hD4 := hD3.chg hc4 (not_rf hD3 (by decide) (by decide) (by decide))
        have HP4 := Lib.hid P4
        have HS3 := Lib.hid S3
        have hz4 := hc4.size
        clear P3 P4 S3 hB3 hD3 hA3 hR4 hc4 hb4 hat hrf hg3 hbG
        go_wp2_with fail
        refine (clear_ok gb gd y _ hB4 hD4 (by omega)).mono ?_
        rintro e w5 ⟨rfl, hq5⟩
        have P5 := HP4.out.quiet hq5
        have hown5 := P5.own
        have hz5 := hq5.size
        have HP5 := Lib.hid P5
        clear P5 hq5 hB4 hD4 HP4
        go_wp2_with (at_builtin; go_must (refine wpList_append rfl (.tmp 82) (.tmp 84) _ rfl el_buf w.heap.size _ _ _ rfl (hown5.alloc _) _ 1 1 [ptrKey gb] rfl rfl (Row.new w5 _ _ _) (by intro u hu; simp at hu; subst hu; rfl) (by have := HG.out; unfold maxLen; omega) (by have := HG.out; omega) (by simp; omega) ?_))
        intro v6 w6 hown6 hg6 _ hb6
        have hc6 := ((Chg.refl (fun k => some k = u7.ownBlock) w5).alloc (.cells #[ptrKey gb] 27 (0, 0))).trans (Chg.of_grown hg6) (fun _ _ h => h)
        have P6 := HP5.out.app (H' := G ++ [gb]) (by simpa using hown6) hc6 (((Below.refl w.heap.size w5).alloc (by omega) _).trans hb6)
        have hR1 : A.room = (A.grant y gb).room := rfl
        have hR2 : max A.peak (tot L + y) = (A.grant y gb).peak := by rw [← HSt.out.used]; rfl
        rw [hR1, hR2] at P6
        have hGl : (G ++ [gb]).length = G.length + 1 := by simp
        have hLl : (L ++ [(y, true)]).length = L.length + 1 := by simp
        clear hR1 hR2 hown6 hg6 hb6 hc6 HP5 hown5 HP HSt ok2 ok3 ok5 hto hyl htp hxr hx0
        generalize A.grant y gb = A6 at *
        have HP6 := Lib.hid P6
        have HGl := Lib.hid hGl
        clear P6 hLl hGl
        go_wp2_with fail
        have hQ2 := HP6.out.at_
        have hRf2 := HP6.out.rf
        have hbel2 := HP6.out.bel
        have hsz2 := hbel2.size
        obtain ⟨ok1, ok2, ok3, ok4, ok5⟩ := HP6.out.at_.ok
        clear ok1 ok4
        have hus := HS3.out.used
        have hln : (L ++ [(y, true)]).length ≤ 61 := by simp; omega
        have HU1 := Lib.hid (fun d => used_any a r _ _ (hQ2.drewN d))
        have HU2 := Lib.hid (fun d => left_any a r _ _ (hQ2.drewN d))
        have HU3 := Lib.hid (fun d => room_any a r _ _ (hQ2.drewN d))
        have HU4 := Lib.hid (fun d => peak_any a r _ _ (hQ2.drewN d))
        have HU5 := Lib.hid (fun d => refused_ok w.heap.size q _ _ _ _ (hRf2.quiet ⟨d, rfl⟩) (by omega) (by omega))
        rw [← hus] at HU5
        obtain ⟨vs, vt, hB, hS2, hT2⟩ := hRf2.ex
        have d0 : w6.cell? ⟨q, 0, none⟩ = some (.int .i64 (A6.room : Int)) := by rw [hB.cell 0]; rfl
        have d1 : w6.cell? ⟨q, 1, none⟩ = some (.int .i64 (A6.peak : Int)) := by rw [hB.cell 1]; rfl
        have u1 : IntKind.i64.wrap ((A6.room : Int) - A6.used) = (A6.room : Int) - A6.used := by rw [IntKind.wrap_i64]; omega
        clear hB hS2 hT2 hRf2 hus hln
        go_quiet ((first | (go_at_call 14; exact Calls.quiet_of_same' (HU2.out _)) | (go_at_call 15; exact Calls.quiet_of_same' (HU4.out _)) | (go_at_call 28; exact Calls.quiet_of_same' (HU3.out _)) | (go_at_call 26; exact Calls.quiet_of_same' (HU1.out _)) | (go_at_call 27; exact Calls.quiet_of_same' (HU5.out _))))
        go_wp2_with fail
        go_roundw
        case rel => exact ⟨k + 1, A6, (G ++ [gb]), (L ++ [(y, true)]), by go_num, by omega, by have := HG.out; have := HGl.out; omega, HS3.out, HP6.out.quiet ⟨_, rfl⟩⟩
        case measure => simp [intOf]; omega
      by_cases hkind2 : kind = 2
      · have hkb : (kind == 1) = false := by rw [beq_eq_false_iff_ne]; exact hkind
        have hkb2 : (kind == 2) = true := by rw [hkind2]; rfl
        clear hkind hkind2
        have hlen := hSt.len
        by_cases hx0 : x < 0
        · clear hP hSt hlen
          go_wp2_with fail
          go_roundw
          case rel => exact ⟨k + 1, A, G, L, by go_num, by omega, by have := HG.out; omega, HSt.out, HP.out⟩
          case measure => simp [intOf]; omega
        by_cases hxG : (G.length : Int) ≤ x
        · obtain ⟨a7, c7, rfl, -, -, -, -⟩ := own_slice hP.own
          clear hP hSt hlen
          go_wp2_with fail
          go_roundw
          case rel => exact ⟨k + 1, A, G, L, by go_num, by omega, by have := HG.out; omega, HSt.out, HP.out⟩
          case measure => simp [intOf]; omega
        obtain ⟨y, rfl⟩ := Int.eq_ofNat_of_zero_le (by omega : 0 ≤ x)
        have hyG : y < G.length := by omega
        have hyL : y < L.length := by omega
        obtain ⟨g, cap, rfl, -, -⟩ := World.ownsRow.form hP.own (by omega)
        have hcell : wr.cell? ⟨g, y, none⟩ = some (.pointer (some ⟨G[y], 0, none⟩)) := by
          rw [hP.own.cellAt y (by omega)]
          simp [ptrKey, hyG]
        obtain ⟨lb, u, hu⟩ := hP.buf _ (List.getElem_mem hyG)
        obtain ⟨st1, st2⟩ := hSt.st y hyG hyL
        have HL := Lib.hid hlen
        cases hf : L[y].2
        · have hh := hP.held y hyG hyL hf
          have h2 := st2 hf
          have hat := hP.at_
          clear st1 st2 hP hSt hlen
          go_wp2_with fail
          refine (release_no a r _ A _ hat ⟨_, hu⟩ h2).mono ?_
          rintro e w3 ⟨rfl, rfl⟩
          go_wp2_with fail
          refine (refrel_no w.heap.size q _ _ y L _ HP.out.rf hyL hf).mono ?_
          rintro e w4 ⟨rfl, hq4⟩
          have P4 := HP.out.quiet hq4
          have hcell4 : w4.cell? ⟨g, y, none⟩ = some (.pointer (some ⟨G[y], 0, none⟩)) := by
            rw [P4.own.cellAt y (by omega)]
            simp [ptrKey, hyG]
          have hW4 : w4.cell? ⟨G[y], 0, none⟩ = some (.slice none 0 0) := by rw [(P4.held y hyG hyL hf).cell 0]; rfl
          clear hh hat hq4 hu h2 hf
          have HP4 := Lib.hid P4
          clear P4
          go_wp2_with fail
          have hQ2 := HP4.out.at_
          have hRf2 := HP4.out.rf
          have hbel2 := HP4.out.bel
          have hsz2 := hbel2.size
          obtain ⟨ok1, ok2, ok3, ok4, ok5⟩ := HP4.out.at_.ok
          clear ok1 ok4
          have hus := HSt.out.used
          have hln := HSt.out.len
          have HU1 := Lib.hid (fun d => used_any a r _ _ (hQ2.drewN d))
          have HU2 := Lib.hid (fun d => left_any a r _ _ (hQ2.drewN d))
          have HU3 := Lib.hid (fun d => room_any a r _ _ (hQ2.drewN d))
          have HU4 := Lib.hid (fun d => peak_any a r _ _ (hQ2.drewN d))
          have HU5 := Lib.hid (fun d => refused_ok w.heap.size q _ _ _ _ (hRf2.quiet ⟨d, rfl⟩) (by omega) (by omega))
          rw [← hus] at HU5
          obtain ⟨vs, vt, hB, hS2, hT2⟩ := hRf2.ex
          have d0 : w4.cell? ⟨q, 0, none⟩ = some (.int .i64 (A.room : Int)) := by rw [hB.cell 0]; rfl
          have d1 : w4.cell? ⟨q, 1, none⟩ = some (.int .i64 (A.peak : Int)) := by rw [hB.cell 1]; rfl
          have u1 : IntKind.i64.wrap ((A.room : Int) - A.used) = (A.room : Int) - A.used := by rw [IntKind.wrap_i64]; omega
          clear hB hS2 hT2 hRf2 hus hln
          go_quiet ((first | (go_at_call 14; exact Calls.quiet_of_same' (HU2.out _)) | (go_at_call 15; exact Calls.quiet_of_same' (HU4.out _)) | (go_at_call 28; exact Calls.quiet_of_same' (HU3.out _)) | (go_at_call 26; exact Calls.quiet_of_same' (HU1.out _)) | (go_at_call 27; exact Calls.quiet_of_same' (HU5.out _))))
          go_wp2_with fail
          go_roundw
          case rel => exact ⟨k + 1, A, G, L, by go_num, by omega, by have := HG.out; omega, HSt.out, HP4.out.quiet ⟨_, rfl⟩⟩
          case measure => simp [intOf]; omega
        · have hm := st1 hf
          have hat := hP.at_
          clear st1 st2 hP hlen
          go_wp2_with fail
          refine (release_ok a r _ A _ _ hat hm u hu).mono ?_
          rintro e w3 ⟨rfl, hA3, hB3, hg3⟩
          have P3 := HP.out.release hA3 hB3 (List.getElem_mem hyG) hg3
          have S3 := hSt.release hyL hyG hf
          go_wp2_with fail
          refine (refrel_ok w.heap.size q _ _ y L _ P3.rf hyL hf).mono ?_
          rintro e w4 ⟨rfl, hR4, hc4, hb4⟩
          have P4 := P3.ref hc4 hb4 hR4 (fun j hj hj' hfj => by
            by_cases hyj : y = j
            · subst hyj; exact hB3
            · rw [List.getElem_set_ne hyj] at hfj
              exact P3.held j hj (by simpa using hj') hfj)
          have hcell4 : w4.cell? ⟨g, y, none⟩ = some (.pointer (some ⟨G[y], 0, none⟩)) := by
            rw [P4.own.cellAt y (by omega)]
            simp [ptrKey, hyG]
          have hW4 : w4.cell? ⟨G[y], 0, none⟩ = some (.slice none 0 0) := by rw [(P4.held y hyG (by simpa using hyL) (by simp)).cell 0]; rfl
          have hR1 : A.room = (A.release G[y] L[y].1).room := rfl
          have hR2 : A.peak = (A.release G[y] L[y].1).peak := rfl
          rw [hR1, hR2] at P4
          clear hR1 hR2 hR4 hc4 hb4 P3 hB3 hA3 hg3 hat hm hu hf hSt HSt HP hcell
          generalize A.release G[y] L[y].1 = A4 at *
          generalize L.set y (L[y].1, false) = L4 at *
          have HP4 := Lib.hid P4
          have HS4 := Lib.hid S3
          clear P4 S3
          go_wp2_with fail
          have hQ2 := HP4.out.at_
          have hRf2 := HP4.out.rf
          have hbel2 := HP4.out.bel
          have hsz2 := hbel2.size
          obtain ⟨ok1, ok2, ok3, ok4, ok5⟩ := HP4.out.at_.ok
          clear ok1 ok4
          have hus := HS4.out.used
          have hln := HS4.out.len
          have HU1 := Lib.hid (fun d => used_any a r _ _ (hQ2.drewN d))
          have HU2 := Lib.hid (fun d => left_any a r _ _ (hQ2.drewN d))
          have HU3 := Lib.hid (fun d => room_any a r _ _ (hQ2.drewN d))
          have HU4 := Lib.hid (fun d => peak_any a r _ _ (hQ2.drewN d))
          have HU5 := Lib.hid (fun d => refused_ok w.heap.size q _ _ _ _ (hRf2.quiet ⟨d, rfl⟩) (by omega) (by omega))
          rw [← hus] at HU5
          obtain ⟨vs, vt, hB, hS2, hT2⟩ := hRf2.ex
          have d0 : w4.cell? ⟨q, 0, none⟩ = some (.int .i64 (A4.room : Int)) := by rw [hB.cell 0]; rfl
          have d1 : w4.cell? ⟨q, 1, none⟩ = some (.int .i64 (A4.peak : Int)) := by rw [hB.cell 1]; rfl
          have u1 : IntKind.i64.wrap ((A4.room : Int) - A4.used) = (A4.room : Int) - A4.used := by rw [IntKind.wrap_i64]; omega
          clear hB hS2 hT2 hRf2 hus hln
          go_quiet ((first | (go_at_call 14; exact Calls.quiet_of_same' (HU2.out _)) | (go_at_call 15; exact Calls.quiet_of_same' (HU4.out _)) | (go_at_call 28; exact Calls.quiet_of_same' (HU3.out _)) | (go_at_call 26; exact Calls.quiet_of_same' (HU1.out _)) | (go_at_call 27; exact Calls.quiet_of_same' (HU5.out _))))
          go_wp2_with fail
          go_roundw
          case rel => exact ⟨k + 1, A4, G, L4, by go_num, by omega, by have := HG.out; omega, HS4.out, HP4.out.quiet ⟨_, rfl⟩⟩
          case measure => simp [intOf]; omega
      have hkb : (kind == 1) = false := by rw [beq_eq_false_iff_ne]; exact hkind
      have hkb2 : (kind == 2) = false := by rw [beq_eq_false_iff_ne]; exact hkind2
      clear hkind hkind2 hP hSt
      go_wp2_with fail
      have hQ2 := HP.out.at_
      have hRf2 := HP.out.rf
      have hbel2 := HP.out.bel
      have hsz2 := hbel2.size
      obtain ⟨ok1, ok2, ok3, ok4, ok5⟩ := HP.out.at_.ok
      clear ok1 ok4
      have hus := HSt.out.used
      have hln := HSt.out.len
      have HU1 := Lib.hid (fun d => used_any a r _ _ (hQ2.drewN d))
      have HU2 := Lib.hid (fun d => left_any a r _ _ (hQ2.drewN d))
      have HU3 := Lib.hid (fun d => room_any a r _ _ (hQ2.drewN d))
      have HU4 := Lib.hid (fun d => peak_any a r _ _ (hQ2.drewN d))
      have HU5 := Lib.hid (fun d => refused_ok w.heap.size q _ _ _ _ (hRf2.quiet ⟨d, rfl⟩) (by omega) (by omega))
      rw [← hus] at HU5
      obtain ⟨vs, vt, hB, hS2, hT2⟩ := hRf2.ex
      have d0 : wr.cell? ⟨q, 0, none⟩ = some (.int .i64 (A.room : Int)) := by rw [hB.cell 0]; rfl
      have d1 : wr.cell? ⟨q, 1, none⟩ = some (.int .i64 (A.peak : Int)) := by rw [hB.cell 1]; rfl
      have u1 : IntKind.i64.wrap ((A.room : Int) - A.used) = (A.room : Int) - A.used := by rw [IntKind.wrap_i64]; omega
      clear hB hS2 hT2 hRf2 hus hln
      go_quiet ((first | (go_at_call 14; exact Calls.quiet_of_same' (HU2.out _)) | (go_at_call 15; exact Calls.quiet_of_same' (HU4.out _)) | (go_at_call 28; exact Calls.quiet_of_same' (HU3.out _)) | (go_at_call 26; exact Calls.quiet_of_same' (HU1.out _)) | (go_at_call 27; exact Calls.quiet_of_same' (HU5.out _))))
      go_wp2_with fail
      go_roundw
      case rel => exact ⟨k + 1, A, G, L, by go_num, by omega, by have := HG.out; omega, HSt.out, HP.out.quiet ⟨_, rfl⟩⟩
      case measure => simp [intOf]; omega
    · go_wp2_with fail
      go_ret
      exact ⟨rfl, hP.bel⟩

set_option maxRecDepth 100000 in
theorem plays_odd (room : Int) (s : Option Addr) (n c : Nat) (w : World) (hn : n ≤ 9223372036854775807) (h : ¬ (n ≤ 60 ∧ room ≤ 100000)) :
    Calls Try.prog 6 #[.int .i64 room, .slice s n c] w fun e w' => e = .returned (.bool true) ∧ Below w.heap.size w w' := by
  by_cases h1 : (60 : Int) < n
  all_goals (by_cases h2 : (100000 : Int) < room)
  all_goals first | (exfalso; omega) | skip
  all_goals
    clear h
    go_enter Try.func6, Try.ntmps6
    go_wp2_with fail
    refine (awake_any _).mono ?_
    rintro e1 w1 ⟨rfl, hb1⟩
    go_wp2_with fail
    refine (awake_any _).mono ?_
    rintro e2 w2 ⟨rfl, hb2⟩
    go_wp2_with fail
    go_ret
    exact ⟨rfl, hb1.trans (hb2.mono hb1.size)⟩

theorem ArenaPlays_walk {w : World} (room : Int) (hr : (Lit.int .i64 room).wf = true) (s : Option Addr) (n c : Nat) (l : List (Int × Int)) (h : rdSlice 2 (rdPair 1 1 (rdInt .i64) (rdInt .i64)) w [.slice s n c] l) :
    Calls Try.prog 6 #[.int .i64 room, .slice s n c] w fun e w' => e = .returned (.bool true) ∧ Below w.heap.size w w' := by
  have h3 : n ≤ 9223372036854775807 := by
    obtain ⟨_, h2, h3, _⟩ := rdSlice_pairs h
    unfold maxLen at h3
    omega
  have := u_bounds.2.2.2.2 hr
  by_cases hg : n ≤ 60 ∧ room ≤ 100000
  · exact plays_law room (by omega) hg.2 l s n c w h hg.1
  · exact plays_odd room s n c w h3 hg

end Go.Proofs.Ytoodkfjldflbeaa.Arena
