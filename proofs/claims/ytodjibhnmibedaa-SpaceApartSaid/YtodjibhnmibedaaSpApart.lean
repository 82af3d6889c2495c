/- The law SpaceApart. -/
import Derived.Test.YtodjibhnmibedaaSpApartW
import Derived.Test.YtodjibhnmibedaaSpLeast
set_option linter.unusedVariables false
namespace Go.Proofs.Ytodjibhnmibedaa.Sp
open Go.RowKit

def TakeA (w0 : World) (s hb : Nat) (lv : Value) (G : List Ext) (cs : Array Value) (R : Int → Int → List Ext → Prop) (e : Ending) (w' : World) : Prop := ∃ r er L' v', e = .returned (.tuple #[.int .i64 r, .int .i64 er]) ∧ ApW w0 w' s hb v' lv L' G cs ∧ R r er L'
def ActA (w0 : World) (s hb : Nat) (lv : Value) (G : List Ext) (cs : Array Value) (R : Int → List Ext → Prop) (e : Ending) (w' : World) : Prop := ∃ er L' v', e = .returned (.int .i64 er) ∧ ApW w0 w' s hb v' lv L' G cs ∧ R er L'
theorem take_a {w0 w : World} {s hb : Nat} {v lv : Value} {L G : List Ext} {cs : Array Value} (h : ApW w0 w s hb v lv L G cs) (hI : Inv 5 250 L) (n : Int) : Calls Try.prog 30 #[.pointer (some ⟨s, 0, none⟩), .int .i64 n] w (TakeA w0 s hb lv G cs (TakeRel L 5 250 n)) := by
  have hl := hI.len
  refine (take_any s 5 250 v L w0.heap.size n w h.sp hI.asc (by omega) h.bel.size).mono ?_
  rintro e w' ⟨r, er, v', L', rfl, hr, hs, hc, hv⟩
  exact ⟨r, er, L', v', rfl, h.act hs hc hv, hr⟩
theorem give_a {w0 w : World} {s hb : Nat} {v lv : Value} {L G : List Ext} {cs : Array Value} (h : ApW w0 w s hb v lv L G cs) (hI : Inv 5 250 L) (first n : Int) : Calls Try.prog 34 #[.pointer (some ⟨s, 0, none⟩), .int .i64 first, .int .i64 n] w (ActA w0 s hb lv G cs (GiveRel L 5 250 first n)) := by
  have hl := hI.len
  refine (give_any s 5 250 v L w0.heap.size first n w h.sp hI.asc (fun e he => (hI.ok e he).2.2) (by omega) h.bel.size).mono ?_
  rintro e w' ⟨er, v', L', rfl, hr, hs, hc, hv⟩
  exact ⟨er, L', v', rfl, h.act hs hc hv, hr⟩

/-- The row of owners: not 0 just where P holds. -/
def OB (cs : Array Value) (P : Nat → Prop) : Prop := cs.size = 300 ∧ ∀ b, b < 300 → ∃ x : Int, cs[b]? = some (.int .i64 x) ∧ (x ≠ 0 ↔ P b)
theorem OB.iff_ {cs : Array Value} {P Q : Nat → Prop} (h : OB cs P) (hq : ∀ b, b < 300 → (P b ↔ Q b)) : OB cs Q :=
  ⟨h.1, fun b hb => by obtain ⟨x, h1, h2⟩ := h.2 b hb; exact ⟨x, h1, h2.trans (hq b hb)⟩⟩
theorem OB.set_ {cs : Array Value} {P Q : Nat → Prop} (h : OB cs P) {b : Nat} (hb : b < 300) (y : Int) (hy : y ≠ 0 ↔ Q b) (hq : ∀ j, j < 300 → j ≠ b → (P j ↔ Q j)) : OB (cs.setIfInBounds b (.int .i64 y)) Q := by
  refine ⟨by simp [h.1], fun j hj => ?_⟩
  by_cases hjb : j = b
  · subst hjb
    exact ⟨y, by rw [Array.getElem?_setIfInBounds_self_of_lt (by rw [h.1]; exact hj)], hy⟩
  · obtain ⟨x, h1, h2⟩ := h.2 j hj
    exact ⟨x, by rw [Array.getElem?_setIfInBounds_ne (fun e => hjb e.symm)]; exact h1, h2.trans (hq j hj hjb)⟩
theorem zero_own (w : World) : (zeroValue 75).run Try.prog w = .ok (.agg (Array.replicate 300 (.int .i64 0))) w := by kernel_rfl
theorem OB.new : OB (Array.replicate 300 (.int .i64 0)) (Fr []) :=
  ⟨by simp, fun b hb => ⟨0, by rw [Array.getElem?_replicate, if_pos hb], ⟨fun h => absurd rfl h, fun h => absurd h (Fr_nil b)⟩⟩⟩
theorem apw_new {w w2 : World} {s : Nat} (h : SpI w w2 s 5 250 (wholeL 5 250)) : ∃ v, ApW w (w2.alloc (.cells (Array.replicate 300 (.int .i64 0)) 75)) s w2.heap.size v (.slice none 0 0) (wholeL 5 250) [] (Array.replicate 300 (.int .i64 0)) := by
  obtain ⟨v, h1, h2, h3, h4⟩ := h
  have hb := (Below.refl w2.heap.size w2).alloc (Nat.le_refl _) (.cells (Array.replicate 300 (.int .i64 0)) 75)
  exact ⟨v, h1.below hb, h2, h4.trans (hb.mono h4.size), Blk.new _ _ _, h4.size, World.ownsRow_nil _ _ _ _, fun q hq => by simp [Value.ownBlock] at hq⟩

def ApLp (w : World) (s hb n : Nat) (lv iv : Value) (wr : World) : Prop := ∃ (i : Nat) (v : Value) (L G : List Ext) (cs : Array Value), iv = .int .i64 (i : Int) ∧ i ≤ n ∧ G.length ≤ i ∧ ApW w wr s hb v lv L G cs ∧ Ap L G ∧ OB cs (Fr G)
def OwnL (w : World) (s hb : Nat) (v lv : Value) (L G : List Ext) (p m : Nat) (bv : Value) (wr : World) : Prop :=
  ∃ (b : Nat) (cs : Array Value), bv = .int .i64 (b : Int) ∧ p ≤ b ∧ b ≤ p + m ∧ ApW w wr s hb v lv L G cs ∧ OB cs (fun j => Fr G j ∨ (p ≤ j ∧ j < b))
/-- Giving back: those of G' and of the rest of the extent. -/
def BackL (w : World) (s hb : Nat) (v lv : Value) (L G : List Ext) (P : Nat → Prop) (p m : Nat) (bv : Value) (wr : World) : Prop :=
  ∃ (b : Nat) (cs : Array Value), bv = .int .i64 (b : Int) ∧ p ≤ b ∧ b ≤ p + m ∧ ApW w wr s hb v lv L G cs ∧ OB cs (fun j => P j ∧ ¬ (p ≤ j ∧ j < b))

def RestL (w : World) (s hb : Nat) (lv : Value) (G : List Ext) (cs : Array Value) (jv : Value) (wr : World) : Prop :=
  ∃ (j : Nat) (v : Value) (L : List Ext), jv = .int .i64 (j : Int) ∧ j ≤ G.length ∧ ApW w wr s hb v lv L G cs ∧ Ap L (G.drop j)
theorem cutAt_length {G : List Ext} {k : Nat} : (cutAt G k).length = G.length - 1 := by unfold cutAt; rw [List.length_take, List.length_set]; omega

set_option maxRecDepth 100000 in
set_option maxHeartbeats 4000000 in
theorem SpaceApart_walk {w : World} (s1 : Option Addr) (n c : Nat) (l : List Int) (h : rdSlice 1 (rdInt .u8) w [.slice s1 n c] l) (s2 : Option Addr) (n2 c2 : Nat) (l2 : List Int) (h' : rdSlice 1 (rdInt .u8) w [.slice s2 n2 c2] l2) :
    Calls Try.prog 10 #[.slice s1 n c, .slice s2 n2 c2] w (Told w true) := by
  by_cases hbig : (60 : Int) < n
  · clear h h'
    go_enter Try.func10, Try.ntmps10
    go_wp2_with fail
    refine (awake7_any w).mono ?_
    rintro e w1 ⟨rfl, hb1⟩
    go_wp2_with fail
    refine (awake7_any w1).mono ?_
    rintro e w2 ⟨rfl, hb2⟩
    go_wp2_with fail
    go_ret
    exact ⟨rfl, hb1.trans (hb2.mono hb1.size)⟩
  by_cases hbig2 : (60 : Int) < n2
  · clear h h'
    go_enter Try.func10, Try.ntmps10
    go_wp2_with fail
    refine (awake7_any w).mono ?_
    rintro e w1 ⟨rfl, hb1⟩
    go_wp2_with fail
    refine (awake7_any w1).mono ?_
    rintro e w2 ⟨rfl, hb2⟩
    go_wp2_with fail
    go_ret
    exact ⟨rfl, hb1.trans (hb2.mono hb1.size)⟩
  obtain ⟨hn, _, _, hs, hl⟩ := rdSlice_ints h
  obtain ⟨hn', _, _, hs', hl'⟩ := rdSlice_ints h'
  have HR := Lib.hid hs
  have HR2 := Lib.hid hs'
  have HW := Lib.hid hl
  have HW2 := Lib.hid hl'
  have HNL := Lib.hid hn
  have HNL2 := Lib.hid hn'
  clear h h' hs hs' hl hl' hn hn'
  go_enter Try.func10, Try.ntmps10
  go_wp2_with fail
  refine (awake7_any w).mono ?_
  rintro e w1 ⟨rfl, hb1⟩
  have HN := Lib.hid (new_i hb1 5 250 (by omega) (by omega))
  clear hb1
  go_wp2_with fail
  refine HN.out.mono ?_
  rintro e w2 ⟨s, rfl, h2⟩
  have HS2 := Lib.hid h2
  clear h2 HN
  go_wp2_with fail
  rw [zero_own]
  have HM := Lib.hid (apw_new HS2.out)
  clear HS2
  go_wp2_with fail
  generalize w2.alloc (.cells (Array.replicate 300 (.int .i64 0)) 75) = w3 at *
  generalize w2.heap.size = hb at *
  go_loopw [7, 8] (fun lv iv wr => ApLp w s hb n lv iv wr) (fun _ iv _ => n - (intOf iv).toNat)
  case atStart =>
    obtain ⟨v, hv⟩ := HM.out
    exact ⟨0, v, _, [], _, rfl, by omega, by simp, hv, Ap.new, OB.new⟩
  case round =>
    clear HM
    obtain ⟨i, v, L, G, cs, rfl, hi, hGi, hA, hP, hO⟩ := hrel
    have HA := Lib.hid hA
    have HP := Lib.hid hP
    have HO := Lib.hid hO
    have hfr := hA.bel
    clear hA hP hO
    by_cases hlt : (i : Int) < n
    · obtain ⟨b1, o1, rfl, hc1, l1⟩ := HR.out.at_ (i := i) (by rw [List.length_map]; have := HNL.out; omega)
      have hil : i < l.length := by have := HNL.out; omega
      obtain ⟨x, hx⟩ : ∃ x : Nat, l[i] = (x : Int) ∧ x < 256 := by
        have := u_bounds.2.2.1 (HW.out _ (List.getElem_mem hil))
        exact ⟨l[i].toNat, by omega, by omega⟩
      have d1 : wr.cell? ⟨b1, o1 + i, none⟩ = some (.int .u8 (x : Int)) := by rw [hfr.cell l1, hc1]; simp [hx.1]
      obtain ⟨m, hm, hm1, hm20⟩ : ∃ m : Nat, (m : Int) = 1 + (x : Int) % 20 ∧ 1 ≤ m ∧ m ≤ 20 := ⟨1 + x % 20, by omega, by omega, by omega⟩
      have HMM := Lib.hid hm
      have HT := Lib.hid (take_a HA.out HP.out.inv (m : Int))
      rw [HMM.out] at HT
      have hx2 := hx.2
      have hi0 : (0 : Int) ≤ (i : Int) := by omega
      have y1 : IntKind.i64.wrap ((x : Int) % 20) = (x : Int) % 20 := by rw [IntKind.wrap_i64]; omega
      clear hc1 hx hm hfr
      go_wp2_with fail
      refine HT.out.mono ?_
      rintro e w4 ⟨r, er, L', v', rfl, h4, hrel⟩
      rw [← HMM.out] at hrel
      rcases HP.out.take hrel hm1 with ⟨rfl, rfl⟩ | ⟨p, rfl, rfl, hp5, hp255, hno, hP4⟩
      · have HA2 := Lib.hid h4
        have HP2 := Lib.hid HP.out
        have HO2 := Lib.hid HO.out
        have hgi : G.length ≤ i + 1 := by omega
        clear h4 hrel HT HMM HP HO HA
        obtain ⟨G2, rfl⟩ : ∃ G2, G2 = G := ⟨_, rfl⟩
        have hrow := HA2.out.row
        have hfr2 := HA2.out.bel
        obtain ⟨hgl, hv⟩ := XBlk.of_own hrow
        have HRW := Lib.hid hrow
        clear hrow
        by_cases hi2 : (i : Int) < n2
        · rcases hv with ⟨rfl, rfl⟩ | ⟨g, cap, rest, rfl, hbg, hgl2, hX⟩
          · go_wp2_with fail
            go_roundw
            case rel => exact ⟨i + 1, _, _, _, _, by go_num, by omega, hgi, HA2.out, HP2.out, HO2.out⟩
            case measure => simp [intOf]; omega
          · obtain ⟨bq, oq, rfl, hcq, lq⟩ := HR2.out.at_ (i := i) (by rw [List.length_map]; have := HNL2.out; omega)
            have hil2 : i < l2.length := by have := HNL2.out; omega
            obtain ⟨y, hy, hy256⟩ : ∃ y : Nat, l2[i] = (y : Int) ∧ y < 256 := by
              have := u_bounds.2.2.1 (HW2.out _ (List.getElem_mem hil2))
              exact ⟨l2[i].toNat, by omega, by omega⟩
            have d2 : ∀ W', Below w.heap.size w W' → W'.cell? ⟨bq, oq + i, none⟩ = some (.int .u8 (y : Int)) := fun W' hW' => by rw [hW'.cell lq, hcq]; simp [hy]
            have d3 := d2 _ hfr2
            by_cases hG0 : ¬ (0 : Int) < (G2.length : Int)
            · go_wp2_with fail
              go_roundw
              case rel => exact ⟨i + 1, _, _, _, _, by go_num, by omega, hgi, HA2.out, HP2.out, HO2.out⟩
              case measure => simp [intOf]; omega
            replace hG0 : (0 : Int) < (G2.length : Int) := Classical.not_not.1 hG0
            clear hcq hy d2
            by_cases hy2 : (y : Int) % 2 = 0
            · obtain ⟨k, hk, hkl⟩ : ∃ k : Nat, (k : Int) = (y : Int) % (G2.length : Int) ∧ k < G2.length := ⟨y % G2.length, by omega, Nat.mod_lt _ (by omega)⟩
              have HK := Lib.hid hk
              have y4 : IntKind.i64.wrap ((y : Int) % (G2.length : Int)) = (y : Int) % (G2.length : Int) := by rw [IntKind.wrap_i64]; omega
              clear hk
              go_wp2_with fail
              rw [← HK.out]
              obtain ⟨ge, hge, e1, e2⟩ := ext_cells HRW.out hkl
              injection hge with hge
              injection hge with hge
              subst hge
              obtain ⟨u, hu⟩ : ∃ u, u = G2[k].1 := ⟨_, rfl⟩
              obtain ⟨z, hz⟩ : ∃ z, z = G2[k].2 := ⟨_, rfl⟩
              rw [← hu] at e1
              rw [← hz] at e2
              have HU := Lib.hid hu
              have HZ := Lib.hid hz
              have HA3 := fun W' hb' => HA2.out.below (w' := W') hb'
              have HG := Lib.hid (fun W' hb' => give_a (HA3 W' hb') HP2.out.inv (u : Int) (z : Int))
              have hk0 : (0 : Int) ≤ (k : Int) := by omega
              clear hu hz HA3 y4
              go_region_with ((go_at_call 34; refine (HG.out _ (by first | exact Below.refl _ _ | exact (Below.refl _ _).drew)).mono ?_; rintro e w8 ⟨er, L8, v8, rfl, h8, hg8⟩))
              all_goals
                obtain ⟨rfl, hP8, hF8⟩ := HP2.out.give (cut_perm hkl) (by rw [← HU.out, ← HZ.out]; exact hg8)
                have H8 := Lib.hid h8
                have HP8 := Lib.hid hP8
                have HF8 := Lib.hid hF8
                obtain ⟨ge8, hge8, f1, f2⟩ := ext_cells H8.out.row hkl
                injection hge8 with hge8
                injection hge8 with hge8
                subst hge8
                rw [← HU.out] at f1
                rw [← HZ.out] at f2
                clear h8 hg8 hP8 hF8 HG
                go_wp2_with fail
                obtain ⟨ok1, ok2, ok3⟩ := HP2.out.ok _ (List.getElem_mem hkl)
                rw [← HU.out] at ok2 ok3
                rw [← HZ.out] at ok1 ok3
                have x6 : IntKind.i64.wrap ((u : Int) + (z : Int)) = (u : Int) + (z : Int) := by rw [IntKind.wrap_i64]; omega
                go_loopw [14] (fun bv wr => BackL w s hb v8 (.slice (some ⟨g, 0, none⟩) G2.length cap) L8 G2 (Fr G2) u z bv wr) (fun bv _ => u + z - (intOf bv).toNat)
                case atStart => exact ⟨u, _, rfl, by omega, by omega, H8.out, HO2.out.iff_ (fun b _ => ⟨fun h => ⟨h, by omega⟩, fun h => h.1⟩)⟩
                case round =>
                  obtain ⟨b, cs5, rfl, q1, q2, h5, h6⟩ := hrel
                  have HA5 := Lib.hid h5
                  have HO5 := Lib.hid h6
                  obtain ⟨g5, hg5, m1, m2⟩ := ext_cells h5.row hkl
                  injection hg5 with hg5
                  injection hg5 with hg5
                  subst hg5
                  rw [← HU.out] at m1
                  rw [← HZ.out] at m2
                  clear h5 h6 f1 f2
                  by_cases hlt3 : (b : Int) < (u : Int) + z
                  · have b0 : (0 : Int) ≤ (b : Int) := by omega
                    have b300 : (b : Int) < 300 := by omega
                    go_wp2_with fail
                    go_quiet (fail)
                    have HA6 := Lib.hid (HA5.out.below (below_dn _ _ nq))
                    clear m1 m2 HA5
                    generalize wr.drewN nq = wr1 at *
                    obtain ⟨x3, hx3, -⟩ := HO5.out.2 b (by omega)
                    have c3 : wr1.cell? ⟨hb, b, none⟩ = some (.int .i64 x3) := by rw [HA6.out.hblk.cell]; exact hx3
                    have e3 := HA6.out.hblk.frozen b
                    clear hx3
                    go_wp2_with fail
                    go_roundw
                    case rel => exact ⟨b + 1, _, by go_num, by omega, by omega, HA6.out.mark b _, HO5.out.set_ (by omega) _ ⟨fun h => absurd rfl h, fun h => absurd ⟨q1, by omega⟩ h.2⟩ (fun j _ hj => ⟨fun h => ⟨h.1, fun h' => h.2 ⟨h'.1, by omega⟩⟩, fun h => ⟨h.1, fun h' => h.2 ⟨h'.1, by omega⟩⟩⟩)⟩
                    case measure => simp [intOf]; omega
                  · obtain rfl : b = u + z := by omega
                    have hlk : G2.length - 1 < G2.length := by omega
                    have t1 : IntKind.i64.wrap ((G2.length : Int) - 1) = (G2.length : Int) - 1 := by rw [IntKind.wrap_i64]; omega
                    have t2 : ((G2.length : Int) - 1).toNat = G2.length - 1 := by omega
                    have t3 : (0 : Int) ≤ (G2.length : Int) - 1 := by omega
                    have t4 : (1 : Int) ≤ (G2.length : Int) := by omega
                    have t5 : (G2.length : Int) - 1 < (G2.length : Int) := by omega
                    go_wp2_with fail
                    go_quiet (fail)
                    have HA6 := Lib.hid (HA5.out.below (below_dn _ _ nq))
                    clear m1 m2 HA5
                    generalize wr.drewN nq = wr1 at *
                    obtain ⟨g6, hg6, m1, m2⟩ := ext_cells HA6.out.row hkl
                    injection hg6 with hg6
                    injection hg6 with hg6
                    subst hg6
                    rw [← HU.out] at m1
                    rw [← HZ.out] at m2
                    obtain ⟨g7, hg7, z1, z2⟩ := ext_cells HA6.out.row hlk
                    injection hg7 with hg7
                    injection hg7 with hg7
                    subst hg7
                    obtain ⟨p9, hp9⟩ : ∃ p9, p9 = G2[G2.length - 1].1 := ⟨_, rfl⟩
                    obtain ⟨q9, hq9⟩ : ∃ q9, q9 = G2[G2.length - 1].2 := ⟨_, rfl⟩
                    rw [← hp9] at z1
                    rw [← hq9] at z2
                    have HZZ : Hid ((p9, q9) = G2.getD (G2.length - 1) (0, 0)) := Lib.hid (by rw [getD_at hlk, hp9, hq9])
                    obtain ⟨rest9, hX9, hcap9⟩ : ∃ rest9, XBlk wr1 g cap G2 rest9 ∧ G2.length ≤ cap := by
                      obtain ⟨_, hv9⟩ := XBlk.of_own HA6.out.row
                      rcases hv9 with ⟨h0, _⟩ | ⟨g', cap', rest', hv', _, _, hX'⟩
                      · cases h0
                      · injection hv' with k1 k2 k3
                        injection k1 with k1
                        injection k1 with k1
                        subst k1
                        subst k3
                        exact ⟨rest', hX', by have := hX'.len; have := hX'.cap; omega⟩
                    have n1 := hX9.blk.frozen (k * 2)
                    have n2 := hX9.blk.frozen (k * 2 + 1)
                    have hcap0 : (G2.length : Int) - 1 ≤ (cap : Int) := by omega
                    have HCUT := Lib.hid (HA6.out.cut hkl HZZ.out)
                    have HO7 : Hid (OB cs5 (Fr (cutAt G2 k))) := Lib.hid (HO5.out.iff_ (fun b _ => by
                      rw [HF8.out b]
                      have hi : In G2[k] b ↔ u ≤ b ∧ b < u + z := by unfold In; rw [← HU.out, ← HZ.out]
                      rw [hi]))
                    have hcl : (cutAt G2 k).length = G2.length - 1 := cutAt_length
                    have hci : (cutAt G2 k).length ≤ i + 1 := by omega
                    clear hp9 hq9 hX9 hcap9 hcl HA6 HO5
                    go_wp2_with fail
                    go_roundw
                    case rel => exact ⟨i + 1, _, _, _, _, by go_num, by omega, hci, HCUT.out, HP8.out, HO7.out⟩
                    case measure => simp [intOf]; omega
            · have hy3 : (y : Int) % 2 = 1 := by omega
              go_wp2_with fail
              go_roundw
              case rel => exact ⟨i + 1, _, _, _, _, by go_num, by omega, hgi, HA2.out, HP2.out, HO2.out⟩
              case measure => simp [intOf]; omega
        · rcases hv with ⟨rfl, rfl⟩ | ⟨g, cap, rest, rfl, hbg, hgl2, hX⟩
          all_goals
            go_wp2_with fail
            go_roundw
            case rel => exact ⟨i + 1, _, _, _, _, by go_num, by omega, hgi, HA2.out, HP2.out, HO2.out⟩
            case measure => simp [intOf]; omega
      · have HNO := Lib.hid hno
        have HA4 := Lib.hid h4
        have HP4 := Lib.hid hP4
        clear h4 hrel HT hno hP4
        rw [← HMM.out]
        go_wp2_with fail
        go_loopw [12] (fun bv wr => OwnL w s hb v' u7 L' G p m bv wr) (fun bv _ => p + m - (intOf bv).toNat)
        case atStart => exact ⟨p, cs, rfl, by omega, by omega, HA4.out, HO.out.iff_ (fun b _ => ⟨.inl, fun h => h.elim id (fun h => by omega)⟩)⟩
        case round =>
          obtain ⟨b, cs3, rfl, q1, q2, h5, h6⟩ := hrel
          have HA5 := Lib.hid h5
          have HO5 := Lib.hid h6
          have e3 := h5.hblk.frozen b
          by_cases hlt3 : (b : Int) < (p : Int) + m
          · obtain ⟨x3, hx3, hx3'⟩ := h6.2 b (by omega)
            obtain rfl : x3 = 0 := Classical.byContradiction fun hc => by
              rcases hx3'.1 hc with hh | hh
              · exact HNO.out b q1 (by omega) hh
              · omega
            have c3 : wr.cell? ⟨hb, b, none⟩ = some (.int .i64 0) := by rw [h5.hblk.cell]; exact hx3
            clear h5 h6 hx3 hx3'
            go_wp2_with fail
            go_roundw
            case rel => exact ⟨b + 1, _, by go_num, by omega, by omega, HA5.out.mark b _, HO5.out.set_ (by omega) _ ⟨fun _ => .inr (by omega), fun _ => by omega⟩ (fun j _ hj => ⟨fun h => h.elim .inl (fun h => .inr (by omega)), fun h => h.elim .inl (fun h => .inr (by omega))⟩)⟩
            case measure => simp [intOf]; omega
          · obtain rfl : b = p + m := by omega
            have hsz := h5.bel.size
            clear h5 h6 e3
            have e8 := Row.new wr #[.int .i64 (p : Int), .int .i64 (m : Int)] 69 (0, 0)
            have e7 : (#[Value.int .i64 (p : Int), .int .i64 (m : Int)]).toList = flatX [(p, m)] := rfl
            rw [e7] at e8
            have HRW := Lib.hid e8
            have HA6 := Lib.hid (HA5.out.below ((Below.refl wr.heap.size wr).alloc (Nat.le_refl _) (.cells #[.int .i64 (p : Int), .int .i64 (m : Int)] 69)))
            clear e7 e8
            go_wp2_with (at_builtin; go_must (refine wpList_append rfl (.tmp 76) (.tmp 80) _ rfl el_ext w.heap.size u7 G.length (flatX G) rfl HA6.out.row _ 1 1 (flatX [(p, m)]) rfl rfl HRW.out (flatX_one _) (by unfold maxLen; omega) (by omega) (by simp; omega) ?_))
            intro v7 w7 hown7 hg7 hv7 hb7
            rw [← flatX_append] at hown7
            have h7 := HA6.out.app hown7 (by simp) (Chg.of_grown hg7) (hv7.imp id (fun h => by rw [h]; simp))
            have hgi : (G ++ [(p, m)]).length ≤ i + 1 := by simp; omega
            have hO7 := HO5.out.iff_ (Q := Fr (G ++ [(p, m)])) (fun b _ => by
              rw [Fr_append, Fr_cons]
              exact ⟨fun h => h.elim .inl (fun h => .inr (.inl h)), fun h => h.elim .inl (fun h => .inr (h.elim id (fun h => absurd h (Fr_nil b))))⟩)
            have hP7 := HP4.out
            clear hown7 hg7 hv7 hb7 HRW HA6 HA5 HO5 HNO HA4 HP4 HMM HP HO HA
            generalize G ++ [(p, m)] = G2 at *
            have HA2 := Lib.hid h7
            have HP2 := Lib.hid hP7
            have HO2 := Lib.hid hO7
            clear h7 hP7 hO7
            have hrow := HA2.out.row
            have hfr2 := HA2.out.bel
            obtain ⟨hgl, hv⟩ := XBlk.of_own hrow
            have HRW := Lib.hid hrow
            clear hrow
            by_cases hi2 : (i : Int) < n2
            · rcases hv with ⟨rfl, rfl⟩ | ⟨g, cap, rest, rfl, hbg, hgl2, hX⟩
              · go_wp2_with fail
                go_roundw
                case rel => exact ⟨i + 1, _, _, _, _, by go_num, by omega, hgi, HA2.out, HP2.out, HO2.out⟩
                case measure => simp [intOf]; omega
              · obtain ⟨bq, oq, rfl, hcq, lq⟩ := HR2.out.at_ (i := i) (by rw [List.length_map]; have := HNL2.out; omega)
                have hil2 : i < l2.length := by have := HNL2.out; omega
                obtain ⟨y, hy, hy256⟩ : ∃ y : Nat, l2[i] = (y : Int) ∧ y < 256 := by
                  have := u_bounds.2.2.1 (HW2.out _ (List.getElem_mem hil2))
                  exact ⟨l2[i].toNat, by omega, by omega⟩
                have d2 : ∀ W', Below w.heap.size w W' → W'.cell? ⟨bq, oq + i, none⟩ = some (.int .u8 (y : Int)) := fun W' hW' => by rw [hW'.cell lq, hcq]; simp [hy]
                have d3 := d2 _ hfr2
                by_cases hG0 : ¬ (0 : Int) < (G2.length : Int)
                · go_wp2_with fail
                  go_roundw
                  case rel => exact ⟨i + 1, _, _, _, _, by go_num, by omega, hgi, HA2.out, HP2.out, HO2.out⟩
                  case measure => simp [intOf]; omega
                replace hG0 : (0 : Int) < (G2.length : Int) := Classical.not_not.1 hG0
                clear hcq hy d2
                by_cases hy2 : (y : Int) % 2 = 0
                · obtain ⟨k, hk, hkl⟩ : ∃ k : Nat, (k : Int) = (y : Int) % (G2.length : Int) ∧ k < G2.length := ⟨y % G2.length, by omega, Nat.mod_lt _ (by omega)⟩
                  have HK := Lib.hid hk
                  have y4 : IntKind.i64.wrap ((y : Int) % (G2.length : Int)) = (y : Int) % (G2.length : Int) := by rw [IntKind.wrap_i64]; omega
                  clear hk
                  go_wp2_with fail
                  rw [← HK.out]
                  obtain ⟨ge, hge, e1, e2⟩ := ext_cells HRW.out hkl
                  injection hge with hge
                  injection hge with hge
                  subst hge
                  obtain ⟨u, hu⟩ : ∃ u, u = G2[k].1 := ⟨_, rfl⟩
                  obtain ⟨z, hz⟩ : ∃ z, z = G2[k].2 := ⟨_, rfl⟩
                  rw [← hu] at e1
                  rw [← hz] at e2
                  have HU := Lib.hid hu
                  have HZ := Lib.hid hz
                  have HA3 := fun W' hb' => HA2.out.below (w' := W') hb'
                  have HG := Lib.hid (fun W' hb' => give_a (HA3 W' hb') HP2.out.inv (u : Int) (z : Int))
                  have hk0 : (0 : Int) ≤ (k : Int) := by omega
                  clear hu hz HA3 y4
                  go_region_with ((go_at_call 34; refine (HG.out _ (by first | exact Below.refl _ _ | exact (Below.refl _ _).drew)).mono ?_; rintro e w8 ⟨er, L8, v8, rfl, h8, hg8⟩))
                  all_goals
                    obtain ⟨rfl, hP8, hF8⟩ := HP2.out.give (cut_perm hkl) (by rw [← HU.out, ← HZ.out]; exact hg8)
                    have H8 := Lib.hid h8
                    have HP8 := Lib.hid hP8
                    have HF8 := Lib.hid hF8
                    obtain ⟨ge8, hge8, f1, f2⟩ := ext_cells H8.out.row hkl
                    injection hge8 with hge8
                    injection hge8 with hge8
                    subst hge8
                    rw [← HU.out] at f1
                    rw [← HZ.out] at f2
                    clear h8 hg8 hP8 hF8 HG
                    go_wp2_with fail
                    obtain ⟨ok1, ok2, ok3⟩ := HP2.out.ok _ (List.getElem_mem hkl)
                    rw [← HU.out] at ok2 ok3
                    rw [← HZ.out] at ok1 ok3
                    have x6 : IntKind.i64.wrap ((u : Int) + (z : Int)) = (u : Int) + (z : Int) := by rw [IntKind.wrap_i64]; omega
                    go_loopw [14] (fun bv wr => BackL w s hb v8 (.slice (some ⟨g, 0, none⟩) G2.length cap) L8 G2 (Fr G2) u z bv wr) (fun bv _ => u + z - (intOf bv).toNat)
                    case atStart => exact ⟨u, _, rfl, by omega, by omega, H8.out, HO2.out.iff_ (fun b _ => ⟨fun h => ⟨h, by omega⟩, fun h => h.1⟩)⟩
                    case round =>
                      obtain ⟨b, cs5, rfl, q1, q2, h5, h6⟩ := hrel
                      have HA5 := Lib.hid h5
                      have HO5 := Lib.hid h6
                      obtain ⟨g5, hg5, m1, m2⟩ := ext_cells h5.row hkl
                      injection hg5 with hg5
                      injection hg5 with hg5
                      subst hg5
                      rw [← HU.out] at m1
                      rw [← HZ.out] at m2
                      clear h5 h6 f1 f2
                      by_cases hlt3 : (b : Int) < (u : Int) + z
                      · have b0 : (0 : Int) ≤ (b : Int) := by omega
                        have b300 : (b : Int) < 300 := by omega
                        go_wp2_with fail
                        go_quiet (fail)
                        have HA6 := Lib.hid (HA5.out.below (below_dn _ _ nq))
                        clear m1 m2 HA5
                        generalize wr.drewN nq = wr1 at *
                        obtain ⟨x3, hx3, -⟩ := HO5.out.2 b (by omega)
                        have c3 : wr1.cell? ⟨hb, b, none⟩ = some (.int .i64 x3) := by rw [HA6.out.hblk.cell]; exact hx3
                        have e3 := HA6.out.hblk.frozen b
                        clear hx3
                        go_wp2_with fail
                        go_roundw
                        case rel => exact ⟨b + 1, _, by go_num, by omega, by omega, HA6.out.mark b _, HO5.out.set_ (by omega) _ ⟨fun h => absurd rfl h, fun h => absurd ⟨q1, by omega⟩ h.2⟩ (fun j _ hj => ⟨fun h => ⟨h.1, fun h' => h.2 ⟨h'.1, by omega⟩⟩, fun h => ⟨h.1, fun h' => h.2 ⟨h'.1, by omega⟩⟩⟩)⟩
                        case measure => simp [intOf]; omega
                      · obtain rfl : b = u + z := by omega
                        have hlk : G2.length - 1 < G2.length := by omega
                        have t1 : IntKind.i64.wrap ((G2.length : Int) - 1) = (G2.length : Int) - 1 := by rw [IntKind.wrap_i64]; omega
                        have t2 : ((G2.length : Int) - 1).toNat = G2.length - 1 := by omega
                        have t3 : (0 : Int) ≤ (G2.length : Int) - 1 := by omega
                        have t4 : (1 : Int) ≤ (G2.length : Int) := by omega
                        have t5 : (G2.length : Int) - 1 < (G2.length : Int) := by omega
                        go_wp2_with fail
                        go_quiet (fail)
                        have HA6 := Lib.hid (HA5.out.below (below_dn _ _ nq))
                        clear m1 m2 HA5
                        generalize wr.drewN nq = wr1 at *
                        obtain ⟨g6, hg6, m1, m2⟩ := ext_cells HA6.out.row hkl
                        injection hg6 with hg6
                        injection hg6 with hg6
                        subst hg6
                        rw [← HU.out] at m1
                        rw [← HZ.out] at m2
                        obtain ⟨g7, hg7, z1, z2⟩ := ext_cells HA6.out.row hlk
                        injection hg7 with hg7
                        injection hg7 with hg7
                        subst hg7
                        obtain ⟨p9, hp9⟩ : ∃ p9, p9 = G2[G2.length - 1].1 := ⟨_, rfl⟩
                        obtain ⟨q9, hq9⟩ : ∃ q9, q9 = G2[G2.length - 1].2 := ⟨_, rfl⟩
                        rw [← hp9] at z1
                        rw [← hq9] at z2
                        have HZZ : Hid ((p9, q9) = G2.getD (G2.length - 1) (0, 0)) := Lib.hid (by rw [getD_at hlk, hp9, hq9])
                        obtain ⟨rest9, hX9, hcap9⟩ : ∃ rest9, XBlk wr1 g cap G2 rest9 ∧ G2.length ≤ cap := by
                          obtain ⟨_, hv9⟩ := XBlk.of_own HA6.out.row
                          rcases hv9 with ⟨h0, _⟩ | ⟨g', cap', rest', hv', _, _, hX'⟩
                          · cases h0
                          · injection hv' with k1 k2 k3
                            injection k1 with k1
                            injection k1 with k1
                            subst k1
                            subst k3
                            exact ⟨rest', hX', by have := hX'.len; have := hX'.cap; omega⟩
                        have n1 := hX9.blk.frozen (k * 2)
                        have n2 := hX9.blk.frozen (k * 2 + 1)
                        have hcap0 : (G2.length : Int) - 1 ≤ (cap : Int) := by omega
                        have HCUT := Lib.hid (HA6.out.cut hkl HZZ.out)
                        have HO7 : Hid (OB cs5 (Fr (cutAt G2 k))) := Lib.hid (HO5.out.iff_ (fun b _ => by
                          rw [HF8.out b]
                          have hi : In G2[k] b ↔ u ≤ b ∧ b < u + z := by unfold In; rw [← HU.out, ← HZ.out]
                          rw [hi]))
                        have hcl : (cutAt G2 k).length = G2.length - 1 := cutAt_length
                        have hci : (cutAt G2 k).length ≤ i + 1 := by omega
                        clear hp9 hq9 hX9 hcap9 hcl HA6 HO5
                        go_wp2_with fail
                        go_roundw
                        case rel => exact ⟨i + 1, _, _, _, _, by go_num, by omega, hci, HCUT.out, HP8.out, HO7.out⟩
                        case measure => simp [intOf]; omega
                · have hy3 : (y : Int) % 2 = 1 := by omega
                  go_wp2_with fail
                  go_roundw
                  case rel => exact ⟨i + 1, _, _, _, _, by go_num, by omega, hgi, HA2.out, HP2.out, HO2.out⟩
                  case measure => simp [intOf]; omega
            · rcases hv with ⟨rfl, rfl⟩ | ⟨g, cap, rest, rfl, hbg, hgl2, hX⟩
              all_goals
                go_wp2_with fail
                go_roundw
                case rel => exact ⟨i + 1, _, _, _, _, by go_num, by omega, hgi, HA2.out, HP2.out, HO2.out⟩
                case measure => simp [intOf]; omega
    · obtain rfl : n = i := by omega
      have hrow := HA.out.row
      obtain ⟨hgl, hv⟩ := XBlk.of_own hrow
      clear hrow hfr
      rcases hv with ⟨rfl, rfl⟩ | ⟨g, cap, rest, rfl, hbg, hgl2, hX⟩
      · go_wp2_with fail
        go_loopw [15] (fun jv wr2 => RestL w s hb (.slice none 0 0) [] cs jv wr2) (fun jv _ => 0 - (intOf jv).toNat)
        case atStart => exact ⟨0, _, _, rfl, by simp, HA.out, HP.out⟩
        case round =>
          clear HA HP
          obtain ⟨j, v2, L2, rfl, hj, hA2, hP2⟩ := hrel
          obtain rfl : j = 0 := by simpa using hj
          have hLw := Ap.whole hP2
          subst hLw
          have HA2 := Lib.hid hA2
          clear hA2 hP2
          have HE := Lib.hid (extents_any s 5 250 v2 [(5, 250)] w.heap.size _ HA2.out.sp)
          have HFm := Lib.hid (fun W hb' => free_any s 5 250 v2 [(5, 250)] w.heap.size W (HA2.out.sp.below (w' := W) hb') (by decide))
          have HB2 := Lib.hid HA2.out.bel
          clear HA2
          go_wp2_with fail
          refine HE.out.mono ?_
          rintro e w5 ⟨a5, n5, c5, rfl, hown5, hb5⟩
          obtain ⟨hn5, -⟩ := XBlk.of_own hown5
          obtain rfl : n5 = 1 := by simpa using hn5.symm
          obtain ⟨g5, rfl, e5, e6⟩ := ext_cells hown5 (k := 0) (by simp)
          have HF5 := Lib.hid (HFm.out _ hb5)
          have HB5 := Lib.hid (HB2.out.trans (hb5.mono HB2.out.size))
          clear hown5 hb5 HE HFm HB2 hn5
          simp only [List.getElem_cons_zero] at e5 e6
          go_wp2_with fail
          refine HF5.out.mono ?_
          rintro e w6 ⟨he6, hb6⟩
          obtain rfl : e = .returned (.int .i64 250) := he6
          have e7 : w6.cell? ⟨g5, 0, none⟩ = some (.int .i64 5) := by rw [hb6.cell (cell_lt e5).1]; exact e5
          have e8 : w6.cell? ⟨g5, 1, none⟩ = some (.int .i64 250) := by rw [hb6.cell (cell_lt e6).1]; exact e6
          have HB6 := Lib.hid (HB5.out.trans (hb6.mono HB5.out.size))
          clear hb6 e5 e6 HF5 HB5
          go_wp2_with fail
          go_ret
          exact ⟨rfl, HB6.out⟩
      · go_wp2_with fail
        go_loopw [15] (fun jv wr2 => RestL w s hb (.slice (some ⟨g, 0, none⟩) G.length cap) G cs jv wr2) (fun jv _ => G.length - (intOf jv).toNat)
        case atStart => exact ⟨0, _, _, rfl, by simp, HA.out, HP.out⟩
        case round =>
          clear HA HP
          obtain ⟨j, v2, L2, rfl, hj, hA2, hP2⟩ := hrel
          have HA2 := Lib.hid hA2
          have HP2 := Lib.hid hP2
          clear hA2 hP2
          by_cases hlt2 : (j : Int) < (G.length : Int)
          · have hjl : j < G.length := by omega
            obtain ⟨ge, hge, e1, e2⟩ := ext_cells HA2.out.row hjl
            injection hge with hge
            injection hge with hge
            subst hge
            obtain ⟨u, hu⟩ : ∃ u, u = G[j].1 := ⟨_, rfl⟩
            obtain ⟨z, hz⟩ : ∃ z, z = G[j].2 := ⟨_, rfl⟩
            rw [← hu] at e1
            rw [← hz] at e2
            have HU := Lib.hid hu
            have HZ := Lib.hid hz
            have HG := Lib.hid (fun W' hb' => give_a (HA2.out.below (w' := W') hb') HP2.out.inv (u : Int) (z : Int))
            have hj0 : (0 : Int) ≤ (j : Int) := by omega
            have HPM : Hid ((G.drop j).Perm (G[j] :: G.drop (j + 1))) := Lib.hid (by rw [List.drop_eq_getElem_cons hjl])
            clear hu hz
            go_wp2_with fail
            go_region_with ((go_at_call 34; refine (HG.out _ (by first | exact Below.refl _ _ | exact (Below.refl _ _).drew)).mono ?_; rintro e w8 ⟨er, L8, v8, rfl, h8, hg8⟩))
            all_goals
              obtain ⟨rfl, hP8, -⟩ := HP2.out.give HPM.out (by rw [← HU.out, ← HZ.out]; exact hg8)
              have H8 := Lib.hid h8
              have HP8 := Lib.hid hP8
              clear h8 hg8 hP8 HG
              go_wp2_with fail
              go_roundw
              case rel => exact ⟨j + 1, _, _, by go_num, by omega, H8.out, HP8.out⟩
              case measure => simp [intOf]; omega
          · obtain rfl : j = G.length := by omega
            have hLw := Ap.whole (by have h := HP2.out; rw [List.drop_length] at h; exact h)
            subst hLw
            clear HP2
            have HE := Lib.hid (extents_any s 5 250 v2 [(5, 250)] w.heap.size _ HA2.out.sp)
            have HFm := Lib.hid (fun W hb' => free_any s 5 250 v2 [(5, 250)] w.heap.size W (HA2.out.sp.below (w' := W) hb') (by decide))
            have HB2 := Lib.hid HA2.out.bel
            clear HA2
            go_wp2_with fail
            refine HE.out.mono ?_
            rintro e w5 ⟨a5, n5, c5, rfl, hown5, hb5⟩
            obtain ⟨hn5, -⟩ := XBlk.of_own hown5
            obtain rfl : n5 = 1 := by simpa using hn5.symm
            obtain ⟨g5, rfl, e5, e6⟩ := ext_cells hown5 (k := 0) (by simp)
            have HF5 := Lib.hid (HFm.out _ hb5)
            have HB5 := Lib.hid (HB2.out.trans (hb5.mono HB2.out.size))
            clear hown5 hb5 HE HFm HB2 hn5
            simp only [List.getElem_cons_zero] at e5 e6
            go_wp2_with fail
            refine HF5.out.mono ?_
            rintro e w6 ⟨he6, hb6⟩
            obtain rfl : e = .returned (.int .i64 250) := he6
            have e7 : w6.cell? ⟨g5, 0, none⟩ = some (.int .i64 5) := by rw [hb6.cell (cell_lt e5).1]; exact e5
            have e8 : w6.cell? ⟨g5, 1, none⟩ = some (.int .i64 250) := by rw [hb6.cell (cell_lt e6).1]; exact e6
            have HB6 := Lib.hid (HB5.out.trans (hb6.mono HB5.out.size))
            clear hb6 e5 e6 HF5 HB5
            go_wp2_with fail
            go_ret
            exact ⟨rfl, HB6.out⟩

theorem SpaceApart_law {w : World} (s1 : Option Addr) (n c : Nat) (l : List Int) (h : rdSlice 1 (rdInt .u8) w [.slice s1 n c] l) (s2 : Option Addr) (n2 c2 : Nat) (l2 : List Int) (h' : rdSlice 1 (rdInt .u8) w [.slice s2 n2 c2] l2) :
    Calls Try.prog 10 #[.slice s1 n c, .slice s2 n2 c2] w fun e w' => e = .returned (.bool true) ∧ Below w.heap.size w w' := SpaceApart_walk s1 n c l h s2 n2 c2 l2 h'

end Go.Proofs.Ytodjibhnmibedaa.Sp
