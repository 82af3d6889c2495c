/- The walk of the reference's Encode. -/
import Derived.Test.YtlepmefknglkeaaFmtP
import Derived.Test.YtlepmefknglkeaaFmtEnc
set_option linter.unusedVariables false
namespace Go.Proofs.Ytlepmefknglkeaa.Gr
open Go.RowKit Var

def BOwn (base : Nat) (W : World) (v : Value) (bs : List Nat) (wr : World) : Prop := wr.ownsRow base 5 1 v bs.length (byts bs) ∧ Below base W wr
def REncLoop (N : Nat) (V : List E2) (base : Nat) (W : World) (bv av uv : Value) (wr : World) : Prop :=
  ∃ u : Nat, uv = .int .i64 (u : Int) ∧ av = .int .i64 (pre V (u : Int) : Int) ∧ u ≤ N ∧ BOwn base W bv (headB N V.length ++ body V u) wr
def RCntLoop (V : List E2) (u : Nat) (w0 : World) (nv iv : Value) (wr : World) : Prop :=
  ∃ t : Nat, iv = .int .i64 ((pre V (u : Int) + t : Nat) : Int) ∧ nv = .int .i64 ((min t (pre V ((u : Int) + 1) - pre V u) : Nat) : Int) ∧ pre V (u : Int) + t ≤ V.length ∧ w0 = wr
def RRowLoop (N : Nat) (V : List E2) (u : Nat) (base : Nat) (W : World) (bv iv : Value) (wr : World) : Prop :=
  ∃ t : Nat, iv = .int .i64 ((pre V (u : Int) + t : Nat) : Int) ∧ t ≤ pre V ((u : Int) + 1) - pre V u ∧
    BOwn base W bv (headB N V.length ++ body V u ++ put (pre V ((u : Int) + 1) - pre V u) ++ dl u ((rowU V u).take t)) wr

theorem row_step {V : List E2} {N : Nat} (h : Fine V N) {u t P0 cn : Nat} (hP0 : pre V (u : Int) = P0) (hcn : pre V ((u : Int) + 1) - pre V (u : Int) = cn) (ht : t < cn) :
    ∃ (hx : P0 + t < V.length) (L : Int) (xn : Nat), V[P0 + t].2 - L = (xn : Int) ∧ 0 ≤ L ∧ xn ≤ 1073741824 ∧ V[P0 + t].2 ≤ 1073741824 ∧
      dl u ((rowU V u).take (t + 1)) = dl u ((rowU V u).take t) ++ put xn ∧ (t = 0 → L = (u : Int)) ∧ (∀ t', t = t' + 1 → ∃ h : P0 + t' < V.length, V[P0 + t'].2 = L) := by
  subst hP0
  subst hcn
  have h1 := pre_le V ((u : Int) + 1)
  have hx : pre V (u : Int) + t < V.length := by omega
  have hll := last_le h ht hx
  have hok := h.ok _ (List.getElem_mem hx)
  have hs := h.small
  refine ⟨hx, lastOf u ((rowU V u).take t), (V[pre V (u : Int) + t].2 - lastOf u ((rowU V u).take t)).toNat, by omega, hll.1, by omega, by omega, ?_, ?_, ?_⟩
  · rw [rowU_take ht hx, dl_snoc]
  · rintro rfl
    rfl
  · rintro t' rfl
    have h3 : pre V (u : Int) + t' < V.length := by omega
    exact ⟨h3, by rw [rowU_take (by omega) h3, lastOf_snoc]⟩

set_option maxRecDepth 100000 in
set_option maxHeartbeats 2000000 in
theorem rencode_ok (N : Nat) (l : List E2) (a : Option Addr) (m c : Nat) (w : World) (hr : ERow w a l) (hm : l.length = m) (hmm : m ≤ 300) (hf : formed N l = true) :
    Calls Try.prog 32 #[.agg #[.int .i64 (N : Int), .slice a m c]] w (EncTold (encB (ordL l) N) 0 w) := by
  subst hm
  have h0 : Below w.heap.size w (w.alloc (.cells #[.int .i64 (N : Int), .slice a l.length c] 24)) := (Below.refl w.heap.size w).alloc (Nat.le_refl _) _
  have O1 := Lib.hid (rorder_ok N l a l.length c _ (hr.below h0) rfl hmm hf)
  have H0 := Lib.hid h0
  have F := fine_ord hf
  have FN := Lib.hid F
  have s1 := F.small
  have s2 := F.len
  have hvl := ordL_length l
  generalize ordL l = V at *
  clear h0 hr hf F
  go_enter Try.func32, Try.ntmps32
  go_wp2_with fail
  generalize w.alloc (.cells #[.int .i64 (N : Int), .slice a l.length c] 24) = W0 at *
  refine O1.out.mono ?_
  rintro e w1 ⟨a1, m1, d1, rfl, hr1, hl1, hb1⟩
  obtain rfl : l.length = m1 := by omega
  have hN : Blk (w1.alloc (.cells #[.int .i64 (N : Int), .slice a1 l.length d1] 24)) w1.heap.size 24 #[.int .i64 (N : Int), .slice a1 l.length d1] := Blk.new w1 _ _
  have hRx := hr1.below (below_new' w1 (.cells #[.int .i64 (N : Int), .slice a1 l.length d1] 24))
  have H2 := Lib.hid ((H0.out.trans (hb1.mono H0.out.size)).trans ((below_new' w1 (.cells #[.int .i64 (N : Int), .slice a1 l.length d1] 24)).mono (Nat.le_trans H0.out.size hb1.size)))
  have hgl := hN.lt
  have hNw : IntKind.u64.wrap (N : Int) = (N : Int) := by simp [IntKind.wrap, IntKind.bits, IntKind.signed]; omega
  have hMw : IntKind.u64.wrap (l.length : Int) = (l.length : Int) := by simp [IntKind.wrap, IntKind.bits, IntKind.signed]; omega
  go_wp2_with fail
  have hW1 : (w1.alloc (.cells #[.int .i64 (N : Int), .slice a1 l.length d1] 24)).heap.size = w1.heap.size + 1 := by simp
  generalize w1.alloc (.cells #[.int .i64 (N : Int), .slice a1 l.length d1] 24) = W at *
  rw [← hW1]
  generalize w1.heap.size = gb at *
  have B2 := Lib.hid hN
  have R2 := Lib.hid hRx
  have ctx := Lib.hid (fun W' (h : Below W.heap.size W W') => (⟨(B2.out.below h hgl).cell 0, (B2.out.below h hgl).cell 1, R2.out.below h⟩ : W'.cell? ⟨gb, 0, none⟩ = some (.int .i64 (N : Int)) ∧ W'.cell? ⟨gb, 1, none⟩ = some (.slice a1 l.length d1) ∧ ERow W' a1 V))
  have bl1 := below_new' W (.cells #[.int .u8 71] 5)
  refine (ref_put [71] N (some ⟨W.heap.size, 0, none⟩) 1 1 _ (Row.new W #[.int .u8 71] 5 (0, 0)) rfl (by omega) (by omega)).mono ?_
  rintro e w3 ⟨v3, rfl, hown3, hb3⟩
  obtain ⟨a3, c3, rfl, hr3, -, -, -⟩ := own_slice hown3
  have hB3 := bl1.trans (hb3.mono bl1.size)
  obtain ⟨c0, c1, -⟩ := ctx.out w3 hB3
  have HB3 := Lib.hid hB3
  have hp1 := put_len10 N (by omega)
  clear hN hRx bl1 hb3 hown3 hB3 hb1 hr1 hl1 hW1 H0 O1
  go_wp2_with fail
  refine (ref_put ([71] ++ put N) l.length a3 (1 + (put N).length) c3 w3 hr3 (by simp; omega) (by omega) (by omega)).mono ?_
  rintro e w4 ⟨v4, rfl, hown4, hb4⟩
  have hE4 : BOwn W.heap.size W v4 (headB N V.length ++ body V 0) w4 := by
    refine ⟨?_, HB3.out.trans (hb4.mono HB3.out.size)⟩
    have h := own_mono hown4 HB3.out.size
    have e1 : [71] ++ put N ++ put l.length = headB N V.length ++ body V 0 := by simp [headB, body, hvl]
    rw [e1] at h
    have e2 : 1 + (put N).length + (put l.length).length = (headB N V.length ++ body V 0).length := by simp [headB, body, hvl]; omega
    rw [e2] at h
    exact h
  have HE4 := Lib.hid hE4
  have hpz : pre V 0 = 0 := pre_zero (fun e he => (FN.out.ok e he).1)
  have HPZ := Lib.hid hpz
  clear hpz hown4 hb4 hE4 c0 c1 HB3 hr3
  go_wp2_with fail
  go_loopw [6, 7, 8] (fun bv av uv wr => REncLoop N V W.heap.size W bv av uv wr) (fun _ _ uv _ => N - (intOf uv).toNat)
  case atStart => exact ⟨0, rfl, by rw [show ((0 : Nat) : Int) = 0 from rfl, HPZ.out]; rfl, by omega, HE4.out⟩
  case round =>
    obtain ⟨u, rfl, rfl, hu, hE⟩ := hrel
    obtain ⟨c0, c1, hR⟩ := ctx.out wr hE.2
    obtain ⟨av, cv, rfl, -, -, -, -⟩ := own_slice hE.1
    obtain ⟨ln, hln⟩ : ∃ ln, (headB N V.length ++ body V u).length = ln := ⟨_, rfl⟩
    have hO : wr.ownsRow W.heap.size 5 1 (.slice av ln cv) ln (byts (headB N V.length ++ body V u)) := by rw [← hln]; exact hE.1
    rw [hln]
    have HLN := Lib.hid hln
    have HO := Lib.hid hO
    have HW := Lib.hid hE.2
    have HR := Lib.hid hR
    have HU := Lib.hid hu
    clear hE hR hu hO hln
    have hp01 := pre_mono (V := V) (show (u : Int) ≤ (u : Int) + 1 by omega)
    have hp1l := pre_le V ((u : Int) + 1)
    generalize hP0 : pre V (u : Int) = P0 at *
    generalize hP1 : pre V ((u : Int) + 1) = P1 at *
    have HP0 := Lib.hid hP0
    have HP1 := Lib.hid hP1
    clear hP0 hP1
    obtain ⟨cn, rfl⟩ : ∃ cn, P1 = P0 + cn := ⟨P1 - P0, by omega⟩
    have HCN := Lib.hid (show pre V ((u : Int) + 1) - pre V (u : Int) = cn by rw [HP0.out, HP1.out]; omega)
    by_cases hlt : (u : Int) < N
    · go_wp2_with fail
      go_loopw [9, 10] (fun nv iv wr' => RCntLoop V u wr nv iv wr') (fun _ iv _ => V.length - (intOf iv).toNat)
      case atStart => exact ⟨0, by rw [HP0.out]; go_num, by simp, by rw [HP0.out]; omega, rfl⟩
      case round =>
        obtain ⟨t, rfl, rfl, ht, rfl⟩ := hrel
        rw [HP0.out] at ht
        rw [HCN.out, HP0.out]
        have t0 : ((P0 + t : Nat) : Int) = (P0 : Int) + t := by omega
        rw [t0]
        clear t0
        by_cases hi : P0 + t < V.length
        · obtain ⟨b1, o1, rfl, e1, e2, _⟩ := HR.out (P0 + t) hi
          have hat := FN.out.at_ (u := u) hi
          rw [HP0.out, HP1.out] at hat
          have t1 : (P0 : Int) + t < l.length := by omega
          have t2 : (0 : Int) ≤ (P0 : Int) + t := by omega
          have t3 : ((P0 : Int) + t).toNat = P0 + t := by omega
          generalize V[P0 + t] = pp at *
          obtain ⟨pu, pv⟩ := pp
          simp only at e1 hat
          by_cases hq : pu = (u : Int)
          · have h9 : t < cn := by have := hat.1 hq; omega
            have t4 : min t cn = t := by omega
            rw [t4]
            clear e2 hat
            go_wp2_with fail
            go_roundw
            case rel => exact ⟨t + 1, by rw [HP0.out]; go_num, by rw [HCN.out, show min (t + 1) cn = t + 1 by omega]; go_num, by rw [HP0.out]; omega, rfl⟩
            case measure => simp [intOf]; omega
          · have h9 : ¬ t < cn := fun h => hq (hat.2 (by omega))
            have t4 : min t cn = cn := by omega
            rw [t4]
            clear e2 hat
            go_wp2_with fail
            go_roundw
            case rel => exact ⟨t + 1, by rw [HP0.out]; go_num, by rw [HCN.out, show min (t + 1) cn = cn by omega], by rw [HP0.out]; omega, rfl⟩
            case measure => simp [intOf]; omega
        · have t1 : ¬ (P0 : Int) + t < l.length := by omega
          have t4 : min t cn = cn := by omega
          rw [t4]
          have hcw : IntKind.u64.wrap (cn : Int) = (cn : Int) := by simp [IntKind.wrap, IntKind.bits, IntKind.signed]; omega
          have hbl : ln ≤ 100000000000 := by
            have h1 := head_len (N := N) (M := V.length) (by omega) (by omega)
            have h2 := body_len FN.out u HU.out
            have h5 := pre_le V (u : Int)
            have h6 := HLN.out
            rw [List.length_append] at h6
            omega
          have C1 := Lib.hid (ref_put (headB N V.length ++ body V u) cn av ln cv wr (Row.of_own HO.out).1 HLN.out (by omega) (by omega))
          go_wp2_with fail
          refine C1.out.mono ?_
          rintro e w6 ⟨v6, rfl, hown6, hb6⟩
          have hE6 : BOwn W.heap.size W v6 (headB N V.length ++ body V u ++ put cn) w6 := by
            refine ⟨?_, HW.out.trans (hb6.mono HW.out.size)⟩
            have h := own_mono hown6 HW.out.size
            have e2 : ln + (put cn).length = (headB N V.length ++ body V u ++ put cn).length := by rw [List.length_append, HLN.out]
            rw [e2] at h
            exact h
          have HE6 := Lib.hid hE6
          clear c0 c1 hown6 hb6 hE6 C1
          go_wp2_with fail
          go_loopw [6, 11] (fun bv iv wr => RRowLoop N V u W.heap.size W bv iv wr) (fun _ iv _ => P0 + cn - (intOf iv).toNat)
          case atStart => exact ⟨0, by rw [HP0.out]; go_num, by omega, by rw [HCN.out]; simpa [dl] using HE6.out⟩
          case round =>
            obtain ⟨t, rfl, ht, hE7⟩ := hrel
            rw [HCN.out] at ht hE7
            rw [HP0.out]
            obtain ⟨a7, c7, rfl, -, -, -, -⟩ := own_slice hE7.1
            obtain ⟨l7, hl7⟩ : ∃ l7, (headB N V.length ++ body V u ++ put cn ++ dl u ((rowU V u).take t)).length = l7 := ⟨_, rfl⟩
            have hO7 : wr.ownsRow W.heap.size 5 1 (.slice a7 l7 c7) l7 (byts (headB N V.length ++ body V u ++ put cn ++ dl u ((rowU V u).take t))) := by rw [← hl7]; exact hE7.1
            rw [hl7]
            obtain ⟨c0, c1, hR7⟩ := ctx.out wr hE7.2
            have t0 : ((P0 + t : Nat) : Int) = (P0 : Int) + t := by omega
            rw [t0]
            clear t0
            have HL7 := Lib.hid hl7
            have HO7 := Lib.hid hO7
            have HW7 := Lib.hid hE7.2
            have HR7 := Lib.hid hR7
            clear hl7 hO7 hE7 hR7
            have t1 : IntKind.i64.wrap ((P0 : Int) + cn) = (P0 : Int) + cn := by rw [IntKind.wrap_i64]; omega
            by_cases hij : t < cn
            · obtain ⟨hx, L, xn, f1, f2, f3, f4, f5, f6, f7⟩ := row_step FN.out HP0.out HCN.out hij
              obtain ⟨b2, o2, rfl, e1, e2, _⟩ := HR7.out (P0 + t) hx
              have hbl7 : l7 ≤ 1000000000000 := by
                have h1 := dl_take_len FN.out u t (by omega) (by rw [rowU_length, HCN.out]; omega)
                have h2 := put_len10 cn (by omega)
                have h3 := HLN.out
                have h4 := HL7.out
                rw [HCN.out] at h1
                rw [List.length_append, List.length_append, h3] at h4
                omega
              have F5 := Lib.hid f5
              have C7 := Lib.hid (ref_put _ xn a7 l7 c7 wr (Row.of_own HO7.out).1 HL7.out (by omega) (by omega))
              have hxw : IntKind.u64.wrap (xn : Int) = (xn : Int) := by simp [IntKind.wrap, IntKind.bits, IntKind.signed]; omega
              have r2 : (0 : Int) ≤ (P0 : Int) + t := by omega
              have r3 : (P0 : Int) + t < l.length := by omega
              have r4 : ((P0 : Int) + t).toNat = P0 + t := by omega
              have hfin : ∀ v8 w8, w8.ownsRow wr.heap.size 5 1 v8 (l7 + (put xn).length) (byts (headB N V.length ++ body V u ++ put cn ++ dl u ((rowU V u).take t) ++ put xn)) → Below wr.heap.size wr w8 → RRowLoop N V u W.heap.size W v8 (.int .i64 ((P0 : Int) + t + 1)) w8 := fun v8 w8 h1 h2 => by
                refine ⟨t + 1, by rw [HP0.out]; go_num, by rw [HCN.out]; omega, ?_⟩
                rw [HCN.out, F5.out, ← List.append_assoc]
                refine ⟨?_, HW7.out.trans (h2.mono HW7.out.size)⟩
                have e3 : (headB N V.length ++ body V u ++ put cn ++ dl u ((rowU V u).take t) ++ put xn).length = l7 + (put xn).length := by rw [List.length_append (bs := put xn), HL7.out]
                rw [e3]
                exact own_mono h1 HW7.out.size
              have HFIN := Lib.hid hfin
              have f8 : IntKind.i64.wrap (V[P0 + t].2 - L) = (xn : Int) := by rw [f1, IntKind.wrap_i64]; omega
              by_cases h0 : t = 0
              · have hL := f6 h0
                subst hL
                subst h0
                generalize V[P0 + 0] = pe at *
                obtain ⟨ex, ey⟩ := pe
                simp only at e2 f8
                rw [show P0 + 0 = P0 by omega] at e2
                have g1 : ¬ (P0 : Int) < (P0 : Int) + ((0 : Nat) : Int) := by omega
                clear f1 f2 f3 f4 f5 f6 f7 e1 hfin hx
                rw [show ((0 : Nat) : Int) = 0 from rfl, Int.add_zero] at *
                go_wp2_with fail
                refine C7.out.mono ?_
                rintro e w8 ⟨v8, rfl, hown8, hb8⟩
                have HF8 := Lib.hid (HFIN.out v8 w8 hown8 hb8)
                clear hown8 hb8
                go_wp2_with fail
                go_roundw
                case rel => simpa using HF8.out
                case measure => simp [intOf]; omega
              · obtain ⟨t', rfl⟩ : ∃ t', t = t' + 1 := ⟨t - 1, by omega⟩
                obtain ⟨hx2, hL⟩ := f7 t' rfl
                obtain ⟨b3, o3, heq, e3, e4, _⟩ := HR7.out (P0 + t') hx2
                cases heq
                rw [hL] at e4
                generalize V[P0 + (t' + 1)] = pe at *
                obtain ⟨ex, ey⟩ := pe
                simp only at e2 f8
                have g1 : (P0 : Int) < (P0 : Int) + ((t' + 1 : Nat) : Int) := by omega
                have g0 : ((t' + 1 : Nat) : Int) = (t' : Int) + 1 := by omega
                have g2 : IntKind.i64.wrap ((P0 : Int) + ((t' : Int) + 1) - 1) = (P0 : Int) + t' := by rw [IntKind.wrap_i64]; omega
                have g3 : (0 : Int) ≤ (P0 : Int) + t' := by omega
                have g4 : (P0 : Int) + t' < l.length := by omega
                have g5 : ((P0 : Int) + t').toNat = P0 + t' := by omega
                clear f1 f2 f3 f4 f5 f6 f7 e1 hfin e3 hx hx2 hL
                rw [g0] at *
                clear g0
                go_wp2_with fail
                refine C7.out.mono ?_
                rintro e w8 ⟨v8, rfl, hown8, hb8⟩
                have HF8 := Lib.hid (HFIN.out v8 w8 hown8 hb8)
                clear hown8 hb8
                go_wp2_with fail
                go_roundw
                case rel => simpa using HF8.out
                case measure => simp [intOf]; omega
            · obtain rfl : t = cn := by omega
              have hrw : (rowU V u).take t = rowU V u := List.take_of_length_le (by rw [rowU_length, HCN.out]; exact Nat.le_refl _)
              have HRW := Lib.hid hrw
              have HU1 := Lib.hid (show ((u + 1 : Nat) : Int) = (u : Int) + 1 by omega)
              clear hrw
              go_wp2_with fail
              go_roundw
              case rel =>
                refine ⟨u + 1, by go_num, by rw [HU1.out, HP1.out]; go_num, by omega, ?_⟩
                rw [body_succ, encU, HCN.out, ← List.append_assoc, ← List.append_assoc, ← HRW.out]
                exact ⟨by rw [HL7.out]; exact HO7.out, HW7.out⟩
              case measure => simp [intOf]; omega
    · have hun : N = u := by have := HU.out; omega
      subst hun
      have hrow := (Row.of_own HO.out).1
      have HROW := Lib.hid hrow
      have HWW := Lib.hid (H2.out.trans (HW.out.mono H2.out.size))
      clear hrow
      go_wp2_with fail
      go_ret2
      exact ⟨_, _, _, rfl, HROW.out, HLN.out, HWW.out⟩

end Go.Proofs.Ytlepmefknglkeaa.Gr
