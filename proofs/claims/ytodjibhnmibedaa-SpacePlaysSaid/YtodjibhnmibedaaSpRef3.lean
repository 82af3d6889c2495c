/- The reference's Extents. -/
import Derived.Test.YtodjibhnmibedaaSpRef2
import Derived.Test.YtodjibhnmibedaaSpApartW
set_option linter.unusedVariables false
namespace Go.Proofs.Ytodjibhnmibedaa.Sp
open Go.RowKit

theorem el_rext : Elem Try.prog 72 96 2 16 := elem_of (z := .agg #[.int .i64 0, .int .i64 0]) Try.underlying72 (by kernel_rfl) rfl (by omega)

/-- The free extents of the first k blocks. -/
structure REx (T : List Bool) (F k : Nat) (E : List Ext) : Prop where
  apart : E.Pairwise fun x y => x.1 + x.2 < y.1
  ok : ∀ e ∈ E, 1 ≤ e.2 ∧ F ≤ e.1 ∧ e.1 + e.2 ≤ F + k
  fr : ∀ b, Fr E b ↔ F ≤ b ∧ b < F + k ∧ T.getD (b - F) false = false
theorem REx.len {T : List Bool} {F k : Nat} {E : List Ext} (h : REx T F k E) : E.length ≤ k := by
  have := (inv_len E F (F + k) h.apart h.ok).1
  omega
theorem REx.zero (T : List Bool) (F : Nat) : REx T F 0 [] := ⟨List.Pairwise.nil, (fun e he => nomatch he), fun b => ⟨fun h => absurd h (Fr_nil b), fun h => by omega⟩⟩
theorem REx.skip {T : List Bool} {F k : Nat} {E : List Ext} (h : REx T F k E) (ht : T.getD k false = true) : REx T F (k + 1) E := by
  refine ⟨h.apart, fun e he => by have := h.ok e he; omega, fun b => ?_⟩
  rw [h.fr]
  constructor
  · rintro ⟨h1, h2, h3⟩; exact ⟨h1, by omega, h3⟩
  · rintro ⟨h1, h2, h3⟩
    refine ⟨h1, ?_, h3⟩
    rcases Nat.lt_or_ge b (F + k) with h4 | h4
    · exact h4
    · obtain rfl : b = F + k := by omega
      rw [show F + k - F = k from by omega, ht] at h3
      cases h3
theorem Fr_one (e : Ext) (b : Nat) : Fr [e] b ↔ In e b := by
  rw [Fr_cons]
  exact ⟨fun h => h.elim id (fun h => absurd h (Fr_nil b)), .inl⟩
theorem REx.push {T : List Bool} {F k : Nat} {E : List Ext} (h : REx T F k E) (ht : T.getD k false = false) (hn : ∀ (hl : 0 < E.length), E[E.length - 1].1 + E[E.length - 1].2 ≠ F + k) : REx T F (k + 1) (E ++ [(F + k, 1)]) := by
  refine ⟨List.pairwise_append.2 ⟨h.apart, List.pairwise_singleton _ _, fun x hx y hy => ?_⟩, fun e he => ?_, fun b => ?_⟩
  · rw [List.mem_singleton.1 hy]
    have hxo := h.ok x hx
    simp only
    obtain ⟨j, hj, rfl⟩ := List.getElem_of_mem hx
    have h1 := hn (by omega)
    rcases Nat.lt_or_ge j (E.length - 1) with hlt | hge
    · have h2 := (List.pairwise_iff_getElem.1 h.apart) j (E.length - 1) hj (by omega) hlt
      have h3 := h.ok E[E.length - 1] (List.getElem_mem _)
      omega
    · obtain rfl : j = E.length - 1 := by omega
      omega
  · rcases List.mem_append.1 he with he | he
    · have := h.ok e he; omega
    · rw [List.mem_singleton.1 he]; simp only; omega
  · rw [Fr_append, Fr_one, h.fr]
    unfold In
    simp only
    constructor
    · rintro (⟨h1, h2, h3⟩ | ⟨h1, h2⟩)
      · exact ⟨h1, by omega, h3⟩
      · obtain rfl : b = F + k := by omega
        exact ⟨by omega, by omega, by rw [show F + k - F = k from by omega]; exact ht⟩
    · rintro ⟨h1, h2, h3⟩
      rcases Nat.lt_or_ge b (F + k) with h4 | h4
      · exact .inl ⟨h1, h4, h3⟩
      · exact .inr ⟨by omega, by omega⟩
theorem REx.grow {T : List Bool} {F k : Nat} {H : List Ext} {x y : Nat} (h : REx T F k (H ++ [(x, y)])) (ht : T.getD k false = false) (he : x + y = F + k) : REx T F (k + 1) (H ++ [(x, y + 1)]) := by
  obtain ⟨a1, a2, a3⟩ := List.pairwise_append.1 h.apart
  have hxy := h.ok (x, y) (by simp)
  refine ⟨List.pairwise_append.2 ⟨a1, List.pairwise_singleton _ _, fun u hu v hv => ?_⟩, fun e he' => ?_, fun b => ?_⟩
  · rw [List.mem_singleton.1 hv]
    exact a3 u hu (x, y) (List.mem_singleton.2 rfl)
  · rcases List.mem_append.1 he' with he' | he'
    · have := h.ok e (List.mem_append_left _ he'); omega
    · rw [List.mem_singleton.1 he']; simp only at hxy ⊢; omega
  · have hfr := h.fr b
    rw [Fr_append, Fr_one] at hfr
    rw [Fr_append, Fr_one]
    have h1 : In (x, y + 1) b ↔ In (x, y) b ∨ b = F + k := by unfold In; simp only; simp only at hxy; omega
    rw [h1, ← or_assoc, hfr]
    constructor
    · rintro (⟨h1, h2, h3⟩ | rfl)
      · exact ⟨h1, by omega, h3⟩
      · exact ⟨by omega, by omega, by rw [show F + k - F = k from by omega]; exact ht⟩
    · rintro ⟨h1, h2, h3⟩
      rcases Nat.lt_or_ge b (F + k) with h4 | h4
      · exact .inl ⟨h1, h4, h3⟩
      · exact .inr (by omega)

theorem own2 {w : World} {base n : Nat} {t : TypeId} {v : Value} {L : List Ext} (h : w.ownsRow base t 2 v n (flatX L)) :
    L.length = n ∧ ((v = .slice none 0 0 ∧ L = []) ∨ ∃ g cap, v = .slice (some ⟨g, 0, none⟩) n cap ∧ base ≤ g ∧ g < w.heap.size ∧ n ≤ cap ∧ cap ≤ maxLen) := by
  have hl : L.length = n := by have := h.1; rw [flatX_length] at this; omega
  refine ⟨hl, ?_⟩
  rcases h.2 with ⟨rfl, h0⟩ | ⟨g, cap, cur, rfl, hb, hh, h1, h2, h3, h4⟩
  · subst h0
    exact .inl ⟨rfl, List.eq_nil_of_length_eq_zero hl⟩
  · exact .inr ⟨g, cap, rfl, hb, Blk.lt (t := t) (cs := cur) hh, h1, h2⟩
theorem rext_cells {w : World} {base n c : Nat} {t : TypeId} {a : Option Addr} {L : List Ext} (h : w.ownsRow base t 2 (.slice a n c) n (flatX L)) {k : Nat} (hk : k < L.length) :
    ∃ g, a = some ⟨g, 0, none⟩ ∧ w.cell? ⟨g, k * 2, none⟩ = some (.int .i64 (L[k].1 : Int)) ∧ w.cell? ⟨g, k * 2 + 1, none⟩ = some (.int .i64 (L[k].2 : Int)) ∧ w.frozen? ⟨g, k * 2 + 1, none⟩ = false := by
  obtain ⟨hl, hv⟩ := own2 h
  rcases hv with ⟨_, h0⟩ | ⟨g, cap, hv, _⟩
  · subst h0; simp at hk
  · injection hv with h1 h2 h3
    subst h1
    obtain ⟨e1, e2⟩ := flatX_get L k hk
    exact ⟨g, rfl, by rw [h.cellAt (k * 2) (by omega), e1], by rw [h.cellAt (k * 2 + 1) (by omega), e2], h.frozenAt _⟩

def REL (w : World) (F : Nat) (T : List Bool) (ov kv : Value) (wr : World) : Prop :=
  ∃ (k : Nat) (E : List Ext) (a : Option Addr) (c : Nat), kv = .int .i64 (k : Int) ∧ k ≤ T.length ∧ ov = .slice a E.length c ∧ wr.ownsRow w.heap.size 96 2 (.slice a E.length c) E.length (flatX E) ∧ Below w.heap.size w wr ∧ REx T F k E
def RExtTold (T : List Bool) (F : Nat) (w : World) (e : Ending) (w' : World) : Prop := ∃ a c E, e = .returned (.slice a (E : List Ext).length c) ∧ w'.ownsRow w.heap.size 96 2 (.slice a E.length c) E.length (flatX E) ∧ Below w.heap.size w w' ∧ REx T F T.length E

theorem RfAt.below {w w' : World} {q tb F : Nat} {T : List Bool} (h : RfAt w q tb F T) (hb : Below w.heap.size w w') : RfAt w' q tb F T := ⟨h.blk.below hb h.blk.lt, h.row.below hb h.row.lt, h.F_le, h.T_le⟩

set_option maxRecDepth 100000 in
set_option maxHeartbeats 2000000 in
theorem rextents_any (q tb F : Nat) (T : List Bool) (w : World) (h : RfAt w q tb F T) :
    Calls Try.prog 40 #[.pointer (some ⟨q, 0, none⟩)] w (RExtTold T F w) := by
  have HX := Lib.hid h
  have hF := h.F_le
  have hT := h.T_le
  clear h
  go_enter Try.func40, Try.ntmps40
  go_wp2_with fail
  go_loopw [3, 4] (fun ov kv wr => REL w F T ov kv wr) (fun _ kv _ => T.length - (intOf kv).toNat)
  case atStart => exact ⟨0, [], none, 0, rfl, by omega, rfl, World.ownsRow_nil _ _ _ _, Below.refl _ _, REx.zero T F⟩
  case round =>
    obtain ⟨k, E, a, c, rfl, hk, rfl, ho, hb, hE⟩ := hrel
    have HO := Lib.hid ho
    have HB := Lib.hid hb
    have HE := Lib.hid hE
    have hel := hE.len
    have hX := HX.out.below hb
    have c0 : wr.cell? ⟨q, 0, none⟩ = some (.int .i64 (F : Int)) := hX.blk.cell 0
    have c1 : wr.cell? ⟨q, 1, none⟩ = some (.slice (some ⟨tb, 0, none⟩) T.length T.length) := hX.blk.cell 1
    have hsz := hb.size
    clear hb ho hE
    by_cases hlt : (k : Int) < (T.length : Int)
    · have hkl : k < T.length := by omega
      have hk0 : (0 : Int) ≤ (k : Int) := by omega
      have c2 : wr.cell? ⟨tb, k, none⟩ = some (.bool (T.getD k false)) := by rw [hX.row.cell, bools_get _ hkl]
      have x1 : IntKind.i64.wrap ((F : Int) + (k : Int)) = (F : Int) + (k : Int) := by rw [IntKind.wrap_i64]; omega
      clear hX
      cases hb : T.getD k false
      · have HT := Lib.hid hb
        rw [hb] at c2
        clear hb
        by_cases hl0 : 0 < E.length
        · have hlk : E.length - 1 < E.length := by omega
          obtain ⟨g, rfl, e1, e2, e3⟩ := rext_cells HO.out hlk
          obtain ⟨x, hx⟩ : ∃ x, x = E[E.length - 1].1 := ⟨_, rfl⟩
          obtain ⟨y, hy⟩ : ∃ y, y = E[E.length - 1].2 := ⟨_, rfl⟩
          have hok := HE.out.ok E[E.length - 1] (List.getElem_mem _)
          rw [← hx, ← hy] at hok
          rw [← hx] at e1
          rw [← hy] at e2
          have HXX := Lib.hid hx
          have HYY := Lib.hid hy
          have x2 : IntKind.i64.wrap ((x : Int) + (y : Int)) = (x : Int) + (y : Int) := by rw [IntKind.wrap_i64]; omega
          have x3 : IntKind.i64.wrap ((E.length : Int) - 1) = (E.length : Int) - 1 := by rw [IntKind.wrap_i64]; omega
          have x4 : ((E.length : Int) - 1).toNat = E.length - 1 := by omega
          have x5 : (0 : Int) ≤ (E.length : Int) - 1 := by omega
          have x6 : (E.length : Int) - 1 < (E.length : Int) := by omega
          have x7 : (1 : Int) ≤ (E.length : Int) := by omega
          have x8 : (0 : Int) < (E.length : Int) := by omega
          have x9 : IntKind.i64.wrap ((y : Int) + 1) = (y : Int) + 1 := by rw [IntKind.wrap_i64]; omega
          clear hx hy
          by_cases heq : x + y = F + k
          · have hq1 : ((x : Int) + (y : Int) == (F : Int) + (k : Int)) = true := by rw [beq_iff_eq]; omega
            have HEQ := Lib.hid heq
            clear heq
            go_wp2_with fail
            go_quiet (fail)
            have HO2 := Lib.hid (own_chg HO.out ((Chg.refl (fun _ => False) wr).drewN nq) (fun _ _ h => h))
            have HB2 := Lib.hid (HB.out.trans (below_dn w.heap.size wr nq))
            clear e1 e2 e3 HO HB c0 c1 c2
            generalize wr.drewN nq = wr1 at *
            obtain ⟨g', hg', e1, e2, e3⟩ := rext_cells HO2.out hlk
            injection hg' with hg'
            injection hg' with hg'
            subst hg'
            rw [← HXX.out] at e1
            rw [← HYY.out] at e2
            have HN : Hid (∃ H, E = H ++ [(x, y)] ∧ H.length = E.length - 1) := Lib.hid ⟨E.dropLast, by
              have h1 := (List.dropLast_concat_getLast (l := E) (by intro e; rw [e] at hl0; simp at hl0)).symm
              have h2 : E.getLast (by intro e; rw [e] at hl0; simp at hl0) = (x, y) := by rw [List.getLast_eq_getElem, HXX.out, HYY.out]
              rw [h2] at h1
              exact h1, by simp⟩
            go_wp2_with fail
            obtain ⟨H, hH, hHl⟩ := HN.out
            have hst := (HO2.out.stored ((E.length - 1) * 2 + 1) (.int .i64 ((y : Int) + 1)))
            have hgb : w.heap.size ≤ g := (HO2.out.lt g rfl).1
            have hfl : (flatX E).set ((E.length - 1) * 2 + 1) (.int .i64 ((y : Int) + 1)) = flatX (H ++ [(x, y + 1)]) := by
              rw [← hHl, hH, flatX_append, flatX_append, List.set_append_right _ _ (by rw [flatX_length]; omega), flatX_length, show H.length * 2 + 1 - H.length * 2 = 1 from by omega]
              rfl
            have hln : (H ++ [(x, y + 1)]).length = E.length := by rw [hH]; simp
            have HO3 := Lib.hid hst.1
            have HFL := Lib.hid hfl
            have HLN := Lib.hid hln
            have hE2 := HE.out
            rw [hH] at hE2
            have HG := Lib.hid (hE2.grow HT.out HEQ.out)
            have HB3 := Lib.hid (HB2.out.setCell (p := ⟨g, (E.length - 1) * 2 + 1, none⟩) hgb (.int .i64 ((y : Int) + 1)))
            clear hst hfl hln hE2 hH hHl HN HO2 HB2 e1 e2 e3 hgb
            go_roundw
            case rel => exact ⟨k + 1, H ++ [(x, y + 1)], _, c, by go_num, by omega, by rw [HLN.out], by rw [HLN.out, ← HFL.out]; exact HO3.out, HB3.out, HG.out⟩
            case measure => simp [intOf]; omega
          · have hq1 : ((x : Int) + (y : Int) == (F : Int) + (k : Int)) = false := by rw [beq_eq_false_iff_ne]; omega
            have HEQ := Lib.hid heq
            clear heq
            go_wp2_with fail
            go_quiet (fail)
            have HO2 := Lib.hid (own_chg HO.out ((Chg.refl (fun _ => False) wr).drewN nq) (fun _ _ h => h))
            have HB2 := Lib.hid (HB.out.trans (below_dn w.heap.size wr nq))
            have hX := HX.out.below HB2.out
            have HPU := Lib.hid (HE.out.push HT.out (fun _ => by rw [← HXX.out, ← HYY.out]; exact HEQ.out))
            have hsz2 := HB2.out.size
            clear e1 e2 e3 HO HB c0 c1 c2
            generalize wr.drewN nq = wr1 at *
            have c0 : wr1.cell? ⟨q, 0, none⟩ = some (.int .i64 (F : Int)) := hX.blk.cell 0
            have e9 := Row.new wr1 #[.int .i64 ((F : Int) + (k : Int)), .int .i64 1] 96 (0, 0)
            have e7 : (#[Value.int .i64 ((F : Int) + (k : Int)), .int .i64 1]).toList = flatX [(F + k, 1)] := rfl
            rw [e7] at e9
            have HRW := Lib.hid e9
            have HO4 := Lib.hid (HO2.out.alloc (.cells #[.int .i64 ((F : Int) + (k : Int)), .int .i64 1] 96))
            have HB4 := Lib.hid (HB2.out.alloc hsz2 (.cells #[.int .i64 ((F : Int) + (k : Int)), .int .i64 1] 96))
            clear e7 e9 HO2 HB2 hX
            go_wp2_with (at_builtin; go_must (refine wpList_append rfl (.tmp 57) (.tmp 65) _ rfl el_rext w.heap.size _ _ _ rfl HO4.out _ 1 1 (flatX [(F + k, 1)]) rfl rfl HRW.out (flatX_one _) (by unfold maxLen; first | omega | simp) (by first | omega | simp) (by first | omega | (simp; omega)) ?_))
            intro v7 w7 hown7 hg7 hv7 hb7
            rw [← flatX_append] at hown7
            obtain ⟨hl7, hv⟩ := own2 hown7
            obtain ⟨a7, c7, rfl⟩ : ∃ a7 c7, v7 = .slice a7 (E.length + 1) c7 := by
              rcases hv with ⟨rfl, h0⟩ | ⟨g7, cap7, rfl, _⟩
              · simp at h0
              · exact ⟨_, _, rfl⟩
            have HO7 := Lib.hid hown7
            have HB7 := Lib.hid (HB4.out.trans hb7)
            have HL7 := Lib.hid hl7
            clear hown7 hg7 hv7 hb7 hl7 hv HO4 HB4 HRW
            go_wp2_with fail
            go_roundw
            case rel => exact ⟨k + 1, _, a7, c7, by go_num, by omega, (by rw [HL7.out]; try rfl), by rw [HL7.out]; exact HO7.out, HB7.out, HPU.out⟩
            case measure => simp [intOf]; omega
        · obtain rfl : E = [] := List.eq_nil_of_length_eq_zero (by omega)
          go_wp2_with fail
          go_quiet (fail)
          have HO2 := Lib.hid (own_chg HO.out ((Chg.refl (fun _ => False) wr).drewN nq) (fun _ _ h => h))
          have HB2 := Lib.hid (HB.out.trans (below_dn w.heap.size wr nq))
          have hX := HX.out.below HB2.out
          have HPU := Lib.hid (HE.out.push HT.out (fun h => absurd h (by simp)))
          have hsz2 := HB2.out.size
          clear HO HB c0 c1 c2
          generalize wr.drewN nq = wr1 at *
          have c0 : wr1.cell? ⟨q, 0, none⟩ = some (.int .i64 (F : Int)) := hX.blk.cell 0
          have e9 := Row.new wr1 #[.int .i64 ((F : Int) + (k : Int)), .int .i64 1] 96 (0, 0)
          have e7 : (#[Value.int .i64 ((F : Int) + (k : Int)), .int .i64 1]).toList = flatX [(F + k, 1)] := rfl
          rw [e7] at e9
          have HRW := Lib.hid e9
          have HO4 := Lib.hid (HO2.out.alloc (.cells #[.int .i64 ((F : Int) + (k : Int)), .int .i64 1] 96))
          have HB4 := Lib.hid (HB2.out.alloc hsz2 (.cells #[.int .i64 ((F : Int) + (k : Int)), .int .i64 1] 96))
          clear e7 e9 HO2 HB2 hX
          go_wp2_with (at_builtin; go_must (refine wpList_append rfl (.tmp 57) (.tmp 65) _ rfl el_rext w.heap.size _ _ _ rfl HO4.out _ 1 1 (flatX [(F + k, 1)]) rfl rfl HRW.out (flatX_one _) (by unfold maxLen; first | omega | simp) (by first | omega | simp) (by first | omega | (simp; omega)) ?_))
          intro v7 w7 hown7 hg7 hv7 hb7
          rw [← flatX_append] at hown7
          obtain ⟨hl7, hv⟩ := own2 hown7
          obtain ⟨a7, c7, rfl⟩ : ∃ a7 c7, v7 = .slice a7 (([] : List Ext).length + 1) c7 := by
            rcases hv with ⟨rfl, h0⟩ | ⟨g7, cap7, rfl, _⟩
            · simp at h0
            · exact ⟨_, _, rfl⟩
          have HO7 := Lib.hid hown7
          have HB7 := Lib.hid (HB4.out.trans hb7)
          have HL7 := Lib.hid hl7
          clear hown7 hg7 hv7 hb7 hl7 hv HO4 HB4 HRW
          go_wp2_with fail
          go_roundw
          case rel => exact ⟨k + 1, _, a7, c7, by go_num, by omega, (by rw [HL7.out]; try rfl), by rw [HL7.out]; exact HO7.out, HB7.out, HPU.out⟩
          case measure => simp [intOf]; omega
      · have HT := Lib.hid (HE.out.skip hb)
        rw [hb] at c2
        clear hb
        go_wp2_with fail
        go_roundw
        case rel => exact ⟨k + 1, E, a, c, by go_num, by omega, rfl, HO.out, HB.out, HT.out⟩
        case measure => simp [intOf]; omega
    · obtain rfl : k = T.length := by omega
      clear hX
      go_wp2_with fail
      go_ret
      exact ⟨a, c, E, rfl, HO.out, HB.out, HE.out⟩

end Go.Proofs.Ytodjibhnmibedaa.Sp
