/- The law SpaceLeast. -/
import Derived.Test.YtodjibhnmibedaaSpLaw
set_option linter.unusedVariables false
namespace Go.Proofs.Ytodjibhnmibedaa.Sp
open Go.RowKit

abbrev Op7 : Type := Int × Int × Int
def ORow (w : World) (a : Option Addr) (l : List Op7) : Prop :=
  ∀ i (hi : i < l.length), ∃ b off, a = some ⟨b, off, none⟩ ∧ w.cell? ⟨b, off + i * 3, none⟩ = some (.int .i64 l[i].1) ∧ w.cell? ⟨b, off + i * 3 + 1, none⟩ = some (.int .i64 l[i].2.1) ∧ w.cell? ⟨b, off + i * 3 + 2, none⟩ = some (.int .i64 l[i].2.2) ∧ b < w.heap.size
theorem ORow.below {w w' : World} {a : Option Addr} {l : List Op7} (h : ORow w a l) (hb : Below w.heap.size w w') : ORow w' a l := by
  intro i hi
  obtain ⟨b, off, e, h1, h2, h3, h4⟩ := h i hi
  exact ⟨b, off, e, by rw [hb.cell h4, h1], by rw [hb.cell h4, h2], by rw [hb.cell h4, h3], Nat.lt_of_lt_of_le h4 hb.size⟩
theorem orow_of {w : World} {a : Option Addr} {n c : Nat} {l : List Op7} (h : rdSlice 3 (rdPair 1 2 (rdInt .i64) (rdPair 1 1 (rdInt .i64) (rdInt .i64))) w [.slice a n c] l) : ORow w a l ∧ l.length = n ∧ n ≤ 9223372036854775807 := by
  obtain ⟨a', n', c', e, hl, hn, hc, h0, hr⟩ := h
  simp only [List.cons.injEq, Value.slice.injEq, and_true] at e
  obtain ⟨rfl, rfl, rfl⟩ := e
  have key : ∀ i (hi : i < l.length), ∃ x, a = some x ∧ w.cell? (x.add (i * 3)) = some (.int .i64 l[i].1) ∧ w.cell? ((x.add (i * 3)).add 1) = some (.int .i64 l[i].2.1) ∧ w.cell? ((x.add (i * 3)).add 2) = some (.int .i64 l[i].2.2) := by
    intro i hi
    obtain ⟨x, es, hx, hes, hj, e1, ⟨e2, w2⟩, e3, ⟨e4, w4⟩, e5, w5⟩ := hr i hi
    refine ⟨x, hx, ?_⟩
    match es, hes with
    | [c0, c1, c2], _ =>
      simp at e2 e4 e5
      have j0 := hj 0 (by omega)
      have j1 := hj 1 (by omega)
      have j2 := hj 2 (by omega)
      rw [show ((x.add (i * 3)).add 0) = x.add (i * 3) from by simp [Addr.add]] at j0
      rw [j0, j1, j2, ← e2, ← e4, ← e5]
      exact ⟨rfl, rfl, rfl⟩
  refine ⟨fun i hi => ?_, hl, by unfold maxLen at hc; omega⟩
  obtain ⟨x, rfl, h1, h2, h3⟩ := key i hi
  obtain ⟨x', hx', h0', _, _⟩ := key 0 (by omega)
  injection hx' with hx'
  subst hx'
  obtain ⟨b, off, spot⟩ := x
  rw [show (⟨b, off, spot⟩ : Addr).add (0 * 3) = ⟨b, off, spot⟩ from by simp [Addr.add]] at h0'
  have hs := (cell_lt h0').2
  simp only at hs
  subst hs
  have hlt := (cell_lt h1).1
  rw [add_none] at h1 hlt
  rw [add_none, add_none] at h2 h3
  exact ⟨b, off, rfl, h1, h2, h3, hlt⟩

def ScrLoop (w : World) (s F B len : Nat) (iv : Value) (wr : World) : Prop := ∃ (i : Nat) (L : List Ext), iv = .int .i64 (i : Int) ∧ i ≤ len ∧ SpI w wr s F B L
def LstLoop (L : List Ext) (k : Nat) (w5 : World) (iv : Value) (wr : World) : Prop := ∃ i : Nat, iv = .int .i64 (i : Int) ∧ i ≤ L.length ∧ (∀ j (hj : j < L.length), j < i → L[j].2 < k) ∧ w5 = wr

theorem ext_cells {w : World} {base n c : Nat} {a : Option Addr} {L : List Ext} (h : w.ownsRow base 69 2 (.slice a n c) n (flatX L)) {k : Nat} (hk : k < L.length) :
    ∃ g, a = some ⟨g, 0, none⟩ ∧ w.cell? ⟨g, k * 2, none⟩ = some (.int .i64 (L[k].1 : Int)) ∧ w.cell? ⟨g, k * 2 + 1, none⟩ = some (.int .i64 (L[k].2 : Int)) := by
  obtain ⟨_, hv⟩ := XBlk.of_own h
  rcases hv with ⟨_, h0⟩ | ⟨g, cap, rest, hv, _, _, hX⟩
  · subst h0; simp at hk
  · injection hv with h1 h2 h3
    obtain ⟨e1, e2⟩ := flatX_get L k hk
    have hl : k * 2 + 1 < (flatX L).length := by rw [flatX_length]; omega
    refine ⟨g, h1, ?_, ?_⟩
    · rw [hX.blk.cell, List.getElem?_toArray, List.getElem?_append_left (by omega), e1]
    · rw [hX.blk.cell, List.getElem?_toArray, List.getElem?_append_left (by omega), e2]

/-- Take, of a space of which a list was told just ahead: the list stays. -/
def LeastTold (w0 wr : World) (a : Option Addr) (n c : Nat) (L : List Ext) (R : Int → Int → List Ext → Prop) (e : Ending) (w5 : World) : Prop :=
  ∃ r er L', e = .returned (.tuple #[.int .i64 r, .int .i64 er]) ∧ Below w0.heap.size w0 w5 ∧ w5.ownsRow wr.heap.size 69 2 (.slice a n c) n (flatX L) ∧ R r er L'
theorem least_take {w0 wr w3 : World} {s F B n c : Nat} {a : Option Addr} {v : Value} {L : List Ext} (q1 : SpAt wr s F B v L w0.heap.size) (q2 : w0.heap.size ≤ s) (hI : Inv F B L) (q4 : Below w0.heap.size w0 wr) (hb3 : Below wr.heap.size wr w3)
    (ho : w3.ownsRow wr.heap.size 69 2 (.slice a n c) n (flatX L)) (hB : B ≤ 900000) (k : Int) :
    Calls Try.prog 30 #[.pointer (some ⟨s, 0, none⟩), .int .i64 k] w3 (LeastTold w0 wr a n c L (TakeRel L F B k)) := by
  have hl := hI.len
  have hb4 := q4.trans (hb3.mono q4.size)
  refine (take_any s F B v L w0.heap.size k w3 (q1.below hb3) hI.asc (by omega) hb4.size).mono ?_
  rintro e w' ⟨r, er, v', L', rfl, hr, hs, hc, _⟩
  refine ⟨r, er, L', rfl, act_frame (q1.below hb3) q2 hb4 hc, own_chg ho hc (fun q hq e => ?_), hr⟩
  have h1 := (ho.lt q hq).1
  rcases e with e | e
  · have := q1.blk.lt; omega
  · have := (q1.own.lt q e.symm).2; omega

set_option maxRecDepth 100000 in
set_option maxHeartbeats 2000000 in
theorem SpaceLeast_walk {w : World} (a : Option Addr) (n c : Nat) (l : List Op7) (hr : ORow w a l) (hl : l.length = n) (hn : n ≤ 9223372036854775807) (x : Nat) (hx : x < 256) :
    Calls Try.prog 11 #[.slice a n c, .int .u8 (x : Int)] w (Told w true) := by
  by_cases hbig : (80 : Int) < n
  · clear hr hl
    go_enter Try.func11, Try.ntmps11
    go_wp2_with fail
    refine (awake7_any w).mono ?_
    rintro e w1 ⟨rfl, hb1⟩
    go_wp2_with fail
    refine (awake7_any w1).mono ?_
    rintro e w2 ⟨rfl, hb2⟩
    go_wp2_with fail
    go_ret
    exact ⟨rfl, hb1.trans (hb2.mono hb1.size)⟩
  · have HR := Lib.hid hr
    have HL := Lib.hid hl
    have hln : n ≤ l.length := by omega
    have hln2 : l.length ≤ n := by omega
    clear hr hl
    go_enter Try.func11, Try.ntmps11
    go_wp2_with fail
    refine (awake7_any w).mono ?_
    rintro e w1 ⟨rfl, hb1⟩
    have HN := Lib.hid (new_i hb1 0 200 (by omega) (by omega))
    clear hb1
    go_wp2_with fail
    refine HN.out.mono ?_
    rintro e w2 ⟨s, rfl, h2⟩
    have HS2 := Lib.hid h2
    clear h2 HN
    go_wp2_with fail
    go_loopw [6] (fun iv wr => ScrLoop w s 0 200 n iv wr) (fun iv _ => n - (intOf iv).toNat)
    case atStart => exact ⟨0, _, rfl, by omega, HS2.out⟩
    case round =>
      clear HS2
      obtain ⟨i, L, rfl, hi, hsp⟩ := hrel
      have HSP := Lib.hid hsp
      clear hsp
      have hfr := HSP.out.frame
      by_cases hlt : (i : Int) < n
      · have hil : i < l.length := by omega
        obtain ⟨b, off, rfl, c0, c1, c2, hbl⟩ := (HR.out.below hfr) i hil
        obtain ⟨kd, hkd⟩ : ∃ kd, kd = l[i].1 := ⟨_, rfl⟩
        obtain ⟨fi, hfi⟩ : ∃ fi, fi = l[i].2.1 := ⟨_, rfl⟩
        obtain ⟨nn, hnn⟩ : ∃ nn, nn = l[i].2.2 := ⟨_, rfl⟩
        rw [← hkd] at c0
        rw [← hfi] at c1
        rw [← hnn] at c2
        have hi0 : (0 : Int) ≤ (i : Int) := by omega
        clear hkd hfi hnn hfr
        by_cases k1 : kd = 1
        · have k1b : (kd == 1) = true := by simp [k1]
          have HT := Lib.hid (take_i HSP.out (by omega) nn)
          clear k1
          go_wp2_with fail
          refine HT.out.mono ?_
          rintro e w3 ⟨r, er, L', rfl, h3, -⟩
          have H3 := Lib.hid h3
          clear h3 HT
          go_wp2_with fail
          go_roundw
          case rel => exact ⟨i + 1, L', by go_num, by omega, H3.out⟩
          case measure => simp [intOf]; omega
        · have k1b : (kd == 1) = false := by simp [k1]
          by_cases k2 : kd = 2
          · have k2b : (kd == 2) = true := by simp [k2]
            have HT := Lib.hid (fun W (hb : Below wr.heap.size wr W) => give_i (HSP.out.below hb) (by omega) fi nn)
            clear k1 k2
            go_wp2_with fail
            go_region_with ((go_at_call 34; refine (HT.out _ (by first | exact Below.refl _ _ | exact (Below.refl _ _).drew)).mono ?_; rintro e w3 ⟨er, L', rfl, h3, -⟩))
            all_goals
              have H3 := Lib.hid h3
              clear h3 HT
              go_wp2_with fail
              go_roundw
              case rel => exact ⟨i + 1, L', by go_num, by omega, H3.out⟩
              case measure => simp [intOf]; omega
          · have k2b : (kd == 2) = false := by simp [k2]
            by_cases k3 : kd = 3
            · have k3b : (kd == 3) = true := by simp [k3]
              have HT := Lib.hid (fun W (hb : Below wr.heap.size wr W) => hold_i (HSP.out.below hb) (by omega) fi nn)
              clear k1 k2 k3
              go_wp2_with fail
              go_region_with ((go_at_call 29; refine (HT.out _ (by first | exact Below.refl _ _ | exact (Below.refl _ _).drew)).mono ?_; rintro e w3 ⟨er, L', rfl, h3, -⟩))
              all_goals
                have H3 := Lib.hid h3
                clear h3 HT
                go_wp2_with fail
                go_roundw
                case rel => exact ⟨i + 1, L', by go_num, by omega, H3.out⟩
                case measure => simp [intOf]; omega
            · have k3b : (kd == 3) = false := by simp [k3]
              clear k1 k2 k3
              go_wp2_with fail
              go_roundw
              case rel => exact ⟨i + 1, L, by go_num, by omega, HSP.out⟩
              case measure => simp [intOf]; omega
      · have hI := HSP.out.inv
        obtain ⟨kk, hkk, hk1⟩ : ∃ kk : Nat, (kk : Int) = 1 + (x : Int) % 30 ∧ 1 ≤ kk := ⟨1 + x % 30, by omega, by omega⟩
        have HKK := Lib.hid hkk
        have y1 : IntKind.i64.wrap ((x : Int) % 30) = (x : Int) % 30 := by rw [IntKind.wrap_i64]; omega
        obtain ⟨v, q1, q2, q3, q4⟩ := HSP.out
        have HE := Lib.hid (extents_any s 0 200 v L w.heap.size wr q1)
        have hll := hI.len
        have HI := Lib.hid hI
        have HB4 := Lib.hid q4
        clear q3 q4 hfr hkk hI
        go_wp2_with fail
        refine HE.out.mono ?_
        rintro e w3 ⟨a3, n3, c3, rfl, hown3, hb3⟩
        obtain ⟨hn3, -⟩ := XBlk.of_own hown3
        subst hn3
        have hll2 := hll.1
        have HO3 := Lib.hid hown3
        have HB3 := Lib.hid (HB4.out.trans (hb3.mono HB4.out.size))
        have HT := Lib.hid (least_take q1 q2 HI.out HB4.out hb3 hown3 (by omega) (kk : Int))
        rw [HKK.out] at HT
        clear hown3 hb3 HE HB4 q1 q2
        go_wp2_with fail
        refine HT.out.mono ?_
        rintro e w5 ⟨r, er, L', rfl, hb5, hown5, hrel⟩
        rw [← HKK.out] at hrel
        have hsp2 := (take_spec HI.out hrel).2
        have HO5 := Lib.hid hown5
        have HB5 := Lib.hid hb5
        clear hown5 hb5 hrel HT HO3
        rw [← HKK.out]
        rcases hsp2 with ⟨h, _⟩ | ⟨m, hm, hm1, hall, _, rfl, rfl, -⟩ | ⟨m, p, hm, rfl, rfl, hm1, _, _, _, _, _, t, ht, hk1', hk2', hpp⟩
        · omega
        · have hmk : m = kk := by omega
          subst hmk
          have HALL := Lib.hid hall
          clear hall hm HKK y1
          go_wp2_with fail
          go_loopw [11] (fun iv wr => LstLoop L m w5 iv wr) (fun iv _ => L.length - (intOf iv).toNat)
          case atStart => exact ⟨0, rfl, by omega, fun j _ hj => absurd hj (by omega), rfl⟩
          case round =>
            obtain ⟨j, rfl, hj, hlow, rfl⟩ := hrel
            have HLOW := Lib.hid hlow
            clear hlow
            by_cases hlt2 : (j : Int) < L.length
            · have hjl : j < L.length := by omega
              have hj0 : (0 : Int) ≤ (j : Int) := by omega
              obtain ⟨g, rfl, e1, e2⟩ := ext_cells HO5.out hjl
              obtain ⟨u, hu⟩ : ∃ u, u = L[j].1 := ⟨_, rfl⟩
              obtain ⟨z, hz⟩ : ∃ z, z = L[j].2 := ⟨_, rfl⟩
              rw [← hu] at e1
              rw [← hz] at e2
              have HU := Lib.hid hu
              have HZ := Lib.hid hz
              clear hu hz
              by_cases h9 : (m : Int) ≤ (z : Int)
              · exact absurd (HALL.out _ (List.getElem_mem hjl)) (by rw [← HZ.out]; omega)
              · have HNEXT : Hid (∀ t (ht : t < L.length), t < j + 1 → L[t].2 < m) := Lib.hid (fun t ht htj => by
                  rcases Nat.lt_succ_iff_lt_or_eq.1 htj with h | h
                  · exact HLOW.out t ht h
                  · subst h; rw [← HZ.out]; omega)
                go_wp2_with fail
                go_roundw
                case rel => exact ⟨j + 1, by go_num, by omega, HNEXT.out, rfl⟩
                case measure => simp [intOf]; omega
            · obtain rfl : j = L.length := by omega
              go_wp2_with fail
              go_ret
              exact ⟨rfl, HB5.out⟩
        · have hmk : m = kk := by omega
          subst hmk
          have HK1 := Lib.hid hk1'
          have HK2 := Lib.hid hk2'
          have HPP := Lib.hid hpp
          clear hk1' hk2' hpp hm HKK y1
          go_wp2_with fail
          go_loopw [11] (fun iv wr => LstLoop L m w5 iv wr) (fun iv _ => L.length - (intOf iv).toNat)
          case atStart => exact ⟨0, rfl, by omega, fun j _ hj => absurd hj (by omega), rfl⟩
          case round =>
            obtain ⟨j, rfl, hj, hlow, rfl⟩ := hrel
            have HLOW := Lib.hid hlow
            clear hlow
            by_cases hlt2 : (j : Int) < L.length
            · have hjl : j < L.length := by omega
              have hj0 : (0 : Int) ≤ (j : Int) := by omega
              obtain ⟨g, rfl, e1, e2⟩ := ext_cells HO5.out hjl
              obtain ⟨u, hu⟩ : ∃ u, u = L[j].1 := ⟨_, rfl⟩
              obtain ⟨z, hz⟩ : ∃ z, z = L[j].2 := ⟨_, rfl⟩
              rw [← hu] at e1
              rw [← hz] at e2
              have HU := Lib.hid hu
              have HZ := Lib.hid hz
              clear hu hz
              by_cases h9 : (m : Int) ≤ (z : Int)
              · have HUT : Hid ((u : Int) = (p : Int)) := Lib.hid (by
                  have htj : t = j := by
                    rcases Nat.lt_trichotomy t j with h | h | h
                    · have := HLOW.out t ht h; have := HK2.out; omega
                    · exact h
                    · have := HK1.out j hjl h; rw [← HZ.out] at this; omega
                  subst htj
                  rw [HU.out, HPP.out])
                have y2 : ((p : Int) == (u : Int)) = true := by rw [HUT.out]; simp
                go_wp2_with fail
                go_ret
                exact ⟨rfl, HB5.out⟩
              · have HNEXT : Hid (∀ t (ht : t < L.length), t < j + 1 → L[t].2 < m) := Lib.hid (fun t ht htj => by
                  rcases Nat.lt_succ_iff_lt_or_eq.1 htj with h | h
                  · exact HLOW.out t ht h
                  · subst h; rw [← HZ.out]; omega)
                go_wp2_with fail
                go_roundw
                case rel => exact ⟨j + 1, by go_num, by omega, HNEXT.out, rfl⟩
                case measure => simp [intOf]; omega
            · obtain rfl : j = L.length := by omega
              exact absurd (HLOW.out t ht ht) (by have := HK2.out; omega)

theorem SpaceLeast_law {w : World} (a : Option Addr) (n c : Nat) (l : List (Int × Int × Int)) (h : rdSlice 3 (rdPair 1 2 (rdInt .i64) (rdPair 1 1 (rdInt .i64) (rdInt .i64))) w [.slice a n c] l) (x : Int) (hx : (Lit.int .u8 x).wf = true) :
    Calls Try.prog 11 #[.slice a n c, .int .u8 x] w fun e w' => e = .returned (.bool true) ∧ Below w.heap.size w w' := by
  obtain ⟨h1, h2, h3⟩ := orow_of h
  have hb := u_bounds.2.2.1 hx
  obtain ⟨m, rfl⟩ := Int.eq_ofNat_of_zero_le hb.1
  exact SpaceLeast_walk a n c l h1 h2 h3 m (by omega)

end Go.Proofs.Ytodjibhnmibedaa.Sp
