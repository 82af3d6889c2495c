/- The law SpaceHeld. -/
import Derived.Test.YtodjibhnmibedaaSpHeldP
set_option linter.unusedVariables false
namespace Go.Proofs.Ytodjibhnmibedaa.Sp
open Go.RowKit

def PRow (w : World) (a : Option Addr) (l : List (List Int)) : Prop :=
  ∀ i, i < l.length → ∃ b off, ∃ x y : Nat, a = some ⟨b, off, none⟩ ∧ w.cell? ⟨b, off + i * 2, none⟩ = some (.int .u8 (x : Int)) ∧ w.cell? ⟨b, off + i * 2 + 1, none⟩ = some (.int .u8 (y : Int)) ∧ x < 256 ∧ y < 256 ∧ b < w.heap.size
theorem PRow.below {w w' : World} {a : Option Addr} {l : List (List Int)} (h : PRow w a l) (hb : Below w.heap.size w w') : PRow w' a l := by
  intro i hi
  obtain ⟨b, off, x, y, e, h1, h2, h3, h4, h5⟩ := h i hi
  exact ⟨b, off, x, y, e, by rw [hb.cell h5, h1], by rw [hb.cell h5, h2], h3, h4, Nat.lt_of_lt_of_le h5 hb.size⟩
theorem prow_of {w : World} {a : Option Addr} {n c : Nat} {l : List (List Int)} (h : rdSlice 2 (rdArr 2 1 (rdInt .u8)) w [.slice a n c] l) : PRow w a l ∧ l.length = n ∧ n ≤ 9223372036854775807 := by
  obtain ⟨a', n', c', e, hl, hn, hc, h0, hr⟩ := h
  simp only [List.cons.injEq, Value.slice.injEq, and_true] at e
  obtain ⟨rfl, rfl, rfl⟩ := e
  have key : ∀ i (hi : i < l.length), ∃ p, ∃ x y : Nat, a = some p ∧ w.cell? (p.add (i * 2)) = some (.int .u8 (x : Int)) ∧ w.cell? ((p.add (i * 2)).add 1) = some (.int .u8 (y : Int)) ∧ x < 256 ∧ y < 256 := by
    intro i hi
    obtain ⟨p, es, hp, hes, hj, hR⟩ := hr i hi
    have j0 := hj 0 (by omega)
    have j1 := hj 1 (by omega)
    rw [show ((p.add (i * 2)).add 0) = p.add (i * 2) from by simp [Addr.add]] at j0
    have hR' : rdArr 2 1 (rdInt .u8) w es.toArray.toList l[i] := by rw [List.toList_toArray]; exact hR
    obtain ⟨d, e, hd, wd, we, hcs⟩ := rdArr2_ints hR'
    have hes2 : es = [.int .u8 d, .int .u8 e] := by have := congrArg Array.toList hd; simpa using this
    have bd := u_bounds.2.2.1 wd
    have be := u_bounds.2.2.1 we
    obtain ⟨x, rfl⟩ := Int.eq_ofNat_of_zero_le bd.1
    obtain ⟨y, rfl⟩ := Int.eq_ofNat_of_zero_le be.1
    rw [hes2] at j0 j1
    exact ⟨p, x, y, hp, j0, j1, by omega, by omega⟩
  refine ⟨fun i hi => ?_, hl, by unfold maxLen at hc; omega⟩
  obtain ⟨p, x, y, rfl, h1, h2, h3, h4⟩ := key i hi
  obtain ⟨p', _, _, hp', h0', _⟩ := key 0 (by omega)
  injection hp' with hp'
  subst hp'
  obtain ⟨b, off, spot⟩ := p
  rw [show (⟨b, off, spot⟩ : Addr).add (0 * 2) = ⟨b, off, spot⟩ from by simp [Addr.add]] at h0'
  have hs := (cell_lt h0').2
  simp only at hs
  subst hs
  have hlt := (cell_lt h1).1
  rw [add_none] at h1 hlt
  rw [add_none, add_none] at h2
  exact ⟨b, off, x, y, rfl, h1, h2, h3, h4, hlt⟩

def HeldL (w : World) (s hb n : Nat) (cv iv : Value) (wr : World) : Prop := ∃ (i c : Nat) (L : List Ext) (cs : Array Value), cv = .int .i64 (c : Int) ∧ iv = .int .i64 (i : Int) ∧ i ≤ n ∧ SpM w wr s hb L cs ∧ HB cs (Taken L) ∧ sumX L + c = 200
def FreeL (L : List Ext) (fn m : Nat) (w1 : World) (fv bv : Value) (wr : World) : Prop :=
  ∃ (b : Nat) (f : Bool), fv = .bool f ∧ bv = .int .i64 (b : Int) ∧ fn ≤ b ∧ b ≤ fn + m ∧ w1 = wr ∧ (f = true → fn + m ≤ 203 ∧ ∀ j, fn ≤ j → j < b → ¬ Taken L j) ∧ (f = false → ¬ (fn + m ≤ 203 ∧ ∀ j, fn ≤ j → j < fn + m → ¬ Taken L j))
def MarkL (w : World) (s hb : Nat) (L L' : List Ext) (p m c : Nat) (cv bv : Value) (wr : World) : Prop :=
  ∃ (b : Nat) (cs : Array Value), cv = .int .i64 ((c + (b - p) : Nat) : Int) ∧ bv = .int .i64 (b : Int) ∧ p ≤ b ∧ b ≤ p + m ∧ SpM w wr s hb L' cs ∧ HB cs (fun j => Taken L j ∨ (p ≤ j ∧ j < b))
def TakeL (w : World) (s hb : Nat) (cv iv : Value) (wr : World) : Prop := ∃ (i c : Nat) (L : List Ext) (cs : Array Value), cv = .int .i64 (c : Int) ∧ iv = .int .i64 (i : Int) ∧ SpM w wr s hb L cs ∧ HB cs (Taken L) ∧ sumX L + c = 200 ∧ sumX L + i ≤ 200
def RunL (L : List Ext) (kk : Nat) (w1 : World) (rv bv : Value) (wr : World) : Prop := ∃ b r : Nat, rv = .int .i64 (r : Int) ∧ bv = .int .i64 (b : Int) ∧ 3 ≤ b ∧ b ≤ 203 ∧ r < kk ∧ 3 + r ≤ b ∧ w1 = wr ∧ ∀ j, b - r ≤ j → j < b → ¬ Taken L j
theorem whole_mark {w w2 : World} {s : Nat} (h : SpI w w2 s 3 200 (wholeL 3 200)) : SpM w (w2.alloc (.cells (Array.replicate 210 (.bool false)) 55)) s w2.heap.size (wholeL 3 200) (Array.replicate 210 (.bool false)) ∧ HB (Array.replicate 210 (.bool false)) (Taken (wholeL 3 200)) ∧ sumX (wholeL 3 200) + 0 = 200 := by
  refine ⟨⟨h.below ((Below.refl _ _).alloc (Nat.le_refl _) _), Blk.new _ _ _, h.frame.size⟩, HB.new.iff_ fun b hb => ⟨False.elim, fun ⟨h1, h2, h3⟩ => h3 ⟨(3, 200), by decide, by unfold In; omega⟩⟩, by decide⟩

theorem zero_held (w : World) : (zeroValue 55).run Try.prog w = .ok (.agg (Array.replicate 210 (.bool false))) w := by kernel_rfl

set_option maxRecDepth 100000 in
set_option maxHeartbeats 2000000 in
theorem SpaceHeld_walk {w : World} (a : Option Addr) (n c : Nat) (l : List (List Int)) (hr : PRow w a l) (hl : l.length = n) (hn : n ≤ 9223372036854775807) (x : Nat) (hx : x < 256) :
    Calls Try.prog 8 #[.slice a n c, .int .u8 (x : Int)] w (Told w true) := by
  by_cases hbig : (30 : Int) < n
  · clear hr hl
    go_enter Try.func8, Try.ntmps8
    go_wp2_with fail
    refine (awake7_any w).mono ?_
    rintro e w1 ⟨rfl, hb1⟩
    go_wp2_with fail
    refine (awake7_any w1).mono ?_
    rintro e w2 ⟨rfl, hb2⟩
    go_wp2_with fail
    go_ret
    exact ⟨rfl, hb1.trans (hb2.mono hb1.size)⟩
  · have HR := Lib.hid hr
    have HL := Lib.hid hl
    have hln : n ≤ l.length := by omega
    have hln2 : l.length ≤ n := by omega
    obtain ⟨kk, hkk, hk1⟩ : ∃ kk : Nat, (kk : Int) = 1 + (x : Int) % 5 ∧ 1 ≤ kk := ⟨1 + x % 5, by omega, by omega⟩
    have hk5 : kk ≤ 5 := by omega
    have HKK := Lib.hid hkk
    clear hr hl hkk
    go_enter Try.func8, Try.ntmps8
    go_wp2_with fail
    refine (awake7_any w).mono ?_
    rintro e w1 ⟨rfl, hb1⟩
    have HN := Lib.hid (new_i hb1 3 200 (by omega) (by omega))
    clear hb1
    go_wp2_with fail
    refine HN.out.mono ?_
    rintro e w2 ⟨s, rfl, h2⟩
    have HS2 := Lib.hid h2
    clear h2 HN
    go_wp2_with fail
    rw [zero_held]
    have HM := Lib.hid (whole_mark HS2.out)
    clear HS2
    go_wp2_with fail
    generalize w2.alloc (.cells (Array.replicate 210 (.bool false)) 55) = w3 at *
    generalize w2.heap.size = hb at *
    go_loopw [7, 8] (fun cv iv wr => HeldL w s hb n cv iv wr) (fun _ iv _ => n - (intOf iv).toNat)
    case atStart => exact ⟨0, 0, _, _, rfl, rfl, by omega, HM.out.1, HM.out.2.1, HM.out.2.2⟩
    case round =>
      clear HM
      obtain ⟨i, cc, L, cs, rfl, rfl, hi, hsp, hcs, hsum⟩ := hrel
      have HSP := Lib.hid hsp
      have HCS := Lib.hid hcs
      have hcc : cc ≤ 200 := by omega
      have HSUM := Lib.hid hsum
      have hfr := hsp.1.frame
      clear hsp hcs hsum
      by_cases hlt : (i : Int) < n
      · have hil : i < l.length := by omega
        obtain ⟨b, off, x1, x2, rfl, c0, c1, hx1, hx2, hbl⟩ := (HR.out.below hfr) i hil
        obtain ⟨fn, hfn, hf3, hf202⟩ : ∃ fn : Nat, (fn : Int) = 3 + (x1 : Int) % 200 ∧ 3 ≤ fn ∧ fn ≤ 202 := ⟨3 + x1 % 200, by omega, by omega, by omega⟩
        obtain ⟨m, hm, hm1, hm12⟩ : ∃ m : Nat, (m : Int) = 1 + (x2 : Int) % 12 ∧ 1 ≤ m ∧ m ≤ 12 := ⟨1 + x2 % 12, by omega, by omega, by omega⟩
        have HFN := Lib.hid hfn
        have HMM := Lib.hid hm
        have hi0 : (0 : Int) ≤ (i : Int) := by omega
        clear hfr hfn hm
        go_wp2_with fail
        go_quiet (fail)
        rw [← HFN.out, ← HMM.out]
        have HSP2 := Lib.hid (HSP.out.drew nq)
        clear HSP c0 c1 HR HFN HMM
        generalize wr.drewN nq = wr1 at *
        have HH := Lib.hid (hold_m HSP2.out (fn : Int) (m : Int))
        have hblk := HSP2.out.2.1
        have HI := Lib.hid HSP2.out.1.inv
        go_wp2_with fail
        go_loopw [11, 12] (fun fv bv wr => FreeL L fn m wr1 fv bv wr) (fun _ bv _ => fn + m - (intOf bv).toNat)
        case atStart =>
          by_cases h203 : fn + m ≤ 203
          · exact ⟨fn, true, by simp; omega, rfl, by omega, by omega, rfl, fun _ => ⟨h203, fun j h1 h2 => by omega⟩, (fun h => nomatch h)⟩
          · exact ⟨fn, false, by simp; omega, rfl, by omega, by omega, rfl, (fun h => nomatch h), fun _ h => h203 h.1⟩
        case round =>
          obtain ⟨b2, f, rfl, rfl, hb1, hb2, rfl, hft, hff⟩ := hrel
          have HFT := Lib.hid hft
          have HFF := Lib.hid hff
          clear hft hff
          cases f
          · by_cases hlt2 : (b2 : Int) < (fn : Int) + m
            all_goals
              go_wp2_with fail
              refine HH.out.mono ?_
              rintro e w4 ⟨er, L', rfl, h4, hrel⟩
              obtain ⟨rfl, rfl⟩ : er = 1 ∧ L' = L := by
                rcases hold_told HI.out hrel hf3 hm1 with ⟨h, h', _⟩ | ⟨_, h, _⟩
                · exact ⟨h, h'⟩
                · exact absurd h (HFF.out (by trivial))
              have H4 := Lib.hid h4
              clear h4 hrel HH
              go_wp2_with fail
              go_loopw [7, 13] (fun cv bv wr => cv = .int .i64 (cc : Int) ∧ bv = .int .i64 (fn : Int) ∧ w4 = wr) (fun _ _ _ => 0)
              case atStart => exact ⟨rfl, rfl, rfl⟩
              case round =>
                obtain ⟨rfl, rfl, rfl⟩ := hrel
                go_wp2_with fail
                go_roundw
                case rel => exact ⟨i + 1, cc, L', cs, rfl, by go_num, by omega, H4.out, HCS.out, HSUM.out⟩
                case measure => simp [intOf]; omega
          · have h203 := (HFT.out (by trivial)).1
            by_cases hlt2 : (b2 : Int) < (fn : Int) + m
            · obtain ⟨y, hy1, hy2⟩ := HCS.out.2 b2 (by omega)
              have c2 : wr1.cell? ⟨hb, b2, none⟩ = some (.bool y) := by rw [hblk.cell]; exact hy1
              have HY := Lib.hid hy2
              clear hy1 hy2
              cases y
              · go_wp2_with fail
                go_roundw
                case rel =>
                  refine ⟨b2 + 1, true, by go_num, by go_num, by omega, by omega, rfl, fun _ => ⟨h203, fun j q1 q2 => ?_⟩, (fun h => nomatch h)⟩
                  by_cases hjb : j = b2
                  · subst hjb
                    exact fun h => nomatch HY.out.2 h
                  · exact (HFT.out (by trivial)).2 j q1 (by omega)
                case measure => simp [intOf]; omega
              · go_wp2_with fail
                go_roundw
                case rel => exact ⟨b2 + 1, false, by go_num, by go_num, by omega, by omega, rfl, (fun h => nomatch h), fun _ h => h.2 b2 (by omega) (by omega) (HY.out.1 rfl)⟩
                case measure => simp [intOf]; omega
            · go_wp2_with fail
              refine HH.out.mono ?_
              rintro e w4 ⟨er, L', rfl, h4, hrel⟩
              obtain ⟨rfl, hfr4, hsum4⟩ : er = 0 ∧ (∀ b, Fr L' b ↔ Fr L b ∧ ¬ (fn ≤ b ∧ b < fn + m)) ∧ sumX L' + m = sumX L := by
                rcases hold_told HI.out hrel hf3 hm1 with ⟨_, _, h⟩ | ⟨h, _, h1, h2⟩
                · exact absurd ⟨h203, fun j q1 q2 => (HFT.out (by trivial)).2 j q1 (by omega)⟩ h
                · exact ⟨h, h1, h2⟩
              have H4 := Lib.hid h4
              have HFR := Lib.hid hfr4
              have HS4 := Lib.hid hsum4
              clear h4 hrel HH hfr4 hsum4 HFT HFF hblk
              go_wp2_with fail
              go_loopw [7, 13] (fun cv bv wr => MarkL w s hb L L' fn m cc cv bv wr) (fun _ bv _ => fn + m - (intOf bv).toNat)
              case atStart => exact ⟨fn, cs, by simp, rfl, by omega, by omega, H4.out, HCS.out.iff_ (fun b _ => ⟨.inl, fun h => h.elim id (fun h => by omega)⟩)⟩
              case round =>
                obtain ⟨b3, cs3, rfl, rfl, q1, q2, h5, h6⟩ := hrel
                have HH5 := Lib.hid h5
                have HH6 := Lib.hid h6
                have hblk3 := h5.2.1
                have e3 := hblk3.frozen b3
                obtain ⟨z, hz⟩ : ∃ z, z = cc + (b3 - fn) := ⟨_, rfl⟩
                rw [← hz]
                have hz5 : z ≤ 500 := by omega
                have HZ := Lib.hid hz
                by_cases hlt3 : (b3 : Int) < (fn : Int) + m
                · obtain ⟨x3, hx3, _⟩ := h6.2 b3 (by omega)
                  have c3 : wr.cell? ⟨hb, b3, none⟩ = some (.bool x3) := by rw [hblk3.cell]; exact hx3
                  clear h5 h6 hx3 hz hblk3
                  go_wp2_with fail
                  go_roundw
                  case rel =>
                    refine ⟨b3 + 1, _, ?_, by go_num, by omega, by omega, HH5.out.mark b3, (HH6.out.set_ (by omega)).iff_ (fun b _ => ?_)⟩
                    · have := HZ.out
                      rw [show cc + (b3 + 1 - fn) = z + 1 from by omega]
                      go_num
                    · constructor
                      · rintro ((h | h) | h)
                        · exact .inl h
                        · exact .inr (by omega)
                        · exact .inr (by omega)
                      · rintro (h | h)
                        · exact .inl (.inl h)
                        · by_cases hb3 : b = b3
                          · exact .inr hb3
                          · exact .inl (.inr (by omega))
                  case measure => simp [intOf]; omega
                · obtain rfl : b3 = fn + m := by omega
                  clear h5 h6 hz hblk3 e3
                  go_wp2_with fail
                  go_roundw
                  case rel => exact ⟨i + 1, z, L', cs3, rfl, by go_num, by omega, HH5.out, HH6.out.iff_ (fun b _ => taken_more (by omega) HFR.out b), by have := HZ.out; have := HS4.out; have := HSUM.out; omega⟩
                  case measure => simp [intOf]; omega
      · have y1 : IntKind.i64.wrap ((x : Int) % 5) = (x : Int) % 5 := by rw [IntKind.wrap_i64]; omega
        clear hfr
        go_wp2_with fail
        rw [← HKK.out]
        go_loopw [7, 15] (fun cv iv wr => TakeL w s hb cv iv wr) (fun _ iv _ => 300 - (intOf iv).toNat)
        case atStart => exact ⟨0, cc, L, cs, rfl, rfl, HSP.out, HCS.out, HSUM.out, by have := HSUM.out; omega⟩
        case round =>
          clear HSP HCS HSUM
          obtain ⟨t, c2, L2, cs2, rfl, rfl, h1, h2, h3, h4⟩ := hrel
          have ht : (t : Int) < 300 := by omega
          have ht0 : (0 : Int) ≤ (t : Int) := by omega
          have hc2 : c2 ≤ 200 := by omega
          have HT := Lib.hid (take_m h1 (kk : Int))
          have HI2 := Lib.hid h1.1.inv
          have H2 := Lib.hid h2
          have H3 := Lib.hid h3
          have H4 := Lib.hid h4
          clear h1 h2 h3 h4 HKK y1
          go_wp2_with fail
          refine HT.out.mono ?_
          rintro e w5 ⟨r, er, L3, rfl, h5, hrel⟩
          rcases take_room HI2.out hrel hk1 with ⟨rfl, rfl, hno⟩ | ⟨p, rfl, rfl, hp3, hp203, hroom, hfr, hsum⟩
          · have HNO := Lib.hid hno
            have hblk5 := h5.2.1
            have H5 := Lib.hid h5
            have hfree := Lib.hid (free_m h5.1 (by omega))
            clear hno h5 hrel HT
            go_wp2_with fail
            go_loopw [19, 20] (fun rv bv wr => RunL L3 kk w5 rv bv wr) (fun _ bv _ => 203 - (intOf bv).toNat)
            case atStart => exact ⟨3, 0, rfl, rfl, by omega, by omega, by omega, by omega, rfl, fun j _ _ => by omega⟩
            case round =>
              obtain ⟨b3, r3, rfl, rfl, q1, q2, q3, q4, rfl, hnt⟩ := hrel
              have HNT := Lib.hid hnt
              clear hnt
              by_cases hlt3 : (b3 : Int) < 203
              · obtain ⟨x3, hx3, hx3'⟩ := H2.out.2 b3 (by omega)
                have c3 : w5.cell? ⟨hb, b3, none⟩ = some (.bool x3) := by rw [hblk5.cell]; exact hx3
                have HX := Lib.hid hx3'
                clear hx3 hx3'
                cases x3
                · have hnb : ¬ Taken L3 b3 := fun h => nomatch HX.out.2 h
                  have hr3 : ¬ (kk : Int) ≤ (r3 : Int) + 1 := fun h => HNO.out (b3 + 1 - kk) fun j g1 g2 => by
                    have hnj : ¬ Taken L3 j := by
                      by_cases hjb : j = b3
                      · subst hjb; exact hnb
                      · exact HNT.out j (by omega) (by omega)
                    exact Classical.byContradiction fun hf => hnj ⟨by omega, by omega, hf⟩
                  have HNB := Lib.hid hnb
                  clear hnb
                  go_wp2_with fail
                  go_roundw
                  case rel =>
                    refine ⟨b3 + 1, r3 + 1, by go_num, by go_num, by omega, by omega, by omega, by omega, rfl, fun j g1 g2 => ?_⟩
                    by_cases hjb : j = b3
                    · subst hjb; exact HNB.out
                    · exact HNT.out j (by omega) (by omega)
                  case measure => simp [intOf]; omega
                · have hk0 : ¬ (kk : Int) ≤ 0 := by omega
                  go_wp2_with fail
                  go_roundw
                  case rel => exact ⟨b3 + 1, 0, rfl, by go_num, by omega, by omega, by omega, by omega, rfl, fun j g1 g2 => by omega⟩
                  case measure => simp [intOf]; omega
              · have HBEL := Lib.hid H5.out.1.frame
                have hs200 : ((sumX L3 : Nat) : Int) = 200 - (c2 : Int) := by have := H3.out; omega
                have HS200 := Lib.hid hs200
                clear hs200
                go_wp2_with fail
                refine hfree.out.mono ?_
                rintro e w6 ⟨rfl, hb6⟩
                have HB6 := Lib.hid hb6
                rw [HS200.out]
                clear hb6
                go_wp2_with fail
                go_ret
                exact ⟨by simp, HBEL.out.trans (HB6.out.mono HBEL.out.size)⟩
          · have H5 := Lib.hid h5
            have HROOM := Lib.hid hroom
            have HFR := Lib.hid hfr
            have HSUM := Lib.hid hsum
            clear h5 hrel HT hroom hfr hsum
            go_wp2_with fail
            go_loopw [7, 18] (fun cv bv wr => MarkL w s hb L2 L3 p kk c2 cv bv wr) (fun _ bv _ => p + kk - (intOf bv).toNat)
            case atStart => exact ⟨p, cs2, by simp, rfl, by omega, by omega, H5.out, H2.out.iff_ (fun b _ => ⟨.inl, fun h => h.elim id (fun h => by omega)⟩)⟩
            case round =>
              obtain ⟨b3, cs3, rfl, rfl, q1, q2, h5, h6⟩ := hrel
              have HH5 := Lib.hid h5
              have HH6 := Lib.hid h6
              have hblk3 := h5.2.1
              have e3 := hblk3.frozen b3
              obtain ⟨z, hz⟩ : ∃ z, z = c2 + (b3 - p) := ⟨_, rfl⟩
              rw [← hz]
              have hz5 : z ≤ 500 := by omega
              have HZ := Lib.hid hz
              by_cases hlt3 : (b3 : Int) < (p : Int) + kk
              · obtain ⟨x3, hx3, hx3'⟩ := h6.2 b3 (by omega)
                obtain rfl : x3 = false := by
                  cases x3
                  · rfl
                  · rcases hx3'.1 rfl with h | h
                    · exact absurd (HROOM.out b3 q1 (by omega)) h.2.2
                    · omega
                have c3 : wr.cell? ⟨hb, b3, none⟩ = some (.bool false) := by rw [hblk3.cell]; exact hx3
                clear h5 h6 hx3 hz hblk3 hx3'
                go_wp2_with fail
                go_roundw
                case rel =>
                  refine ⟨b3 + 1, _, ?_, by go_num, by omega, by omega, HH5.out.mark b3, (HH6.out.set_ (by omega)).iff_ (fun b _ => ?_)⟩
                  · have := HZ.out
                    rw [show c2 + (b3 + 1 - p) = z + 1 from by omega]
                    go_num
                  · constructor
                    · rintro ((h | h) | h)
                      · exact .inl h
                      · exact .inr (by omega)
                      · exact .inr (by omega)
                    · rintro (h | h)
                      · exact .inl (.inl h)
                      · by_cases hb3 : b = b3
                        · exact .inr hb3
                        · exact .inl (.inr (by omega))
                case measure => simp [intOf]; omega
              · obtain rfl : b3 = p + kk := by omega
                clear h5 h6 hz hblk3 e3
                go_wp2_with fail
                go_roundw
                case rel => exact ⟨t + 1, z, L3, cs3, rfl, by go_num, HH5.out, HH6.out.iff_ (fun b _ => taken_more (by omega) HFR.out b), by have := HZ.out; have := HSUM.out; have := H3.out; omega, by have := HSUM.out; have := H4.out; omega⟩
                case measure => simp [intOf]; omega

theorem SpaceHeld_law {w : World} (a : Option Addr) (n c : Nat) (l : List (List Int)) (h : rdSlice 2 (rdArr 2 1 (rdInt .u8)) w [.slice a n c] l) (x : Int) (hx : (Lit.int .u8 x).wf = true) :
    Calls Try.prog 8 #[.slice a n c, .int .u8 x] w fun e w' => e = .returned (.bool true) ∧ Below w.heap.size w w' := by
  obtain ⟨h1, h2, h3⟩ := prow_of h
  have hb := u_bounds.2.2.1 hx
  obtain ⟨m, rfl⟩ := Int.eq_ofNat_of_zero_le hb.1
  exact SpaceHeld_walk a n c l h1 h2 h3 m (by omega)

end Go.Proofs.Ytodjibhnmibedaa.Sp
