/- Texts of mine, packed: MfSmall, MfLaw, TrimLay, MfForm, Reg, Reg3, Reg4. -/
import Derived.Test.YtmmkncocgjgapaaDoorK1
import Derived.Laws.StructEq
import Derived.Shelf.Strings.SlTrimAscii
import Derived.Test.YtmmkncocgjgapaaDoorRows
import Derived.WalkKit
import Derived.Deep.RegionHeld3
import Derived.StillTailTactics
set_option linter.unusedVariables false

/- The walks of the manifest's small functions. -/
namespace Go.Proofs.YtmmkncocgjgapaaDoor.Mf
open Go.RowKit

theorem okNum_yes {x : Int} (h0 : ¬ x < 0) (h1 : ¬ 1099511627776 < x) : okNum x = true := by unfold okNum; simp; omega
theorem okNum_no {x : Int} (h : x < 0 ∨ 1099511627776 < x) : okNum x = false := by unfold okNum; simp; omega
theorem all_succ {l : List Int} {k : Nat} (hk : k < l.length) (h : (l.take k).all okNum = true) (hx : okNum l[k] = true) : (l.take (k + 1)).all okNum = true := by
  rw [List.take_succ_eq_append_getElem hk, List.all_append, h]
  simp [hx]
theorem all_bad {l : List Int} {k : Nat} (hk : k < l.length) (hx : okNum l[k] = false) : l.all okNum = false := by
  rw [List.all_eq_false]
  exact ⟨l[k], List.getElem_mem hk, by simp [hx]⟩
def NumLoop (l : List Int) (w : World) (iv : Value) (wr : World) : Prop := ∃ k : Nat, iv = .int .i64 (k : Int) ∧ k ≤ l.length ∧ (l.take k).all okNum = true ∧ w = wr
set_option maxRecDepth 100000 in
theorem numbers_any (l : List Int) (a : Option Addr) (n c : Nat) (w : World) (hr : Row w a (l.map (Value.int .i64))) (hn : l.length = n) (hl : n < 1000) : Calls Tryd.prog 24 #[.slice a n c] w (fun e w' => e = .returned (.bool (l.all okNum)) ∧ w = w') := by
  subst hn
  go_enter Tryd.func24, Tryd.ntmps24
  go_wp2_with fail
  go_loopw [7] (fun iv wr => NumLoop l w iv wr) (fun iv _ => l.length - (intOf iv).toNat)
  case atStart => exact ⟨0, rfl, Nat.zero_le _, rfl, rfl⟩
  case round =>
    obtain ⟨k, rfl, hk, ha, rfl⟩ := hrel
    have HA := Lib.hid ha
    clear ha
    by_cases hlt : k < l.length
    · have hlt2 : (k : Int) < (l.length : Int) := by omega
      have i0 : (0 : Int) ≤ (k : Int) := by omega
      obtain ⟨b, o, rfl, hc, _⟩ := hr.at_ (i := k) (by rw [List.length_map]; exact hlt)
      rw [List.getElem_map] at hc
      have hs := all_succ hlt HA.out
      have hb := all_bad hlt
      have HS := Lib.hid hs
      have HBD := Lib.hid hb
      have HM := Lib.hid (And.intro hk hlt)
      clear hs hb hr hk
      generalize l[k] = x at *
      clear hlt
      by_cases h0 : x < 0
      · go_wp2_with fail
        go_ret
        exact ⟨by rw [HBD.out (okNum_no (.inl h0))]; rfl, rfl⟩
      · by_cases h1 : 1099511627776 < x
        · go_wp2_with fail
          go_ret
          exact ⟨by rw [HBD.out (okNum_no (.inr h1))]; rfl, rfl⟩
        · go_wp2_with fail
          go_roundw
          case rel => exact ⟨k + 1, by go_num, HM.out.2, HS.out (okNum_yes h0 h1), rfl⟩
          case measure => have := HM.out.2; simp [intOf]; omega
    · have hlt2 : ¬ (k : Int) < (l.length : Int) := by omega
      have hall : l.all okNum = true := by have := HA.out; rw [List.take_of_length_le (by omega)] at this; exact this
      have HL := Lib.hid hall
      clear hall hlt hk
      go_wp2_with fail
      go_ret
      exact ⟨by rw [HL.out]; rfl, rfl⟩

theorem small_any (x : Int) (w : World) : Calls Tryd.prog 26 #[.int .i64 x] w (fun e w' => e = .returned (.bool (okNum x)) ∧ w = w') := by
  by_cases h0 : 0 ≤ x
  · by_cases h1 : x ≤ 1099511627776
    · rw [okNum_yes (by omega) (by omega)]
      go_enter Tryd.func26, Tryd.ntmps26
      go_wp2_with fail
      go_ret
      exact ⟨by first | rfl | simp [h1], rfl⟩
    · rw [okNum_no (.inr (by omega))]
      go_enter Tryd.func26, Tryd.ntmps26
      go_wp2_with fail
      go_ret
      exact ⟨by first | rfl | simp [h1], rfl⟩
  · rw [okNum_no (.inl (by omega))]
    go_enter Tryd.func26, Tryd.ntmps26
    go_wp2_with fail
    go_ret
    exact ⟨by first | rfl | simp, rfl⟩

def slotN (n : Nat) : Nat := (59 + n) / (n - 2)
theorem slot_no (n : Int) (w : World) (h : n < 8 ∨ 256 < n) : Calls Tryd.prog 12 #[.int .i64 n] w (fun e w' => e = .returned (.int .i64 0) ∧ w = w') := by
  by_cases h8 : n < 8
  · go_enter Tryd.func12, Tryd.ntmps12
    go_wp2_with fail
    go_ret
    exact ⟨rfl, rfl⟩
  · have h2 : 256 < n := by omega
    clear h
    go_enter Tryd.func12, Tryd.ntmps12
    go_wp2_with fail
    go_ret
    exact ⟨rfl, rfl⟩
theorem slot_ok (n : Nat) (w : World) (h8 : 8 ≤ n) (h2 : n ≤ 256) : Calls Tryd.prog 12 #[.int .i64 (n : Int)] w (fun e w' => e = .returned (.int .i64 (slotN n : Int)) ∧ w = w') := by
  obtain ⟨x, hx⟩ : ∃ x : Int, x = (n : Int) - 2 := ⟨_, rfl⟩
  obtain ⟨y, hy⟩ : ∃ y : Int, y = (n : Int) + 59 := ⟨_, rfl⟩
  have e0 : ¬ (n : Int) < 8 := by omega
  have e1 : ¬ (256 : Int) < (n : Int) := by omega
  have e2 : IntKind.i64.wrap (62 + (n : Int)) = 62 + (n : Int) := by rw [IntKind.wrap_i64]; omega
  have e3 : IntKind.i64.wrap (62 + (n : Int) - 3) = y := by rw [IntKind.wrap_i64]; omega
  have e4 : IntKind.i64.wrap ((n : Int) - 2) = x := by rw [IntKind.wrap_i64]; omega
  have e5 : x ≠ 0 := by omega
  have e6 : y.tdiv x = (slotN n : Int) := by
    rw [Int.tdiv_eq_ediv_of_nonneg (by omega), hx, hy]
    unfold slotN
    rw [Int.natCast_ediv]
    congr 1 <;> omega
  have hsl : slotN n ≤ 11 := by
    unfold slotN
    rw [Nat.div_le_iff_le_mul_add_pred (by omega)]
    omega
  have e7 : IntKind.i64.wrap (slotN n : Int) = (slotN n : Int) := by rw [IntKind.wrap_i64]; omega
  clear hx hy hsl h8 h2
  go_enter Tryd.func12, Tryd.ntmps12
  go_wp2_with fail
  go_ret
  exact ⟨rfl, rfl⟩
theorem slotN_bd {n : Nat} (h8 : 8 ≤ n) (h2 : n ≤ 256) : slotN n ≤ 11 ∧ 1 ≤ slotN n ∧ 62 ≤ slotN n * (n - 2) ∧ ∀ k, k < slotN n → k * (n - 2) < 62 := by
  have hd := Nat.div_add_mod (59 + n) (n - 2)
  have hm := Nat.mod_lt (59 + n) (show n - 2 > 0 by omega)
  have hq : slotN n = (59 + n) / (n - 2) := rfl
  rw [← hq, Nat.mul_comm] at hd
  refine ⟨?_, ?_, by omega, fun k hk => ?_⟩
  · rw [hq, Nat.div_le_iff_le_mul_add_pred (by omega)]
    omega
  · rw [hq, Nat.le_div_iff_mul_le (by omega)]
    omega
  · have : (k + 1) * (n - 2) ≤ slotN n * (n - 2) := Nat.mul_le_mul_right _ hk
    rw [Nat.add_mul] at this
    omega
theorem refslot_no (n : Int) (w : World) (h : n < 8 ∨ 256 < n) : Calls Tryd.prog 13 #[.int .i64 n] w (fun e w' => e = .returned (.int .i64 0) ∧ w = w') := by
  by_cases h8 : n < 8
  · go_enter Tryd.func13, Tryd.ntmps13
    go_wp2_with fail
    go_ret
    exact ⟨rfl, rfl⟩
  · have h2 : 256 < n := by omega
    clear h
    go_enter Tryd.func13, Tryd.ntmps13
    go_wp2_with fail
    go_ret
    exact ⟨rfl, rfl⟩
def SlotLoop (n : Nat) (w : World) (iv : Value) (wr : World) : Prop := ∃ k : Nat, iv = .int .i64 (k : Int) ∧ k ≤ slotN n ∧ w = wr
set_option maxRecDepth 100000 in
theorem refslot_ok (n : Nat) (w : World) (h8 : 8 ≤ n) (h2 : n ≤ 256) : Calls Tryd.prog 13 #[.int .i64 (n : Int)] w (fun e w' => e = .returned (.int .i64 (slotN n : Int)) ∧ w = w') := by
  obtain ⟨b1, b2, b3, b4⟩ := slotN_bd h8 h2
  have e0 : ¬ (n : Int) < 8 := by omega
  have e1 : ¬ (256 : Int) < (n : Int) := by omega
  obtain ⟨x, hx⟩ : ∃ x : Nat, x = n - 2 := ⟨_, rfl⟩
  have e4 : IntKind.i64.wrap ((n : Int) - 2) = (x : Int) := by rw [IntKind.wrap_i64]; omega
  rw [← hx] at b3 b4
  have HB4 := Lib.hid b4
  have hx254 : x ≤ 254 := by omega
  clear hx b4
  go_enter Tryd.func13, Tryd.ntmps13
  go_wp2_with fail
  go_loopw [3] (fun iv wr => SlotLoop n w iv wr) (fun iv _ => slotN n - (intOf iv).toNat)
  case atStart => exact ⟨0, rfl, Nat.zero_le _, rfl⟩
  case round =>
    obtain ⟨k, rfl, hk, rfl⟩ := hrel
    have hkx : k * x ≤ 11 * 254 := Nat.mul_le_mul (by omega) hx254
    have e5 : IntKind.i64.wrap ((k : Int) * (x : Int)) = ((k * x : Nat) : Int) := by rw [IntKind.wrap_i64]; rw [← Int.natCast_mul]; omega
    by_cases hlt : k < slotN n
    · have hq := HB4.out k hlt
      have hq2 : ((k * x : Nat) : Int) < 62 := by have : k * x < 62 := hq; omega
      have hk11 : k ≤ 10 := by omega
      generalize hkx2 : ((k * x : Nat) : Int) = y at *
      have HM := Lib.hid (And.intro hk hlt)
      clear hq hkx hkx2 hk hlt b3
      go_wp2_with fail
      go_roundw
      case rel => exact ⟨k + 1, by go_num, HM.out.2, rfl⟩
      case measure => have := HM.out.2; simp [intOf]; omega
    · obtain rfl : k = slotN n := by omega
      have hq2 : ¬ ((slotN n * x : Nat) : Int) < 62 := by omega
      generalize hkx2 : ((slotN n * x : Nat) : Int) = y at *
      clear hkx hkx2 b3 hlt
      go_wp2_with fail
      go_ret
      exact ⟨rfl, rfl⟩

end Go.Proofs.YtmmkncocgjgapaaDoor.Mf

/- The walks of what chapter 9's laws ask of entries. -/
namespace Go.Proofs.YtmmkncocgjgapaaDoor.Mf
open Go.RowKit

theorem below_dn {B : Nat} {w w' : World} (h : Below B w w') (n : Nat) : Below B w (w'.drewN n) := ⟨h.os, h.tape, h.output, h.size, h.block⟩
def FewLoop (l : List Ent) (w : World) (iv : Value) (wr : World) : Prop := ∃ k : Nat, iv = .int .i64 (k : Int) ∧ k ≤ l.length ∧ k ≤ 30 ∧ (∀ j (hj : j < l.length), j < k → l[j].name.size ≤ 1000) ∧ w = wr
def FewC (l : List Ent) (w : World) (e : Ending) (w' : World) : Prop := ∃ b, e = .returned (.bool b) ∧ (b = true → l.length ≤ 20 ∧ ∀ j (hj : j < l.length), l[j].name.size ≤ 1000) ∧ w = w'
set_option maxRecDepth 100000 in
theorem few_any (l : List Ent) (a : Option Addr) (n c : Nat) (w : World) (hr : Row w a (flatM l)) (hn : l.length = n) (hl : n < 4611686018427387904) (hsz : ∀ j (hj : j < l.length), l[j].name.size ≤ maxLen) :
    Calls Tryd.prog 8 #[.slice a n c] w (FewC l w) := by
  subst hn
  go_enter Tryd.func8, Tryd.ntmps8
  go_wp2_with fail
  go_loopw [3] (fun iv wr => FewLoop l w iv wr) (fun iv _ => l.length - (intOf iv).toNat)
  case atStart => exact ⟨0, rfl, Nat.zero_le _, Nat.zero_le _, fun j _ h => absurd h (Nat.not_lt_zero _), rfl⟩
  case round =>
    obtain ⟨k, rfl, hk, hk30, hall, rfl⟩ := hrel
    have HALL := Lib.hid hall
    clear hall
    by_cases hlt : k < l.length
    · have hlt2 : (k : Int) < (l.length : Int) := by omega
      by_cases h30 : k < 30
      · have h302 : (k : Int) < 30 := by omega
        have i0 : (0 : Int) ≤ (k : Int) := by omega
        obtain ⟨b, o, rfl, hbl, e0, e1, e2, e3, e4⟩ := ent_at hr hlt
        clear hbl e1 e2 e3 e4
        have hs := hsz k hlt
        have HM := Lib.hid (And.intro hk (And.intro hlt h30))
        have HS := Lib.hid (show ∀ (_ : l[k].name.size ≤ 1000), ∀ j (hj : j < l.length), j < k + 1 → l[j].name.size ≤ 1000 from fun h j hj hj2 => by
          by_cases e : j = k
          · subst e; exact h
          · exact HALL.out j hj (by omega))
        generalize l[k].name = s at *
        clear hr hk hlt h30
        by_cases hbig : s.size ≤ 1000
        · have hb2 : ¬ (1000 : Int) < (s.size : Int) := by omega
          have HB := Lib.hid hbig
          clear hbig
          go_wp2_with fail
          go_roundw
          case rel => exact ⟨k + 1, by go_num, HM.out.2.1, HM.out.2.2, HS.out HB.out, rfl⟩
          case measure => have := HM.out.2; simp [intOf]; omega
        · have hb2 : (1000 : Int) < (s.size : Int) := by omega
          clear hbig
          go_wp2_with fail
          go_ret
          exact ⟨false, rfl, (fun h => by cases h), rfl⟩
      · have h302 : ¬ (k : Int) < 30 := by omega
        have hl20 : ¬ (l.length : Int) ≤ 20 := by omega
        clear hlt h30 hk hk30
        go_wp2_with fail
        go_ret
        exact ⟨_, rfl, (fun h => by first | (simp at h; omega) | (simp at h)), rfl⟩
    · have hlt2 : ¬ (k : Int) < (l.length : Int) := by omega
      have HF := Lib.hid (show ∀ j (hj : j < l.length), l[j].name.size ≤ 1000 from fun j hj => HALL.out j hj (by omega))
      clear hlt hk hk30
      go_wp2_with fail
      go_ret
      exact ⟨_, rfl, fun h => ⟨by first | (simp at h; omega) | omega, HF.out⟩, rfl⟩

theorem el_ref : Elem Tryd.prog 26 57 5 48 := elem_of (z := .agg #[.string ⟨#[]⟩, .int .i64 0, .int .i64 0, .int .i64 0, .int .i64 0]) Tryd.underlying26 (by kernel_rfl) rfl (by omega)
def PlainLoop (l : List Ent) (w : World) (v iv : Value) (wr : World) : Prop := ∃ k : Nat, iv = .int .i64 (k : Int) ∧ k ≤ l.length ∧ wr.ownsRow w.heap.size 57 5 v k (flatM (l.take k)) ∧ Below w.heap.size w wr
set_option maxRecDepth 100000 in
set_option maxHeartbeats 1000000 in
theorem plain_any (l : List Ent) (a : Option Addr) (n c : Nat) (w : World) (hr : Row w a (flatM l)) (hn : l.length = n) (hl : n < 1000000) :
    Calls Tryd.prog 11 #[.slice a n c] w (fun e w' => ∃ v, e = .returned v ∧ w'.ownsRow w.heap.size 57 5 v n (flatM l) ∧ Below w.heap.size w w') := by
  subst hn
  go_enter Tryd.func11, Tryd.ntmps11
  go_wp2_with fail
  go_loopw [3, 4] (fun v iv wr => PlainLoop l w v iv wr) (fun _ iv _ => l.length - (intOf iv).toNat)
  case atStart => exact ⟨0, rfl, Nat.zero_le _, World.ownsRow_nil _ _ _ _, Below.refl _ _⟩
  case round =>
    obtain ⟨k, rfl, hk, hown, hb⟩ := hrel
    have HB := Lib.hid hb
    have HO := Lib.hid hown
    have hz := hb.size
    by_cases hlt : k < l.length
    · have hlt2 : (k : Int) < (l.length : Int) := by omega
      have i0 : (0 : Int) ≤ (k : Int) := by omega
      obtain ⟨b, o, rfl, hbl, e0, e1, e2, e3, e4⟩ := ent_at (hr.below hb) hlt
      have HTS := Lib.hid (show flatM (l.take (k + 1)) = flatM (l.take k) ++ ecells l[k] from by
        rw [List.take_succ_eq_append_getElem hlt, flatM_append]
        simp [flatM])
      have HM := Lib.hid (And.intro hk hlt)
      generalize l[k] = p at *
      obtain ⟨s, f, bb, ww, cc⟩ := p
      simp only at e0 e1 e2 e3 e4
      unfold ecells at HTS
      simp only at HTS
      clear hr hown hb hk hlt
      go_wp2_with (at_builtin; go_must (refine wpList_append rfl (.tmp 11) (.tmp 16) _ rfl el_ref w.heap.size _ _ _ rfl (HO.out.alloc _) (some ⟨_, 0, none⟩) 1 1 [.string s, .int .i64 f, .int .i64 bb, .int .i64 ww, .int .i64 cc] rfl rfl (Row.new _ _ _ _) (by intro u hu; simp at hu; rcases hu with rfl | rfl | rfl | rfl | rfl <;> rfl) (by unfold maxLen; omega) (by omega) (by simp; omega) ?_))
      intro v2 w2 hown2 hg2 _ hb2
      rw [← HTS.out] at hown2
      have HO2 := Lib.hid hown2
      have HB2 := Lib.hid ((HB.out.alloc HB.out.size _).trans hb2)
      clear hown2 hg2 hb2 e0 e1 e2 e3 e4
      go_wp2_with fail
      go_roundw
      case rel => exact ⟨k + 1, by go_num, HM.out.2, HO2.out, HB2.out⟩
      case measure => have := HM.out.2; simp [intOf]; omega
    · obtain rfl : l.length = k := by omega
      have hlt2 : ¬ (l.length : Int) < (l.length : Int) := by omega
      have HO2 := Lib.hid (show wr.ownsRow w.heap.size 57 5 _ l.length (flatM l) from by have := HO.out; rw [List.take_of_length_le (Nat.le_refl _)] at this; exact this)
      clear hown hb hk hlt
      go_wp2_with fail
      go_ret
      exact ⟨_, rfl, HO2.out, HB.out⟩

/-- Two entries compared. -/
theorem eq_ent (s s' : ByteArray) (f f' b b' x x' c c' : Int) (w : World) : (Op.equalIn 10000 57 (.agg #[.string s, .int .i64 f, .int .i64 b, .int .i64 x, .int .i64 c]) (.agg #[.string s', .int .i64 f', .int .i64 b', .int .i64 x', .int .i64 c'])).run Tryd.prog w = .ok ((s.toList == s'.toList) && ((f == f') && ((b == b') && ((x == x') && (c == c'))))) w := by
  rw [show (10000 : Nat) = 9998 + 1 + 1 from rfl, run_equalIn_struct w (9998 + 1) 57 _ _ (by kernel_rfl) (by kernel_rfl)]
  have hi := fun (w : World) (a b : Int) => run_equalIn_int (P := Tryd.prog) w 9998 3 .i64 .i64 a b Tryd.underlying3
  have hs := fun (w : World) (a b : ByteArray) => run_equalIn_string (P := Tryd.prog) w 9998 9 a b Tryd.underlying9
  have ag1 : ∀ w, (isAgg 3).run Tryd.prog w = .ok false w := fun w => by kernel_rfl
  have ag2 : ∀ w, (isAgg 9).run Tryd.prog w = .ok false w := fun w => by kernel_rfl
  have hf : (Tryd.prog.fieldsOf 57).toList = [{ name := "Name", type := 9, offset := 0, embedded := false, tag := "", pkgPath := "", byteOffset := 0 }, { name := "First", type := 3, offset := 1, embedded := false, tag := "", pkgPath := "", byteOffset := 16 }, { name := "Blocks", type := 3, offset := 2, embedded := false, tag := "", pkgPath := "", byteOffset := 24 }, { name := "Width", type := 3, offset := 3, embedded := false, tag := "", pkgPath := "", byteOffset := 32 }, { name := "Count", type := 3, offset := 4, embedded := false, tag := "", pkgPath := "", byteOffset := 40 }] := by kernel_rfl
  rw [hf]
  clear hf
  cases h0 : s.toList == s'.toList <;> cases h1 : f == f' <;> cases h2 : b == b' <;> cases h3 : x == x' <;> cases h4 : c == c' <;> simp [Op.eqFields, part, hi, hs, ag1, ag2, h0, h1, h2, h3, h4]

/-- Two lists of entries of the law's: alike, if they are the same. -/
def SameC (l m : List Ent) (w : World) (e : Ending) (w' : World) : Prop := ∃ b, e = .returned (.bool b) ∧ (l = m → b = true) ∧ Below w.heap.size w w'
def SmLoop (l m : List Ent) (w : World) (iv : Value) (wr : World) : Prop := ∃ k : Nat, iv = .int .i64 (k : Int) ∧ k ≤ l.length ∧ Below w.heap.size w wr
set_option maxRecDepth 100000 in
set_option maxHeartbeats 1000000 in
theorem same_any (l m : List Ent) (a b : Option Addr) (n nm c d : Nat) (w : World) (hl : Row w a (flatM l)) (hm : Row w b (flatM m)) (hn : l.length = n) (hnm : m.length = nm) (hb1 : n < 1000000) (hb2 : nm < 1000000) :
    Calls Tryd.prog 17 #[.slice a n c, .slice b nm d] w (SameC l m w) := by
  subst hn
  subst hnm
  by_cases hne : l.length = m.length
  · have hne2 : ((l.length : Int) == (m.length : Int)) = true := by simp [hne]
    rw [hne] at hb1 ⊢
    go_enter Tryd.func17, Tryd.ntmps17
    go_wp2_with fail
    go_loopw [5] (fun iv wr => SmLoop l m w iv wr) (fun iv _ => m.length - (intOf iv).toNat)
    case atStart => exact ⟨0, rfl, Nat.zero_le _, Below.refl _ _⟩
    case round =>
      obtain ⟨k, rfl, hk, hb⟩ := hrel
      have HB := Lib.hid hb
      by_cases hlt : k < m.length
      · have hlt2 : (k : Int) < (m.length : Int) := by omega
        have i0 : (0 : Int) ≤ (k : Int) := by omega
        have hkl : k < l.length := by omega
        obtain ⟨b1, o1, rfl, hbl1, e0, e1, e2, e3, e4⟩ := ent_at (hl.below hb) hkl
        obtain ⟨b2, o2, rfl, hbl2, f0, f1, f2, f3, f4⟩ := ent_at (hm.below hb) hlt
        have HM := Lib.hid (And.intro hne (And.intro hk hlt))
        have HEQ := Lib.hid (show l = m → l[k] = m[k] from fun h => by subst h; rfl)
        generalize l[k] = p at *
        generalize m[k] = q at *
        obtain ⟨s, f, bb, ww, cc⟩ := p
        obtain ⟨s', f', bb', ww', cc'⟩ := q
        simp only at e0 e1 e2 e3 e4 f0 f1 f2 f3 f4
        clear hl hm hb hk hlt hkl hne
        obtain ⟨x0, hx0⟩ : ∃ x0, (s.toList == s'.toList) = x0 := ⟨_, rfl⟩
        obtain ⟨x1, hx1⟩ : ∃ x1, (f == f') = x1 := ⟨_, rfl⟩
        obtain ⟨x2, hx2⟩ : ∃ x2, (bb == bb') = x2 := ⟨_, rfl⟩
        obtain ⟨x3, hx3⟩ : ∃ x3, (ww == ww') = x3 := ⟨_, rfl⟩
        obtain ⟨x4, hx4⟩ : ∃ x4, (cc == cc') = x4 := ⟨_, rfl⟩
        have heq := eq_ent s s' f f' bb bb' ww ww' cc cc'
        go_upto_region 6 with (fail)
        go_quiet (fail)
        obtain ⟨B, hB⟩ : ∃ B, B = (!x0 || (!x1 || (!x2 || (!x3 || !x4)))) := ⟨_, rfl⟩
        have HBB := Lib.hid (show B = true → ¬ l = m from fun h hlm => by
          have he := HEQ.out hlm
          simp only [Ent.mk.injEq] at he
          obtain ⟨q0, q1, q2, q3, q4⟩ := he
          subst q0 q1 q2 q3 q4
          rw [hB, ← hx0, ← hx1, ← hx2, ← hx3, ← hx4] at h
          simp at h)
        rw [← hB]
        have HBQ := Lib.hid (below_dn HB.out nq)
        clear hx0 hx1 hx2 hx3 hx4 heq hB e0 e1 e2 e3 e4 f0 f1 f2 f3 f4
        generalize wr.drewN nq = w5 at *
        cases B with
        | true =>
          go_wp2_with fail
          go_ret
          exact ⟨false, rfl, fun h => absurd h (HBB.out trivial), HBQ.out⟩
        | false =>
          go_wp2_with fail
          go_roundw
          case rel => exact ⟨k + 1, by go_num, by have := HM.out; omega, HBQ.out⟩
          case measure => have := HM.out.2; simp [intOf]; omega
      · have hlt2 : ¬ (k : Int) < (m.length : Int) := by omega
        clear hl hm hb hk hlt hne
        go_wp2_with fail
        go_ret
        exact ⟨true, rfl, fun _ => rfl, HB.out⟩
  · have hne2 : ((l.length : Int) == (m.length : Int)) = false := by simp; omega
    have HNE := Lib.hid hne
    clear hne
    go_enter Tryd.func17, Tryd.ntmps17
    go_wp2_with fail
    go_ret
    exact ⟨false, rfl, fun h => absurd (congrArg List.length h) HNE.out, Below.refl _ _⟩

end Go.Proofs.YtmmkncocgjgapaaDoor.Mf

/- A contract of the library laid at this dump (written by the kit's own tool). -/
namespace Go.Proofs.YtmmkncocgjgapaaDoor
open Go.Shelf Go.RowKit
def trimL_ren : Go.Shelf.Ren := ⟨fun | 160 => 23 | 232 => 39 | 231 => 38 | 227 => 40 | 234 => 42 | 233 => 41 | 236 => 44 | 235 => 43 | 228 => 50 | 271 => 53 | 151 => 52 | 197 => 51 | 120 => 60 | 152 => 59 | 260 => 58 | 137 => 62 | 119 => 63 | 224 => 64 | 225 => 65 | 217 => 66 | 266 => 67 | n => n, fun | 9 => 9 | 4 => 4 | 3 => 3 | 5 => 5 | 117 => 83 | 116 => 82 | 0 => 0 | 124 => 86 | 21 => 21 | 105 => 95 | 46 => 87 | 119 => 106 | 139 => 109 | 138 => 108 | n => n, fun | 3 => 0 | 4 => 1 | n => n⟩
theorem trimL : Go.Proofs.Lays.n160 Tryd.prog trimL_ren := {
  mixed := by kernel_rfl
  f119 := Tryd.func63.trans (congrArg some (by kernel_rfl))
  f120 := Tryd.func60.trans (congrArg some (by kernel_rfl))
  f137 := Tryd.func62.trans (congrArg some (by kernel_rfl))
  f151 := Tryd.func52.trans (congrArg some (by kernel_rfl))
  f152 := Tryd.func59.trans (congrArg some (by kernel_rfl))
  f160 := Tryd.func23.trans (congrArg some (by kernel_rfl))
  f197 := Tryd.func51.trans (congrArg some (by kernel_rfl))
  f217 := Tryd.func66.trans (congrArg some (by kernel_rfl))
  f224 := Tryd.func64.trans (congrArg some (by kernel_rfl))
  f225 := Tryd.func65.trans (congrArg some (by kernel_rfl))
  f227 := Tryd.func40.trans (congrArg some (by kernel_rfl))
  f228 := Tryd.func50.trans (congrArg some (by kernel_rfl))
  f231 := Tryd.func38.trans (congrArg some (by kernel_rfl))
  f232 := Tryd.func39.trans (congrArg some (by kernel_rfl))
  f233 := Tryd.func41.trans (congrArg some (by kernel_rfl))
  f234 := Tryd.func42.trans (congrArg some (by kernel_rfl))
  f235 := Tryd.func43.trans (congrArg some (by kernel_rfl))
  f236 := Tryd.func44.trans (congrArg some (by kernel_rfl))
  f260 := Tryd.func58.trans (congrArg some (by kernel_rfl))
  f266 := Tryd.func67.trans (congrArg some (by kernel_rfl))
  f271 := Tryd.func53.trans (congrArg some (by kernel_rfl))
  t0 := Tryd.underlying0
  a0 := Tryd.isAgg0
  z0 := Tryd.sizeOf0
  v0 := Tryd.zeroValue0
  t3 := Tryd.underlying3
  a3 := Tryd.isAgg3
  z3 := Tryd.sizeOf3
  v3 := Tryd.zeroValue3
  t4 := Tryd.underlying4
  a4 := Tryd.isAgg4
  z4 := Tryd.sizeOf4
  v4 := Tryd.zeroValue4
  t5 := Tryd.underlying5
  a5 := Tryd.isAgg5
  z5 := Tryd.sizeOf5
  v5 := Tryd.zeroValue5
  t9 := Tryd.underlying9
  a9 := Tryd.isAgg9
  z9 := Tryd.sizeOf9
  v9 := Tryd.zeroValue9
  t21 := Tryd.underlying21
  a21 := Tryd.isAgg21
  z21 := Tryd.sizeOf21
  v21 := Tryd.zeroValue21
  t46 := Tryd.underlying87
  a46 := Tryd.isAgg87
  z46 := Tryd.sizeOf87
  v46 := Tryd.zeroValue87
  t105 := Tryd.underlying95
  a105 := Tryd.isAgg95
  z105 := Tryd.sizeOf95
  v105 := Tryd.zeroValue95
  t116 := Tryd.underlying82
  a116 := Tryd.isAgg82
  z116 := Tryd.sizeOf82
  t117 := Tryd.underlying83
  a117 := Tryd.isAgg83
  z117 := Tryd.sizeOf83
  v117 := Tryd.zeroValue83
  t119 := Tryd.underlying106
  a119 := Tryd.isAgg106
  z119 := Tryd.sizeOf106
  t124 := Tryd.underlying86
  a124 := Tryd.isAgg86
  z124 := Tryd.sizeOf86
  v124 := Tryd.zeroValue86
  t138 := Tryd.underlying108
  a138 := Tryd.isAgg108
  z138 := Tryd.sizeOf108
  v138 := Tryd.zeroValue108
  t139 := Tryd.underlying109
  a139 := Tryd.isAgg109
  z139 := Tryd.sizeOf109
  v139 := Tryd.zeroValue109
  g3 := by kernel_rfl
  g4 := by kernel_rfl }
end Go.Proofs.YtmmkncocgjgapaaDoor

/- The walks of Formed, the manifest's and the reference's. -/
namespace Go.Proofs.YtmmkncocgjgapaaDoor.Mf
open Go.RowKit

theorem all_succB {l : List UInt8} {k : Nat} (hk : k < l.length) (h : (l.take k).all okB = true) (hx : okB l[k] = true) : (l.take (k + 1)).all okB = true := by
  rw [List.take_succ_eq_append_getElem hk, List.all_append, h]
  simp [hx]
theorem all_badB {l : List UInt8} {k : Nat} (hk : k < l.length) (hx : okB l[k] = false) : l.all okB = false := by
  rw [List.all_eq_false]
  exact ⟨l[k], List.getElem_mem hk, by simp [hx]⟩
def NameLoop (s : ByteArray) (w : World) (iv : Value) (wr : World) : Prop := ∃ k : Nat, iv = .int .i64 (k : Int) ∧ k ≤ s.data.toList.length ∧ (s.data.toList.take k).all okB = true ∧ w = wr
set_option maxRecDepth 100000 in
set_option maxHeartbeats 1000000 in
theorem name_any (s : ByteArray) (w : World) (hs : s.size ≤ 4611686018427387904) : Calls Tryd.prog 25 #[.string s] w (fun e w' => e = .returned (.bool (okName s.data.toList)) ∧ w = w') := by
  go_enter Tryd.func25, Tryd.ntmps25
  go_wp2_with fail
  go_loopw [3] (fun iv wr => NameLoop s w iv wr) (fun iv _ => s.data.toList.length - (intOf iv).toNat)
  case atStart => exact ⟨0, rfl, Nat.zero_le _, rfl, rfl⟩
  case round =>
    obtain ⟨k, rfl, hk, ha, rfl⟩ := hrel
    have HA := Lib.hid ha
    clear ha
    have hsz : s.data.toList.length = s.size := by rw [Array.length_toList]; rfl
    by_cases hlt : k < s.size
    · have hlt2 : (k : Int) < (s.size : Int) := by omega
      have i0 : (0 : Int) ≤ (k : Int) := by omega
      have hkk : k < s.data.toList.length := by omega
      have hs := all_succB hkk HA.out
      have hb := all_badB hkk
      have ex : s.data.toList[k] = s[k]'hlt := by simp; rfl
      rw [ex] at hs hb
      have HS := Lib.hid hs
      have HBD := Lib.hid hb
      have HM := Lib.hid (And.intro hk hkk)
      have hx : okB (s[k]'hlt) = decide ((97 ≤ (s[k]'hlt).toNat ∧ (s[k]'hlt).toNat ≤ 122) ∨ (48 ≤ (s[k]'hlt).toNat ∧ (s[k]'hlt).toNat ≤ 57)) := by unfold okB; simp only [Bool.decide_or, Bool.decide_and]
      have HX := Lib.hid hx
      clear hx hs hb ex hk hkk
      by_cases c1 : ((s[k]'hlt).toNat : Int) < 97
      · by_cases c2 : ((s[k]'hlt).toNat : Int) < 48
        · have HN := Lib.hid (HBD.out (by rw [HX.out]; simp; omega))
          go_wp2_with fail
          go_ret
          exact ⟨by unfold okName; rw [HN.out]; simp, rfl⟩
        · by_cases c3 : 57 < ((s[k]'hlt).toNat : Int)
          · have HN := Lib.hid (HBD.out (by rw [HX.out]; simp; omega))
            go_wp2_with fail
            go_ret
            exact ⟨by unfold okName; rw [HN.out]; simp, rfl⟩
          · go_wp2_with fail
            go_roundw
            case rel => exact ⟨k + 1, by go_num, HM.out.2, HS.out (by rw [HX.out]; simp; omega), rfl⟩
            case measure => have := HM.out.2; simp [intOf]; omega
      · by_cases c2 : 122 < ((s[k]'hlt).toNat : Int)
        · have c3 : 57 < ((s[k]'hlt).toNat : Int) := by omega
          have c4 : ¬ ((s[k]'hlt).toNat : Int) < 48 := by omega
          have HN := Lib.hid (HBD.out (by rw [HX.out]; simp; omega))
          go_wp2_with fail
          go_ret
          exact ⟨by unfold okName; rw [HN.out]; simp, rfl⟩
        · go_wp2_with fail
          go_roundw
          case rel => exact ⟨k + 1, by go_num, HM.out.2, HS.out (by rw [HX.out]; simp; omega), rfl⟩
          case measure => have := HM.out.2; simp [intOf]; omega
    · have hlt2 : ¬ (k : Int) < (s.size : Int) := by omega
      have hall : s.data.toList.all okB = true := by have := HA.out; rw [List.take_of_length_le (by omega)] at this; exact this
      have HL := Lib.hid hall
      have HZ := Lib.hid hsz
      clear hall hlt hk hsz
      by_cases c1 : (1 : Int) ≤ (s.size : Int)
      · by_cases c2 : (s.size : Int) ≤ 8
        · have HN := Lib.hid (show okName s.data.toList = true from by unfold okName; rw [HL.out, HZ.out]; simp; omega)
          go_wp2_with fail
          go_ret
          exact ⟨by rw [HN.out]; first | rfl | (simp; done) | (simp; omega), rfl⟩
        · have HN := Lib.hid (show okName s.data.toList = false from by unfold okName; rw [HL.out, HZ.out]; simp; omega)
          go_wp2_with fail
          go_ret
          exact ⟨by rw [HN.out]; first | rfl | (simp; done) | (simp; omega), rfl⟩
      · have HN := Lib.hid (show okName s.data.toList = false from by unfold okName; rw [HL.out, HZ.out]; simp; omega)
        go_wp2_with fail
        go_ret
        exact ⟨by rw [HN.out]; first | rfl | (simp; omega), rfl⟩

end Go.Proofs.YtmmkncocgjgapaaDoor.Mf

/- Regions that draw their order: an operation that reads may be taken first if what can come ahead of it keeps what it reads; what comes behind it need not. No condition. -/
namespace Go.Proofs.YtmmkncocgjgapaaDoor
open Go.RowKit

section
variable {P : Program} {ops : Array Oper} {Q : Exit → Act → World → Prop} {md : Region.Mode} {F : World → Prop} {late : Nat → Bool}

/-- Whatever order is picked from here on; F holds behind every operation that is not late. -/
def AnyS (P : Program) (md : Region.Mode) (ops : Array Oper) (Q : Exit → Act → World → Prop) (F : World → Prop) (late : Nat → Bool) : Nat → Array Bool → Act → World → Prop
  | 0, listed, a, w => Region.ready md ops listed = [] ∧ Q .normal a w
  | f + 1, listed, a, w => (Region.ready md ops listed = [] → Q .normal a w) ∧
      ∀ i ∈ Region.ready md ops listed, wpOp P ops Q i (fun a' w' => (late i = false → F w') ∧ AnyS P md ops Q F late f (listed.setIfInBounds i true) a' w') a w

theorem any_of_S : ∀ (f : Nat) (listed : Array Bool) (a : Act) (w : World), AnyS P md ops Q F late f listed a w → wpAny P md ops Q f listed a w
  | 0, _, _, _, h => h
  | f + 1, _, _, _, h => ⟨h.1, fun i hi => wpOp_mono (fun a' w' h' => any_of_S f _ a' w' h'.2) (h.2 i hi)⟩

/-- All that can come up without operation i. -/
def withoutIt (md : Region.Mode) (ops : Array Oper) (i : Nat) (listed : Array Bool) : Array Bool :=
  (List.range ops.size).foldl (fun C j => if j != i && ((ops[j]?).map (·.after.all fun e => !Region.binds md e || C.getD e.on false)).getD false then C.setIfInBounds j true else C) listed
/-- C is closed, but for i, and holds no late one. -/
def closedB (md : Region.Mode) (ops : Array Oper) (late : Nat → Bool) (listed : Array Bool) (i : Nat) (C : Array Bool) : Bool :=
  ((List.range listed.size).all fun j => !listed.getD j false || C.getD j false) &&
  ((List.range ops.size).all fun j => j == i || C.getD j false || ((ops[j]?).map (·.after.any fun e => Region.binds md e && !C.getD e.on false)).getD true) &&
  ((List.range C.size).all fun j => !C.getD j false || listed.getD j false || !late j)
def takeB (md : Region.Mode) (ops : Array Oper) (late : Nat → Bool) (listed : Array Bool) (i : Nat) : Bool :=
  Region.noSelect ops && Region.free md ops listed i && (Region.ready md ops listed).contains i && closedB md ops late listed i (withoutIt md ops i listed)

theorem getD_lt {A : Array Bool} {j : Nat} (h : A.getD j false = true) : j < A.size := by
  rcases Nat.lt_or_ge j A.size with h' | h'
  · exact h'
  · simp [Array.getElem?_eq_none h'] at h
theorem closed_spec {listed C : Array Bool} {i : Nat} (h : closedB md ops late listed i C = true) :
    (∀ j, listed.getD j false = true → C.getD j false = true) ∧
    (∀ j oj, ops[j]? = some oj → j ≠ i → C.getD j false = false → ∃ e ∈ oj.after, Region.binds md e = true ∧ C.getD e.on false = false) ∧
    (∀ j, C.getD j false = true → listed.getD j false = false → late j = false) := by
  unfold closedB at h
  simp only [Bool.and_eq_true, List.all_eq_true, List.mem_range] at h
  obtain ⟨⟨h1, h2⟩, h3⟩ := h
  refine ⟨fun j hj => ?_, fun j oj hj hne hC => ?_, fun j hj hl => ?_⟩
  · have := h1 j (getD_lt hj)
    rw [hj] at this
    simpa using this
  · have := h2 j (Array.getElem?_eq_some_iff.1 hj).1
    rw [hj, hC] at this
    have hb : (j == i) = false := by simpa using hne
    rw [hb] at this
    simp only [Bool.or_false, Bool.false_or, Option.map_some, Option.getD_some, Array.any_eq_true', Bool.and_eq_true, Bool.not_eq_true'] at this
    obtain ⟨e, he, hb, hc⟩ := this
    exact ⟨e, he, hb, hc⟩
  · have := h3 j (getD_lt hj)
    rw [hj, hl] at this
    simpa using this

theorem anyS_first {i : Nat} {oi : Oper} {v : Value} (C : Array Bool) (hi : ops[i]? = some oi) (hsel : ∀ (j : Nat) (o : Oper) cs b, ops[j]? = some o → o.op ≠ .select cs b)
    (hQ : ∀ c a w, Q (.panic c) (a.put oi.dst v) w → Q (.panic c) a w)
    (hC : ∀ j oj, ops[j]? = some oj → j ≠ i → C.getD j false = false → ∃ e ∈ oj.after, Region.binds md e = true ∧ C.getD e.on false = false) :
    ∀ (f : Nat) (listed : Array Bool) (a : Act) (w : World),
      (∀ j, listed.getD j false = true → C.getD j false = true) → (∀ j, C.getD j false = true → listed.getD j false = false → late j = false) →
      (∀ j oj, ops[j]? = some oj → j ≠ i → listed.getD j true = false → (∀ e ∈ oj.after, Region.binds md e = true → e.on ≠ i) → oi.apart ops oj = true) →
      i ∈ Region.ready md ops listed → YieldsIf P ops F oi v a → F w →
      AnyS P md ops Q F late f (listed.setIfInBounds i true) (a.put oi.dst v) w → AnyS P md ops Q F late (f + 1) listed a w := by
  intro f
  induction f with
  | zero =>
    intro listed a w hsub hlate _ hr hy hF H
    refine ⟨fun h => (by rw [h] at hr; cases hr), fun j hj => ?_⟩
    by_cases hji : j = i
    · subst hji; exact hy.wpOp hi hF ⟨fun _ => hF, H⟩
    · have := ready_mono hj hji
      rw [H.1] at this
      cases this
  | succ f ih =>
    intro listed a w hsub hlate hfree hr hy hF H
    refine ⟨fun h => (by rw [h] at hr; cases hr), fun j hj => ?_⟩
    by_cases hji : j = i
    · subst hji; exact hy.wpOp hi hF ⟨fun _ => hF, H⟩
    · have h1 := H.2 j (ready_mono hj hji)
      obtain ⟨hjun, oj, hoj, hall⟩ := mem_ready.1 hj
      have hjC : C.getD j false = true := by
        cases hc : C.getD j false with
        | true => rfl
        | false =>
          obtain ⟨e, he, hb, hn⟩ := hC j oj hoj hji hc
          rw [hsub _ (hall e he hb)] at hn
          cases hn
      have hjl : late j = false := hlate j hjC (getD_both hjun)
      have hnot : ∀ e ∈ oj.after, Region.binds md e = true → e.on ≠ i := fun e he hb heq => by
        have h1 := hall e he hb
        have h0 := (mem_ready.1 hr).1
        rw [heq] at h1
        rw [getD_both h0] at h1
        cases h1
      have h2 := wpOp_putIf hoj (hfree j oj hoj hji hjun hnot) (fun cs b => hsel i oi cs b hi) (fun cs b => hsel j oj cs b hoj) hQ hy h1
      have hfree' : ∀ k ok, ops[k]? = some ok → k ≠ i → (listed.setIfInBounds j true).getD k true = false →
          (∀ e ∈ ok.after, Region.binds md e = true → e.on ≠ i) → oi.apart ops ok = true := fun k ok hk hki hun hno => by
        refine hfree k ok hk hki ?_ hno
        by_cases hjk : j = k
        · subst hjk; exact hjun
        · rw [getD_set_ne true hjk] at hun; exact hun
      have hsub' : ∀ k, (listed.setIfInBounds j true).getD k false = true → C.getD k false = true := fun k hk => by
        by_cases hjk : j = k
        · subst hjk; exact hjC
        · rw [getD_set_ne false hjk] at hk; exact hsub k hk
      have hlate' : ∀ k, C.getD k false = true → (listed.setIfInBounds j true).getD k false = false → late k = false := fun k hk hn => by
        refine hlate k hk ?_
        cases hl : listed.getD k false with
        | false => rfl
        | true => rw [getD_set_true hl] at hn; cases hn
      refine wpOp_mono (fun a' w' h3 => ⟨fun _ => h3.2.1 hjl, ih (listed.setIfInBounds j true) a' w' hsub' hlate' hfree' (ready_mono hr (Ne.symm hji)) h3.1 (h3.2.1 hjl) ?_⟩) h2
      rw [Array.setIfInBounds_comm _ _ hji]
      exact h3.2.2

theorem anyS_take {i : Nat} {oi : Oper} {v : Value} {f : Nat} {listed : Array Bool} {a : Act} {w : World} (hi : ops[i]? = some oi) (ht : takeB md ops late listed i = true)
    (hQ : ∀ c a w, Q (.panic c) (a.put oi.dst v) w → Q (.panic c) a w) (hy : YieldsIf P ops F oi v a) (hF : F w)
    (h : AnyS P md ops Q F late f (listed.setIfInBounds i true) (a.put oi.dst v) w) : AnyS P md ops Q F late (f + 1) listed a w := by
  unfold takeB at ht
  simp only [Bool.and_eq_true] at ht
  obtain ⟨⟨⟨h1, h2⟩, h3⟩, h4⟩ := ht
  obtain ⟨c1, c2, c3⟩ := closed_spec h4
  exact anyS_first _ hi (Region.noSelect_spec h1) hQ c2 f listed a w c1 c3 (Region.free_spec hi h2) (by simpa using h3) hy hF h

theorem regS_begin {id : Nat} {a : Act} {w : World} (F : World → Prop) (late : Nat → Bool) (hm : P.follows .mixedOrders = true) (hF : F w.drew)
    (h : F w.drew → AnyS P .any ops Q F late ops.size (Array.replicate ops.size false) a w.drew) : (Code.region id ops true).wp P Q a w :=
  wp_region_any hm (any_of_S _ _ _ _ (h hF))

/-- One alone may come up: it is carried out. -/
theorem anyS_one (j : Nat) {oj : Oper} {f : Nat} {listed : Array Bool} {a : Act} {w : World} (hr : Region.ready md ops listed = [j]) (hj : ops[j]? = some oj)
    (h : ∀ K' : Act → World → Prop, Shut (∀ a w, (late j = false → F w) → ((late j = false → F w) → AnyS P md ops Q F late f (listed.setIfInBounds j true) a w) → K' a w) →
      if Region.wanted oj (yielded ops a.tmps) = true then Oper.wp P oj a w K' Q else K' (a.put oj.dst undef) w) : AnyS P md ops Q F late (f + 1) listed a w := by
  refine ⟨fun h0 => (by rw [hr] at h0; cases h0), fun i hi => ?_⟩
  rw [hr] at hi
  obtain rfl := List.mem_singleton.1 hi
  exact wpOp_step hj (fun K' hK => h K' (fun a w h1 h2 => hK a w ⟨h1, h2 h1⟩))

/-- What is left comes up in its order, all of it late. -/
theorem anyS_seq : ∀ (l : List Oper) (k : Nat) (listed : Array Bool) (a : Act) (w : World), (∀ j, l[j]? = ops[k + j]?) → (∀ j, k ≤ j → late j = true) →
    Region.seqB md ops l.length k listed = true → wpList P ops Q l a w → AnyS P md ops Q F late l.length listed a w
  | [], _, _, _, _, _, _, hB, h => ⟨by simpa [Region.seqB] using hB, h⟩
  | o :: l, k, listed, a, w, hl, hk, hB, h => by
    have h0 : ops[k]? = some o := by simpa using (hl 0).symm
    simp only [List.length_cons, Region.seqB, Bool.and_eq_true, decide_eq_true_eq] at hB
    refine ⟨fun h1 => (by rw [hB.1] at h1; cases h1), fun i hi => ?_⟩
    rw [hB.1] at hi
    have hik : i = k := by simpa using hi
    subst hik
    have hw : wpOp P ops Q i (wpList P ops Q l) a w := by unfold wpOp; simp only [h0]; exact h
    exact wpOp_mono (fun a' w' h' => ⟨fun h => (by rw [hk i (Nat.le_refl _)] at h; cases h), anyS_seq l (i + 1) _ a' w' (fun j => by have := hl (j + 1); simpa [Nat.add_assoc, Nat.add_comm 1 j] using this) (fun j hj => hk j (by omega)) hB.2 h'⟩) hw

theorem anyS_done {f : Nat} {listed : Array Bool} {a : Act} {w : World} (hr : Region.ready md ops listed = []) (h : Q .normal a w) : AnyS P md ops Q F late f listed a w := by
  cases f with
  | zero => exact ⟨hr, h⟩
  | succ f => exact ⟨fun _ => h, by rw [hr]; simp⟩
/-- What is left is late: then another F and another reckoning of lateness will do. -/
theorem anyS_switch {F' : World → Prop} {late' : Nat → Bool} : ∀ (f : Nat) (listed : Array Bool) (a : Act) (w : World), (∀ i, listed.getD i true = false → late i = true) → AnyS P md ops Q F' late' f listed a w → AnyS P md ops Q F late f listed a w
  | 0, _, _, _, _, h => h
  | f + 1, listed, a, w, hl, h => ⟨h.1, fun i hi => by
      have hi0 := (mem_ready.1 hi).1
      refine wpOp_mono (fun a' w' h' => ⟨fun h0 => (by rw [hl i hi0] at h0; cases h0), anyS_switch f _ a' w' (fun j hj => hl j ?_) h'.2⟩) (h.2 i hi)
      by_cases hij : i = j
      · subst hij; exact hi0
      · rwa [getD_set_ne true hij] at hj⟩

/-- The operations from k on, so many, may be taken one behind the other. -/
def takesB (md : Region.Mode) (ops : Array Oper) (late : Nat → Bool) : Nat → Nat → Array Bool → Bool
  | 0, _, _ => true
  | f + 1, k, listed => takeB md ops late listed k && takesB md ops late f (k + 1) (listed.setIfInBounds k true)
def setAll : Nat → Nat → Array Bool → Array Bool
  | 0, _, listed => listed
  | f + 1, k, listed => setAll f (k + 1) (listed.setIfInBounds k true)

/-- What an operation does to a frame in which another one's place is already filled, it does to the frame without. Y: what is known of the frame. -/
theorem wpOp_ahead {j : Nat} {d : Option Tmp} {oj : Oper} {v : Value} {Y : Act → Prop} (hj : ops[j]? = some oj) (h1 : ∀ e, d = some e → e ∉ oj.looksAt ops) (h2 : ∀ e, d = some e → oj.dst ≠ some e)
    (hsj : ∀ cs b, oj.op ≠ .select cs b) (hY : ∀ a u, Y a → Y (a.put oj.dst u)) (hD : ∀ (a : Act) x, Y a → Y { a with defers := x :: a.defers })
    (hQ : ∀ c a w, Q (.panic c) (Act.put a d v) w → Q (.panic c) a w) {K : Act → World → Prop} {a : Act} {w : World} (hy : Y a) (h : wpOp P ops Q j K (a.put d v) w) :
    wpOp P ops Q j (fun a' w' => Y a' ∧ K (a'.put d v) w') a w := by
  unfold wpOp at *
  simp only [hj] at *
  rw [wanted_put oj a d v h1] at h
  by_cases hw : Region.wanted oj (yielded ops a.tmps) = true
  · rw [if_pos hw] at h ⊢
    have hx := execOp_put oj hsj a d v h1
    rcases h with h | ⟨ha, hl⟩
    · left
      unfold Oper.wp at *
      rw [hx] at h
      generalize (execOp a.eval oj).run P w = r at *
      match r with
      | .ok (.value u) w' =>
        simp only [Oper.upon] at h ⊢
        exact ⟨hY a u hy, (Act.put_comm a v u h2) ▸ h⟩
      | .ok .skip w' =>
        simp only [Oper.upon] at h ⊢
        exact ⟨hY a undef hy, (Act.put_comm a v undef h2) ▸ h⟩
      | .ok (.defer x) w' =>
        simp only [Oper.upon] at h ⊢
        refine ⟨hY _ _ (hD a x hy), ?_⟩
        rw [← Act.put_comm _ v undef h2, ← Act.put_defers]
        exact h
      | .ok (.enter f args) w' =>
        simp only [Oper.upon] at h ⊢
        refine h.mono fun e w2 he => ?_
        match e, he with
        | .returned u, he => exact ⟨hY a u hy, (Act.put_comm a v u h2) ▸ he⟩
        | .panicked c, he => exact hQ _ _ _ he
        | .outgrown, he => exact he
      | .ok (.row row args) w' =>
        simp only [Oper.upon] at h ⊢
        exact Rows.mono h fun u w2 he => ⟨hY a u hy, (Act.put_comm a v u h2) ▸ he⟩
      | .halt (.panic u) w' =>
        simp only [Oper.upon] at h ⊢
        exact hQ _ _ _ h
    · right
      refine ⟨?_, hl⟩
      unfold Oper.asks at *
      rw [hx] at ha
      exact ha
  · rw [if_neg hw] at h ⊢
    exact ⟨hY a undef hy, (Act.put_comm a v undef h2) ▸ h⟩

theorem anyS_takeAt {w0 : World} {i : Nat} {oi : Oper} {v : Value} (C : Array Bool) (hi : ops[i]? = some oi) (hsel : ∀ (j : Nat) (o : Oper) cs b, ops[j]? = some o → o.op ≠ .select cs b)
    (hQ : ∀ c a w, Q (.panic c) (Act.put a oi.dst v) w → Q (.panic c) a w)
    (hC : ∀ j oj, ops[j]? = some oj → j ≠ i → C.getD j false = false → ∃ e ∈ oj.after, Region.binds md e = true ∧ C.getD e.on false = false) :
    ∀ (f : Nat) (listed : Array Bool) (a : Act),
      (∀ j, listed.getD j false = true → C.getD j false = true) → (∀ j, C.getD j false = true → listed.getD j false = false → late j = false) →
      (∀ j oj, ops[j]? = some oj → j ≠ i → listed.getD j true = false → (∀ e ∈ oj.after, Region.binds md e = true → e.on ≠ i) → oi.apart ops oj = true) →
      i ∈ Region.ready md ops listed → YieldsAt P ops w0 oi v a →
      AnyS P md ops Q (fun w' => w' = w0) late f (listed.setIfInBounds i true) (a.put oi.dst v) w0 → AnyS P md ops Q (fun w' => w' = w0) late (f + 1) listed a w0 := by
  intro f
  induction f with
  | zero =>
    intro listed a hsub hlate _ hr hy H
    refine ⟨fun h => (by rw [h] at hr; cases hr), fun j hj => ?_⟩
    by_cases hji : j = i
    · subst hji
      exact wpOp_of_stOp (K := fun a' => AnyS P md ops Q (fun w' => w' = w0) late 0 (listed.setIfInBounds j true) a' w0) (fun a' h' => ⟨fun _ => rfl, h'⟩) (hy.stOp hi H)
    · have := ready_mono hj hji
      rw [H.1] at this
      cases this
  | succ f ih =>
    intro listed a hsub hlate hfree hr hy H
    refine ⟨fun h => (by rw [h] at hr; cases hr), fun j hj => ?_⟩
    by_cases hji : j = i
    · subst hji
      exact wpOp_of_stOp (K := fun a' => AnyS P md ops Q (fun w' => w' = w0) late (f + 1) (listed.setIfInBounds j true) a' w0) (fun a' h' => ⟨fun _ => rfl, h'⟩) (hy.stOp hi H)
    · have h1 := H.2 j (ready_mono hj hji)
      obtain ⟨hjun, oj, hoj, hall⟩ := mem_ready.1 hj
      have hjC : C.getD j false = true := by
        cases hc : C.getD j false with
        | true => rfl
        | false =>
          obtain ⟨e, he, hb, hn⟩ := hC j oj hoj hji hc
          rw [hsub _ (hall e he hb)] at hn
          cases hn
      have hjl : late j = false := hlate j hjC (getD_both hjun)
      have hnot : ∀ e ∈ oj.after, Region.binds md e = true → e.on ≠ i := fun e he hb heq => by
        have h1 := hall e he hb
        have h0 := (mem_ready.1 hr).1
        rw [heq] at h1
        rw [getD_both h0] at h1
        cases h1
      obtain ⟨p1, p2, p3⟩ := Oper.apart_spec (hfree j oj hoj hji hjun hnot)
      have h2 := wpOp_ahead (Y := fun a => YieldsAt P ops w0 oi v a) hoj p1 p2 (fun cs b => hsel j oj cs b hoj)
        (fun a u hy => hy.of_same (execOp_put oi (fun cs b => hsel i oi cs b hi) a oj.dst u p3) (wanted_put oi a oj.dst u p3)) (fun a x hy => hy.of_same rfl rfl) hQ hy h1
      have hfree' : ∀ k ok, ops[k]? = some ok → k ≠ i → (listed.setIfInBounds j true).getD k true = false →
          (∀ e ∈ ok.after, Region.binds md e = true → e.on ≠ i) → oi.apart ops ok = true := fun k ok hk hki hun hno => by
        refine hfree k ok hk hki ?_ hno
        by_cases hjk : j = k
        · subst hjk; exact hjun
        · rw [getD_set_ne true hjk] at hun; exact hun
      have hsub' : ∀ k, (listed.setIfInBounds j true).getD k false = true → C.getD k false = true := fun k hk => by
        by_cases hjk : j = k
        · subst hjk; exact hjC
        · rw [getD_set_ne false hjk] at hk; exact hsub k hk
      have hlate' : ∀ k, C.getD k false = true → (listed.setIfInBounds j true).getD k false = false → late k = false := fun k hk hn => by
        refine hlate k hk ?_
        cases hl : listed.getD k false with
        | false => rfl
        | true => rw [getD_set_true hl] at hn; cases hn
      refine wpOp_mono (fun a' w' h3 => ?_) h2
      have hw' : w' = w0 := h3.2.1 hjl
      subst hw'
      refine ⟨fun _ => rfl, ih (listed.setIfInBounds j true) a' hsub' hlate' hfree' (ready_mono hr (Ne.symm hji)) h3.1 ?_⟩
      rw [Array.setIfInBounds_comm _ _ hji]
      exact h3.2.2

theorem anyS_still {w : World} {Lq : Act → Prop} {g : Nat} (hQ : ∀ c a d v w, Q (.panic c) (Act.put a d v) w → Q (.panic c) a w) : ∀ (l : List Oper) (k : Nat) (listed : Array Bool) (a : Act), (∀ j, j < l.length → l[j]? = ops[k + j]?) →
    takesB md ops late l.length k listed = true → wpStill P ops w Lq l a → (∀ a', Lq a' → AnyS P md ops Q (fun w' => w' = w) late g (setAll l.length k listed) a' w) → AnyS P md ops Q (fun w' => w' = w) late (l.length + g) listed a w
  | [], k, listed, a, _, _, h, hn => by
    rw [List.length_nil, Nat.zero_add]
    exact hn a h
  | o :: l, k, listed, a, hl, hB, h, hn => by
    have h0 : ops[k]? = some o := by simpa using (hl 0 (by simp)).symm
    simp only [List.length_cons, takesB, Bool.and_eq_true] at hB
    have hst : stOp P ops w k (wpStill P ops w Lq l) a := by unfold stOp; simp only [h0]; exact h
    obtain ⟨v, hy, hK⟩ := yieldsAt_of_stOp h0 hst
    rw [List.length_cons, show l.length + 1 + g = (l.length + g) + 1 from by omega]
    have ht := hB.1
    unfold takeB at ht
    simp only [Bool.and_eq_true] at ht
    obtain ⟨⟨⟨t1, t2⟩, t3⟩, t4⟩ := ht
    obtain ⟨c1, c2, c3⟩ := closed_spec t4
    refine anyS_takeAt _ h0 (Region.noSelect_spec t1) (fun c a w h => hQ c a _ _ w h) c2 _ listed a c1 c3 (Region.free_spec h0 t2) (by simpa using t3) hy ?_
    exact anyS_still hQ l (k + 1) _ _ (fun j hj => by have := hl (j + 1) (by simp; omega); simpa [Nat.add_assoc, Nat.add_comm 1 j] using this) hB.2 hK (by simpa [setAll] using hn)

theorem wpStill_mono {w : World} {L L' : Act → Prop} (hL : ∀ a, L a → L' a) : ∀ {l : List Oper} {a : Act}, wpStill P ops w L l a → wpStill P ops w L' l a := by
  intro l
  induction l with
  | nil => intro a h; exact hL a h
  | cons o l ih =>
    intro a h
    unfold wpStill at h ⊢
    split at h
    · rename_i hw
      rw [if_pos hw]
      exact Oper.still_mono (fun a h => ih h) h
    · rename_i hw
      rw [if_neg hw]
      exact ih h

/-- n operations that read, one that does what it does, and others that read. -/
def stillOneB (ops : Array Oper) (n : Nat) : Bool :=
  let L := setAll n 0 (Array.replicate ops.size false)
  takesB .any ops (fun i => decide (n ≤ i)) n 0 (Array.replicate ops.size false) && decide (Region.ready .any ops L = [n]) && ((List.range ops.size).all fun i => L.getD i true || decide (n ≤ i)) && decide (L.size = ops.size) &&
    takesB .any ops (fun _ => false) (ops.size - (n + 1)) (n + 1) (L.setIfInBounds n true) && (Region.ready .any ops (setAll (ops.size - (n + 1)) (n + 1) (L.setIfInBounds n true))).isEmpty

theorem wp_region_still_one {id : Nat} {a : Act} {w : World} {l : List Oper} (n : Nat) {o : Oper} (hm : P.follows .mixedOrders = true) (ho : l[n]? = some o) (hB : stillOneB l.toArray n = true)
    (hQ : ∀ c a d v w, Q (.panic c) (Act.put a d v) w → Q (.panic c) a w)
    (h : wpStill P l.toArray w.drew (fun a' => ∀ K : Act → World → Prop, Shut (∀ a w', wpStill P l.toArray w' (fun a3 => Q .normal a3 w') (l.drop (n + 1)) a → K a w') →
      if Region.wanted o (yielded l.toArray a'.tmps) = true then Oper.wp P o a' w.drew K Q else K (a'.put o.dst undef) w.drew) (l.take n) a) : (Code.region id l.toArray true).wp P Q a w := by
  have hn : n < l.length := (List.getElem?_eq_some_iff.1 ho).1
  have htl : (l.take n).length = n := by simp; omega
  have hdl : (l.drop (n + 1)).length = l.toArray.size - (n + 1) := by simp
  simp only [stillOneB, Bool.and_eq_true, decide_eq_true_eq] at hB
  obtain ⟨⟨⟨⟨⟨h1, h2⟩, h3⟩, h4⟩, h5⟩, h6⟩ := hB
  refine regS_begin (fun w' => w' = w.drew) (fun i => decide (n ≤ i)) hm rfl (fun _ => ?_)
  have hsz : l.toArray.size = (l.take n).length + (l.toArray.size - n) := by rw [htl]; simp; omega
  have key : AnyS P .any l.toArray Q (fun w' => w' = w.drew) (fun i => decide (n ≤ i)) ((l.take n).length + (l.toArray.size - n)) (Array.replicate l.toArray.size false) a w.drew := by
    refine anyS_still hQ (l.take n) 0 _ a (fun j hj => by rw [htl] at hj; simp [hj]) (by rw [htl]; exact h1) h (fun a' ha' => ?_)
    rw [htl]
    rw [show l.toArray.size - n = (l.toArray.size - (n + 1)) + 1 from by simp; omega]
    refine anyS_one n h2 (by simpa using ho) (fun K' hK' => ?_)
    refine ha' K' (fun a2 w2 hs => hK'.out a2 w2 (fun h0 => by simp at h0) (fun _ => ?_))
    refine anyS_switch (F' := fun w' => w' = w2) (late' := fun _ => false) _ _ _ _ (fun i hi => ?_) ?_
    · by_cases hin : n = i
      · simp [hin]
      · rw [getD_set_ne true hin] at hi
        rcases Nat.lt_or_ge i l.toArray.size with hlt | hge
        · have := List.all_eq_true.1 h3 i (List.mem_range.2 hlt)
          rw [hi] at this
          simpa using this
        · have : n ≤ i := by have : l.toArray.size = l.length := by simp
                             omega
          simpa using this
    · have := anyS_still (P := P) (md := .any) (ops := l.toArray) (late := fun _ => false) (g := 0) (Lq := fun a3 => Q .normal a3 w2) (w := w2) hQ (l.drop (n + 1)) (n + 1) _ a2 (fun j hj => by simp) (by rw [hdl]; exact h5) hs (fun a3 h3' => ?_)
      · rw [hdl, Nat.add_zero] at this
        exact this
      · rw [hdl]
        exact anyS_done (by simpa using h6) h3'
  rw [← hsz] at key
  exact key
end

/-- A step's goal, shut in, so that nothing reckons it out by itself. -/
structure Sg (p : Prop) : Prop where
  out : p
section
variable {P : Program} {ops : Array Oper} {w : World}
theorem sg_nil {Q : Act → Prop} {a : Act} (h : Q a) : Sg (wpStill P ops w Q [] a) := ⟨h⟩
theorem sg_step {Q : Act → Prop} {a : Act} {o : Oper} {rest : List Oper}
    (h : ∀ K : Act → Prop, Sg (∀ a, Sg (wpStill P ops w Q rest a) → K a) → if Region.wanted o (yielded ops a.tmps) then o.still P a w K else K (a.put o.dst undef)) : Sg (wpStill P ops w Q (o :: rest) a) :=
  ⟨h _ ⟨fun _ h => h.out⟩⟩
theorem wp_reads {id : Nat} {Q : Exit → Act → World → Prop} {a : Act} {l : List Oper} (hm : P.follows .mixedOrders = true) (hB : Region.lexB .any l.toArray = true)
    (h : Sg (wpStill P l.toArray w.drew (fun a' => Q .normal a' w.drew) l a)) : (Code.region id l.toArray true).wp P Q a w :=
  wp_region_still_lit hm hB h.out
theorem wp_reads_one {id : Nat} {Q : Exit → Act → World → Prop} {a : Act} {l : List Oper} (n : Nat) {o : Oper} (hm : P.follows .mixedOrders = true) (ho : l[n]? = some o) (hB : stillOneB l.toArray n = true)
    (hQ : ∀ c a d v w, Q (.panic c) (Act.put a d v) w → Q (.panic c) a w)
    (h : Sg (wpStill P l.toArray w.drew (fun a' => ∀ K : Act → World → Prop, Sg (∀ a w', Sg (wpStill P l.toArray w' (fun a3 => Q .normal a3 w') (l.drop (n + 1)) a) → K a w') →
      if Region.wanted o (yielded l.toArray a'.tmps) = true then Oper.wp P o a' w.drew K Q else K (a'.put o.dst undef) w.drew) (l.take n) a)) : (Code.region id l.toArray true).wp P Q a w :=
  wp_region_still_one n hm ho hB hQ (wpStill_mono (fun _ h' K hK => h' K ⟨fun a w' hs => hK.out a w' hs.out⟩) h.out)
end

/-- A callee that leaves the world alone, as a region that reads wants it. -/
theorem Calls.still {P : Program} {f : FuncId} {args : Array Value} {w : World} {v : Value} (h : Calls P f args w fun e w' => e = .returned v ∧ w = w') : Calls P f args w fun e w' => e = .returned v ∧ w' = w :=
  h.mono fun _ _ ⟨he, hw⟩ => ⟨he, hw.symm⟩

end Go.Proofs.YtmmkncocgjgapaaDoor

/- A region that reads under a premise F, whatever order is drawn, and whose last operation alone may break F. -/
namespace Go.Proofs.YtmmkncocgjgapaaDoor
open Go.RowKit
section
variable {P : Program} {ops : Array Oper} {Q : Exit → Act → World → Prop} {F : World → Prop}

/-- The operations 'is' read, in every world of F alike. -/
def YF (P : Program) (ops : Array Oper) (F : World → Prop) (L : Act → Prop) : List Nat → Act → Prop
  | [], a => L a
  | i :: is, a => ∃ oi v, ops[i]? = some oi ∧ YieldsIf P ops F oi v a ∧ YF P ops F L is (a.put oi.dst v)
/-- The operations 'js' one behind another; F holds behind all but the last. -/
def SF (P : Program) (ops : Array Oper) (Q : Exit → Act → World → Prop) (F : World → Prop) : List Nat → Act → World → Prop
  | [], a, w => Q .normal a w
  | j :: js, a, w => ∃ o, ops[j]? = some o ∧ ∀ K : Act → World → Prop, Shut (∀ a w', (js ≠ [] → F w') → SF P ops Q F js a w' → K a w') →
      if Region.wanted o (yielded ops a.tmps) = true then Oper.wp P o a w K Q else K (a.put o.dst undef) w
def takesLB (md : Region.Mode) (ops : Array Oper) (late : Nat → Bool) : List Nat → Array Bool → Bool
  | [], _ => true
  | i :: is, listed => takeB md ops late listed i && takesLB md ops late is (listed.setIfInBounds i true)
def setL : List Nat → Array Bool → Array Bool
  | [], listed => listed
  | i :: is, listed => setL is (listed.setIfInBounds i true)
def seqLB (md : Region.Mode) (ops : Array Oper) : List Nat → Array Bool → Bool
  | [], listed => (Region.ready md ops listed).isEmpty
  | j :: js, listed => decide (Region.ready md ops listed = [j]) && seqLB md ops js (listed.setIfInBounds j true)
def lastB (js : List Nat) (j : Nat) : Bool := decide (js.getLast? = some j)
def framB (ops : Array Oper) (is js : List Nat) : Bool :=
  takesLB .any ops (lastB js) is (Array.replicate ops.size false) && seqLB .any ops js (setL is (Array.replicate ops.size false)) && decide (is.length + js.length = ops.size) && decide js.Nodup

theorem anyS_reads {late : Nat → Bool} {L : Act → Prop} {g : Nat} {w : World} (hQ : ∀ c a d v w, Q (.panic c) (Act.put a d v) w → Q (.panic c) a w) (hF : F w) : ∀ (is : List Nat) (listed : Array Bool) (a : Act),
    takesLB .any ops late is listed = true → YF P ops F L is a → (∀ a', L a' → AnyS P .any ops Q F late g (setL is listed) a' w) → AnyS P .any ops Q F late (is.length + g) listed a w
  | [], listed, a, _, h, hn => by
    rw [List.length_nil, Nat.zero_add]
    exact hn a h
  | i :: is, listed, a, hB, h, hn => by
    obtain ⟨oi, v, hi, hy, h'⟩ := h
    simp only [takesLB, Bool.and_eq_true] at hB
    rw [List.length_cons, show is.length + 1 + g = (is.length + g) + 1 from by omega]
    exact anyS_take hi hB.1 (fun c a w h => hQ c a _ _ w h) hy hF (anyS_reads hQ hF is _ _ hB.2 h' hn)
theorem anyS_rest {late : Nat → Bool} : ∀ (js : List Nat) (listed : Array Bool) (a : Act) (w : World), (∀ j, js.getLast? = some j → late j = true) →
    seqLB .any ops js listed = true → SF P ops Q F js a w → AnyS P .any ops Q F late js.length listed a w
  | [], listed, a, w, _, hB, h => anyS_done (by simpa [seqLB] using hB) h
  | j :: js, listed, a, w, hl, hB, h => by
    obtain ⟨o, ho, h⟩ := h
    simp only [seqLB, Bool.and_eq_true, decide_eq_true_eq] at hB
    rw [List.length_cons]
    refine anyS_one j hB.1 ho (fun K' hK' => h K' (fun a2 w2 hF hs => hK'.out a2 w2 (fun hlj => hF (fun e => ?_)) (fun _ => ?_)))
    · subst e
      rw [hl j rfl] at hlj
      cases hlj
    · refine anyS_rest js _ a2 w2 (fun i hi => hl i ?_) hB.2 hs
      cases js with
      | nil => cases hi
      | cons x xs => rw [List.getLast?_cons_cons]; exact hi

theorem wp_region_F {id : Nat} {a : Act} {w : World} (F : World → Prop) (is js : List Nat) (hm : P.follows .mixedOrders = true) (hB : framB ops is js = true)
    (hQ : ∀ c a d v w, Q (.panic c) (Act.put a d v) w → Q (.panic c) a w) (hF : F w.drew) (h : YF P ops F (fun a' => SF P ops Q F js a' w.drew) is a) : (Code.region id ops true).wp P Q a w := by
  simp only [framB, Bool.and_eq_true, decide_eq_true_eq] at hB
  obtain ⟨⟨⟨h1, h2⟩, h3⟩, _⟩ := hB
  refine regS_begin F (lastB js) hm hF (fun _ => ?_)
  have key := anyS_reads (late := lastB js) (g := js.length) hQ hF is _ a h1 h (fun a' ha' => anyS_rest js _ a' _ (fun j hj => by unfold lastB; simpa using hj) h2 ha')
  rw [h3] at key
  exact key

/-- The steps' goals, shut in. -/
structure Yg (p : Prop) : Prop where
  out : p
theorem yg_begin {id : Nat} {a : Act} {w : World} (F : World → Prop) (is js : List Nat) (hm : P.follows .mixedOrders = true) (hB : framB ops is js = true)
    (hQ : ∀ c a d v w, Q (.panic c) (Act.put a d v) w → Q (.panic c) a w) (hF : F w.drew) (h : Yg (YF P ops F (fun a' => SF P ops Q F js a' w.drew) is a)) : (Code.region id ops true).wp P Q a w := wp_region_F F is js hm hB hQ hF h.out
theorem yg_read {L : Act → Prop} {i : Nat} {is : List Nat} {a : Act} (oi : Oper) (v : Value) (hi : ops[i]? = some oi) (hw : Region.wanted oi (yielded ops a.tmps) = true) (hv : ∀ w, F w → (execOp a.eval oi).run P w = .ok (.value v) w) (h : Yg (YF P ops F L is (a.put oi.dst v))) : Yg (YF P ops F L (i :: is) a) :=
  ⟨oi, v, hi, .inl ⟨hw, hv⟩, h.out⟩
theorem yg_end {a : Act} {L : Act → Prop} (h : L a) : Yg (YF P ops F L [] a) := ⟨h⟩
theorem sf_step {j : Nat} {js : List Nat} {a : Act} {w : World} (o : Oper) (ho : ops[j]? = some o) (h : ∀ K : Act → World → Prop, Yg (∀ a w', (js ≠ [] → F w') → SF P ops Q F js a w' → K a w') →
      if Region.wanted o (yielded ops a.tmps) = true then Oper.wp P o a w K Q else K (a.put o.dst undef) w) : SF P ops Q F (j :: js) a w :=
  ⟨o, ho, fun K hK => h K ⟨hK⟩⟩
theorem sf_end {a : Act} {w : World} (h : Q .normal a w) : SF P ops Q F [] a w := h
end
end Go.Proofs.YtmmkncocgjgapaaDoor

/- A region taken step by step: reads under a premise F (whatever order is drawn), and operations that alone may come up; the last step alone may break F. -/
namespace Go.Proofs.YtmmkncocgjgapaaDoor
open Go.RowKit
section
variable {P : Program} {ops : Array Oper} {Q : Exit → Act → World → Prop} {F : World → Prop}

def MF (P : Program) (ops : Array Oper) (Q : Exit → Act → World → Prop) (F : World → Prop) : List (Bool × Nat) → Act → World → Prop
  | [], a, w => Q .normal a w
  | (true, i) :: s, a, w => ∃ oi v, ops[i]? = some oi ∧ YieldsIf P ops F oi v a ∧ MF P ops Q F s (a.put oi.dst v) w
  | (false, j) :: s, a, w => ∃ o, ops[j]? = some o ∧ ∀ K : Act → World → Prop, Shut (∀ a w', (s ≠ [] → F w') → MF P ops Q F s a w' → K a w') →
      if Region.wanted o (yielded ops a.tmps) = true then Oper.wp P o a w K Q else K (a.put o.dst undef) w
def mixB (md : Region.Mode) (ops : Array Oper) (late : Nat → Bool) : List (Bool × Nat) → Array Bool → Bool
  | [], listed => (Region.ready md ops listed).isEmpty
  | (true, i) :: s, listed => !s.isEmpty && takeB md ops late listed i && mixB md ops late s (listed.setIfInBounds i true)
  | (false, j) :: s, listed => decide (Region.ready md ops listed = [j]) && (s.isEmpty || !late j) && (!s.isEmpty || late j) && mixB md ops late s (listed.setIfInBounds j true)
def lastM (s : List (Bool × Nat)) (j : Nat) : Bool := decide ((s.map Prod.snd).getLast? = some j)
def mixedB (ops : Array Oper) (s : List (Bool × Nat)) : Bool :=
  mixB .any ops (lastM s) s (Array.replicate ops.size false) && decide (s.length = ops.size)

theorem anyS_mix {late : Nat → Bool} (hQ : ∀ c a d v w, Q (.panic c) (Act.put a d v) w → Q (.panic c) a w) : ∀ (s : List (Bool × Nat)) (listed : Array Bool) (a : Act) (w : World), (s ≠ [] → F w) →
    mixB .any ops late s listed = true → MF P ops Q F s a w → AnyS P .any ops Q F late s.length listed a w
  | [], listed, a, w, _, hB, h => anyS_done (by simpa [mixB] using hB) h
  | (true, i) :: s, listed, a, w, hF, hB, h => by
    obtain ⟨oi, v, hi, hy, h'⟩ := h
    simp only [mixB, Bool.and_eq_true] at hB
    have hF' := hF (by simp)
    rw [List.length_cons]
    exact anyS_take hi hB.1.2 (fun c a w h => hQ c a _ _ w h) hy hF' (anyS_mix hQ s _ _ _ (fun _ => hF') hB.2 h')
  | (false, j) :: s, listed, a, w, hF, hB, h => by
    obtain ⟨o, ho, h⟩ := h
    simp only [mixB, Bool.and_eq_true, decide_eq_true_eq, Bool.or_eq_true] at hB
    rw [List.length_cons]
    refine anyS_one j hB.1.1.1 ho (fun K' hK' => h K' (fun a2 w2 hF2 hs => hK'.out a2 w2 (fun hlj => ?_) (fun hF3 => ?_)))
    · refine hF2 (fun e => ?_)
      rcases hB.1.2 with h1 | h1
      · rw [e] at h1; simp at h1
      · rw [h1] at hlj; cases hlj
    · exact anyS_mix hQ s _ a2 w2 hF2 hB.2 hs

theorem wp_region_mix {id : Nat} {a : Act} {w : World} (F : World → Prop) (s : List (Bool × Nat)) (hm : P.follows .mixedOrders = true) (hB : mixedB ops s = true)
    (hQ : ∀ c a d v w, Q (.panic c) (Act.put a d v) w → Q (.panic c) a w) (hF : F w.drew) (h : MF P ops Q F s a w.drew) : (Code.region id ops true).wp P Q a w := by
  simp only [mixedB, Bool.and_eq_true, decide_eq_true_eq] at hB
  refine regS_begin F (lastM s) hm hF (fun _ => ?_)
  have key := anyS_mix (late := lastM s) hQ s _ a _ (fun _ => hF) hB.1 h
  rw [hB.2] at key
  exact key

theorem mx_begin {id : Nat} {a : Act} {w : World} (F : World → Prop) (s : List (Bool × Nat)) (hm : P.follows .mixedOrders = true) (hB : mixedB ops s = true)
    (hQ : ∀ c a d v w, Q (.panic c) (Act.put a d v) w → Q (.panic c) a w) (hF : F w.drew) (h : Yg (MF P ops Q F s a w.drew)) : (Code.region id ops true).wp P Q a w := wp_region_mix F s hm hB hQ hF h.out
theorem mx_read {i : Nat} {s : List (Bool × Nat)} {a : Act} {w : World} (oi : Oper) (v : Value) (hi : ops[i]? = some oi) (hw : Region.wanted oi (yielded ops a.tmps) = true) (hv : ∀ w, F w → (execOp a.eval oi).run P w = .ok (.value v) w) (h : Yg (MF P ops Q F s (a.put oi.dst v) w)) : Yg (MF P ops Q F ((true, i) :: s) a w) :=
  ⟨oi, v, hi, .inl ⟨hw, hv⟩, h.out⟩
theorem mx_skip {i : Nat} {s : List (Bool × Nat)} {a : Act} {w : World} (oi : Oper) (hi : ops[i]? = some oi) (hw : Region.wanted oi (yielded ops a.tmps) = false) (h : Yg (MF P ops Q F s (a.put oi.dst undef) w)) : Yg (MF P ops Q F ((true, i) :: s) a w) :=
  ⟨oi, undef, hi, .inr ⟨hw, rfl⟩, h.out⟩
theorem mx_one {j : Nat} {s : List (Bool × Nat)} {a : Act} {w : World} (o : Oper) (ho : ops[j]? = some o) (hw : Region.wanted o (yielded ops a.tmps) = true) (h : ∀ K : Act → World → Prop, Yg (∀ a w', (s ≠ [] → F w') → Yg (MF P ops Q F s a w') → K a w') → Oper.wp P o a w K Q) : Yg (MF P ops Q F ((false, j) :: s) a w) :=
  ⟨⟨o, ho, fun K hK => by rw [if_pos hw]; exact h K ⟨fun a w' h1 h2 => hK a w' h1 h2.out⟩⟩⟩
theorem mx_one_skip {j : Nat} {s : List (Bool × Nat)} {a : Act} {w : World} (o : Oper) (ho : ops[j]? = some o) (hF : F w) (hw : Region.wanted o (yielded ops a.tmps) = false) (h : Yg (MF P ops Q F s (a.put o.dst undef) w)) : Yg (MF P ops Q F ((false, j) :: s) a w) :=
  ⟨⟨o, ho, fun K hK => by rw [if_neg (by rw [hw]; exact Bool.false_ne_true)]; exact hK _ _ (fun _ => hF) h.out⟩⟩
theorem mx_end {a : Act} {w : World} (h : Q .normal a w) : Yg (MF P ops Q F [] a w) := ⟨h⟩
end
end Go.Proofs.YtmmkncocgjgapaaDoor
