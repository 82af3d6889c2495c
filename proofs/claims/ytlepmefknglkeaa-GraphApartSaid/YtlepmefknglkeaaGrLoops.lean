/- The walks of the reference's Degrees, of Loops, and of the reference's Ints. -/
import Derived.Test.YtlepmefknglkeaaGrDeg
import Derived.Test.YtlepmefknglkeaaGrRef
set_option linter.unusedVariables false
namespace Go.Proofs.Ytlepmefknglkeaa.Gr
open Go.RowKit

set_option maxRecDepth 100000 in
theorem degrees_no (n : Int) (l : List E2) (a : Option Addr) (m c : Nat) (w : World) (hr : ERow w a l) (hm : l.length = m) (hmm : m ≤ 9223372036854775807) (hf : formed n l = false) :
    Calls Try.prog 22 #[.agg #[.int .i64 n, .slice a m c]] w fun e w' => e = .returned (.tuple #[.slice none 0 0, .int .i64 1]) ∧ Below w.heap.size w w' := by
  subst hm
  have h0 : Below w.heap.size w (w.alloc (.cells #[.int .i64 n, .slice a l.length c] 24)) := (Below.refl w.heap.size w).alloc (Nat.le_refl _) _
  have hF := formed_any n l a l.length c _ (hr.below h0) rfl hmm
  rw [hf] at hF
  have HF := Lib.hid hF
  have H0 := Lib.hid h0
  clear hF h0 hf hr
  go_enter Try.func22, Try.ntmps22
  go_wp2_with fail
  refine HF.out.mono ?_
  rintro e w1 ⟨rfl, hb1⟩
  have H1 := Lib.hid (H0.out.trans (hb1.mono H0.out.size))
  clear hb1
  go_wp2_with fail
  go_ret2
  exact ⟨rfl, H1.out⟩

set_option maxRecDepth 100000 in
theorem loops_no (n : Int) (l : List E2) (a : Option Addr) (m c : Nat) (w : World) (hr : ERow w a l) (hm : l.length = m) (hmm : m ≤ 9223372036854775807) (hf : formed n l = false) :
    Calls Try.prog 24 #[.agg #[.int .i64 n, .slice a m c]] w fun e w' => e = .returned (.tuple #[.slice none 0 0, .int .i64 1]) ∧ Below w.heap.size w w' := by
  subst hm
  have h0 : Below w.heap.size w (w.alloc (.cells #[.int .i64 n, .slice a l.length c] 24)) := (Below.refl w.heap.size w).alloc (Nat.le_refl _) _
  have hF := formed_any n l a l.length c _ (hr.below h0) rfl hmm
  rw [hf] at hF
  have HF := Lib.hid hF
  have H0 := Lib.hid h0
  clear hF h0 hf hr
  go_enter Try.func24, Try.ntmps24
  go_wp2_with fail
  refine HF.out.mono ?_
  rintro e w1 ⟨rfl, hb1⟩
  have H1 := Lib.hid (H0.out.trans (hb1.mono H0.out.size))
  clear hb1
  go_wp2_with fail
  go_ret2
  exact ⟨rfl, H1.out⟩

set_option maxRecDepth 100000 in
theorem rdegrees_no (n : Int) (l : List E2) (a : Option Addr) (m c : Nat) (w : World) (hr : ERow w a l) (hm : l.length = m) (hmm : m ≤ 9223372036854775807) (hf : formed n l = false) :
    Calls Try.prog 23 #[.agg #[.int .i64 n, .slice a m c]] w fun e w' => e = .returned (.tuple #[.slice none 0 0, .int .i64 1]) ∧ Below w.heap.size w w' := by
  subst hm
  have h0 : Below w.heap.size w (w.alloc (.cells #[.int .i64 n, .slice a l.length c] 24)) := (Below.refl w.heap.size w).alloc (Nat.le_refl _) _
  have hF := rformed_any n l a l.length c _ (hr.below h0) rfl hmm
  rw [hf] at hF
  have HF := Lib.hid hF
  have H0 := Lib.hid h0
  clear hF h0 hf hr
  go_enter Try.func23, Try.ntmps23
  go_wp2_with fail
  refine HF.out.mono ?_
  rintro e w1 ⟨rfl, hb1⟩
  have H1 := Lib.hid (H0.out.trans (hb1.mono H0.out.size))
  clear hb1
  go_wp2_with fail
  go_ret2
  exact ⟨rfl, H1.out⟩

theorem own_mono {w : World} {base base' size n : Nat} {e : TypeId} {v : Value} {xs : List Value} (h : w.ownsRow base e size v n xs) (hb : base' ≤ base) : w.ownsRow base' e size v n xs := by
  refine ⟨h.1, ?_⟩
  rcases h.2 with h2 | ⟨g, cap, cur, rfl, hg, r⟩
  · exact .inl h2
  · exact .inr ⟨g, cap, cur, rfl, by omega, r⟩

theorem degs_succ (k : Nat) (l : List E2) : degs (k + 1) l = degs k l ++ [.int .i64 (cnt l (k : Int) : Int)] := by
  simp [degs, tab, List.range_succ]
theorem degs_one (k : Nat) (l : List E2) : ∀ u ∈ degs k l, u.oneCell' = true := by
  intro u hu
  simp [degs, tab] at hu
  obtain ⟨_, _, rfl⟩ := hu
  rfl

def RDegLoop (N : Nat) (l : List E2) (W : World) (ov iv : Value) (wr : World) : Prop :=
  ∃ k : Nat, iv = .int .i64 (k : Int) ∧ k ≤ N ∧ wr.ownsRow W.heap.size 3 1 ov k (degs k l) ∧ Below W.heap.size W wr
def RDegIn (l : List E2) (v : Nat) (wr0 : World) (nv iv : Value) (wr : World) : Prop :=
  ∃ i : Nat, iv = .int .i64 (i : Int) ∧ nv = .int .i64 (cnt (l.take i) (v : Int) : Int) ∧ i ≤ l.length ∧ wr0 = wr

set_option maxRecDepth 100000 in
set_option maxHeartbeats 1000000 in
theorem rdegrees_ok (N : Nat) (l : List E2) (a : Option Addr) (m c : Nat) (w : World) (hr : ERow w a l) (hm : l.length = m) (hmm : m ≤ 9223372036854775807) (hf : formed N l = true) :
    Calls Try.prog 23 #[.agg #[.int .i64 (N : Int), .slice a m c]] w (Degd N l w) := by
  subst hm
  have h0 : Below w.heap.size w (w.alloc (.cells #[.int .i64 (N : Int), .slice a l.length c] 24)) := (Below.refl w.heap.size w).alloc (Nat.le_refl _) _
  have hF := rformed_any N l a l.length c _ (hr.below h0) rfl hmm
  rw [hf] at hF
  have HF := Lib.hid hF
  have B0 := Lib.hid (Blk.new w 24 #[.int .i64 (N : Int), .slice a l.length c])
  have H0 := Lib.hid h0
  have HR := Lib.hid (hr.below h0)
  have hfm : (N : Int) ≤ 1073741824 ∧ l.length ≤ 1073741824 := by
    unfold formed small at hf
    simp only [Bool.and_eq_true, decide_eq_true_eq, List.all_eq_true] at hf
    exact ⟨hf.1.1.2, by omega⟩
  obtain ⟨s1, s2⟩ := hfm
  clear hF h0 hf hr
  go_enter Try.func23, Try.ntmps23
  go_wp2_with fail
  generalize w.alloc (.cells #[.int .i64 (N : Int), .slice a l.length c] 24) = W0 at *
  refine HF.out.mono ?_
  rintro e W ⟨rfl, hb1⟩
  have B1 := Lib.hid (B0.out.below hb1 B0.out.lt)
  have H1 := Lib.hid (H0.out.trans (hb1.mono H0.out.size))
  have HR1 := Lib.hid (HR.out.below hb1)
  clear hb1 HF HR B0
  go_wp2_with fail
  go_loopw [4, 5] (fun ov iv wr => RDegLoop N l W ov iv wr) (fun _ iv _ => N - (intOf iv).toNat)
  case atStart => exact ⟨0, rfl, by omega, World.ownsRow_nil _ _ _ _, Below.refl _ _⟩
  case round =>
    obtain ⟨k, rfl, hk, hown, hb⟩ := hrel
    have B2 := B1.out.below hb B1.out.lt
    have g0 : wr.cell? ⟨w.heap.size, 0, none⟩ = some (.int .i64 (N : Int)) := B2.cell 0
    have g1 : wr.cell? ⟨w.heap.size, 1, none⟩ = some (.slice a l.length c) := B2.cell 1
    have HR2 := Lib.hid (HR1.out.below' hb)
    have HB := Lib.hid hb
    have HO := Lib.hid hown
    have HK := Lib.hid hk
    clear hb hown hk B2
    by_cases hlt : (k : Int) < N
    · have hk0 : (0 : Int) ≤ (k : Int) := by omega
      go_wp2_with fail
      go_loopw [6, 7] (fun nv iv wr' => RDegIn l k wr nv iv wr') (fun _ iv _ => l.length - (intOf iv).toNat)
      case atStart => exact ⟨0, rfl, by simp [cnt], by omega, rfl⟩
      case round =>
        obtain ⟨i, rfl, rfl, hi, rfl⟩ := hrel
        by_cases hlt2 : (i : Int) < l.length
        · have k1 : i < l.length := by omega
          obtain ⟨b1, o1, rfl, c1, c2, hbl⟩ := HR2.out i k1
          have hi0 : (0 : Int) ≤ (i : Int) := by omega
          have hsucc := cnt_succ k1 (k : Int)
          have hcle := cnt_le (l.take i) (k : Int)
          rw [List.length_take, Nat.min_eq_left hi] at hcle
          generalize l[i] = p at *
          obtain ⟨u, v⟩ := p
          simp only at c1 c2 hsucc
          have HS := Lib.hid hsucc
          have HI := Lib.hid hi
          clear hsucc hi
          generalize cnt (l.take i) (k : Int) = cu at *
          have hw1 : IntKind.i64.wrap ((cu : Int) + 1) = (cu : Int) + 1 := by rw [IntKind.wrap_i64]; omega
          have hw2 : IntKind.i64.wrap ((cu : Int) + 1 + 1) = (cu : Int) + 1 + 1 := by rw [IntKind.wrap_i64]; omega
          clear hcle
          by_cases q1 : u = (k : Int)
          · by_cases q2 : v = (k : Int)
            · go_wp2_with fail
              go_roundw
              case rel => exact ⟨i + 1, by go_num, by rw [HS.out, if_pos q1, if_pos q2]; go_num, by omega, rfl⟩
              case measure => simp [intOf]; omega
            · go_wp2_with fail
              go_roundw
              case rel => exact ⟨i + 1, by go_num, by rw [HS.out, if_pos q1, if_neg q2]; go_num, by omega, rfl⟩
              case measure => simp [intOf]; omega
          · by_cases q2 : v = (k : Int)
            · go_wp2_with fail
              go_roundw
              case rel => exact ⟨i + 1, by go_num, by rw [HS.out, if_neg q1, if_pos q2]; go_num, by omega, rfl⟩
              case measure => simp [intOf]; omega
            · go_wp2_with fail
              go_roundw
              case rel => exact ⟨i + 1, by go_num, by rw [HS.out, if_neg q1, if_neg q2]; go_num, by omega, rfl⟩
              case measure => simp [intOf]; omega
        · have hkk : l.take i = l := List.take_of_length_le (by omega)
          rw [hkk]
          go_wp2_with (at_builtin; go_must (refine wpList_append rfl (.tmp 44) (.tmp 46) _ rfl el_ints W.heap.size _ _ _ rfl (HO.out.alloc _) _ 1 1 [.int .i64 (cnt l (k : Int) : Int)] rfl rfl (Row.new wr _ _ _) (by intro u hu; simp at hu; subst hu; rfl) (by unfold maxLen; omega) (by omega) (by have := HB.out.size; simp; omega) ?_))
          intro v2 w2 hown2 hg2 _ hb2
          rw [← degs_succ] at hown2
          have HB2 := Lib.hid ((HB.out.alloc HB.out.size _).trans hb2)
          have HO2 := Lib.hid hown2
          clear hown2 hg2 hb2
          go_wp2_with fail
          go_roundw
          case rel => exact ⟨k + 1, by go_num, by omega, HO2.out, HB2.out⟩
          case measure => simp [intOf]; omega
    · obtain rfl : k = N := by have := HK.out; omega
      go_wp2_with fail
      go_ret2
      exact ⟨_, rfl, own_mono HO.out (by have := H1.out.size; omega), H1.out.trans (HB.out.mono H1.out.size)⟩

/-- The loops' numbers. -/
def lpsL (l : List E2) (k : Nat) : List Value := ((List.range k).filter fun i => decide ((l.getD i (0, 0)).1 = (l.getD i (0, 0)).2)).map fun i : Nat => Value.int .i64 (i : Int)
theorem lpsL_yes {l : List E2} {k : Nat} (hk : k < l.length) (h : l[k].1 = l[k].2) : lpsL l (k + 1) = lpsL l k ++ [.int .i64 (k : Int)] := by
  simp [lpsL, List.range_succ, List.filter_append, hk, h]
theorem lpsL_no {l : List E2} {k : Nat} (hk : k < l.length) (h : ¬ l[k].1 = l[k].2) : lpsL l (k + 1) = lpsL l k := by
  simp [lpsL, List.range_succ, List.filter_append, hk, h]
theorem lpsL_le (l : List E2) (k : Nat) : (lpsL l k).length ≤ k := by
  have := List.length_filter_le (fun i => decide ((l.getD i (0, 0)).1 = (l.getD i (0, 0)).2)) (List.range k)
  simp only [lpsL, List.length_map, List.length_range] at this ⊢
  exact this

def Looped (l : List E2) (w : World) (e : Ending) (w' : World) : Prop :=
  ∃ v, e = .returned (.tuple #[v, .int .i64 0]) ∧ w'.ownsRow w.heap.size 3 1 v (lpsL l l.length).length (lpsL l l.length) ∧ Below w.heap.size w w'

def LpLoop (l : List E2) (W : World) (ov iv : Value) (wr : World) : Prop :=
  ∃ k : Nat, iv = .int .i64 (k : Int) ∧ k ≤ l.length ∧ wr.ownsRow W.heap.size 3 1 ov (lpsL l k).length (lpsL l k) ∧ Below W.heap.size W wr

set_option maxRecDepth 100000 in
set_option maxHeartbeats 1000000 in
theorem loops_ok (n : Int) (l : List E2) (a : Option Addr) (m c : Nat) (w : World) (hr : ERow w a l) (hm : l.length = m) (hmm : m ≤ 9223372036854775807) (hf : formed n l = true) :
    Calls Try.prog 24 #[.agg #[.int .i64 n, .slice a m c]] w (Looped l w) := by
  subst hm
  have h0 : Below w.heap.size w (w.alloc (.cells #[.int .i64 n, .slice a l.length c] 24)) := (Below.refl w.heap.size w).alloc (Nat.le_refl _) _
  have hF := formed_any n l a l.length c _ (hr.below h0) rfl hmm
  rw [hf] at hF
  have HF := Lib.hid hF
  have B0 := Lib.hid (Blk.new w 24 #[.int .i64 n, .slice a l.length c])
  have H0 := Lib.hid h0
  have HR := Lib.hid (hr.below h0)
  have s2 : l.length ≤ 1073741824 := by
    unfold formed small at hf
    simp only [Bool.and_eq_true, decide_eq_true_eq, List.all_eq_true] at hf
    omega
  clear hF h0 hf hr
  go_enter Try.func24, Try.ntmps24
  go_wp2_with fail
  generalize w.alloc (.cells #[.int .i64 n, .slice a l.length c] 24) = W0 at *
  refine HF.out.mono ?_
  rintro e W ⟨rfl, hb1⟩
  have B1 := B0.out.below hb1 B0.out.lt
  have g1 : W.cell? ⟨w.heap.size, 1, none⟩ = some (.slice a l.length c) := B1.cell 1
  have H1 := Lib.hid (H0.out.trans (hb1.mono H0.out.size))
  have HR1 := Lib.hid (HR.out.below hb1)
  clear hb1 HF HR B0 B1
  go_wp2_with fail
  go_loopw [4, 13] (fun ov iv wr => LpLoop l W ov iv wr) (fun _ iv _ => l.length - (intOf iv).toNat)
  case atStart => exact ⟨0, rfl, by omega, World.ownsRow_nil _ _ _ _, Below.refl _ _⟩
  case round =>
    obtain ⟨k, rfl, hk, hown, hb⟩ := hrel
    have HR2 := Lib.hid (HR1.out.below' hb)
    have hlen := lpsL_le l k
    have HB := Lib.hid hb
    have HO := Lib.hid hown
    have HK := Lib.hid hk
    clear hb hown hk
    by_cases hlt : (k : Int) < l.length
    · have k1 : k < l.length := by omega
      obtain ⟨b1, o1, rfl, c1, c2, hbl⟩ := HR2.out k k1
      have hk0 : (0 : Int) ≤ (k : Int) := by omega
      have hy := fun h => lpsL_yes k1 h
      have hn := fun h => lpsL_no k1 h
      have hbs := HB.out.size
      generalize l[k] = p at *
      obtain ⟨u, v⟩ := p
      simp only at c1 c2 hy hn
      have HY := Lib.hid hy
      have HN := Lib.hid hn
      clear hy hn
      by_cases huv : u = v
      · subst huv
        have HYY := Lib.hid (HY.out rfl)
        have hz : (wr.alloc (.cells #[.int .i64 u, .int .i64 u] 36)).heap.size = wr.heap.size + 1 := by simp
        have hrow : Row ((wr.alloc (.cells #[.int .i64 u, .int .i64 u] 36)).alloc (.cells #[.int .i64 (k : Int)] 3)) (some ⟨wr.heap.size + 1, 0, none⟩) [.int .i64 (k : Int)] := by
          have := Row.new (wr.alloc (.cells #[.int .i64 u, .int .i64 u] 36)) #[.int .i64 (k : Int)] 3 (0, 0)
          rw [hz] at this
          exact this
        have HRW := Lib.hid hrow
        clear hrow hz
        go_wp2_with (at_builtin; go_must (refine wpList_append rfl (.tmp 23) (.tmp 25) _ rfl el_ints W.heap.size _ _ _ rfl ((HO.out.alloc _).alloc _) _ 1 1 [.int .i64 (k : Int)] rfl rfl HRW.out (by intro u hu; simp at hu; subst hu; rfl) (by unfold maxLen; omega) (by omega) (by simp; omega) ?_))
        intro v2 w2 hown2 hg2 _ hb2
        rw [← HYY.out] at hown2
        have HB2 := Lib.hid (((HB.out.alloc hbs _).alloc (by simp; omega) _).trans hb2)
        have HO2 := Lib.hid hown2
        have HL2 := Lib.hid (congrArg List.length HYY.out)
        clear hown2 hg2 hb2
        go_wp2_with fail
        go_roundw
        case rel =>
          refine ⟨k + 1, by go_num, by omega, ?_, HB2.out⟩
          rw [HL2.out, List.length_append]
          exact HO2.out
        case measure => simp [intOf]; omega
      · go_wp2_with fail
        go_roundw
        case rel =>
          refine ⟨k + 1, by go_num, by omega, ?_, HB.out.alloc hbs _⟩
          rw [HN.out huv]
          exact HO.out.alloc _
        case measure => simp [intOf]; omega
    · obtain rfl : k = l.length := by have := HK.out; omega
      go_wp2_with fail
      go_ret2
      exact ⟨_, rfl, own_mono HO.out (by have := H1.out.size; omega), H1.out.trans (HB.out.mono H1.out.size)⟩

end Go.Proofs.Ytlepmefknglkeaa.Gr
