/- The walk of graph.Degrees. -/
import Derived.Test.YtlepmefknglkeaaGrFormed
set_option linter.unusedVariables false
namespace Go.Proofs.Ytlepmefknglkeaa.Gr
open Go.RowKit

/-- How often a vertex stands at an end. -/
def cnt : List E2 → Int → Nat
  | [], _ => 0
  | e :: l, v => ((if e.1 = v then 1 else 0) + (if e.2 = v then 1 else 0)) + cnt l v
theorem cnt_append (l m : List E2) (v : Int) : cnt (l ++ m) v = cnt l v + cnt m v := by
  induction l with
  | nil => simp [cnt]
  | cons e l ih => simp only [List.cons_append, cnt, ih]; omega
theorem cnt_succ {l : List E2} {k : Nat} (h : k < l.length) (v : Int) : cnt (l.take (k + 1)) v = cnt (l.take k) v + ((if l[k].1 = v then 1 else 0) + (if l[k].2 = v then 1 else 0)) := by
  rw [List.take_add_one, List.getElem?_eq_getElem h, cnt_append]; simp [cnt]
theorem cnt_le (l : List E2) (v : Int) : cnt l v ≤ 2 * l.length := by
  induction l with
  | nil => simp [cnt]
  | cons e l ih =>
    simp only [cnt, List.length_cons]
    split <;> split <;> omega

/-- A row of numbers. -/
def tab (N : Nat) (f : Nat → Nat) : Array Value := ((List.range N).map fun i => Value.int .i64 (f i : Int)).toArray
theorem tab_size (N : Nat) (f : Nat → Nat) : (tab N f).size = N := by simp [tab]
theorem tab_get {N : Nat} (f : Nat → Nat) {i : Nat} (h : i < N) : (tab N f)[i]? = some (.int .i64 (f i : Int)) := by simp [tab, h]
theorem tab_ext {N : Nat} {f g : Nat → Nat} (h : ∀ i, i < N → f i = g i) : tab N f = tab N g := by
  unfold tab
  congr 1
  apply List.map_congr_left
  intro i hi
  rw [h i (by simpa using hi)]
theorem tab_set (N : Nat) (f : Nat → Nat) (u x : Nat) : (tab N f).setIfInBounds u (.int .i64 (x : Int)) = tab N fun i => if i = u then x else f i := by
  apply Array.ext_getElem?
  intro i
  rw [Array.getElem?_setIfInBounds]
  by_cases hi : i < N
  · rw [tab_get _ hi, tab_get _ hi, tab_size]
    by_cases h : u = i
    · subst h; simp [hi]
    · rw [if_neg h, if_neg (fun e => h e.symm)]
  · have h1 : (tab N f)[i]? = none := by simp [tab]; omega
    have h2 : (tab N fun i => if i = u then x else f i)[i]? = none := by simp [tab]; omega
    rw [h1, h2, tab_size]
    by_cases h : u = i
    · subst h; simp [hi]
    · simp [h]
theorem tab_same (N : Nat) : same N (.int .i64 0) = tab N fun _ => 0 := by
  apply Array.ext_getElem?
  intro i
  by_cases hi : i < N
  · rw [tab_get _ hi, same_get _ _ _ hi]; rfl
  · rw [Array.getElem?_eq_none (by rw [same_size]; omega), Array.getElem?_eq_none (by rw [tab_size]; omega)]

/-- The degrees, as cells. -/
def degs (N : Nat) (l : List E2) : List Value := (tab N fun i => cnt l (i : Int)).toList
theorem degs_length (N : Nat) (l : List E2) : (degs N l).length = N := by simp [degs, tab]

theorem el_ints : Elem Try.prog 28 3 1 8 := elem_of (z := .int .i64 0) Try.underlying28 (by kernel_rfl) rfl (by decide)

theorem ERow.below' {w w' : World} {a : Option Addr} {l : List E2} (h : ERow w a l) (hb : Below w.heap.size w w') :
    ∀ i (hi : i < l.length), ∃ b off, a = some ⟨b, off, none⟩ ∧ w'.cell? ⟨b, off + i * 2, none⟩ = some (.int .i64 l[i].1) ∧ w'.cell? ⟨b, off + i * 2 + 1, none⟩ = some (.int .i64 l[i].2) ∧ b < w.heap.size := by
  intro i hi
  obtain ⟨b, off, e, h1, h2, h3⟩ := h i hi
  exact ⟨b, off, e, by rw [hb.cell h3, h1], by rw [hb.cell h3, h2], h3⟩

def Degd (N : Nat) (l : List E2) (w : World) (e : Ending) (w' : World) : Prop :=
  ∃ v, e = .returned (.tuple #[v, .int .i64 0]) ∧ w'.ownsRow w.heap.size 3 1 v N (degs N l) ∧ Below w.heap.size w w'

def DegLoop (N : Nat) (l : List E2) (W : World) (g : Nat) (iv : Value) (wr : World) : Prop :=
  ∃ k : Nat, iv = .int .i64 (k : Int) ∧ k ≤ l.length ∧ Blk wr g 3 (tab N fun i => cnt (l.take k) (i : Int)) ∧ Chg (fun j => j = g) W wr

theorem deg_next {N : Nat} {l : List E2} {k g un vn x y : Nat} {W wr : World} (hB : Blk wr g 3 (tab N fun i => cnt (l.take k) (i : Int))) (hc : Chg (fun j => j = g) W wr) (hg : g < W.heap.size)
    (hs : ∀ v : Int, cnt (l.take (k + 1)) v = cnt (l.take k) v + ((if (un : Int) = v then 1 else 0) + (if (vn : Int) = v then 1 else 0)))
    (hx : un ≠ vn → x = cnt (l.take k) (un : Int) + 1) (hy : y = cnt (l.take k) (vn : Int) + (if un = vn then 2 else 1)) (o : Obj) :
    Blk (((wr.setCell ⟨g, un, none⟩ (.int .i64 (x : Int))).setCell ⟨g, vn, none⟩ (.int .i64 (y : Int))).alloc o) g 3 (tab N fun i => cnt (l.take (k + 1)) (i : Int)) ∧
    Chg (fun j => j = g) W (((wr.setCell ⟨g, un, none⟩ (.int .i64 (x : Int))).setCell ⟨g, vn, none⟩ (.int .i64 (y : Int))).alloc o) := by
  refine ⟨?_, ((hc.setCell _ _ (fun _ => rfl)).setCell _ _ (fun _ => rfl)).alloc _⟩
  have h := ((hB.set_ un (.int .i64 (x : Int))).set_ vn (.int .i64 (y : Int))).alloc o
  rw [tab_set, tab_set] at h
  rw [tab_ext (g := fun i => if i = vn then y else if i = un then x else cnt (l.take k) (i : Int)) (fun i hi => ?_)]
  · exact h
  · rw [hs]
    by_cases h1 : i = vn
    · subst h1
      by_cases h2 : un = i
      · subst h2; simp [hy]
      · have : ¬ (un : Int) = (i : Int) := by omega
        simp [hy, h2, this]
    · have h1' : ¬ (vn : Int) = (i : Int) := by omega
      by_cases h2 : i = un
      · subst h2
        simp [h1, h1', hx h1]
      · have : ¬ (un : Int) = (i : Int) := by omega
        simp [h1, h2, h1', this]

set_option maxRecDepth 100000 in
set_option maxHeartbeats 1000000 in
theorem degrees_ok (N : Nat) (l : List E2) (a : Option Addr) (m c : Nat) (w : World) (hr : ERow w a l) (hm : l.length = m) (hmm : m ≤ 9223372036854775807) (hf : formed N l = true) :
    Calls Try.prog 22 #[.agg #[.int .i64 (N : Int), .slice a m c]] w (Degd N l w) := by
  subst hm
  have h0 : Below w.heap.size w (w.alloc (.cells #[.int .i64 (N : Int), .slice a l.length c] 24)) := (Below.refl w.heap.size w).alloc (Nat.le_refl _) _
  have hF := formed_any N l a l.length c _ (hr.below h0) rfl hmm
  rw [hf] at hF
  have HF := Lib.hid hF
  have B0 := Lib.hid (Blk.new w 24 #[.int .i64 (N : Int), .slice a l.length c])
  have H0 := Lib.hid h0
  have HR := Lib.hid (hr.below h0)
  have hfm : (N : Int) ≤ 1073741824 ∧ l.length ≤ 1073741824 ∧ (∀ i (h : i < l.length), okE N l[i] = true) := by
    unfold formed small at hf
    simp only [Bool.and_eq_true, decide_eq_true_eq, List.all_eq_true] at hf
    exact ⟨hf.1.1.2, by omega, fun i h => hf.2 _ (List.getElem_mem h)⟩
  obtain ⟨s1, s2, s3⟩ := hfm
  have S3 := Lib.hid s3
  clear hF h0 hf hr s3
  go_enter Try.func22, Try.ntmps22
  go_wp2_with fail
  generalize w.alloc (.cells #[.int .i64 (N : Int), .slice a l.length c] 24) = W0 at *
  refine HF.out.mono ?_
  rintro e w1 ⟨rfl, hb1⟩
  have g0 : w1.cell? ⟨w.heap.size, 0, none⟩ = some (.int .i64 (N : Int)) := (B0.out.below hb1 B0.out.lt).cell 0
  have g1 : w1.cell? ⟨w.heap.size, 1, none⟩ = some (.slice a l.length c) := (B0.out.below hb1 B0.out.lt).cell 1
  have glt := Nat.lt_of_lt_of_le B0.out.lt hb1.size
  have H1 := Lib.hid (H0.out.trans (hb1.mono H0.out.size))
  have HR1 := Lib.hid (HR.out.below hb1)
  have hmk := fun W => run_make_of (P := Try.prog) (t := 28) (e := 3) (bytes := 8) (z := .int .i64 0) Try.underlying28 (by kernel_rfl) rfl .i64 .i64 N (by omega) (by omega) W
  clear hb1 HF HR
  go_wp2_with fail
  have hB := Blk.new w1 3 (same N (.int .i64 0))
  have hh1 : (w1.alloc (.cells (same N (.int .i64 0)) 3)).heap.size = w1.heap.size + 1 := by simp
  have hbl : Below w1.heap.size w1 (w1.alloc (.cells (same N (.int .i64 0)) 3)) := (Below.refl _ _).alloc (Nat.le_refl _) _
  have HR2 := Lib.hid (HR1.out.below' hbl)
  have HBL := Lib.hid (H1.out.trans (hbl.mono H1.out.size))
  clear g0 g1 hmk hbl HR1
  generalize w1.alloc (.cells (same N (.int .i64 0)) 3) = W at *
  generalize hg : w1.heap.size = g at *
  rw [tab_same] at hB
  go_loopw [16] (fun iv wr => DegLoop N l W g iv wr) (fun iv _ => l.length - (intOf iv).toNat)
  case atStart => exact ⟨0, rfl, by omega, by rw [tab_ext (g := fun _ => 0) (fun i _ => by simp [cnt])]; exact hB, Chg.refl _ _⟩
  case round =>
    obtain ⟨k, rfl, hk, hBr, hc⟩ := hrel
    by_cases hlt : (k : Int) < l.length
    · have k1 : k < l.length := by omega
      obtain ⟨b1, o1, rfl, c1, c2, hbl⟩ := HR2.out k k1
      have hok := S3.out k k1
      have hsucc := fun v => cnt_succ k1 v
      have hcle := fun v => cnt_le (l.take k) v
      rw [List.length_take, Nat.min_eq_left hk] at hcle
      have hb1 : b1 ≠ g := by omega
      have d1 := hc.cell c1 (by simpa using hb1)
      have d2 := hc.cell c2 (by simpa using hb1)
      generalize l[k] = p at *
      obtain ⟨u, v⟩ := p
      simp only at d1 d2 hsucc
      have hok2 : 0 ≤ u ∧ 0 ≤ v ∧ u < N ∧ v < N := by
        simp [okE] at hok
        omega
      obtain ⟨q1, q2, q3, q4⟩ := hok2
      obtain ⟨un, rfl⟩ : ∃ un : Nat, u = (un : Int) := ⟨u.toNat, by omega⟩
      obtain ⟨vn, rfl⟩ : ∃ vn : Nat, v = (vn : Int) := ⟨v.toNat, by omega⟩
      have hun : un < N := by omega
      have hvn : vn < N := by omega
      have e1 : wr.cell? ⟨g, un, none⟩ = some (.int .i64 (cnt (l.take k) (un : Int) : Int)) := by rw [hBr.cell, tab_get _ hun]
      have e2 : wr.cell? ⟨g, vn, none⟩ = some (.int .i64 (cnt (l.take k) (vn : Int) : Int)) := by rw [hBr.cell, tab_get _ hvn]
      have hgl := hBr.lt
      have hfr1 := hBr.frozen un
      have hfr2 := hBr.frozen vn
      have hk0 : (0 : Int) ≤ (k : Int) := by omega
      have HS := Lib.hid hsucc
      have HL := Lib.hid hcle
      have HK := Lib.hid hk
      have HBr := Lib.hid hBr
      have HC := Lib.hid hc
      clear hok hsucc hcle hk hBr hc c1 c2 hB
      generalize hcu : cnt (l.take k) (un : Int) = cu at *
      generalize hcv : cnt (l.take k) (vn : Int) = cv at *
      by_cases huv : un = vn
      · subst huv
        have hw1 : IntKind.i64.wrap ((cu : Int) + 1) = (cu : Int) + 1 := by rw [IntKind.wrap_i64]; have := HL.out un; omega
        have hw2 : IntKind.i64.wrap ((cu : Int) + 1 + 1) = (cu : Int) + 1 + 1 := by rw [IntKind.wrap_i64]; have := HL.out un; omega
        go_wp2_with fail
        go_roundw
        case rel =>
          have h := deg_next (x := cu + 1) (y := cu + 1 + 1) HBr.out HC.out (by omega) HS.out (fun h => absurd rfl h) (by rw [hcu, if_pos rfl]) (.cells #[.int .i64 (un : Int), .int .i64 (un : Int)] 36)
          exact ⟨k + 1, by go_num, by omega, h.1, h.2⟩
        case measure => simp [intOf]; omega
      · have hw1 : IntKind.i64.wrap ((cu : Int) + 1) = (cu : Int) + 1 := by rw [IntKind.wrap_i64]; have := HL.out un; omega
        have hw2 : IntKind.i64.wrap ((cv : Int) + 1) = (cv : Int) + 1 := by rw [IntKind.wrap_i64]; have := HL.out vn; omega
        go_wp2_with fail
        go_roundw
        case rel =>
          have h := deg_next (x := cu + 1) (y := cv + 1) HBr.out HC.out (by omega) HS.out (fun h => by rw [hcu]) (by rw [hcv, if_neg huv]) (.cells #[.int .i64 (un : Int), .int .i64 (vn : Int)] 36)
          exact ⟨k + 1, by go_num, by omega, h.1, h.2⟩
        case measure => simp [intOf]; omega
    · have hkk : l.take k = l := List.take_of_length_le (by omega)
      rw [hkk] at hBr
      have HBr := Lib.hid hBr
      have HC := Lib.hid hc
      clear hBr hc hB
      go_wp2_with fail
      go_ret2
      refine ⟨_, rfl, ⟨by rw [degs_length]; omega, .inr ⟨g, N, _, rfl, by omega, HBr.out, Nat.le_refl _, by unfold maxLen; omega, by rw [tab_size]; omega, ?_⟩⟩, HBL.out.trans (HC.out.below_of (by omega) (fun j hj e => by omega))⟩
      rw [List.take_of_length_le (by simp [tab])]; rfl

end Go.Proofs.Ytlepmefknglkeaa.Gr
