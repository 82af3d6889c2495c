/- The walk of graph.Order. -/
import Derived.Test.YtlepmefknglkeaaGrSort
set_option linter.unusedVariables false
namespace Go.Proofs.Ytlepmefknglkeaa.Gr
open Go.RowKit

def normE (e : E2) : E2 := (min e.1 e.2, max e.1 e.2)
/-- The edges in order. -/
def ordL (l : List E2) : List E2 := srt (l.map normE)
theorem ordL_length (l : List E2) : (ordL l).length = l.length := by simp [ordL, srt_length]

def mixL (l : List E2) (k : Nat) : List E2 := (l.take k).map normE ++ l.drop k
theorem mixL_length (l : List E2) (k : Nat) (h : k ≤ l.length) : (mixL l k).length = l.length := by simp [mixL]; omega
theorem mixL_get (l : List E2) (k : Nat) (h : k < l.length) : (mixL l k)[k]? = some l[k] := by
  unfold mixL
  rw [List.getElem?_append_right (by simp; omega)]
  simp [Nat.min_eq_left (Nat.le_of_lt h), h]
theorem mixL_set (l : List E2) (k : Nat) (h : k < l.length) : (mixL l k).set k (normE l[k]) = mixL l (k + 1) := by
  unfold mixL
  rw [List.set_append_right _ _ (by simp; omega)]
  rw [List.take_succ_eq_append_getElem h, List.map_append, List.append_assoc]
  congr 1
  rw [List.length_map, List.length_take, Nat.min_eq_left (Nat.le_of_lt h), Nat.sub_self, List.drop_eq_getElem_cons h]
  rfl

/-- A row of edges of one's own, whole. -/
structure EBlk (w : World) (g cap : Nat) (l : List E2) : Prop where
  ex : ∃ cur, Blk w g 36 cur ∧ cur.size = cap * 2 ∧ cur.toList.take (l.length * 2) = flatE l

theorem EBlk.cells {w : World} {g cap : Nat} {l : List E2} (h : EBlk w g cap l) (i : Nat) (x : E2) (hi : l[i]? = some x) :
    w.cell? ⟨g, i * 2, none⟩ = some (.int .i64 x.1) ∧ w.cell? ⟨g, i * 2 + 1, none⟩ = some (.int .i64 x.2) ∧ w.frozen? ⟨g, i * 2, none⟩ = false ∧ w.frozen? ⟨g, i * 2 + 1, none⟩ = false ∧ g < w.heap.size := by
  obtain ⟨cur, hB, _, ht⟩ := h.ex
  obtain ⟨hl, rfl⟩ := List.getElem?_eq_some_iff.1 hi
  have hg := flatE_get l i hl
  exact ⟨by rw [hB.cell, take_cell ht (by omega), hg.1], by rw [hB.cell, take_cell ht (by omega), hg.2], hB.frozen _, hB.frozen _, hB.lt⟩
theorem EBlk.store {w : World} {g cap : Nat} {l : List E2} (h : EBlk w g cap l) (i : Nat) (x y : Int) :
    EBlk ((w.setCell ⟨g, i * 2, none⟩ (.int .i64 x)).setCell ⟨g, i * 2 + 1, none⟩ (.int .i64 y)) g cap (l.set i (x, y)) := by
  obtain ⟨cur, hB, hs, ht⟩ := h.ex
  refine ⟨_, (hB.set_ _ _).set_ _ _, by simpa using hs, ?_⟩
  rw [Array.toList_setIfInBounds, Array.toList_setIfInBounds, List.take_set, List.take_set, List.length_set, ht, flatE_set]
theorem EBlk.alloc {w : World} {g cap : Nat} {l : List E2} (h : EBlk w g cap l) (o : Obj) : EBlk (w.alloc o) g cap l := by
  obtain ⟨cur, hB, hs, ht⟩ := h.ex
  exact ⟨cur, hB.alloc o, hs, ht⟩
theorem EBlk.row {w : World} {g cap : Nat} {l : List E2} (h : EBlk w g cap l) : ERow w (some ⟨g, 0, none⟩) l := by
  intro i hi
  obtain ⟨h1, h2, _, _, h3⟩ := h.cells i l[i] (by simp [hi])
  exact ⟨g, 0, rfl, by rw [Nat.zero_add]; exact h1, by rw [Nat.zero_add]; exact h2, h3⟩
theorem EBlk.of_own {w : World} {base g n cap : Nat} {l : List E2} (h : w.ownsRow base 36 2 (.slice (some ⟨g, 0, none⟩) n cap) n (flatE l)) : EBlk w g cap l ∧ n ≤ cap ∧ base ≤ g := by
  rcases h.2 with ⟨e, _⟩ | ⟨g', cap', cur, e, hb, hh, h1, h2, h3, h4⟩
  · cases e
  · injection e with e1 e2 e3
    injection e1 with e1
    injection e1 with e1
    subst e1
    subst e3
    have := h.1
    rw [flatE_length] at this
    exact ⟨⟨cur, hh, h3, by rw [this]; exact h4⟩, h1, hb⟩

theorem res_cells {w : World} {b : Nat} {t : TypeId} {x y : Value} (hB : Blk w b t #[x, y]) (u v : Value) :
    (w.setCell ⟨b, 0, none⟩ u).cell? ⟨b, 0, none⟩ = some u ∧ ((w.setCell ⟨b, 0, none⟩ u).setCell ⟨b, 1, none⟩ v).cell? ⟨b, 1, none⟩ = some v ∧ ((w.setCell ⟨b, 0, none⟩ u).setCell ⟨b, 1, none⟩ v).cell? ⟨b, 0, none⟩ = some u :=
  ⟨by rw [(hB.set_ 0 u).cell]; rfl, by rw [((hB.set_ 0 u).set_ 1 v).cell]; rfl, by rw [((hB.set_ 0 u).set_ 1 v).cell]; rfl⟩

def GOrdLoop (l : List E2) (W : World) (g cap : Nat) (iv : Value) (wr : World) : Prop :=
  ∃ k : Nat, iv = .int .i64 (k : Int) ∧ k ≤ l.length ∧ EBlk wr g cap (mixL l k) ∧ Chg (fun j => j = g) W wr

/-- What Order hands back. -/
def OrdTold (n : Int) (l : List E2) (er : Int) (w : World) (e : Ending) (w' : World) : Prop :=
  ∃ a m c, e = .returned (.tuple #[.agg #[.int .i64 n, .slice a m c], .int .i64 er]) ∧ ERow w' a l ∧ l.length = m ∧ Below w.heap.size w w'

/-- .. and its room. -/
def OrdTold2 (n : Int) (l : List E2) (er : Int) (w : World) (e : Ending) (w' : World) : Prop :=
  ∃ a m c, e = .returned (.tuple #[.agg #[.int .i64 n, .slice a m c], .int .i64 er]) ∧ ERow w' a l ∧ l.length = m ∧ Below w.heap.size w w' ∧ m ≤ c

set_option maxRecDepth 100000 in
set_option maxHeartbeats 1000000 in
theorem order_ok2 (n : Int) (l : List E2) (a : Option Addr) (m c : Nat) (w : World) (hr : ERow w a l) (hm : l.length = m) (hmm : m ≤ 9223372036854775807) (hf : formed n l = true) :
    Calls Try.prog 27 #[.agg #[.int .i64 n, .slice a m c]] w (OrdTold2 n (ordL l) 0 w) := by
  subst hm
  have h0 : Below w.heap.size w ((w.alloc (.cells #[.int .i64 n, .slice a l.length c] 24)).alloc (.cells #[.int .i64 0, .slice none 0 0] 24)) := ((Below.refl w.heap.size w).alloc (Nat.le_refl _) _).alloc (by simp) _
  have B0 := Lib.hid ((Blk.new w 24 #[.int .i64 n, .slice a l.length c]).alloc (.cells #[.int .i64 0, .slice none 0 0] 24))
  have B1 := Blk.new (w.alloc (.cells #[.int .i64 n, .slice a l.length c] 24)) 24 #[.int .i64 0, .slice none 0 0]
  rw [show (w.alloc (.cells #[.int .i64 n, .slice a l.length c] 24)).heap.size = w.heap.size + 1 by simp] at B1
  have HB1 := Lib.hid B1
  have hF := formed_any n l a l.length c _ (hr.below h0) rfl hmm
  rw [hf] at hF
  have HF := Lib.hid hF
  have H0 := Lib.hid h0
  have HR := Lib.hid (hr.below h0)
  have s2 : l.length ≤ 1073741824 := by
    unfold formed small at hf
    simp only [Bool.and_eq_true, decide_eq_true_eq, List.all_eq_true] at hf
    omega
  clear hF h0 hf hr B1
  go_enter Try.func27, Try.ntmps27
  go_wp2_with fail
  generalize hW : (w.alloc (.cells #[.int .i64 n, .slice a l.length c] 24)).alloc (.cells #[.int .i64 0, .slice none 0 0] 24) = W0 at *
  clear hW
  refine HF.out.mono ?_
  rintro e w1 ⟨rfl, hb1⟩
  have c1 : w1.cell? ⟨w.heap.size, 1, none⟩ = some (.slice a l.length c) := (B0.out.below hb1 B0.out.lt).cell 1
  have H1 := Lib.hid (H0.out.trans (hb1.mono H0.out.size))
  have BB0 := Lib.hid (B0.out.below hb1 B0.out.lt)
  have BB1 := Lib.hid (HB1.out.below hb1 HB1.out.lt)
  have HC := Lib.hid (clone_edge a l.length c l w1 (HR.out.below hb1) rfl (by omega))
  clear hb1 HF HR B0 HB1
  go_wp2_with fail
  refine HC.out.mono ?_
  rintro e w2 ⟨v, rfl, hown, hb2⟩
  have D0 := Lib.hid (BB0.out.below hb2 BB0.out.lt)
  have D1 := Lib.hid (BB1.out.below hb2 BB1.out.lt)
  have H2 := Lib.hid (H1.out.trans (hb2.mono H1.out.size))
  clear hb2 c1 HC
  rcases hown.2 with ⟨rfl, hl0⟩ | ⟨g, cap, cur, rfl, hbase, hh, h1, h2, h3, h4⟩
  · clear hown
    have E0 : l.length = 0 := hl0
    obtain rfl := List.eq_nil_of_length_eq_zero hl0
    have HSN := Lib.hid (fun W => AnyF.slices_SortFunc_none (P := Try.prog) { sortE with } none 0 (.func (.func 39) #[] #[]) W)
    go_wp2_with fail
    go_loopw [16] (fun iv wr => iv = .int .i64 0 ∧ w2 = wr) (fun iv _ => 0)
    case atStart => exact ⟨rfl, rfl⟩
    case round =>
      obtain ⟨rfl, rfl⟩ := hrel
      have c0 : w2.cell? ⟨w.heap.size, 0, none⟩ = some (.int .i64 n) := D0.out.cell 0
      have k0 := D1.out.frozen 0
      have k1 := D1.out.frozen 1
      have d0 : w2.cell? ⟨w.heap.size + 1, 0, none⟩ = some (.int .i64 0) := D1.out.cell 0
      have d1 : w2.cell? ⟨w.heap.size + 1, 1, none⟩ = some (.slice none 0 0) := D1.out.cell 1
      have hlt := D1.out.lt
      go_wp2_with fail
      refine (HSN.out w2).mono ?_
      rintro e w3 ⟨rfl, rfl⟩
      go_wp2_with fail
      obtain ⟨r0, r1, r2⟩ := res_cells D1.out (.int .i64 n) (.slice none 0 0)
      (try simp only [Exit.inBlock, Exit.then])
      refine bodyPost_ret (by simp [results, Try.results27, go_sem, r1, r2]; try rfl) rfl ?_
      refine ⟨none, 0, 0, ?_, fun i hi => absurd hi (by simp [ordL_length]), by rw [ordL_length]; rfl, (H2.out.setCell (by simp) _).setCell (by simp) _, Nat.le_refl _⟩
      rfl
  · have hE := (EBlk.of_own hown).1
    have HE := Lib.hid hE
    have hgl := hE.row
    have hbw := H1.out.size
    have hlb := BB1.out.lt
    have hne1 : g ≠ w.heap.size + 1 := by omega
    have hne0 : g ≠ w.heap.size := by omega
    have hcap : l.length ≤ cap := h1
    clear hown hh h1 h3 h4 hE hgl
    go_wp2_with fail
    go_loopw [16] (fun iv wr => GOrdLoop l w2 g cap iv wr) (fun iv _ => l.length - (intOf iv).toNat)
    case atStart => exact ⟨0, rfl, by omega, HE.out, Chg.refl _ _⟩
    case round =>
      obtain ⟨k, rfl, hk, hB, hc⟩ := hrel
      have HBk := Lib.hid hB
      have HC := Lib.hid hc
      have HK := Lib.hid hk
      by_cases hlt : (k : Int) < l.length
      · have k1 : k < l.length := by omega
        obtain ⟨c1, c2, f1, f2, hgw⟩ := hB.cells k _ (mixL_get l k k1)
        have hst := hB.store k (min l[k].1 l[k].2) (max l[k].1 l[k].2)
        rw [show (min l[k].1 l[k].2, max l[k].1 l[k].2) = normE l[k] from rfl, mixL_set l k k1] at hst
        have hk0 : (0 : Int) ≤ (k : Int) := by omega
        generalize l[k] = p at *
        obtain ⟨u, v⟩ := p
        simp only at c1 c2 hst
        have HST := Lib.hid hst
        clear hst hB hc hk
        go_wp2_with fail
        go_roundw
        case rel => exact ⟨k + 1, by go_num, by omega, HST.out.alloc _, ((HC.out.setCell _ _ (fun _ => rfl)).setCell _ _ (fun _ => rfl)).alloc _⟩
        case measure => simp [intOf]; omega
      · have hkk : mixL l k = l.map normE := by
          unfold mixL
          rw [List.take_of_length_le (by omega), List.drop_of_length_le (by omega), List.append_nil]
        rw [hkk] at hB
        obtain ⟨cur2, hB2, hs2, ht2⟩ := hB.ex
        have hS := sort_edge (l.map normE) g cap cur2 wr hB2 ht2 (by simp; omega)
        rw [List.length_map] at hS
        have HS := Lib.hid hS
        have HS2 := Lib.hid hs2
        clear hS hB2 ht2 hB hc hk hs2
        go_wp2_with fail
        refine HS.out.mono ?_
        rintro e w3 ⟨rfl, cur3, hB3, hs3, ht3, hc3⟩
        have hc23 := HC.out.trans hc3 (fun _ _ h => h)
        have F0 := Lib.hid (D0.out.chg hc23 (fun e => hne0 e.symm))
        have F1 := Lib.hid (D1.out.chg hc23 (fun e => hne1 e.symm))
        have c0 : w3.cell? ⟨w.heap.size, 0, none⟩ = some (.int .i64 n) := F0.out.cell 0
        have k0 := F1.out.frozen 0
        have k1 := F1.out.frozen 1
        have d0 : w3.cell? ⟨w.heap.size + 1, 0, none⟩ = some (.int .i64 0) := F1.out.cell 0
        have d1 : w3.cell? ⟨w.heap.size + 1, 1, none⟩ = some (.slice none 0 0) := F1.out.cell 1
        have hlt3 := F1.out.lt
        have HE3 : EBlk w3 g cap (srt (l.map normE)) := ⟨cur3, hB3, by rw [hs3, HS2.out], by rw [srt_length, List.length_map]; exact ht3⟩
        have H3 := Lib.hid (H2.out.trans (hc23.below_of (by have := H2.out.size; omega) (fun j hj e => by omega)))
        have HE3' := Lib.hid HE3
        clear hB3 hs3 ht3 hc3 hc23 HE3
        go_wp2_with fail
        obtain ⟨r0, r1, r2⟩ := res_cells F1.out (.int .i64 n) (.slice (some ⟨g, 0, none⟩) l.length cap)
        (try simp only [Exit.inBlock, Exit.then])
        refine bodyPost_ret (by simp [results, Try.results27, go_sem, r1, r2]; try rfl) rfl ?_
        have hfin : EBlk ((w3.setCell ⟨w.heap.size + 1, 0, none⟩ (.int .i64 n)).setCell ⟨w.heap.size + 1, 1, none⟩ (.slice (some ⟨g, 0, none⟩) l.length cap)) g cap (ordL l) := by
          obtain ⟨cur4, q1, q2, q3⟩ := HE3'.out.ex
          exact ⟨cur4, (q1.far hne1 _).far hne1 _, q2, q3⟩
        exact ⟨_, _, _, rfl, hfin.row, ordL_length l, (H3.out.setCell (by simp) _).setCell (by simp) _, hcap⟩

theorem order_ok (n : Int) (l : List E2) (a : Option Addr) (m c : Nat) (w : World) (hr : ERow w a l) (hm : l.length = m) (hmm : m ≤ 9223372036854775807) (hf : formed n l = true) :
    Calls Try.prog 27 #[.agg #[.int .i64 n, .slice a m c]] w (OrdTold n (ordL l) 0 w) :=
  (order_ok2 n l a m c w hr hm hmm hf).mono fun _ _ ⟨a, m, c, h1, h2, h3, h4, _⟩ => ⟨a, m, c, h1, h2, h3, h4⟩

set_option maxRecDepth 100000 in
theorem order_no (n : Int) (l : List E2) (a : Option Addr) (m c : Nat) (w : World) (hr : ERow w a l) (hm : l.length = m) (hmm : m ≤ 9223372036854775807) (hf : formed n l = false) :
    Calls Try.prog 27 #[.agg #[.int .i64 n, .slice a m c]] w (OrdTold 0 [] 1 w) := by
  subst hm
  have h0 : Below w.heap.size w ((w.alloc (.cells #[.int .i64 n, .slice a l.length c] 24)).alloc (.cells #[.int .i64 0, .slice none 0 0] 24)) := ((Below.refl w.heap.size w).alloc (Nat.le_refl _) _).alloc (by simp) _
  have B1 := Blk.new (w.alloc (.cells #[.int .i64 n, .slice a l.length c] 24)) 24 #[.int .i64 0, .slice none 0 0]
  rw [show (w.alloc (.cells #[.int .i64 n, .slice a l.length c] 24)).heap.size = w.heap.size + 1 by simp] at B1
  have HB1 := Lib.hid B1
  have hF := formed_any n l a l.length c _ (hr.below h0) rfl hmm
  rw [hf] at hF
  have HF := Lib.hid hF
  have H0 := Lib.hid h0
  clear hF h0 hf hr B1
  go_enter Try.func27, Try.ntmps27
  go_wp2_with fail
  generalize hW : (w.alloc (.cells #[.int .i64 n, .slice a l.length c] 24)).alloc (.cells #[.int .i64 0, .slice none 0 0] 24) = W0 at *
  clear hW
  refine HF.out.mono ?_
  rintro e w1 ⟨rfl, hb1⟩
  have F1 := Lib.hid (HB1.out.below hb1 HB1.out.lt)
  have H1 := Lib.hid (H0.out.trans (hb1.mono H0.out.size))
  have k0 := F1.out.frozen 0
  have k1 := F1.out.frozen 1
  have d0 : w1.cell? ⟨w.heap.size + 1, 0, none⟩ = some (.int .i64 0) := F1.out.cell 0
  have d1 : w1.cell? ⟨w.heap.size + 1, 1, none⟩ = some (.slice none 0 0) := F1.out.cell 1
  have hlt3 := F1.out.lt
  clear hb1 HF
  go_wp2_with fail
  obtain ⟨r0, r1, r2⟩ := res_cells F1.out (.int .i64 0) (.slice none 0 0)
  (try simp only [Exit.inBlock, Exit.then])
  refine bodyPost_ret (by simp [results, Try.results27, go_sem, r1, r2]; try rfl) rfl ?_
  exact ⟨none, 0, 0, rfl, fun i hi => absurd hi (by simp), rfl, (H1.out.setCell (by simp) _).setCell (by simp) _⟩

def ordX (n : Int) (l : List E2) : List E2 := if formed n l = true then ordL l else []
def ordN (n : Int) (l : List E2) : Int := if formed n l = true then n else 0
def erO (n : Int) (l : List E2) : Int := if formed n l = true then 0 else 1
theorem order_told (n : Int) (l : List E2) (a : Option Addr) (m c : Nat) (w : World) (hr : ERow w a l) (hm : l.length = m) (hmm : m ≤ 9223372036854775807) :
    Calls Try.prog 27 #[.agg #[.int .i64 n, .slice a m c]] w (OrdTold (ordN n l) (ordX n l) (erO n l) w) := by
  unfold ordX ordN erO
  cases hf : formed n l
  · rw [if_neg (by simp), if_neg (by simp), if_neg (by simp)]
    exact order_no n l a m c w hr hm hmm hf
  · rw [if_pos rfl, if_pos rfl, if_pos rfl]
    exact order_ok n l a m c w hr hm hmm hf

end Go.Proofs.Ytlepmefknglkeaa.Gr
