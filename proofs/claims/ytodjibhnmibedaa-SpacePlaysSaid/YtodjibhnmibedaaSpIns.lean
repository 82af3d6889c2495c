/- The walk of slices.Insert at extents, one element. -/
import Derived.Test.YtodjibhnmibedaaSpRow
set_option linter.unusedVariables false
namespace Go.Proofs.Ytodjibhnmibedaa.Sp
open Go.RowKit

theorem overlaps_apart {w : World} {b1 b2 : Nat} {c1 c2 : Array Value} (h1 : Blk w b1 69 c1) (h2 : Blk w b2 69 c2) (hne : b1 ≠ b2) (hk : c2.size ≠ 0) (o1 o2 la ca lb cb : Nat) :
    (callFunc 56 #[.slice (some ⟨b1, o1, none⟩) la ca, .slice (some ⟨b2, o2, none⟩) lb cb]).run Try.prog w = .ok (.value (.bool false)) w := by
  have s1 : w.shape? b1 = some (69, c1.size) := by unfold World.shape?; rw [show w.heap[b1]? = _ from h1]
  have s2 : w.shape? b2 = some (69, c2.size) := by unfold World.shape?; rw [show w.heap[b2]? = _ from h2]
  rw [run_callFunc_extern (f := 56) (fn := Try.f56) Try.func56 (by kernel_rfl) (by kernel_rfl) (by kernel_rfl) (e := Extern.SlicesOverlaps.overlaps #[65, 65] #[4]) (by kernel_rfl),
    Lib.run_overlaps_apart w 65 4 69 Try.underlying65 2 (fun w => by kernel_rfl) ⟨b1, o1, none⟩ ⟨b2, o2, none⟩ la ca lb cb hne 69 69 _ _ s1 s2 hk (h1.frozen _) (h1.frozen _)]
  rfl

/-- What a turned row of extents is told as. -/
def RowTold (W : World) (base : Nat) (own : Option Nat) (L : List Ext) (e : Ending) (w' : World) : Prop :=
  ∃ a k c, e = .returned (.slice a k c) ∧ w'.ownsRow base 69 2 (.slice a k c) k (flatX L) ∧ Chg (fun k => some k = own) W w' ∧ ((Value.slice a k c).ownBlock = own ∨ ∃ q, (Value.slice a k c).ownBlock = some q ∧ W.heap.size ≤ q)

theorem splice_after {P r X : List Value} {a : Nat} (h : a = P.length) : splice (P ++ r) a X = P ++ (X ++ r.drop X.length) := by
  subst h
  unfold splice
  rw [List.take_left, ← List.drop_drop, List.drop_left]
theorem splice_two {P r X Y : List Value} {a b : Nat} (h : a = P.length) (hb : b = a + X.length) : splice (splice (P ++ r) a X) b Y = P ++ (X ++ (Y ++ r.drop (X.length + Y.length))) := by
  rw [splice_after h, ← List.append_assoc, splice_after (by simp; omega), List.drop_drop, List.append_assoc]
theorem splice_up {S X Y : List Value} {a b : Nat} (hb : b = a + Y.length) (hl : b ≤ S.length) : splice (splice S b X) a Y = S.take a ++ (Y ++ (X ++ S.drop (b + X.length))) := by
  have h1 : splice S b X = S.take a ++ ((S.drop a).take Y.length ++ (X ++ S.drop (b + X.length))) := by
    unfold splice
    rw [hb, List.take_add, List.append_assoc]
  rw [h1, splice_after (by simp; omega)]
  congr 2
  rw [List.drop_append_of_le_length (by simp; omega), List.drop_eq_nil_of_le (by simp; omega), List.nil_append]
theorem row_src {w : World} {a : Option Addr} {xs : List Value} (h : Row w a xs) (hp : 0 < xs.length) : ∃ ad, a = some ad ∧ ∀ j v, xs[j]? = some v → w.cell? (ad.add j) = some v := by
  obtain ⟨x, hx, _⟩ := h 0 hp
  refine ⟨x, hx, fun j v hj => ?_⟩
  obtain ⟨hlt, rfl⟩ := List.getElem?_eq_some_iff.1 hj
  obtain ⟨y, hy, hc⟩ := h j hlt
  rw [hx] at hy
  injection hy with hy
  subst hy
  rw [hc, List.getElem?_eq_getElem hlt]
/-- A part of a row, read from its place on. -/
theorem XBlk.row {w : World} {g cap : Nat} {L : List Ext} {rest : List Value} (h : XBlk w g cap L rest) (i j : Nat) (hj : j ≤ L.length) : Row w (some ⟨g, i * 2, none⟩) (flatX ((L.take j).drop i)) := by
  have h1 := (Row.of_blk h.blk).take (j * 2)
  have ht : ((flatX L ++ rest).toArray.toList).take (j * 2) = flatX (L.take j) := by
    rw [List.take_append_of_le_length (by rw [flatX_length]; omega), flatX_take]
  rw [ht] at h1
  have h2 := h1.drop (i * 2)
  rwa [flatX_drop, Nat.zero_add] at h2
theorem XBlk.chg {w w' : World} {g cap : Nat} {L : List Ext} {rest : List Value} {S : Nat → Prop} (h : XBlk w g cap L rest) (hc : Chg S w w') (hg : ¬ S g) : XBlk w' g cap L rest := ⟨h.blk.chg hc hg, h.len, h.cap⟩
theorem XBlk.below {w w' : World} {g cap : Nat} {L : List Ext} {rest : List Value} (h : XBlk w g cap L rest) (hb : Below w.heap.size w w') : XBlk w' g cap L rest := ⟨h.blk.below hb h.blk.lt, h.len, h.cap⟩
theorem RowTold.mk' {W w' : World} {base g cap : Nat} {own : Option Nat} {L : List Ext} {rest : List Value} {n : Nat} (h : XBlk w' g cap L rest) (hb : base ≤ g) (hn : n = L.length) (hf : some g = own ∨ W.heap.size ≤ g) (hc : Chg (fun k => some k = own) W w') : RowTold W base own L (.returned (.slice (some ⟨g, 0, none⟩) n cap)) w' := by
  subst hn
  exact ⟨_, _, _, rfl, h.own hb, hc, hf.elim (fun e => .inl e) (fun e => .inr ⟨g, rfl, e⟩)⟩

set_option maxRecDepth 100000 in
set_option maxHeartbeats 1000000 in
theorem insert_grow (L : List Ext) (x : Ext) (i g cap vb base : Nat) (rest : List Value) (w : World) (hX : XBlk w g cap L rest) (hB : Blk w vb 69 #[.int .i64 (x.1 : Int), .int .i64 (x.2 : Int)]) (hne : g ≠ vb)
    (hi : i < L.length) (hL : L.length ≤ 1000000) (hcap : cap ≤ L.length) (hc : L.length ≤ cap) (hb : base ≤ w.heap.size) :
    Calls Try.prog 55 #[.slice (some ⟨g, 0, none⟩) L.length cap, .int .i64 (i : Int), .slice (some ⟨vb, 0, none⟩) 1 1] w (RowTold w base (some g) (L.take i ++ x :: L.drop i)) := by
  obtain ⟨n, hn⟩ : ∃ n, L.length = n := ⟨_, rfl⟩
  rw [hn] at hi hL hcap hc ⊢
  have hnot : ¬ (i : Int) = n := by omega
  have hnot2 : ((i : Int) == n) = false := by simp; omega
  have HX := Lib.hid hX
  have HB := Lib.hid hB
  have HN := Lib.hid hn
  have HR := Lib.hid (hX.row 0 i (by omega))
  have hne1 : ¬ cap = i := by omega
  have hgl := hX.blk.lt
  clear hX hB hn
  go_enter Try.func55, Try.ntmps55
  go_wp2_with (at_builtin; go_must (refine wpList_append_zeros rfl (.tmp 34) (.tmp 39) _ 3 rfl 69 .i64 .i64 2 16 _ Try.underlying65 Try.underlying3 info_ext rfl (by omega) i cap (some ⟨g, 0, none⟩) (n + 1 - i) (flatX (L.take i)) rfl (congrArg (Value.int .i64) (show (n : Int) + 1 - i = ((n + 1 - i : Nat) : Int) by omega)) (by rw [flatX_length, List.length_take, HN.out]; omega) HR.out (by omega) (by unfold maxLen; omega) (by omega) (by omega) (by omega) (n + 1) (by omega) ?_))
  intro w1 C S1 hC HS1L HS1 hB1 hb1
  have hCn : n + 1 ≤ C := hC.out.1
  have q2 : ¬ (C = i) := by omega
  have hb1z := hb1.out.size
  have HB1 := Lib.hid (HB.out.below hb1.out HB.out.lt)
  have RV : Hid (Row w1 (some ⟨vb, 0, none⟩) (flatX [x])) := Lib.hid (Row.of_blk HB1.out)
  have HX1 := Lib.hid (HX.out.below hb1.out)
  go_wp2_with (with_reducible refine wpList_copy_at (o := ⟨some 45, _, _, _, _, _⟩) rfl (.tmp 43) (.tmp 44) 65 65 ?h2 69 2 Try.underlying65 size_ext (some ⟨w.heap.size, i * 2, none⟩) (some ⟨vb, 0, none⟩) (n + 1 - i) (C - i) 1 1 ?h4 ?h5 w.heap.size (i * 2) S1 69 hB1.out (flatX [x]) ?c1 (fun h => ⟨rfl, row_src RV.out h⟩) ?c3 (flatX_one _) ?_)
  case h2 => rfl
  case h4 => rfl
  case h5 => rfl
  case c1 => rw [flatX_length, show Nat.min 1 (n + 1 - i) = 1 from Nat.min_eq_left (by omega)]; rfl
  case c3 => rw [HS1L.out, flatX_length, List.length_singleton]; omega
  intro w2 hB2 hc2
  have q3 : ¬ (C = i + 1) := by omega
  have RL := Lib.hid ((HX1.out.chg hc2.out (by omega)).row i n (by have := HN.out; omega))
  go_wp2_with fail
  have s1 : IntKind.i64.wrap ((i : Int) + 1) = (i : Int) + 1 := by rw [IntKind.wrap_i64]; omega
  have s2 : (0 : Int) ≤ (i : Int) + 1 := by omega
  have s3 : (i : Int) + 1 ≤ (n : Int) + 1 := by omega
  have s4 : ((i : Int) + 1).toNat = i + 1 := by omega
  have s5 : (0 : Int) ≤ (i : Int) := by omega
  have s6 : (i : Int) ≤ (n : Int) := by omega
  have s7 : n + 1 - (i + 1) = n - i := by omega
  go_region_law (refine step_copy_at rfl (.tmp 50) (.tmp 53) 65 65 (by rfl) 69 2 Try.underlying65 size_ext (some ⟨w.heap.size, (i + 1) * 2, none⟩) (some ⟨g, i * 2, none⟩) (n - i) (C - (i + 1)) (n - i) (cap - i) (by simp [Act.eval, Act.put]) (by simp [Act.eval, Act.put]) w.heap.size ((i + 1) * 2) (splice S1 (i * 2) (flatX [x])) 69 hB2.out (flatX ((L.take n).drop i)) (by rw [flatX_length, List.length_drop, List.length_take, HN.out, Nat.min_self, show Nat.min (n - i) (n - i) = n - i from Nat.min_self _]) (fun h => ⟨rfl, row_src RL.out h⟩) (by rw [length_splice _ _ _ (by rw [HS1L.out, flatX_length, List.length_singleton]; omega), HS1L.out, flatX_length, List.length_drop, List.length_take, HN.out, Nat.min_self]; omega) (flatX_one _) ?_; intro w3 hB3 hc3)
  all_goals
    obtain ⟨r, hr⟩ := HS1.out
    have hX3 : XBlk w3 w.heap.size C (L.take i ++ x :: L.drop i) (r.drop ((flatX [x]).length + (flatX ((L.take n).drop i)).length)) := by
      have hSL := HS1L.out
      have hdr : (L.take n).drop i = L.drop i := by rw [List.take_of_length_le (by rw [HN.out]; exact Nat.le_refl _)]
      rw [hr, List.length_append, flatX_length, List.length_take, HN.out] at hSL
      refine ⟨?_, ?_, hC.out.2⟩
      · have h := hB3.out
        rw [hr, splice_two (by rw [flatX_length, List.length_take, HN.out]; omega) (by rw [flatX_length, List.length_singleton]; omega), ← List.append_assoc, ← List.append_assoc, ← flatX_append, ← flatX_append] at h
        rw [hdr] at h ⊢
        rw [List.append_assoc] at h
        simpa using h
      · rw [hdr, List.length_append, List.length_cons, List.length_take, List.length_drop, HN.out, List.length_drop, flatX_length, flatX_length, List.length_singleton, List.length_drop, HN.out]
        omega
    go_wp2_with fail
    go_ret
    refine RowTold.mk' hX3 hb (by rw [List.length_append, List.length_cons, List.length_take, List.length_drop, HN.out]; omega) (.inr (Nat.le_refl _)) ?_
    exact (((Chg.of_below' hb1.out).trans hc2.out (fun k hk e => by omega)).drew.trans hc3.out (fun k hk e => by omega))

end Go.Proofs.Ytodjibhnmibedaa.Sp
