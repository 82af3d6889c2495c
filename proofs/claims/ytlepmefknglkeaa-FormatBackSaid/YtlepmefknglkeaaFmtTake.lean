/- The walk of the reader's take. -/
import Derived.Test.YtlepmefknglkeaaFVRef
import Derived.Test.YtlepmefknglkeaaVarBack
import Derived.Test.YtlepmefknglkeaaHeap
set_option linter.unusedVariables false
namespace Go.Proofs.Ytlepmefknglkeaa.Gr
open Go.RowKit Var

/-- A reader: its bytes, its place, and whether it has failed. -/
structure Rdr (w : World) (r : Nat) (a : Option Addr) (n c : Nat) (b : List Nat) (at_ : Int) (fail : Bool) : Prop where
  blk : Blk w r 62 #[.slice a n c, .int .i64 at_, .bool fail]
  row : Row w a (byts b)
  len : b.length = n
theorem Rdr.cells {w : World} {r : Nat} {a : Option Addr} {n c : Nat} {b : List Nat} {at_ : Int} {fail : Bool} (h : Rdr w r a n c b at_ fail) :
    w.cell? ⟨r, 0, none⟩ = some (.slice a n c) ∧ w.cell? ⟨r, 1, none⟩ = some (.int .i64 at_) ∧ w.cell? ⟨r, 2, none⟩ = some (.bool fail) ∧ w.frozen? ⟨r, 1, none⟩ = false ∧ w.frozen? ⟨r, 2, none⟩ = false ∧ r < w.heap.size :=
  ⟨h.blk.cell 0, h.blk.cell 1, h.blk.cell 2, h.blk.frozen 1, h.blk.frozen 2, h.blk.lt⟩

set_option maxRecDepth 100000 in
theorem take_failed (r : Nat) (a : Option Addr) (n c : Nat) (b : List Nat) (at_ most : Int) (w : World) (h : Rdr w r a n c b at_ true) :
    Calls Try.prog 48 #[.pointer (some ⟨r, 0, none⟩), .int .i64 most] w fun e w' => e = .returned (.int .i64 0) ∧ w = w' := by
  obtain ⟨c0, c1, c2, _, _, _⟩ := h.cells
  go_enter Try.func48, Try.ntmps48
  go_wp2_with fail
  go_ret
  exact ⟨rfl, rfl⟩

theorem Rdr.drewN {w : World} {r : Nat} {a : Option Addr} {n c : Nat} {b : List Nat} {at_ : Int} {fail : Bool} (h : Rdr w r a n c b at_ fail) (k : Nat) : Rdr (w.drewN k) r a n c b at_ fail := ⟨h.blk, h.row, h.len⟩
theorem Rdr.ne {w : World} {r : Nat} {a : Option Addr} {n c : Nat} {b : List Nat} {at_ : Int} {fail : Bool} (h : Rdr w r a n c b at_ fail) : ∀ i, i < b.length → ∀ x, a = some x → x.block ≠ r := by
  intro i hi x hx e
  obtain ⟨g, off, h1, h2, _⟩ := h.row.at_ (i := i) (by rw [byts_length]; exact hi)
  rw [hx] at h1
  cases h1
  simp only at e
  subst e
  rw [h.blk.cell, byts_get b i hi |> fun h => (List.getElem?_eq_some_iff.1 h).2] at h2
  rcases (by omega : off + i = 0 ∨ off + i = 1 ∨ off + i = 2 ∨ 3 ≤ off + i) with hk | hk | hk | hk
  · rw [hk] at h2; simp at h2
  · rw [hk] at h2; simp at h2
  · rw [hk] at h2; simp at h2
  · rw [Array.getElem?_eq_none (by simpa using hk)] at h2; cases h2
theorem Rdr.set {w : World} {r : Nat} {a : Option Addr} {n c : Nat} {b : List Nat} {at_ : Int} {fail : Bool} (h : Rdr w r a n c b at_ fail) (at2 : Int) : Rdr (w.setCell ⟨r, 1, none⟩ (.int .i64 at2)) r a n c b at2 fail := by
  refine ⟨by simpa using h.blk.set_ 1 (.int .i64 at2), ?_, h.len⟩
  intro i hi
  have hi' : i < b.length := by rw [byts_length] at hi; exact hi
  obtain ⟨x, e, hc⟩ := h.row i hi
  refine ⟨x, e, ?_⟩
  rw [List.getElem?_eq_getElem hi] at hc ⊢
  exact ((Chg.refl (fun j => j = r) w).setCell ⟨r, 1, none⟩ _ (fun _ => rfl)).cell hc (by
    have hb : (x.add i).block = x.block := by unfold Addr.add; split <;> rfl
    rw [hb]; exact h.ne i hi' x e)
theorem Rdr.fails {w : World} {r : Nat} {a : Option Addr} {n c : Nat} {b : List Nat} {at_ : Int} {fail : Bool} (h : Rdr w r a n c b at_ fail) : Rdr (w.setCell ⟨r, 2, none⟩ (.bool true)) r a n c b at_ true := by
  refine ⟨by simpa using h.blk.set_ 2 (.bool true), ?_, h.len⟩
  intro i hi
  have hi' : i < b.length := by rw [byts_length] at hi; exact hi
  obtain ⟨x, e, hc⟩ := h.row i hi
  refine ⟨x, e, ?_⟩
  rw [List.getElem?_eq_getElem hi] at hc ⊢
  exact ((Chg.refl (fun j => j = r) w).setCell ⟨r, 2, none⟩ _ (fun _ => rfl)).cell hc (by
    have hb : (x.add i).block = x.block := by unfold Addr.add; split <;> rfl
    rw [hb]; exact h.ne i hi' x e)

/-- What a number at a place, at most 'most', is: the number, the place to go on at (or of the wrong byte), and whether none stands there. -/
def num (b : List Nat) (at_ most : Int) : Int × Int × Bool :=
  if (take b at_).2.2 ≠ 0 then (0, (take b at_).2.1, true)
  else if most < (take b at_).1 then (0, (take b at_).2.1 - 1, true)
  else ((take b at_).1, (take b at_).2.1, false)

set_option maxRecDepth 100000 in
set_option maxHeartbeats 1000000 in
theorem take_num (r : Nat) (a : Option Addr) (n c : Nat) (b : List Nat) (at_ : Int) (most : Nat) (w : World) (hb : ∀ x ∈ b, x < 256) (hn : n < 1000000000) (hm : most ≤ 1073741824) (h : Rdr w r a n c b at_ false) :
    Calls Try.prog 48 #[.pointer (some ⟨r, 0, none⟩), .int .i64 (most : Int)] w fun e w' =>
      e = .returned (.int .i64 (num b at_ most).1) ∧ Rdr w' r a n c b (num b at_ most).2.1 (num b at_ most).2.2 ∧ Chg (fun j => j = r) w w' := by
  obtain ⟨c0, c1, c2, f1, f2, hlt⟩ := h.cells
  have hmw : IntKind.u64.wrap (most : Int) = (most : Int) := by simp [IntKind.wrap, IntKind.bits, IntKind.signed]; omega
  have HT := Lib.hid (fun W hr => take_any b hb at_ a n c W hr h.len (by omega))
  have hend := take_end b at_
  have hxn : 0 ≤ (take b at_).1 := by unfold take; split <;> simp
  have H := Lib.hid h
  have hnum : num b at_ most = num b at_ most := rfl
  conv at hnum => rhs; unfold num
  obtain ⟨x, m, er, hx⟩ : ∃ x m er, take b at_ = (x, m, er) := ⟨_, _, _, rfl⟩
  rw [hx] at HT hend hnum hxn
  simp only at HT hend hnum hxn
  have HN := Lib.hid hnum
  clear hnum hx
  have hml : m ≤ n := by have := h.len; omega
  have hm0 : 0 ≤ m := hend.1
  have hw1 : IntKind.i64.wrap (m - 1) = m - 1 := by rw [IntKind.wrap_i64]; omega
  have hx9 : 0 ≤ x := hxn
  clear hend h hxn
  by_cases h1 : er = 0
  · subst h1
    by_cases h2 : (most : Int) < x
    · have E := Lib.hid (show num b at_ most = (0, m - 1, true) by rw [HN.out, if_neg (by simp), if_pos h2])
      rw [E.out]
      go_enter Try.func48, Try.ntmps48
      go_wp2_with fail
      go_quiet ((go_at_call 56; exact Calls.quiet_of_same' (HT.out _ (H.out.row.drewN _))))
      go_wp2_with fail
      go_ret
      exact ⟨rfl, ((H.out.drewN _).set (m - 1)).fails, ((((Chg.refl (fun j => j = r) w).drewN _).setCell _ _ (fun _ => rfl)).setCell _ _ (fun _ => rfl))⟩
    · have E := Lib.hid (show num b at_ most = (x, m, false) by rw [HN.out, if_neg (by simp), if_neg h2])
      rw [E.out]
      have hx0 : IntKind.i64.wrap x = x := by rw [IntKind.wrap_i64]; omega
      go_enter Try.func48, Try.ntmps48
      go_wp2_with fail
      go_quiet ((go_at_call 56; exact Calls.quiet_of_same' (HT.out _ (H.out.row.drewN _))))
      go_wp2_with fail
      go_ret
      exact ⟨rfl, (H.out.drewN _).set m, (((Chg.refl (fun j => j = r) w).drewN _).setCell _ _ (fun _ => rfl))⟩
  · have E := Lib.hid (show num b at_ most = (0, m, true) by rw [HN.out, if_pos h1])
    rw [E.out]
    have h3 : (er != 0) = true := by simpa using h1
    go_enter Try.func48, Try.ntmps48
    go_wp2_with fail
    go_quiet ((go_at_call 56; exact Calls.quiet_of_same' (HT.out _ (H.out.row.drewN _))))
    go_wp2_with fail
    go_ret
    exact ⟨rfl, ((H.out.drewN _).set m).fails, ((((Chg.refl (fun j => j = r) w).drewN _).setCell _ _ (fun _ => rfl)).setCell _ _ (fun _ => rfl))⟩

set_option maxRecDepth 100000 in
set_option maxHeartbeats 1000000 in
theorem number_any (a : Option Addr) (n c : Nat) (b : List Nat) (at_ : Int) (most : Nat) (w : World) (hb : ∀ x ∈ b, x < 256) (hn : n < 1000000000) (hm : most ≤ 1073741824) (hr : Row w a (byts b)) (hl : b.length = n) :
    Calls Try.prog 49 #[.slice a n c, .int .i64 at_, .int .u64 (most : Int)] w fun e w' =>
      e = .returned (.tuple #[.int .i64 (num b at_ most).1, .int .i64 (num b at_ most).2.1, .bool (!(num b at_ most).2.2)]) ∧ w = w' := by
  have HT := Lib.hid (ref_take b hb at_ a n c w hr hl (by omega))
  have hend := take_end b at_
  have hxn : 0 ≤ (take b at_).1 := by unfold take; split <;> simp
  have hnum : num b at_ most = num b at_ most := rfl
  conv at hnum => rhs; unfold num
  obtain ⟨x, m, er, hx⟩ : ∃ x m er, take b at_ = (x, m, er) := ⟨_, _, _, rfl⟩
  rw [hx] at HT hend hnum hxn
  simp only at HT hend hnum hxn
  have HN := Lib.hid hnum
  clear hnum hx
  have hw1 : IntKind.i64.wrap (m - 1) = m - 1 := by rw [IntKind.wrap_i64]; omega
  have hx9 : 0 ≤ x := hxn
  clear hend hxn hr
  by_cases h1 : er = 0
  · subst h1
    by_cases h2 : (most : Int) < x
    · have E := Lib.hid (show num b at_ most = (0, m - 1, true) by rw [HN.out, if_neg (by simp), if_pos h2])
      rw [E.out]
      go_enter Try.func49, Try.ntmps49
      go_wp2_with fail
      refine HT.out.mono ?_
      rintro e w1 ⟨rfl, rfl⟩
      go_wp2_with fail
      go_ret3
      exact ⟨rfl, rfl⟩
    · have E := Lib.hid (show num b at_ most = (x, m, false) by rw [HN.out, if_neg (by simp), if_neg h2])
      rw [E.out]
      have hx0 : IntKind.i64.wrap x = x := by rw [IntKind.wrap_i64]; omega
      go_enter Try.func49, Try.ntmps49
      go_wp2_with fail
      refine HT.out.mono ?_
      rintro e w1 ⟨rfl, rfl⟩
      go_wp2_with fail
      go_ret3
      exact ⟨rfl, rfl⟩
  · have E := Lib.hid (show num b at_ most = (0, m, true) by rw [HN.out, if_pos h1])
    rw [E.out]
    have h3 : (er != 0) = true := by simpa using h1
    go_enter Try.func49, Try.ntmps49
    go_wp2_with fail
    refine HT.out.mono ?_
    rintro e w1 ⟨rfl, rfl⟩
    go_wp2_with fail
    go_ret3
    exact ⟨rfl, rfl⟩

end Go.Proofs.Ytlepmefknglkeaa.Gr
