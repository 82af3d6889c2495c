/- The reference of chapter 6: the sizes of all grants, and which stand. -/
import Derived.Test.YtoodkfjldflbeaaArenaApart
set_option linter.unusedVariables false
namespace Go.Proofs.Ytoodkfjldflbeaa.Arena
open Go.RowKit

theorem el_ints : Elem Try.prog 22 3 1 8 := elem_of (z := .int .i64 0) Try.underlying22 (by kernel_rfl) rfl (by decide)
theorem el_bools : Elem Try.prog 54 4 1 1 := elem_of (z := .bool false) Try.underlying54 (by kernel_rfl) rfl (by decide)

def iRow (L : List (Nat × Bool)) : List Value := L.map fun p => Value.int .i64 (p.1 : Int)
def bRow (L : List (Nat × Bool)) : List Value := L.map fun p => Value.bool p.2
def tot : List (Nat × Bool) → Nat
  | [] => 0
  | p :: l => (if p.2 then p.1 else 0) + tot l

theorem tot_append (l m : List (Nat × Bool)) : tot (l ++ m) = tot l + tot m := by
  induction l with
  | nil => simp [tot]
  | cons p l ih => simp [tot, ih]; omega
theorem tot_take_succ {l : List (Nat × Bool)} {k : Nat} (h : k < l.length) : tot (l.take (k + 1)) = tot (l.take k) + (if l[k].2 then l[k].1 else 0) := by
  rw [List.take_add_one, List.getElem?_eq_getElem h, tot_append]; simp [tot]
theorem tot_take_le (l : List (Nat × Bool)) (k : Nat) : tot (l.take k) ≤ tot l := by
  have := tot_append (l.take k) (l.drop k)
  rw [List.take_append_drop] at this
  omega

theorem own_ne_own {w : World} {base base' size size' n n' : Nat} {e e' : TypeId} {v v' : Value} {xs xs' : List Value} (h : w.ownsRow base e size v n xs) (h' : w.ownsRow base' e' size' v' n' xs') (hne : e ≠ e') {g : Nat} (hg : v.ownBlock = some g) : v'.ownBlock ≠ some g := by
  rcases h.2 with ⟨rfl, _⟩ | ⟨g', cap, cur, rfl, _, hh, _⟩
  · simp [Value.ownBlock] at hg
  · have : g' = g := by simpa [Value.ownBlock] using hg
    subst this
    exact own_ne_blk (t := e) h' hh hne.symm
theorem own_blk {w : World} {base size n : Nat} {e : TypeId} {v : Value} {xs : List Value} (h : w.ownsRow base e size v n xs) {g : Nat} (hg : v.ownBlock = some g) : ∃ cs, Blk w g e cs := by
  rcases h.2 with ⟨rfl, _⟩ | ⟨g', cap, cur, rfl, _, hh, _⟩
  · simp [Value.ownBlock] at hg
  · have : g' = g := by simpa [Value.ownBlock] using hg
    subst this
    exact ⟨_, hh⟩
theorem Quiet.row {w w' : World} {a : Option Addr} {xs : List Value} (hq : Quiet w w') (h : Row w a xs) : Row w' a xs := by
  obtain ⟨d, rfl⟩ := hq
  exact h

theorem Quiet.own {w w' : World} {base : Nat} {e : TypeId} {size n : Nat} {v : Value} {xs : List Value} (hq : Quiet w w') (h : w.ownsRow base e size v n xs) : w'.ownsRow base e size v n xs := by
  obtain ⟨d, rfl⟩ := hq
  exact h
theorem Quiet.below {w w' : World} (hq : Quiet w w') (b : Nat) : Below b w w' := by
  obtain ⟨d, rfl⟩ := hq
  exact below_drewN (Below.refl b w) d
theorem Quiet.size {w w' : World} (hq : Quiet w w') : w.heap.size ≤ w'.heap.size := by
  obtain ⟨d, rfl⟩ := hq
  exact Nat.le_refl _

/-- Block q is the reference's arena. -/
structure Rf (base q room peak : Nat) (L : List (Nat × Bool)) (wx : World) : Prop where
  ex : ∃ vs vt, Blk wx q 56 #[.int .i64 (room : Int), .int .i64 (peak : Int), vs, vt] ∧
    wx.ownsRow base 3 1 vs L.length (iRow L) ∧ wx.ownsRow base 4 1 vt L.length (bRow L)

theorem Rf.quiet {base q room peak : Nat} {L : List (Nat × Bool)} {w w' : World} (h : Rf base q room peak L w) (hq : Quiet w w') : Rf base q room peak L w' := by
  obtain ⟨d, rfl⟩ := hq
  exact ⟨h.ex⟩

set_option maxRecDepth 100000 in
theorem refnew_any (room : Int) (w : World) (hr : room ≤ 1099511627776) (hr2 : -9223372036854775808 ≤ room) :
    Calls Try.prog 23 #[.int .i64 room] w fun e w' =>
      e = .returned (.pointer (some ⟨w.heap.size, 0, none⟩)) ∧ Blk w' w.heap.size 56 #[.int .i64 (room.toNat : Int), .int .i64 0, .slice none 0 0, .slice none 0 0] ∧ Below w.heap.size w w' := by
  have hb := fun n => Blk.new w 56 #[.int .i64 n, .int .i64 0, .slice none 0 0, .slice none 0 0]
  have Hb := Lib.hid hb
  clear hb
  by_cases h0 : room < 0
  · have e0 : (room.toNat : Int) = 0 := by omega
    rw [e0]
    go_enter Try.func23, Try.ntmps23
    go_wp2_with fail
    go_ret
    exact ⟨rfl, Hb.out _, (Below.refl _ _).alloc (Nat.le_refl _) _⟩
  · have e0 : (room.toNat : Int) = room := by omega
    rw [e0]
    go_enter Try.func23, Try.ntmps23
    go_wp2_with fail
    go_ret
    exact ⟨rfl, Hb.out _, (Below.refl _ _).alloc (Nat.le_refl _) _⟩

def UsedLoop (w : World) (L : List (Nat × Bool)) (nv iv : Value) (wr : World) : Prop :=
  ∃ k : Nat, iv = .int .i64 (k : Int) ∧ nv = .int .i64 (tot (L.take k) : Int) ∧ k ≤ L.length ∧ w = wr

set_option maxRecDepth 100000 in
theorem refused_ok (base q room peak : Nat) (L : List (Nat × Bool)) (w : World) (h : Rf base q room peak L w) (ht : tot L ≤ 1099511627776) (hl : L.length ≤ 1099511627776) :
    Calls Try.prog 27 #[.pointer (some ⟨q, 0, none⟩)] w fun e w' => e = .returned (.int .i64 (tot L : Int)) ∧ w = w' := by
  obtain ⟨vs, vt, hB, hS, hT⟩ := h.ex
  obtain ⟨as1, cs1, rfl, hrow1, -, -, hl1⟩ := own_slice hS
  obtain ⟨as2, cs2, rfl, hrow2, -, -, hl2⟩ := own_slice hT
  clear hS hT h
  go_enter Try.func27, Try.ntmps27
  go_wp2_with fail
  go_loopw [3, 4] (fun nv iv wr => UsedLoop w L nv iv wr) (fun _ iv _ => L.length - (intOf iv).toNat)
  case atStart => exact ⟨0, rfl, rfl, by omega, rfl⟩
  case round =>
    obtain ⟨k, rfl, rfl, hk, rfl⟩ := hrel
    have c2 : w.cell? ⟨q, 2, none⟩ = some (.slice as1 L.length cs1) := by rw [hB.cell 2]; rfl
    have c3 : w.cell? ⟨q, 3, none⟩ = some (.slice as2 L.length cs2) := by rw [hB.cell 3]; rfl
    by_cases hlt : (k : Int) < L.length
    · have hkl : k < L.length := by omega
      obtain ⟨b1, o1, rfl, hc1, l1⟩ := hrow1.at_ (i := k) (by omega)
      obtain ⟨b2, o2, rfl, hc2, l2⟩ := hrow2.at_ (i := k) (by omega)
      simp [iRow, bRow] at hc1 hc2
      have hs := tot_take_succ hkl
      have hle := tot_take_le L (k + 1)
      clear hrow1 hrow2
      generalize L[k] = p at *
      obtain ⟨x, y⟩ := p
      cases y
      · simp only [Bool.false_eq_true, if_false, Nat.add_zero] at hs
        go_wp2_with fail
        go_roundw
        case rel => exact ⟨k + 1, by go_num, by rw [hs], by omega, rfl⟩
        case measure => simp [intOf]; omega
      · simp only [if_true] at hs
        have hw : IntKind.i64.wrap ((tot (L.take k) : Int) + x) = ((tot (L.take k) : Int) + x) := IntKind_sum _ _ (by omega)
        go_wp2_with fail
        go_roundw
        case rel => exact ⟨k + 1, by go_num, by rw [hs]; simp, by omega, rfl⟩
        case measure => simp [intOf]; omega
    · have hkk : L.take k = L := List.take_of_length_le (by omega)
      rw [hkk]
      go_wp2_with fail
      go_ret
      exact ⟨rfl, rfl⟩

theorem Rf.setPeak {base q room peak : Nat} {L : List (Nat × Bool)} {w : World} (h : Rf base q room peak L w) (p : Nat) : Rf base q room p L (w.setCell ⟨q, 1, none⟩ (.int .i64 (p : Int))) := by
  obtain ⟨vs, vt, hB, hS, hT⟩ := h.ex
  have hc : Chg (fun k => k = q) w (w.setCell ⟨q, 1, none⟩ (.int .i64 (p : Int))) := (Chg.refl _ w).setCell ⟨q, 1, none⟩ _ (fun _ => rfl)
  exact ⟨vs, vt, by simpa using hB.set_ 1 (.int .i64 (p : Int)), own_chg hS hc (fun g hg e => own_ne_blk hS hB (by decide) (e ▸ hg)), own_chg hT hc (fun g hg e => own_ne_blk hT hB (by decide) (e ▸ hg))⟩

/-- What the reference may write: its struct, and rows of sizes and of flags. -/
def RfS (w : World) (k : Nat) : Prop := ∃ t cs, Blk w k t cs ∧ (t = 56 ∨ t = 3 ∨ t = 4)

set_option maxRecDepth 100000 in
theorem refgrant_neg (q : Nat) (n : Int) (w : World) (hn : n < 0) :
    Calls Try.prog 24 #[.pointer (some ⟨q, 0, none⟩), .int .i64 n] w fun e w' => e = .returned (.tuple #[.int .i64 (-1), .int .i64 1]) ∧ w = w' := by
  go_enter Try.func24, Try.ntmps24
  go_wp2_with fail
  go_ret2
  exact ⟨rfl, rfl⟩

set_option maxRecDepth 100000 in
theorem refgrant_room (base q room peak : Nat) (L : List (Nat × Bool)) (n : Int) (w : World) (h : Rf base q room peak L w) (ht : tot L ≤ room) (hr : room ≤ 1099511627776) (hl : L.length ≤ 1099511627776) (hn : (room : Int) - tot L < n) :
    Calls Try.prog 24 #[.pointer (some ⟨q, 0, none⟩), .int .i64 n] w fun e w' => e = .returned (.tuple #[.int .i64 (-1), .int .i64 7]) ∧ Quiet w w' := by
  obtain ⟨vs, vt, hB, hS, hT⟩ := h.ex
  have c0 : w.cell? ⟨q, 0, none⟩ = some (.int .i64 (room : Int)) := by rw [hB.cell 0]; rfl
  have hsub : IntKind.i64.wrap ((room : Int) - tot L) = (room : Int) - tot L := by rw [IntKind.wrap_i64]; omega
  have hn0 : ¬ n < 0 := by omega
  clear hS hT
  go_enter Try.func24, Try.ntmps24
  go_wp2_with fail
  go_quiet ((go_at_call 27; exact Calls.quiet_of_same' (refused_ok base q room peak L _ (h.quiet ⟨_, rfl⟩) (by omega) (by omega))))
  go_wp2_with fail
  go_ret2
  exact ⟨rfl, _, rfl⟩

set_option maxRecDepth 100000 in
set_option maxHeartbeats 800000 in
theorem refgrant_ok (base q room peak : Nat) (L : List (Nat × Bool)) (n : Nat) (w : World) (h : Rf base q room peak L w) (hbase : base ≤ q) (hb0 : base ≤ w.heap.size) (hp : tot L ≤ peak) (ht : tot L ≤ room) (hr : room ≤ 1099511627776) (hl : L.length ≤ 1000000) (hn : n ≤ room - tot L) :
    Calls Try.prog 24 #[.pointer (some ⟨q, 0, none⟩), .int .i64 (n : Int)] w fun e w' => e = .returned (.tuple #[.int .i64 (L.length : Int), .int .i64 0]) ∧
      Rf base q room (max peak (tot L + n)) (L ++ [(n, true)]) w' ∧ Chg (RfS w) w w' ∧ Below base w w' := by
  obtain ⟨vs, vt, hB, hS, hT⟩ := h.ex
  have c0 : w.cell? ⟨q, 0, none⟩ = some (.int .i64 (room : Int)) := by rw [hB.cell 0]; rfl
  have hsub : IntKind.i64.wrap ((room : Int) - tot L) = (room : Int) - tot L := by rw [IntKind.wrap_i64]; omega
  have hle : (n : Int) ≤ (room : Int) - tot L := by omega
  go_enter Try.func24, Try.ntmps24
  go_wp2_with fail
  go_quiet ((go_at_call 27; exact Calls.quiet_of_same' (refused_ok base q room peak L _ (h.quiet ⟨_, rfl⟩) (by omega) (by omega))))
  have hq : Quiet w (w.drewN nq) := ⟨_, rfl⟩
  generalize w.drewN nq = w1 at *
  have hB1 := hq.blk hB
  have hS1 := hq.own hS
  have hT1 := hq.own hT
  have c2 : w1.cell? ⟨q, 2, none⟩ = some vs := by rw [hB1.cell 2]; rfl
  have hz1 := hq.size
  have e0 : ∀ g, vs.ownBlock = some g → g ≠ q := fun g hg e => own_ne_blk hS1 hB1 (by decide) (e ▸ hg)
  have hf1 := hB1.frozen 2
  have hx : ∀ k, some k = vs.ownBlock ∨ some k = vt.ownBlock ∨ k = q → RfS w k := by
    rintro k (e | e | rfl)
    · obtain ⟨cs, hc⟩ := own_blk hS e.symm
      exact ⟨_, cs, hc, .inr (.inl rfl)⟩
    · obtain ⟨cs, hc⟩ := own_blk hT e.symm
      exact ⟨_, cs, hc, .inr (.inr rfl)⟩
    · exact ⟨_, _, hB, .inl rfl⟩
  have HX := Lib.hid hx
  clear hB hS hT hx e0
  go_wp2_with (at_builtin; go_must (refine wpList_append rfl (.tmp 21) (.tmp 23) _ rfl el_ints base _ _ _ rfl (hS1.alloc _) _ 1 1 [.int .i64 (n : Int)] rfl rfl (Row.new w1 _ _ _) (by intro u hu; simp at hu; subst hu; rfl) (by unfold maxLen; omega) (by omega) (by simp; omega) ?_))
  intro v2 w2 hown2 hg2 _ hb2
  obtain ⟨ax, cx, rfl, -, -, -, -⟩ := own_slice hown2
  have hc2 := ((Chg.refl (fun k => some k = vs.ownBlock) w1).alloc (.cells #[.int .i64 (n : Int)] 3 (0, 0))).trans (Chg.of_grown hg2) (fun _ _ h => h)
  have hb2' := ((Below.refl base w1).alloc (by omega) _).trans hb2
  have hB2 := hB1.chg hc2 (fun e => own_ne_blk hS1 hB1 (by decide) e.symm)
  have hT2 := own_chg hT1 hc2 (fun g hg e => own_ne_own hT1 hS1 (by decide) hg e.symm)
  have k2 : w2.cell? ⟨q, 2, none⟩ = some vs := by rw [hB2.cell 2]; rfl
  have hf2 := hB2.frozen 2
  clear hg2 hb2
  have hB3 := hB2.set_ 2 (.slice ax (L.length + 1) cx)
  have hT3 : (w2.setCell ⟨q, 2, none⟩ (.slice ax (L.length + 1) cx)).ownsRow base 4 1 vt L.length (bRow L) := own_chg (S := fun k => k = q) hT2 ((Chg.refl _ w2).setCell ⟨q, 2, none⟩ (.slice ax (L.length + 1) cx) (fun _ => rfl)) (fun g hg e => own_ne_blk hT2 hB2 (by decide) (e ▸ hg))
  have hS3 : (w2.setCell ⟨q, 2, none⟩ (.slice ax (L.length + 1) cx)).ownsRow base 3 1 (.slice ax (L.length + 1) cx) (L.length + 1) (iRow L ++ [.int .i64 (n : Int)]) := own_chg (S := fun k => k = q) hown2 ((Chg.refl _ w2).setCell ⟨q, 2, none⟩ (.slice ax (L.length + 1) cx) (fun _ => rfl)) (fun g hg e => own_ne_blk hown2 hB2 (by decide) (e ▸ hg))
  have c3 : (w2.setCell ⟨q, 2, none⟩ (.slice ax (L.length + 1) cx)).cell? ⟨q, 3, none⟩ = some vt := by rw [hB3.cell 3]; rfl
  have hz2 := hb2'.size
  have hf3 := hB3.frozen 3
  have hz2 := hb2'.size
  have hsz3 : (w2.setCell ⟨q, 2, none⟩ (.slice ax (L.length + 1) cx)).heap.size = w2.heap.size := by simp
  have hrow3 : Row ((w2.setCell ⟨q, 2, none⟩ (.slice ax (L.length + 1) cx)).alloc (.cells #[.bool true] 4 (0, 0))) (some ⟨w2.heap.size, 0, none⟩) [.bool true] := by
    have := Row.new (w2.setCell ⟨q, 2, none⟩ (.slice ax (L.length + 1) cx)) #[.bool true] 4 (0, 0)
    rw [hsz3] at this
    exact this
  have hown3 := hT3.alloc (.cells #[.bool true] 4 (0, 0))
  have hc3 : Chg (fun k => k = q) w2 (w2.setCell ⟨q, 2, none⟩ (.slice ax (L.length + 1) cx)) := (Chg.refl _ w2).setCell ⟨q, 2, none⟩ _ (fun _ => rfl)
  have HR := Lib.hid hrow3
  have HO := Lib.hid hown3
  clear hrow3 hown3
  go_wp2_with (at_builtin; go_must (refine wpList_append rfl (.tmp 31) (.tmp 32) _ rfl el_bools base _ _ _ rfl HO.out _ 1 1 [.bool true] rfl rfl HR.out (by intro u hu; simp at hu; subst hu; rfl) (by unfold maxLen; omega) (by omega) (by simp; omega) ?_))
  intro v4 w4 hown4 hg4 _ hb4
  obtain ⟨ay, cy, rfl, -, -, -, -⟩ := own_slice hown4
  have hc4 := ((Chg.refl (fun k => some k = vt.ownBlock) (w2.setCell ⟨q, 2, none⟩ (.slice ax (L.length + 1) cx))).alloc (.cells #[.bool true] 4 (0, 0))).trans (Chg.of_grown hg4) (fun _ _ h => h)
  have hb4' := ((Below.refl base (w2.setCell ⟨q, 2, none⟩ (.slice ax (L.length + 1) cx))).alloc (by omega) (.cells #[.bool true] 4 (0, 0))).trans hb4
  have hB4 := hB3.chg hc4 (fun e => own_ne_blk hT3 hB3 (by decide) e.symm)
  have hS4 := own_chg hS3 hc4 (fun g hg e => own_ne_own hS3 hT3 (by decide) hg e.symm)
  clear hg4 hb4
  have hf4 := hB4.frozen 3
  have k4 : w4.cell? ⟨q, 3, none⟩ = some vt := by rw [hB4.cell 3]; rfl
  have hB5 := hB4.set_ 3 (.slice ay (L.length + 1) cy)
  have hc5 : Chg (fun k => k = q) w4 (w4.setCell ⟨q, 3, none⟩ (.slice ay (L.length + 1) cy)) := (Chg.refl _ w4).setCell ⟨q, 3, none⟩ _ (fun _ => rfl)
  have hS5 := own_chg hS4 hc5 (fun g hg e => own_ne_blk hS4 hB4 (by decide) (e ▸ hg))
  have hT5 := own_chg hown4 hc5 (fun g hg e => own_ne_blk hown4 hB4 (by decide) (e ▸ hg))
  have hRf5 : Rf base q room peak (L ++ [(n, true)]) (w4.setCell ⟨q, 3, none⟩ (.slice ay (L.length + 1) cy)) := ⟨_, _, by simpa using hB5, by simpa [iRow] using hS5, by simpa [bRow] using hT5⟩
  have hbb : Below base w (w4.setCell ⟨q, 3, none⟩ (.slice ay (L.length + 1) cy)) := ((hq.below base).trans hb2').trans ((hc3.below_of (by omega) (fun k hk e => by omega)).trans (hb4'.trans (hc5.below_of (by have := hb4'.size; omega) (fun k hk e => by omega))))
  have hcc : Chg (RfS w) w (w4.setCell ⟨q, 3, none⟩ (.slice ay (L.length + 1) cy)) :=
    ((((hq.chg (RfS w)).trans hc2 (fun k _ e => HX.out k (.inl e))).trans hc3 (fun k _ e => HX.out k (.inr (.inr e)))).trans hc4 (fun k _ e => HX.out k (.inr (.inl e)))).trans hc5 (fun k _ e => HX.out k (.inr (.inr e)))
  clear hc5 hS5 hT5 hB5 hS4 hB4 hown4 hc4 hb4' hS3 hT3 HR HO hc3 hB3 hT2 hB2 hown2 hc2 hb2'
  go_wp2_with fail
  generalize w4.setCell ⟨q, 3, none⟩ (.slice ay (L.length + 1) cy) = w5 at *
  have ht5 : tot (L ++ [(n, true)]) = tot L + n := by rw [tot_append]; simp [tot]
  have hl5 : (L ++ [(n, true)]).length = L.length + 1 := by simp
  generalize hL5 : L ++ [(n, true)] = L5 at *
  have HL := Lib.hid hL5
  clear hL5
  have HU := Lib.hid (fun d => refused_ok base q room peak L5 (w5.drewN d) (hRf5.quiet ⟨d, rfl⟩) (by omega) (by omega))
  rw [ht5] at HU
  obtain ⟨vs5, vt5, hB5, hS5, hT5⟩ := hRf5.ex
  obtain ⟨a6, c6, rfl, -, -, -, -⟩ := own_slice hS5
  rw [hl5] at hB5
  have c5 : w5.cell? ⟨q, 1, none⟩ = some (.int .i64 (peak : Int)) := by rw [hB5.cell 1]; rfl
  have c52 : w5.cell? ⟨q, 2, none⟩ = some (.slice a6 (L.length + 1) c6) := by rw [hB5.cell 2]; rfl
  have hw5 : IntKind.i64.wrap ((L.length : Int) + 1 - 1) = (L.length : Int) := by rw [IntKind.wrap_i64]; omega
  have hf5 := hB5.frozen 1
  have hcc5 := hcc.size
  clear hB5 hS5 hT5
  by_cases hpk : peak < tot L + n
  · have hmax : max peak (tot L + n) = tot L + n := Nat.max_eq_right (by omega)
    have HM := Lib.hid hmax
    clear hmax
    have hpk2 : (peak : Int) < (tot L : Int) + n := by omega
    go_quiet ((go_at_call 27; exact Calls.quiet_of_same' (HU.out _)))
    go_wp2_with (go_at_call 27; refine (HU.out _).mono ?_; rintro e w6 ⟨rfl, rfl⟩)
    go_ret2
    refine ⟨by simp, ?_, ?_, ?_⟩
    · rw [HM.out, HL.out]
      have h6 := fun d => (hRf5.quiet (w' := w5.drewN d) ⟨d, rfl⟩).setPeak (tot L + n)
      simp only [Int.natCast_add] at h6
      exact h6 _
    · exact (hcc.drewN _).setCell _ _ (fun _ => HX.out _ (.inr (.inr rfl)))
    · exact (below_drewN hbb _).setCell hbase _
  · have hmax : max peak (tot L + n) = peak := Nat.max_eq_left (by omega)
    have HM := Lib.hid hmax
    clear hmax
    have hpk2 : ¬ (peak : Int) < (tot L : Int) + n := by omega
    go_quiet ((go_at_call 27; exact Calls.quiet_of_same' (HU.out _)))
    go_wp2_with fail
    go_ret2
    exact ⟨by simp, by rw [HM.out, HL.out]; exact hRf5.quiet ⟨_, rfl⟩, hcc.drewN _, below_drewN hbb _⟩

set_option maxRecDepth 100000 in
set_option maxHeartbeats 400000 in
theorem refrel_no (base q room peak k : Nat) (L : List (Nat × Bool)) (w : World) (h : Rf base q room peak L w) (hk : k < L.length) (hf : L[k].2 = false) :
    Calls Try.prog 25 #[.pointer (some ⟨q, 0, none⟩), .int .i64 (k : Int)] w fun e w' => e = .returned (.bool false) ∧ Quiet w w' := by
  obtain ⟨vs, vt, hB, hS, hT⟩ := h.ex
  obtain ⟨a1, c1, rfl, -, -, -, -⟩ := own_slice hS
  obtain ⟨g, cap, rfl, -, -⟩ := World.ownsRow.form hT (by omega)
  have e2 : w.cell? ⟨q, 2, none⟩ = some (.slice a1 L.length c1) := by rw [hB.cell 2]; rfl
  have e3 : w.cell? ⟨q, 3, none⟩ = some (.slice (some ⟨g, 0, none⟩) L.length cap) := by rw [hB.cell 3]; rfl
  have e4 : w.cell? ⟨g, k, none⟩ = some (.bool false) := by rw [hT.cellAt k (by omega)]; simp [bRow, hk, hf]
  have hk2 : (k : Int) < L.length := by omega
  have hk3 : ¬ ((k : Int) < 0) := by omega
  clear hS hT
  go_enter Try.func25, Try.ntmps25
  go_wp2_with fail
  go_ret
  exact ⟨rfl, Quiet.refl _⟩

set_option maxRecDepth 100000 in
set_option maxHeartbeats 400000 in
theorem refrel_ok (base q room peak k : Nat) (L : List (Nat × Bool)) (w : World) (h : Rf base q room peak L w) (hk : k < L.length) (hf : L[k].2 = true) :
    Calls Try.prog 25 #[.pointer (some ⟨q, 0, none⟩), .int .i64 (k : Int)] w fun e w' => e = .returned (.bool true) ∧ Rf base q room peak (L.set k (L[k].1, false)) w' ∧ Chg (RfS w) w w' ∧ Below base w w' := by
  obtain ⟨vs, vt, hB, hS, hT⟩ := h.ex
  obtain ⟨a1, c1, rfl, -, -, -, -⟩ := own_slice hS
  obtain ⟨g, cap, rfl, -, hgl⟩ := World.ownsRow.form hT (by omega)
  have e2 : w.cell? ⟨q, 2, none⟩ = some (.slice a1 L.length c1) := by rw [hB.cell 2]; rfl
  have e3 : w.cell? ⟨q, 3, none⟩ = some (.slice (some ⟨g, 0, none⟩) L.length cap) := by rw [hB.cell 3]; rfl
  have e4 : w.cell? ⟨g, k, none⟩ = some (.bool true) := by rw [hT.cellAt k (by omega)]; simp [bRow, hk, hf]
  have e5 := hT.frozenAt k
  have hk2 : (k : Int) < L.length := by omega
  have hk3 : ¬ ((k : Int) < 0) := by omega
  have hc : Chg (fun x => x = g) w (w.setCell ⟨g, k, none⟩ (.bool false)) := (Chg.refl _ w).setCell _ _ (fun _ => rfl)
  have hT2 := hT.stored k (.bool false)
  obtain ⟨cs, hgb⟩ := own_blk hT (g := g) rfl
  have hS2 := own_chg hS hc (fun g' hg' e => own_ne_blk hS hgb (by decide) (e ▸ hg'))
  have hB2 := hB.chg hc (hB.ne_ hgb (by decide))
  have hcR : Chg (RfS w) w (w.setCell ⟨g, k, none⟩ (.bool false)) := (Chg.refl _ w).setCell _ _ (fun _ => ⟨_, _, hgb, .inr (.inr rfl)⟩)
  have hbel : Below base w (w.setCell ⟨g, k, none⟩ (.bool false)) := (Below.refl base w).setCell (hT.lt g rfl).1 _
  have hrow : bRow (L.set k (L[k].1, false)) = (bRow L).set k (.bool false) := by simp [bRow, List.map_set]
  have hrow2 : iRow (L.set k (L[k].1, false)) = iRow L := by
    simp only [iRow, List.map_set]
    apply List.ext_getElem?
    intro i
    by_cases hi : k = i
    · subst hi; simp [hk]
    · simp [hi]
  have hR2 : Rf base q room peak (L.set k (L[k].1, false)) (w.setCell ⟨g, k, none⟩ (.bool false)) := ⟨_, _, hB2, by rw [hrow2, List.length_set]; exact hS2, by rw [hrow, List.length_set]; exact hT2.1⟩
  clear hS2 hB2 hT2 hc hS hT hrow hrow2
  go_enter Try.func25, Try.ntmps25
  go_wp2_with fail
  go_ret
  exact ⟨rfl, hR2, hcR, hbel⟩

end Go.Proofs.Ytoodkfjldflbeaa.Arena
