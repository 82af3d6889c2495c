/- The walk of block and of Same, at a device's words. -/
import Derived.Test.YtodjibhnmibedaaDevKeeps
set_option linter.unusedVariables false
namespace Go.Proofs.Ytodjibhnmibedaa.Dev
open Go.RowKit

/-- All cells are words. -/
def Wd (ws : List Value) : Prop := ∀ u ∈ ws, ∃ x : Int, u = .int .u64 x
theorem Wd.one {ws : List Value} (h : Wd ws) : ∀ u ∈ ws, u.oneCell' = true := by
  intro u hu
  obtain ⟨x, rfl⟩ := h u hu
  rfl
theorem Wd.zero (n : Nat) : Wd (zeroV n) := by
  intro u hu
  exact ⟨0, (List.mem_replicate.1 hu).2⟩

def BlockLoop (w : World) (lv iv : Value) (wr : World) : Prop :=
  ∃ (k : Nat) (ws : List Value), iv = .int .i64 (k : Int) ∧ k ≤ 8 ∧ wr.ownsRow w.heap.size 22 1 lv k ws ∧ Wd ws ∧ Below w.heap.size w wr

def Blocked (w : World) (e : Ending) (w' : World) : Prop :=
  ∃ g c ws, e = .returned (.slice (some ⟨g, 0, none⟩) 8 c) ∧ w'.ownsRow w.heap.size 22 1 (.slice (some ⟨g, 0, none⟩) 8 c) 8 ws ∧ Wd ws ∧ w.heap.size ≤ g ∧ Below w.heap.size w w'

set_option maxRecDepth 100000 in
set_option maxHeartbeats 400000 in
theorem block_any (X : Int) (w : World) :
    Calls Try.prog 23 #[.int .i64 8, .agg #[.int .i64 0, .int .i64 0, .int .u64 X, .bool false, .slice none 0 0]] w (Blocked w) := by
  have h0 : Below w.heap.size w (w.alloc (.cells #[.int .i64 0, .int .i64 0, .int .u64 X, .bool false, .slice none 0 0] 44)) := (Below.refl w.heap.size w).alloc (Nat.le_refl _) _
  have B0 := Blk.new w 44 #[.int .i64 0, .int .i64 0, .int .u64 X, .bool false, .slice none 0 0]
  have H0 := Lib.hid h0
  have HB0 := Lib.hid B0
  clear h0 B0
  go_enter Try.func23, Try.ntmps23
  go_wp2_with fail
  generalize w.alloc (.cells #[.int .i64 0, .int .i64 0, .int .u64 X, .bool false, .slice none 0 0] 44) = W at *
  go_loopw [5, 6] (fun lv iv wr => ∃ (b : Blk wr w.heap.size 44 #[.int .i64 0, .int .i64 0, .int .u64 X, .bool false, .slice none 0 0]), BlockLoop W lv iv wr) (fun _ iv _ => 8 - (intOf iv).toNat)
  case atStart => exact ⟨HB0.out, 0, [], rfl, by omega, World.ownsRow_nil _ _ _ _, fun u hu => by simp at hu, Below.refl _ _⟩
  case round =>
    obtain ⟨hB, k, ws, rfl, hk, hown, hwd, hbl⟩ := hrel
    clear HB0
    by_cases hlt : (k : Int) < 8
    · have c2 : wr.cell? ⟨w.heap.size, 2, none⟩ = some (.int .u64 X) := hB.cell 2
      obtain ⟨q, hq, hq2⟩ : ∃ q : Nat, (k : Int) % 2 = (q : Int) ∧ q < 2 := ⟨k % 2, by omega, by omega⟩
      have uq : IntKind.u64.wrap (q : Int) = (q : Int) := by rw [show IntKind.u64.wrap (q : Int) = (q : Int) % 18446744073709551616 from rfl]; omega
      have hz := hbl.size
      obtain ⟨E, hE⟩ : ∃ E, IntKind.u64.wrap (X + (q : Int)) = E := ⟨_, rfl⟩
      obtain ⟨a2, c3, rfl, -⟩ := own_slice hown
      go_wp2_with (at_builtin; go_must (refine wpList_append rfl (.tmp 12) (.tmp 19) _ rfl el_u64 W.heap.size _ _ _ rfl (hown.alloc _) _ 1 1 [.int .u64 E] rfl rfl (Row.new wr _ _ _) (by intro u hu; simp at hu; subst hu; rfl) (by unfold maxLen; omega) (by omega) (by simp; omega) ?_))
      intro v2 w2 hown2 hg2 _ hb2
      obtain ⟨a3, c4, rfl, -⟩ := own_slice hown2
      have hB2 : Blk w2 w.heap.size 44 #[.int .i64 0, .int .i64 0, .int .u64 X, .bool false, .slice none 0 0] := (hB.alloc (.cells #[.int .u64 E] 22)).chg (Chg.of_grown hg2) (fun e => own_ne_blk (hown.alloc (.cells #[.int .u64 E] 22)) (hB.alloc (.cells #[.int .u64 E] 22)) (by decide) e.symm)
      have hbl2 : Below W.heap.size W w2 := hbl.trans (((Below.refl W.heap.size wr).alloc hz _).trans hb2)
      have hw2 : Wd (ws ++ [.int .u64 E]) := by
        intro u hu
        rcases List.mem_append.1 hu with h | h
        · exact hwd u h
        · rw [List.mem_singleton] at h
          exact ⟨E, h⟩
      have HB2 := Lib.hid hB2
      have HW2 := Lib.hid hw2
      have HO2 := Lib.hid hown2
      have HL2 := Lib.hid hbl2
      clear hB2 hw2 hown2 hbl2 hg2 hb2 hown hB hwd hbl
      go_wp2_with fail
      go_roundw
      case rel => exact ⟨HB2.out, k + 1, _, by go_num, by omega, HO2.out, HW2.out, HL2.out⟩
      case measure => simp [intOf]; omega
    · obtain rfl : k = 8 := by omega
      obtain ⟨g, c, rfl, hg, -⟩ := own_some hown (by omega)
      have c3 : wr.cell? ⟨w.heap.size, 3, none⟩ = some (.bool false) := hB.cell 3
      have hz0 := H0.out.size
      go_wp2_with fail
      go_ret
      exact ⟨g, c, ws, rfl, own_mono hown hz0, hwd, by omega, H0.out.trans (hbl.mono hz0)⟩

def SameL (w : World) (n : Nat) (iv : Value) (wr : World) : Prop := ∃ k d : Nat, iv = .int .i64 (k : Int) ∧ k ≤ n ∧ wr = w.drewN d

set_option maxRecDepth 100000 in
theorem same_self (ws : List Value) (a a' : Option Addr) (n c c' : Nat) (w : World) (hr : Row w a ws) (hr' : Row w a' ws) (hw : Wd ws) (hn : ws.length = n) (hm : n < 1000000) :
    Calls Try.prog 24 #[.slice a n c, .slice a' n c'] w fun e w' => e = .returned (.bool true) ∧ ∃ d, w' = w.drewN d := by
  have hne : ((n : Int) != n) = false := by simp
  have HW := Lib.hid hw
  have HN := Lib.hid hn
  clear hw hn
  go_enter Try.func24, Try.ntmps24
  go_wp2_with fail
  go_loopw [5] (fun iv wr => SameL w n iv wr) (fun iv _ => n - (intOf iv).toNat)
  case atStart => exact ⟨0, 0, rfl, by omega, rfl⟩
  case round =>
    obtain ⟨k, d, rfl, hk, rfl⟩ := hrel
    by_cases hlt : (k : Int) < n
    · have hkl : k < ws.length := by have := HN.out; omega
      obtain ⟨b1, o1, rfl, hc1, -⟩ := hr.at_ hkl
      obtain ⟨b2, o2, rfl, hc2, -⟩ := hr'.at_ hkl
      obtain ⟨x, hx⟩ := HW.out _ (List.getElem_mem hkl)
      rw [hx] at hc1 hc2
      have hxx : (x != x) = false := by simp
      have hk0 : (0 : Int) ≤ (k : Int) := by omega
      clear hx hr hr' hkl
      go_wp2_with fail
      go_quiet (fail)
      go_wp2_with fail
      go_roundw
      case rel => exact ⟨k + 1, _, by go_num, by omega, rfl⟩
      case measure => simp [intOf]; omega
    · go_wp2_with fail
      go_ret
      exact ⟨rfl, d, rfl⟩

end Go.Proofs.Ytodjibhnmibedaa.Dev
