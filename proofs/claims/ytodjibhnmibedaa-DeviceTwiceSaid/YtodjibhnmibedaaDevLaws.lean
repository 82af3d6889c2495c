/- The walks of awake of chapter 5, and of the laws DeviceNil and DeviceApart. -/
import Derived.Test.YtodjibhnmibedaaDevCrash
import Derived.Test.YtodjibhnmibedaaOpen5
set_option linter.unusedVariables false
namespace Go.Proofs.Ytodjibhnmibedaa.Dev
open Go.RowKit

/-- Neither fuse nor fault. -/
def Calm (D : Dv) : Prop := D.fuse = -1 ∧ D.fault = -1 ∧ D.down = false
theorem calm_act {D : Dv} (h : Calm D) : D.act = (0, { D with acts := D.acts + 1 }) := by
  obtain ⟨h1, h2, h3⟩ := h
  unfold Dv.act
  rw [if_neg (by omega), if_neg (by omega)]
  unfold Dv.done Dv.burn
  simp only [h1, h2]
  cases D
  simp only at h1 h2 ⊢
  subst h1; subst h2
  rfl
theorem fresh_calm (size blocks : Nat) : Calm (fresh size blocks) := ⟨rfl, rfl, rfl⟩
theorem calm_bars {D : Dv} (h : Calm D) {i : Int} {n : Nat} (h0 : 0 ≤ i) (h1 : i < (D.blocks : Int)) (h2 : n = D.size) : D.bars i n = 0 := by
  unfold Dv.bars
  rw [h.2.2, if_neg (by decide), if_neg (by omega)]

set_option maxRecDepth 100000 in
theorem awake_any (w : World) :
    Calls Try.prog 12 #[] w fun e w' => e = .returned (.bool true) ∧ Below w.heap.size w w' := by
  have HN := Lib.hid (new_ok 8 2 w (by omega) (by omega) (by omega))
  go_enter Try.func12, Try.ntmps12
  go_wp2_with fail
  refine HN.out.mono ?_
  rintro e w1 ⟨rfl, hA, hb, hs⟩
  have A1 := hA w1.heap.size
  have HA := Lib.hid A1
  have HS1 := Lib.hid (size_any A1.box)
  have hac := calm_act (fresh_calm 8 2)
  have HS2 := Lib.hid (sync_done A1 rfl (by rw [hac]) (by simp [fresh]))
  clear hA A1 hac hs
  go_wp2_with fail
  refine HS1.out.mono ?_
  rintro e w2 ⟨rfl, rfl⟩
  go_wp2_with fail
  refine HS2.out.mono ?_
  rintro e w2 ⟨rfl, -, hc⟩
  go_wp2_with fail
  go_ret
  refine ⟨rfl, hb.trans (hc.below_of hb.size (fun k hk h => ?_))⟩
  rcases h with h | h | h | h
  · omega
  · omega
  · omega
  · cases h

theorem nil_size (w : World) : Calls Try.prog 25 #[.pointer none] w fun e w' => e = .returned (.int .i64 0) ∧ w = w' := by
  go_enter Try.func25, Try.ntmps25
  go_wp2_with fail
  go_ret
  exact ⟨rfl, rfl⟩
theorem nil_blocks (w : World) : Calls Try.prog 26 #[.pointer none] w fun e w' => e = .returned (.int .i64 0) ∧ w = w' := by
  go_enter Try.func26, Try.ntmps26
  go_wp2_with fail
  go_ret
  exact ⟨rfl, rfl⟩
theorem nil_acts (w : World) : Calls Try.prog 19 #[.pointer none] w fun e w' => e = .returned (.int .i64 0) ∧ w = w' := by
  go_enter Try.func19, Try.ntmps19
  go_wp2_with fail
  go_ret
  exact ⟨rfl, rfl⟩
theorem nil_setfuse (n : Int) (w : World) : Calls Try.prog 16 #[.pointer none, .int .i64 n] w fun e w' => e = .returned (.tuple #[]) ∧ w = w' := by
  go_enter Try.func16, Try.ntmps16
  go_wp2_with fail
  go_end0
  exact ⟨rfl, rfl⟩
theorem nil_setfault (n : Int) (w : World) : Calls Try.prog 17 #[.pointer none, .int .i64 n] w fun e w' => e = .returned (.tuple #[]) ∧ w = w' := by
  go_enter Try.func17, Try.ntmps17
  go_wp2_with fail
  go_end0
  exact ⟨rfl, rfl⟩
set_option maxRecDepth 100000 in
theorem nil_read (i : Int) (w : World) : Calls Try.prog 15 #[.pointer none, .int .i64 i] w fun e w' => e = .returned (.tuple #[.slice none 0 0, .int .i64 8]) ∧ w = w' := by
  go_enter Try.func15, Try.ntmps15
  go_wp2_with fail
  refine (down_nil w).mono ?_
  rintro e w1 ⟨rfl, rfl⟩
  go_wp2_with fail
  go_ret2
  exact ⟨rfl, rfl⟩
set_option maxRecDepth 100000 in
theorem nil_write (i : Int) (l : Option Addr) (n c : Nat) (w : World) : Calls Try.prog 14 #[.pointer none, .int .i64 i, .slice l n c] w fun e w' => e = .returned (.int .i64 8) ∧ w = w' := by
  go_enter Try.func14, Try.ntmps14
  go_wp2_with fail
  refine (down_nil w).mono ?_
  rintro e w1 ⟨rfl, rfl⟩
  go_wp2_with fail
  go_ret
  exact ⟨rfl, rfl⟩
set_option maxRecDepth 100000 in
theorem nil_sync (w : World) : Calls Try.prog 18 #[.pointer none] w fun e w' => e = .returned (.int .i64 8) ∧ w = w' := by
  go_enter Try.func18, Try.ntmps18
  go_wp2_with fail
  refine (down_nil w).mono ?_
  rintro e w1 ⟨rfl, rfl⟩
  go_wp2_with fail
  go_ret
  exact ⟨rfl, rfl⟩

set_option maxRecDepth 100000 in
set_option maxHeartbeats 400000 in
theorem DeviceNil_walk {w : World} (cs : Array Value) (d : Int × Int × Int × Bool × List Bool) (h : rdOp5 w cs.toList d) :
    Calls Try.prog 7 #[.agg cs] w fun e w' => e = .returned (.bool true) ∧ Below w.heap.size w w' := by
  obtain ⟨ka, kn, kc, hcs, hl, hk1, hk2, -, -, -, -⟩ := op5_cells h
  obtain ⟨kind, i, x, odd, keep⟩ := d
  obtain rfl : cs = #[.int .i64 kind, .int .i64 i, .int .u64 x, .bool odd, .slice ka kn kc] := by
    apply Array.toList_inj.1
    rw [hcs]
  unfold maxLen at hk2
  clear h hcs hl
  have h0 : Below w.heap.size w (w.alloc (.cells #[.int .i64 kind, .int .i64 i, .int .u64 x, .bool odd, .slice ka kn kc] 44)) := (Below.refl w.heap.size w).alloc (Nat.le_refl _) _
  have B0 := Blk.new w 44 #[.int .i64 kind, .int .i64 i, .int .u64 x, .bool odd, .slice ka kn kc]
  have H0 := Lib.hid h0
  have HB0 := Lib.hid B0
  clear h0 B0
  by_cases hbig : (1000 : Int) < kn
  · go_enter Try.func7, Try.ntmps7
    go_wp2_with fail
    generalize w.alloc (.cells #[.int .i64 kind, .int .i64 i, .int .u64 x, .bool odd, .slice ka kn kc] 44) = W at *
    refine (awake_any _).mono ?_
    rintro e1 w1 ⟨rfl, hb1⟩
    have B1 := HB0.out.below hb1 HB0.out.lt
    have c4 : w1.cell? ⟨w.heap.size, 4, none⟩ = some (.slice ka kn kc) := B1.cell 4
    clear B1
    go_wp2_with fail
    refine (awake_any _).mono ?_
    rintro e2 w2 ⟨rfl, hb2⟩
    go_wp2_with fail
    go_ret
    have h1 := H0.out.trans (hb1.mono H0.out.size)
    exact ⟨rfl, h1.trans (hb2.mono h1.size)⟩
  · go_enter Try.func7, Try.ntmps7
    go_wp2_with fail
    generalize w.alloc (.cells #[.int .i64 kind, .int .i64 i, .int .u64 x, .bool odd, .slice ka kn kc] 44) = W at *
    refine (awake_any _).mono ?_
    rintro e1 w1 ⟨rfl, hb1⟩
    have B1 := HB0.out.below hb1 HB0.out.lt
    have c4 : w1.cell? ⟨w.heap.size, 4, none⟩ = some (.slice ka kn kc) := B1.cell 4
    have c1 : w1.cell? ⟨w.heap.size, 1, none⟩ = some (.int .i64 i) := B1.cell 1
    clear B1
    go_wp2_with (first
      | (go_at_call 16; refine (nil_setfuse _ _).mono ?_; rintro e w2 ⟨rfl, rfl⟩)
      | (go_at_call 17; refine (nil_setfault _ _).mono ?_; rintro e w2 ⟨rfl, rfl⟩)
      | (go_at_call 15; refine (nil_read _ _).mono ?_; rintro e w2 ⟨rfl, rfl⟩)
      | (go_at_call 14; refine (nil_write _ _ _ _ _).mono ?_; rintro e w2 ⟨rfl, rfl⟩)
      | (go_at_call 18; refine (nil_sync _).mono ?_; rintro e w2 ⟨rfl, rfl⟩)
      | (go_at_call 20; refine (down_nil _).mono ?_; rintro e w2 ⟨rfl, rfl⟩)
      | (go_at_call 22; refine (crash_nil _ _ _ _).mono ?_; rintro e w2 ⟨rfl, rfl⟩)
      | (go_at_call 25; refine (nil_size _).mono ?_; rintro e w2 ⟨rfl, rfl⟩)
      | (go_at_call 26; refine (nil_blocks _).mono ?_; rintro e w2 ⟨rfl, rfl⟩)
      | (go_at_call 19; refine (nil_acts _).mono ?_; rintro e w2 ⟨rfl, rfl⟩))
    go_ret
    exact ⟨rfl, H0.out.trans (hb1.mono H0.out.size)⟩

end Go.Proofs.Ytodjibhnmibedaa.Dev
