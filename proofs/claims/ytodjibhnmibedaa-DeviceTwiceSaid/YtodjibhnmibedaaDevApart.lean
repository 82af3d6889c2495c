/- The walk of the law DeviceApart. -/
import Derived.Test.YtodjibhnmibedaaDevLaws
set_option linter.unusedVariables false
namespace Go.Proofs.Ytodjibhnmibedaa.Dev
open Go.RowKit

def Dv.tick (D : Dv) : Dv := { D with acts := D.acts + 1 }
theorem calm_tick {D : Dv} (h : Calm D) : D.act = (0, D.tick) := calm_act h
theorem tick_calm {D : Dv} (h : Calm D) : Calm D.tick := h
theorem put_calm {D : Dv} (h : Calm D) (i : Int) (ws : List Value) : Calm (D.put i ws) := h

section
variable {w : World} {a rl rn base : Nat} {pv : Value} {D : Dv}

theorem write_calm (i : Int) (l : Option Addr) (n c : Nat) (ws : List Value) (h : At w base a rl rn pv D) (hc : Calm D) (hn : ws.length = n) (h0 : 0 ≤ i) (h1 : i < (D.blocks : Int)) (h2 : n = D.size) (hac : D.acts + 1 < 1099511627776) (hr : Row w l ws) (h1c : ∀ u ∈ ws, u.oneCell' = true) (hbase : base ≤ w.heap.size) (hla : ∀ x, l = some x → x.block ≠ a) :
    Calls Try.prog 14 #[.pointer (some ⟨a, 0, none⟩), .int .i64 i, .slice l n c] w (Put w base a rl rn pv (D.tick.put i ws)) := by
  subst hn
  have := write_put i l c ws h (calm_bars hc h0 h1 h2) (by rw [calm_act hc]) hac hr h1c hbase hla
  rw [calm_tick hc] at this
  exact this

def GotC (w : World) (base a rl rn : Nat) (pv : Value) (D : Dv) (ws : List Value) (e : Ending) (w' : World) : Prop :=
  ∃ g c, e = .returned (.tuple #[.slice (some ⟨g, 0, none⟩) D.size c, .int .i64 0]) ∧ w'.ownsRow w.heap.size 22 1 (.slice (some ⟨g, 0, none⟩) D.size c) D.size ws ∧ w.heap.size ≤ g ∧ At w' base a rl rn pv D.tick ∧ Chg (fun k => k = a) w w'

theorem read_calm (i : Int) (h : At w base a rl rn pv D) (hc : Calm D) (h0 : 0 ≤ i) (h1 : i < (D.blocks : Int)) (hac : D.acts + 1 < 4611686018427387904) :
    Calls Try.prog 15 #[.pointer (some ⟨a, 0, none⟩), .int .i64 i] w (GotC w base a rl rn pv D (D.words i)) := by
  refine (read_got i h (calm_bars hc h0 h1 rfl) (by rw [calm_act hc]) hac).mono ?_
  rintro e w' ⟨g, c, rfl, ho, hg, hb, hch⟩
  have hn := Dv.act_nums h.nums hac
  rw [calm_tick hc] at hb hn
  exact ⟨g, c, rfl, ho, hg, h.of_box hch hb rfl rfl rfl hn, hch⟩
end

def lcells (x : Int) : List Value := [.int .u64 x, .int .u64 x, .int .u64 0, .int .u64 0, .int .u64 0, .int .u64 0, .int .u64 0, .int .u64 0]

set_option maxRecDepth 100000 in
set_option maxHeartbeats 1000000 in
theorem apart_law (a b x y : Int) (w : World) (ha : 0 ≤ a ∧ a < 256) (hb : 0 ≤ b ∧ b < 256) :
    Calls Try.prog 3 #[.int .u8 a, .int .u8 b, .agg #[.int .u64 x, .int .u64 y]] w fun e w' => e = .returned (.bool true) ∧ Below w.heap.size w w' := by
  have HN := Lib.hid (fun w => new_ok 8 256 w (by omega) (by omega) (by omega))
  have wa : IntKind.i64.wrap a = a := by rw [IntKind.wrap_i64]; omega
  have wb : IntKind.i64.wrap b = b := by rw [IntKind.wrap_i64]; omega
  have hxx : (x != x) = false := by simp
  have hxe : (x == x) = true := by simp
  go_enter Try.func3, Try.ntmps3
  go_wp2_with fail
  go_quiet (fail)
  have h0 := below_d ((Below.refl w.heap.size w).alloc (Nat.le_refl _) (.cells #[Value.int IntKind.u64 x, Value.int IntKind.u64 y] 23)) nq
  generalize (w.alloc (.cells #[Value.int IntKind.u64 x, Value.int IntKind.u64 y] 23)).drewN nq = W at *
  go_wp2_with fail
  refine (awake_any _).mono ?_
  rintro e1 w1 ⟨rfl, hb1⟩
  have h1 := h0.trans (hb1.mono h0.size)
  go_wp2_with fail
  refine (HN.out _).mono ?_
  rintro e2 w2 ⟨rfl, hA2, hb2, hs2⟩
  have h2 := h1.trans (hb2.mono h1.size)
  have A2 := hA2 (w2.heap.size + 1)
  obtain ⟨d, hd⟩ : ∃ d, d = w1.heap.size + 2 := ⟨_, rfl⟩
  obtain ⟨rl, hrl⟩ : ∃ r, r = w1.heap.size := ⟨_, rfl⟩
  rw [← hd, ← hrl] at A2
  rw [← hd]
  have hz1 := h1.size
  have hlo : w.heap.size ≤ d ∧ d < w2.heap.size ∧ w.heap.size ≤ rl ∧ rl + 1 < w2.heap.size := by omega
  have A3 := A2.below ((Below.refl w2.heap.size w2).alloc (Nat.le_refl _) (.cells (lcells x).toArray 22))
  have HA3 := Lib.hid A3
  have h3 : Below w.heap.size w (w2.alloc (.cells (lcells x).toArray 22)) := h2.alloc h2.size _
  have hr3 := Row.new w2 (lcells x).toArray 22 (0, 0)
  have BL := Blk.new w2 22 (lcells x).toArray
  have hwr := write_calm a (some ⟨w2.heap.size, 0, none⟩) 8 8 (lcells x) A3 (fresh_calm 8 256) rfl ha.1 (by simp [fresh]; omega) rfl (by simp [fresh]) hr3 (by intro u hu; simp [lcells] at hu; rcases hu with rfl | rfl | rfl <;> rfl) (by simp) (by rintro q hq; injection hq with hq; subst hq; show w2.heap.size ≠ d; omega)
  have HWR := Lib.hid hwr
  have H3 := Lib.hid h3
  have HBL := Lib.hid BL
  clear hA2 A2 A3 hwr hr3 h3 BL h0 h1 hb1 hb2 hs2 hd hrl HN
  go_wp2_with fail
  refine HWR.out.mono ?_
  rintro e4 w4 ⟨rfl, ⟨pv, A4⟩, hc4⟩
  have BL4 : Blk w4 w2.heap.size 22 (lcells x).toArray := HBL.out.chg hc4 (fun h => by
    rcases h with h | h | h | h
    · omega
    · omega
    · omega
    · cases h)
  have c40 : w4.cell? ⟨w2.heap.size, 0, none⟩ = some (.int .u64 x) := BL4.cell 0
  have f40 := BL4.frozen 0
  have hC4 : Chg (fun k => w.heap.size ≤ k) w w4 := (Chg.of_below H3.out).trans hc4 (fun k _ h => by
    rcases h with h | h | h | h
    · omega
    · omega
    · omega
    · cases h)
  have hC5 : ∀ v, Chg (fun k => w.heap.size ≤ k) w (w4.setCell ⟨w2.heap.size, 0, none⟩ v) := fun v => hC4.setCell _ _ (fun _ => h2.size)
  have hL : pv.ownBlock ≠ some w2.heap.size := by
    obtain ⟨pr, h1, _⟩ := A4.pend
    intro e
    have := (h1.lt _ e).1
    omega
  have A5 : ∀ v, At (w4.setCell ⟨w2.heap.size, 0, none⟩ v) (w2.heap.size + 1) d rl (rl + 1) pv ((fresh 8 256).tick.put a (lcells x)) := fun v =>
    A4.chg ((Chg.refl (fun k => k = w2.heap.size) w4).setCell _ _ (fun _ => rfl)) (by omega) (by omega) (by omega) (fun g hg e => hL (e ▸ hg)) (fun g cs hg _ e => by omega)
  have hD : Calm ((fresh 8 256).tick.put a (lcells x)) := fresh_calm 8 256
  have hwa : ((fresh 8 256).tick.put a (lcells x)).words a = lcells x := by simp [Dv.words, Dv.put, upd]
  have hwb : ((fresh 8 256).tick.put a (lcells x)).tick.words b = if b = a then lcells x else zeroV 8 := by
    unfold Dv.words Dv.put Dv.tick upd
    simp only
    split
    · rfl
    · rfl
  have hsz : ((fresh 8 256).tick.put a (lcells x)).size = 8 ∧ ((fresh 8 256).tick.put a (lcells x)).blocks = 256 ∧ ((fresh 8 256).tick.put a (lcells x)).acts = 1 := ⟨rfl, rfl, rfl⟩
  generalize (fresh 8 256).tick.put a (lcells x) = D1 at *
  have HA5 := Lib.hid A5
  have HC5 := Lib.hid hC5
  have HWA := Lib.hid hwa
  have HWB := Lib.hid hwb
  have HD := Lib.hid hD
  have HSZ := Lib.hid hsz
  have hz5 : ∀ v, (w4.setCell ⟨w2.heap.size, 0, none⟩ v).heap.size = w4.heap.size := fun v => by simp [World.setCell]
  have HZ5 := Lib.hid hz5
  clear A5 hC5 hC4 hwa hwb hD hsz hL BL4 A4 hc4 hz5
  go_wp2_with fail
  refine (read_calm a (HA5.out _) HD.out ha.1 (by have := HSZ.out; omega) (by have := HSZ.out; omega)).mono ?_
  rintro e5 w5 ⟨g, c, rfl, ho5, hg5, A5, hc5⟩
  rw [HWA.out] at ho5
  rw [HSZ.out.1] at ho5
  rw [HSZ.out.1]
  have q0 : w5.cell? ⟨g, 0, none⟩ = some (.int .u64 x) := ho5.cellAt 0 (by omega)
  have q1 : w5.cell? ⟨g, 1, none⟩ = some (.int .u64 x) := ho5.cellAt 1 (by omega)
  have r1 := ho5.frozenAt 1
  have hz := HZ5.out
  rw [HZ5.out] at hg5
  have hdl : d < w4.heap.size := by have := (HA5.out (.int .u64 0)).box.lt; rw [HZ5.out] at this; exact this
  have hcB := (HC5.out _).trans hc5 (fun k _ h => by omega)
  have hcB2 := hcB.setCell ⟨g, 1, none⟩ (.int .u64 y) (fun hg => by have := hcB.size; have := (HC5.out (.int .u64 0)).size; rw [HZ5.out] at this; show w.heap.size ≤ g; omega)
  have hc6 := hc5.setCell ⟨g, 1, none⟩ (.int .u64 y) (fun hg => by rw [HZ5.out] at hg; have : g < w4.heap.size := hg; omega)
  have A6 := (HA5.out _).of_box hc6 (A5.box.far (p := ⟨g, 1, none⟩) (show d ≠ g by omega) (.int .u64 y)) rfl rfl rfl A5.nums
  have HA6 := Lib.hid A6
  have HB2 := Lib.hid hcB2
  clear ho5 A5 hc5 hcB hcB2 hc6 A6 hz hg5 c40 f40
  go_wp2_with fail
  have HRD := Lib.hid (read_calm b HA6.out (tick_calm HD.out) hb.1 (show b < (D1.blocks : Int) by rw [HSZ.out.2.1]; omega) (show D1.acts + 1 + 1 < 4611686018427387904 by rw [HSZ.out.2.2]; omega))
  rw [HWB.out] at HRD
  have hze : ((0 : Int) == 0) = true := by simp
  by_cases hab : b = a
  · subst hab
    have hne : (b != b) = false := by simp
    have hee : (b == b) = true := by simp
    rw [if_pos rfl] at HRD
    refine HRD.out.mono ?_
    rintro e7 w7 ⟨g7, c7, rfl, ho7, hg7, -, hc7⟩
    rw [show D1.tick.size = 8 from HSZ.out.1] at ho7
    rw [show D1.tick.size = 8 from HSZ.out.1]
    have s0 : w7.cell? ⟨g7, 0, none⟩ = some (.int .u64 x) := ho7.cellAt 0 (by omega)
    have s1 : w7.cell? ⟨g7, 1, none⟩ = some (.int .u64 x) := ho7.cellAt 1 (by omega)
    have hfin := (HB2.out.trans hc7 (fun k _ h => by omega)).below_of (Nat.le_refl _) (fun k hk h => by omega)
    have HF := Lib.hid hfin
    clear ho7 hfin hc7 hg7 q0 q1 r1
    go_wp2_with fail
    go_ret
    exact ⟨rfl, HF.out⟩
  · have hne : (a != b) = true := by rw [bne_iff_ne]; exact fun e => hab e.symm
    have hee : (a == b) = false := by rw [beq_eq_false_iff_ne]; exact fun e => hab e.symm
    rw [if_neg hab] at HRD
    refine HRD.out.mono ?_
    rintro e7 w7 ⟨g7, c7, rfl, ho7, hg7, -, hc7⟩
    rw [show D1.tick.size = 8 from HSZ.out.1] at ho7
    rw [show D1.tick.size = 8 from HSZ.out.1]
    have s0 : w7.cell? ⟨g7, 0, none⟩ = some (.int .u64 0) := ho7.cellAt 0 (by omega)
    have s1 : w7.cell? ⟨g7, 1, none⟩ = some (.int .u64 0) := ho7.cellAt 1 (by omega)
    have hfin := (HB2.out.trans hc7 (fun k _ h => by omega)).below_of (Nat.le_refl _) (fun k hk h => by omega)
    have HF := Lib.hid hfin
    clear ho7 hfin hc7 hg7 q0 q1 r1
    go_wp2_with fail
    go_ret
    exact ⟨rfl, HF.out⟩

theorem DeviceApart_walk {w : World} (a : Int) (ha : (Lit.int .u8 a).wf = true) (b : Int) (hb : (Lit.int .u8 b).wf = true) (cs : Array Value) (l : List Int) (h : rdArr 2 1 (rdInt .u64) w cs.toList l) :
    Calls Try.prog 3 #[.int .u8 a, .int .u8 b, .agg cs] w fun e w' => e = .returned (.bool true) ∧ Below w.heap.size w w' := by
  obtain ⟨x, y, rfl, -, -, -⟩ := rdArr2_ints h
  exact apart_law a b x y w (u_bounds.2.2.1 ha) (u_bounds.2.2.1 hb)

end Go.Proofs.Ytodjibhnmibedaa.Dev
