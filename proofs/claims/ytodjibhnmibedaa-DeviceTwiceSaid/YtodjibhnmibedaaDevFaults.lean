/- The walk of the law DeviceFaults. -/
import Derived.Test.YtodjibhnmibedaaDevApart
set_option linter.unusedVariables false
namespace Go.Proofs.Ytodjibhnmibedaa.Dev
open Go.RowKit

def wcells (x : Int) : List Value := [.int .u64 x, .int .u64 0, .int .u64 0, .int .u64 0, .int .u64 0, .int .u64 0, .int .u64 0, .int .u64 0]

/-- Fuse and fault behind i acts, with a fault or a fuse of n. -/
def Mode (D : Dv) (fuse : Bool) (n i : Nat) : Prop :=
  D.size = 8 ∧ D.blocks = 1 ∧ D.acts ≤ i ∧
  (fuse = true → D.fault = -1 ∧ (i ≤ n → D.fuse = (n : Int) - i ∧ D.down = false) ∧ (n < i → D.down = true)) ∧
  (fuse = false → D.fuse = -1 ∧ D.down = false ∧ (i ≤ n → D.fault = (n : Int) - i) ∧ (n < i → D.fault = -1))

/-- How an act goes: it is done, or told as ErrLost, or as ErrFault. -/
def Bad (fuse : Bool) (n i : Nat) : Prop := i = n ∨ fuse = true ∧ n < i

theorem done_fuse (D : Dv) : D.burn.done.fuse = if 0 < D.fuse then D.fuse - 1 else D.fuse := rfl
theorem done_fault (D : Dv) : D.burn.done.fault = if 0 < D.fault then D.fault - 1 else D.fault := rfl
theorem fail_fuse (D : Dv) : D.burn.fail.fuse = if 0 < D.fuse then D.fuse - 1 else D.fuse := rfl

theorem mode_good {D : Dv} {fuse : Bool} {n i : Nat} (h : Mode D fuse n i) (hb : ¬ Bad fuse n i) : D.down = false ∧ D.act.1 = 0 ∧ Mode D.act.2 fuse n (i + 1) ∧ D.act.2.acts = D.acts + 1 := by
  obtain ⟨h1, h2, h3, h4, h5⟩ := h
  unfold Bad at hb
  cases fuse
  · obtain ⟨g1, g2, g3, g4⟩ := h5 rfl
    have hni : i ≠ n := fun e => hb (.inl e)
    have hf : D.fault ≠ 0 := by
      rcases Nat.lt_or_ge n i with h | h
      · rw [g4 h]; decide
      · rw [g3 h]; omega
    have ha : D.act = (0, D.burn.done) := by unfold Dv.act; rw [if_neg (by omega), if_neg hf]
    rw [ha]
    refine ⟨g2, rfl, ⟨h1, h2, Nat.succ_le_succ h3, (fun h => by cases h), fun _ => ⟨?_, g2, ?_, ?_⟩⟩, rfl⟩
    · rw [done_fuse, if_neg (by omega)]; exact g1
    · intro hi
      have := g3 (by omega)
      rw [done_fault, if_pos (by omega)]
      omega
    · intro hi
      have := g4 (by omega)
      rw [done_fault, if_neg (by omega)]
      exact this
  · obtain ⟨g1, g2, g3⟩ := h4 rfl
    have hin : i < n := by
      rcases Nat.lt_trichotomy i n with h | h | h
      · exact h
      · exact absurd (.inl h) hb
      · exact absurd (.inr ⟨rfl, h⟩) hb
    obtain ⟨g4, g5⟩ := g2 (by omega)
    have ha : D.act = (0, D.burn.done) := by unfold Dv.act; rw [if_neg (by omega), if_neg (by omega)]
    rw [ha]
    refine ⟨g5, rfl, ⟨h1, h2, Nat.succ_le_succ h3, (fun _ => ⟨?_, ?_, ?_⟩), (fun h => by cases h)⟩, rfl⟩
    · rw [done_fault, if_neg (by omega)]; exact g1
    · intro hi
      rw [done_fuse, if_pos (by omega)]
      exact ⟨by omega, g5⟩
    · intro hi; omega

theorem mode_fuse {D : Dv} {n i : Nat} (h : Mode D true n i) (hi : i = n) : D.down = false ∧ D.act.1 = 8 ∧ Mode D.act.2 true n (i + 1) ∧ D.act.2.acts = D.acts := by
  obtain ⟨h1, h2, h3, h4, h5⟩ := h
  obtain ⟨g1, g2, g3⟩ := h4 rfl
  obtain ⟨g4, g5⟩ := g2 (by omega)
  have ha : D.act = (8, D.blow) := by unfold Dv.act; rw [if_pos (by omega)]
  rw [ha]
  exact ⟨g5, rfl, ⟨h1, h2, Nat.le_succ_of_le h3, (fun _ => ⟨g1, (fun h => by omega), fun _ => rfl⟩), (fun h => by cases h)⟩, rfl⟩

theorem mode_fault {D : Dv} {n i : Nat} (h : Mode D false n i) (hi : i = n) : D.down = false ∧ D.act.1 = 6 ∧ Mode D.act.2 false n (i + 1) ∧ D.act.2.acts = D.acts := by
  obtain ⟨h1, h2, h3, h4, h5⟩ := h
  obtain ⟨g1, g2, g3, g4⟩ := h5 rfl
  have := g3 (by omega)
  have ha : D.act = (6, D.burn.fail) := by unfold Dv.act; rw [if_neg (by omega), if_pos (by omega)]
  rw [ha]
  refine ⟨g2, rfl, ⟨h1, h2, Nat.le_succ_of_le h3, (fun h => by cases h), (fun _ => ⟨?_, g2, (fun h => by omega), fun _ => rfl⟩)⟩, rfl⟩
  rw [fail_fuse, if_neg (by omega)]
  exact g1

theorem mode_down {D : Dv} {n i : Nat} (h : Mode D true n i) (hi : n < i) : D.down = true ∧ Mode D true n (i + 1) := by
  obtain ⟨h1, h2, h3, h4, h5⟩ := h
  obtain ⟨g1, g2, g3⟩ := h4 rfl
  exact ⟨g3 hi, ⟨h1, h2, by omega, (fun _ => ⟨g1, (fun h => by omega), fun _ => g3 hi⟩), (fun h => by cases h)⟩⟩

theorem mode_put {D : Dv} {fuse : Bool} {n i : Nat} (h : Mode D fuse n i) (j : Int) (ws : List Value) : Mode (D.put j ws) fuse n i := h
theorem mode_sync {D : Dv} {fuse : Bool} {n i : Nat} (h : Mode D fuse n i) : Mode D.sync fuse n i := h

/-- Fifteen ways of a round: what act number k does with the device. -/
structure Round (w : World) (d rl rn : Nat) (D : Dv) (fuse : Bool) (n k : Nat) (last : Int) (done : Nat) (wr : World) : Prop where
  ex : ∃ pv, At wr w.heap.size d rl rn pv D
  mode : Mode D fuse n k
  now : D.words 0 = wcells last
  acts : D.acts = done
  bel : Chg (fun q => w.heap.size ≤ q) w wr

def FaultLoop (w : World) (d rl rn : Nat) (fuse : Bool) (n m : Nat) (lv dv iv : Value) (wr : World) : Prop :=
  ∃ (k : Nat) (last : Int) (done : Nat) (D : Dv), iv = .int .i64 (k : Int) ∧ lv = .int .u64 last ∧ dv = .int .i64 (done : Int) ∧ k ≤ m ∧ Round w d rl rn D fuse n k last done wr


theorem words_act (D : Dv) : D.act.2.words 0 = D.words 0 := by
  unfold Dv.words
  rw [D.act_same.2.1, D.act_same.2.2.2.1]

section
variable {w wr w2 : World} {d rl rn n k : Nat} {D : Dv} {fuse : Bool} {last : Int} {done : Nat}
theorem Round.ok (R : Round w d rl rn D fuse n k last done wr) (hb : ¬ Bad fuse n k) (h : ∃ pv, At w2 w.heap.size d rl rn pv D.act.2) (hc : Chg (fun q => w.heap.size ≤ q) w w2) : Round w d rl rn D.act.2 fuse n (k + 1) last (done + 1) w2 := by
  obtain ⟨h1, h2, h3, h4⟩ := mode_good R.mode hb
  exact ⟨h, h3, by rw [words_act]; exact R.now, by rw [h4, R.acts], hc⟩
theorem Round.put (R : Round w d rl rn D fuse n k last done wr) (hb : ¬ Bad fuse n k) (x : Int) (h : ∃ pv, At w2 w.heap.size d rl rn pv (D.act.2.put 0 (wcells x))) (hc : Chg (fun q => w.heap.size ≤ q) w w2) : Round w d rl rn (D.act.2.put 0 (wcells x)) fuse n (k + 1) x (done + 1) w2 := by
  obtain ⟨h1, h2, h3, h4⟩ := mode_good R.mode hb
  exact ⟨h, h3, by simp [Dv.words, Dv.put, upd], by show D.act.2.acts = _; rw [h4, R.acts], hc⟩
theorem Round.sync (R : Round w d rl rn D fuse n k last done wr) (hb : ¬ Bad fuse n k) (h : ∃ pv, At w2 w.heap.size d rl rn pv D.act.2.sync) (hc : Chg (fun q => w.heap.size ≤ q) w w2) : Round w d rl rn D.act.2.sync fuse n (k + 1) last (done + 1) w2 := by
  obtain ⟨h1, h2, h3, h4⟩ := mode_good R.mode hb
  exact ⟨h, h3, (words_act D).trans R.now, by show D.act.2.acts = _; rw [h4, R.acts], hc⟩
theorem Round.bad (R : Round w d rl rn D fuse n k last done wr) (hk : k = n) (h : ∃ pv, At w2 w.heap.size d rl rn pv D.act.2) (hc : Chg (fun q => w.heap.size ≤ q) w w2) : Round w d rl rn D.act.2 fuse n (k + 1) last done w2 := by
  cases fuse
  · obtain ⟨h1, h2, h3, h4⟩ := mode_fault R.mode hk
    exact ⟨h, h3, by rw [words_act]; exact R.now, by rw [h4, R.acts], hc⟩
  · obtain ⟨h1, h2, h3, h4⟩ := mode_fuse R.mode hk
    exact ⟨h, h3, by rw [words_act]; exact R.now, by rw [h4, R.acts], hc⟩
theorem Round.down (R : Round w d rl rn D true n k last done wr) (hk : n < k) (h : ∃ pv, At w2 w.heap.size d rl rn pv D) (hc : Chg (fun q => w.heap.size ≤ q) w w2) : Round w d rl rn D true n (k + 1) last done w2 :=
  ⟨h, (mode_down R.mode hk).2, R.now, R.acts, hc⟩
theorem Round.lo (R : Round w d rl rn D fuse n k last done wr) (hd : w.heap.size ≤ d) : Chg (fun q => w.heap.size ≤ q) w wr ∧ (∀ v : World, Chg (fun q => q = d) wr v → Chg (fun q => w.heap.size ≤ q) w v) :=
  ⟨R.bel, fun v h => R.bel.trans h (fun q _ e => by omega)⟩
end

theorem foot_lo {w : World} {a rl rn base : Nat} {pv : Value} {D : Dv} {B : Nat} (h : At w base a rl rn pv D) (ha : B ≤ a ∧ B ≤ rl ∧ B ≤ rn) (hb : B ≤ base) : ∀ k, Foot a rl rn pv k → B ≤ k := by
  intro k hk
  obtain ⟨pr, h1, _⟩ := h.pend
  rcases hk with rfl | rfl | rfl | e
  · exact ha.1
  · exact ha.2.1
  · exact ha.2.2
  · exact Nat.le_trans hb (h1.lt k e.symm).1

set_option maxRecDepth 100000 in
theorem faults_big (n : Int) (fuse : Bool) (a : Option Addr) (m c : Nat) (w : World) (hm : m ≤ 9223372036854775807) (h : 60 < m) :
    Calls Try.prog 4 #[.int .u8 n, .slice a m c, .bool fuse] w fun e w' => e = .returned (.bool true) ∧ Below w.heap.size w w' := by
  go_enter Try.func4, Try.ntmps4
  go_wp2_with fail
  refine (awake_any _).mono ?_
  rintro e1 w1 ⟨rfl, hb1⟩
  go_wp2_with fail
  refine (awake_any _).mono ?_
  rintro e2 w2 ⟨rfl, hb2⟩
  go_wp2_with fail
  go_ret
  exact ⟨rfl, hb1.trans (hb2.mono hb1.size)⟩


end Go.Proofs.Ytodjibhnmibedaa.Dev
