/- The walk of maps.Clone, and of Crash of a device. -/
import Derived.Test.YtodjibhnmibedaaDevSync
import Derived.Deep.RegionHeld3
set_option linter.unusedVariables false
namespace Go.Proofs.Ytodjibhnmibedaa.Dev
open Go.RowKit

def Cloned (w : World) (kv : List (Int × Value)) (e : Ending) (w' : World) : Prop :=
  e = .returned (.map (some w.heap.size)) ∧ IsMap (Value.int .i64) w' w.heap.size kv ∧ Below w.heap.size w w' ∧ w'.heap.size = w.heap.size + 1

set_option maxRecDepth 100000 in
set_option maxHeartbeats 400000 in
theorem clone_map (r : Nat) (kv : List (Int × Value)) (w : World) (hm : IsMap (Value.int .i64) w r kv) :
    Calls Try.prog 43 #[.map (some r)] w (Cloned w kv) := by
  obtain ⟨es, clock, hb, he⟩ := hm
  have hq := fun w => run_eql_map_nil_sl (P := Try.prog) w 78 _ _ (some r) Try.underlying78
  have HE := Lib.hid he
  clear he
  go_enter Try.func43, Try.ntmps43
  go_wp2_with fail
  rw [run_callFunc_extern Try.func52 (by kernel_rfl) (by kernel_rfl) (by kernel_rfl) (e := Extern.MapsClone.clone) (by kernel_rfl), run_maps_clone_sl w 78 hb]
  simp only [Result.andThen]
  rw [Oper.upon_value]
  go_wp2_with fail
  rw [run_typeAssert_map_sl _ 78 20 _ _ _ Try.underlying78]
  simp only [Result.andThen]
  rw [Oper.upon_value]
  go_wp2_with fail
  go_ret
  exact ⟨rfl, ⟨es, clock, heap_alloc_new w _, HE.out⟩, (Below.refl _ _).alloc (Nat.le_refl _) _, by simp⟩

def kept (D : Dv) (keep : List Bool) : Nat → (Int → Option (List Value))
  | 0 => D.lasts
  | k + 1 => match D.pend[k]? with
    | some p => if keep.getD k false = true then upd (kept D keep k) p.1 p.2 else kept D keep k
    | none => kept D keep k
def Dv.crash (D : Dv) (keep : List Bool) : Dv :=
  { size := D.size, blocks := D.blocks, lasts := kept D keep D.pend.length, now := kept D keep D.pend.length, pend := [], fuse := -1, fault := -1, down := false, acts := D.acts }

theorem crash_nil (b : Option Addr) (n c : Nat) (w : World) :
    Calls Try.prog 22 #[.pointer none, .slice b n c] w fun e w' => e = .returned (.pointer none) ∧ w = w' := by
  go_enter Try.func22, Try.ntmps22
  go_wp2_with fail
  go_ret
  exact ⟨rfl, rfl⟩

def cellV (w : World) (p : Addr) : Value := (w.cell? p).getD undef
theorem cellV_of {w : World} {p : Addr} {v : Value} (h : w.cell? p = some v) : w.cell? p = some (cellV w p) := by
  unfold cellV
  rw [h]
  rfl
theorem cellV_set {w : World} {p q : Addr} {v : Value} (h : w.cell? p = some v) (y : Value) : (w.setCell q y).cell? p = some (cellV (w.setCell q y) p) := by
  by_cases e : q = p
  · subst e; exact cellV_of (World.cell?_setCell_same w q y h)
  · exact cellV_of ((World.cell?_setCell_other w q p y e).trans h)

theorem below_undrew {B : Nat} {w w' : World} (h : Below B w.drew w') : Below B w w' := ⟨h.os, h.tape, h.output, h.size, h.block⟩

section
variable {w : World} {a rl rn base : Nat} {pv : Value} {D : Dv}

def Crashed (w : World) (base a rl rn : Nat) (pv : Value) (D : Dv) (keep : List Bool) (e : Ending) (w' : World) : Prop :=
  ∃ x rl' rn', e = .returned (.pointer (some ⟨x, 0, none⟩)) ∧ At w' base x rl' rn' (.slice none 0 0) (D.crash keep) ∧ Box w' a D.blow rl rn pv ∧ Chg (fun k => k = a) w w' ∧ w.heap.size ≤ x ∧ w.heap.size ≤ rl' ∧ w.heap.size ≤ rn'

/-- The new device on the way. -/
def Dv.wake (D : Dv) (f : Int → Option (List Value)) : Dv := { fresh D.size D.blocks with lasts := f, acts := D.acts }

theorem wake_nums {D : Dv} (h : Nums D) {f : Int → Option (List Value)} (hf : ∀ k ws, f k = some ws → ws.length = D.size) : Nums (D.wake f) :=
  ⟨by unfold NumOk Dv.wake fresh; simp, by unfold NumOk Dv.wake fresh; simp, h.acts, ⟨h.fit.size, h.fit.blocks, (fun _ _ h => by cases h), hf, (fun _ h => by cases h), Nat.zero_le _⟩⟩

theorem kept_fit {D : Dv} (h : Fit D) (keep : List Bool) : ∀ n k ws, kept D keep n k = some ws → ws.length = D.size := by
  intro n
  induction n with
  | zero => exact h.lasts
  | succ n ih =>
    intro k ws hk
    cases hp : D.pend[n]? with
    | none =>
      simp only [kept, hp] at hk
      exact ih k ws hk
    | some p =>
      simp only [kept, hp] at hk
      by_cases hq : keep.getD n false = true
      · rw [if_pos hq] at hk
        unfold upd at hk
        by_cases hj : k = p.1
        · rw [if_pos hj] at hk
          cases hk
          exact h.pend p (List.mem_of_getElem? hp)
        · rw [if_neg hj] at hk
          exact ih k ws hk
      · rw [if_neg hq] at hk
        exact ih k ws hk

theorem crash_mid {w2 w3 : World} {x r1 : Nat} {kv : List (Int × Value)} (A2 : At w2 base a rl rn pv D.blow) (X2 : At w2 base x r1 (r1 + 1) (.slice none 0 0) (fresh D.size D.blocks)) (hkv : ∀ k, OptHeld w2 base (look kv k) (D.lasts k))
    (hm3 : IsMap (Value.int .i64) w3 w2.heap.size kv) (hb3 : Below w2.heap.size w2 w3) (hn : Nums D) (hxa : x ≠ a) (hpx : ∀ g, pv.ownBlock = some g → g ≠ x) :
    At ((w3.setCell ⟨x, 2, none⟩ (.map (some w2.heap.size))).setCell ⟨x, 8, none⟩ (.int .i64 (D.acts : Int))) base x w2.heap.size (r1 + 1) (.slice none 0 0) (D.wake D.lasts) ∧
    At ((w3.setCell ⟨x, 2, none⟩ (.map (some w2.heap.size))).setCell ⟨x, 8, none⟩ (.int .i64 (D.acts : Int))) base a rl rn pv D.blow ∧
    Chg (fun k => k = x) w2 ((w3.setCell ⟨x, 2, none⟩ (.map (some w2.heap.size))).setCell ⟨x, 8, none⟩ (.int .i64 (D.acts : Int))) := by
  have A3 := A2.below hb3
  have X3 := X2.below hb3
  have hc : Chg (fun k => k = x) w3 ((w3.setCell ⟨x, 2, none⟩ (.map (some w2.heap.size))).setCell ⟨x, 8, none⟩ (.int .i64 (D.acts : Int))) := ((Chg.refl (fun k => k = x) w3).setCell ⟨x, 2, none⟩ (.map (some w2.heap.size)) (fun _ => rfl)).setCell ⟨x, 8, none⟩ (.int .i64 (D.acts : Int)) (fun _ => rfl)
  have hS : ∀ g cs, base ≤ g → Blk w3 g 22 cs → ¬ g = x := fun g cs _ hg e => hg.ne_ X3.box (by decide) e
  have B4 := (X3.box.set_ 2 (.map (some w2.heap.size))).set_ 8 (.int .i64 (D.acts : Int))
  have hlt := X2.now.lt
  have hxl := X2.box.lt
  have M3 : DMap w3 base w2.heap.size D.lasts := ⟨kv, hm3, fun k => (hkv k).chg (Chg.of_below' (S := fun _ => False) hb3) (fun _ _ _ _ h => h)⟩
  refine ⟨⟨B4, by omega, M3.chg hc (by omega) hS, X3.now.chg hc (Ne.symm (X3.now.ne_blk X3.box)) hS, Pend.nil _ _, wake_nums hn hn.fit.lasts⟩, A3.chg hc (Ne.symm hxa) (Ne.symm (A3.lasts.ne_blk X3.box)) (Ne.symm (A3.now.ne_blk X3.box)) hpx hS, (Chg.of_below' hb3).trans hc (fun _ _ h => h)⟩

theorem row_chg {S : Nat → Prop} {w w' : World} {a : Option Addr} {xs : List Value} (h : Row w a xs) (hc : Chg S w w') (hS : ∀ k, k < w.heap.size → ¬ S k) : Row w' a xs := by
  intro i hi
  obtain ⟨b, off, rfl, h1, h2⟩ := h.at_ hi
  refine ⟨_, rfl, ?_⟩
  rw [add_none, List.getElem?_eq_getElem hi]
  exact hc.cell h1 (hS b h2)

def CrashLoop (w4 : World) (base a rl rn : Nat) (pv : Value) (D : Dv) (keep : List Bool) (x r3 rn' : Nat) (iv : Value) (wr : World) : Prop :=
  ∃ k : Nat, iv = .int .i64 (k : Int) ∧ k ≤ D.pend.length ∧ At wr base x r3 rn' (.slice none 0 0) (D.wake (kept D keep k)) ∧ At wr base a rl rn pv D.blow ∧ Chg (fun q => q = r3) w4 wr

theorem kept_yes {keep : List Bool} {k : Nat} (h : k < D.pend.length) (hq : keep.getD k false = true) : kept D keep (k + 1) = upd (kept D keep k) D.pend[k].1 D.pend[k].2 := by
  simp only [kept, List.getElem?_eq_getElem h]
  rw [if_pos hq]
theorem kept_no {keep : List Bool} {k : Nat} (h : k < D.pend.length) (hq : keep.getD k false = false) : kept D keep (k + 1) = kept D keep k := by
  simp only [kept, List.getElem?_eq_getElem h]
  rw [if_neg (by rw [hq]; decide)]

theorem wake_put {W w3 : World} {x r3 rn' : Nat} {f : Int → Option (List Value)} {q : Int × List Value} {v : Value} {kv : List (Int × Value)} (X : At W base x r3 rn' (.slice none 0 0) (D.wake f)) (A : At W base a rl rn pv D.blow) (hk : ∀ j, OptHeld W base (look kv j) (f j)) (hv : HeldV W base v q.2)
    (hm : IsMap (Value.int .i64) W r3 kv) (hm3 : IsMap (Value.int .i64) w3 r3 (put_ kv q.1 v)) (hc : Chg (fun k => k = r3) W w3) (hn : Nums (D.wake (upd f q.1 q.2))) (hl : rl ≠ r3) (hr : rn ≠ r3) :
    At w3 base x r3 rn' (.slice none 0 0) (D.wake (upd f q.1 q.2)) ∧ At w3 base a rl rn pv D.blow := by
  have hS : ∀ g cs, base ≤ g → Blk W g 22 cs → ¬ g = r3 := fun g cs _ hg e => X.lasts.ne_blk hg e
  have hex : ∃ es c, W.heap[r3]? = some (.map es c) := by obtain ⟨es, c, h, _⟩ := hm; exact ⟨es, c, h⟩
  refine ⟨⟨X.box.chg hc (X.lasts.ne_blk X.box), X.ne, DMap.put hk q.1 v q.2 hv hm3 hc hex, X.now.chg hc (Ne.symm X.ne) hS, Pend.nil _ _, hn⟩, A.chg hc (X.lasts.ne_blk A.box) hl hr (fun g hg e => ?_) hS⟩
  obtain ⟨pr, h1, _⟩ := A.pend
  exact hm.ne_own h1 (e ▸ hg)

theorem crash_end {wr w6 : World} {x r3 rn' : Nat} {keep : List Bool} {kv : List (Int × Value)} (X : At wr base x r3 rn' (.slice none 0 0) (D.wake (kept D keep D.pend.length))) (hk : ∀ j, OptHeld wr base (look kv j) (kept D keep D.pend.length j))
    (hm : IsMap (Value.int .i64) w6 wr.heap.size kv) (hb : Below wr.heap.size wr w6) (hn : Nums D) (A : At wr base a rl rn pv D.blow) (hxa : x ≠ a) :
    At (w6.setCell ⟨x, 3, none⟩ (.map (some wr.heap.size))) base x r3 wr.heap.size (.slice none 0 0) (D.crash keep) ∧ Box (w6.setCell ⟨x, 3, none⟩ (.map (some wr.heap.size))) a D.blow rl rn pv ∧ Chg (fun k => k = x) wr (w6.setCell ⟨x, 3, none⟩ (.map (some wr.heap.size))) := by
  have X6 := X.below hb
  have hc : Chg (fun k => k = x) w6 (w6.setCell ⟨x, 3, none⟩ (.map (some wr.heap.size))) := (Chg.refl (fun k => k = x) w6).setCell ⟨x, 3, none⟩ (.map (some wr.heap.size)) (fun _ => rfl)
  have hS : ∀ g cs, base ≤ g → Blk w6 g 22 cs → ¬ g = x := fun g cs _ hg e => hg.ne_ X6.box (by decide) e
  have hl := X.lasts.lt
  have hxl := X.box.lt
  have M : DMap w6 base wr.heap.size (kept D keep D.pend.length) := ⟨kv, hm, fun k => (hk k).chg (Chg.of_below' (S := fun _ => False) hb) (fun _ _ _ _ h => h)⟩
  have hf := kept_fit hn.fit keep D.pend.length
  refine ⟨⟨X6.box.set_ 3 (.map (some wr.heap.size)), by omega, X6.lasts.chg hc (Ne.symm (X6.lasts.ne_blk X6.box)) hS, M.chg hc (by omega) hS, Pend.nil _ _, ⟨by unfold NumOk Dv.crash; simp, by unfold NumOk Dv.crash; simp, hn.acts, ⟨hn.fit.size, hn.fit.blocks, hf, hf, (fun _ h => by cases h), Nat.zero_le _⟩⟩⟩, ?_, (Chg.of_below' hb).trans hc (fun _ _ h => h)⟩
  exact (A.below hb).box.chg hc (Ne.symm hxa)

set_option maxRecDepth 100000 in
set_option maxHeartbeats 1000000 in
theorem crash_any (h : At w base a rl rn pv D) (keep : List Bool) (b : Option Addr) (n c : Nat) (hr : Row w b (keep.map Value.bool)) (hn : keep.length = n) (hnn : n < 1099511627776) (hba : ∀ x, b = some x → 0 < keep.length → x.block ≠ a) (hpl : D.pend.length < 1099511627776) :
    Calls Try.prog 22 #[.pointer (some ⟨a, 0, none⟩), .slice b n c] w (Crashed w base a rl rn pv D keep) := by
  obtain ⟨z1, z2⟩ := h.nums.fit.size
  have z3 := h.nums.fit.blocks
  have HNEW := Lib.hid (fun w => new_ok D.size D.blocks w z1 z2 z3)
  have k7 : w.cell? ⟨a, 7, none⟩ = some (.bool D.down) := h.box.cell 7
  have f7 := h.box.frozen 7
  have B1 := h.box.set_ 7 (.bool true)
  have B2 : Box (w.setCell ⟨a, 7, none⟩ (.bool true)) a D.blow rl rn pv := B1
  have hc1 : Chg (fun k => k = a) w (w.setCell ⟨a, 7, none⟩ (.bool true)) := (Chg.refl _ w).setCell _ _ (fun _ => rfl)
  have hS1 : ∀ g cs, base ≤ g → Blk w g 22 cs → ¬ g = a := fun g cs _ hg e => hg.ne_ h.box (by decide) e
  have A1 : At (w.setCell ⟨a, 7, none⟩ (.bool true)) base a rl rn pv D.blow := h.of_box hc1 B2 rfl rfl rfl ⟨h.nums.fuse, h.nums.fault, h.nums.acts, ⟨h.nums.fit.1, h.nums.fit.2, h.nums.fit.3, h.nums.fit.4, h.nums.fit.5, h.nums.fit.6⟩⟩
  have hr1 : Row (w.setCell ⟨a, 7, none⟩ (.bool true)) b (keep.map Value.bool) := by
    rcases Nat.eq_zero_or_pos keep.length with h0 | h0
    · rw [List.eq_nil_of_length_eq_zero h0]
      exact Row.nil _ _
    · exact hr.chg hc1 (fun x hx => hba x hx h0)
  have HC1 := Lib.hid hc1
  have HN := Lib.hid hn
  have HDN := Lib.hid h.nums
  clear B1 B2 hc1 hS1 hn h hr
  go_enter Try.func22, Try.ntmps22
  go_wp2_with fail
  generalize w.setCell ⟨a, 7, none⟩ (.bool true) = w1 at *
  have c0 : w1.cell? ⟨a, 0, none⟩ = some (.int .i64 (D.size : Int)) := A1.box.cell 0
  have c1 : w1.cell? ⟨a, 1, none⟩ = some (.int .i64 (D.blocks : Int)) := A1.box.cell 1
  have HA1 := Lib.hid A1
  have HR1 := Lib.hid hr1
  clear k7 f7 A1 hr1
  go_region_held3 (fun w' => w'.cell? ⟨a, 0, none⟩ = some (.int .i64 (D.size : Int)) ∧ w'.cell? ⟨a, 1, none⟩ = some (.int .i64 (D.blocks : Int)))
    (first | go_keep | (have hal := HA1.out.box.lt; refine ⟨?_, ?_⟩ <;> (rw [hb2.cell (by simpa using hal)]; assumption)))
    ((go_at_call 13; refine (HNEW.out _).mono ?_; rintro e w2 ⟨rfl, hA2, hb2, hs2⟩))
  have hb2' : Below w1.heap.size w1 w2 := below_undrew hb2
  have hx2 := hA2 base
  rw [show w1.drew.heap.size = w1.heap.size from rfl] at hx2 hs2
  have A2 := HA1.out.below hb2'
  have hz1 := HC1.out.size
  have hax : a < w1.heap.size := HA1.out.box.lt
  obtain ⟨x, hx⟩ : ∃ x, x = w1.heap.size + 2 := ⟨_, rfl⟩
  obtain ⟨r1, hr1⟩ : ∃ r1, r1 = w1.heap.size := ⟨_, rfl⟩
  rw [← hx, ← hr1] at hx2
  rw [← hx]
  have hxl : w.heap.size ≤ x ∧ x ≠ a ∧ w.heap.size ≤ r1 := by omega
  have hx1 : w1.heap.size ≤ x ∧ w.heap.size ≤ w1.heap.size := by omega
  have hbl := A2.box.lt
  have HB2 := Lib.hid hb2'
  have HX2 := Lib.hid hx2
  have HA2 := Lib.hid A2
  obtain ⟨kv, hm, hkv⟩ := A2.lasts
  have HKV := Lib.hid hkv
  have k2 : w2.cell? ⟨a, 2, none⟩ = some (.map (some rl)) := A2.box.cell 2
  have k8 : w2.cell? ⟨a, 8, none⟩ = some (.int .i64 (D.acts : Int)) := A2.box.cell 8
  have x2 : w2.cell? ⟨x, 2, none⟩ = some (.map (some r1)) := hx2.box.cell 2
  have x8 : w2.cell? ⟨x, 8, none⟩ = some (.int .i64 0) := hx2.box.cell 8
  have y2 := hx2.box.frozen 2
  have y8 := hx2.box.frozen 8
  have hxs := hx2.box.lt
  clear hA2 hb2 hs2 hb2' hx2 A2 hkv c0 c1 hx hr1 HNEW hz1 hax
  go_wp2_with fail
  have na : ∀ i j : Nat, (⟨x, i, none⟩ : Addr) ≠ ⟨a, j, none⟩ := fun i j e => hxl.2.1 (by injection e)
  have q2 : w2.drew.cell? ⟨x, 2, none⟩ = some (cellV w2.drew ⟨x, 2, none⟩) := cellV_of (v := .map (some r1)) x2
  have q8 : w2.drew.cell? ⟨x, 8, none⟩ = some (cellV w2.drew ⟨x, 8, none⟩) := cellV_of (v := .int .i64 0) x8
  go_region_held3 (fun w' => w'.cell? ⟨a, 2, none⟩ = some (.map (some rl)) ∧ w'.cell? ⟨a, 8, none⟩ = some (.int .i64 (D.acts : Int)) ∧ w'.cell? ⟨x, 2, none⟩ = some (cellV w' ⟨x, 2, none⟩) ∧ w'.cell? ⟨x, 8, none⟩ = some (cellV w' ⟨x, 8, none⟩) ∧ w'.frozen? ⟨x, 2, none⟩ = false ∧ w'.frozen? ⟨x, 8, none⟩ = false)
    (((try go_split_ands); (try dsimp only); (repeat' apply And.intro) <;> first | assumption | exact q2 | exact q8 | exact (World.cell?_setCell_other _ _ _ _ (na _ _)).trans (by assumption) | (rw [World.frozen?_setCell]; assumption) | exact cellV_set (by assumption) _ | (rw [hb3.cell (by simpa using hbl)]; assumption) | exact cellV_of (by rw [hb3.cell (by simpa using hxs)]; assumption) | (rw [hb3.frozen (by simpa using hxs)]; assumption) | go_keep))
    ((go_at_call 43; refine (clone_map rl kv _ (by exact hm)).mono ?_; rintro e w3 ⟨rfl, hm3, hb3, hs3⟩))
  have hpx : ∀ g, pv.ownBlock = some g → g ≠ x := by
    rintro g hg rfl
    obtain ⟨pr, h1, _⟩ := HA2.out.pend
    exact own_ne_blk h1 HX2.out.box (by decide) hg
  obtain ⟨X4, A4, hc4⟩ := crash_mid HA2.out HX2.out HKV.out hm3 (below_undrew hb3) ⟨HA2.out.nums.fuse, HA2.out.nums.fault, HA2.out.nums.acts, ⟨HA2.out.nums.fit.1, HA2.out.nums.fit.2, HA2.out.nums.fit.3, HA2.out.nums.fit.4, HA2.out.nums.fit.5, HA2.out.nums.fit.6⟩⟩ hxl.2.1 hpx
  have hc14 : Chg (fun k => k = x) w1 ((w3.setCell ⟨x, 2, none⟩ (.map (some w2.heap.size))).setCell ⟨x, 8, none⟩ (.int .i64 (D.acts : Int))) := (Chg.of_below' HB2.out).trans hc4 (fun _ _ h => h)
  have hzz : w.heap.size ≤ w2.heap.size := by have := HB2.out.size; omega
  have hrr : x < w2.heap.size := HX2.out.box.lt
  have hne : rl ≠ w2.heap.size ∧ rn ≠ w2.heap.size := by have := HA2.out.lasts.lt; have := HA2.out.now.lt; omega
  have HNE := Lib.hid hne
  clear hne
  generalize (w3.setCell ⟨x, 2, none⟩ (.map (some w2.heap.size))).setCell ⟨x, 8, none⟩ (.int .i64 (D.acts : Int)) = w4 at *
  generalize w2.heap.size = r3 at *
  obtain ⟨p, pc, rfl⟩ := pend_form A4.pend
  have k4 : w4.cell? ⟨a, 4, none⟩ = some (.slice p D.pend.length pc) := A4.box.cell 4
  have HX4 := Lib.hid X4
  have HA4 := Lib.hid A4
  have HC14 := Lib.hid hc14
  clear hm3 hb3 hs3 q2 q8 x2 x8 y2 y8 k2 k8 HKV hm HA2 HX2 HB2 hxs hbl X4 A4 hc4 hc14 HA1 hpx
  go_wp2_with fail
  go_loopw [46] (fun iv wr => CrashLoop w4 base a rl rn (.slice p D.pend.length pc) D keep x r3 (r1 + 1) iv wr) (fun iv _ => D.pend.length - (intOf iv).toNat)
  case atStart => exact ⟨0, rfl, by omega, HX4.out, HA4.out, Chg.refl _ _⟩
  case round =>
    obtain ⟨k, rfl, hk, Xk, Ak, hck⟩ := hrel
    clear k4
    by_cases hlt : (k : Int) < D.pend.length
    · have hkl : k < D.pend.length := by omega
      obtain ⟨g, v, rfl, d1, d2, hv⟩ := pend_at Ak.pend k hkl
      have hvl : ∃ va vc, v = .slice va D.pend[k].2.length vc := by
        rcases hv.1.2 with ⟨rfl, h0⟩ | ⟨g', cap, cur, rfl, _⟩
        · exact ⟨none, 0, by rw [h0]⟩
        · exact ⟨_, cap, rfl⟩
      have k2 : wr.cell? ⟨x, 2, none⟩ = some (.map (some r3)) := Xk.box.cell 2
      have hHV := Lib.hid hv
      have HCK := Lib.hid hck
      have HAk := Lib.hid Ak
      have HXk := Lib.hid Xk
      have hxl2 := Xk.box.lt
      have hrk := row_chg HR1.out ((HC14.out.mono (S' := fun k => k = x ∨ k = r3) (fun _ _ e => .inl e)).trans hck (fun _ _ e => .inr e)) (fun j hj e => by omega)
      obtain ⟨va, vc, rfl⟩ := hvl
      obtain ⟨kv, hm, hkv⟩ := Xk.lasts
      have HKV := Lib.hid hkv
      have HRK := Lib.hid hrk
      clear hv hkv Ak Xk hck hrk
      by_cases hkn : k < keep.length
      · have hn2 : (k : Int) < (n : Int) := by have := HN.out; omega
        obtain ⟨kb, ko, rfl, hkc, hkbl⟩ := HRK.out.at_ (i := k) (by rw [List.length_map]; exact hkn)
        rw [List.getElem_map] at hkc
        have hgd : keep.getD k false = keep[k] := by rw [List.getD_eq_getElem?_getD, List.getElem?_eq_getElem hkn]; rfl
        have bW : Below wr.heap.size wr (wr.alloc (.cells #[.int .i64 D.pend[k].1, .slice va D.pend[k].2.length vc] 84)) := (Below.refl _ _).alloc (Nat.le_refl _) _
        have HBW := Lib.hid bW
        clear bW
        cases hq : keep[k]
        · rw [hq] at hgd hkc
          have hkk := kept_no (D := D) (keep := keep) hkl hgd
          have HKK := Lib.hid hkk
          clear hkk hgd hq
          go_wp2_with fail
          go_roundw
          case rel => exact ⟨k + 1, by go_num, by omega, HKK.out ▸ HXk.out.below HBW.out, HAk.out.below HBW.out, HCK.out.alloc _⟩
          case measure => simp [intOf]; omega
        · rw [hq] at hgd hkc
          have hkk := kept_yes (D := D) (keep := keep) hkl hgd
          have HKK := Lib.hid hkk
          clear hkk hgd hq
          go_wp2_with fail
          have hcW : Chg (fun q => q = r3) w4 (wr.alloc (.cells #[.int .i64 D.pend[k].1, .slice va D.pend[k].2.length vc] 84)) := HCK.out.alloc _
          have BW := Blk.new wr 84 #[.int .i64 D.pend[k].1, .slice va D.pend[k].2.length vc]
          have m0 := BW.cell 0
          have m1 := BW.cell 1
          have AW := HAk.out.below HBW.out
          have XW := HXk.out.below HBW.out
          have m2 := XW.box.cell 2
          have hmW := hm.alloc (.cells #[.int .i64 D.pend[k].1, .slice va D.pend[k].2.length vc] 84)
          have hkW : ∀ j, OptHeld (wr.alloc (.cells #[.int .i64 D.pend[k].1, .slice va D.pend[k].2.length vc] 84)) base (look kv j) (kept D keep k j) := fun j => (HKV.out j).chg (Chg.of_below' (S := fun _ => False) HBW.out) (fun _ _ _ _ h => h)
          have hvW := hHV.out.chg (Chg.of_below' (S := fun _ => False) HBW.out) (fun _ _ _ _ h => h)
          simp only [dcells] at m2
          generalize wr.alloc (.cells #[.int .i64 D.pend[k].1, .slice va D.pend[k].2.length vc] 84) = W at *
          have HAW := Lib.hid AW
          have HXW := Lib.hid XW
          have HKW := Lib.hid hkW
          have HVW := Lib.hid hvW
          have HCW := Lib.hid hcW
          clear AW XW hkW hvW hcW HBW BW hm HKV hHV k2 d1 d2 HAk HXk HCK hkc HRK
          go_still_tail 8, (by kernel_rfl)
          change wpList _ _ _ _ _ W.drew
          have hm2 := hmW.drew
          go_wp2_with (at_mapUpdate; go_must (refine wpList_put rfl _ _ _ _ rfl (mk := Value.int .i64) Try.underlying78 (plain_int Try.underlying3) r3 kv rfl hm2 D.pend[k].1 rfl _ rfl (finds_int Try.underlying3 _ _) ?_))
          intro w5 hm3 hc3
          have hc4 := chg_drew hc3
          have hnn2 : Nums (D.wake (upd (kept D keep k) D.pend[k].1 D.pend[k].2)) := by rw [← HKK.out]; exact wake_nums HDN.out (kept_fit HDN.out.fit keep _)
          have A3 := wake_put HXW.out HAW.out HKW.out HVW.out hmW hm3 hc4 hnn2 HNE.out.1 HNE.out.2
          rw [← HKK.out] at A3
          have hc5 := HCW.out.trans hc4 (fun _ _ h => h)
          have HA3 := Lib.hid A3
          have HC5 := Lib.hid hc5
          clear A3 hc5 hc4 hc3 hm3 hm2 hmW m0 m1 m2 hnn2
          go_wp2_with fail
          go_roundw
          case rel => exact ⟨k + 1, by go_num, by omega, HA3.out.1, HA3.out.2, HC5.out⟩
          case measure => simp [intOf]; omega
      · have hn2 : (n : Int) ≤ (k : Int) := by have := HN.out; omega
        have hkk := kept_no (D := D) (keep := keep) hkl (by rw [List.getD_eq_getElem?_getD, List.getElem?_eq_none (by omega)]; rfl)
        have HKK := Lib.hid hkk
        clear hkk
        have bW : Below wr.heap.size wr (wr.alloc (.cells #[.int .i64 D.pend[k].1, .slice va D.pend[k].2.length vc] 84)) := (Below.refl _ _).alloc (Nat.le_refl _) _
        have HBW := Lib.hid bW
        clear bW
        go_wp2_with fail
        go_roundw
        case rel => exact ⟨k + 1, by go_num, by omega, HKK.out ▸ HXk.out.below HBW.out, HAk.out.below HBW.out, HCK.out.alloc _⟩
        case measure => simp [intOf]; omega
    · obtain rfl : k = D.pend.length := by omega
      have k2 : wr.cell? ⟨x, 2, none⟩ = some (.map (some r3)) := Xk.box.cell 2
      have k3 := Xk.box.some_ (i := 3) (by simp [dcells])
      obtain ⟨v3, k3⟩ := k3
      have z3' := Xk.box.frozen 3
      have hxs := Xk.box.lt
      obtain ⟨kv, hm, hkv⟩ := Xk.lasts
      have HKV := Lib.hid hkv
      have HAk := Lib.hid Ak
      have HXk := Lib.hid Xk
      have HCK := Lib.hid hck
      clear hkv Ak Xk hck
      go_wp2_with fail
      refine (clone_map r3 kv _ hm).mono ?_
      rintro e w6 ⟨rfl, hm6, hb6, hs6⟩
      have k5 : w6.cell? ⟨x, 3, none⟩ = some v3 := by rw [hb6.cell hxs, k3]
      have z5 : w6.frozen? ⟨x, 3, none⟩ = false := by rw [hb6.frozen hxs, z3']
      obtain ⟨q1, q2, q3⟩ := crash_end HXk.out HKV.out hm6 hb6 HDN.out HAk.out hxl.2.1
      have Q1 := Lib.hid q1
      have Q2 := Lib.hid q2
      have Q3 := Lib.hid q3
      have hzr : w.heap.size ≤ wr.heap.size := by have := HCK.out.size; have := HC14.out.size; omega
      clear q1 q2 q3 k2 k3 hm hm6 hb6 hs6 HKV
      go_wp2_with fail
      go_ret
      refine ⟨x, r3, _, rfl, Q1.out, Q2.out, ?_, hxl.1, by omega, hzr⟩
      have c1 := (HC14.out.mono (S' := fun k => k = x ∨ k = r3) (fun _ _ e => .inl e)).trans HCK.out (fun _ _ e => .inr e)
      have c2 := c1.trans Q3.out (fun _ _ e => .inl e)
      exact HC1.out.trans (c2.mono (S' := fun k => k = a ∨ w1.heap.size ≤ k) (fun k _ e => .inr (by omega))) (fun k hk e => by omega)
end

end Go.Proofs.Ytodjibhnmibedaa.Dev
