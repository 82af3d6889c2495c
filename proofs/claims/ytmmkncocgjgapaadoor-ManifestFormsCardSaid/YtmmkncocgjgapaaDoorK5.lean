/- Texts of mine, packed: DoRw, DoSync, DoAny, Clone64, Seal, SealPut, Same, SealRef, SealPuts, SealGet, SealGet2, SealGet3, SealGetR, SealPlain. -/
import Derived.Test.YtmmkncocgjgapaaDoorK1
import Derived.Test.YtmmkncocgjgapaaDoorK4
import Derived.Test.YtmmkncocgjgapaaDoorRows
import Derived.Lib.LazyBuf
import Derived.Laws.CopyOwn
import Derived.Deep.RegionHeld3
set_option linter.unusedVariables false

/- The walks of Read and Write of a device. -/
namespace Go.Proofs.YtmmkncocgjgapaaDoor.Dev
open Go.RowKit

def zeroV (n : Nat) : List Value := List.replicate n (.int .u64 0)
/-- The words that a Read tells. -/
def Dv.words (D : Dv) (i : Int) : List Value := (D.now i).getD (zeroV D.size)
/-- What a Read or a Write answers ahead of its act; 0: nothing bars it. -/
def Dv.bars (D : Dv) (i : Int) (n : Nat) : Int := if D.down = true then 8 else if i < 0 ∨ (D.blocks : Int) ≤ i ∨ n ≠ D.size then 1 else 0

theorem zero_row (w : World) : (zeroValue 40).run Tryd.prog w = .ok (.slice none 0 0) w := by kernel_rfl

theorem own_mono {w : World} {base base' : Nat} {e : TypeId} {size : Nat} {v : Value} {n : Nat} {xs : List Value} (h : w.ownsRow base e size v n xs) (hb : base' ≤ base) : w.ownsRow base' e size v n xs :=
  ⟨h.1, h.2.imp id fun ⟨g, cap, cur, h1, h2, h3⟩ => ⟨g, cap, cur, h1, Nat.le_trans hb h2, h3⟩⟩

theorem own_form {w : World} {base : Nat} {e : TypeId} {size : Nat} {v : Value} {n : Nat} {xs : List Value} (h : w.ownsRow base e size v n xs) : ∃ a c, v = .slice a n c := by
  rcases h.2 with ⟨rfl, rfl⟩ | ⟨g, cap, cur, rfl, _⟩
  · exact ⟨_, _, rfl⟩
  · exact ⟨_, _, rfl⟩

/-- The block's words, in memory of the call's own. -/
def Got (w : World) (a : Nat) (D : Dv) (rl rn : Nat) (pv : Value) (ws : List Value) (e : Ending) (w' : World) : Prop :=
  ∃ g c, e = .returned (.tuple #[.slice (some ⟨g, 0, none⟩) D.size c, .int .i64 0]) ∧ w'.ownsRow w.heap.size 35 1 (.slice (some ⟨g, 0, none⟩) D.size c) D.size ws ∧ w.heap.size ≤ g ∧ Box w' a D.act.2 rl rn pv ∧ Chg (fun k => k = a) w w'

theorem got_close {w w1 w2 : World} {a : Nat} {D : Dv} {rl rn : Nat} {pv : Value} {ws : List Value} {g c : Nat} (hc : Chg (fun k => k = a) w w1) (hb : Below w1.heap.size w1 w2) (hbx : Box w1 a D.act.2 rl rn pv)
    (ho : w2.ownsRow w1.heap.size 35 1 (.slice (some ⟨g, 0, none⟩) D.size c) D.size ws) (hg : w1.heap.size ≤ g) : Got w a D rl rn pv ws (.returned (.tuple #[.slice (some ⟨g, 0, none⟩) D.size c, .int .i64 0])) w2 :=
  ⟨g, c, rfl, own_mono ho hc.size, Nat.le_trans hc.size hg, hbx.below hb hbx.lt, hc.then_below hb⟩

theorem own_some {w : World} {base : Nat} {e : TypeId} {n : Nat} {v : Value} {xs : List Value} (h : w.ownsRow base e 1 v n xs) (hn : 0 < n) : ∃ g c, v = .slice (some ⟨g, 0, none⟩) n c ∧ base ≤ g ∧ Row w (some ⟨g, 0, none⟩) xs ∧ n ≤ c ∧ c ≤ maxLen := by
  obtain ⟨a, c, rfl, hr, h1, h2, h3⟩ := own_slice h
  obtain ⟨g, cap, e, hb, _⟩ := World.ownsRow.form h hn
  cases e
  exact ⟨g, c, rfl, hb, hr, h1, h2⟩

section
variable {w : World} {a rl rn : Nat} {O : Nat → Prop} {pv : Value} {D : Dv}

def Bare (w : World) (a : Nat) (D : Dv) (rl rn : Nat) (pv : Value) (e : Ending) (w' : World) : Prop :=
  e = .returned (.tuple #[.slice none 0 0, .int .i64 D.act.1]) ∧ Box w' a D.act.2 rl rn pv ∧ Chg (fun k => k = a) w w'

set_option maxRecDepth 100000 in
theorem read_barred (i : Int) (h : Box w a D rl rn pv) (hb : D.bars i D.size ≠ 0) :
    Calls Tryd.prog 19 #[.pointer (some ⟨a, 0, none⟩), .int .i64 i] w fun e w' => e = .returned (.tuple #[.slice none 0 0, .int .i64 (D.bars i D.size)]) ∧ w = w' := by
  have HD := Lib.hid (down_any h)
  have c1 : w.cell? ⟨a, 1, none⟩ = some (.int .i64 (D.blocks : Int)) := h.cell 1
  unfold Dv.bars at hb ⊢
  cases hd : D.down
  · rw [hd] at HD hb
    rw [if_neg (by decide)] at hb ⊢
    by_cases hi : i < 0 ∨ (D.blocks : Int) ≤ i ∨ D.size ≠ D.size
    · rw [if_pos hi]
      clear hb hd
      by_cases h0 : i < 0
      · clear hi
        go_enter Tryd.func19, Tryd.ntmps19
        go_wp2_with fail
        refine HD.out.mono ?_
        rintro e w1 ⟨rfl, rfl⟩
        go_wp2_with fail
        go_ret2
        exact ⟨rfl, rfl⟩
      · have h1 : (D.blocks : Int) ≤ i := by omega
        clear hi
        go_enter Tryd.func19, Tryd.ntmps19
        go_wp2_with fail
        refine HD.out.mono ?_
        rintro e w1 ⟨rfl, rfl⟩
        go_wp2_with fail
        go_ret2
        exact ⟨rfl, rfl⟩
    · rw [if_neg hi] at hb
      exact absurd rfl hb
  · rw [hd] at HD
    rw [if_pos rfl]
    clear hb hd
    go_enter Tryd.func19, Tryd.ntmps19
    go_wp2_with fail
    refine HD.out.mono ?_
    rintro e w1 ⟨rfl, rfl⟩
    go_wp2_with fail
    go_ret2
    exact ⟨rfl, rfl⟩

theorem not_barred {i : Int} {n : Nat} (hb : D.bars i n = 0) : D.down = false ∧ 0 ≤ i ∧ i < (D.blocks : Int) ∧ n = D.size := by
  unfold Dv.bars at hb
  split at hb
  · cases hb
  · rename_i h
    split at hb
    · cases hb
    · rename_i h2
      refine ⟨by simpa using h, by omega, by omega, by omega⟩

set_option maxRecDepth 100000 in
theorem read_failed (i : Int) (h : Box w a D rl rn pv) (hn : Nums D) (hb : D.bars i D.size = 0) (hf : D.act.1 ≠ 0) :
    Calls Tryd.prog 19 #[.pointer (some ⟨a, 0, none⟩), .int .i64 i] w (Bare w a D rl rn pv) := by
  obtain ⟨h1, h2, h3, -⟩ := not_barred hb
  have HD := down_any h
  rw [h1] at HD
  have HD2 := Lib.hid HD
  have HA := Lib.hid (act_any h hn)
  have c1 : w.cell? ⟨a, 1, none⟩ = some (.int .i64 (D.blocks : Int)) := h.cell 1
  have hne : (D.act.1 != 0) = true := by simpa using hf
  clear hb h1 HD hf
  go_enter Tryd.func19, Tryd.ntmps19
  go_wp2_with fail
  refine HD2.out.mono ?_
  rintro e w1 ⟨rfl, rfl⟩
  go_wp2_with fail
  refine HA.out.mono ?_
  rintro e w1 ⟨rfl, h4, h5⟩
  go_wp2_with fail
  go_ret2
  exact ⟨rfl, h4, h5⟩

set_option maxRecDepth 100000 in
set_option maxHeartbeats 400000 in
theorem read_got (i : Int) (h : At w O a rl rn pv D) (hb : D.bars i D.size = 0) (hf : D.act.1 = 0) (hac : D.acts + 1 < 4611686018427387904) :
    Calls Tryd.prog 19 #[.pointer (some ⟨a, 0, none⟩), .int .i64 i] w (Got w a D rl rn pv (D.words i)) := by
  obtain ⟨h1, h2, h3, -⟩ := not_barred hb
  have HD := down_any h.box
  rw [h1] at HD
  have HD2 := Lib.hid HD
  have HA := Lib.hid (act_any h.box h.nums)
  have c1 : w.cell? ⟨a, 1, none⟩ = some (.int .i64 (D.blocks : Int)) := h.box.cell 1
  have hne : (D.act.1 != 0) = false := by simpa using hf
  obtain ⟨s1, s2, s3, s4, s5, -⟩ := D.act_same
  have hsz := h.nums.fit.size
  have hnl := h.nums.fit.now i
  have H := Lib.hid h
  clear hb h1 HD h s1 s3 s5 hf
  go_enter Tryd.func19, Tryd.ntmps19
  go_wp2_with fail
  refine HD2.out.mono ?_
  rintro e w1 ⟨rfl, rfl⟩
  go_wp2_with fail
  refine HA.out.mono ?_
  rintro e w1 ⟨rfl, hbx, hc1⟩
  have A1 := H.out.acted hc1 hbx hac
  have c3 : w1.cell? ⟨a, 3, none⟩ = some (.map (some rn)) := hbx.cell 3
  have c0 : w1.cell? ⟨a, 0, none⟩ = some (.int .i64 (D.size : Int)) := by rw [hbx.cell 0]; show some (Value.int .i64 (D.act.2.size : Int)) = _; rw [s4]
  obtain ⟨kv, hm, hk⟩ := A1.now
  have hki := hk i
  rw [s2] at hki
  have HS2 := Lib.hid s2
  have HC1 := Lib.hid hc1
  have HBX := Lib.hid hbx
  clear s2 s4 hc1 hbx
  cases hl : look kv i with
  | none =>
    rw [hl] at hki
    have hnone : D.now i = none := by
      cases hD : D.now i with
      | none => rfl
      | some ws => rw [hD] at hki; exact hki.elim
    have hws : D.words i = zeroV D.size := by unfold Dv.words; rw [hnone]; rfl
    have HW := Lib.hid hws
    have HL := Lib.hid hl
    clear hk hki hnone hws hl
    have hmk := fun W => run_make_of (P := Tryd.prog) (t := 40) (e := 35) (bytes := 8) (z := .int .u64 0) Tryd.underlying40 (by kernel_rfl) rfl .i64 .i64 D.size (by omega) (by omega) W
    go_wp2_with (at_lookup; go_must (refine wpList_look rfl _ _ _ _ rfl (mk := Value.int .i64) Tryd.underlying60 (plain_int Tryd.underlying3) rn kv rfl hm i rfl (finds_int Tryd.underlying3 _ _) (zero_row _) ?_); rw [HL.out])
    go_wp2_with fail
    go_ret2
    rw [HW.out]
    have ho := World.ownsRow_lit (base := w1.heap.size) (e := 35) (size := 1) w1 (same D.size (.int .u64 0)) D.size (Nat.le_refl _) (by unfold maxLen; omega) (by rw [same_size]; omega)
    rw [same_list] at ho
    exact got_close HC1.out ((Below.refl _ _).alloc (Nat.le_refl _) _) HBX.out ho (Nat.le_refl _)
  | some v =>
    rw [hl] at hki
    obtain ⟨ws, hws⟩ : ∃ ws, D.now i = some ws := by
      cases hD : D.now i with
      | none => rw [hD] at hki; exact hki.elim
      | some ws => exact ⟨ws, rfl⟩
    rw [hws] at hki
    have hlen := hnl ws hws
    have hwd : D.words i = ws := by unfold Dv.words; rw [hws]; rfl
    have HW := Lib.hid hwd
    have HL := Lib.hid hl
    obtain ⟨g, c, rfl, _, hr, hcc, hcm⟩ := own_some (hlen ▸ hki.1) (by omega)
    have h1 := hki.2.1
    have HLEN := Lib.hid hlen
    clear hk hki hws hl hlen hwd hnl
    go_wp2_with (at_lookup; go_must (refine wpList_look rfl _ _ _ _ rfl (mk := Value.int .i64) Tryd.underlying60 (plain_int Tryd.underlying3) rn kv rfl hm i rfl (finds_int Tryd.underlying3 _ _) (zero_row _) ?_); rw [HL.out])
    go_wp2_with fail
    refine (clone_u64 _ _ _ _ _ hr HLEN.out h1 (by omega) (by simp)).mono ?_
    rintro e w2 ⟨v2, rfl, ho, hb2⟩
    obtain ⟨g2, cc2, rfl, hg2, -⟩ := own_some ho (by omega)
    go_wp2_with fail
    go_ret2
    rw [HW.out]
    exact got_close HC1.out hb2 HBX.out ho hg2

set_option maxRecDepth 100000 in
theorem write_barred (i : Int) (l : Option Addr) (n c : Nat) (h : Box w a D rl rn pv) (hn : n ≤ 9223372036854775807) (hb : D.bars i n ≠ 0) :
    Calls Tryd.prog 18 #[.pointer (some ⟨a, 0, none⟩), .int .i64 i, .slice l n c] w fun e w' => e = .returned (.int .i64 (D.bars i n)) ∧ w = w' := by
  have HD := Lib.hid (down_any h)
  have c1 : w.cell? ⟨a, 1, none⟩ = some (.int .i64 (D.blocks : Int)) := h.cell 1
  have c0 : w.cell? ⟨a, 0, none⟩ = some (.int .i64 (D.size : Int)) := h.cell 0
  unfold Dv.bars at hb ⊢
  cases hd : D.down
  · rw [hd] at HD hb
    rw [if_neg (by decide)] at hb ⊢
    by_cases hi : i < 0 ∨ (D.blocks : Int) ≤ i ∨ n ≠ D.size
    · rw [if_pos hi]
      clear hb hd
      by_cases h0 : i < 0
      · clear hi
        go_enter Tryd.func18, Tryd.ntmps18
        go_wp2_with fail
        refine HD.out.mono ?_
        rintro e w1 ⟨rfl, rfl⟩
        go_wp2_with fail
        go_ret
        exact ⟨rfl, rfl⟩
      by_cases h1 : (D.blocks : Int) ≤ i
      · clear hi
        go_enter Tryd.func18, Tryd.ntmps18
        go_wp2_with fail
        refine HD.out.mono ?_
        rintro e w1 ⟨rfl, rfl⟩
        go_wp2_with fail
        go_ret
        exact ⟨rfl, rfl⟩
      · have h2 : ((n : Int) != (D.size : Int)) = true := by rw [bne_iff_ne]; omega
        clear hi
        go_enter Tryd.func18, Tryd.ntmps18
        go_wp2_with fail
        refine HD.out.mono ?_
        rintro e w1 ⟨rfl, rfl⟩
        go_wp2_with fail
        go_ret
        exact ⟨rfl, rfl⟩
    · rw [if_neg hi] at hb
      exact absurd rfl hb
  · rw [hd] at HD
    rw [if_pos rfl]
    clear hb hd
    go_enter Tryd.func18, Tryd.ntmps18
    go_wp2_with fail
    refine HD.out.mono ?_
    rintro e w1 ⟨rfl, rfl⟩
    go_wp2_with fail
    go_ret
    exact ⟨rfl, rfl⟩

set_option maxRecDepth 100000 in
theorem write_failed (i : Int) (l : Option Addr) (n c : Nat) (h : Box w a D rl rn pv) (hn : Nums D) (hb : D.bars i n = 0) (hf : D.act.1 ≠ 0) :
    Calls Tryd.prog 18 #[.pointer (some ⟨a, 0, none⟩), .int .i64 i, .slice l n c] w (Acted w a D rl rn pv) := by
  obtain ⟨h1, h2, h3, rfl⟩ := not_barred hb
  have HD := down_any h
  rw [h1] at HD
  have HD2 := Lib.hid HD
  have HA := Lib.hid (act_any h hn)
  have c1 : w.cell? ⟨a, 1, none⟩ = some (.int .i64 (D.blocks : Int)) := h.cell 1
  have c0 : w.cell? ⟨a, 0, none⟩ = some (.int .i64 (D.size : Int)) := h.cell 0
  have hne : (D.act.1 != 0) = true := by simpa using hf
  have hss : ((D.size : Int) != (D.size : Int)) = false := by simp
  clear hb h1 HD hf
  go_enter Tryd.func18, Tryd.ntmps18
  go_wp2_with fail
  refine HD2.out.mono ?_
  rintro e w1 ⟨rfl, rfl⟩
  go_wp2_with fail
  refine HA.out.mono ?_
  rintro e w1 ⟨rfl, h4, h5⟩
  go_wp2_with fail
  go_ret
  exact ⟨rfl, h4, h5⟩

theorem el_write : Elem Tryd.prog 61 77 2 32 := elem_of (z := .agg #[.int .i64 0, .slice none 0 0]) Tryd.underlying61 (by kernel_rfl) rfl (by decide)

def Dv.put (D : Dv) (i : Int) (ws : List Value) : Dv := { D with now := upd D.now i ws, pend := D.pend ++ [(i, ws)] }
/-- The blocks that a device's methods may turn. -/
def Foot (a rl rn : Nat) (pv : Value) (k : Nat) : Prop := k = a ∨ k = rl ∨ k = rn ∨ some k = pv.ownBlock

def Put (w : World) (O : Nat → Prop) (a rl rn : Nat) (pv : Value) (D : Dv) (e : Ending) (w' : World) : Prop :=
  e = .returned (.int .i64 0) ∧ (∃ pv', At w' O a rl rn pv' D) ∧ Chg (Foot a rl rn pv) w w'

theorem act_acts {D : Dv} (h : D.act.1 = 0) : D.act.2 = D.burn.done := by
  unfold Dv.act at h ⊢
  split at h
  · cases h
  · split at h
    · cases h
    · rename_i h1 h2
      rw [if_neg h1, if_neg h2]
theorem act_len {D : Dv} (h : D.act.1 = 0) (hn : Nums D) : D.act.2.pend.length + 1 ≤ D.act.2.acts := by
  rw [act_acts h]
  exact Nat.succ_le_succ hn.fit.len

theorem put_nums {D : Dv} {i : Int} {ws : List Value} (h : Nums D) (hw : ws.length = D.size) (hl : D.pend.length + 1 ≤ D.acts) : Nums (D.put i ws) := by
  refine ⟨h.fuse, h.fault, h.acts, ⟨h.fit.size, h.fit.blocks, fun k xs hk => ?_, h.fit.lasts, fun p hp => ?_, ?_⟩⟩
  · simp only [Dv.put, upd] at hk
    split at hk
    · cases hk; exact hw
    · exact h.fit.now k xs hk
  · simp only [Dv.put, List.mem_append, List.mem_singleton] at hp
    rcases hp with hp | rfl
    · exact h.fit.pend p hp
    · exact hw
  · simp only [Dv.put, List.length_append, List.length_singleton]
    exact hl

theorem put_close {w1 w2 w3 w5 : World} {i : Int} {ws : List Value} {v2 v5 : Value} {kv : List (Int × Value)} {pr : List (Int × Value)} (A1 : At w1 O a rl rn pv D) (hb2 : Below w1.heap.size w1 w2) (hv : HeldV w2 O v2 ws)
    (hm2 : IsMap (Value.int .i64) w2 rn kv) (hk : ∀ k, OptHeld w2 O (look kv k) (D.now k)) (hm3 : IsMap (Value.int .i64) w3 rn (put_ kv i v2)) (hc3 : Chg (fun k => k = rn) w2 w3)
    (hpl : pr.length = D.pend.length) (hph : ∀ j (h : j < pr.length) (h' : j < D.pend.length), pr[j].1 = D.pend[j].1 ∧ HeldV w2 O pr[j].2 D.pend[j].2) (hpo : w3.ownsRow 0 77 2 pv D.pend.length (pcells pr))
    (hown5 : w5.ownsRow 0 77 2 v5 (D.pend.length + 1) (pcells pr ++ [.int .i64 i, v2])) (hg5 : (w3.alloc (.cells #[.int .i64 i, v2] 77)).grownBy w5 pv.ownBlock) (hba : 0 ≤ w3.heap.size)
    (hn : Nums (D.put i ws)) (hv5 : ∀ g, v5.ownBlock = some g → O g) :
    (∃ pv', At (w5.setCell ⟨a, 4, none⟩ v5) O a rl rn pv' (D.put i ws)) ∧ Chg (Foot a rl rn pv) w1 (w5.setCell ⟨a, 4, none⟩ v5) := by
  have A2 := A1.below hb2
  have hal : a ≠ rl := A2.lasts.ne_blk A2.box
  have han : a ≠ rn := A2.now.ne_blk A2.box
  have hS3 : ∀ g cs, O g → Blk w2 g 35 cs → ¬ g = rn := fun g cs _ hg e => A2.now.ne_blk hg e
  have hrn : ∃ es c, w2.heap[rn]? = some (.map es c) := by obtain ⟨es, c, h, _⟩ := hm2; exact ⟨es, c, h⟩
  have L3 := A2.lasts.chg hc3 A2.ne hS3
  have N3 := DMap.put hk i v2 ws hv hm3 hc3 hrn
  have B3 := A2.box.chg hc3 han
  have H3 := hv.chg hc3 hS3
  have P3 : ∀ j (h : j < pr.length) (h' : j < D.pend.length), pr[j].1 = D.pend[j].1 ∧ HeldV w3 O pr[j].2 D.pend[j].2 := fun j h h' => ⟨(hph j h h').1, (hph j h h').2.chg hc3 hS3⟩
  have hc5 : Chg (fun k => some k = pv.ownBlock) w3 w5 := ((Chg.refl _ w3).alloc _).trans (Chg.of_grown hg5) (fun _ _ h => h)
  have hS5 : ∀ g cs, O g → Blk w3 g 35 cs → ¬ some g = pv.ownBlock := fun g cs _ hg e => own_ne_blk hpo hg (by decide) e.symm
  have hra : ¬ some a = pv.ownBlock := fun e => own_ne_blk hpo B3 (by decide) e.symm
  have hrl : ¬ some rl = pv.ownBlock := fun e => by obtain ⟨kl, hl, _⟩ := L3; exact hl.ne_own hpo e.symm
  have hrn5 : ¬ some rn = pv.ownBlock := fun e => hm3.ne_own hpo e.symm
  have L5 := L3.chg hc5 hrl hS5
  have N5 := N3.chg hc5 hrn5 hS5
  have B5 := B3.chg hc5 hra
  have H5 := H3.chg hc5 hS5
  have hc6 : Chg (fun k => k = a) w5 (w5.setCell ⟨a, 4, none⟩ v5) := (Chg.refl _ w5).setCell _ _ (fun _ => rfl)
  have hS6 : ∀ g cs, O g → Blk w5 g 35 cs → ¬ g = a := fun g cs _ hg e => hg.ne_ B5 (by decide) e
  have ho6 := own_chg hown5 hc6 (fun g hg e => own_ne_blk hown5 B5 (by decide) (e ▸ hg))
  refine ⟨⟨v5, B5.set_ 4 v5, A2.ne, L5.chg hc6 (Ne.symm hal) hS6, N5.chg hc6 (Ne.symm han) hS6, ⟨pr ++ [(i, v2)], ?_, ?_, fun j hj hj' => ?_⟩, hn, hv5⟩, ?_⟩
  · simpa [pcells_append, pcells, Dv.put] using ho6
  · simp [Dv.put, hpl]
  · simp only [Dv.put] at hj' ⊢
    by_cases hjl : j < pr.length
    · rw [List.getElem_append_left hjl, List.getElem_append_left (by omega)]
      exact ⟨(P3 j hjl (by omega)).1, ((P3 j hjl (by omega)).2.chg hc5 hS5).chg hc6 hS6⟩
    · have e1 : j = pr.length := by simp at hj; omega
      have e2 : j = D.pend.length := by omega
      rw [List.getElem_append_right (by omega), List.getElem_append_right (by omega)]
      simp only [e1, Nat.sub_self, List.getElem_cons_zero]
      simp only [hpl, Nat.sub_self, List.getElem_cons_zero]
      exact ⟨trivial, H5.chg hc6 hS6⟩
  · have c1 : Chg (Foot a rl rn pv) w1 w2 := Chg.of_below' hb2
    have c2 := c1.trans hc3 (fun k _ h => .inr (.inr (.inl h)))
    have c3 := c2.trans hc5 (fun k _ h => .inr (.inr (.inr h)))
    exact c3.trans hc6 (fun k _ h => .inl h)

set_option maxRecDepth 100000 in
set_option maxHeartbeats 400000 in
theorem write_put (i : Int) (l : Option Addr) (c : Nat) (ws : List Value) (h : At w O a rl rn pv D) (hb : D.bars i ws.length = 0) (hf : D.act.1 = 0) (hac : D.acts + 1 < 1099511627776) (hr : Row w l ws) (h1c : ∀ u ∈ ws, u.oneCell' = true) (hO : ∀ g, w.heap.size ≤ g → O g) (hla : ∀ x, l = some x → x.block ≠ a) :
    Calls Tryd.prog 18 #[.pointer (some ⟨a, 0, none⟩), .int .i64 i, .slice l ws.length c] w (Put w O a rl rn pv (D.act.2.put i ws)) := by
  obtain ⟨h1, h2, h3, h4⟩ := not_barred hb
  have HD := down_any h.box
  rw [h1] at HD
  have HD2 := Lib.hid HD
  have HA := Lib.hid (act_any h.box h.nums)
  have c1 : w.cell? ⟨a, 1, none⟩ = some (.int .i64 (D.blocks : Int)) := h.box.cell 1
  have c0 : w.cell? ⟨a, 0, none⟩ = some (.int .i64 (D.size : Int)) := h.box.cell 0
  have hne : (D.act.1 != 0) = false := by simpa using hf
  have hss : ((ws.length : Int) != (D.size : Int)) = false := by rw [h4]; simp
  have hsz := h.nums.fit.size
  have H := Lib.hid h
  have H4 := Lib.hid h4
  have hnz : l = none → ws.length = 0 ∧ c = 0 := by
    intro e
    subst e
    obtain ⟨x, hx, _⟩ := hr 0 (by omega)
    cases hx
  have HNZ := Lib.hid hnz
  have HF := Lib.hid hf
  clear hb h1 HD h hf h4 hnz
  go_enter Tryd.func18, Tryd.ntmps18
  go_wp2_with fail
  refine HD2.out.mono ?_
  rintro e w1 ⟨rfl, rfl⟩
  go_wp2_with fail
  refine HA.out.mono ?_
  rintro e w1 ⟨rfl, hbx, hc1⟩
  have A1 := H.out.acted hc1 hbx (by omega)
  have hr1 : Row w1 l ws := hr.chg hc1 hla
  have hz1 := hc1.size
  go_wp2_with fail
  refine (clone_u64 l ws.length c ws _ hr1 rfl h1c (by have := H4.out; omega) HNZ.out).mono ?_
  rintro e w2 ⟨v2, rfl, ho, hb2⟩
  obtain ⟨g2, cc2, rfl, hg2, -⟩ := own_some ho (by have := H4.out; omega)
  have A2 := A1.below hb2
  have hv2 : HeldV w2 O (.slice (some ⟨g2, 0, none⟩) ws.length cc2) ws := ⟨own_mono ho (Nat.zero_le _), h1c, fun g hg => hO g (by simp only [Value.ownBlock, Option.some.injEq] at hg; omega)⟩
  obtain ⟨kv, hm2, hk2⟩ := A2.now
  obtain ⟨pr, hp1, hp2, hp3⟩ := A2.pend
  have hb3 := hb2.size
  have HV := Lib.hid hv2
  have HK := Lib.hid hk2
  have HP2 := Lib.hid hp2
  have HP3 := Lib.hid hp3
  have HC1 := Lib.hid hc1
  have HA1 := Lib.hid A1
  have HA2 := Lib.hid A2
  have HB2 := Lib.hid hb2
  have k3 : w2.cell? ⟨a, 3, none⟩ = some (.map (some rn)) := A2.box.cell 3
  clear hv2 hk2 hp2 hp3 hc1 A1 A2 hbx hr1 ho hb2 c1 c0 hr HA HD2
  go_wp2_with (at_mapUpdate; go_must (refine wpList_put rfl _ _ _ _ rfl (mk := Value.int .i64) Tryd.underlying60 (plain_int Tryd.underlying3) rn kv rfl hm2 i rfl _ rfl (finds_int Tryd.underlying3 _ _) ?_))
  intro w3 hm3 hc3
  have B3 := HA2.out.box.chg hc3 (HA2.out.now.ne_blk HA2.out.box)
  have hp4 := own_chg hp1 hc3 (fun g hg => (HA2.out.pend_ne hg).2.2)
  have k4' : w3.cell? ⟨a, 4, none⟩ = some pv := B3.cell 4
  have HB3 := Lib.hid B3
  have hz3 := hc3.size
  have HC3 := Lib.hid hc3
  have hpa := HA2.out.nums.fit.len
  have hac2 := D.act_same.2.2.2.2.2
  have hbz : 0 ≤ w3.heap.size := by omega
  have hnp : (D.act.2.pend.length + 1) * 32 ≤ 140737488355328 := by omega
  have hnm : D.act.2.pend.length + 1 ≤ maxLen := by unfold maxLen; omega
  have HB32 := Lib.hid hnp
  have HML := Lib.hid hnm
  have HBZ := Lib.hid hbz
  clear hp1 k3 B3 hc3 hnp hnm hpa hac2 hbz
  go_wp2_with (at_builtin; go_must (refine wpList_append rfl (.tmp 48) (.tmp 52) _ rfl el_write 0 _ _ _ rfl (hp4.alloc _) _ 1 1 [.int .i64 i, .slice (some ⟨g2, 0, none⟩) ws.length cc2] rfl rfl (Row.new w3 #[.int .i64 i, .slice (some ⟨g2, 0, none⟩) ws.length cc2] _ _) (by intro u hu; simp at hu; rcases hu with rfl | rfl <;> rfl) HML.out HB32.out (Nat.zero_le _) ?_))
  intro v5 w5 hown5 hg5 hq5 hb5
  have hzz : w.heap.size ≤ w3.heap.size := by omega
  have HV5 : Hid (∀ g, v5.ownBlock = some g → O g) := Lib.hid (fun g hg => by
    rcases hq5 with e | e
    · exact HA1.out.pout g (e ▸ hg)
    · rw [e] at hg
      injection hg with hg
      exact hO g (by rw [← hg]; first | omega | (simp; omega) | exact Nat.le_trans hzz (((Below.refl w3.heap.size w3).alloc (Nat.le_refl _) _).size)))
  clear hq5 hzz
  obtain ⟨a5, c5, rfl⟩ := own_form hown5
  have hc5 : Chg (fun k => some k = pv.ownBlock) w3 w5 := ((Chg.refl _ w3).alloc _).trans (Chg.of_grown hg5) (fun _ _ h => h)
  have hra : ¬ some a = pv.ownBlock := fun e => own_ne_blk hp4 HB3.out (by decide) e.symm
  have B5 := HB3.out.chg hc5 hra
  have k4 : w5.cell? ⟨a, 4, none⟩ = some pv := B5.cell 4
  have f4 := B5.frozen 4
  have HG5 := Lib.hid hg5
  have HO5 := Lib.hid hown5
  clear hg5 hc5 hra B5 hown5 hb5 k4'
  go_wp2_with fail
  go_ret
  obtain ⟨q1, q2⟩ := put_close HA1.out HB2.out HV.out hm2 HK.out hm3 HC3.out HP2.out HP3.out hp4 HO5.out HG5.out HBZ.out (put_nums HA1.out.nums (by rw [H4.out]; exact D.act_same.2.2.2.1.symm) (act_len HF.out H.out.nums)) HV5.out
  exact ⟨rfl, q1, (HC1.out.mono (fun k _ h => .inl h)).trans q2 (fun k _ h => h)⟩
end

end Go.Proofs.YtmmkncocgjgapaaDoor.Dev

/- The walk of Sync of a device. -/
namespace Go.Proofs.YtmmkncocgjgapaaDoor.Dev
open Go.RowKit

/-- Writes laid over blocks, in their order. -/
def over (f : Int → Option (List Value)) (l : List (Int × List Value)) : Int → Option (List Value) := l.foldl (fun f p => upd f p.1 p.2) f
theorem over_snoc (f : Int → Option (List Value)) (l : List (Int × List Value)) (p : Int × List Value) : over f (l ++ [p]) = upd (over f l) p.1 p.2 := by
  unfold over
  rw [List.foldl_append]
  rfl
def Dv.synced (D : Dv) (k : Nat) : Dv := { D with lasts := over D.lasts (D.pend.take k) }
def Dv.sync (D : Dv) : Dv := { D with lasts := over D.lasts D.pend, pend := [] }

theorem over_fit {D : Dv} (h : Fit D) : ∀ (l : List (Int × List Value)), (∀ p ∈ l, p ∈ D.pend) → ∀ f : Int → Option (List Value), (∀ k ws, f k = some ws → ws.length = D.size) → ∀ k ws, over f l k = some ws → ws.length = D.size := by
  intro l
  induction l with
  | nil => intro _ f hf k ws hk; exact hf k ws hk
  | cons p l ih =>
    intro hl f hf k ws hk
    refine ih (fun q hq => hl q (by simp [hq])) (upd f p.1 p.2) (fun j xs hj => ?_) k ws hk
    unfold upd at hj
    split at hj
    · cases hj; exact h.pend p (hl p (by simp))
    · exact hf j xs hj
theorem synced_nums {D : Dv} (h : Nums D) (k : Nat) : Nums (D.synced k) :=
  ⟨h.fuse, h.fault, h.acts, ⟨h.fit.size, h.fit.blocks, h.fit.now, over_fit h.fit _ (fun p hp => List.mem_of_mem_take hp) _ h.fit.lasts, h.fit.pend, h.fit.len⟩⟩
theorem sync_nums {D : Dv} (h : Nums D) : Nums D.sync :=
  ⟨h.fuse, h.fault, h.acts, ⟨h.fit.size, h.fit.blocks, h.fit.now, over_fit h.fit _ (fun p hp => hp) _ h.fit.lasts, (fun p hp => by simp [Dv.sync] at hp), Nat.zero_le _⟩⟩

section
variable {w : World} {a rl rn : Nat} {O : Nat → Prop} {pv : Value} {D : Dv}

set_option maxRecDepth 100000 in
theorem sync_down (h : Box w a D rl rn pv) (hd : D.down = true) :
    Calls Tryd.prog 32 #[.pointer (some ⟨a, 0, none⟩)] w fun e w' => e = .returned (.int .i64 8) ∧ w = w' := by
  have HD := down_any h
  rw [hd] at HD
  have HD2 := Lib.hid HD
  clear HD hd
  go_enter Tryd.func32, Tryd.ntmps32
  go_wp2_with fail
  refine HD2.out.mono ?_
  rintro e w1 ⟨rfl, rfl⟩
  go_wp2_with fail
  go_ret
  exact ⟨rfl, rfl⟩

set_option maxRecDepth 100000 in
theorem sync_failed (h : Box w a D rl rn pv) (hn : Nums D) (hd : D.down = false) (hf : D.act.1 ≠ 0) :
    Calls Tryd.prog 32 #[.pointer (some ⟨a, 0, none⟩)] w (Acted w a D rl rn pv) := by
  have HD := down_any h
  rw [hd] at HD
  have HD2 := Lib.hid HD
  have HA := Lib.hid (act_any h hn)
  have hne : (D.act.1 != 0) = true := by simpa using hf
  clear HD hd hf
  go_enter Tryd.func32, Tryd.ntmps32
  go_wp2_with fail
  refine HD2.out.mono ?_
  rintro e w1 ⟨rfl, rfl⟩
  go_wp2_with fail
  refine HA.out.mono ?_
  rintro e w1 ⟨rfl, h4, h5⟩
  go_wp2_with fail
  go_ret
  exact ⟨rfl, h4, h5⟩

theorem pend_form {w : World} {O : Nat → Prop} {pv : Value} {l : List (Int × List Value)} (h : Pend w O pv l) : ∃ p c, pv = .slice p l.length c := by
  obtain ⟨pr, h1, _⟩ := h
  rcases h1.2 with ⟨rfl, h0⟩ | ⟨g, cap, cur, rfl, _⟩
  · exact ⟨none, 0, by rw [h0]⟩
  · exact ⟨_, cap, rfl⟩

/-- The write number k, as it lies in the list. -/
theorem pend_at {w : World} {O : Nat → Prop} {p : Option Addr} {c : Nat} {l : List (Int × List Value)} (h : Pend w O (.slice p l.length c) l) (k : Nat) (hk : k < l.length) :
    ∃ g v, p = some ⟨g, 0, none⟩ ∧ w.cell? ⟨g, k * 2, none⟩ = some (.int .i64 l[k].1) ∧ w.cell? ⟨g, k * 2 + 1, none⟩ = some v ∧ HeldV w O v l[k].2 := by
  obtain ⟨pr, h1, h2, h3⟩ := h
  obtain ⟨g, cap, e, _⟩ := World.ownsRow.form h1 (by omega)
  cases e
  obtain ⟨q1, q2⟩ := pcells_get pr k (by omega)
  obtain ⟨h4, h5⟩ := h3 k (by omega) hk
  refine ⟨g, pr[k].2, rfl, ?_, ?_, h5⟩
  · rw [h1.cellAt (k * 2) (by omega), q1, h4]
  · rw [h1.cellAt (k * 2 + 1) (by omega), q2]

def SyncLoop (w1 : World) (O : Nat → Prop) (a rl rn : Nat) (pv : Value) (D : Dv) (iv : Value) (wr : World) : Prop :=
  ∃ k : Nat, iv = .int .i64 (k : Int) ∧ k ≤ D.pend.length ∧ At wr O a rl rn pv (D.synced k) ∧ Chg (fun q => q = rl) w1 wr

theorem chg_drew {S : Nat → Prop} {w w' : World} (h : Chg S w.drew w') : Chg S w w' := ⟨h.os, h.tape, h.output, h.size, h.block⟩

theorem sync_close {W w3 : World} {k : Nat} {q : Int × List Value} {v : Value} {kv : List (Int × Value)} (A : At W O a rl rn pv (D.synced k)) (hk : ∀ j, OptHeld W O (look kv j) ((D.synced k).lasts j)) (hv : HeldV W O v q.2)
    (hm : IsMap (Value.int .i64) W rl kv) (hm3 : IsMap (Value.int .i64) w3 rl (put_ kv q.1 v)) (hc : Chg (fun k => k = rl) W w3) (hs : over D.lasts (D.pend.take (k + 1)) = upd (over D.lasts (D.pend.take k)) q.1 q.2) (hn : Nums D) : At w3 O a rl rn pv (D.synced (k + 1)) := by
  have hS : ∀ g cs, O g → Blk W g 35 cs → ¬ g = rl := fun g cs _ hg e => A.lasts.ne_blk hg e
  have hr : ∃ es c, W.heap[rl]? = some (.map es c) := by obtain ⟨es, c, h, _⟩ := hm; exact ⟨es, c, h⟩
  refine ⟨A.box.chg hc (A.lasts.ne_blk A.box), A.ne, ?_, A.now.chg hc (Ne.symm A.ne) hS, A.pend.chg hc (fun g hg => (A.pend_ne hg).2.1) hS, ?_, A.pout⟩
  · show DMap w3 O rl (over D.lasts (D.pend.take (k + 1)))
    rw [hs]
    exact DMap.put hk q.1 v q.2 hv hm3 hc hr
  · exact synced_nums hn _

theorem sync_end {w1 w' : World} (A : At w' O a rl rn pv (D.synced D.pend.length)) (hn : Nums D) (hc : Chg (fun k => k = rl) w1 w') :
    At (w'.setCell ⟨a, 4, none⟩ (.slice none 0 0)) O a rl rn (.slice none 0 0) D.sync ∧ Chg (Foot a rl rn pv) w1 (w'.setCell ⟨a, 4, none⟩ (.slice none 0 0)) := by
  have hc6 : Chg (fun k => k = a) w' (w'.setCell ⟨a, 4, none⟩ (.slice none 0 0)) := (Chg.refl _ w').setCell _ _ (fun _ => rfl)
  have hS : ∀ g cs, O g → Blk w' g 35 cs → ¬ g = a := fun g cs _ hg e => hg.ne_ A.box (by decide) e
  refine ⟨⟨A.box.set_ 4 (.slice none 0 0), A.ne, ?_, A.now.chg hc6 (Ne.symm (A.now.ne_blk A.box)) hS, Pend.nil _ _, sync_nums hn, fun g hg => by simp [Value.ownBlock] at hg⟩, (hc.mono (fun _ _ h => .inr (.inl h))).trans hc6 (fun _ _ h => .inl h)⟩
  have h2 : D.sync.lasts = (D.synced D.pend.length).lasts := by unfold Dv.sync Dv.synced; rw [List.take_length]
  rw [h2]
  exact A.lasts.chg hc6 (Ne.symm (A.lasts.ne_blk A.box)) hS

def Synced (w : World) (O : Nat → Prop) (a rl rn : Nat) (pv : Value) (D : Dv) (e : Ending) (w' : World) : Prop :=
  e = .returned (.int .i64 0) ∧ At w' O a rl rn (.slice none 0 0) D ∧ Chg (Foot a rl rn pv) w w'

set_option maxRecDepth 100000 in
set_option maxHeartbeats 400000 in
theorem sync_done (h : At w O a rl rn pv D) (hd : D.down = false) (hf : D.act.1 = 0) (hac : D.acts + 1 < 1099511627776) :
    Calls Tryd.prog 32 #[.pointer (some ⟨a, 0, none⟩)] w (Synced w O a rl rn pv D.act.2.sync) := by
  have HD := down_any h.box
  rw [hd] at HD
  have HD2 := Lib.hid HD
  have HA := Lib.hid (act_any h.box h.nums)
  have hne : (D.act.1 != 0) = false := by simpa using hf
  have H := Lib.hid h
  clear HD hd hf h
  go_enter Tryd.func32, Tryd.ntmps32
  go_wp2_with fail
  refine HD2.out.mono ?_
  rintro e w1 ⟨rfl, rfl⟩
  go_wp2_with fail
  refine HA.out.mono ?_
  rintro e w1 ⟨rfl, hbx, hc1⟩
  have A1 := H.out.acted hc1 hbx (by omega)
  obtain ⟨p, c, rfl⟩ := pend_form A1.pend
  have k4 : w1.cell? ⟨a, 4, none⟩ = some (.slice p D.act.2.pend.length c) := A1.box.cell 4
  have hlen : D.act.2.pend.length ≤ D.acts + 1 := by have := A1.nums.fit.len; have := D.act_same.2.2.2.2.2; omega
  have HC1 := Lib.hid hc1
  clear hc1 hbx HA HD2
  generalize D.act.2 = E at *
  go_wp2_with fail
  go_loopw [18] (fun iv wr => SyncLoop w1 O a rl rn (.slice p E.pend.length c) E iv wr) (fun iv _ => E.pend.length - (intOf iv).toNat)
  case atStart => exact ⟨0, rfl, by omega, A1, Chg.refl _ _⟩
  case round =>
    obtain ⟨k, rfl, hk, Ak, hck⟩ := hrel
    clear k4
    by_cases hlt : (k : Int) < E.pend.length
    · have hkl : k < E.pend.length := by omega
      obtain ⟨g, v, rfl, d1, d2, hv⟩ := pend_at Ak.pend k hkl
      have hsn := over_snoc E.lasts (E.pend.take k) E.pend[k]
      rw [← List.take_succ_eq_append_getElem hkl] at hsn
      have hvl : ∃ va vc, v = .slice va E.pend[k].2.length vc := by
        rcases hv.1.2 with ⟨rfl, h0⟩ | ⟨g', cap, cur, rfl, _⟩
        · exact ⟨none, 0, by rw [h0]⟩
        · exact ⟨_, cap, rfl⟩
      have k2 : wr.cell? ⟨a, 2, none⟩ = some (.map (some rl)) := Ak.box.cell 2
      have hA := Lib.hid Ak
      have HSN := Lib.hid hsn
      have HV := Lib.hid hv
      have HCK := Lib.hid hck
      obtain ⟨va, vc, rfl⟩ := hvl
      obtain ⟨kv, hm, hkv⟩ := Ak.lasts
      have HKV := Lib.hid hkv
      have hAl := Ak.box.lt
      clear hsn hv hkv Ak hck
      go_wp2_with fail
      have hcW : Chg (fun q => q = rl) w1 (wr.alloc (.cells #[.int .i64 E.pend[k].1, .slice va E.pend[k].2.length vc] 77)) := HCK.out.alloc _
      have bW : Below wr.heap.size wr (wr.alloc (.cells #[.int .i64 E.pend[k].1, .slice va E.pend[k].2.length vc] 77)) := (Below.refl _ _).alloc (Nat.le_refl _) _
      have BW := Blk.new wr 77 #[.int .i64 E.pend[k].1, .slice va E.pend[k].2.length vc]
      have m0 := BW.cell 0
      have m1 := BW.cell 1
      have AW := hA.out.below bW
      have m2 := AW.box.cell 2
      have hmW := hm.alloc (.cells #[.int .i64 E.pend[k].1, .slice va E.pend[k].2.length vc] 77)
      have hkW : ∀ j, OptHeld (wr.alloc (.cells #[.int .i64 E.pend[k].1, .slice va E.pend[k].2.length vc] 77)) O (look kv j) ((E.synced k).lasts j) := fun j => (HKV.out j).chg (Chg.of_below' (S := fun _ => False) bW) (fun _ _ _ _ h => h)
      have hvW := HV.out.chg (Chg.of_below' (S := fun _ => False) bW) (fun _ _ _ _ h => h)
      simp only [dcells] at m2
      generalize wr.alloc (.cells #[.int .i64 E.pend[k].1, .slice va E.pend[k].2.length vc] 77) = W at *
      have HAW := Lib.hid AW
      have HKW := Lib.hid hkW
      have HVW := Lib.hid hvW
      have HCW := Lib.hid hcW
      clear AW hkW hvW hcW bW BW hm HKV HV k2 d1 d2 hA HCK
      go_still_tail 8, (by kernel_rfl)
      change wpList _ _ _ _ _ W.drew
      have hm2 := hmW.drew
      go_wp2_with (at_mapUpdate; go_must (refine wpList_put rfl _ _ _ _ rfl (mk := Value.int .i64) Tryd.underlying60 (plain_int Tryd.underlying3) rl kv rfl hm2 E.pend[k].1 rfl _ rfl (finds_int Tryd.underlying3 _ _) ?_))
      intro w3 hm3 hc3
      have hc4 := chg_drew hc3
      have A3 := sync_close HAW.out HKW.out HVW.out hmW hm3 hc4 HSN.out A1.nums
      have hc5 := HCW.out.trans hc4 (fun _ _ h => h)
      have HA3 := Lib.hid A3
      have HC5 := Lib.hid hc5
      clear A1 A3 hc5 hc4 hc3 hm3 hm2 hmW m0 m1 m2
      go_wp2_with fail
      go_roundw
      case rel => exact ⟨k + 1, by go_num, by omega, HA3.out, HC5.out⟩
      case measure => simp [intOf]; omega
    · obtain rfl : k = E.pend.length := by omega
      have z4 := Ak.box.frozen 4
      have k5 : wr.cell? ⟨a, 4, none⟩ = some (.slice p E.pend.length c) := Ak.box.cell 4
      have HAK := Lib.hid Ak
      have HN := Lib.hid A1.nums
      clear Ak A1
      go_wp2_with fail
      go_ret
      obtain ⟨q1, q2⟩ := sync_end HAK.out HN.out hck
      exact ⟨rfl, q1, (HC1.out.mono (fun _ _ h => .inl h)).trans q2 (fun _ _ h => h)⟩
end

end Go.Proofs.YtmmkncocgjgapaaDoor.Dev

/- Read, Write and Sync of a device in one word each, whatever fuse, fault or power say. -/
namespace Go.Proofs.YtmmkncocgjgapaaDoor.Dev
open Go.RowKit

/-- Read, Write, Sync: the error, and the device behind it. -/
def Dv.rd (D : Dv) (i : Int) : Int × Dv := if D.bars i D.size = 0 then D.act else (D.bars i D.size, D)
def Dv.wr (D : Dv) (i : Int) (ws : List Value) : Int × Dv := if D.bars i ws.length = 0 then (if D.act.1 = 0 then (0, D.act.2.put i ws) else D.act) else (D.bars i ws.length, D)
def Dv.sy (D : Dv) : Int × Dv := if D.down = true then (8, D) else if D.act.1 = 0 then (0, D.act.2.sync) else D.act

theorem act_er (D : Dv) : D.act.1 = 0 ∨ D.act.1 = 6 ∨ D.act.1 = 8 := by
  unfold Dv.act
  split
  · exact .inr (.inr rfl)
  · split
    · exact .inr (.inl rfl)
    · exact .inl rfl
theorem bars_er (D : Dv) (i : Int) (n : Nat) : D.bars i n = 0 ∨ D.bars i n = 1 ∨ D.bars i n = 8 := by
  unfold Dv.bars
  split
  · exact .inr (.inr rfl)
  · split
    · exact .inr (.inl rfl)
    · exact .inl rfl
/-- What an act leaves as it is. -/
structure Kin (D E : Dv) : Prop where
  size : E.size = D.size
  blocks : E.blocks = D.blocks
  acts : E.acts ≤ D.acts + 1
theorem act_kin (D : Dv) : Kin D D.act.2 := by
  obtain ⟨_, _, _, h1, h2, h3⟩ := D.act_same
  exact ⟨h1, h2, h3⟩
theorem rd_kin (D : Dv) (i : Int) : Kin D (D.rd i).2 := by
  unfold Dv.rd
  split
  · exact act_kin D
  · exact ⟨rfl, rfl, Nat.le_succ _⟩
theorem wr_kin (D : Dv) (i : Int) (ws : List Value) : Kin D (D.wr i ws).2 := by
  unfold Dv.wr
  split
  · split
    · exact ⟨(act_kin D).1, (act_kin D).2, (act_kin D).3⟩
    · exact act_kin D
  · exact ⟨rfl, rfl, Nat.le_succ _⟩
theorem rd_now (D : Dv) (i : Int) : (D.rd i).2.now = D.now := by
  unfold Dv.rd
  split
  · exact D.act_same.2.1
  · rfl
theorem wr_ok {D : Dv} {i : Int} {ws : List Value} (h : (D.wr i ws).1 = 0) : D.bars i ws.length = 0 ∧ D.act.1 = 0 ∧ (D.wr i ws).2 = D.act.2.put i ws := by
  unfold Dv.wr at h ⊢
  split at h
  · rename_i hb
    rw [if_pos hb]
    split at h
    · rename_i ha
      rw [if_pos ha]
      exact ⟨hb, ha, rfl⟩
    · rename_i ha
      exact absurd h ha
  · rename_i hb
    exact absurd h hb
theorem wr_now (D : Dv) (i : Int) (ws : List Value) : (D.wr i ws).2.now = if (D.wr i ws).1 = 0 then upd D.now i ws else D.now := by
  split
  · rename_i h
    rw [(wr_ok h).2.2]
    unfold Dv.put
    simp only
    rw [D.act_same.2.1]
  · rename_i h
    unfold Dv.wr at h ⊢
    split
    · rename_i hb
      rw [if_pos hb] at h
      split
      · rename_i ha
        rw [if_pos ha] at h
        exact absurd rfl h
      · exact D.act_same.2.1
    · rfl

section
variable {w : World} {a rl rn : Nat} {O : Nat → Prop} {pv : Value} {D : Dv}

def RdOk (w : World) (O : Nat → Prop) (a rl rn : Nat) (pv : Value) (D : Dv) (i : Int) (e : Ending) (w' : World) : Prop :=
  ∃ g c, e = .returned (.tuple #[.slice (some ⟨g, 0, none⟩) D.size c, .int .i64 0]) ∧ w'.ownsRow w.heap.size 35 1 (.slice (some ⟨g, 0, none⟩) D.size c) D.size (D.words i) ∧ w.heap.size ≤ g ∧
    At w' O a rl rn pv (D.rd i).2 ∧ Chg (fun k => k = a) w w'
def RdErr (w : World) (O : Nat → Prop) (a rl rn : Nat) (pv : Value) (D : Dv) (i : Int) (e : Ending) (w' : World) : Prop :=
  e = .returned (.tuple #[.slice none 0 0, .int .i64 (D.rd i).1]) ∧ At w' O a rl rn pv (D.rd i).2 ∧ Chg (fun k => k = a) w w'

theorem rd_ok {i : Int} (h : At w O a rl rn pv D) (hr : (D.rd i).1 = 0) (hac : D.acts + 1 < 1099511627776) :
    Calls Tryd.prog 19 #[.pointer (some ⟨a, 0, none⟩), .int .i64 i] w (RdOk w O a rl rn pv D i) := by
  unfold RdOk
  unfold Dv.rd at hr ⊢
  split at hr
  · rename_i hb
    rw [if_pos hb]
    refine (read_got i h hb hr (by omega)).mono ?_
    rintro e w' ⟨g, c, rfl, ho, hg, hbx, hc⟩
    exact ⟨g, c, rfl, ho, hg, h.acted hc hbx (by omega), hc⟩
  · rename_i hb
    exact absurd hr hb
theorem rd_err {i : Int} (h : At w O a rl rn pv D) (hr : (D.rd i).1 ≠ 0) (hac : D.acts + 1 < 1099511627776) :
    Calls Tryd.prog 19 #[.pointer (some ⟨a, 0, none⟩), .int .i64 i] w (RdErr w O a rl rn pv D i) := by
  unfold RdErr
  unfold Dv.rd at hr ⊢
  split at hr
  · rename_i hb
    rw [if_pos hb]
    refine (read_failed i h.box h.nums hb hr).mono ?_
    rintro e w' ⟨rfl, hbx, hc⟩
    exact ⟨rfl, h.acted hc hbx (by omega), hc⟩
  · rename_i hb
    rw [if_neg hb]
    refine (read_barred i h.box hb).mono ?_
    rintro e w' ⟨rfl, rfl⟩
    exact ⟨rfl, h, Chg.refl _ _⟩

def WrTold (w : World) (O : Nat → Prop) (a rl rn : Nat) (pv : Value) (D : Dv) (i : Int) (ws : List Value) (e : Ending) (w' : World) : Prop :=
  e = .returned (.int .i64 (D.wr i ws).1) ∧ (∃ pv', At w' O a rl rn pv' (D.wr i ws).2) ∧ Chg (Foot a rl rn pv) w w'
theorem wr_any {i : Int} {l : Option Addr} {n c : Nat} {ws : List Value} (h : At w O a rl rn pv D) (hn : ws.length = n) (hac : D.acts + 1 < 1099511627776) (hr : Row w l ws) (h1c : ∀ u ∈ ws, u.oneCell' = true) (hO : ∀ g, w.heap.size ≤ g → O g) (hla : ∀ x, l = some x → x.block ≠ a) (hn2 : n ≤ 9223372036854775807) :
    Calls Tryd.prog 18 #[.pointer (some ⟨a, 0, none⟩), .int .i64 i, .slice l n c] w (WrTold w O a rl rn pv D i ws) := by
  subst hn
  unfold WrTold Dv.wr
  by_cases hb : D.bars i ws.length = 0
  · rw [if_pos hb]
    by_cases ha : D.act.1 = 0
    · rw [if_pos ha]
      exact write_put i l c ws h hb ha hac hr h1c hO hla
    · rw [if_neg ha]
      refine (write_failed i l ws.length c h.box h.nums hb ha).mono ?_
      rintro e w' ⟨rfl, hbx, hc⟩
      exact ⟨rfl, ⟨pv, h.acted hc hbx (by omega)⟩, hc.mono (fun _ _ h => .inl h)⟩
  · rw [if_neg hb]
    refine (write_barred i l ws.length c h.box hn2 hb).mono ?_
    rintro e w' ⟨rfl, rfl⟩
    exact ⟨rfl, ⟨pv, h⟩, Chg.refl _ _⟩

def SyTold (w : World) (O : Nat → Prop) (a rl rn : Nat) (pv : Value) (D : Dv) (e : Ending) (w' : World) : Prop :=
  e = .returned (.int .i64 D.sy.1) ∧ (∃ pv', At w' O a rl rn pv' D.sy.2) ∧ Chg (Foot a rl rn pv) w w'
theorem sy_any (h : At w O a rl rn pv D) (hac : D.acts + 1 < 1099511627776) :
    Calls Tryd.prog 32 #[.pointer (some ⟨a, 0, none⟩)] w (SyTold w O a rl rn pv D) := by
  unfold SyTold Dv.sy
  by_cases hd : D.down = true
  · rw [if_pos hd]
    refine (sync_down h.box hd).mono ?_
    rintro e w' ⟨rfl, rfl⟩
    exact ⟨rfl, ⟨pv, h⟩, Chg.refl _ _⟩
  · rw [if_neg hd]
    have hd' : D.down = false := by simpa using hd
    by_cases ha : D.act.1 = 0
    · rw [if_pos ha]
      refine (sync_done h hd' ha hac).mono ?_
      rintro e w' ⟨rfl, hA, hc⟩
      exact ⟨rfl, ⟨_, hA⟩, hc⟩
    · rw [if_neg ha]
      refine (sync_failed h.box h.nums hd' ha).mono ?_
      rintro e w' ⟨rfl, hbx, hc⟩
      exact ⟨rfl, ⟨pv, h.acted hc hbx (by omega)⟩, hc.mono (fun _ _ h => .inl h)⟩
end

end Go.Proofs.YtmmkncocgjgapaaDoor.Dev

/- The walk of slices.Clone at []uint64: the same words in memory of the call's own. -/
namespace Go.Proofs.YtmmkncocgjgapaaDoor
open Go.RowKit Crc


@[go_sem] theorem nil_u64 (w : World) (a : Option Addr) (n c : Nat) : (binOp .eql 40 (.slice a n c) (.slice none 0 0)).run Tryd.prog w = .ok (.bool a.isNone) w :=
  Lib.run_eql_slice_nil (P := Tryd.prog) w 40 35 a n c 0 0 Tryd.underlying40

set_option maxRecDepth 100000 in
set_option maxHeartbeats 400000 in
theorem clone_u64 (a : Option Addr) (n c : Nat) (xs : List Value) (w : World) (hr : Row w a xs) (hn : xs.length = n) (h1 : ∀ u ∈ xs, u.oneCell' = true) (hm : n ≤ 1099511627776) (h0 : a = none → n = 0 ∧ c = 0) :
    Calls Tryd.prog 36 #[.slice a n c] w (RetOwn w.heap.size 35 1 n xs w) := by
  cases a with
  | none =>
    obtain ⟨rfl, rfl⟩ := h0 rfl
    obtain rfl := List.eq_nil_of_length_eq_zero hn
    go_enter Tryd.func36, Tryd.ntmps36
    go_wp2_with fail
    go_ret
    exact ⟨_, rfl, World.ownsRow_nil _ _ _ _, Below.refl _ _⟩
  | some ad =>
    go_enter Tryd.func36, Tryd.ntmps36
    go_wp2_with (at_builtin; go_must (refine wpList_append rfl (.tmp 5) (.tmp 6) _ rfl el_u64 w.heap.size _ 0 [] rfl (World.ownsRow_made w #[] 0 (Nat.le_refl _) (by decide) rfl) (some ad) n c xs rfl (by omega) (hr.below ((Below.refl _ _).alloc (Nat.le_refl _) _)) h1 (by unfold maxLen; omega) (by omega) (by simp) ?_))
    intro v w1 hown _ _ hb
    go_wp2_with fail
    go_ret
    exact ⟨_, rfl, hown, ((Below.refl _ _).alloc (Nat.le_refl _) _).trans hb⟩

end Go.Proofs.YtmmkncocgjgapaaDoor

/- The last word of a sealed block, and what is right. -/
namespace Go.Proofs.YtmmkncocgjgapaaDoor.Crc
open Go.RowKit

/-- The last word: n payload words, the words ahead of it, the address. -/
def lastW (l : List (BitVec 64)) (n x : BitVec 64) : BitVec 64 := ((n + 1#64) <<< 32) ||| (next (next (sum l) (n + 1#64)) x).setWidth 64

set_option maxRecDepth 100000 in
theorem right_any (size address : Int) (w : World) :
    Calls Tryd.prog 45 #[.int .i64 size, .int .i64 address] w fun e w' => e = .returned (.bool (decide (8 ≤ size ∧ size ≤ 256 ∧ 0 ≤ address))) ∧ w = w' := by
  by_cases h1 : 8 ≤ size
  all_goals (by_cases h2 : size ≤ 256)
  all_goals (by_cases h3 : 0 ≤ address)
  all_goals
    go_enter Tryd.func45, Tryd.ntmps45
    go_wp2_with fail
    go_ret
    simp [h1, h2, h3]

theorem I64_ofNat {x : Nat} (h : x < 18446744073709551616) : I64 (BitVec.ofNat 64 x) = (x : Int) := by
  show ((BitVec.ofNat 64 x).toNat : Int) = _
  rw [BitVec.toNat_ofNat, Nat.mod_eq_of_lt (by omega)]
theorem I64_succ {x : Nat} (h : x + 1 < 18446744073709551616) : I64 (BitVec.ofNat 64 x + 1#64) = (x : Int) + 1 := by
  have : BitVec.ofNat 64 x + 1#64 = BitVec.ofNat 64 (x + 1) := by
    apply BitVec.eq_of_toNat_eq
    simp
  rw [this, I64_ofNat h]
  omega

theorem bits64 (op : BitVec 64 → BitVec 64 → BitVec 64) (a b : Int) (s t : BitVec 64) (ha : a = I64 s) (hb : b = I64 t) :
    IntKind.u64.wrap (op (BitVec.ofInt 64 a) (BitVec.ofInt 64 b)).toNat = I64 (op s t) := by
  subst ha; subst hb
  have := (op s t).isLt
  rw [IntKind.wrap_u64]
  unfold I64
  rw [BitVec.ofInt_natCast, BitVec.ofInt_natCast, BitVec.ofNat_toNat, BitVec.ofNat_toNat, BitVec.setWidth_eq, BitVec.setWidth_eq]
  omega

theorem u64_wrap_id {x : Int} (h : 0 ≤ x) (h2 : x < 18446744073709551616) : IntKind.u64.wrap x = x := by
  rw [show IntKind.u64.wrap x = x % 18446744073709551616 from rfl]
  omega
theorem or_word (n : Nat) (s : BitVec 32) (hn : n < 1000000) : bits BinOp.or IntKind.u64 (((n : Int) + 1) * 4294967296) (IntKind.u64.wrap (I32 s)) = I64 (((BitVec.ofNat 64 n + 1#64) <<< 32) ||| s.setWidth 64) := by
  refine bits64 (· ||| ·) _ _ _ _ ?_ ?_
  · have h : BitVec.ofNat 64 n + 1#64 = BitVec.ofNat 64 (n + 1) := by
      apply BitVec.eq_of_toNat_eq
      simp
    rw [h]
    unfold I64
    rw [BitVec.toNat_shiftLeft, BitVec.toNat_ofNat, Nat.shiftLeft_eq, Nat.mod_eq_of_lt (a := n + 1) (by omega), Nat.mod_eq_of_lt (by omega)]
    omega
  · have hs := s.isLt
    rw [u64_wrap_id (by unfold I32; omega) (by unfold I32; omega)]
    unfold I32 I64
    rw [BitVec.toNat_setWidth, Nat.mod_eq_of_lt (by omega)]

set_option maxRecDepth 100000 in
theorem last_any (l : List (BitVec 64)) (z : BitVec 64) (n x : Nat) (a : Option Addr) (c : Nat) (w : World) (hr : Row w a (words (l ++ [z]))) (hcap : l.length + 1 ≤ c) (hl : l.length < 1000000) (hn : n < 1000000) (hx : x < 9223372036854775808) :
    Calls Tryd.prog 46 #[.slice a (l.length + 1) c, .int .i64 (n : Int), .int .i64 (x : Int)] w fun e w' => e = .returned (.int .u64 (I64 (lastW l (BitVec.ofNat 64 n) (BitVec.ofNat 64 x)))) ∧ w = w' := by
  have e1 : (l.length : Int) ≤ c := by omega
  have e2 : IntKind.i64.wrap ((l.length : Int) + 1 - 1) = (l.length : Int) := by rw [IntKind.wrap_i64]; omega
  have e3 : IntKind.i64.wrap ((n : Int) + 1) = (n : Int) + 1 := by rw [IntKind.wrap_i64]; omega
  have hr2 : Row w a (words l) := by
    have := hr.take l.length
    simpa [words, List.take_append] using this
  have hn1 : I64 (BitVec.ofNat 64 n + 1#64) = (n : Int) + 1 := I64_succ (by omega)
  have hx1 : I64 (BitVec.ofNat 64 x) = (x : Int) := I64_ofNat (by omega)
  have HN := next_any (sum l) (BitVec.ofNat 64 n + 1#64) w
  rw [hn1] at HN
  have HX := next_any (next (sum l) (BitVec.ofNat 64 n + 1#64)) (BitVec.ofNat 64 x) w
  rw [hx1] at HX
  clear hn1 hx1
  go_enter Tryd.func46, Tryd.ntmps46
  go_wp2_with fail
  refine (sum_at l a _ _ _ rfl hr2 (by omega)).mono ?_
  rintro e w1 ⟨rfl, rfl⟩
  go_wp2_with fail
  refine HN.mono ?_
  rintro e w1 ⟨rfl, rfl⟩
  go_wp2_with fail
  refine HX.mono ?_
  rintro e w1 ⟨rfl, rfl⟩
  go_wp2_with fail
  go_ret
  refine ⟨?_, rfl⟩
  show Ending.returned (.int .u64 (bits BinOp.or IntKind.u64 (((n : Int) + 1) * 4294967296) (IntKind.u64.wrap (I32 (next (next (sum l) (BitVec.ofNat 64 n + 1#64)) (BitVec.ofNat 64 x)))))) = _
  rw [or_word n _ hn]
  rfl

end Go.Proofs.YtmmkncocgjgapaaDoor.Crc

/- The walk of seal.Put: the sealed block lies in memory of the call's own, or the call refuses. -/
namespace Go.Proofs.YtmmkncocgjgapaaDoor.Crc
open Go.RowKit

/-- The words ahead of the last one: the payload, zeros, the tag. -/
def bodyW (p : List (BitVec 64)) (size : Nat) (tag : BitVec 64) : List (BitVec 64) := p ++ List.replicate (size - 2 - p.length) 0#64 ++ [tag]
theorem bodyW_length {p : List (BitVec 64)} {size : Nat} {tag : BitVec 64} (h : p.length + 2 ≤ size) : (bodyW p size tag).length + 1 = size := by
  simp [bodyW]; omega
/-- A sealed block. -/
def sealW (p : List (BitVec 64)) (size : Nat) (tag x : BitVec 64) : List (BitVec 64) :=
  bodyW p size tag ++ [lastW (bodyW p size tag) (BitVec.ofNat 64 p.length) x]
theorem sealW_length {p : List (BitVec 64)} {size : Nat} {tag x : BitVec 64} (h : p.length + 2 ≤ size) : (sealW p size tag x).length = size := by
  have := bodyW_length (tag := tag) h
  simp [sealW]; omega

def zeroCells (n : Nat) : List Value := List.replicate n (.int .u64 0)
theorem zeroCells_length (n : Nat) : (zeroCells n).length = n := by simp [zeroCells]

theorem put_cells (p : List (BitVec 64)) (size : Nat) (tag : BitVec 64) (h : p.length + 2 ≤ size) :
    (splice (zeroCells size) 0 (words p)).toArray.setIfInBounds (size - 2) (.int .u64 (I64 tag)) = (words (bodyW p size tag ++ [0#64])).toArray := by
  apply Array.toList_inj.1
  simp only [Array.toList_setIfInBounds]
  have h1 : splice (zeroCells size) 0 (words p) = words p ++ zeroCells (size - 2 - p.length) ++ [.int .u64 0] ++ [.int .u64 0] := by
    have e : size = p.length + ((size - 2 - p.length) + (1 + 1)) := by omega
    have hz : zeroCells size = zeroCells p.length ++ (zeroCells (size - 2 - p.length) ++ ([.int .u64 0] ++ [.int .u64 0])) := by
      unfold zeroCells
      conv => lhs; rw [e]
      rw [← List.replicate_append_replicate, ← List.replicate_append_replicate, ← List.replicate_append_replicate]
      rfl
    unfold splice
    rw [hz, words_length, List.take_zero, Nat.zero_add, List.drop_append_of_le_length (by rw [zeroCells_length]; omega), List.drop_of_length_le (by rw [zeroCells_length]; omega)]
    simp
  have h2 : (words p ++ zeroCells (size - 2 - p.length)).length = size - 2 := by
    rw [List.length_append, words_length, zeroCells_length]; omega
  rw [h1]
  have h3 : words (bodyW p size tag ++ [0#64]) = words p ++ zeroCells (size - 2 - p.length) ++ [.int .u64 (I64 tag)] ++ [.int .u64 0] := by
    simp only [bodyW, words, zeroCells, List.map_append, List.map_replicate, List.map_cons, List.map_nil]
    rfl
  rw [h3]
  generalize words p ++ zeroCells (size - 2 - p.length) = A at *
  rw [← h2]
  simp

theorem put_last (l : List (BitVec 64)) (size : Nat) (h : l.length + 1 = size) (y z : BitVec 64) :
    (words (l ++ [y])).toArray.setIfInBounds (size - 1) (.int .u64 (I64 z)) = (words (l ++ [z])).toArray := by
  apply Array.toList_inj.1
  subst h
  simp [words]

theorem last_at (l : List (BitVec 64)) (z : BitVec 64) (m n x : Nat) (a : Option Addr) (c : Nat) (w : World) (hr : Row w a (words (l ++ [z]))) (hm : l.length + 1 = m) (hcap : m ≤ c) (hl : m < 1000000) (hn : n < 1000000) (hx : x < 9223372036854775808) :
    Calls Tryd.prog 46 #[.slice a m c, .int .i64 (n : Int), .int .i64 (x : Int)] w fun e w' => e = .returned (.int .u64 (I64 (lastW l (BitVec.ofNat 64 n) (BitVec.ofNat 64 x)))) ∧ w = w' := by
  subst hm
  exact last_any l z n x a c w hr hcap (by omega) hn hx

set_option maxRecDepth 100000 in
theorem put_ok (p : List (BitVec 64)) (size x : Nat) (tag : BitVec 64) (a : Option Addr) (c : Nat) (w : World) (hr : Row w a (words p)) (h8 : 8 ≤ size) (h256 : size ≤ 256) (hp : p.length + 2 ≤ size) (hx : x < 9223372036854775808) :
    Calls Tryd.prog 31 #[.int .i64 (size : Int), .int .i64 (x : Int), .int .u64 (I64 tag), .slice a p.length c] w fun e w' =>
      e = .returned (.tuple #[.slice (some ⟨w.heap.size, 0, none⟩) size size, .int .i64 0]) ∧ Blk w' w.heap.size 35 (words (sealW p size tag (BitVec.ofNat 64 x))).toArray ∧ Below w.heap.size w w' := by
  have hR := right_any size x w
  rw [show decide (8 ≤ (size : Int) ∧ (size : Int) ≤ 256 ∧ 0 ≤ (x : Int)) = true from by simp; omega] at hR
  have HR := Lib.hid hR
  have hm := run_make_of (P := Tryd.prog) (t := 40) (e := 35) (bytes := 8) (z := .int .u64 0) Tryd.underlying40 (by kernel_rfl) rfl .i64 .i64 size (by omega) (by omega) w
  have hp2 : decide ((size : Int) - 2 < (p.length : Int)) = false := by simp; omega
  have hp3 : (0 : Int) ≤ (size : Int) - 2 := by omega
  clear hR
  go_enter Tryd.func31, Tryd.ntmps31
  go_wp2_with fail
  refine HR.out.mono ?_
  rintro e w1 ⟨rfl, rfl⟩
  have hcz : (zeroCells size).toArray = same size (.int .u64 0) := by
    apply Array.toList_inj.1
    rw [same_list]
    rfl
  have HB0 : (w.alloc (.cells (same size (.int .u64 0)) 35)).heap[w.heap.size]? = some (.cells (zeroCells size).toArray 35 (0, 0)) := by
    rw [hcz]; exact Blk.new w _ _
  have HBW := Lib.hid HB0
  clear HB0 hcz
  have hra := hr.below ((Below.refl w.heap.size w).alloc (Nat.le_refl _) (.cells (same size (.int .u64 0)) 35))
  go_wp2_with (with_reducible refine wpList_copy_splice (o := ⟨some 26, _, _, _, _, _⟩) ?h1 (.tmp 24) (.tmp 25) 40 40 ?h2 35 Tryd.underlying40 ?h3 (some ⟨w.heap.size, 0, none⟩) a size size p.length c ?h4 ?h5 w.heap.size 0 (zeroCells size) 35 HBW.out (words p) ?c1 ?c2 ?c3 (words_one p) w.heap.size w ?c4 (Nat.le_refl _) ?_)
  case h1 => rfl
  case h2 => rfl
  case h3 => kernel_rfl
  case h4 => rfl
  case h5 => rfl
  case c1 => rw [words_length]; exact (Nat.min_eq_left (by omega)).symm
  case c2 =>
    intro hpos
    obtain ⟨b, o, rfl, _⟩ := hra.at_ hpos
    refine ⟨_, rfl, fun j v hj => ?_⟩
    have hj2 := hj
    rw [List.getElem?_eq_some_iff] at hj2
    obtain ⟨hj2, rfl⟩ := hj2
    obtain ⟨b', o', e, hc, _⟩ := hra.at_ hj2
    cases e
    rw [add_none, hc]
  case c3 => rw [words_length, zeroCells_length]; omega
  case c4 => exact (Below.refl w.heap.size w).alloc (Nat.le_refl _) _
  intro w2 HG2 hb2
  have B2 : Blk w2 w.heap.size 35 (splice (zeroCells size) 0 (words p)).toArray := HG2.out
  have hcells := put_cells p size tag hp
  have hl2 : (splice (zeroCells size) 0 (words p)).toArray.size = size := by
    rw [List.size_toArray, length_splice _ _ _ (by rw [words_length, zeroCells_length]; omega), zeroCells_length]
  generalize (splice (zeroCells size) 0 (words p)).toArray = cs at *
  obtain ⟨v2, e2⟩ := B2.some_ (i := size - 2) (by omega)
  have f2 := B2.frozen (size - 2)
  have B3 := B2.set_ (size - 2) (.int .u64 (I64 tag))
  rw [hcells] at B3
  have hb3 := hb2.setCell (p := ⟨w.heap.size, size - 2, none⟩) (Nat.le_refl _) (.int .u64 (I64 tag))
  have HL := Lib.hid (bodyW_length (tag := tag) hp)
  have r3 := Row.of_blk B3
  have E3 := Lib.hid (put_last (bodyW p size tag) size HL.out 0#64 (lastW (bodyW p size tag) (BitVec.ofNat 64 p.length) (BitVec.ofNat 64 x)))
  clear hcells hl2
  clear HG2 hm hra hr HR
  go_wp2_with fail
  clear e2 f2
  generalize w2.setCell ⟨w.heap.size, size - 2, none⟩ (.int .u64 (I64 tag)) = w3 at *
  refine (last_at (bodyW p size tag) 0#64 size p.length x _ _ _ r3 HL.out (Nat.le_refl _) (by omega) (by omega) hx).mono ?_
  rintro e w4 ⟨rfl, rfl⟩
  obtain ⟨v3, e3⟩ := B3.some_ (i := size - 1) (by have := HL.out; simp [words]; omega)
  have f3 := B3.frozen (size - 1)
  have B4 := B3.set_ (size - 1) (.int .u64 (I64 (lastW (bodyW p size tag) (BitVec.ofNat 64 p.length) (BitVec.ofNat 64 x))))
  have hb4 := hb3.setCell (p := ⟨w.heap.size, size - 1, none⟩) (Nat.le_refl _) (.int .u64 (I64 (lastW (bodyW p size tag) (BitVec.ofNat 64 p.length) (BitVec.ofNat 64 x))))
  rw [E3.out] at B4
  clear B3 hb3 r3
  go_wp2_with fail
  go_ret2
  exact ⟨rfl, B4, hb4⟩

end Go.Proofs.YtmmkncocgjgapaaDoor.Crc

/- Two lists of words: the same? -/
namespace Go.Proofs.YtmmkncocgjgapaaDoor.Crc
open Go.RowKit

def Quiet (w w' : World) : Prop := ∃ d, w' = w.drewN d
theorem Quiet.refl (w : World) : Quiet w w := ⟨0, rfl⟩
theorem Quiet.drewN {w w' : World} (h : Quiet w w') (n : Nat) : Quiet w (w'.drewN n) := by
  obtain ⟨d, rfl⟩ := h
  exact ⟨d + n, by simp⟩

def sameW (l m : List (BitVec 64)) : Bool := decide (l = m)
def SameLoop (w : World) (n : Nat) (l m : List (BitVec 64)) (iv : Value) (wr : World) : Prop := ∃ k : Nat, iv = .int .i64 (k : Int) ∧ k ≤ n ∧ l.take k = m.take k ∧ Quiet w wr

theorem words_at {w : World} {a : Option Addr} {l : List (BitVec 64)} (h : Row w a (words l)) {k : Nat} (hk : k < l.length) : ∃ b o, a = some ⟨b, o, none⟩ ∧ w.cell? ⟨b, o + k, none⟩ = some (.int .u64 (I64 l[k])) := by
  obtain ⟨b, o, e, hc, _⟩ := h.at_ (i := k) (by simpa [words] using hk)
  refine ⟨b, o, e, ?_⟩
  rw [hc]
  simp [words]

theorem I64_inj {x y : BitVec 64} (h : I64 x = I64 y) : x = y := by
  apply BitVec.eq_of_toNat_eq
  unfold I64 at h
  omega

set_option maxRecDepth 100000 in
theorem same_any (l m : List (BitVec 64)) (a b : Option Addr) (ca cb : Nat) (w : World) (ha : Row w a (words l)) (hb : Row w b (words m)) (hl : l.length < 1000000) (hm : m.length < 1000000) :
    Calls Tryd.prog 20 #[.slice a l.length ca, .slice b m.length cb] w fun e w' => e = .returned (.bool (sameW l m)) ∧ Quiet w w' := by
  by_cases hlen : l.length = m.length
  · have hlen2 : (l.length : Int) = m.length := by omega
    go_enter Tryd.func20, Tryd.ntmps20
    go_wp2_with fail
    go_loopw [5] (fun iv wr => SameLoop w m.length l m iv wr) (fun iv _ => m.length - (intOf iv).toNat)
    case atStart => exact ⟨0, rfl, by omega, rfl, Quiet.refl _⟩
    case round =>
      obtain ⟨k, rfl, hk, htk, d, rfl⟩ := hrel
      by_cases hlt : (k : Int) < m.length
      · obtain ⟨b1, o1, rfl, hc1⟩ := words_at ha (k := k) (by omega)
        obtain ⟨b2, o2, rfl, hc2⟩ := words_at hb (k := k) (by omega)
        by_cases hx : l[k]'(by omega) = m[k]'(by omega)
        · have hxe : (I64 (l[k]'(by omega)) != I64 (m[k]'(by omega))) = false := by rw [hx]; simp
          generalize I64 (l[k]'(by omega)) = x at *
          generalize I64 (m[k]'(by omega)) = y at *
          have ht : l.take (k + 1) = m.take (k + 1) := by
            rw [List.take_add_one, List.take_add_one, htk, List.getElem?_eq_getElem (by omega), List.getElem?_eq_getElem (by omega), hx]
          have HT := Lib.hid ht
          clear ha hb ht htk hx
          go_wp2_with fail
          go_quiet (fail)
          go_wp2_with fail
          go_roundw
          case rel => exact ⟨k + 1, by go_num, by omega, HT.out, (Quiet.refl w).drewN _⟩
          case measure => simp [intOf]; omega
        · have hxe : (I64 (l[k]'(by omega)) != I64 (m[k]'(by omega))) = true := by rw [bne_iff_ne]; exact fun e => hx (I64_inj e)
          have hne : sameW l m = false := by unfold sameW; simp; rintro rfl; exact hx rfl
          have HNE := Lib.hid hne
          clear hne
          generalize I64 (l[k]'(by omega)) = x at *
          generalize I64 (m[k]'(by omega)) = y at *
          clear ha hb htk hx
          go_wp2_with fail
          go_quiet (fail)
          go_wp2_with fail
          go_ret
          exact ⟨congrArg (fun b => Ending.returned (.bool b)) HNE.out.symm, ((Quiet.refl w).drewN _).drewN _⟩
      · have heq : l = m := by
          rw [List.take_of_length_le (by omega), List.take_of_length_le (by omega)] at htk
          exact htk
        have heq2 : sameW l m = true := by unfold sameW; simp [heq]
        have HEQ := Lib.hid heq2
        clear heq heq2 htk
        go_wp2_with fail
        go_ret
        exact ⟨congrArg (fun b => Ending.returned (.bool b)) HEQ.out.symm, (Quiet.refl w).drewN _⟩
  · have hlen2 : ((l.length : Int) != m.length) = true := by rw [bne_iff_ne]; omega
    have hne : sameW l m = false := by unfold sameW; simp; rintro rfl; exact hlen rfl
    have HNE := Lib.hid hne
    clear hne
    go_enter Tryd.func20, Tryd.ntmps20
    go_wp2_with fail
    go_ret
    exact ⟨congrArg (fun b => Ending.returned (.bool b)) HNE.out.symm, Quiet.refl _⟩

end Go.Proofs.YtmmkncocgjgapaaDoor.Crc

/- The walks of seal.Put where it refuses, and of the reference's Put. -/
namespace Go.Proofs.YtmmkncocgjgapaaDoor.Crc
open Go.RowKit

/-- What Put asks. -/
def PutFits (size address : Int) (n : Nat) : Prop := 8 ≤ size ∧ size ≤ 256 ∧ 0 ≤ address ∧ (n : Int) + 2 ≤ size

set_option maxRecDepth 100000 in
theorem put_no (size address : Int) (tag : Int) (a : Option Addr) (n c : Nat) (w : World) (h : ¬ PutFits size address n) (hn : n ≤ 9223372036854775807) :
    Calls Tryd.prog 31 #[.int .i64 size, .int .i64 address, .int .u64 tag, .slice a n c] w fun e w' =>
      e = .returned (.tuple #[.slice none 0 0, .int .i64 1]) ∧ w = w' := by
  unfold PutFits at h
  by_cases hr : 8 ≤ size ∧ size ≤ 256 ∧ 0 ≤ address
  · have hR := right_any size address w
    rw [show decide (8 ≤ size ∧ size ≤ 256 ∧ 0 ≤ address) = true from by simpa using hr] at hR
    have HR := Lib.hid hR
    have h2 : size - 2 < (n : Int) := by omega
    obtain ⟨h8, h256, h0⟩ := hr
    clear hR h
    go_enter Tryd.func31, Tryd.ntmps31
    go_wp2_with fail
    refine HR.out.mono ?_
    rintro e w1 ⟨rfl, rfl⟩
    go_wp2_with fail
    go_ret2
    exact ⟨rfl, rfl⟩
  · have hR := right_any size address w
    rw [show decide (8 ≤ size ∧ size ≤ 256 ∧ 0 ≤ address) = false from by simpa using hr] at hR
    have HR := Lib.hid hR
    clear hR h hr
    go_enter Tryd.func31, Tryd.ntmps31
    go_wp2_with fail
    refine HR.out.mono ?_
    rintro e w1 ⟨rfl, rfl⟩
    go_wp2_with fail
    go_ret2
    exact ⟨rfl, rfl⟩

def lenV : Value → Nat
  | .slice _ n _ => n
  | _ => 0

/-- The reference's loop: zeros behind the payload. -/
def FillLoop (w : World) (p : List (BitVec 64)) (size : Nat) (v : Value) (wr : World) : Prop :=
  ∃ k, p.length + k + 2 ≤ size ∧ wr.ownsRow w.heap.size 35 1 v (p.length + k) (words (p ++ List.replicate k 0#64)) ∧ Below w.heap.size w wr

def RefPut (w : World) (size : Nat) (l : List (BitVec 64)) (e : Ending) (w' : World) : Prop :=
  ∃ v, e = .returned (.tuple #[v, .int .i64 0]) ∧ w'.ownsRow w.heap.size 35 1 v size (words l) ∧ Below w.heap.size w w'

theorem words_append (a b : List (BitVec 64)) : words (a ++ b) = words a ++ words b := by simp [words]

theorem add_word (n : Nat) (s : BitVec 32) (hn : n < 1000000) : ((n : Int) + 1) * 4294967296 + I32 s = I64 (((BitVec.ofNat 64 n + 1#64) <<< 32) ||| s.setWidth 64) := by
  have h : BitVec.ofNat 64 n + 1#64 = BitVec.ofNat 64 (n + 1) := by
    apply BitVec.eq_of_toNat_eq
    simp
  have hs := s.isLt
  rw [h]
  unfold I64 I32
  rw [BitVec.toNat_or, BitVec.toNat_shiftLeft, BitVec.toNat_ofNat, BitVec.toNat_setWidth, Nat.shiftLeft_eq, Nat.mod_eq_of_lt (a := n + 1) (by omega), Nat.mod_eq_of_lt (a := s.toNat) (by omega), Nat.mod_eq_of_lt (by omega)]
  have := Nat.two_pow_add_eq_or_of_lt (i := 32) (b := s.toNat) (by omega) (n + 1)
  rw [Nat.mul_comm, ← this]
  omega

end Go.Proofs.YtmmkncocgjgapaaDoor.Crc

/- The walk of the law SealPuts. -/
namespace Go.Proofs.YtmmkncocgjgapaaDoor.Crc
open Go.RowKit

theorem awake_last : lastW (bodyW [] 8 5#64) 0#64 0#64 = 5528736187#64 := by decide +kernel

theorem u64_of {x : Int} (h : (Lit.int .u64 x).wf = true) : ∃ b : BitVec 64, x = I64 b := ⟨BitVec.ofInt 64 x, (I64_ofInt h).symm⟩

theorem below_d {B : Nat} {w w' : World} (h : Below B w w') (n : Nat) : Below B w (w'.drewN n) := h.trans ⟨rfl, rfl, rfl, Nat.le_refl _, fun _ _ => rfl⟩

end Go.Proofs.YtmmkncocgjgapaaDoor.Crc

/- The walk of seal.Get: a block is opened as what it is, or refused. -/
namespace Go.Proofs.YtmmkncocgjgapaaDoor.Crc
open Go.RowKit

theorem nonzero_any (x : BitVec 64) (w : World) :
    Calls Tryd.prog 57 #[.int .u64 (I64 x)] w fun e w' => e = .returned (.bool (I64 x != 0)) ∧ w = w' := by
  go_enter Tryd.func57, Tryd.ntmps57
  go_wp2_with fail
  go_ret
  exact ⟨rfl, rfl⟩

def zeroW (l : List (BitVec 64)) : Bool := l.all (· == 0#64)
theorem I64_zero (x : BitVec 64) : I64 x = 0 ↔ x = 0#64 := by
  constructor
  · intro h
    exact I64_inj h
  · rintro rfl
    rfl
theorem zeroW_succ (l : List (BitVec 64)) (k : Nat) (h : k < l.length) : zeroW (l.take (k + 1)) = (zeroW (l.take k) && (l[k] == 0#64)) := by
  unfold zeroW
  rw [List.take_succ_eq_append_getElem h, List.all_append]
  simp
theorem zeroW_at (l : List (BitVec 64)) (k : Nat) (h : k < l.length) : l[k] ≠ 0#64 → zeroW l = false := by
  intro hx
  unfold zeroW
  rw [List.all_eq_false]
  exact ⟨_, List.getElem_mem h, by simpa using hx⟩
def FindLoop (n : Nat) (l : List (BitVec 64)) (iv : Value) : Prop := ∃ k : Nat, iv = .int .i64 (k : Int) ∧ k ≤ n ∧ zeroW (l.take k) = true

/-- The index of the first word that is not zero. -/
def FirstOne (l : List (BitVec 64)) (w : World) (e : Ending) (w' : World) : Prop :=
  ∃ i : Int, e = .returned (.int .i64 i) ∧ (zeroW l = true → i = -1) ∧ (zeroW l = false → 0 ≤ i) ∧ w = w'

set_option maxRecDepth 100000 in
theorem index_any (l : List (BitVec 64)) (a : Option Addr) (n c : Nat) (w : World) (hr : Row w a (words l)) (hn : l.length = n) (hl : n < 1000000) :
    Calls Tryd.prog 61 #[.slice a n c, .func (.func 57) #[] #[]] w (FirstOne l w) := by
  subst hn
  go_enter Tryd.func61, Tryd.ntmps61
  go_wp2_with fail
  go_loop [8] (fun iv => FindLoop l.length l iv) (fun iv => l.length - (intOf iv).toNat)
  case atStart => exact ⟨0, rfl, by omega, rfl⟩
  case round =>
    obtain ⟨k, rfl, hk, hz⟩ := hrel
    by_cases hlt : (k : Int) < l.length
    · have hkl : k < l.length := by omega
      obtain ⟨b, o, rfl, hc⟩ := words_at hr hkl
      have ht := zeroW_succ l k hkl
      have hnz := zeroW_at l k hkl
      generalize l[k] = x at *
      have HT := Lib.hid ht
      have HNZ := Lib.hid hnz
      have HZ := Lib.hid hz
      clear ht hnz hz hr
      by_cases hx : x = 0#64
      · have hxe : (I64 x != 0) = false := by rw [hx]; rfl
        clear hx
        go_wp2_with fail
        refine (nonzero_any x _).mono ?_
        rintro e w' ⟨rfl, rfl⟩
        rw [hxe]
        go_wp2_with fail
        go_round
        case rel => exact ⟨k + 1, by go_num, by omega, by rw [HT.out, HZ.out]; simpa [I64_zero] using hxe⟩
        case measure => simp [intOf]; omega
      · have hxe : (I64 x != 0) = true := by rw [bne_iff_ne]; exact fun h => hx ((I64_zero x).1 h)
        have hall := HNZ.out hx
        have HALL := Lib.hid hall
        clear hx hall
        go_wp2_with fail
        refine (nonzero_any x _).mono ?_
        rintro e w' ⟨rfl, rfl⟩
        rw [hxe]
        go_wp2_with fail
        go_ret
        exact ⟨(k : Int), rfl, fun h => (by rw [HALL.out] at h; cases h), fun _ => by omega, rfl⟩
    · have hz2 : zeroW l = true := by rw [List.take_of_length_le (by omega)] at hz; exact hz
      have HZ := Lib.hid hz2
      clear hz hz2
      go_wp2_with fail
      go_ret
      exact ⟨-1, rfl, fun _ => rfl, fun h => (by rw [HZ.out] at h; cases h), rfl⟩

set_option maxRecDepth 100000 in
theorem contains_any (l : List (BitVec 64)) (a : Option Addr) (n c : Nat) (w : World) (hr : Row w a (words l)) (hn : l.length = n) (hl : n < 1000000) :
    Calls Tryd.prog 56 #[.slice a n c, .func (.func 57) #[] #[]] w fun e w' => e = .returned (.bool (!zeroW l)) ∧ w = w' := by
  have HI := Lib.hid (index_any l a n c w hr hn hl)
  clear hr
  go_enter Tryd.func56, Tryd.ntmps56
  go_wp2_with fail
  refine HI.out.mono ?_
  rintro e w' ⟨i, rfl, h1, h2, rfl⟩
  cases hz : zeroW l
  · have h3 := h2 hz
    clear h1 h2
    have HZ := Lib.hid hz
    clear hz
    go_wp2_with fail
    go_ret
    exact ⟨congrArg (fun b => Ending.returned (.bool (!b))) HZ.out.symm, rfl⟩
  · obtain rfl := h1 hz
    have HZ := Lib.hid hz
    clear h1 h2 hz
    go_wp2_with fail
    go_ret
    exact ⟨congrArg (fun b => Ending.returned (.bool (!b))) HZ.out.symm, rfl⟩

end Go.Proofs.YtmmkncocgjgapaaDoor.Crc

/- The walk of seal.Get: a block is opened as what it is, or refused. -/
namespace Go.Proofs.YtmmkncocgjgapaaDoor.Crc
open Go.RowKit

def GotOk (w : World) (p : List (BitVec 64)) (tag : BitVec 64) (e : Ending) (w' : World) : Prop :=
  ∃ a c, e = .returned (.tuple #[.slice a p.length c, .int .u64 (I64 tag), .int .i64 0]) ∧ Row w' a (words p) ∧ Below w.heap.size w w'

theorem last_top (B : List (BitVec 64)) (n : Nat) (X : BitVec 64) (hn : n < 1000000) : I64 (lastW B (BitVec.ofNat 64 n) X) / 4294967296 = (n : Int) + 1 := by
  have := add_word n (next (next (sum B) (BitVec.ofNat 64 n + 1#64)) X) hn
  have h2 := I32_lt (next (next (sum B) (BitVec.ofNat 64 n + 1#64)) X)
  unfold lastW
  omega

theorem zeroW_replicate (n : Nat) : zeroW (List.replicate n 0#64) = true := by
  unfold zeroW
  simp

set_option maxRecDepth 100000 in
set_option maxHeartbeats 800000 in
theorem get_yes (p : List (BitVec 64)) (size x : Nat) (tag : BitVec 64) (a : Option Addr) (c : Nat) (w : World) (hr : Row w a (words (sealW p size tag (BitVec.ofNat 64 x)))) (h8 : 8 ≤ size) (h256 : size ≤ 256) (hp : p.length + 2 ≤ size) (hx : x < 9223372036854775808) (hc : size ≤ c) (hc2 : c ≤ maxLen) :
    Calls Tryd.prog 47 #[.slice a size c, .int .i64 (x : Int)] w (GotOk w p tag) := by
  unfold maxLen at hc2
  have hB := bodyW_length (tag := tag) hp
  have hlen := sealW_length (tag := tag) (x := BitVec.ofNat 64 x) hp
  obtain ⟨b, o, rfl, c1⟩ := words_at hr (k := size - 1) (by omega)
  obtain ⟨b', o', e, c2⟩ := words_at hr (k := size - 2) (by omega)
  cases e
  have g1 : (sealW p size tag (BitVec.ofNat 64 x))[size - 1]'(by omega) = lastW (bodyW p size tag) (BitVec.ofNat 64 p.length) (BitVec.ofNat 64 x) := by
    unfold sealW
    rw [List.getElem_append_right (by omega)]
    simp
  have g2 : (sealW p size tag (BitVec.ofNat 64 x))[size - 2]'(by omega) = tag := by
    unfold sealW
    rw [List.getElem_append_left (by omega)]
    unfold bodyW
    rw [List.getElem_append_right (by simp; omega)]
    simp
  rw [g1] at c1
  rw [g2] at c2
  have hq := last_top (bodyW p size tag) p.length (BitVec.ofNat 64 x) (by omega)
  have hrl : Row w (some ⟨b, o, none⟩) (words (bodyW p size tag ++ [lastW (bodyW p size tag) (BitVec.ofNat 64 p.length) (BitVec.ofNat 64 x)])) := hr
  have HL := Lib.hid (fun d => last_at (bodyW p size tag) _ size p.length x (some ⟨b, o, none⟩) c (w.drewN d) hrl hB hc (by omega) (by omega) hx)
  have hrz : Row w (some ⟨b, o + p.length, none⟩) (words (List.replicate (size - 2 - p.length) 0#64)) := by
    have h1 := (hr.drop p.length).take (size - 2 - p.length)
    have h2 : ((words (sealW p size tag (BitVec.ofNat 64 x))).drop p.length).take (size - 2 - p.length) = words (List.replicate (size - 2 - p.length) 0#64) := by
      unfold words sealW bodyW
      rw [← List.map_drop, ← List.map_take, List.append_assoc, List.append_assoc, List.drop_append_of_le_length (by omega), List.drop_of_length_le (Nat.le_refl _), List.nil_append, List.take_append_of_le_length (by simp), List.take_of_length_le (by simp)]
    rw [h2] at h1
    exact h1
  have HC := Lib.hid (fun d => contains_any (List.replicate (size - 2 - p.length) 0#64) (some ⟨b, o + p.length, none⟩) (size - 2 - p.length) (c - p.length) (w.drewN d) hrz (by simp) (by omega))
  rw [show (!zeroW (List.replicate (size - 2 - p.length) 0#64)) = false from by rw [zeroW_replicate]; rfl] at HC
  have hrp : Row w (some ⟨b, o, none⟩) (words p) := by
    have h1 := hr.take p.length
    have h2 : (words (sealW p size tag (BitVec.ofNat 64 x))).take p.length = words p := by
      unfold words sealW bodyW
      rw [← List.map_take, List.append_assoc, List.append_assoc, List.take_append_of_le_length (by omega), List.take_of_length_le (Nat.le_refl _)]
    rw [h2] at h1
    exact h1
  have hR := right_any size x w
  rw [show decide (8 ≤ (size : Int) ∧ (size : Int) ≤ 256 ∧ 0 ≤ (x : Int)) = true from by simp; omega] at hR
  have HR := Lib.hid hR
  have hg1 : decide ((size : Int) - 2 < (p.length : Int)) = false := by simp; omega
  have hg2 : decide ((p.length : Int) < 0) = false := by simp
  have hvb := I64_lt (lastW (bodyW p size tag) (BitVec.ofNat 64 p.length) (BitVec.ofNat 64 x))
  clear hR g1 g2 hrl hrz hB hlen hr
  generalize I64 (lastW (bodyW p size tag) (BitVec.ofNat 64 p.length) (BitVec.ofNat 64 x)) = V at *
  have hvv : (V != V) = false := by simp
  have b1 : (p.length : Int) ≤ c := by omega
  have b2 : (size : Int) - 2 ≤ c := by omega
  have b3 : (0 : Int) ≤ (size : Int) - 2 := by omega
  have b4 : (p.length : Int) ≤ (size : Int) - 2 := by omega
  go_enter Tryd.func47, Tryd.ntmps47
  go_wp2_with fail
  refine HR.out.mono ?_
  rintro e w1 ⟨rfl, rfl⟩
  go_wp2_with fail
  go_quiet ((first | (go_at_call 46; exact Calls.quiet_of_same' (HL.out _)) | (go_at_call 56; exact Calls.quiet_of_same' (HC.out _))))
  go_wp2_with fail
  have b5 : (size : Int) - 2 < (size : Int) := by omega
  have b6 : IntKind.i64.wrap ((size : Int) - 2) = (size : Int) - 2 := by rw [IntKind.wrap_i64]; omega
  have b7 : ((size : Int) - 2).toNat = size - 2 := by omega
  have b8 : (2 : Int) ≤ (size : Int) := by omega
  clear HL HC HR c1 hq hvb hvv hg1 hg2
  go_region_held3 (fun w' => w'.cell? ⟨b, o + (size - 2), none⟩ = some (.int .u64 (I64 tag)))
    (first | go_keep | (rw [hb1.cell (by have := (cell_lt c2).1; simpa using this)]; assumption))
    ((go_at_call 36; refine (clone_u64 (some ⟨b, o, none⟩) p.length c (words p) _ (by exact hrp) (words_length p) (words_one p) (by omega) (by simp)).mono ?_; rintro e w1 ⟨v1, rfl, own1, hb1⟩))
  all_goals
    obtain ⟨a1, c1, rfl, hr1, -⟩ := own_slice own1
    go_wp2_with fail
    go_ret3
    exact ⟨a1, c1, rfl, hr1, (below_d (Below.refl w.heap.size w) _).trans hb1⟩

end Go.Proofs.YtmmkncocgjgapaaDoor.Crc

/- The walk of seal.Get where the block is refused. -/
namespace Go.Proofs.YtmmkncocgjgapaaDoor.Crc
open Go.RowKit

set_option maxRecDepth 100000 in
theorem get_arg (size : Nat) (address : Int) (a : Option Addr) (c : Nat) (w : World) (h : ¬ (8 ≤ size ∧ size ≤ 256 ∧ 0 ≤ address)) (hs : size ≤ 9223372036854775807) :
    Calls Tryd.prog 47 #[.slice a size c, .int .i64 address] w fun e w' => e = .returned (.tuple #[.slice none 0 0, .int .u64 0, .int .i64 1]) ∧ w = w' := by
  have hR := right_any size address w
  rw [show decide (8 ≤ (size : Int) ∧ (size : Int) ≤ 256 ∧ 0 ≤ address) = false from by simp; omega] at hR
  have HR := Lib.hid hR
  clear hR h
  go_enter Tryd.func47, Tryd.ntmps47
  go_wp2_with fail
  refine HR.out.mono ?_
  rintro e w1 ⟨rfl, rfl⟩
  go_wp2_with fail
  go_ret3
  exact ⟨rfl, rfl⟩

def Refused (w : World) (e : Ending) (w' : World) : Prop := e = .returned (.tuple #[.slice none 0 0, .int .u64 0, .int .i64 6]) ∧ Quiet w w'

/-- The block is sealed at this address. -/
def IsSealed (l : List (BitVec 64)) (X : BitVec 64) : Prop := ∃ p tag, p.length + 2 ≤ l.length ∧ l = sealW p l.length tag X

theorem top_lt (z : BitVec 64) : 0 ≤ I64 z / 4294967296 ∧ I64 z / 4294967296 < 4294967296 := by
  have := I64_lt z
  omega

theorem parts (B : List (BitVec 64)) (n size : Nat) (hB : B.length + 1 = size) (hn : n + 2 ≤ size) : ∃ tag, B = B.take n ++ (B.drop n).take (size - 2 - n) ++ [tag] := by
  have h0 : size - 2 < B.length := by omega
  refine ⟨B[size - 2], ?_⟩
  have h1 : B = B.take (size - 2) ++ B.drop (size - 2) := (List.take_append_drop _ _).symm
  have h2 : B.drop (size - 2) = [B[size - 2]] := by
    rw [List.drop_eq_getElem_cons h0, List.drop_eq_nil_of_le (by omega)]
  have h3 : B.take (size - 2) = B.take n ++ (B.drop n).take (size - 2 - n) := by
    rw [← List.take_add, show n + (size - 2 - n) = size - 2 from by omega]
  rw [h2, h3] at h1
  exact h1

theorem zeroW_eq (l : List (BitVec 64)) (h : zeroW l = true) : l = List.replicate l.length 0#64 := by
  apply List.eq_replicate_iff.2
  refine ⟨rfl, fun b hb => ?_⟩
  unfold zeroW at h
  rw [List.all_eq_true] at h
  simpa using h b hb

theorem is_sealed (B : List (BitVec 64)) (z X : BitVec 64) (n size : Nat) (hB : B.length + 1 = size) (hn : n + 2 ≤ size) (hz : z = lastW B (BitVec.ofNat 64 n) X) (h0 : zeroW ((B.drop n).take (size - 2 - n)) = true) : IsSealed (B ++ [z]) X := by
  obtain ⟨tag, ht⟩ := parts B n size hB hn
  have hl : (B ++ [z]).length = size := by simp; omega
  have hp : (B.take n).length = n := by simp; omega
  have hm : ((B.drop n).take (size - 2 - n)).length = size - 2 - n := by simp; omega
  have hb : B = bodyW (B.take n) size tag := by
    unfold bodyW
    have := zeroW_eq _ h0
    rw [hm] at this
    rw [hp, ← this]
    exact ht
  refine ⟨B.take n, tag, by rw [hl, hp]; omega, ?_⟩
  rw [hl]
  unfold sealW
  rw [hp, ← hb, ← hz]

set_option maxRecDepth 100000 in
set_option maxHeartbeats 800000 in
theorem get_fault (B : List (BitVec 64)) (z : BitVec 64) (size x : Nat) (a : Option Addr) (c : Nat) (w : World) (hr : Row w a (words (B ++ [z]))) (hB : B.length + 1 = size) (h8 : 8 ≤ size) (h256 : size ≤ 256) (hx : x < 9223372036854775808) (hc : size ≤ c) (hc2 : c ≤ maxLen)
    (hno : ¬ IsSealed (B ++ [z]) (BitVec.ofNat 64 x)) :
    Calls Tryd.prog 47 #[.slice a size c, .int .i64 (x : Int)] w (Refused w) := by
  unfold maxLen at hc2
  obtain ⟨b, o, rfl, c1⟩ := words_at hr (k := size - 1) (by simp; omega)
  have g1 : (B ++ [z])[size - 1]'(by simp; omega) = z := by
    rw [List.getElem_append_right (by omega)]
    simp
  rw [g1] at c1
  have hR := right_any size x w
  rw [show decide (8 ≤ (size : Int) ∧ (size : Int) ≤ 256 ∧ 0 ≤ (x : Int)) = true from by simp; omega] at hR
  have HR := Lib.hid hR
  have hvb := I64_lt z
  have ht := top_lt z
  have HB := Lib.hid hB
  clear hR g1
  by_cases hA : I64 z / 4294967296 - 1 < 0
  · have hq : I64 z / 4294967296 = 0 := by omega
    clear hno hr hB hA ht
    generalize I64 z = V at *
    go_enter Tryd.func47, Tryd.ntmps47
    go_wp2_with fail
    refine HR.out.mono ?_
    rintro e w1 ⟨rfl, rfl⟩
    go_wp2_with fail
    go_quiet (fail)
    go_wp2_with fail
    go_ret3
    exact ⟨rfl, (Quiet.refl w).drewN _⟩
  obtain ⟨n, hn⟩ : ∃ n : Nat, I64 z / 4294967296 = (n : Int) + 1 := ⟨(I64 z / 4294967296 - 1).toNat, by omega⟩
  by_cases hA2 : size < n + 2
  · have hg1 : decide ((size : Int) - 2 < (n : Int)) = true := by simp; omega
    have hg2 : decide ((n : Int) < 0) = false := by simp
    have hnb : (n : Int) < 4294967296 := by omega
    clear hno hr hB hA ht
    generalize I64 z = V at *
    go_enter Tryd.func47, Tryd.ntmps47
    go_wp2_with fail
    refine HR.out.mono ?_
    rintro e w1 ⟨rfl, rfl⟩
    go_wp2_with fail
    go_quiet (fail)
    go_wp2_with fail
    go_ret3
    exact ⟨rfl, (Quiet.refl w).drewN _⟩
  have hg1 : decide ((size : Int) - 2 < (n : Int)) = false := by simp; omega
  have hg2 : decide ((n : Int) < 0) = false := by simp
  have hnb : (n : Int) < 4294967296 := by omega
  have HL := Lib.hid (fun d => last_at B z size n x (some ⟨b, o, none⟩) c (w.drewN d) hr hB hc (by omega) (by omega) hx)
  by_cases hzl : z = lastW B (BitVec.ofNat 64 n) (BitVec.ofNat 64 x)
  · have h0 : zeroW ((B.drop n).take (size - 2 - n)) = false := by
      cases h : zeroW ((B.drop n).take (size - 2 - n))
      · rfl
      · exact absurd (is_sealed B z _ n size hB (by omega) hzl h) hno
    have hrz : Row w (some ⟨b, o + n, none⟩) (words ((B.drop n).take (size - 2 - n))) := by
      have h1 := (hr.drop n).take (size - 2 - n)
      have h2 : ((words (B ++ [z])).drop n).take (size - 2 - n) = words ((B.drop n).take (size - 2 - n)) := by
        unfold words
        rw [← List.map_drop, ← List.map_take, List.drop_append_of_le_length (by omega), List.take_append_of_le_length (by simp; omega)]
      rw [h2] at h1
      exact h1
    have HC := Lib.hid (fun d => contains_any _ (some ⟨b, o + n, none⟩) (size - 2 - n) (c - n) (w.drewN d) hrz (by simp; omega) (by omega))
    rw [h0] at HC
    rw [← hzl] at HL
    have hvv : (I64 z != I64 z) = false := by simp
    have b1 : (n : Int) ≤ c := by omega
    have b2 : (size : Int) - 2 ≤ c := by omega
    have b3 : (0 : Int) ≤ (size : Int) - 2 := by omega
    have b4 : (n : Int) ≤ (size : Int) - 2 := by omega
    clear hno hr hB hA ht h0 hrz hzl
    generalize I64 z = V at *
    go_enter Tryd.func47, Tryd.ntmps47
    go_wp2_with fail
    refine HR.out.mono ?_
    rintro e w1 ⟨rfl, rfl⟩
    go_wp2_with fail
    go_quiet ((first | (go_at_call 46; exact Calls.quiet_of_same' (HL.out _)) | (go_at_call 56; exact Calls.quiet_of_same' (HC.out _))))
    go_wp2_with fail
    go_ret3
    exact ⟨rfl, (Quiet.refl w).drewN _⟩
  · have hvv : (I64 z != I64 (lastW B (BitVec.ofNat 64 n) (BitVec.ofNat 64 x))) = true := by rw [bne_iff_ne]; exact fun h => hzl (I64_inj h)
    clear hno hr hB hA ht hzl
    generalize I64 (lastW B (BitVec.ofNat 64 n) (BitVec.ofNat 64 x)) = U at *
    generalize I64 z = V at *
    go_enter Tryd.func47, Tryd.ntmps47
    go_wp2_with fail
    refine HR.out.mono ?_
    rintro e w1 ⟨rfl, rfl⟩
    go_wp2_with fail
    go_quiet ((go_at_call 46; exact Calls.quiet_of_same' (HL.out _)))
    go_wp2_with fail
    go_ret3
    exact ⟨rfl, (Quiet.refl w).drewN _⟩

end Go.Proofs.YtmmkncocgjgapaaDoor.Crc

/- The walk of the reference's Get of chapter 8. -/
namespace Go.Proofs.YtmmkncocgjgapaaDoor.Crc
open Go.RowKit

theorem same_at (l m : List (BitVec 64)) (a b : Option Addr) (na nb ca cb : Nat) (w : World) (ha : Row w a (words l)) (hb : Row w b (words m)) (hla : l.length = na) (hmb : m.length = nb) (hl : na < 1000000) (hm : nb < 1000000) :
    Calls Tryd.prog 20 #[.slice a na ca, .slice b nb cb] w fun e w' => e = .returned (.bool (sameW l m)) ∧ Quiet w w' := by
  subst hla; subst hmb
  exact same_any l m a b ca cb w ha hb hl hm

def RefusedB (w : World) (e : Ending) (w' : World) : Prop := e = .returned (.tuple #[.slice none 0 0, .int .u64 0, .int .i64 6]) ∧ Below w.heap.size w w'

end Go.Proofs.YtmmkncocgjgapaaDoor.Crc

/- The plain law of sealed blocks: a block that differs in half a word, or is asked at another address, is not sealed. No condition. -/
namespace Go.Proofs.YtmmkncocgjgapaaDoor.Crc
open Go.RowKit

theorem sealed_parts {B : List (BitVec 64)} {z X : BitVec 64} (h : IsSealed (B ++ [z]) X) : ∃ n, n + 2 ≤ B.length + 1 ∧ z = lastW B (BitVec.ofNat 64 n) X := by
  obtain ⟨p, tag, hp, he⟩ := h
  unfold sealW at he
  obtain ⟨h1, h2⟩ := List.append_inj' he rfl
  simp only [List.length_append, List.length_singleton] at hp
  refine ⟨p.length, hp, ?_⟩
  injection h2 with h2
  rw [h2, ← h1]

theorem shl_low (a : BitVec 64) : (a <<< 32).setWidth 32 = 0#32 := by
  apply BitVec.eq_of_toNat_eq
  rw [BitVec.toNat_setWidth, BitVec.toNat_shiftLeft, Nat.shiftLeft_eq]
  simp
theorem up_low (s : BitVec 32) : (s.setWidth 64).setWidth 32 = s := by
  apply BitVec.eq_of_toNat_eq
  have := s.isLt
  rw [BitVec.toNat_setWidth, BitVec.toNat_setWidth]
  omega
theorem low_last (B : List (BitVec 64)) (N X : BitVec 64) : (lastW B N X).setWidth 32 = next (next (sum B) (N + 1#64)) X := by
  unfold lastW
  rw [BitVec.setWidth_or, shl_low, up_low, BitVec.zero_or]

theorem next_inj (s t : BitVec 32) (x : BitVec 64) (h : next s x = next t x) : s = t := (fold_diff [x] s t).1 h

theorem next_word (s : BitVec 32) (x y : BitVec 64) (hx : x.toNat < 4294967296) (hy : y.toNat < 4294967296) (h : next s x = next s y) : x = y := by
  have h1 := next_diff s s x y
  rw [h, BitVec.xor_self, BitVec.xor_self] at h1
  have h2 : x ^^^ y = spread (x.setWidth 32 ^^^ y.setWidth 32) false := by
    unfold spread
    rw [if_neg (by decide)]
    apply BitVec.eq_of_toNat_eq
    rw [BitVec.toNat_xor, BitVec.toNat_setWidth, BitVec.toNat_xor, BitVec.toNat_setWidth, BitVec.toNat_setWidth, Nat.mod_eq_of_lt hx, Nat.mod_eq_of_lt hy]
    have := Nat.xor_lt_two_pow (n := 32) (x := x.toNat) (y := y.toNat) hx hy
    rw [Nat.mod_eq_of_lt (by omega)]
  rw [h2] at h1
  have h3 := spread_zero _ false h1.symm
  have h4 := BitVec.xor_eq_zero_iff.1 h3
  apply BitVec.eq_of_toNat_eq
  have h5 := congrArg BitVec.toNat h4
  rw [BitVec.toNat_setWidth, BitVec.toNat_setWidth] at h5
  omega

theorem ofNat_succ_toNat {n : Nat} (h : n < 1000000) : (BitVec.ofNat 64 n + 1#64).toNat = n + 1 := by
  rw [BitVec.toNat_add, BitVec.toNat_ofNat]
  simp
  omega

theorem spread_eq_zero {d : BitVec 32} {high : Bool} (h : spread d high = 0#64) : d = 0#32 := by
  refine spread_zero d high ?_
  rw [h, byteN_word0]
  exact bitN_zero _

theorem top_xor (z : BitVec 64) (d : BitVec 32) : I64 (z ^^^ spread d false) / 4294967296 = I64 z / 4294967296 := by
  unfold I64 spread
  rw [if_neg (by decide), BitVec.toNat_xor, BitVec.toNat_setWidth]
  have hd := d.isLt
  have h1 : (z.toNat ^^^ d.toNat % 2 ^ 64) / 4294967296 = z.toNat / 4294967296 := by
    rw [show 4294967296 = 2 ^ 32 from rfl, ← Nat.shiftRight_eq_div_pow, Nat.shiftRight_xor_distrib, Nat.shiftRight_eq_div_pow, Nat.shiftRight_eq_div_pow, Nat.mod_eq_of_lt (a := d.toNat) (by omega), Nat.div_eq_of_lt (a := d.toNat) (by omega), Nat.xor_zero]
  omega

theorem low_xor_high (z : BitVec 64) (d : BitVec 32) : (z ^^^ spread d true).setWidth 32 = z.setWidth 32 := by
  unfold spread
  rw [if_pos rfl, BitVec.setWidth_xor, shl_low, BitVec.xor_zero]

theorem tells_back (B : List (BitVec 64)) (n : Nat) (X : BitVec 64) (hn : n < 1000) (hB : B.length < 1000) (k : Nat) (hk : k < (B ++ [lastW B (BitVec.ofNat 64 n) X]).length) (d : BitVec 32) (high : Bool)
    (h : IsSealed ((B ++ [lastW B (BitVec.ofNat 64 n) X]).set k ((B ++ [lastW B (BitVec.ofNat 64 n) X])[k] ^^^ spread d high)) X) : d = 0#32 := by
  by_cases hkB : k < B.length
  · rw [List.set_append_left _ _ hkB, List.getElem_append_left hkB] at h
    obtain ⟨m, hm, he⟩ := sealed_parts h
    simp only [List.length_set] at hm
    have t1 := last_top B n X (by omega)
    rw [he, last_top _ m X (by omega)] at t1
    obtain rfl : m = n := by omega
    have h1 := congrArg (BitVec.setWidth 32) he
    rw [low_last, low_last] at h1
    have h2 := next_inj _ _ _ (next_inj _ _ _ h1)
    exact (tells B k hkB d high).1 h2.symm
  · obtain rfl : k = B.length := by simp at hk; omega
    rw [List.set_append_right _ _ (by omega), List.getElem_append_right (by omega)] at h
    simp only [Nat.sub_self, List.set_cons_zero, List.getElem_cons_zero] at h
    obtain ⟨m, hm, he⟩ := sealed_parts h
    have hmn : m = n := by
      cases high
      · have t1 := top_xor (lastW B (BitVec.ofNat 64 n) X) d
        rw [he, last_top _ m X (by omega), last_top _ n X (by omega)] at t1
        omega
      · have h1 := congrArg (BitVec.setWidth 32) he
        rw [low_xor_high, low_last, low_last] at h1
        have h2 := next_inj _ _ _ h1
        have h3 := next_word _ _ _ (by rw [ofNat_succ_toNat (by omega)]; omega) (by rw [ofNat_succ_toNat (by omega)]; omega) h2
        have h4 := congrArg BitVec.toNat h3
        rw [ofNat_succ_toNat (by omega), ofNat_succ_toNat (by omega)] at h4
        omega
    subst hmn
    refine spread_eq_zero (high := high) ?_
    have h5 : lastW B (BitVec.ofNat 64 m) X ^^^ (lastW B (BitVec.ofNat 64 m) X ^^^ spread d high) = 0#64 := by rw [he, BitVec.xor_self]
    rw [← BitVec.xor_assoc, BitVec.xor_self, BitVec.zero_xor] at h5
    exact h5

theorem sealed_else (p : List (BitVec 64)) (size : Nat) (tag X Y : BitVec 64) (hp : p.length + 2 ≤ size) (hs : size < 1000) (hX : X.toNat < 4294967296) (hY : Y.toNat < 4294967296) (h : IsSealed (sealW p size tag X) Y) : X = Y := by
  unfold sealW at h
  have hB := bodyW_length (tag := tag) hp
  obtain ⟨m, hm, he⟩ := sealed_parts h
  have t1 := last_top (bodyW p size tag) p.length X (by omega)
  rw [he, last_top _ m Y (by omega)] at t1
  obtain rfl : m = p.length := by omega
  have h1 := congrArg (BitVec.setWidth 32) he
  rw [low_last, low_last] at h1
  exact next_word _ _ _ hX hY h1

theorem sealed_self (p : List (BitVec 64)) (size : Nat) (tag X : BitVec 64) (hp : p.length + 2 ≤ size) : IsSealed (sealW p size tag X) X :=
  ⟨p, tag, by rw [sealW_length hp]; exact hp, by rw [sealW_length hp]⟩

theorem zeros_none (n : Nat) (hn : n < 1000) (X : BitVec 64) : ¬ IsSealed (List.replicate (n + 1) 0#64) X := by
  intro h
  rw [List.replicate_succ'] at h
  obtain ⟨m, hm, he⟩ := sealed_parts h
  simp at hm
  have := last_top (List.replicate n 0#64) m X (by omega)
  rw [← he] at this
  simp [I64] at this
  omega

end Go.Proofs.YtmmkncocgjgapaaDoor.Crc
