/- The walks of Read and Write of a device. -/
import Derived.Test.YtodjibhnmibedaaDevOps
set_option linter.unusedVariables false
namespace Go.Proofs.Ytodjibhnmibedaa.Dev
open Go.RowKit

def zeroV (n : Nat) : List Value := List.replicate n (.int .u64 0)
/-- The words that a Read tells. -/
def Dv.words (D : Dv) (i : Int) : List Value := (D.now i).getD (zeroV D.size)
/-- What a Read or a Write answers ahead of its act; 0: nothing bars it. -/
def Dv.bars (D : Dv) (i : Int) (n : Nat) : Int := if D.down = true then 8 else if i < 0 ∨ (D.blocks : Int) ≤ i ∨ n ≠ D.size then 1 else 0

theorem zero_row (w : World) : (zeroValue 29).run Try.prog w = .ok (.slice none 0 0) w := by kernel_rfl

theorem own_mono {w : World} {base base' : Nat} {e : TypeId} {size : Nat} {v : Value} {n : Nat} {xs : List Value} (h : w.ownsRow base e size v n xs) (hb : base' ≤ base) : w.ownsRow base' e size v n xs :=
  ⟨h.1, h.2.imp id fun ⟨g, cap, cur, h1, h2, h3⟩ => ⟨g, cap, cur, h1, Nat.le_trans hb h2, h3⟩⟩

theorem own_form {w : World} {base : Nat} {e : TypeId} {size : Nat} {v : Value} {n : Nat} {xs : List Value} (h : w.ownsRow base e size v n xs) : ∃ a c, v = .slice a n c := by
  rcases h.2 with ⟨rfl, rfl⟩ | ⟨g, cap, cur, rfl, _⟩
  · exact ⟨_, _, rfl⟩
  · exact ⟨_, _, rfl⟩

/-- The block's words, in memory of the call's own. -/
def Got (w : World) (a : Nat) (D : Dv) (rl rn : Nat) (pv : Value) (ws : List Value) (e : Ending) (w' : World) : Prop :=
  ∃ g c, e = .returned (.tuple #[.slice (some ⟨g, 0, none⟩) D.size c, .int .i64 0]) ∧ w'.ownsRow w.heap.size 22 1 (.slice (some ⟨g, 0, none⟩) D.size c) D.size ws ∧ w.heap.size ≤ g ∧ Box w' a D.act.2 rl rn pv ∧ Chg (fun k => k = a) w w'

theorem got_close {w w1 w2 : World} {a : Nat} {D : Dv} {rl rn : Nat} {pv : Value} {ws : List Value} {g c : Nat} (hc : Chg (fun k => k = a) w w1) (hb : Below w1.heap.size w1 w2) (hbx : Box w1 a D.act.2 rl rn pv)
    (ho : w2.ownsRow w1.heap.size 22 1 (.slice (some ⟨g, 0, none⟩) D.size c) D.size ws) (hg : w1.heap.size ≤ g) : Got w a D rl rn pv ws (.returned (.tuple #[.slice (some ⟨g, 0, none⟩) D.size c, .int .i64 0])) w2 :=
  ⟨g, c, rfl, own_mono ho hc.size, Nat.le_trans hc.size hg, hbx.below hb hbx.lt, hc.then_below hb⟩

theorem own_some {w : World} {base : Nat} {e : TypeId} {n : Nat} {v : Value} {xs : List Value} (h : w.ownsRow base e 1 v n xs) (hn : 0 < n) : ∃ g c, v = .slice (some ⟨g, 0, none⟩) n c ∧ base ≤ g ∧ Row w (some ⟨g, 0, none⟩) xs ∧ n ≤ c ∧ c ≤ maxLen := by
  obtain ⟨a, c, rfl, hr, h1, h2, h3⟩ := own_slice h
  obtain ⟨g, cap, e, hb, _⟩ := World.ownsRow.form h hn
  cases e
  exact ⟨g, c, rfl, hb, hr, h1, h2⟩

section
variable {w : World} {a rl rn base : Nat} {pv : Value} {D : Dv}

def Bare (w : World) (a : Nat) (D : Dv) (rl rn : Nat) (pv : Value) (e : Ending) (w' : World) : Prop :=
  e = .returned (.tuple #[.slice none 0 0, .int .i64 D.act.1]) ∧ Box w' a D.act.2 rl rn pv ∧ Chg (fun k => k = a) w w'

set_option maxRecDepth 100000 in
theorem read_barred (i : Int) (h : Box w a D rl rn pv) (hb : D.bars i D.size ≠ 0) :
    Calls Try.prog 15 #[.pointer (some ⟨a, 0, none⟩), .int .i64 i] w fun e w' => e = .returned (.tuple #[.slice none 0 0, .int .i64 (D.bars i D.size)]) ∧ w = w' := by
  have HD := Lib.hid (down_any h)
  have c1 : w.cell? ⟨a, 1, none⟩ = some (.int .i64 (D.blocks : Int)) := h.cell 1
  unfold Dv.bars at hb ⊢
  cases hd : D.down
  · rw [hd] at HD hb
    rw [if_neg (by decide)] at hb ⊢
    by_cases hi : i < 0 ∨ (D.blocks : Int) ≤ i ∨ D.size ≠ D.size
    · rw [if_pos hi]
      clear hb hd
      by_cases h0 : i < 0
      · clear hi
        go_enter Try.func15, Try.ntmps15
        go_wp2_with fail
        refine HD.out.mono ?_
        rintro e w1 ⟨rfl, rfl⟩
        go_wp2_with fail
        go_ret2
        exact ⟨rfl, rfl⟩
      · have h1 : (D.blocks : Int) ≤ i := by omega
        clear hi
        go_enter Try.func15, Try.ntmps15
        go_wp2_with fail
        refine HD.out.mono ?_
        rintro e w1 ⟨rfl, rfl⟩
        go_wp2_with fail
        go_ret2
        exact ⟨rfl, rfl⟩
    · rw [if_neg hi] at hb
      exact absurd rfl hb
  · rw [hd] at HD
    rw [if_pos rfl]
    clear hb hd
    go_enter Try.func15, Try.ntmps15
    go_wp2_with fail
    refine HD.out.mono ?_
    rintro e w1 ⟨rfl, rfl⟩
    go_wp2_with fail
    go_ret2
    exact ⟨rfl, rfl⟩

theorem not_barred {i : Int} {n : Nat} (hb : D.bars i n = 0) : D.down = false ∧ 0 ≤ i ∧ i < (D.blocks : Int) ∧ n = D.size := by
  unfold Dv.bars at hb
  split at hb
  · cases hb
  · rename_i h
    split at hb
    · cases hb
    · rename_i h2
      refine ⟨by simpa using h, by omega, by omega, by omega⟩

set_option maxRecDepth 100000 in
theorem read_failed (i : Int) (h : Box w a D rl rn pv) (hn : Nums D) (hb : D.bars i D.size = 0) (hf : D.act.1 ≠ 0) :
    Calls Try.prog 15 #[.pointer (some ⟨a, 0, none⟩), .int .i64 i] w (Bare w a D rl rn pv) := by
  obtain ⟨h1, h2, h3, -⟩ := not_barred hb
  have HD := down_any h
  rw [h1] at HD
  have HD2 := Lib.hid HD
  have HA := Lib.hid (act_any h hn)
  have c1 : w.cell? ⟨a, 1, none⟩ = some (.int .i64 (D.blocks : Int)) := h.cell 1
  have hne : (D.act.1 != 0) = true := by simpa using hf
  clear hb h1 HD hf
  go_enter Try.func15, Try.ntmps15
  go_wp2_with fail
  refine HD2.out.mono ?_
  rintro e w1 ⟨rfl, rfl⟩
  go_wp2_with fail
  refine HA.out.mono ?_
  rintro e w1 ⟨rfl, h4, h5⟩
  go_wp2_with fail
  go_ret2
  exact ⟨rfl, h4, h5⟩

set_option maxRecDepth 100000 in
set_option maxHeartbeats 400000 in
theorem read_got (i : Int) (h : At w base a rl rn pv D) (hb : D.bars i D.size = 0) (hf : D.act.1 = 0) (hac : D.acts + 1 < 4611686018427387904) :
    Calls Try.prog 15 #[.pointer (some ⟨a, 0, none⟩), .int .i64 i] w (Got w a D rl rn pv (D.words i)) := by
  obtain ⟨h1, h2, h3, -⟩ := not_barred hb
  have HD := down_any h.box
  rw [h1] at HD
  have HD2 := Lib.hid HD
  have HA := Lib.hid (act_any h.box h.nums)
  have c1 : w.cell? ⟨a, 1, none⟩ = some (.int .i64 (D.blocks : Int)) := h.box.cell 1
  have hne : (D.act.1 != 0) = false := by simpa using hf
  obtain ⟨s1, s2, s3, s4, s5, -⟩ := D.act_same
  have hsz := h.nums.fit.size
  have hnl := h.nums.fit.now i
  have H := Lib.hid h
  clear hb h1 HD h s1 s3 s5 hf
  go_enter Try.func15, Try.ntmps15
  go_wp2_with fail
  refine HD2.out.mono ?_
  rintro e w1 ⟨rfl, rfl⟩
  go_wp2_with fail
  refine HA.out.mono ?_
  rintro e w1 ⟨rfl, hbx, hc1⟩
  have A1 := H.out.acted hc1 hbx hac
  have c3 : w1.cell? ⟨a, 3, none⟩ = some (.map (some rn)) := hbx.cell 3
  have c0 : w1.cell? ⟨a, 0, none⟩ = some (.int .i64 (D.size : Int)) := by rw [hbx.cell 0]; show some (Value.int .i64 (D.act.2.size : Int)) = _; rw [s4]
  obtain ⟨kv, hm, hk⟩ := A1.now
  have hki := hk i
  rw [s2] at hki
  have HS2 := Lib.hid s2
  have HC1 := Lib.hid hc1
  have HBX := Lib.hid hbx
  clear s2 s4 hc1 hbx
  cases hl : look kv i with
  | none =>
    rw [hl] at hki
    have hnone : D.now i = none := by
      cases hD : D.now i with
      | none => rfl
      | some ws => rw [hD] at hki; exact hki.elim
    have hws : D.words i = zeroV D.size := by unfold Dv.words; rw [hnone]; rfl
    have HW := Lib.hid hws
    have HL := Lib.hid hl
    clear hk hki hnone hws hl
    have hmk := fun W => run_make_of (P := Try.prog) (t := 29) (e := 22) (bytes := 8) (z := .int .u64 0) Try.underlying29 (by kernel_rfl) rfl .i64 .i64 D.size (by omega) (by omega) W
    go_wp2_with (at_lookup; go_must (refine wpList_look rfl _ _ _ _ rfl (mk := Value.int .i64) Try.underlying78 (plain_int Try.underlying3) rn kv rfl hm i rfl (finds_int Try.underlying3 _ _) (zero_row _) ?_); rw [HL.out])
    go_wp2_with fail
    go_ret2
    rw [HW.out]
    have ho := World.ownsRow_lit (base := w1.heap.size) (e := 22) (size := 1) w1 (same D.size (.int .u64 0)) D.size (Nat.le_refl _) (by unfold maxLen; omega) (by rw [same_size]; omega)
    rw [same_list] at ho
    exact got_close HC1.out ((Below.refl _ _).alloc (Nat.le_refl _) _) HBX.out ho (Nat.le_refl _)
  | some v =>
    rw [hl] at hki
    obtain ⟨ws, hws⟩ : ∃ ws, D.now i = some ws := by
      cases hD : D.now i with
      | none => rw [hD] at hki; exact hki.elim
      | some ws => exact ⟨ws, rfl⟩
    rw [hws] at hki
    have hlen := hnl ws hws
    have hwd : D.words i = ws := by unfold Dv.words; rw [hws]; rfl
    have HW := Lib.hid hwd
    have HL := Lib.hid hl
    obtain ⟨g, c, rfl, _, hr, hcc, hcm⟩ := own_some (hlen ▸ hki.1) (by omega)
    have h1 := hki.2
    have HLEN := Lib.hid hlen
    clear hk hki hws hl hlen hwd hnl
    go_wp2_with (at_lookup; go_must (refine wpList_look rfl _ _ _ _ rfl (mk := Value.int .i64) Try.underlying78 (plain_int Try.underlying3) rn kv rfl hm i rfl (finds_int Try.underlying3 _ _) (zero_row _) ?_); rw [HL.out])
    go_wp2_with fail
    refine (clone_u64 _ _ _ _ _ hr HLEN.out h1 (by omega) (by simp)).mono ?_
    rintro e w2 ⟨v2, rfl, ho, hb2⟩
    obtain ⟨g2, cc2, rfl, hg2, -⟩ := own_some ho (by omega)
    go_wp2_with fail
    go_ret2
    rw [HW.out]
    exact got_close HC1.out hb2 HBX.out ho hg2

set_option maxRecDepth 100000 in
theorem write_barred (i : Int) (l : Option Addr) (n c : Nat) (h : Box w a D rl rn pv) (hn : n ≤ 9223372036854775807) (hb : D.bars i n ≠ 0) :
    Calls Try.prog 14 #[.pointer (some ⟨a, 0, none⟩), .int .i64 i, .slice l n c] w fun e w' => e = .returned (.int .i64 (D.bars i n)) ∧ w = w' := by
  have HD := Lib.hid (down_any h)
  have c1 : w.cell? ⟨a, 1, none⟩ = some (.int .i64 (D.blocks : Int)) := h.cell 1
  have c0 : w.cell? ⟨a, 0, none⟩ = some (.int .i64 (D.size : Int)) := h.cell 0
  unfold Dv.bars at hb ⊢
  cases hd : D.down
  · rw [hd] at HD hb
    rw [if_neg (by decide)] at hb ⊢
    by_cases hi : i < 0 ∨ (D.blocks : Int) ≤ i ∨ n ≠ D.size
    · rw [if_pos hi]
      clear hb hd
      by_cases h0 : i < 0
      · clear hi
        go_enter Try.func14, Try.ntmps14
        go_wp2_with fail
        refine HD.out.mono ?_
        rintro e w1 ⟨rfl, rfl⟩
        go_wp2_with fail
        go_ret
        exact ⟨rfl, rfl⟩
      by_cases h1 : (D.blocks : Int) ≤ i
      · clear hi
        go_enter Try.func14, Try.ntmps14
        go_wp2_with fail
        refine HD.out.mono ?_
        rintro e w1 ⟨rfl, rfl⟩
        go_wp2_with fail
        go_ret
        exact ⟨rfl, rfl⟩
      · have h2 : ((n : Int) != (D.size : Int)) = true := by rw [bne_iff_ne]; omega
        clear hi
        go_enter Try.func14, Try.ntmps14
        go_wp2_with fail
        refine HD.out.mono ?_
        rintro e w1 ⟨rfl, rfl⟩
        go_wp2_with fail
        go_ret
        exact ⟨rfl, rfl⟩
    · rw [if_neg hi] at hb
      exact absurd rfl hb
  · rw [hd] at HD
    rw [if_pos rfl]
    clear hb hd
    go_enter Try.func14, Try.ntmps14
    go_wp2_with fail
    refine HD.out.mono ?_
    rintro e w1 ⟨rfl, rfl⟩
    go_wp2_with fail
    go_ret
    exact ⟨rfl, rfl⟩

set_option maxRecDepth 100000 in
theorem write_failed (i : Int) (l : Option Addr) (n c : Nat) (h : Box w a D rl rn pv) (hn : Nums D) (hb : D.bars i n = 0) (hf : D.act.1 ≠ 0) :
    Calls Try.prog 14 #[.pointer (some ⟨a, 0, none⟩), .int .i64 i, .slice l n c] w (Acted w a D rl rn pv) := by
  obtain ⟨h1, h2, h3, rfl⟩ := not_barred hb
  have HD := down_any h
  rw [h1] at HD
  have HD2 := Lib.hid HD
  have HA := Lib.hid (act_any h hn)
  have c1 : w.cell? ⟨a, 1, none⟩ = some (.int .i64 (D.blocks : Int)) := h.cell 1
  have c0 : w.cell? ⟨a, 0, none⟩ = some (.int .i64 (D.size : Int)) := h.cell 0
  have hne : (D.act.1 != 0) = true := by simpa using hf
  have hss : ((D.size : Int) != (D.size : Int)) = false := by simp
  clear hb h1 HD hf
  go_enter Try.func14, Try.ntmps14
  go_wp2_with fail
  refine HD2.out.mono ?_
  rintro e w1 ⟨rfl, rfl⟩
  go_wp2_with fail
  refine HA.out.mono ?_
  rintro e w1 ⟨rfl, h4, h5⟩
  go_wp2_with fail
  go_ret
  exact ⟨rfl, h4, h5⟩

theorem el_write : Elem Try.prog 79 84 2 32 := elem_of (z := .agg #[.int .i64 0, .slice none 0 0]) Try.underlying79 (by kernel_rfl) rfl (by decide)

def Dv.put (D : Dv) (i : Int) (ws : List Value) : Dv := { D with now := upd D.now i ws, pend := D.pend ++ [(i, ws)] }
/-- The blocks that a device's methods may turn. -/
def Foot (a rl rn : Nat) (pv : Value) (k : Nat) : Prop := k = a ∨ k = rl ∨ k = rn ∨ some k = pv.ownBlock

def Put (w : World) (base a rl rn : Nat) (pv : Value) (D : Dv) (e : Ending) (w' : World) : Prop :=
  e = .returned (.int .i64 0) ∧ (∃ pv', At w' base a rl rn pv' D) ∧ Chg (Foot a rl rn pv) w w'

theorem act_acts {D : Dv} (h : D.act.1 = 0) : D.act.2 = D.burn.done := by
  unfold Dv.act at h ⊢
  split at h
  · cases h
  · split at h
    · cases h
    · rename_i h1 h2
      rw [if_neg h1, if_neg h2]
theorem act_len {D : Dv} (h : D.act.1 = 0) (hn : Nums D) : D.act.2.pend.length + 1 ≤ D.act.2.acts := by
  rw [act_acts h]
  exact Nat.succ_le_succ hn.fit.len

theorem put_nums {D : Dv} {i : Int} {ws : List Value} (h : Nums D) (hw : ws.length = D.size) (hl : D.pend.length + 1 ≤ D.acts) : Nums (D.put i ws) := by
  refine ⟨h.fuse, h.fault, h.acts, ⟨h.fit.size, h.fit.blocks, fun k xs hk => ?_, h.fit.lasts, fun p hp => ?_, ?_⟩⟩
  · simp only [Dv.put, upd] at hk
    split at hk
    · cases hk; exact hw
    · exact h.fit.now k xs hk
  · simp only [Dv.put, List.mem_append, List.mem_singleton] at hp
    rcases hp with hp | rfl
    · exact h.fit.pend p hp
    · exact hw
  · simp only [Dv.put, List.length_append, List.length_singleton]
    exact hl

theorem put_close {w1 w2 w3 w5 : World} {i : Int} {ws : List Value} {v2 v5 : Value} {kv : List (Int × Value)} {pr : List (Int × Value)} (A1 : At w1 base a rl rn pv D) (hb2 : Below w1.heap.size w1 w2) (hv : HeldV w2 base v2 ws)
    (hm2 : IsMap (Value.int .i64) w2 rn kv) (hk : ∀ k, OptHeld w2 base (look kv k) (D.now k)) (hm3 : IsMap (Value.int .i64) w3 rn (put_ kv i v2)) (hc3 : Chg (fun k => k = rn) w2 w3)
    (hpl : pr.length = D.pend.length) (hph : ∀ j (h : j < pr.length) (h' : j < D.pend.length), pr[j].1 = D.pend[j].1 ∧ HeldV w2 base pr[j].2 D.pend[j].2) (hpo : w3.ownsRow base 84 2 pv D.pend.length (pcells pr))
    (hown5 : w5.ownsRow base 84 2 v5 (D.pend.length + 1) (pcells pr ++ [.int .i64 i, v2])) (hg5 : (w3.alloc (.cells #[.int .i64 i, v2] 84)).grownBy w5 pv.ownBlock) (hba : base ≤ w3.heap.size)
    (hn : Nums (D.put i ws)) :
    (∃ pv', At (w5.setCell ⟨a, 4, none⟩ v5) base a rl rn pv' (D.put i ws)) ∧ Chg (Foot a rl rn pv) w1 (w5.setCell ⟨a, 4, none⟩ v5) := by
  have A2 := A1.below hb2
  have hal : a ≠ rl := A2.lasts.ne_blk A2.box
  have han : a ≠ rn := A2.now.ne_blk A2.box
  have hS3 : ∀ g cs, base ≤ g → Blk w2 g 22 cs → ¬ g = rn := fun g cs _ hg e => A2.now.ne_blk hg e
  have hrn : ∃ es c, w2.heap[rn]? = some (.map es c) := by obtain ⟨es, c, h, _⟩ := hm2; exact ⟨es, c, h⟩
  have L3 := A2.lasts.chg hc3 A2.ne hS3
  have N3 := DMap.put hk i v2 ws hv hm3 hc3 hrn
  have B3 := A2.box.chg hc3 han
  have H3 := hv.chg hc3 hS3
  have P3 : ∀ j (h : j < pr.length) (h' : j < D.pend.length), pr[j].1 = D.pend[j].1 ∧ HeldV w3 base pr[j].2 D.pend[j].2 := fun j h h' => ⟨(hph j h h').1, (hph j h h').2.chg hc3 hS3⟩
  have hc5 : Chg (fun k => some k = pv.ownBlock) w3 w5 := ((Chg.refl _ w3).alloc _).trans (Chg.of_grown hg5) (fun _ _ h => h)
  have hS5 : ∀ g cs, base ≤ g → Blk w3 g 22 cs → ¬ some g = pv.ownBlock := fun g cs _ hg e => own_ne_blk hpo hg (by decide) e.symm
  have hra : ¬ some a = pv.ownBlock := fun e => own_ne_blk hpo B3 (by decide) e.symm
  have hrl : ¬ some rl = pv.ownBlock := fun e => by obtain ⟨kl, hl, _⟩ := L3; exact hl.ne_own hpo e.symm
  have hrn5 : ¬ some rn = pv.ownBlock := fun e => hm3.ne_own hpo e.symm
  have L5 := L3.chg hc5 hrl hS5
  have N5 := N3.chg hc5 hrn5 hS5
  have B5 := B3.chg hc5 hra
  have H5 := H3.chg hc5 hS5
  have hc6 : Chg (fun k => k = a) w5 (w5.setCell ⟨a, 4, none⟩ v5) := (Chg.refl _ w5).setCell _ _ (fun _ => rfl)
  have hS6 : ∀ g cs, base ≤ g → Blk w5 g 22 cs → ¬ g = a := fun g cs _ hg e => hg.ne_ B5 (by decide) e
  have ho6 := own_chg hown5 hc6 (fun g hg e => own_ne_blk hown5 B5 (by decide) (e ▸ hg))
  refine ⟨⟨v5, B5.set_ 4 v5, A2.ne, L5.chg hc6 (Ne.symm hal) hS6, N5.chg hc6 (Ne.symm han) hS6, ⟨pr ++ [(i, v2)], ?_, ?_, fun j hj hj' => ?_⟩, hn⟩, ?_⟩
  · simpa [pcells_append, pcells, Dv.put] using ho6
  · simp [Dv.put, hpl]
  · simp only [Dv.put] at hj' ⊢
    by_cases hjl : j < pr.length
    · rw [List.getElem_append_left hjl, List.getElem_append_left (by omega)]
      exact ⟨(P3 j hjl (by omega)).1, ((P3 j hjl (by omega)).2.chg hc5 hS5).chg hc6 hS6⟩
    · have e1 : j = pr.length := by simp at hj; omega
      have e2 : j = D.pend.length := by omega
      rw [List.getElem_append_right (by omega), List.getElem_append_right (by omega)]
      simp only [e1, Nat.sub_self, List.getElem_cons_zero]
      simp only [hpl, Nat.sub_self, List.getElem_cons_zero]
      exact ⟨trivial, H5.chg hc6 hS6⟩
  · have c1 : Chg (Foot a rl rn pv) w1 w2 := Chg.of_below' hb2
    have c2 := c1.trans hc3 (fun k _ h => .inr (.inr (.inl h)))
    have c3 := c2.trans hc5 (fun k _ h => .inr (.inr (.inr h)))
    exact c3.trans hc6 (fun k _ h => .inl h)

set_option maxRecDepth 100000 in
set_option maxHeartbeats 400000 in
theorem write_put (i : Int) (l : Option Addr) (c : Nat) (ws : List Value) (h : At w base a rl rn pv D) (hb : D.bars i ws.length = 0) (hf : D.act.1 = 0) (hac : D.acts + 1 < 1099511627776) (hr : Row w l ws) (h1c : ∀ u ∈ ws, u.oneCell' = true) (hbase : base ≤ w.heap.size) (hla : ∀ x, l = some x → x.block ≠ a) :
    Calls Try.prog 14 #[.pointer (some ⟨a, 0, none⟩), .int .i64 i, .slice l ws.length c] w (Put w base a rl rn pv (D.act.2.put i ws)) := by
  obtain ⟨h1, h2, h3, h4⟩ := not_barred hb
  have HD := down_any h.box
  rw [h1] at HD
  have HD2 := Lib.hid HD
  have HA := Lib.hid (act_any h.box h.nums)
  have c1 : w.cell? ⟨a, 1, none⟩ = some (.int .i64 (D.blocks : Int)) := h.box.cell 1
  have c0 : w.cell? ⟨a, 0, none⟩ = some (.int .i64 (D.size : Int)) := h.box.cell 0
  have hne : (D.act.1 != 0) = false := by simpa using hf
  have hss : ((ws.length : Int) != (D.size : Int)) = false := by rw [h4]; simp
  have hsz := h.nums.fit.size
  have H := Lib.hid h
  have H4 := Lib.hid h4
  have hnz : l = none → ws.length = 0 ∧ c = 0 := by
    intro e
    subst e
    obtain ⟨x, hx, _⟩ := hr 0 (by omega)
    cases hx
  have HNZ := Lib.hid hnz
  have HF := Lib.hid hf
  clear hb h1 HD h hf h4 hnz
  go_enter Try.func14, Try.ntmps14
  go_wp2_with fail
  refine HD2.out.mono ?_
  rintro e w1 ⟨rfl, rfl⟩
  go_wp2_with fail
  refine HA.out.mono ?_
  rintro e w1 ⟨rfl, hbx, hc1⟩
  have A1 := H.out.acted hc1 hbx (by omega)
  have hr1 : Row w1 l ws := hr.chg hc1 hla
  have hz1 := hc1.size
  go_wp2_with fail
  refine (clone_u64 l ws.length c ws _ hr1 rfl h1c (by have := H4.out; omega) HNZ.out).mono ?_
  rintro e w2 ⟨v2, rfl, ho, hb2⟩
  obtain ⟨g2, cc2, rfl, -⟩ := own_some ho (by have := H4.out; omega)
  have A2 := A1.below hb2
  have hv2 : HeldV w2 base (.slice (some ⟨g2, 0, none⟩) ws.length cc2) ws := ⟨own_mono ho (by omega), h1c⟩
  obtain ⟨kv, hm2, hk2⟩ := A2.now
  obtain ⟨pr, hp1, hp2, hp3⟩ := A2.pend
  have hb3 := hb2.size
  have HV := Lib.hid hv2
  have HK := Lib.hid hk2
  have HP2 := Lib.hid hp2
  have HP3 := Lib.hid hp3
  have HC1 := Lib.hid hc1
  have HA1 := Lib.hid A1
  have HA2 := Lib.hid A2
  have HB2 := Lib.hid hb2
  have k3 : w2.cell? ⟨a, 3, none⟩ = some (.map (some rn)) := A2.box.cell 3
  clear hv2 hk2 hp2 hp3 hc1 A1 A2 hbx hr1 ho hb2 c1 c0 hr HA HD2
  go_wp2_with (at_mapUpdate; go_must (refine wpList_put rfl _ _ _ _ rfl (mk := Value.int .i64) Try.underlying78 (plain_int Try.underlying3) rn kv rfl hm2 i rfl _ rfl (finds_int Try.underlying3 _ _) ?_))
  intro w3 hm3 hc3
  have B3 := HA2.out.box.chg hc3 (HA2.out.now.ne_blk HA2.out.box)
  have hp4 := own_chg hp1 hc3 (fun g hg => (HA2.out.pend_ne hg).2.2)
  have k4' : w3.cell? ⟨a, 4, none⟩ = some pv := B3.cell 4
  have HB3 := Lib.hid B3
  have hz3 := hc3.size
  have HC3 := Lib.hid hc3
  have hpa := HA2.out.nums.fit.len
  have hac2 := D.act_same.2.2.2.2.2
  have hbz : base ≤ w3.heap.size := by omega
  have hnp : (D.act.2.pend.length + 1) * 32 ≤ 140737488355328 := by omega
  have hnm : D.act.2.pend.length + 1 ≤ maxLen := by unfold maxLen; omega
  have HB32 := Lib.hid hnp
  have HML := Lib.hid hnm
  have HBZ := Lib.hid hbz
  clear hp1 k3 B3 hc3 hnp hnm hpa hac2 hbz
  go_wp2_with (at_builtin; go_must (refine wpList_append rfl (.tmp 48) (.tmp 52) _ rfl el_write base _ _ _ rfl (hp4.alloc _) _ 1 1 [.int .i64 i, .slice (some ⟨g2, 0, none⟩) ws.length cc2] rfl rfl (Row.new w3 #[.int .i64 i, .slice (some ⟨g2, 0, none⟩) ws.length cc2] _ _) (by intro u hu; simp at hu; rcases hu with rfl | rfl <;> rfl) HML.out HB32.out (by have := HBZ.out; simp; omega) ?_))
  intro v5 w5 hown5 hg5 _ hb5
  obtain ⟨a5, c5, rfl⟩ := own_form hown5
  have hc5 : Chg (fun k => some k = pv.ownBlock) w3 w5 := ((Chg.refl _ w3).alloc _).trans (Chg.of_grown hg5) (fun _ _ h => h)
  have hra : ¬ some a = pv.ownBlock := fun e => own_ne_blk hp4 HB3.out (by decide) e.symm
  have B5 := HB3.out.chg hc5 hra
  have k4 : w5.cell? ⟨a, 4, none⟩ = some pv := B5.cell 4
  have f4 := B5.frozen 4
  have HG5 := Lib.hid hg5
  have HO5 := Lib.hid hown5
  clear hg5 hc5 hra B5 hown5 hb5 k4'
  go_wp2_with fail
  go_ret
  obtain ⟨q1, q2⟩ := put_close HA1.out HB2.out HV.out hm2 HK.out hm3 HC3.out HP2.out HP3.out hp4 HO5.out HG5.out HBZ.out (put_nums HA1.out.nums (by rw [H4.out]; exact D.act_same.2.2.2.1.symm) (act_len HF.out H.out.nums))
  exact ⟨rfl, q1, (HC1.out.mono (fun k _ h => .inl h)).trans q2 (fun k _ h => h)⟩
end

end Go.Proofs.Ytodjibhnmibedaa.Dev
