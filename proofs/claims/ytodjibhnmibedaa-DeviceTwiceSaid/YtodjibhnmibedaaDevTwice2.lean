/- The walk of the law DeviceTwice. -/
import Derived.Test.YtodjibhnmibedaaDevTwice
set_option linter.unusedVariables false
namespace Go.Proofs.Ytodjibhnmibedaa.Dev
open Go.RowKit

def AllF (f : Int → Option (List Value)) : Prop := ∀ k ws, f k = some ws → Wd ws
structure AllW (D : Dv) : Prop where
  now : AllF D.now
  lasts : AllF D.lasts
  pend : ∀ p ∈ D.pend, Wd p.2
theorem AllF.upd {f : Int → Option (List Value)} (h : AllF f) {k : Int} {ws : List Value} (hw : Wd ws) : AllF (upd f k ws) := by
  intro j xs hj
  unfold Dev.upd at hj
  split at hj
  · cases hj; exact hw
  · exact h j xs hj
theorem AllF.over {l : List (Int × List Value)} (hl : ∀ p ∈ l, Wd p.2) {f : Int → Option (List Value)} (h : AllF f) : AllF (over f l) := by
  induction l generalizing f with
  | nil => exact h
  | cons p l ih => exact ih (fun q hq => hl q (by simp [hq])) (h.upd (hl p (by simp)))
theorem AllF.kept {D : Dv} (h : AllW D) (keep : List Bool) : ∀ n, AllF (kept D keep n) := by
  intro n
  induction n with
  | zero => exact h.lasts
  | succ n ih =>
    by_cases hn : n < D.pend.length
    · cases hq : keep.getD n false
      · rw [kept_no hn hq]; exact ih
      · rw [kept_yes hn hq]; exact ih.upd (h.pend _ (List.getElem_mem hn))
    · have hnone : D.pend[n]? = none := List.getElem?_eq_none (by omega)
      have : Dev.kept D keep (n + 1) = Dev.kept D keep n := by
        simp only [Dev.kept, hnone]
      rw [this]; exact ih
theorem AllW.put {D : Dv} (h : AllW D) {i : Int} {ws : List Value} (hw : Wd ws) : AllW (D.tick.put i ws) :=
  ⟨AllF.upd h.now hw, h.lasts, fun p hp => by
    rcases List.mem_append.1 hp with hp | hp
    · exact h.pend p hp
    · rw [List.mem_singleton] at hp; subst hp; exact hw⟩
theorem AllW.sync {D : Dv} (h : AllW D) : AllW D.tick.sync := ⟨h.now, AllF.over h.pend h.lasts, fun p hp => by cases hp⟩
theorem AllW.crash {D : Dv} (h : AllW D) (keep : List Bool) : AllW (D.crash keep) := ⟨AllF.kept h keep _, AllF.kept h keep _, fun p hp => by cases hp⟩
theorem AllW.words {D : Dv} (h : AllW D) (i : Int) : Wd (D.words i) := by
  unfold Dv.words
  cases hn : D.now i with
  | none => exact Wd.zero _
  | some ws => exact h.now i ws hn

structure Tw (w0 : World) (d rl rn : Nat) (D : Dv) (k : Nat) (wr : World) : Prop where
  ex : ∃ pv, At wr w0.heap.size d rl rn pv D
  calm : Calm D
  size : D.size = 8 ∧ D.blocks = 6
  aw : AllW D
  acts : D.acts ≤ k
  lo : Chg (fun q => w0.heap.size ≤ q) w0 wr

theorem row_far {w0 : World} {a : Option Addr} {xs : List Value} (h : Row w0 a xs) {d : Nat} (hd : w0.heap.size ≤ d) : ∀ x, a = some x → 0 < xs.length → x.block ≠ d := by
  intro x hx h0
  obtain ⟨b, off, e, _, hb⟩ := h.at_ h0
  rw [hx] at e
  cases e
  show b ≠ d
  omega

structure Zw (w0 : World) (F : Dv) (z zl zn j : Nat) (wr : World) : Prop where
  at_ : At wr w0.heap.size z zl zn (.slice none 0 0) F
  calm : Calm F
  size : F.size = 8 ∧ F.blocks = 6
  same : F.now = F.lasts
  aw : AllW F
  acts : F.acts ≤ 80 + 3 * j
  pend : F.pend = []
  zlo : w0.heap.size ≤ z ∧ w0.heap.size ≤ zl ∧ w0.heap.size ≤ zn
  lo : Chg (fun q => w0.heap.size ≤ q) w0 wr
theorem Zw.drewN {w0 : World} {F : Dv} {z zl zn j : Nat} {wr : World} (Z : Zw w0 F z zl zn j wr) (n : Nat) : Zw w0 F z zl zn j (wr.drewN n) :=
  ⟨Z.at_.drewN n, Z.calm, Z.size, Z.same, Z.aw, Z.acts, Z.pend, Z.zlo, Z.lo.drewN n⟩

def ZLoop (w0 : World) (zv iv : Value) (wr : World) : Prop :=
  ∃ (j : Nat) (F : Dv) (z zl zn : Nat), iv = .int .i64 (j : Int) ∧ zv = .pointer (some ⟨z, 0, none⟩) ∧ j ≤ 6 ∧ Zw w0 F z zl zn j wr

theorem own_foot {w : World} {base base' a rl rn : Nat} {pv v : Value} {D : Dv} {n : Nat} {xs : List Value} (A : At w base a rl rn pv D) (h : w.ownsRow base' 22 1 v n xs) : ∀ g, v.ownBlock = some g → ¬ Foot a rl rn pv g := by
  intro g hg
  rcases h.2 with ⟨rfl, _⟩ | ⟨g', cap, cur, rfl, _, hh, _⟩
  · simp [Value.ownBlock] at hg
  · have : g' = g := by simpa [Value.ownBlock] using hg
    subst this
    exact foot_ne (t := 22) (cs := cur) A hh (by decide) (by decide)

theorem back_words {F : Dv} (hs : F.now = F.lasts) (q : Int) (ws : List Value) (j : Int) : ((F.tick.tick.put q ws).crash []).words j = F.words j := by
  unfold Dv.words
  have h1 : ((F.tick.tick.put q ws).crash []).now = F.now := by
    show kept (F.tick.tick.put q ws) [] _ = F.now
    rw [kept_none (fun k => by simp) _ (Nat.le_refl _)]
    exact hs.symm
  rw [h1]
  rfl
theorem back_same (D : Dv) (keep : List Bool) : (D.crash keep).now = (D.crash keep).lasts := rfl

def TwLoop (w0 : World) (d rl rn m : Nat) (iv : Value) (wr : World) : Prop :=
  ∃ (k : Nat) (D : Dv), iv = .int .i64 (k : Int) ∧ k ≤ m ∧ Tw w0 d rl rn D k wr

set_option maxRecDepth 100000 in
theorem twice_big {w : World} (s : Option Addr) (m c : Nat) (l : List Op5) (h : rdSlice 5 rdOp5 w [.slice s m c] l) (s2 : Option Addr) (n2 c2 : Nat) (hn2 : n2 ≤ 9223372036854775807) (hno : ¬ (m ≤ 80 ∧ n2 ≤ 200)) :
    Calls Try.prog 6 #[.slice s m c, .slice s2 n2 c2] w fun e w' => e = .returned (.bool true) ∧ Below w.heap.size w w' := by
  go_enter Try.func6, Try.ntmps6
  go_wp2_with fail
  refine (awake_any _).mono ?_
  rintro e1 w1 ⟨rfl, hb1⟩
  go_wp2_with fail
  refine (few_any h w1 hb1).mono ?_
  rintro e2 w2 ⟨b, rfl, hbf, rfl⟩
  cases b
  · go_wp2_with fail
    refine (awake_any _).mono ?_
    rintro e2 w2 ⟨rfl, hb2⟩
    go_wp2_with fail
    go_ret
    exact ⟨rfl, hb1.trans (hb2.mono hb1.size)⟩
  · have hm := hbf rfl
    have h200 : (200 : Int) < n2 := by omega
    clear hno hbf
    go_wp2_with fail
    refine (awake_any _).mono ?_
    rintro e2 w2 ⟨rfl, hb2⟩
    go_wp2_with fail
    go_ret
    exact ⟨rfl, hb1.trans (hb2.mono hb1.size)⟩

set_option maxRecDepth 100000 in
set_option maxHeartbeats 4000000 in
theorem twice_law {w : World} (s : Option Addr) (m c : Nat) (l : List Op5) (h : rdSlice 5 rdOp5 w [.slice s m c] l) (s2 : Option Addr) (n2 c2 : Nat) (kl : List Bool) (hkr : Row w s2 (kl.map Value.bool)) (hkn : kl.length = n2) (h80 : m ≤ 80) (h200 : n2 ≤ 200) :
    Calls Try.prog 6 #[.slice s m c, .slice s2 n2 c2] w fun e w' => e = .returned (.bool true) ∧ Below w.heap.size w w' := by
  obtain ⟨hl, -, -, hr⟩ := rdSlice_ops h
  have HN := Lib.hid (fun w => new_ok 8 6 w (by omega) (by omega) (by omega))
  have hm80 : (m : Int) ≤ 80 := by omega
  have hn200 : (n2 : Int) ≤ 200 := by omega
  have HH := Lib.hid h
  have HL := Lib.hid hl
  have HR := Lib.hid hr
  have HKR := Lib.hid hkr
  have HKN := Lib.hid hkn
  clear h hl hr hkr hkn
  go_enter Try.func6, Try.ntmps6
  go_wp2_with fail
  refine (awake_any _).mono ?_
  rintro e1 w1 ⟨rfl, hb1⟩
  go_wp2_with fail
  refine (few_any HH.out w1 hb1).mono ?_
  rintro e2 w2 ⟨b, rfl, hbf, rfl⟩
  cases b
  · go_wp2_with fail
    refine (awake_any _).mono ?_
    rintro e2 w2 ⟨rfl, hb2⟩
    go_wp2_with fail
    go_ret
    exact ⟨rfl, hb1.trans (hb2.mono hb1.size)⟩
  clear hbf
  go_wp2_with fail
  refine (HN.out _).mono ?_
  rintro e2 w2 ⟨rfl, hA2, hb2, hs2⟩
  have h2 := hb1.trans (hb2.mono hb1.size)
  have A2 := hA2 w.heap.size
  obtain ⟨d, hd⟩ : ∃ d, d = w1.heap.size + 2 := ⟨_, rfl⟩
  obtain ⟨rl, hrl⟩ : ∃ r, r = w1.heap.size := ⟨_, rfl⟩
  rw [← hd, ← hrl] at A2
  rw [← hd]
  have hz1 := hb1.size
  have hlo : w.heap.size ≤ d ∧ w.heap.size ≤ rl ∧ w.heap.size ≤ rl + 1 := by omega
  have T0 : Tw w d rl (rl + 1) (fresh 8 6) 0 w2 := ⟨⟨_, A2⟩, fresh_calm 8 6, ⟨rfl, rfl⟩, ⟨(fun _ _ h => by cases h), (fun _ _ h => by cases h), (fun _ h => by cases h)⟩, Nat.le_refl _, Chg.of_below h2⟩
  have HT0 := Lib.hid T0
  clear hA2 hb2 hs2 hd hrl HN hb1 A2 hz1 h2 T0
  go_wp2_with fail
  go_loopw [7] (fun iv wr => TwLoop w d rl (rl + 1) m iv wr) (fun iv _ => m - (intOf iv).toNat)
  case atStart => exact ⟨0, _, rfl, by omega, HT0.out⟩
  case round =>
    obtain ⟨k, D, rfl, hk, T⟩ := hrel
    clear HT0
    by_cases hlt : (k : Int) < m
    · have hkl : k < l.length := by have := HL.out; omega
      obtain ⟨⟨b, off, ka, kn, kc, rfl, hbl, c0, c1, c2, c3, c4, hkn⟩, w1, w2', w3⟩ := HR.out k hkl
      have hto := fun (p : Addr) (hp : p.block = b) => World.cell?_of_block (a := p) (T.lo.block p.block (by omega) (by omega))
      have d0 := (hto _ rfl).trans c0
      have d1 := (hto _ rfl).trans c1
      have d2 := (hto _ rfl).trans c2
      have d3 := (hto _ rfl).trans c3
      have d4 := (hto _ rfl).trans c4
      generalize l[k] = o at *
      obtain ⟨kind, I, X, odd, keep⟩ := o
      simp only at d0 d1 d2 d3 d4 w1 w2' w3
      obtain ⟨q, hq, hq6⟩ := u64_mod6 I
      have hqi : IntKind.i64.wrap (q : Int) = (q : Int) := by rw [IntKind.wrap_i64]; omega
      have bb : Below wr.heap.size wr (wr.alloc (.cells #[.int .i64 kind, .int .i64 I, .int .u64 X, .bool odd, .slice ka kn kc] 44)) := (Below.refl wr.heap.size wr).alloc (Nat.le_refl _) _
      have hBo := Blk.new wr 44 #[.int .i64 kind, .int .i64 I, .int .u64 X, .bool odd, .slice ka kn kc]
      have HT := Lib.hid T
      have HBB := Lib.hid bb
      have HBO := Lib.hid hBo
      clear hto c0 c1 c2 c3 c4 hkl T bb hBo
      by_cases hkind : kind = 2
      · have e2 : (kind == 2) = true := by rw [hkind]; rfl
        clear hkind
        obtain ⟨pv, A⟩ := HT.out.ex
        have A' := A.below HBB.out
        have HA' := Lib.hid A'
        clear A A'
        go_wp2_with fail
        have m1 : (wr.alloc (.cells #[.int .i64 kind, .int .i64 I, .int .u64 X, .bool odd, .slice ka kn kc] 44)).cell? ⟨wr.heap.size, 1, none⟩ = some (.int .i64 I) := HBO.out.cell 1
        have m2 : (wr.alloc (.cells #[.int .i64 kind, .int .i64 I, .int .u64 X, .bool odd, .slice ka kn kc] 44)).cell? ⟨wr.heap.size, 2, none⟩ = some (.int .u64 X) := HBO.out.cell 2
        have hz := HBB.out.size
        generalize wr.alloc (.cells #[.int .i64 kind, .int .i64 I, .int .u64 X, .bool odd, .slice ka kn kc] 44) = W at *
        have hq0 : (0 : Int) ≤ (q : Int) := by omega
        have hdl := HA'.out.box.lt
        have hwz := HT.out.lo.size
        clear d0 d1 d2 d3 d4
        go_region_held3 (fun w' => w'.cell? ⟨wr.heap.size, 1, none⟩ = some (.int .i64 I) ∧ w'.cell? ⟨wr.heap.size, 2, none⟩ = some (.int .u64 X))
          (((try go_split_ands); (try dsimp only); (repeat' apply And.intro) <;> first | assumption | exact hB5.cell 1 | exact hB5.cell 2 | exact hB4.cell 1 | exact hB4.cell 2 | go_keep))
          ((first
            | (go_at_call 23; refine (block_any X _).mono ?_; rintro e4 w4 ⟨g, gc, ws, rfl, ho, hwd, hg, hb4⟩; have hB4 := HBO.out.below (below_undrew hb4) HBO.out.lt)
            | (go_at_call 14; refine (write_calm (q : Int) (some ⟨g, 0, none⟩) 8 gc ws (HA'.out.below (below_undrew hb4)) HT.out.calm ho.1 hq0 (by rw [HT.out.size.2]; omega) HT.out.size.1.symm (by have := HT.out.acts; omega) (Row.of_own ho).1 hwd.one (by have := hb4.size; have h9 : W.drew.heap.size = W.heap.size := rfl; omega) (by rintro z hz9; injection hz9 with hz9; subst hz9; have h9 : W.drew.heap.size = W.heap.size := rfl; show g ≠ d; omega)).mono ?_; rintro e5 w5 ⟨rfl, hA5, hc5⟩; have hB5 := hB4.chg hc5 (foot_ne (HA'.out.below (below_undrew hb4)) hB4 (by decide) (by decide)))))
        all_goals
          have hT5 : Tw w d rl (rl + 1) (D.tick.put (q : Int) ws) (k + 1) w5 := ⟨hA5, HT.out.calm, HT.out.size, HT.out.aw.put hwd, Nat.succ_le_succ HT.out.acts, ((HT.out.lo.then_below HBB.out).then_below (below_undrew hb4)).trans hc5 (fun z _ e => foot_lo (HA'.out.below (below_undrew hb4)) hlo (Nat.le_refl _) z e)⟩
          have HT5 := Lib.hid hT5
          clear hT5 hA5 hc5 hB5 hB4 hb4 ho hwd hg m1 m2
          go_wp2_with fail
          go_roundw
          case rel => exact ⟨k + 1, _, by go_num, by omega, HT5.out⟩
          case measure => simp [intOf]; omega
      · have e2 : (kind == 2) = false := by rw [beq_eq_false_iff_ne]; exact hkind
        by_cases hk3 : kind = 3
        · have e3 : (kind == 3) = true := by rw [hk3]; rfl
          obtain ⟨pv, A⟩ := HT.out.ex
          have A' := A.below HBB.out
          have hC := sync_done A' HT.out.calm.2.2 (by rw [calm_act HT.out.calm]) (by have := HT.out.acts; omega)
          rw [calm_tick HT.out.calm] at hC
          have HC := Lib.hid hC
          have HA' := Lib.hid A'
          clear hC A' A hk3 hkind
          go_wp2_with fail
          refine HC.out.mono ?_
          rintro e4 w4 ⟨rfl, A4, hc4⟩
          have hT5 : Tw w d rl (rl + 1) D.tick.sync (k + 1) w4 := ⟨⟨_, A4⟩, HT.out.calm, HT.out.size, HT.out.aw.sync, Nat.succ_le_succ HT.out.acts, (HT.out.lo.then_below HBB.out).trans hc4 (fun z _ e => foot_lo HA'.out hlo (Nat.le_refl _) z e)⟩
          have HT5 := Lib.hid hT5
          clear hT5 A4 hc4
          go_wp2_with fail
          go_roundw
          case rel => exact ⟨k + 1, _, by go_num, by omega, HT5.out⟩
          case measure => simp [intOf]; omega
        · have e3 : (kind == 3) = false := by rw [beq_eq_false_iff_ne]; exact hk3
          have hT5 : Tw w d rl (rl + 1) D (k + 1) (wr.alloc (.cells #[.int .i64 kind, .int .i64 I, .int .u64 X, .bool odd, .slice ka kn kc] 44)) := by
            obtain ⟨pv, A⟩ := HT.out.ex
            exact ⟨⟨_, A.below HBB.out⟩, HT.out.calm, HT.out.size, HT.out.aw, Nat.le_succ_of_le HT.out.acts, HT.out.lo.then_below HBB.out⟩
          have HT5 := Lib.hid hT5
          clear hT5 hkind hk3
          go_wp2_with fail
          go_roundw
          case rel => exact ⟨k + 1, _, by go_num, by omega, HT5.out⟩
          case measure => simp [intOf]; omega
    · obtain rfl : k = m := by omega
      obtain ⟨pv, A⟩ := T.ex
      have hz := T.lo.size
      have hr1 := row_chg HKR.out T.lo (fun z hz9 e => by omega)
      have hpl : D.pend.length ≤ 80 := by have := A.nums.fit.len; have := T.acts; omega
      have hC1 := crash_any A kl s2 n2 c2 hr1 HKN.out (by omega) (fun x hx hp => row_far HKR.out hlo.1 x hx (by rw [List.length_map]; exact hp)) (by omega)
      have HC1 := Lib.hid hC1
      have HT := Lib.hid T
      have HA := Lib.hid A
      clear hC1 T A hr1 hpl
      go_wp2_with fail
      refine HC1.out.mono ?_
      rintro e3 w3 ⟨x, xl, xn, rfl, X3, B3, hc3, hx1, hx2, hx3⟩
      have hxd : x ≠ d := by have := HA.out.box.lt; omega
      have lo3 := HT.out.lo.trans hc3 (fun z _ e => by omega)
      have hr3 := row_chg HKR.out lo3 (fun z hz9 e => by omega)
      have hax := acts_any X3.box
      rw [show (D.crash kl).acts = D.acts from rfl] at hax
      have HAx := Lib.hid hax
      clear hax
      have hC2 := crash_any X3 kl s2 n2 c2 hr3 HKN.out (by omega) (fun y hy hp => row_far HKR.out (by omega) y hy (by rw [List.length_map]; exact hp)) (by show (0 : Nat) < _; omega)
      have HC2 := Lib.hid hC2
      have HX3 := Lib.hid X3
      have HB3 := Lib.hid B3
      have HL3 := Lib.hid lo3
      clear hC2 X3 B3 lo3 hr3 hc3 HC1
      go_wp2_with fail
      refine HAx.out.mono ?_
      rintro e4 w4 ⟨rfl, rfl⟩
      go_wp2_with fail
      refine HC2.out.mono ?_
      rintro e5 w5 ⟨y, yl, yn, rfl, Y5, C5, hc5, hy1, hy2, hy3⟩
      have hz3 := HL3.out.size
      have B5 := HB3.out.chg hc5 (fun e => hxd e.symm)
      have lo5 := HL3.out.trans hc5 (fun z _ e => by omega)
      have had := acts_any B5
      rw [show D.blow.acts = D.acts from rfl] at had
      have HAd := Lib.hid had
      have hay := acts_any Y5.box
      rw [show ((D.crash kl).crash kl).acts = D.acts from rfl] at hay
      have HAy := Lib.hid hay
      clear had hay
      have hee : ((D.acts : Int) != (D.acts : Int)) = false := by simp
      have hC3 := crash_any Y5 [] none 0 0 (Row.nil _ _) rfl (by omega) (fun z hz9 => by cases hz9) (by show (0 : Nat) < _; omega)
      have HC3 := Lib.hid hC3
      have HL5 := Lib.hid lo5
      clear hC3 lo5 B5 Y5 C5 hc5 HC2 HAx
      go_wp2_with fail
      refine HAd.out.mono ?_
      rintro e6 w6 ⟨rfl, rfl⟩
      go_wp2_with fail
      refine HAy.out.mono ?_
      rintro e6 w6 ⟨rfl, rfl⟩
      go_wp2_with fail
      refine HC3.out.mono ?_
      rintro e7 w7 ⟨z, zl, zn, rfl, Z7, C7, hc7, hz1, hz2, hz3'⟩
      have hz5 := HL5.out.size
      have lo7 := HL5.out.trans hc7 (fun v _ e => by omega)
      have Z0 : Zw w (((D.crash kl).crash kl).crash []) z zl zn 0 w7 := ⟨Z7, ⟨rfl, rfl, rfl⟩, HT.out.size, rfl, ((HT.out.aw.crash _).crash _).crash _, (by show D.acts ≤ 80 + 3 * 0; have := HT.out.acts; omega), rfl, ⟨by omega, by omega, by omega⟩, lo7⟩
      have HZ0 := Lib.hid Z0
      clear Z0 Z7 C7 hc7 lo7 HT HA HX3 HB3 HL3 HL5 HC3 HAd HAy
      go_wp2_with fail
      go_loopw [12, 13] (fun zv iv wr => ZLoop w zv iv wr) (fun _ iv _ => 6 - (intOf iv).toNat)
      case atStart => exact ⟨0, _, z, zl, zn, rfl, rfl, by omega, HZ0.out⟩
      case round =>
        obtain ⟨j, F, z8, zl8, zn8, rfl, rfl, hj, Z⟩ := hrel
        clear HZ0
        by_cases hj6 : (j : Int) < 6
        · have hC := read_calm (j : Int) Z.at_ Z.calm (by omega) (by rw [Z.size.2]; omega) (by have := Z.acts; omega)
          have HC := Lib.hid hC
          have HZ := Lib.hid Z
          have hF8 := Z.size.1
          have HF8 := Lib.hid hF8
          obtain ⟨q, hq, hq6⟩ : ∃ q : Nat, ((j : Int) + 1) % 6 = (q : Int) ∧ q < 6 := ⟨(j + 1) % 6, by omega, by omega⟩
          clear hC Z hF8
          go_wp2_with fail
          refine HC.out.mono ?_
          rintro e8 w8 ⟨g, c8, rfl, ho8, hg8, A8, hc8⟩
          rw [HF8.out] at ho8
          rw [HF8.out]
          have hwd := HZ.out.aw.words (j : Int)
          have hwl : (F.words (j : Int)).length = 8 := ho8.1
          generalize hW : F.words (j : Int) = ws at *
          have HW := Lib.hid hW
          have HWL := Lib.hid hwl
          have HWD := Lib.hid hwd
          have hr8 := (Row.of_own ho8).1
          have HA8 := Lib.hid A8
          have HC8 := Lib.hid hc8
          clear hW hwl ho8 A8 hc8
          go_wp2_with (at_builtin; go_must (refine wpList_append rfl (.tmp 104) (.tmp 105) _ rfl el_u64 w8.heap.size _ 0 [] rfl (World.ownsRow_nil _ _ _ _) (some ⟨g, 0, none⟩) 8 c8 ws rfl (by rw [HWL.out]) hr8 (HWD.out.one) (by unfold maxLen; omega) (by omega) (Nat.le_refl _) ?_))
          intro v9 w9 ho9 _ _ hb9
          have ho9' : w9.ownsRow w8.heap.size 22 1 v9 8 ws := by simpa using ho9
          obtain ⟨og, oc, rfl, -⟩ := own_some ho9' (by omega)
          have A9 := HA8.out.below hb9
          have HO9 := Lib.hid ho9'
          have HA9 := Lib.hid A9
          have HB9 := Lib.hid hb9
          clear ho9 ho9' A9 hb9 hr8 hwd
          go_wp2_with fail
          refine (block_any 99 w9).mono ?_
          rintro e10 w10 ⟨bg, bc, bws, rfl, bho, bwd, bhg, hb10⟩
          have A10 := HA9.out.below hb10
          have O10 := own_chg HO9.out (Chg.of_below' (S := fun _ => False) hb10) (fun _ _ h => h)
          have hzl := HA9.out.box.lt
          have hz89 : w.heap.size ≤ w10.heap.size := by have := HZ.out.lo.size; have := HC8.out.size; have := HB9.out.size; have := hb10.size; omega
          have hCw := write_calm (q : Int) (some ⟨bg, 0, none⟩) 8 bc bws A10 HZ.out.calm bho.1 (by omega) (by show (q : Int) < (F.blocks : Int); rw [HZ.out.size.2]; omega) HF8.out.symm (by show F.acts + 1 + 1 < _; have := HZ.out.acts; omega) (Row.of_own bho).1 bwd.one hz89 (by rintro v hv; injection hv with hv; subst hv; show bg ≠ z8; omega)
          have HCW := Lib.hid hCw
          have HA10 := Lib.hid A10
          have HO10 := Lib.hid O10
          have HB10 := Lib.hid hb10
          have HBW := Lib.hid bwd
          clear hCw A10 O10 hb10 bho bwd bhg hzl hz89
          go_wp2_with fail
          refine HCW.out.mono ?_
          rintro e11 w11 ⟨rfl, ⟨pv11, A11⟩, hc11⟩
          have O11 := own_chg HO10.out hc11 (own_foot HA10.out HO10.out)
          have hp11 : (F.tick.tick.put (q : Int) bws).pend.length = 1 := by
            show (F.pend ++ [((q : Int), bws)]).length = 1
            rw [HZ.out.pend]
            rfl
          have hCc := crash_any A11 [] none 0 0 (Row.nil _ _) rfl (by omega) (fun v hv => by cases hv) (by rw [hp11]; omega)
          have HCC := Lib.hid hCc
          have HO11 := Lib.hid O11
          have HA11 := Lib.hid A11
          have lo11 := (((HZ.out.lo.trans HC8.out (fun v _ e => by have := HZ.out.zlo; omega)).then_below (HB9.out.mono (Nat.le_refl _))).then_below HB10.out).trans hc11 (fun v _ e => foot_lo HA10.out HZ.out.zlo (Nat.le_refl _) v e)
          have HL11 := Lib.hid lo11
          clear hCc O11 A11 lo11 hc11 hp11
          go_wp2_with fail
          refine HCC.out.mono ?_
          rintro e12 w12 ⟨z12, zl12, zn12, rfl, Z12, C12, hc12, hy1, hy2, hy3⟩
          have O12 := own_chg HO11.out hc12 (fun v hv e => own_ne_blk HO11.out HA11.out.box (by decide) (e ▸ hv))
          have hwj := back_words HZ.out.same (q : Int) bws (j : Int)
          rw [HW.out] at hwj
          have hz11 := HL11.out.size
          have lo12 := HL11.out.trans hc12 (fun v _ e => by have := HZ.out.zlo; omega)
          have hCr := read_calm (j : Int) Z12 ⟨rfl, rfl, rfl⟩ (by omega) (by show (j : Int) < (F.blocks : Int); rw [HZ.out.size.2]; omega) (by show F.acts + 1 + 1 + 1 < _; have := HZ.out.acts; omega)
          rw [hwj] at hCr
          have hs12 : ((F.tick.tick.put (q : Int) bws).crash []).size = 8 := HF8.out
          have HS12 := Lib.hid hs12
          have HCR := Lib.hid hCr
          have HO12 := Lib.hid O12
          have HZ12 := Lib.hid Z12
          have HL12 := Lib.hid lo12
          clear hCr O12 Z12 C12 hc12 lo12 hwj hs12
          go_wp2_with fail
          refine HCR.out.mono ?_
          rintro e13 w13 ⟨g13, c13, rfl, ho13, hg13, A13, hc13⟩
          rw [HS12.out] at ho13
          rw [HS12.out]
          have O13 := own_chg HO12.out hc13 (fun v hv e => own_ne_blk HO12.out HZ12.out.box (by decide) (e ▸ hv))
          have hSm := same_self ws (some ⟨og, 0, none⟩) (some ⟨g13, 0, none⟩) 8 oc c13 w13 (Row.of_own O13).1 (Row.of_own ho13).1 HWD.out HWL.out (by omega)
          have HSM := Lib.hid hSm
          have hZ13 : Zw w ((F.tick.tick.put (q : Int) bws).crash []).tick z12 zl12 zn12 (j + 1) w13 :=
            ⟨A13, ⟨rfl, rfl, rfl⟩, HZ.out.size, rfl, (by
              have h1 : AllW (F.tick.tick.put (q : Int) bws) := AllW.put (D := F.tick) ⟨HZ.out.aw.now, HZ.out.aw.lasts, HZ.out.aw.pend⟩ HBW.out
              have h2 := h1.crash []
              exact ⟨h2.now, h2.lasts, h2.pend⟩), (by show F.acts + 1 + 1 + 1 ≤ 80 + 3 * (j + 1); have := HZ.out.acts; omega), rfl, ⟨by omega, by omega, by omega⟩, HL12.out.trans hc13 (fun v _ e => by omega)⟩
          have HZ13 := Lib.hid hZ13
          clear hSm hZ13 O13 ho13 A13 hc13 hg13
          go_wp2_with fail
          refine HSM.out.mono ?_
          rintro e14 w14 ⟨rfl, dd, rfl⟩
          go_wp2_with fail
          go_roundw
          case rel => exact ⟨j + 1, _, z12, zl12, zn12, by go_num, rfl, by omega, HZ13.out.drewN _⟩
          case measure => simp [intOf]; omega
        · have HLo := Lib.hid Z.lo
          clear Z
          go_wp2_with fail
          go_ret
          exact ⟨rfl, HLo.out.below_of (Nat.le_refl _) (fun v hv e => by omega)⟩

theorem DeviceTwice_walk {w : World} (s : Option Addr) (m c : Nat) (l : List Op5) (h : rdSlice 5 rdOp5 w [.slice s m c] l) (s2 : Option Addr) (n2 c2 : Nat) (kl : List Bool) (hk : rdSlice 1 rdBool w [.slice s2 n2 c2] kl) :
    Calls Try.prog 6 #[.slice s m c, .slice s2 n2 c2] w fun e w' => e = .returned (.bool true) ∧ Below w.heap.size w w' := by
  obtain ⟨a', n', c', e, h1, h2, h3, h4⟩ := rdSlice_bools hk
  cases e
  unfold maxLen at h3
  by_cases h80 : m ≤ 80 ∧ n2 ≤ 200
  · exact twice_law s m c l h s2 n2 c2 kl h4 h1 h80.1 h80.2
  · exact twice_big s m c l h s2 n2 c2 (by omega) h80

end Go.Proofs.Ytodjibhnmibedaa.Dev
