/- The walk of the law DeviceKeeps. -/
import Derived.Test.YtodjibhnmibedaaDevFew
import Derived.Test.YtodjibhnmibedaaDevFaultsA
set_option linter.unusedVariables false
namespace Go.Proofs.Ytodjibhnmibedaa.Dev
open Go.RowKit

def arr6 (N : Nat → Int) : Array Value := #[.int .u64 (N 0), .int .u64 (N 1), .int .u64 (N 2), .int .u64 (N 3), .int .u64 (N 4), .int .u64 (N 5)]
def set6 (N : Nat → Int) (k : Nat) (x : Int) : Nat → Int := fun j => if j = k then x else N j
theorem arr6_set (N : Nat → Int) (k : Nat) (hk : k < 6) (x : Int) : (arr6 N).setIfInBounds k (.int .u64 x) = arr6 (set6 N k x) := by
  match k, hk with
  | 0, _ => rfl
  | 1, _ => rfl
  | 2, _ => rfl
  | 3, _ => rfl
  | 4, _ => rfl
  | 5, _ => rfl
theorem arr6_get (N : Nat → Int) (k : Nat) (hk : k < 6) : (arr6 N)[k]? = some (.int .u64 (N k)) := by
  match k, hk with
  | 0, _ => rfl
  | 1, _ => rfl
  | 2, _ => rfl
  | 3, _ => rfl
  | 4, _ => rfl
  | 5, _ => rfl

structure Kp (w0 : World) (d rl rn nb sb : Nat) (D : Dv) (N S : Nat → Int) (n : Nat) (wr : World) : Prop where
  ex : ∃ pv, At wr w0.heap.size d rl rn pv D
  calm : Calm D
  size : D.size = 8 ∧ D.blocks = 6
  now : ∀ k : Nat, k < 6 → D.words ((k : Nat) : Int) = wcells (N k)
  syn : ∀ k : Nat, k < 6 → (D.lasts ((k : Nat) : Int)).getD (zeroV 8) = wcells (S k)
  ov : D.now = over D.lasts D.pend
  len : D.pend.length = n
  nblk : Blk wr nb 41 (arr6 N)
  sblk : Blk wr sb 41 (arr6 S)
  lo : Chg (fun q => w0.heap.size ≤ q) w0 wr

def KeepLoop (w0 : World) (d rl rn nb sb : Nat) (m : Nat) (nv iv : Value) (wr : World) : Prop :=
  ∃ (k n : Nat) (D : Dv) (N S : Nat → Int), iv = .int .i64 (k : Int) ∧ nv = .int .i64 (n : Int) ∧ k ≤ m ∧ n ≤ k ∧ D.acts ≤ k ∧ Kp w0 d rl rn nb sb D N S n wr

set_option maxRecDepth 100000 in
theorem keeps_big {w : World} (s : Option Addr) (m c : Nat) (l : List Op5) (h : rdSlice 5 rdOp5 w [.slice s m c] l) (all : Bool) (hno : ¬ m ≤ 80) :
    Calls Try.prog 5 #[.slice s m c, .bool all] w fun e w' => e = .returned (.bool true) ∧ Below w.heap.size w w' := by
  go_enter Try.func5, Try.ntmps5
  go_wp2_with fail
  refine (awake_any _).mono ?_
  rintro e1 w1 ⟨rfl, hb1⟩
  go_wp2_with fail
  refine (few_any h w1 hb1).mono ?_
  rintro e2 w2 ⟨b, rfl, hbf, rfl⟩
  cases b
  · go_wp2_with fail
    refine (awake_any _).mono ?_
    rintro e2 w2 ⟨rfl, hb2⟩
    go_wp2_with fail
    go_ret
    exact ⟨rfl, hb1.trans (hb2.mono hb1.size)⟩
  · exact absurd (hbf rfl) hno

theorem foot_ne {w : World} {base a rl rn : Nat} {pv : Value} {D : Dv} (h : At w base a rl rn pv D) {g : Nat} {t : TypeId} {cs : Array Value} (hb : Blk w g t cs) (h1 : t ≠ 81) (h2 : t ≠ 84) : ¬ Foot a rl rn pv g := by
  obtain ⟨pr, h3, _⟩ := h.pend
  rintro (rfl | rfl | rfl | e)
  · exact hb.ne_ h.box h1 rfl
  · exact h.lasts.ne_blk hb rfl
  · exact h.now.ne_blk hb rfl
  · exact own_ne_blk h3 hb (Ne.symm h2) e.symm

section
variable {w0 wr w5 : World} {d rl rn nb sb n : Nat} {D : Dv} {N S : Nat → Int}
theorem Kp.put (K : Kp w0 d rl rn nb sb D N S n wr) {q : Nat} (hq : q < 6) (X : Int) (hA : ∃ pv, At w5 w0.heap.size d rl rn pv (D.tick.put (q : Int) (wcells X))) (hn : Blk w5 nb 41 (arr6 (set6 N q X))) (hs : Blk w5 sb 41 (arr6 S)) (hlo : Chg (fun q => w0.heap.size ≤ q) w0 w5) :
    Kp w0 d rl rn nb sb (D.tick.put (q : Int) (wcells X)) (set6 N q X) S (n + 1) w5 := by
  refine ⟨hA, K.calm, K.size, fun j hj => ?_, K.syn, ?_, ?_, hn, hs, hlo⟩
  · unfold Dv.words Dv.put Dv.tick upd set6
    simp only
    by_cases hjq : j = q
    · rw [if_pos (by omega), if_pos hjq]; rfl
    · rw [if_neg (by omega), if_neg hjq]
      exact K.now j hj
  · show upd D.now q (wcells X) = over D.lasts (D.pend ++ [((q : Int), wcells X)])
    rw [over_snoc, K.ov]
  · show (D.pend ++ [((q : Int), wcells X)]).length = n + 1
    rw [List.length_append, K.len]
    rfl
theorem Kp.sync (K : Kp w0 d rl rn nb sb D N S n wr) (hA : ∃ pv, At w5 w0.heap.size d rl rn pv D.tick.sync) (hn : Blk w5 nb 41 (arr6 N)) (hs : Blk w5 sb 41 (arr6 N)) (hlo : Chg (fun q => w0.heap.size ≤ q) w0 w5) :
    Kp w0 d rl rn nb sb D.tick.sync N N 0 w5 := by
  refine ⟨hA, K.calm, K.size, K.now, fun j hj => ?_, ?_, rfl, hn, hs, hlo⟩
  · show (over D.lasts D.pend ((j : Nat) : Int)).getD (zeroV 8) = _
    rw [← K.ov]
    have := K.now j hj
    unfold Dv.words at this
    rw [K.size.1] at this
    exact this
  · show D.now = over (over D.lasts D.pend) []
    rw [← K.ov]
    rfl
theorem Kp.skip (K : Kp w0 d rl rn nb sb D N S n wr) (hb : Below wr.heap.size wr w5) : Kp w0 d rl rn nb sb D N S n w5 := by
  obtain ⟨pv, A⟩ := K.ex
  exact ⟨⟨pv, A.below hb⟩, K.calm, K.size, K.now, K.syn, K.ov, K.len, K.nblk.below hb K.nblk.lt, K.sblk.below hb K.sblk.lt, K.lo.then_below hb⟩
end

def six (w : World) (g : Nat) (N : Nat → Int) : World :=
  ((((((w.setCell ⟨g, 0, none⟩ (.int .u64 (N 0))).setCell ⟨g, 1, none⟩ (.int .u64 (N 1))).setCell ⟨g, 2, none⟩ (.int .u64 (N 2))).setCell ⟨g, 3, none⟩ (.int .u64 (N 3))).setCell ⟨g, 4, none⟩ (.int .u64 (N 4))).setCell ⟨g, 5, none⟩ (.int .u64 (N 5)))
theorem six_blk {w : World} {g : Nat} {S : Nat → Int} (B : Blk w g 41 (arr6 S)) (N : Nat → Int) : Blk (six w g N) g 41 (arr6 N) :=
  ((((((B.set_ 0 (.int .u64 (N 0))).set_ 1 (.int .u64 (N 1))).set_ 2 (.int .u64 (N 2))).set_ 3 (.int .u64 (N 3))).set_ 4 (.int .u64 (N 4))).set_ 5 (.int .u64 (N 5)))
theorem six_chg (w : World) (g : Nat) (N : Nat → Int) : Chg (fun k => k = g) w (six w g N) :=
  ((((((Chg.refl (fun k => k = g) w).setCell ⟨g, 0, none⟩ (.int .u64 (N 0)) (fun _ => rfl)).setCell ⟨g, 1, none⟩ (.int .u64 (N 1)) (fun _ => rfl)).setCell ⟨g, 2, none⟩ (.int .u64 (N 2)) (fun _ => rfl)).setCell ⟨g, 3, none⟩ (.int .u64 (N 3)) (fun _ => rfl)).setCell ⟨g, 4, none⟩ (.int .u64 (N 4)) (fun _ => rfl)).setCell ⟨g, 5, none⟩ (.int .u64 (N 5)) (fun _ => rfl)

def FillK (w5 : World) (kb n : Nat) (all : Bool) (iv : Value) (wr : World) : Prop :=
  ∃ (j : Nat) (cs : Array Value), iv = .int .i64 (j : Int) ∧ j ≤ n ∧ Blk wr kb 4 cs ∧ cs.size = n ∧ (∀ i, i < j → cs[i]? = some (.bool all)) ∧ Chg (fun q => q = kb) w5 wr

theorem fill_all {cs : Array Value} {n : Nat} {v : Value} (h : cs.size = n) (hv : ∀ i, i < n → cs[i]? = some v) : cs.toList = List.replicate n v := by
  apply List.ext_getElem?
  intro i
  rw [Array.getElem?_toList, List.getElem?_replicate]
  by_cases hi : i < n
  · rw [if_pos hi, hv i hi]
  · rw [if_neg hi, Array.getElem?_eq_none (by omega)]

theorem kept_all {D : Dv} {keep : List Bool} : ∀ m, m ≤ D.pend.length → (∀ k, k < m → keep.getD k false = true) → kept D keep m = over D.lasts (D.pend.take m) := by
  intro m
  induction m with
  | zero => intro _ _; rfl
  | succ m ih =>
    intro hm hk
    rw [kept_yes (by omega) (hk m (by omega)), ih (by omega) (fun k h => hk k (by omega)), List.take_succ_eq_append_getElem (by omega), over_snoc]
theorem kept_none {D : Dv} {keep : List Bool} (hk : ∀ k, keep.getD k false = false) : ∀ m, m ≤ D.pend.length → kept D keep m = D.lasts := by
  intro m
  induction m with
  | zero => intro _; rfl
  | succ m ih =>
    intro hm
    rw [kept_no (by omega) (hk m), ih (by omega)]

def pickM (all : Bool) (N S : Nat → Int) : Nat → Int := fun k => if all then N k else S k

theorem Kp.crash_words {w0 wr : World} {d rl rn nb sb n : Nat} {D : Dv} {N S : Nat → Int} (K : Kp w0 d rl rn nb sb D N S n wr) (all : Bool) : ∀ k : Nat, k < 6 → (D.crash (List.replicate n all)).words ((k : Nat) : Int) = wcells (pickM all N S k) := by
  intro k hk
  have hl := K.len
  unfold Dv.words Dv.crash
  simp only
  cases all
  · rw [kept_none (fun k => by rw [List.getD_eq_getElem?_getD, List.getElem?_replicate]; split <;> rfl) _ (Nat.le_refl _), K.size.1]
    exact K.syn k hk
  · rw [kept_all _ (Nat.le_refl _) (fun k h => by rw [List.getD_eq_getElem?_getD, List.getElem?_replicate, if_pos (by omega)]; rfl), List.take_length, ← K.ov]
    exact K.now k hk

/-- The device behind the crash, as it is read. -/
structure Rk (w0 : World) (x rl' rn' d rl rn nb sb : Nat) (pv : Value) (D F : Dv) (N S M : Nat → Int) (j : Nat) (wr : World) : Prop where
  at_ : At wr w0.heap.size x rl' rn' (.slice none 0 0) F
  calm : Calm F
  size : F.size = 8 ∧ F.blocks = 6
  acts : F.acts ≤ 80 + j
  words : ∀ k : Nat, k < 6 → F.words ((k : Nat) : Int) = wcells (M k)
  box : Box wr d D rl rn pv
  nblk : Blk wr nb 41 (arr6 N)
  sblk : Blk wr sb 41 (arr6 S)
  lo : Chg (fun q => w0.heap.size ≤ q) w0 wr

theorem Rk.read {w0 wr w5 : World} {x rl' rn' d rl rn nb sb j : Nat} {pv : Value} {D F : Dv} {N S M : Nat → Int} (R : Rk w0 x rl' rn' d rl rn nb sb pv D F N S M j wr) (hA : At w5 w0.heap.size x rl' rn' (.slice none 0 0) F.tick) (hc : Chg (fun k => k = x) wr w5) (hx : w0.heap.size ≤ x) (hxd : x ≠ d) : Rk w0 x rl' rn' d rl rn nb sb pv D F.tick N S M (j + 1) w5 :=
  ⟨hA, R.calm, R.size, Nat.succ_le_succ R.acts, R.words, R.box.chg hc (Ne.symm hxd), R.nblk.chg hc (fun e => R.nblk.ne_ R.at_.box (by decide) e), R.sblk.chg hc (fun e => R.sblk.ne_ R.at_.box (by decide) e), R.lo.trans hc (fun k _ e => by omega)⟩

theorem Rk.drewN {w0 wr : World} {x rl' rn' d rl rn nb sb j : Nat} {pv : Value} {D F : Dv} {N S M : Nat → Int} (R : Rk w0 x rl' rn' d rl rn nb sb pv D F N S M j wr) (n : Nat) : Rk w0 x rl' rn' d rl rn nb sb pv D F N S M j (wr.drewN n) :=
  ⟨R.at_.drewN n, R.calm, R.size, R.acts, R.words, R.box, R.nblk, R.sblk, R.lo.drewN n⟩

def ReadLoop (w0 : World) (x rl' rn' d rl rn nb sb : Nat) (pv : Value) (D : Dv) (N S M : Nat → Int) (iv : Value) (wr : World) : Prop :=
  ∃ (j : Nat) (F : Dv), iv = .int .i64 (j : Int) ∧ j ≤ 6 ∧ Rk w0 x rl' rn' d rl rn nb sb pv D F N S M j wr

theorem u64_mod6 (I : Int) : ∃ q : Nat, (IntKind.u64.wrap I).tmod 6 = (q : Int) ∧ q < 6 := by
  have h0 : 0 ≤ IntKind.u64.wrap I := by
    rw [show IntKind.u64.wrap I = I % 18446744073709551616 from rfl]
    omega
  rw [Int.tmod_eq_emod_of_nonneg h0]
  exact ⟨(IntKind.u64.wrap I % 6).toNat, by omega, by omega⟩

set_option maxRecDepth 100000 in
set_option maxHeartbeats 4000000 in
theorem keeps_law {w : World} (s : Option Addr) (m c : Nat) (l : List Op5) (h : rdSlice 5 rdOp5 w [.slice s m c] l) (all : Bool) (h80 : m ≤ 80) :
    Calls Try.prog 5 #[.slice s m c, .bool all] w fun e w' => e = .returned (.bool true) ∧ Below w.heap.size w w' := by
  obtain ⟨hl, -, -, hr⟩ := rdSlice_ops h
  have HN := Lib.hid (fun w => new_ok 8 6 w (by omega) (by omega) (by omega))
  have hm80 : (m : Int) ≤ 80 := by omega
  have HH := Lib.hid h
  have HL := Lib.hid hl
  have HR := Lib.hid hr
  clear h hl hr
  go_enter Try.func5, Try.ntmps5
  go_wp2_with fail
  refine (awake_any _).mono ?_
  rintro e1 w1 ⟨rfl, hb1⟩
  go_wp2_with fail
  refine (few_any HH.out w1 hb1).mono ?_
  rintro e2 w2 ⟨b, rfl, hbf, rfl⟩
  cases b
  · go_wp2_with fail
    refine (awake_any _).mono ?_
    rintro e2 w2 ⟨rfl, hb2⟩
    go_wp2_with fail
    go_ret
    exact ⟨rfl, hb1.trans (hb2.mono hb1.size)⟩
  clear hbf
  go_wp2_with fail
  refine (HN.out _).mono ?_
  rintro e2 w2 ⟨rfl, hA2, hb2, hs2⟩
  have h2 := hb1.trans (hb2.mono hb1.size)
  have A2 := hA2 w.heap.size
  obtain ⟨d, hd⟩ : ∃ d, d = w1.heap.size + 2 := ⟨_, rfl⟩
  obtain ⟨rl, hrl⟩ : ∃ r, r = w1.heap.size := ⟨_, rfl⟩
  rw [← hd, ← hrl] at A2
  rw [← hd]
  have hz1 := hb1.size
  have hlo : w.heap.size ≤ d ∧ w.heap.size ≤ rl ∧ w.heap.size ≤ rl + 1 := by omega
  have B1 := (Blk.new w2 41 (arr6 (fun _ => 0))).alloc (.cells (arr6 (fun _ => 0)) 41)
  have B2 := Blk.new (w2.alloc (.cells (arr6 (fun _ => 0)) 41)) 41 (arr6 (fun _ => 0))
  rw [show (w2.alloc (.cells (arr6 (fun _ => 0)) 41)).heap.size = w2.heap.size + 1 from by simp] at B2
  have b12 : Below w2.heap.size w2 ((w2.alloc (.cells (arr6 (fun _ => 0)) 41)).alloc (.cells (arr6 (fun _ => 0)) 41)) := ((Below.refl w2.heap.size w2).alloc (Nat.le_refl _) _).alloc (by simp) _
  have K0 : Kp w d rl (rl + 1) w2.heap.size (w2.heap.size + 1) (fresh 8 6) (fun _ => 0) (fun _ => 0) 0 ((w2.alloc (.cells (arr6 (fun _ => 0)) 41)).alloc (.cells (arr6 (fun _ => 0)) 41)) :=
    ⟨⟨_, A2.below b12⟩, fresh_calm 8 6, ⟨rfl, rfl⟩, fun _ _ => rfl, fun _ _ => rfl, rfl, rfl, B1, B2, (Chg.of_below h2).trans (Chg.of_below b12) (fun q _ e => by have := h2.size; omega)⟩
  have hnb : w.heap.size ≤ w2.heap.size := h2.size
  obtain ⟨nb, hnb'⟩ : ∃ x, x = w2.heap.size := ⟨_, rfl⟩
  rw [← hnb'] at K0
  have HK0 := Lib.hid K0
  have hnbl : w.heap.size ≤ nb := by omega
  clear hA2 hb2 hs2 hd hrl HN hb1 A2 hz1 B1 B2 b12 h2 K0
  go_wp2_with fail
  rw [← hnb']
  clear hnb' hnb
  go_loopw [9, 10] (fun nv iv wr => KeepLoop w d rl (rl + 1) nb (nb + 1) m nv iv wr) (fun _ iv _ => m - (intOf iv).toNat)
  case atStart => exact ⟨0, 0, _, _, _, rfl, rfl, by omega, by omega, Nat.le_refl _, HK0.out⟩
  case round =>
    obtain ⟨k, n, D, N, S, rfl, rfl, hk, hnk, hac, K⟩ := hrel
    clear HK0
    by_cases hlt : (k : Int) < m
    · have hkl : k < l.length := by have := HL.out; omega
      obtain ⟨⟨b, off, ka, kn, kc, rfl, hbl, c0, c1, c2, c3, c4, hkn⟩, w1, w2', w3⟩ := HR.out k hkl
      have hto := fun (p : Addr) (hp : p.block = b) => World.cell?_of_block (a := p) (K.lo.block p.block (by omega) (by omega))
      have d0 := (hto _ rfl).trans c0
      have d1 := (hto _ rfl).trans c1
      have d2 := (hto _ rfl).trans c2
      have d3 := (hto _ rfl).trans c3
      have d4 := (hto _ rfl).trans c4
      generalize l[k] = o at *
      obtain ⟨kind, I, X, odd, keep⟩ := o
      simp only at d0 d1 d2 d3 d4 w1 w2' w3
      have HK := Lib.hid K
      clear hto c0 c1 c2 c3 c4 hkl K
      by_cases hkind : kind = 2
      · have e2 : (kind == 2) = true := by rw [hkind]; rfl
        have e3 : (kind == 3) = false := by rw [hkind]; rfl
        obtain ⟨q, hq, hq6⟩ := u64_mod6 I
        have hqi : IntKind.i64.wrap (q : Int) = (q : Int) := by rw [IntKind.wrap_i64]; omega
        have hq6i : (q : Int) < 6 := by omega
        have hq0 : (0 : Int) ≤ (q : Int) := by omega
        obtain ⟨pv, A⟩ := HK.out.ex
        have bb : Below wr.heap.size wr ((wr.alloc (.cells #[.int .i64 kind, .int .i64 I, .int .u64 X, .bool odd, .slice ka kn kc] 44)).alloc (.cells (wcells X).toArray 22)) :=
          ((Below.refl wr.heap.size wr).alloc (Nat.le_refl _) _).alloc (by simp) _
        have A' := A.below bb
        have hr' := Row.new (wr.alloc (.cells #[.int .i64 kind, .int .i64 I, .int .u64 X, .bool odd, .slice ka kn kc] 44)) (wcells X).toArray 22 (0, 0)
        rw [show (wr.alloc (.cells #[.int .i64 kind, .int .i64 I, .int .u64 X, .bool odd, .slice ka kn kc] 44)).heap.size = wr.heap.size + 1 from by simp] at hr'
        have hBo := (Blk.new wr 44 #[.int .i64 kind, .int .i64 I, .int .u64 X, .bool odd, .slice ka kn kc]).alloc (.cells (wcells X).toArray 22)
        have hdl := A.box.lt
        have hC := write_calm (q : Int) (some ⟨wr.heap.size + 1, 0, none⟩) 8 8 (wcells X) A' HK.out.calm rfl hq0 (by rw [HK.out.size.2]; exact hq6i) HK.out.size.1.symm (by omega) hr' (by intro u hu; simp [wcells] at hu; rcases hu with rfl | rfl <;> rfl) (by have := HK.out.lo.size; simp; omega) (by rintro z hz; injection hz with hz; subst hz; show wr.heap.size + 1 ≠ d; omega)
        have HC := Lib.hid hC
        have HBO := Lib.hid hBo
        have HA' := Lib.hid A'
        have HBB := Lib.hid bb
        clear hC hBo A' bb hr' A hkind
        go_wp2_with fail
        refine HC.out.mono ?_
        rintro e4 w4 ⟨rfl, hA4, hc4⟩
        have Bo := HBO.out.chg hc4 (foot_ne HA'.out HBO.out (by decide) (by decide))
        have o2 : w4.cell? ⟨wr.heap.size, 2, none⟩ = some (.int .u64 X) := Bo.cell 2
        have o0 : w4.cell? ⟨wr.heap.size, 0, none⟩ = some (.int .i64 kind) := Bo.cell 0
        have Bn0 := HK.out.nblk.below HBB.out HK.out.nblk.lt
        have Bs0 := HK.out.sblk.below HBB.out HK.out.sblk.lt
        have Bn := Bn0.chg hc4 (foot_ne HA'.out Bn0 (by decide) (by decide))
        have Bs := Bs0.chg hc4 (foot_ne HA'.out Bs0 (by decide) (by decide))
        have n1 : w4.cell? ⟨nb, q, none⟩ = some (.int .u64 (N q)) := by rw [Bn.cell, arr6_get N q hq6]
        have n2 := Bn.frozen q
        have Bn5 := Bn.set_ q (.int .u64 X)
        rw [arr6_set N q hq6] at Bn5
        have Bs5 := Bs.far (p := ⟨nb, q, none⟩) (show nb + 1 ≠ nb by omega) (.int .u64 X)
        have Bo5 := Bo.far (p := ⟨nb, q, none⟩) (show wr.heap.size ≠ nb by have := HK.out.nblk.lt; omega) (.int .u64 X)
        have o05 : (w4.setCell ⟨nb, q, none⟩ (.int .u64 X)).cell? ⟨wr.heap.size, 0, none⟩ = some (.int .i64 kind) := Bo5.cell 0
        have hc5 : Chg (fun k => k = nb) w4 (w4.setCell ⟨nb, q, none⟩ (.int .u64 X)) := (Chg.refl (fun k => k = nb) w4).setCell ⟨nb, q, none⟩ (.int .u64 X) (fun _ => rfl)
        have hA5 : ∃ pv, At (w4.setCell ⟨nb, q, none⟩ (.int .u64 X)) w.heap.size d rl (rl + 1) pv (D.tick.put (q : Int) (wcells X)) := by
          obtain ⟨pv4, A4⟩ := hA4
          refine ⟨pv4, A4.chg hc5 (fun e => A4.box.ne_ Bn (by decide) e) (fun e => A4.lasts.ne_blk Bn e.symm) (fun e => A4.now.ne_blk Bn e.symm) (fun g hg e => ?_) (fun g cs _ hg e => hg.ne_ Bn (by decide) e)⟩
          obtain ⟨pr, h1, _⟩ := A4.pend
          exact own_ne_blk h1 Bn (by decide) (e ▸ hg)
        have hlo5 := ((HK.out.lo.then_below HBB.out).trans hc4 (fun k _ e => foot_lo HA'.out hlo (Nat.le_refl _) k e)).trans hc5 (fun k _ e => by omega)
        have HK5 := Lib.hid (HK.out.put hq6 X hA5 Bn5 Bs5 hlo5)
        have hac5 : (D.tick.put (q : Int) (wcells X)).acts ≤ k + 1 := Nat.succ_le_succ hac
        have HAC5 := Lib.hid hac5
        clear Bo Bn0 Bs0 Bn Bs Bn5 Bs5 Bo5 hc5 hA5 hlo5 hA4 hc4 hac5
        go_wp2_with fail
        go_roundw
        case rel => exact ⟨k + 1, n + 1, _, _, _, by go_num, by go_num, by omega, by omega, HAC5.out, HK5.out⟩
        case measure => simp [intOf]; omega
      · have e2 : (kind == 2) = false := by rw [beq_eq_false_iff_ne]; exact hkind
        obtain ⟨q, hq, hq6⟩ := u64_mod6 I
        have hqi : IntKind.i64.wrap (q : Int) = (q : Int) := by rw [IntKind.wrap_i64]; omega
        have bb : Below wr.heap.size wr (wr.alloc (.cells #[.int .i64 kind, .int .i64 I, .int .u64 X, .bool odd, .slice ka kn kc] 44)) := (Below.refl wr.heap.size wr).alloc (Nat.le_refl _) _
        have HBB := Lib.hid bb
        clear bb
        by_cases hk3 : kind = 3
        · have e3 : (kind == 3) = true := by rw [hk3]; rfl
          obtain ⟨pv, A⟩ := HK.out.ex
          have A' := A.below HBB.out
          have hC := sync_done A' HK.out.calm.2.2 (by rw [calm_act HK.out.calm]) (by omega)
          rw [calm_tick HK.out.calm] at hC
          have HC := Lib.hid hC
          have HA' := Lib.hid A'
          clear hC A' A hk3 hkind
          go_wp2_with fail
          refine HC.out.mono ?_
          rintro e4 w4 ⟨rfl, A4, hc4⟩
          have Bn0 := HK.out.nblk.below HBB.out HK.out.nblk.lt
          have Bs0 := HK.out.sblk.below HBB.out HK.out.sblk.lt
          have Bn := Bn0.chg hc4 (foot_ne HA'.out Bn0 (by decide) (by decide))
          have Bs := Bs0.chg hc4 (foot_ne HA'.out Bs0 (by decide) (by decide))
          have n0 : w4.cell? ⟨nb, 0, none⟩ = some (.int .u64 (N 0)) := Bn.cell 0
          have n1 : w4.cell? ⟨nb, 1, none⟩ = some (.int .u64 (N 1)) := Bn.cell 1
          have n2 : w4.cell? ⟨nb, 2, none⟩ = some (.int .u64 (N 2)) := Bn.cell 2
          have n3 : w4.cell? ⟨nb, 3, none⟩ = some (.int .u64 (N 3)) := Bn.cell 3
          have n4 : w4.cell? ⟨nb, 4, none⟩ = some (.int .u64 (N 4)) := Bn.cell 4
          have n5 : w4.cell? ⟨nb, 5, none⟩ = some (.int .u64 (N 5)) := Bn.cell 5
          have s0 : w4.cell? ⟨nb + 1, 0, none⟩ = some (.int .u64 (S 0)) := Bs.cell 0
          have s1 : w4.cell? ⟨nb + 1, 1, none⟩ = some (.int .u64 (S 1)) := Bs.cell 1
          have s2 : w4.cell? ⟨nb + 1, 2, none⟩ = some (.int .u64 (S 2)) := Bs.cell 2
          have s3 : w4.cell? ⟨nb + 1, 3, none⟩ = some (.int .u64 (S 3)) := Bs.cell 3
          have s4 : w4.cell? ⟨nb + 1, 4, none⟩ = some (.int .u64 (S 4)) := Bs.cell 4
          have s5 : w4.cell? ⟨nb + 1, 5, none⟩ = some (.int .u64 (S 5)) := Bs.cell 5
          have f0 := Bs.frozen 0
          have f1 := Bs.frozen 1
          have f2 := Bs.frozen 2
          have f3 := Bs.frozen 3
          have f4 := Bs.frozen 4
          have f5 := Bs.frozen 5
          have Bs5 := six_blk Bs N
          have hc5 := six_chg w4 (nb + 1) N
          have Bn5 := Bn.chg hc5 (show ¬ nb = nb + 1 by omega)
          have hA5 : ∃ pv, At (six w4 (nb + 1) N) w.heap.size d rl (rl + 1) pv D.tick.sync := by
            refine ⟨_, A4.chg hc5 (fun e => A4.box.ne_ Bs (by decide) e) (fun e => A4.lasts.ne_blk Bs e.symm) (fun e => A4.now.ne_blk Bs e.symm) (fun g hg e => by cases hg) (fun g cs _ hg e => hg.ne_ Bs (by decide) e)⟩
          have hlo5 := ((HK.out.lo.then_below HBB.out).trans hc4 (fun k _ e => foot_lo HA'.out hlo (Nat.le_refl _) k e)).trans hc5 (fun k _ e => by omega)
          have HK5 := Lib.hid (HK.out.sync hA5 Bn5 Bs5 hlo5)
          have hac5 : D.tick.sync.acts ≤ k + 1 := Nat.succ_le_succ hac
          have HAC5 := Lib.hid hac5
          clear Bn0 Bs0 Bn Bs Bn5 Bs5 hc5 hA5 hlo5 A4 hc4 hac5
          go_wp2_with fail
          go_roundw
          case rel => exact ⟨k + 1, 0, _, _, _, by go_num, rfl, by omega, by omega, HAC5.out, HK5.out⟩
          case measure => simp [intOf]; omega
        · have e3 : (kind == 3) = false := by rw [beq_eq_false_iff_ne]; exact hk3
          have hK5 := HK.out.skip HBB.out
          have HK5 := Lib.hid hK5
          clear hK5 hkind hk3
          go_wp2_with fail
          go_roundw
          case rel => exact ⟨k + 1, n, _, _, _, by go_num, rfl, by omega, by omega, by omega, HK5.out⟩
          case measure => simp [intOf]; omega
    · have hkm : k ≤ 80 := by omega
      have hmk := fun W => run_make_of (P := Try.prog) (t := 42) (e := 4) (bytes := 1) (z := .bool false) Try.underlying42 (by kernel_rfl) rfl .i64 .i64 n (by omega) (by omega) W
      have bb : Below wr.heap.size wr (wr.alloc (.cells (same n (.bool false)) 4)) := (Below.refl wr.heap.size wr).alloc (Nat.le_refl _) _
      have K5 := K.skip bb
      have Bk := Blk.new wr 4 (same n (.bool false))
      have hkb : w.heap.size ≤ wr.heap.size := K.lo.size
      have HK5 := Lib.hid K5
      have HBk := Lib.hid Bk
      have HBK := Lib.hid Bk
      clear K bb K5 Bk
      go_wp2_with fail
      obtain ⟨kb, hkb'⟩ : ∃ x, x = wr.heap.size := ⟨_, rfl⟩
      rw [← hkb'] at HBk HBK hkb
      rw [← hkb']
      generalize wr.alloc (.cells (same n (.bool false)) 4) = W5 at *
      clear hmk hkb'
      go_loopw [14] (fun iv wr => FillK W5 kb n all iv wr) (fun iv _ => n - (intOf iv).toNat)
      case atStart => exact ⟨0, _, rfl, by omega, HBk.out, same_size _ _, fun i hi => by omega, Chg.refl _ _⟩
      case round =>
        obtain ⟨j, cs, rfl, hj, hB, hcs, hall, hch⟩ := hrel
        clear HBk
        by_cases hjn : (j : Int) < n
        · have HALL := Lib.hid hall
          have HCS := Lib.hid hcs
          obtain ⟨v, hv⟩ := hB.some_ (i := j) (by omega)
          have hf := hB.frozen j
          have hB2 := hB.set_ j (.bool all)
          have hch2 := hch.setCell ⟨kb, j, none⟩ (.bool all) (fun _ => rfl)
          have HB2 := Lib.hid hB2
          have HCH := Lib.hid hch2
          clear hall hcs hB hch hB2 hch2
          go_wp2_with fail
          go_roundw
          case rel =>
            refine ⟨j + 1, _, by go_num, by omega, HB2.out, by rw [Array.size_setIfInBounds]; exact HCS.out, fun i hi => ?_, HCH.out⟩
            rw [Array.getElem?_setIfInBounds]
            by_cases hij : j = i
            · subst hij
              rw [if_pos rfl, if_pos (by have := HCS.out; omega)]
            · rw [if_neg hij]
              exact HALL.out i (by omega)
          case measure => simp [intOf]; omega
        · obtain rfl : j = n := by omega
          obtain ⟨pv, A5⟩ := HK5.out.ex
          have hkd : ∀ {g : Nat} {t : TypeId} {cs : Array Value}, Blk W5 g t cs → t ≠ 4 → ¬ g = kb := fun hb ht e => ht ((hb.inj (e ▸ HBK.out)).1)
          have A6 := A5.chg hch (hkd A5.box (by decide)) (fun e => A5.lasts.ne_blk HBK.out e.symm) (fun e => A5.now.ne_blk HBK.out e.symm) (fun g hg e => by obtain ⟨pr, h1, _⟩ := A5.pend; exact own_ne_blk h1 HBK.out (by decide) (e ▸ hg)) (fun g cs _ hg => hkd hg (by decide))
          have Bn6 := HK5.out.nblk.chg hch (hkd HK5.out.nblk (by decide))
          have Bs6 := HK5.out.sblk.chg hch (hkd HK5.out.sblk (by decide))
          have lo6 := HK5.out.lo.trans hch (fun q _ e => by omega)
          have hr6 : Row wr (some ⟨kb, 0, none⟩) ((List.replicate j all).map Value.bool) := by
            have := Row.of_blk hB
            rw [fill_all hcs hall] at this
            rw [List.map_replicate]
            exact this
          have hC := crash_any A6 (List.replicate j all) (some ⟨kb, 0, none⟩) j j hr6 (by simp) (by omega) (by rintro z hz _; injection hz with hz; subst hz; exact fun e => hkd A5.box (by decide) e.symm) (by rw [HK5.out.len]; omega)
          have hcw := HK5.out.crash_words all
          have HCW := Lib.hid hcw
          have HC := Lib.hid hC
          have HA6 := Lib.hid A6
          have HN6 := Lib.hid Bn6
          have HS6 := Lib.hid Bs6
          have HL6 := Lib.hid lo6
          have hD6 := HK5.out.size
          have HD6 := Lib.hid hD6
          clear hC A6 A5 Bn6 Bs6 lo6 hr6 hcw hall hcs hB hch hkd hD6
          go_wp2_with fail
          refine HC.out.mono ?_
          rintro e6 w6 ⟨x, rl', rn', rfl, X6, Bd6, hc6, hx1, hx2, hx3⟩
          have hz6 := HL6.out.size
          have hxd : x ≠ d := by have := HA6.out.box.lt; omega
          have hxlo : w.heap.size ≤ x := by omega
          have R0 : Rk w x rl' rn' d rl (rl + 1) nb (nb + 1) pv D.blow (D.crash (List.replicate j all)) N S (pickM all N S) 0 w6 :=
            ⟨X6, ⟨rfl, rfl, rfl⟩, HD6.out, (by show D.acts ≤ 80 + 0; omega), HCW.out, Bd6, HN6.out.chg hc6 (fun e => HN6.out.ne_ HA6.out.box (by decide) e), HS6.out.chg hc6 (fun e => HS6.out.ne_ HA6.out.box (by decide) e), HL6.out.trans hc6 (fun q _ e => by omega)⟩
          have HR0 := Lib.hid R0
          clear R0 X6 Bd6 hc6 hx1 hx2 hx3 hz6 HC HCW HL6 HS6 HN6 HA6
          go_wp2_with fail
          go_loopw [16] (fun iv wr => ReadLoop w x rl' rn' d rl (rl + 1) nb (nb + 1) pv D.blow N S (pickM all N S) iv wr) (fun iv _ => 6 - (intOf iv).toNat)
          case atStart => exact ⟨0, _, rfl, by omega, HR0.out⟩
          case round =>
            obtain ⟨q, F, rfl, hq, R⟩ := hrel
            clear HR0
            by_cases hq6 : (q : Int) < 6
            · have hC := read_calm (q : Int) R.at_ R.calm (by omega) (by rw [R.size.2]; omega) (by have := R.acts; omega)
              rw [R.words q (by omega)] at hC
              have HC := Lib.hid hC
              have HRr := Lib.hid R
              have hFs := R.size.1
              have HFS := Lib.hid hFs
              have n1 : wr.cell? ⟨nb, q, none⟩ = some (.int .u64 (N q)) := by rw [R.nblk.cell, arr6_get N q (by omega)]
              clear hC R hFs n1
              go_wp2_with fail
              refine HC.out.mono ?_
              rintro e7 w7 ⟨g, c7, rfl, ho7, hg7, A7, hc7⟩
              rw [HFS.out] at ho7
              rw [HFS.out]
              have R7 := HRr.out.read A7 hc7 hxlo hxd
              have l0 : w7.cell? ⟨g, 0, none⟩ = some (.int .u64 (pickM all N S q)) := ho7.cellAt 0 (by omega)
              have n1 : w7.cell? ⟨nb, q, none⟩ = some (.int .u64 (N q)) := by rw [R7.nblk.cell, arr6_get N q (by omega)]
              have s1 : w7.cell? ⟨nb + 1, q, none⟩ = some (.int .u64 (S q)) := by rw [R7.sblk.cell, arr6_get S q (by omega)]
              have HR7 := Lib.hid R7
              have hq0 : (0 : Int) ≤ (q : Int) := by omega
              have hnn : (N q != N q) = false := by simp
              have hss : (S q != S q) = false := by simp
              clear R7 ho7 hc7 A7 hg7
              cases all
              · have l1 : w7.cell? ⟨g, 0, none⟩ = some (.int .u64 (S q)) := l0
                clear l0
                go_wp2_with fail
                go_quiet (fail)
                go_wp2_with fail
                go_roundw
                case rel => exact ⟨q + 1, _, by go_num, by omega, HR7.out.drewN _⟩
                case measure => simp [intOf]; omega
              · have l1 : w7.cell? ⟨g, 0, none⟩ = some (.int .u64 (N q)) := l0
                clear l0
                go_wp2_with fail
                go_quiet (fail)
                go_wp2_with fail
                go_roundw
                case rel => exact ⟨q + 1, _, by go_num, by omega, HR7.out.drewN _⟩
                case measure => simp [intOf]; omega
            · have hb8 : D.blow.bars 0 D.blow.size = 8 := bars_down rfl
              have hC := read_barred 0 R.box (by rw [hb8]; decide)
              rw [hb8] at hC
              have HC := Lib.hid hC
              have HLo := Lib.hid R.lo
              clear hC R hb8
              go_wp2_with fail
              refine HC.out.mono ?_
              rintro e7 w7 ⟨rfl, rfl⟩
              go_wp2_with fail
              go_ret
              exact ⟨rfl, HLo.out.below_of (Nat.le_refl _) (fun z hz e => by omega)⟩

theorem DeviceKeeps_walk {w : World} (s : Option Addr) (m c : Nat) (l : List Op5) (h : rdSlice 5 rdOp5 w [.slice s m c] l) (all : Bool) :
    Calls Try.prog 5 #[.slice s m c, .bool all] w fun e w' => e = .returned (.bool true) ∧ Below w.heap.size w w' := by
  by_cases h80 : m ≤ 80
  · exact keeps_law s m c l h all h80
  · exact keeps_big s m c l h all h80

end Go.Proofs.Ytodjibhnmibedaa.Dev
