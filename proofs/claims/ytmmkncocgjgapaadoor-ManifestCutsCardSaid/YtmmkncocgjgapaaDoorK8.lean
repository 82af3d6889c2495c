/- Texts of mine, packed: MfSave, MfGo, MfBest, MfSl, MfLw. -/
import Derived.Test.YtmmkncocgjgapaaDoorK2
import Derived.Test.YtmmkncocgjgapaaDoorK3
import Derived.Test.YtmmkncocgjgapaaDoorK5
import Derived.Test.YtmmkncocgjgapaaDoorK7
import Derived.Laws.OwnMore
set_option linter.unusedVariables false

/- The walk of Save. -/
namespace Go.Proofs.YtmmkncocgjgapaaDoor.Mf
open Go.RowKit Dev

/-- The blocks one behind another, then a Sync: the error, and the device behind it. -/
def saveGo (D : Dv) : List (Int × List Value) → Int × Dv
  | [] => D.sy
  | p :: l => if (D.wr p.1 p.2).1 = 0 then saveGo (D.wr p.1 p.2).2 l else D.wr p.1 p.2
/-- What Save writes. -/
def saveL (size k g : Nat) (l : List Ent) : List (Int × List Value) := (List.range k).map fun i => (((g % 2 * k + i : Nat) : Int), blkW size (g % 2 * k + i) (some (partM (wordsM g l) (size - 2) i, BitVec.ofNat 64 g)))
theorem own_blk {w : World} {base n : Nat} {v : Value} {xs : List Value} {e : TypeId} {size : Nat} (ho : w.ownsRow base e size v n xs) {g : Nat} (hg : v.ownBlock = some g) : base ≤ g ∧ ∃ cs, Blk w g e cs := by
  rcases ho.2 with ⟨rfl, _⟩ | ⟨g', cap, cur, rfl, hb, hh, _⟩
  · simp [Value.ownBlock] at hg
  · have : g' = g := by simpa [Value.ownBlock] using hg
    subst this
    exact ⟨hb, cur, hh⟩
theorem foot_else {w : World} {O : Nat → Prop} {a rl rn : Nat} {pv : Value} {D : Dv} (h : At w O a rl rn pv D) {g : Nat} {t : TypeId} {cs : Array Value} (hg : Blk w g t cs) (h1 : t ≠ 63) (h2 : t ≠ 77) : ¬ Foot a rl rn pv g := by
  intro e
  rcases e with e | e | e | e
  · subst e; exact hg.ne_ h.box h1 rfl
  · exact h.lasts.ne_blk hg e
  · exact h.now.ne_blk hg e
  · obtain ⟨pr, hp, _⟩ := h.pend
    obtain ⟨_, cs', hx⟩ := own_blk hp e.symm
    exact hg.ne_ hx h2 rfl
/-- The blocks of a device lie from a base on. -/
structure Base (B : Nat) (O : Nat → Prop) (a rl rn : Nat) : Prop where
  o : ∀ g, O g → B ≤ g
  a : B ≤ a
  l : B ≤ rl
  n : B ≤ rn
/-- The blocks that a device may turn: its own, its maps, lists of writes. -/
def Own (B a rl rn : Nat) (w : World) (j : Nat) : Prop := B ≤ j ∧ (j = a ∨ j = rl ∨ j = rn ∨ ∃ cs, Blk w j 77 cs)
theorem own_of {B a rl rn : Nat} {w w' : World} {S : Nat → Prop} (hc : Chg S w w') (hS : ∀ k, k < w.heap.size → S k → Own B a rl rn w k) : Chg (Own B a rl rn w) w w' := hc.mono hS
theorem own_trans {B a rl rn : Nat} {w w1 w2 : World} (h : Chg (Own B a rl rn w) w w1) (h2 : Chg (Own B a rl rn w1) w1 w2) : Chg (Own B a rl rn w) w w2 :=
  h.trans h2 (fun k hk e => by
    refine ⟨e.1, ?_⟩
    rcases e.2 with e2 | e2 | e2 | ⟨cs, e2⟩
    · exact .inl e2
    · exact .inr (.inl e2)
    · exact .inr (.inr (.inl e2))
    · by_cases ho : Own B a rl rn w k
      · exact ho.2
      · exact .inr (.inr (.inr ⟨cs, by
          unfold Blk at e2 ⊢
          rw [← h.block k hk ho]
          exact e2⟩)))
theorem foot_own {B : Nat} {O : Nat → Prop} {a rl rn : Nat} (h : Base B O a rl rn) {w w' : World} {pv : Value} {D : Dv} (hA : At w O a rl rn pv D) (hc : Chg (Foot a rl rn pv) w w') : Chg (Own B a rl rn w) w w' :=
  hc.mono (fun k _ e => by
    rcases e with e | e | e | e
    · exact ⟨e ▸ h.a, .inl e⟩
    · exact ⟨e ▸ h.l, .inr (.inl e)⟩
    · exact ⟨e ▸ h.n, .inr (.inr (.inl e))⟩
    · obtain ⟨pr, hp, _⟩ := hA.pend
      obtain ⟨_, cs, hx⟩ := own_blk hp e.symm
      exact ⟨h.o k (hA.pout k e.symm), .inr (.inr (.inr ⟨cs, hx⟩))⟩)
theorem own_below {B a rl rn : Nat} {w w' : World} (hc : Chg (Own B a rl rn w) w w') (hB : B ≤ w.heap.size) : Below B w w' := hc.below_of hB (fun k hk e => by have := e.1; omega)
theorem own_else {B : Nat} {O : Nat → Prop} {a rl rn : Nat} {w : World} {pv : Value} {D : Dv} (h : At w O a rl rn pv D) {g : Nat} {t : TypeId} {cs : Array Value} (hg : Blk w g t cs) (h1 : t ≠ 63) (h2 : t ≠ 77) : ¬ Own B a rl rn w g := by
  rintro ⟨-, e | e | e | ⟨cs', e⟩⟩
  · subst e; exact hg.ne_ h.box h1 rfl
  · exact h.lasts.ne_blk hg e
  · exact h.now.ne_blk hg e
  · exact hg.ne_ e h2 rfl
theorem Base.foot {B : Nat} {O : Nat → Prop} {a rl rn : Nat} (h : Base B O a rl rn) {w w' : World} {pv : Value} {D : Dv} (hA : At w O a rl rn pv D) (hc : Chg (Foot a rl rn pv) w w') (hB : B ≤ w.heap.size) : Below B w w' :=
  hc.below_of hB (fun k hk e => by
    rcases e with e | e | e | e
    · have := h.a; omega
    · have := h.l; omega
    · have := h.n; omega
    · have := h.o k (hA.pout k e.symm); omega)
def SaveTold (B : Nat) (w : World) (O : Nat → Prop) (a rl rn : Nat) (D : Dv) (L : List (Int × List Value)) (e : Ending) (w' : World) : Prop :=
  e = .returned (.int .i64 (saveGo D L).1) ∧ (∃ pv', At w' O a rl rn pv' (saveGo D L).2) ∧ Chg (Own B a rl rn w) w w'
def wordsP (g n : Nat) (l : List Ent) : List (BitVec 64) := BitVec.ofNat 64 g :: BitVec.ofNat 64 n :: entsW l
theorem wordsP_snoc (g n : Nat) (l : List Ent) (e : Ent) : wordsP g n (l ++ [e]) = wordsP g n l ++ entW e := by unfold wordsP; rw [entsW_snoc]; rfl
def AllLoop (g : Nat) (l : List Ent) (w : World) (av iv : Value) (wr : World) : Prop := ∃ j : Nat, iv = .int .i64 (j : Int) ∧ j ≤ l.length ∧ wr.ownsRow w.heap.size 35 1 av (2 + j * 5) (Crc.words (wordsP g l.length (l.take j))) ∧ Below w.heap.size w wr
/-- The loop over the blocks. -/
def BlkLoop (B : Nat) (w : World) (O : Nat → Prop) (a rl rn : Nat) (D : Dv) (k : Nat) (L : List (Int × List Value)) (gA c : Nat) (W : List (BitVec 64)) (iv : Value) (wr : World) : Prop :=
  ∃ (i : Nat) (pv' : Value) (Di : Dv), iv = .int .i64 (i : Int) ∧ i ≤ k ∧ At wr O a rl rn pv' Di ∧ saveGo D L = saveGo Di (L.drop i) ∧ Di.size = D.size ∧ Di.acts ≤ D.acts + i ∧
    wr.ownsRow w.heap.size 35 1 (.slice (some ⟨gA, 0, none⟩) W.length c) W.length (Crc.words W) ∧ Chg (Own B a rl rn w) w wr ∧ w.heap.size ≤ wr.heap.size

set_option maxRecDepth 100000 in
set_option maxHeartbeats 8000000 in
theorem save_any {w : World} {O : Nat → Prop} {a rl rn : Nat} {pv : Value} {D : Dv} {B k : Nat} (h : At w O a rl rn pv D) (hdn : D.down = false) (hk : k = slotN D.size) (hbl : 2 * k ≤ D.blocks) (hB : Base B O a rl rn) (hO : ∀ g, w.heap.size ≤ g → O g)
    (hac : D.acts + k + 1 < 1099511627776) (l : List Ent) (la : Option Addr) (n c : Nat) (hr : Row w la (flatM l)) (hn : l.length = n) (hf : formedM l = true) (g : Nat) (hg1 : 1 ≤ g) (hg2 : g ≤ 4611686018427387904) :
    Calls Tryd.prog 15 #[.pointer (some ⟨a, 0, none⟩), .int .u64 (g : Int), .slice la n c] w (SaveTold B w O a rl rn D (saveL D.size k g l)) := by
  subst hn
  obtain ⟨⟨s8, s256⟩, hbl2, _⟩ := h.nums.fit
  obtain ⟨k1, k2, k3, k4⟩ := slotN_bd s8 s256
  rw [← hk] at k1 k2 k3 k4
  have hl12 : l.length ≤ 12 := by unfold formedM at hf; exact (of_decide_eq_true hf).1
  have hsz := size_any h.box
  have hbk := blocks_any h.box
  have hdn2 := down_any h.box
  rw [hdn] at hdn2
  have hsl := slot_ok D.size w s8 s256
  rw [← hk] at hsl
  have hfm := formed_any l la l.length c w hr rfl (by omega) (fun j hj => Nat.le_trans (formed_small hf hj) (by unfold maxLen; omega))
  rw [hf] at hfm
  have hkw : IntKind.i64.wrap (2 * (k : Int)) = 2 * (k : Int) := by rw [IntKind.wrap_i64]; omega
  have hb2 : ¬ (D.blocks : Int) < 2 * (k : Int) := by omega
  have g1 : ¬ (g : Int) < 1 := by omega
  have g2 : ¬ (4611686018427387904 : Int) < (g : Int) := by omega
  have hlw : IntKind.u64.wrap (l.length : Int) = (l.length : Int) := by rw [IntKind.wrap_u64]; omega
  have HS8 := Lib.hid (And.intro s8 s256)
  have HK := Lib.hid (And.intro hk (And.intro k1 (And.intro k2 (And.intro k3 (And.intro k4 (And.intro hbl hac))))))
  have H := Lib.hid h
  have HB := Lib.hid hO
  have HBS := Lib.hid hB
  have HR := Lib.hid hr
  have HF := Lib.hid (And.intro hf hl12)
  have HG := Lib.hid (And.intro hg1 hg2)
  have HDN := Lib.hid hdn
  clear s8 s256 hk k1 k2 k3 k4 hbl hac h hB hO hr hf hl12 hg1 hg2 hbl2 hdn
  go_enter Tryd.func15, Tryd.ntmps15
  go_wp2_with fail
  refine hsz.mono ?_
  rintro e _ ⟨rfl, rfl⟩
  go_wp2_with fail
  refine hsl.mono ?_
  rintro e _ ⟨rfl, rfl⟩
  go_wp2_with fail
  refine hdn2.mono ?_
  rintro e _ ⟨rfl, rfl⟩
  go_wp2_with fail
  refine hfm.mono ?_
  rintro e w2 ⟨rfl, hb⟩
  have hbk2 := blocks_any (H.out.below hb).box
  have H2 := Lib.hid (H.out.below hb)
  have HR2 := Lib.hid (HR.out.below hb)
  have HBW := Lib.hid hb
  clear hsz hbk hdn2 hsl hfm hb
  go_wp2_with fail
  refine hbk2.mono ?_
  rintro e _ ⟨rfl, rfl⟩
  go_wp2_with fail
  have hlit := World.ownsRow_lit (base := w2.heap.size) (e := 35) (size := 1) w2 #[.int .u64 (g : Int), .int .u64 (l.length : Int)] 2 (Nat.le_refl _) (by unfold maxLen; omega) rfl
  have hwp : Crc.words (wordsP g l.length []) = [.int .u64 (g : Int), .int .u64 (l.length : Int)] := by
    have := HG.out
    have := HF.out.2
    unfold Crc.words wordsP entsW
    simp only [List.map_cons, List.flatMap_nil, List.map_nil]
    rw [Crc.I64_ofNat (by omega), Crc.I64_ofNat (by omega)]
  have HLIT := Lib.hid (show (w2.alloc (.cells #[.int .u64 (g : Int), .int .u64 (l.length : Int)] 35)).ownsRow w2.heap.size 35 1 (.slice (some ⟨w2.heap.size, 0, none⟩) 2 2) (2 + 0 * 5) (Crc.words (wordsP g l.length (l.take 0))) from by rw [List.take_zero, hwp]; exact hlit)
  clear hlit hwp hbk2 hlw hb2 hkw
  go_loopw [8, 50] (fun av iv wr => AllLoop g l w2 av iv wr) (fun _ iv _ => l.length - (intOf iv).toNat)
  case atStart => exact ⟨0, rfl, Nat.zero_le _, HLIT.out, (Below.refl _ _).alloc (Nat.le_refl _) _⟩
  case round =>
    clear HLIT
    obtain ⟨j, rfl, hj, hown, hbr⟩ := hrel
    by_cases hlt : j < l.length
    · have hlt2 : (j : Int) < (l.length : Int) := by omega
      have i0 : (0 : Int) ≤ (j : Int) := by omega
      have hjb : j < 1000 := by have := HF.out.2; omega
      have hok : okEnt l[j] = true := by
        have := (of_decide_eq_true (show decide (l.length ≤ 12 ∧ ∀ j, j < l.length → okAt l j = true) = true from HF.out.1)).2 j hlt
        unfold okAt at this
        rw [List.getElem?_eq_getElem hlt] at this
        simp only [Bool.and_eq_true] at this
        exact this.1
      obtain ⟨b1, o1, rfl, hbl1, e0, e1, e2, e3, e4⟩ := ent_at (HR2.out.below hbr) hlt
      have HTS := Lib.hid (show Crc.words (wordsP g l.length (l.take (j + 1))) = Crc.words (wordsP g l.length (l.take j)) ++ Crc.words (entW l[j]) from by
        rw [List.take_succ_eq_append_getElem hlt, wordsP_snoc, words_append])
      generalize l[j] = p0 at *
      obtain ⟨s, f, b, x, cc⟩ := p0
      simp only [okEnt, okName, Bool.and_eq_true, decide_eq_true_eq] at hok
      obtain ⟨⟨⟨⟨⟨⟨s1, s8⟩, sok⟩, of_⟩, ob⟩, ox⟩, oc⟩ := hok
      unfold okNum at of_ ob ox oc
      simp only [Bool.and_eq_true, decide_eq_true_eq] at of_ ob ox oc
      have hpk : packN s 8 < 18446744073709551616 := Nat.lt_of_lt_of_le (packN_lt s 8) (by decide)
      have hI : ∀ y : Int, 0 ≤ y → y ≤ 1099511627776 → Crc.I64 (BitVec.ofInt 64 y) = y := fun y h0 h1 => by
        unfold Crc.I64
        rw [BitVec.toNat_ofInt]
        omega
      have HEW := Lib.hid (show Crc.words (entW ⟨s, f, b, x, cc⟩) = [.int .u64 ((packN s 8 : Nat) : Int), .int .u64 f, .int .u64 b, .int .u64 x, .int .u64 cc] from by
        unfold Crc.words entW
        simp only [List.map_cons, List.map_nil]
        rw [Crc.I64_ofNat hpk, hI f of_.1 of_.2, hI b ob.1 ob.2, hI x ox.1 ox.2, hI cc oc.1 oc.2])
      have hw1 : IntKind.u64.wrap f = f := by rw [IntKind.wrap_u64]; omega
      have hw2 : IntKind.u64.wrap b = b := by rw [IntKind.wrap_u64]; omega
      have hw3 : IntKind.u64.wrap x = x := by rw [IntKind.wrap_u64]; omega
      have hw4 : IntKind.u64.wrap cc = cc := by rw [IntKind.wrap_u64]; omega
      have HM := Lib.hid (And.intro hj hlt)
      have HO := Lib.hid hown
      have HBR := Lib.hid hbr
      clear hpk hI s1 s8 sok of_ ob ox oc hbl1 hbr hown hj hlt
      go_upto_region 10 with (fail)
      have hEB := Blk.new wr 54 #[.string s, .int .i64 f, .int .i64 b, .int .i64 x, .int .i64 cc]
      have HB0 := Lib.hid (HBR.out.alloc HBR.out.size (.cells #[.string s, .int .i64 f, .int .i64 b, .int .i64 x, .int .i64 cc] 54))
      have HO0 := Lib.hid (HO.out.alloc (.cells #[.string s, .int .i64 f, .int .i64 b, .int .i64 x, .int .i64 cc] 54))
      have HEB := Lib.hid hEB
      clear hEB HO HBR e0 e1 e2 e3 e4
      generalize wr.alloc (.cells #[.string s, .int .i64 f, .int .i64 b, .int .i64 x, .int .i64 cc] 54) = w4 at *
      generalize wr.heap.size = q0 at *
      have CELL := Lib.hid (fun w' (hF : Blk w' q0 54 #[.string s, .int .i64 f, .int .i64 b, .int .i64 x, .int .i64 cc]) => (⟨hF.cell 0, hF.cell 1, hF.cell 2, hF.cell 3, hF.cell 4⟩ : w'.cell? ⟨q0, 0, none⟩ = some (.string s) ∧ w'.cell? ⟨q0, 1, none⟩ = some (.int .i64 f) ∧ w'.cell? ⟨q0, 2, none⟩ = some (.int .i64 b) ∧ w'.cell? ⟨q0, 3, none⟩ = some (.int .i64 x) ∧ w'.cell? ⟨q0, 4, none⟩ = some (.int .i64 cc)))
      have hd0 : Blk w4.drew q0 54 #[.string s, .int .i64 f, .int .i64 b, .int .i64 x, .int .i64 cc] := HEB.out
      refine mx_begin (fun w' => Blk w' q0 54 #[.string s, .int .i64 f, .int .i64 b, .int .i64 x, .int .i64 cc]) [(true, 0), (true, 1), (true, 2), (true, 4), (true, 5), (true, 6), (true, 7), (true, 8), (true, 9), (true, 10), (true, 11), (true, 12), (true, 13), (true, 14), (true, 15), (false, 3), (false, 16), (false, 17), (false, 18)] (by kernel_rfl) (by kernel_rfl) (fun _ _ d _ _ h => by cases d <;> exact h) hd0 ?_
      refine mx_read _ (u8) rfl (by kernel_rfl) (fun w' hF => by obtain ⟨u0, u1, u2, u3, u4⟩ := CELL.out _ hF; simp [execOp, Act.eval, go_sem]) ?_
      refine mx_read _ (.pointer (some ⟨q0, 0, none⟩)) rfl (by kernel_rfl) (fun w' hF => by obtain ⟨u0, u1, u2, u3, u4⟩ := CELL.out _ hF; simp [execOp, Act.eval, go_sem]) ?_
      refine mx_read _ (.string s) rfl (by kernel_rfl) (fun w' hF => by obtain ⟨u0, u1, u2, u3, u4⟩ := CELL.out _ hF; simp [execOp, Act.eval, go_sem, u0]) ?_
      refine mx_read _ (.pointer (some ⟨q0, 1, none⟩)) rfl (by kernel_rfl) (fun w' hF => by obtain ⟨u0, u1, u2, u3, u4⟩ := CELL.out _ hF; simp [execOp, Act.eval, go_sem]) ?_
      refine mx_read _ (.int .i64 f) rfl (by kernel_rfl) (fun w' hF => by obtain ⟨u0, u1, u2, u3, u4⟩ := CELL.out _ hF; simp [execOp, Act.eval, go_sem, u1]) ?_
      refine mx_read _ (.int .u64 f) rfl (by kernel_rfl) (fun w' hF => by obtain ⟨u0, u1, u2, u3, u4⟩ := CELL.out _ hF; simp [execOp, Act.eval, go_sem, hw1]) ?_
      refine mx_read _ (.pointer (some ⟨q0, 2, none⟩)) rfl (by kernel_rfl) (fun w' hF => by obtain ⟨u0, u1, u2, u3, u4⟩ := CELL.out _ hF; simp [execOp, Act.eval, go_sem]) ?_
      refine mx_read _ (.int .i64 b) rfl (by kernel_rfl) (fun w' hF => by obtain ⟨u0, u1, u2, u3, u4⟩ := CELL.out _ hF; simp [execOp, Act.eval, go_sem, u2]) ?_
      refine mx_read _ (.int .u64 b) rfl (by kernel_rfl) (fun w' hF => by obtain ⟨u0, u1, u2, u3, u4⟩ := CELL.out _ hF; simp [execOp, Act.eval, go_sem, hw2]) ?_
      refine mx_read _ (.pointer (some ⟨q0, 3, none⟩)) rfl (by kernel_rfl) (fun w' hF => by obtain ⟨u0, u1, u2, u3, u4⟩ := CELL.out _ hF; simp [execOp, Act.eval, go_sem]) ?_
      refine mx_read _ (.int .i64 x) rfl (by kernel_rfl) (fun w' hF => by obtain ⟨u0, u1, u2, u3, u4⟩ := CELL.out _ hF; simp [execOp, Act.eval, go_sem, u3]) ?_
      refine mx_read _ (.int .u64 x) rfl (by kernel_rfl) (fun w' hF => by obtain ⟨u0, u1, u2, u3, u4⟩ := CELL.out _ hF; simp [execOp, Act.eval, go_sem, hw3]) ?_
      refine mx_read _ (.pointer (some ⟨q0, 4, none⟩)) rfl (by kernel_rfl) (fun w' hF => by obtain ⟨u0, u1, u2, u3, u4⟩ := CELL.out _ hF; simp [execOp, Act.eval, go_sem]) ?_
      refine mx_read _ (.int .i64 cc) rfl (by kernel_rfl) (fun w' hF => by obtain ⟨u0, u1, u2, u3, u4⟩ := CELL.out _ hF; simp [execOp, Act.eval, go_sem, u4]) ?_
      refine mx_read _ (.int .u64 cc) rfl (by kernel_rfl) (fun w' hF => by obtain ⟨u0, u1, u2, u3, u4⟩ := CELL.out _ hF; simp [execOp, Act.eval, go_sem, hw4]) ?_
      refine mx_one _ rfl (by kernel_rfl) (fun K8 hK8 => ?_)
      go_simp
      refine (pack_any s _).mono ?_
      rintro e _ ⟨rfl, rfl⟩
      refine hK8.out _ _ (fun _ => hd0) ?_
      clear hK8 K8
      refine mx_one _ rfl (by kernel_rfl) (fun K8 hK8 => ?_)
      go_simp
      have hd1 : Below w4.heap.size w4 (w4.alloc (.cells #[.int .u64 ((packN s 8 : Nat) : Int), .int .u64 f, .int .u64 b, .int .u64 x, .int .u64 cc] 35)).drew := ((Below.refl _ _).alloc (Nat.le_refl _) _).drew
      have HO1 := Lib.hid (own_chg HO0.out (Chg.of_below' (S := fun _ => False) hd1) (fun _ _ h => h))
      have hrn : Row (w4.alloc (.cells #[.int .u64 ((packN s 8 : Nat) : Int), .int .u64 f, .int .u64 b, .int .u64 x, .int .u64 cc] 35)).drew (some ⟨w4.heap.size, 0, none⟩) [.int .u64 ((packN s 8 : Nat) : Int), .int .u64 f, .int .u64 b, .int .u64 x, .int .u64 cc] := (Row.new w4 #[.int .u64 ((packN s 8 : Nat) : Int), .int .u64 f, .int .u64 b, .int .u64 x, .int .u64 cc] _ _).drew
      have HRN := Lib.hid hrn
      have HB1 := Lib.hid (HB0.out.trans (hd1.mono HB0.out.size))
      have HEB1 := Lib.hid (HEB.out.below hd1 HEB.out.lt)
      refine hK8.out _ _ (fun _ => HEB1.out) ?_
      clear hK8 K8
      refine mx_one _ rfl (by kernel_rfl) (fun K8 hK8 => ?_)
      refine wp_append (.tmp 54) (.tmp 70) _ rfl Dev.el_u64 w2.heap.size u8 (2 + j * 5) _ (by simp [Act.eval, go_sem]) HO1.out (some ⟨w4.heap.size, 0, none⟩) 5 5 [.int .u64 ((packN s 8 : Nat) : Int), .int .u64 f, .int .u64 b, .int .u64 x, .int .u64 cc] (by simp [Act.eval, go_sem]) rfl HRN.out (by intro u hu; simp at hu; rcases hu with rfl | rfl | rfl | rfl | rfl <;> rfl) (by have := HM.out; have := HF.out.2; unfold maxLen; omega) (by have := HM.out; have := HF.out.2; omega) HB1.out.size ?_
      intro y8 w8 a1 a2 a3 a4
      rw [← HEW.out, ← HTS.out, show 2 + j * 5 + 5 = 2 + (j + 1) * 5 from by omega] at a1
      have HO8 := Lib.hid a1
      have HB8 := Lib.hid (HB1.out.trans a4)
      have hne := own_ne_blk HO1.out HEB1.out (by decide)
      have HEB8 := Lib.hid (HEB1.out.chg (Chg.of_grown a2) (fun e => hne e.symm))
      refine hK8.out _ _ (fun _ => HEB8.out) ?_
      clear hK8 K8 a1 a2 a3 a4
      refine mx_one _ rfl (by kernel_rfl) (fun K8 hK8 => ?_)
      go_simp
      refine hK8.out _ _ (fun h => absurd rfl h) ?_
      clear hK8 K8
      refine mx_end ?_
      go_wp2_with fail
      go_roundw
      case rel => exact ⟨j + 1, by have := HM.out; have := HF.out.2; go_num, HM.out.2, HO8.out, HB8.out⟩
      case measure => have := HM.out; have := HF.out.2; simp [intOf]; omega
    · obtain rfl : j = l.length := by omega
      have hlt2 : ¬ (l.length : Int) < (l.length : Int) := by omega
      rw [List.take_length] at hown
      obtain ⟨W, hW⟩ : ∃ W, W = wordsM g l := ⟨_, rfl⟩
      have hown2 : wr.ownsRow w2.heap.size 35 1 u8 W.length (Crc.words W) := by rw [hW, wordsM_length, Nat.add_comm 2]; rw [Nat.add_comm 2] at hown; exact hown
      obtain ⟨va, vc, rfl, -, hc1, hc2, -⟩ := own_slice hown2
      obtain ⟨gA, rfl⟩ : ∃ gA, va = some ⟨gA, 0, none⟩ := by
        obtain ⟨g0, cap0, hv0, -, -⟩ := World.ownsRow.form hown2 (by rw [hW, wordsM_length]; omega)
        injection hv0 with hv0
        exact ⟨g0, hv0⟩
      have hAr := (H2.out.below hbr)
      have HA := Lib.hid hAr
      have hszr := size_any hAr.box
      have HBR := Lib.hid hbr
      have HO := Lib.hid hown2
      have HC := Lib.hid (And.intro hc1 hc2)
      have HW := Lib.hid hW
      clear hW hown hbr hAr hown2 hc1 hc2 hj hlt
      go_wp2_with fail
      refine hszr.mono ?_
      rintro e _ ⟨rfl, rfl⟩
      have hsw : IntKind.i64.wrap ((D.size : Int) - 2) = ((D.size - 2 : Nat) : Int) := by have := HS8.out; rw [IntKind.wrap_i64]; omega
      have hg3 : IntKind.i64.wrap ((g : Int) % 2) = (g : Int) % 2 := by rw [IntKind.wrap_i64]; omega
      have hp2 : g % 2 * k ≤ k := by have : g % 2 * k ≤ 1 * k := Nat.mul_le_mul_right _ (by omega); omega
      obtain ⟨p0, hp0⟩ : ∃ p0, p0 = g % 2 * k := ⟨_, rfl⟩
      have hgk : IntKind.i64.wrap ((g : Int) % 2 * (k : Int)) = (p0 : Int) := by rw [hp0]; have := HK.out; rw [IntKind.wrap_i64, show (g : Int) % 2 = ((g % 2 : Nat) : Int) from rfl, ← Int.natCast_mul]; omega
      rw [← hp0] at hp2
      have HP0 := Lib.hid (And.intro hp0 hp2)
      have HLL : Hid (saveL D.size k g l = (List.range k).map fun i => (((p0 + i : Nat) : Int), blkW D.size (p0 + i) (some (partM W (D.size - 2) i, BitVec.ofNat 64 g)))) := Lib.hid (by unfold saveL; rw [hp0, HW.out])
      generalize saveL D.size k g l = L at *
      clear hszr hp0 hp2
      go_wp2_with fail
      clear hsw hg3 hgk
      go_loopw [82] (fun iv wr => BlkLoop B w2 O a rl rn D k L gA vc W iv wr) (fun iv _ => k - (intOf iv).toNat)
      case atStart => exact ⟨0, pv, D, rfl, Nat.zero_le _, HA.out, by rw [List.drop_zero], rfl, Nat.le_refl _, HO.out, Chg.of_below' HBR.out, HBR.out.size⟩
      case round =>
        clear HA HO HBR
        obtain ⟨i, pv', Di, rfl, hi, hAi, hgo, hsi, haci, hoi, hbi, hzi⟩ := hrel
        have HAI := Lib.hid hAi
        have HGO := Lib.hid hgo
        have HSI := Lib.hid (And.intro hsi haci)
        have HOI := Lib.hid hoi
        have HBI := Lib.hid hbi
        have HZI := Lib.hid hzi
        by_cases hlt : i < k
        · have hlt2 : (i : Int) < (k : Int) := by omega
          have hszr := size_any hAi.box
          rw [hsi] at hszr
          have HM := Lib.hid (And.intro hi hlt)
          obtain ⟨sp, hsp⟩ : ∃ sp, sp = D.size - 2 := ⟨_, rfl⟩
          rw [← hsp]
          have hi11 : i ≤ 11 := by have := HK.out; omega
          have hsp254 : sp ≤ 254 := by have := HS8.out; omega
          have hx1 : i * sp ≤ 11 * 254 := Nat.mul_le_mul hi11 hsp254
          have hx2 : (i + 1) * sp = i * sp + sp := by rw [Nat.add_mul, Nat.one_mul]
          obtain ⟨x, hx⟩ : ∃ x, x = i * sp := ⟨_, rfl⟩
          have hw1 : IntKind.i64.wrap ((i : Int) * (sp : Int)) = (x : Int) := by rw [IntKind.wrap_i64, ← Int.natCast_mul, hx]; omega
          have hw2 : IntKind.i64.wrap ((i : Int) + 1) = (i : Int) + 1 := by rw [IntKind.wrap_i64]; omega
          have hw3 : IntKind.i64.wrap (((i : Int) + 1) * (sp : Int)) = ((x + sp : Nat) : Int) := by
            rw [IntKind.wrap_i64, show ((i : Int) + 1) * (sp : Int) = (((i + 1) * sp : Nat) : Int) from by rw [Int.natCast_mul]; rfl, hx2]
            omega
          have HX := Lib.hid (And.intro hsp hx)
          clear hx1 hx2 hsp hx hAi hgo hsi haci hoi hbi hzi hi hlt
          generalize hWl : W.length = nW at *
          have HWL := Lib.hid hWl
          clear hWl
          go_upto_region 17 with (fail)
          go_cut [14] (fun pv wx => ∃ pa pc, pv = .slice pa (partM W sp i).length pc ∧ Row wr pa (Crc.words (partM W sp i)) ∧ wr = wx)
          case first =>
            have hnv : nW ≤ vc := by have := HC.out; have := HWL.out; omega
            have e4 : min (x : Int) (nW : Int) ≤ min ((x : Int) + (sp : Int)) (nW : Int) := by omega
            have e5 : min ((x : Int) + (sp : Int)) (nW : Int) ≤ (vc : Int) := by omega
            have HPL := Lib.hid (show (partM W sp i).length = (min (x + sp) nW) - min x nW from by rw [partM_length, HWL.out, ← HX.out.2]; omega)
            have HNV := Lib.hid hnv
            clear hnv
            by_cases hlo : x < nW
            · have HLO := Lib.hid hlo
              have c1 : ¬ x = vc := by have := HNV.out; omega
              have e1 : min (x : Int) (nW : Int) = (x : Int) := by omega
              have e3 : (0 : Int) ≤ (x : Int) := by omega
              rw [e1] at e4
              clear hlo
              go_wp2_with fail
              go_meet
              refine ⟨some ⟨gA, x, none⟩, vc - x, ?_, ?_, rfl⟩
              · rw [HPL.out]
                congr 1
                have := HLO.out
                omega
              · have h := ((Row.of_own HOI.out).1.drop x).take (partM W sp i).length
                rw [Nat.zero_add] at h
                have e : (Crc.words (partM W sp i)) = ((Crc.words W).drop x).take (partM W sp i).length := by
                  unfold partM Crc.words
                  rw [← HX.out.2, List.map_take, List.map_drop, List.length_take, List.length_drop, ← List.map_drop, ← List.map_take, ← List.map_take]
                  congr 1
                  rw [List.take_eq_take_iff]
                  rw [List.length_drop]
                  omega
                rw [e]
                exact h
            · have hlen0 : (partM W sp i) = [] := by
                apply List.eq_nil_of_length_eq_zero
                rw [HPL.out]
                omega
              have e1 : min (x : Int) (nW : Int) = (nW : Int) := by omega
              have e2 : min ((x : Int) + (sp : Int)) (nW : Int) = (nW : Int) := by omega
              have e3 : (0 : Int) ≤ (nW : Int) := by omega
              have HL0 := Lib.hid hlen0
              rw [e2] at e5
              clear hlo hlen0 e4
              by_cases hcap : nW = vc
              · have hcapT : (nW = vc) = True := by simp [hcap]
                have hcapT' : (vc = nW) = True := by simp [hcap]
                clear hcap
                go_wp2_with fail
                go_meet
                rw [HL0.out]
                exact ⟨some ⟨gA, 0, none⟩, vc - nW, by simp, Row.nil _ _, rfl⟩
              · have hcap' : ¬ vc = nW := fun h => hcap h.symm
                go_wp2_with fail
                go_meet
                rw [HL0.out]
                exact ⟨some ⟨gA, nW, none⟩, vc - nW, by simp, Row.nil _ _, rfl⟩
          case rest =>
            obtain ⟨pa, pc, rfl, hrow, rfl⟩ := hcut
            have HSZR := Lib.hid hszr
            have hpl : (partM W sp i).length + 2 ≤ D.size := by rw [partM_length]; have := HX.out; have := HS8.out; omega
            have hpi : IntKind.i64.wrap ((p0 : Int) + (i : Int)) = ((p0 + i : Nat) : Int) := by have := HP0.out; have := HK.out; rw [IntKind.wrap_i64]; omega
            have hput := Crc.put_ok (partM W sp i) D.size (p0 + i) (BitVec.ofNat 64 g) pa pc wr hrow HS8.out.1 HS8.out.2 hpl (by have := HP0.out; have := HK.out; omega)
            rw [Crc.I64_ofNat (by have := HG.out; omega)] at hput
            have HPUT := Lib.hid hput
            obtain ⟨ws, hws⟩ : ∃ ws, ws = Crc.words (Crc.sealW (partM W sp i) D.size (BitVec.ofNat 64 g) (BitVec.ofNat 64 (p0 + i))) := ⟨_, rfl⟩
            have hwl : ws.length = D.size := by rw [hws, Crc.words_length, Crc.sealW_length hpl]
            have HWS := Lib.hid (And.intro hws hwl)
            have HDR := Lib.hid (show L.drop i = (((p0 + i : Nat) : Int), ws) :: L.drop (i + 1) from by
              have hik := HM.out.2
              rw [HLL.out, List.drop_eq_getElem_cons (by simpa using hik), List.getElem_map, List.getElem_range, hws, ← HX.out.1]
              rfl)
            clear hszr hrow hput hws hwl hpl
            go_wp2_with fail
            refine HSZR.out.mono ?_
            rintro e _ ⟨rfl, rfl⟩
            go_wp2_with fail
            refine HPUT.out.mono ?_
            rintro e w5 ⟨rfl, hbk5, hb5⟩
            rw [← HWS.out.1] at hbk5
            have hA5 := HAI.out.below hb5
            have HA5 := Lib.hid hA5
            have ho5 := own_chg HOI.out (Chg.of_below' (S := fun _ => False) hb5) (fun _ _ h => h)
            have HO5 := Lib.hid ho5
            have HB5 := Lib.hid (HBI.out.then_below hb5)
            have hz5 : w2.heap.size ≤ w5.heap.size := Nat.le_trans HZI.out hb5.size
            have HWR := Lib.hid (wr_any (i := ((p0 + i : Nat) : Int)) (l := some ⟨wr.heap.size, 0, none⟩) (n := D.size) (c := D.size) (ws := ws) hA5 HWS.out.2 (by have := HSI.out; have := HK.out; have := HM.out; omega) (by have := Row.of_blk hbk5; simpa using this) (by rw [HWS.out.1]; exact fl_one _) (fun g hg => HB.out g (by have := HBW.out.size; omega)) (fun x hx => by injection hx with hx; subst hx; have := HAI.out.box.lt; show wr.heap.size ≠ a; omega) (by have := HS8.out; omega))
            have HZ5 := Lib.hid hz5
            clear hA5 ho5 hz5 hbk5 hb5 HAI HOI HBI HZI HPUT HSZR
            go_wp2_with fail
            refine HWR.out.mono ?_
            rintro e w6 ⟨rfl, ⟨pv6, hA6⟩, hc6⟩
            have HA6 := Lib.hid hA6
            have HB6 := Lib.hid (own_trans HB5.out (foot_own HBS.out HA5.out hc6))
            have HO6 := Lib.hid (own_chg HO5.out hc6 (fun g hg e => by
              obtain ⟨_, cs, hx⟩ := own_blk HO5.out hg
              exact foot_else HA5.out hx (by decide) (by decide) e))
            have HZ6 := Lib.hid (Nat.le_trans HZ5.out hc6.size)
            have HKN := Lib.hid (wr_kin Di ((p0 + i : Nat) : Int) ws)
            have HGS := Lib.hid (show saveGo D L = if (Di.wr ((p0 + i : Nat) : Int) ws).1 = 0 then saveGo (Di.wr ((p0 + i : Nat) : Int) ws).2 (L.drop (i + 1)) else Di.wr ((p0 + i : Nat) : Int) ws from by rw [HGO.out, HDR.out]; rfl)
            clear hA6 hc6 HWR
            by_cases hz : (Di.wr ((p0 + i : Nat) : Int) ws).1 = 0
            · have HGS2 := Lib.hid (HGS.out.trans (if_pos hz))
              generalize Di.wr ((p0 + i : Nat) : Int) ws = DW at *
              obtain ⟨ew, Dw⟩ := DW
              simp only at hz HA6 HKN HGS2
              subst hz
              go_wp2_with fail
              go_roundw
              case rel => exact ⟨i + 1, pv6, Dw, by have := HM.out; have := HK.out; go_num, by have := HM.out; omega, HA6.out, HGS2.out, by rw [HKN.out.size]; exact HSI.out.1, by have := HKN.out.acts; have := HSI.out.2; omega, by rw [HWL.out]; exact HO6.out, HB6.out, HZ6.out⟩
              case measure => have := HM.out; have := HK.out; simp [intOf]; omega
            · have HGS2 := Lib.hid (HGS.out.trans (if_neg hz))
              generalize Di.wr ((p0 + i : Nat) : Int) ws = DW at *
              obtain ⟨ew, Dw⟩ := DW
              simp only at hz HA6 HKN HGS2
              go_wp2_with fail
              go_ret
              exact ⟨by rw [HGS2.out]; rfl, ⟨pv6, by rw [HGS2.out]; exact HA6.out⟩, own_trans (Chg.of_below' HBW.out) HB6.out⟩
        · obtain rfl : i = k := by omega
          have hlt2 : ¬ (i : Int) < (i : Int) := by omega
          have hLi : L.drop i = [] := List.drop_eq_nil_of_le (by rw [HLL.out]; simp)
          have HGS := Lib.hid (show saveGo D L = Di.sy from by rw [hgo, hLi]; rfl)
          have HSY := Lib.hid (sy_any hAi (by have := HK.out; omega))
          clear hAi hgo hoi hbi hlt hLi
          go_wp2_with fail
          refine HSY.out.mono ?_
          rintro e w6 ⟨rfl, hA6, hc6⟩
          have HB6 := Lib.hid (own_trans HBI.out (foot_own HBS.out HAI.out hc6))
          rw [← HGS.out] at hA6 ⊢
          have HA6 := Lib.hid hA6
          clear hA6 hc6
          go_wp2_with fail
          go_ret
          exact ⟨rfl, HA6.out, own_trans (Chg.of_below' HBW.out) HB6.out⟩

end Go.Proofs.YtmmkncocgjgapaaDoor.Mf

/- What a Save, whole or cut, leaves of the slots: plain. -/
namespace Go.Proofs.YtmmkncocgjgapaaDoor.Mf
open Go.RowKit Dev

/-- The blocks may be written. -/
def Fits (D : Dv) (L : List (Int × List Value)) : Prop := ∀ p ∈ L, 0 ≤ p.1 ∧ p.1 < D.blocks ∧ p.2.length = D.size
theorem fits_bars {D : Dv} {L : List (Int × List Value)} {p : Int × List Value} (h : Fits D (p :: L)) (hd : D.down = false) : D.bars p.1 p.2.length = 0 := by
  obtain ⟨h1, h2, h3⟩ := h p (by simp)
  unfold Dv.bars
  rw [hd]
  simp
  omega
/-- A Save without fuse and fault. -/
theorem go_calm : ∀ (L : List (Int × List Value)) (D : Dv), Calm D → Fits D L → ∃ E, saveGo D L = (0, E) ∧ Calm E ∧ E.size = D.size ∧ E.blocks = D.blocks ∧ E.pend = [] ∧ E.now = over D.now L ∧ E.lasts = over D.lasts (D.pend ++ L) ∧ E.acts = D.acts + L.length + 1
  | [], D, hc, hf => by
    refine ⟨(plus D 1).sync, ?_, ⟨hc.down, hc.fuse, hc.fault⟩, rfl, rfl, rfl, rfl, by rw [List.append_nil]; rfl, rfl⟩
    show D.sy = _
    unfold Dv.sy
    rw [hc.act, hc.down]
    rfl
  | p :: L, D, hc, hf => by
    have hb := fits_bars hf hc.down
    have hw : D.wr p.1 p.2 = (0, (plus D 1).put p.1 p.2) := by
      unfold Dv.wr
      rw [if_pos hb, hc.act, if_pos rfl]
    obtain ⟨E, h1, h2, h3, h4, h5, h6, h7, h8⟩ := go_calm L ((plus D 1).put p.1 p.2) ⟨hc.down, hc.fuse, hc.fault⟩ (fun q hq => hf q (by simp [hq]))
    refine ⟨E, ?_, h2, h3, h4, h5, h6, ?_, ?_⟩
    · show (if (D.wr p.1 p.2).1 = 0 then saveGo (D.wr p.1 p.2).2 L else D.wr p.1 p.2) = _
      rw [hw, if_pos rfl]
      exact h1
    · rw [h7]
      show over D.lasts (D.pend ++ [(p.1, p.2)] ++ L) = _
      rw [List.append_assoc]
      rfl
    · rw [h8, List.length_cons]
      show D.acts + 1 + L.length + 1 = _
      omega
/-- A Save that is cut. -/
theorem go_fuse : ∀ (L : List (Int × List Value)) (D : Dv) (f : Nat), D.down = false → D.fault = -1 → D.fuse = (f : Int) → f ≤ L.length → Fits D L →
    ∃ E, saveGo D L = (8, E) ∧ E.size = D.size ∧ E.blocks = D.blocks ∧ E.pend = D.pend ++ L.take f ∧ E.lasts = D.lasts ∧ E.acts = D.acts + f
  | [], D, f, hd, hft, hfu, hl, hf => by
    obtain rfl : f = 0 := by simpa using hl
    refine ⟨D.blow, ?_, rfl, rfl, by simp [Dv.blow], rfl, rfl⟩
    show D.sy = _
    have ha : D.act = (8, D.blow) := by unfold Dv.act; rw [if_pos (by simpa using hfu)]
    unfold Dv.sy
    rw [ha, hd]
    rfl
  | p :: L, D, f, hd, hft, hfu, hl, hf => by
    have hb := fits_bars hf hd
    rcases f with _ | f
    · have ha : D.act = (8, D.blow) := by unfold Dv.act; rw [if_pos (by simpa using hfu)]
      have hw : D.wr p.1 p.2 = (8, D.blow) := by
        unfold Dv.wr
        rw [if_pos hb, ha, if_neg (by simp)]
      refine ⟨D.blow, ?_, rfl, rfl, by simp [Dv.blow], rfl, rfl⟩
      show (if (D.wr p.1 p.2).1 = 0 then saveGo (D.wr p.1 p.2).2 L else D.wr p.1 p.2) = _
      rw [hw, if_neg (by simp)]
    · have ha : D.act = (0, D.burn.done) := by
        unfold Dv.act
        rw [if_neg (by omega), if_neg (by omega)]
      have hw : D.wr p.1 p.2 = (0, D.burn.done.put p.1 p.2) := by
        unfold Dv.wr
        rw [if_pos hb, ha, if_pos rfl]
      have hfu2 : (D.burn.done.put p.1 p.2).fuse = (f : Int) := by
        show (if 0 < D.fuse then D.fuse - 1 else D.fuse) = _
        rw [if_pos (by omega)]
        omega
      have hft2 : (D.burn.done.put p.1 p.2).fault = -1 := by
        show (if 0 < D.fault then D.fault - 1 else D.fault) = _
        rw [if_neg (by omega), hft]
      rw [List.length_cons] at hl
      obtain ⟨E, h1, h3, h4, h5, h6, h7⟩ := go_fuse L (D.burn.done.put p.1 p.2) f hd hft2 hfu2 (by omega) (fun q hq => hf q (by simp [hq]))
      refine ⟨E, ?_, h3, h4, ?_, h6, ?_⟩
      · show (if (D.wr p.1 p.2).1 = 0 then saveGo (D.wr p.1 p.2).2 L else D.wr p.1 p.2) = _
        rw [hw, if_pos rfl]
        exact h1
      · rw [h5]
        show D.pend ++ [(p.1, p.2)] ++ L.take f = _
        rw [List.append_assoc]
        rfl
      · rw [h7]
        show D.acts + 1 + f = _
        omega
/-- The slots, where so many blocks of one of them are new, if kept. -/
def mark (p m : Nat) (kp : Nat → Bool) (q0 : Nat × List Ent) (τ : Nat → Nat → Hold) : Nat → Nat → Hold := fun q i => if q = p ∧ i < m ∧ kp i = true then some q0 else τ q i
theorem place_inj {k p q i j : Nat} (hp : p < 2) (hq : q < 2) (hi : i < k) (hj : j < k) : ((q * k + i : Nat) : Int) = ((p * k + j : Nat) : Int) ↔ q = p ∧ i = j := by
  constructor
  · intro h
    have h2 : q * k + i = p * k + j := by omega
    have e1 : p = 0 ∨ p = 1 := by omega
    have e2 : q = 0 ∨ q = 1 := by omega
    rcases e1 with rfl | rfl <;> rcases e2 with rfl | rfl <;> omega
  · rintro ⟨rfl, rfl⟩
    rfl
theorem saveL_length (size k g : Nat) (l : List Ent) : (saveL size k g l).length = k := by simp [saveL]
theorem saveL_get (size k g : Nat) (l : List Ent) (i : Nat) (h : i < k) : (saveL size k g l)[i]? = some (((g % 2 * k + i : Nat) : Int), blkW size (g % 2 * k + i) (holdC (size - 2) i (some (g, l)))) := by
  unfold saveL
  rw [List.getElem?_map, List.getElem?_range h]
  rfl
theorem saveL_fits {D : Dv} {k g : Nat} {l : List Ent} (h8 : 8 ≤ D.size) (hb : 2 * k ≤ D.blocks) : Fits D (saveL D.size k g l) := by
  intro p hp
  obtain ⟨i, hi, he⟩ := List.mem_map.1 hp
  rw [List.mem_range] at hi
  subst he
  have hp2 : g % 2 * k ≤ k := by have : g % 2 * k ≤ 1 * k := Nat.mul_le_mul_right _ (by omega); omega
  refine ⟨by simp only; omega, by simp only; omega, ?_⟩
  show (Crc.words _).length = _
  rw [Crc.words_length, Crc.sealW_length]
  rw [partM_length]
  omega
theorem over_lies {D E : Dv} {k g : Nat} {l : List Ent} {τ : Nat → Nat → Hold} {f : Int → Option (List Value)} (hE : E.size = D.size) (h : ∀ q i, q < 2 → i < k → (f ((q * k + i : Nat) : Int)).getD (zeroV D.size) = blkW D.size (q * k + i) (holdC (D.size - 2) i (τ q i))) :
    ∀ m, m ≤ k → ∀ q i, q < 2 → i < k → (over f ((saveL D.size k g l).take m) ((q * k + i : Nat) : Int)).getD (zeroV D.size) = blkW D.size (q * k + i) (holdC (D.size - 2) i (mark (g % 2) m (fun _ => true) (g, l) τ q i))
  | 0, _, q, i, hq, hi => by
    rw [List.take_zero]
    unfold mark
    rw [if_neg (fun hh => by omega)]
    exact h q i hq hi
  | m + 1, hm, q, i, hq, hi => by
    have ih := over_lies (E := E) (g := g) (l := l) hE h m (by omega) q i hq hi
    have hg := saveL_get D.size k g l m (by omega)
    rw [List.getElem?_eq_some_iff] at hg
    obtain ⟨hlt, hg⟩ := hg
    rw [List.take_succ_eq_append_getElem hlt, over_snoc, hg]
    unfold upd mark at *
    simp only at ih ⊢
    by_cases e : ((q * k + i : Nat) : Int) = ((g % 2 * k + m : Nat) : Int)
    · obtain ⟨e1, e2⟩ := (place_inj (by omega) hq hi (by omega)).1 e
      rw [if_pos e, if_pos ⟨e1, by omega, trivial⟩, e1, e2]
      rfl
    · have hne : ¬ (q = g % 2 ∧ i = m) := fun hh => e ((place_inj (by omega) hq hi (by omega)).2 hh)
      rw [if_neg e, ih]
      by_cases h1 : q = g % 2 ∧ i < m ∧ True
      · rw [if_pos h1, if_pos ⟨h1.1, by omega, trivial⟩]
      · rw [if_neg h1, if_neg (fun hh => h1 ⟨hh.1, by omega, trivial⟩)]
theorem kept_lies {D E : Dv} {k g f : Nat} {l : List Ent} {τ : Nat → Nat → Hold} {keep : List Bool} (hf : f ≤ k) (hp : E.pend = (saveL D.size k g l).take f) (h : ∀ q i, q < 2 → i < k → (E.lasts ((q * k + i : Nat) : Int)).getD (zeroV D.size) = blkW D.size (q * k + i) (holdC (D.size - 2) i (τ q i))) :
    ∀ m, m ≤ f → ∀ q i, q < 2 → i < k → (kept E keep m ((q * k + i : Nat) : Int)).getD (zeroV D.size) = blkW D.size (q * k + i) (holdC (D.size - 2) i (mark (g % 2) m (fun i => keep.getD i false) (g, l) τ q i))
  | 0, _, q, i, hq, hi => by
    unfold mark
    rw [if_neg (fun hh => by omega)]
    exact h q i hq hi
  | m + 1, hm, q, i, hq, hi => by
    have ih := kept_lies (keep := keep) hf hp h m (by omega) q i hq hi
    have hg := saveL_get D.size k g l m (by omega)
    have hpm : E.pend[m]? = some (((g % 2 * k + m : Nat) : Int), blkW D.size (g % 2 * k + m) (holdC (D.size - 2) m (some (g, l)))) := by
      rw [hp, List.getElem?_take, if_pos (by omega), hg]
    have hk : kept E keep (m + 1) = if keep.getD m false = true then upd (kept E keep m) ((g % 2 * k + m : Nat) : Int) (blkW D.size (g % 2 * k + m) (holdC (D.size - 2) m (some (g, l)))) else kept E keep m := by
      show (match E.pend[m]? with | some p => if keep.getD m false = true then upd (kept E keep m) p.1 p.2 else kept E keep m | none => kept E keep m) = _
      rw [hpm]
    rw [hk]
    unfold mark at *
    simp only at ih ⊢
    by_cases hkm : keep.getD m false = true
    · rw [if_pos hkm]
      unfold upd
      by_cases e : ((q * k + i : Nat) : Int) = ((g % 2 * k + m : Nat) : Int)
      · obtain ⟨e1, e2⟩ := (place_inj (by omega) hq hi (by omega)).1 e
        rw [if_pos e, if_pos ⟨e1, by omega, by rw [e2]; exact hkm⟩, e1, e2]
        rfl
      · have hne : ¬ (q = g % 2 ∧ i = m) := fun hh => e ((place_inj (by omega) hq hi (by omega)).2 hh)
        rw [if_neg e, ih]
        by_cases h1 : q = g % 2 ∧ i < m ∧ keep.getD i false = true
        · rw [if_pos h1, if_pos ⟨h1.1, by omega, h1.2.2⟩]
        · rw [if_neg h1, if_neg (fun hh => h1 ⟨hh.1, by omega, hh.2.2⟩)]
    · rw [if_neg hkm, ih]
      by_cases h1 : q = g % 2 ∧ i < m ∧ keep.getD i false = true
      · rw [if_pos h1, if_pos ⟨h1.1, by omega, h1.2.2⟩]
      · rw [if_neg h1, if_neg (fun hh => h1 ⟨hh.1, by
          have : i ≠ m := fun e => hkm (e ▸ hh.2.2)
          omega, hh.2.2⟩)]

end Go.Proofs.YtmmkncocgjgapaaDoor.Mf

/- What stands behind a Save, whole or cut: plain. -/
namespace Go.Proofs.YtmmkncocgjgapaaDoor.Mf
open Go.RowKit Dev

theorem stands_uniq {k : Nat} {τ : Nat → Hold} {r r' : Hold} (hk : 0 < k) (h : StandsIs k τ r) (h' : StandsIs k τ r') : r = r' := by
  cases r with
  | none =>
    cases r' with
    | none => rfl
    | some q => exact absurd ⟨q, h'⟩ h
  | some q =>
    cases r' with
    | none => exact absurd ⟨q, h⟩ h'
    | some q' => rw [← h 0 hk, ← h' 0 hk]
theorem stands_cong {k : Nat} {τ τ' : Nat → Hold} {r : Hold} (h : StandsIs k τ r) (e : ∀ i, i < k → τ' i = τ i) : StandsIs k τ' r := by
  cases r with
  | none => exact fun ⟨q, hq⟩ => h ⟨q, fun i hi => by rw [← e i hi]; exact hq i hi⟩
  | some q => exact fun i hi => by rw [e i hi]; exact h i hi
structure Inv (k G : Nat) (τ : Nat → Nat → Hold) (r : Nat → Hold) : Prop where
  ok : ∀ q, q < 2 → SlotOk k q G (τ q)
  st : ∀ q, q < 2 → StandsIs k (τ q) (r q)
theorem nx_ge (n : Nat) (t : BitVec 64) : n ≤ nx n t := by unfold nx; split <;> omega
theorem nxs_ge : ∀ (T : List (BitVec 64)) (n : Nat), n ≤ nxs T n
  | [], n => Nat.le_refl _
  | t :: T, n => Nat.le_trans (nx_ge n t) (nxs_ge T (nx n t))
theorem nxs_gt : ∀ (T : List (BitVec 64)) (n : Nat) (t : BitVec 64), t ∈ T → t.toNat ≤ 4611686018427387904 → t.toNat < nxs T n
  | u :: T, n, t, h, ht => by
    rcases List.mem_cons.1 h with rfl | h
    · have h1 := nxs_ge T (nx n t)
      have h2 : t.toNat + 1 ≤ nx n t := by unfold nx; rw [if_pos ht]; omega
      exact Nat.lt_of_lt_of_le h2 h1
    · exact nxs_gt T (nx n u) t h ht
theorem nxs_bd {G : Nat} : ∀ (T : List (BitVec 64)) (n : Nat), n ≤ G + 1 → (∀ t ∈ T, t.toNat ≤ G) → nxs T n ≤ G + 1
  | [], n, h, _ => h
  | t :: T, n, h, ht => nxs_bd T (nx n t) (by have := ht t (by simp); unfold nx; split <;> omega) (fun u hu => ht u (by simp [hu]))
section
variable {k G span : Nat} {τ : Nat → Nat → Hold} {r : Nat → Hold}
theorem Inv.tag (h : Inv k G τ r) (hG : G ≤ 4611686018427387904) {q : Nat} (hq : q < 2) : ∀ t ∈ tagsOf (slotH span k (τ q)), t.toNat ≤ G := by
  intro t ht
  obtain ⟨i, q0, hi, he, rfl⟩ := tags_of k t ht
  have := ((h.ok q hq).ok i q0.1 q0.2 hi he).2.1
  rw [BitVec.toNat_ofNat, Nat.mod_eq_of_lt (by omega)]
  exact this
theorem Inv.next (h : Inv k G τ r) (hG : G ≤ 4611686018427387904) : 1 ≤ nextN span k τ 2 ∧ nextN span k τ 2 ≤ G + 1 ∧ ∀ q i q0, q < 2 → i < k → τ q i = some q0 → q0.1 < nextN span k τ 2 := by
  have e : nextN span k τ 2 = nxs (tagsOf (slotH span k (τ 1))) (nxs (tagsOf (slotH span k (τ 0))) 1) := rfl
  rw [e]
  have b0 := nxs_bd (G := G) (tagsOf (slotH span k (τ 0))) 1 (by omega) (h.tag hG (by omega))
  refine ⟨Nat.le_trans (nxs_ge _ 1) (nxs_ge _ _), nxs_bd _ _ b0 (h.tag hG (by omega)), fun q i q0 hq hi he => ?_⟩
  have hm : BitVec.ofNat 64 q0.1 ∈ tagsOf (slotH span k (τ q)) := tags_mem k i q0 hi he
  have hb := ((h.ok q hq).ok i q0.1 q0.2 hi he).2.1
  have ht : (BitVec.ofNat 64 q0.1).toNat = q0.1 := by rw [BitVec.toNat_ofNat, Nat.mod_eq_of_lt (by omega)]
  have hq01 : q = 0 ∨ q = 1 := by omega
  rcases hq01 with rfl | rfl
  · have := nxs_gt _ 1 _ hm (by omega)
    rw [ht] at this
    exact Nat.lt_of_lt_of_le this (nxs_ge _ _)
  · have := nxs_gt _ (nxs (tagsOf (slotH span k (τ 0))) 1) _ hm (by omega)
    rw [ht] at this
    exact this
theorem Inv.gen (h : Inv k G τ r) (hk : 0 < k) {q : Nat} (hq : q < 2) {q0 : Nat × List Ent} (e : r q = some q0) : τ q 0 = some q0 ∧ 1 ≤ q0.1 ∧ q0.1 ≤ G ∧ q0.1 % 2 = q ∧ formedM q0.2 = true := by
  have hs := h.st q hq
  rw [e] at hs
  have h0 := hs 0 hk
  exact ⟨h0, (h.ok q hq).ok 0 q0.1 q0.2 hk h0⟩
theorem Inv.best (h : Inv k G τ r) (hk : 0 < k) : bestN r 2 = if genH (r 0) < genH (r 1) then r 1 else r 0 := by
  have e : bestN r 2 = bestH (bestH none (r 0)) (r 1) := rfl
  have h0 : bestH none (r 0) = r 0 := by
    unfold bestH
    cases hr : r 0 with
    | none => simp
    | some q0 =>
      have := (h.gen hk (by omega) hr).2.1
      rw [if_pos (by show 0 < q0.1; omega)]
  rw [e, h0]
  rfl
/-- The generation of the next Save. -/
theorem Inv.nextH (h : Inv k G τ r) (hk : 0 < k) (hG : G ≤ 4611686018427387904) : 1 ≤ nextH span k τ r ∧ nextH span k τ r ≤ G + 2 ∧ (∀ q i q0, q < 2 → i < k → τ q i = some q0 → q0.1 < nextH span k τ r) ∧ ∀ q0, bestN r 2 = some q0 → nextH span k τ r % 2 ≠ q0.1 % 2 := by
  obtain ⟨h1, h2, h3⟩ := h.next (span := span) hG
  unfold Mf.nextH
  split
  · rename_i hc
    refine ⟨by omega, by omega, fun q i q0 hq hi he => by have := h3 q i q0 hq hi he; omega, fun q0 he => ?_⟩
    have := hc.2
    rw [he] at this
    have e : genH (some q0) = q0.1 := rfl
    rw [e] at this
    omega
  · rename_i hc
    refine ⟨h1, by omega, h3, fun q0 he hp => hc ?_⟩
    have hg : 1 ≤ q0.1 := by
      rw [h.best hk] at he
      split at he
      · exact (h.gen hk (by omega) he).2.1
      · exact (h.gen hk (by omega) he).2.1
    have e : genH (bestN r 2) = q0.1 := by rw [he]; rfl
    rw [e]
    exact ⟨by omega, hp⟩
theorem Inv.step (h : Inv k G τ r) (hk : 0 < k) (hG : G ≤ 4611686018427387904) {n : Nat} (hn : n = Mf.nextH span k τ r) {l : List Ent} (hl : formedM l = true) {m : Nat} {kp : Nat → Bool} {r' : Nat → Hold} (hr : ∀ q, q < 2 → StandsIs k (mark (n % 2) m kp (n, l) τ q) (r' q)) :
    Inv k (G + 2) (mark (n % 2) m kp (n, l) τ) r' ∧ (bestN r' 2 = some (n, l) ∨ bestN r' 2 = bestN r 2) ∧ ((∀ i, i < k → i < m ∧ kp i = true) → bestN r' 2 = some (n, l)) := by
  obtain ⟨n1, n2, n3, n4⟩ := h.nextH (span := span) hk hG
  rw [← hn] at n1 n2 n3 n4
  have hI : Inv k (G + 2) (mark (n % 2) m kp (n, l) τ) r' := by
    refine ⟨fun q hq => ⟨fun i g l' hi he => ?_, fun i j g l1 l2 hi hj h1 h2 => ?_⟩, hr⟩
    · unfold mark at he
      split at he
      · rename_i hc
        injection he with he
        injection he with e1 e2
        subst e1 e2
        exact ⟨n1, n2, hc.1.symm, hl⟩
      · obtain ⟨a1, a2, a3, a4⟩ := (h.ok q hq).ok i g l' hi he
        exact ⟨a1, by omega, a3, a4⟩
    · unfold mark at h1 h2
      split at h1
      · injection h1 with h1
        injection h1 with e1 e2
        subst e1 e2
        split at h2
        · injection h2 with h2
          injection h2
        · have := n3 q j _ hq hj h2
          exact absurd this (Nat.lt_irrefl _)
      · split at h2
        · injection h2 with h2
          injection h2 with e1 e2
          subst e1 e2
          have := n3 q i _ hq hi h1
          exact absurd this (Nat.lt_irrefl _)
        · exact (h.ok q hq).one i j g l1 l2 hi hj h1 h2
  have hoth : ∀ q, q < 2 → q ≠ n % 2 → r' q = r q := fun q hq hne => stands_uniq hk (hr q hq) (stands_cong (h.st q hq) (fun i hi => by unfold mark; rw [if_neg (fun hc => hne hc.1)]))
  have hp2 : n % 2 < 2 := by omega
  have hgen : ∀ q, q < 2 → genH (r q) < n := fun q hq => by
    cases e : r q with
    | none => show 0 < n; omega
    | some q0 =>
      have := (h.gen hk hq e).1
      exact n3 q 0 q0 hq hk this
  have hall : (∀ i, i < k → i < m ∧ kp i = true) → bestN r' 2 = some (n, l) := fun hall => by
    have hp : r' (n % 2) = some (n, l) := stands_uniq hk (hr (n % 2) hp2) (fun i hi => by unfold mark; rw [if_pos ⟨rfl, hall i hi⟩])
    rw [hI.best hk]
    have e01 : n % 2 = 0 ∨ n % 2 = 1 := by omega
    rcases e01 with e | e
    · rw [e] at hp
      rw [hp, hoth 1 (by omega) (by omega), if_neg (by have := hgen 1 (by omega); show ¬ n < _; omega)]
    · rw [e] at hp
      rw [hp, hoth 0 (by omega) (by omega), if_pos (by have := hgen 0 (by omega); show _ < n; exact this)]
  refine ⟨hI, ?_, hall⟩
  by_cases hA : ∀ i, i < k → i < m ∧ kp i = true
  · exact .inl (hall hA)
  · right
    by_cases hB : ∀ i, i < k → ¬ (i < m ∧ kp i = true)
    · have hp : r' (n % 2) = r (n % 2) := stands_uniq hk (hr (n % 2) hp2) (stands_cong (h.st _ hp2) (fun i hi => by unfold mark; rw [if_neg (fun hc => hB i hi hc.2)]))
      have hq : ∀ q, q < 2 → r' q = r q := fun q hq => by
        by_cases e : q = n % 2
        · rw [e]; exact hp
        · exact hoth q hq e
      rw [hI.best hk, h.best hk, hq 0 (by omega), hq 1 (by omega)]
    · have hp : r' (n % 2) = none := by
        cases e : r' (n % 2) with
        | none => rfl
        | some q0 =>
          exfalso
          have hs := hr (n % 2) hp2
          rw [e] at hs
          have hA' : ∃ i, i < k ∧ ¬ (i < m ∧ kp i = true) := Classical.byContradiction fun hh => hA fun i hi => Classical.byContradiction fun h2 => hh ⟨i, hi, h2⟩
          have hB' : ∃ i, i < k ∧ (i < m ∧ kp i = true) := Classical.byContradiction fun hh => hB fun i hi h2 => hh ⟨i, hi, h2⟩
          obtain ⟨i, hi, hni⟩ := hA'
          obtain ⟨j, hj, hyj⟩ := hB'
          have h1 := hs i hi
          have h2 := hs j hj
          unfold mark at h1 h2
          rw [if_neg (fun hc => hni hc.2)] at h1
          rw [if_pos ⟨rfl, hyj⟩] at h2
          injection h2 with h2
          have := n3 (n % 2) i q0 hp2 hi h1
          rw [← h2] at this
          exact absurd this (Nat.lt_irrefl _)
      have hbne : ∀ q0, r (n % 2) = some q0 → bestN r 2 ≠ r (n % 2) := fun q0 e hb => by
        have := n4 q0 (by rw [hb, e])
        have h3 := (h.gen hk hp2 e).2.2.2.1
        omega
      rw [hI.best hk]
      have hbest := h.best hk
      have e01 : n % 2 = 0 ∨ n % 2 = 1 := by omega
      rcases e01 with e | e
      · rw [e] at hp hbne
        rw [hp, hoth 1 (by omega) (by omega)]
        cases e1 : r 1 with
        | none =>
          have g1 : genH (r 1) = 0 := by rw [e1]; rfl
          rw [if_neg (by show ¬ 0 < 0; omega)]
          rw [hbest, if_neg (by omega)]
          cases e0 : r 0 with
          | none => rfl
          | some q0 =>
            exfalso
            exact hbne q0 e0 (by rw [hbest, if_neg (by omega)])
        | some q1 =>
          have hq1 := (h.gen hk (by omega) e1).2.1
          rw [if_pos (by show 0 < q1.1; omega)]
          rw [hbest, e1]
          split
          · rfl
          · rename_i hc
            cases e0 : r 0 with
            | none =>
              rw [e0] at hc
              exact absurd (show 0 < q1.1 by omega) hc
            | some q0 =>
              exfalso
              exact hbne q0 e0 (by rw [hbest, e1, if_neg hc])
      · rw [e] at hp hbne
        rw [hp, hoth 0 (by omega) (by omega), if_neg (by show ¬ _ < 0; omega)]
        rw [hbest]
        split
        · rename_i hc
          cases e1 : r 1 with
          | none =>
            rw [e1] at hc
            exact absurd hc (by show ¬ _ < 0; omega)
          | some q1 =>
            exfalso
            exact hbne q1 e1 (by rw [hbest, if_pos hc])
        · rfl
end

end Go.Proofs.YtmmkncocgjgapaaDoor.Mf

/- A device at rest whose slots hold parts of manifests; what Saves and crashes make of it: plain. -/
namespace Go.Proofs.YtmmkncocgjgapaaDoor.Mf
open Go.RowKit Dev

structure Sl (D : Dv) (k : Nat) (τ : Nat → Nat → Hold) : Prop where
  calm : Calm D
  pend : D.pend = []
  lasts : D.lasts = D.now
  lies : Lies D k τ
  ks : k = slotN D.size
  h8 : 8 ≤ D.size
  bl : 2 * k ≤ D.blocks
variable {D : Dv} {k : Nat} {τ : Nat → Nat → Hold}
theorem Sl.plus (h : Sl D k τ) (n : Nat) : Sl (Mf.plus D n) k τ := ⟨h.calm.plus n, h.pend, h.lasts, h.lies, h.ks, h.h8, h.bl⟩
theorem Sl.whole (h : Sl D k τ) (g : Nat) (l : List Ent) :
    ∃ E, saveGo D (saveL D.size k g l) = (0, E) ∧ Sl E k (mark (g % 2) k (fun _ => true) (g, l) τ) ∧ E.size = D.size ∧ E.blocks = D.blocks ∧ E.acts = D.acts + k + 1 := by
  obtain ⟨E, h1, h2, h3, h4, h5, h6, h7, h8⟩ := go_calm (saveL D.size k g l) D h.calm (saveL_fits h.h8 h.bl)
  rw [saveL_length] at h8
  rw [h.pend, List.nil_append, h.lasts] at h7
  refine ⟨E, h1, ⟨h2, h5, by rw [h6, h7], fun q i hq hi => ?_, by rw [h3]; exact h.ks, by rw [h3]; exact h.h8, by rw [h4]; exact h.bl⟩, h3, h4, h8⟩
  have := over_lies (E := E) (g := g) (l := l) (f := D.now) h3 (fun q i hq hi => h.lies q i hq hi) k (Nat.le_refl _) q i hq hi
  rw [List.take_of_length_le (by rw [saveL_length]; exact Nat.le_refl _)] at this
  show (E.now _).getD (zeroV E.size) = _
  rw [h6, h3]
  exact this
theorem Sl.crash (h : Sl D k τ) (keep : List Bool) : Sl (D.crash keep) k τ := by
  have e : (D.crash keep).now = D.now := by
    show kept D keep D.pend.length = _
    rw [h.pend]
    exact h.lasts
  refine ⟨⟨rfl, rfl, rfl⟩, rfl, rfl, fun q i hq hi => ?_, h.ks, h.h8, h.bl⟩
  show ((D.crash keep).now _).getD _ = _
  rw [e]
  exact h.lies q i hq hi
theorem Sl.cut (h : Sl D k τ) (g : Nat) (l : List Ent) {f : Nat} (hf : f ≤ k) (keep : List Bool) :
    ∃ E, saveGo (D.setFuse (f : Int)) (saveL D.size k g l) = (8, E) ∧ Sl (E.crash keep) k (mark (g % 2) f (fun i => keep.getD i false) (g, l) τ) ∧ E.size = D.size ∧ E.blocks = D.blocks ∧ E.acts ≤ D.acts + k ∧ E.pend.length ≤ k := by
  obtain ⟨E, h1, h3, h4, h5, h6, h7⟩ := go_fuse (saveL D.size k g l) (D.setFuse (f : Int)) f h.calm.down h.calm.fault (by show max (f : Int) (-1) = _; omega) (by rw [saveL_length]; exact hf) (saveL_fits (D := D) h.h8 h.bl)
  have hp : E.pend = (saveL D.size k g l).take f := by
    rw [h5]
    show D.pend ++ _ = _
    rw [h.pend]
    rfl
  have hpl : E.pend.length = f := by rw [hp, List.length_take, saveL_length]; omega
  have h3' : E.size = D.size := h3
  have h4' : E.blocks = D.blocks := h4
  refine ⟨E, h1, ⟨⟨rfl, rfl, rfl⟩, rfl, rfl, fun q i hq hi => ?_, ?_, ?_, ?_⟩, h3', h4', ?_, by omega⟩
  · have hl : E.lasts = D.now := by rw [h6]; exact h.lasts
    have := kept_lies (keep := keep) (E := E) hf hp (fun q i hq hi => by rw [hl]; exact h.lies q i hq hi) f (Nat.le_refl _) q i hq hi
    show (kept E keep E.pend.length _).getD (zeroV E.size) = blkW E.size _ (holdC (E.size - 2) _ _)
    rw [hpl, h3']
    exact this
  · show k = slotN E.size
    rw [h3']; exact h.ks
  · show 8 ≤ E.size
    rw [h3']; exact h.h8
  · show 2 * k ≤ E.blocks
    rw [h4']; exact h.bl
  · rw [h7]
    show D.acts + f ≤ _
    omega
theorem zero_sl {size blocks : Nat} (h8 : 8 ≤ size) (h : 2 * slotN size ≤ blocks) : Sl (fresh size blocks) (slotN size) (fun _ _ => none) := ⟨fresh_calm size blocks, rfl, rfl, zero_lies size blocks _, rfl, h8, h⟩
theorem zero_inv (k : Nat) (hk : 0 < k) : Inv k 0 (fun _ _ => none) (fun _ => none) := ⟨fun q _ => zero_slot k q, fun q _ => zero_stands k hk⟩
/-- What stands of each slot. -/
theorem stands_all (k : Nat) (τ : Nat → Nat → Hold) : ∃ r : Nat → Hold, ∀ q, q < 2 → StandsIs k (τ q) (r q) := by
  refine ⟨fun q => Classical.choose (stands_is k (τ q)), fun q _ => Classical.choose_spec (stands_is k (τ q))⟩

end Go.Proofs.YtmmkncocgjgapaaDoor.Mf

/- Load and Save of a device at rest, as the laws use them. -/
namespace Go.Proofs.YtmmkncocgjgapaaDoor.Mf
open Go.RowKit Dev

section
variable {k G : Nat} {τ : Nat → Nat → Hold} {r : Nat → Hold}
theorem Inv.put (h : Inv k G τ r) {n G' : Nat} (n1 : 1 ≤ n) (n2 : n ≤ G') (hGG : G ≤ G') (n3 : ∀ q i q0, q < 2 → i < k → τ q i = some q0 → q0.1 < n) {l : List Ent} (hl : formedM l = true) {m : Nat} {kp : Nat → Bool} {r' : Nat → Hold} (hr : ∀ q, q < 2 → StandsIs k (mark (n % 2) m kp (n, l) τ q) (r' q)) :
    Inv k G' (mark (n % 2) m kp (n, l) τ) r' := by
  refine ⟨fun q hq => ⟨fun i g l' hi he => ?_, fun i j g l1 l2 hi hj h1 h2 => ?_⟩, hr⟩
  · unfold mark at he
    split at he
    · rename_i hc
      injection he with he
      injection he with e1 e2
      subst e1 e2
      exact ⟨n1, n2, hc.1.symm, hl⟩
    · obtain ⟨a1, a2, a3, a4⟩ := (h.ok q hq).ok i g l' hi he
      exact ⟨a1, by omega, a3, a4⟩
  · unfold mark at h1 h2
    split at h1
    · injection h1 with h1
      injection h1 with e1 e2
      subst e1 e2
      split at h2
      · injection h2 with h2
        injection h2
      · have := n3 q j _ hq hj h2
        exact absurd this (Nat.lt_irrefl _)
    · split at h2
      · injection h2 with h2
        injection h2 with e1 e2
        subst e1 e2
        have := n3 q i _ hq hi h1
        exact absurd this (Nat.lt_irrefl _)
      · exact (h.ok q hq).one i j g l1 l2 hi hj h1 h2
/-- Behind a whole Save of a generation greater than all. -/
theorem Inv.whole (h : Inv k G τ r) (hk : 0 < k) {n : Nat} (hn : G < n) (hn2 : n ≤ 4611686018427387904) {l : List Ent} (hl : formedM l = true) :
    ∃ r', Inv k n (mark (n % 2) k (fun _ => true) (n, l) τ) r' ∧ bestN r' 2 = some (n, l) ∧ ∀ span, Mf.nextH span k (mark (n % 2) k (fun _ => true) (n, l) τ) r' = n + 1 := by
  obtain ⟨r', hr⟩ := stands_all k (mark (n % 2) k (fun _ => true) (n, l) τ)
  have hlt : ∀ q i q0, q < 2 → i < k → τ q i = some q0 → q0.1 < n := fun q i q0 hq hi he => by
    have := ((h.ok q hq).ok i q0.1 q0.2 hi he).2.1
    omega
  have hI := h.put (by omega) (Nat.le_refl n) (by omega) hlt hl hr
  have hp2 : n % 2 < 2 := by omega
  have hp : r' (n % 2) = some (n, l) := stands_uniq hk (hr (n % 2) hp2) (fun i hi => by unfold mark; rw [if_pos ⟨rfl, hi, rfl⟩])
  have hoth : ∀ q, q < 2 → q ≠ n % 2 → genH (r' q) < n := fun q hq hne => by
    have e : r' q = r q := stands_uniq hk (hr q hq) (stands_cong (h.st q hq) (fun i hi => by unfold mark; rw [if_neg (fun hc => hne hc.1)]))
    rw [e]
    cases e2 : r q with
    | none => show 0 < n; omega
    | some q0 => exact hlt q 0 q0 hq hk (h.gen hk hq e2).1
  have hb : bestN r' 2 = some (n, l) := by
    rw [hI.best hk]
    have e01 : n % 2 = 0 ∨ n % 2 = 1 := by omega
    rcases e01 with e | e
    · rw [e] at hp
      rw [hp, if_neg (by have := hoth 1 (by omega) (by omega); show ¬ n < _; omega)]
    · rw [e] at hp
      rw [hp, if_pos (by have := hoth 0 (by omega) (by omega); show _ < n; exact this)]
  refine ⟨r', hI, hb, fun span => ?_⟩
  obtain ⟨m1, m2, m3⟩ := hI.next (span := span) hn2
  have hm := m3 (n % 2) 0 (n, l) hp2 hk (by unfold mark; rw [if_pos ⟨rfl, hk, rfl⟩])
  have e : nextN span k (mark (n % 2) k (fun _ => true) (n, l) τ) 2 = n + 1 := by
    have : n < nextN span k (mark (n % 2) k (fun _ => true) (n, l) τ) 2 := hm
    omega
  unfold Mf.nextH
  rw [e, hb, if_neg (by show ¬ (0 < n ∧ (n + 1) % 2 = n % 2); omega)]
end
section
variable {w : World} {O : Nat → Prop} {a rl rn : Nat} {pv : Value} {D : Dv} {B k G : Nat} {τ : Nat → Nat → Hold} {r : Nat → Hold}
theorem load_sl (h : At w O a rl rn pv D) (hs : Sl D k τ) (hi : Inv k G τ r) (hG : G ≤ 4611686018427387904) (hac : D.acts + 2 * k < 1099511627776) : Calls Tryd.prog 16 #[.pointer (some ⟨a, 0, none⟩)] w (LoadTold w O a rl rn pv D k τ r) :=
  load_any h hs.calm hs.ks hs.bl hs.lies hi.ok hG hi.st hac
def SavedOk (B : Nat) (w : World) (O : Nat → Prop) (a rl rn : Nat) (D : Dv) (k : Nat) (τ : Nat → Nat → Hold) (g : Nat) (l : List Ent) (e : Ending) (w' : World) : Prop :=
  e = .returned (.int .i64 0) ∧ ∃ E pv', At w' O a rl rn pv' E ∧ Sl E k (mark (g % 2) k (fun _ => true) (g, l) τ) ∧ E.size = D.size ∧ E.blocks = D.blocks ∧ E.acts = D.acts + k + 1 ∧ Below B w w' ∧ Chg (Own B a rl rn w) w w'
theorem save_sl (h : At w O a rl rn pv D) (hs : Sl D k τ) (hB : Base B O a rl rn) (hBw : B ≤ w.heap.size) (hO : ∀ g, w.heap.size ≤ g → O g) (hac : D.acts + k + 1 < 1099511627776) (l : List Ent) (la : Option Addr) (n c : Nat) (hr : Row w la (flatM l)) (hn : l.length = n) (hf : formedM l = true) (g : Nat) (hg1 : 1 ≤ g) (hg2 : g ≤ 4611686018427387904) :
    Calls Tryd.prog 15 #[.pointer (some ⟨a, 0, none⟩), .int .u64 (g : Int), .slice la n c] w (SavedOk B w O a rl rn D k τ g l) := by
  refine (save_any h hs.calm.down hs.ks hs.bl hB hO hac l la n c hr hn hf g hg1 hg2).mono ?_
  rintro e w' ⟨rfl, ⟨pv', hA⟩, hb⟩
  obtain ⟨E, h1, h2, h3, h4, h5⟩ := hs.whole g l
  rw [h1] at hA
  exact ⟨by rw [h1], E, pv', hA, h2, h3, h4, h5, own_below hb hBw, hb⟩
end
theorem own_kept {w w' : World} {base n size : Nat} {e : TypeId} {v : Value} {xs : List Value} (h : w.ownsRow base e size v n xs) (hb : Below w.heap.size w w') : w'.ownsRow base e size v n xs := own_chg h (Chg.of_below' (S := fun _ => False) hb) (fun _ _ h => h)

end Go.Proofs.YtmmkncocgjgapaaDoor.Mf
