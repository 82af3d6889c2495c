/- Texts of mine, packed: FlLay, FlLay2, FlRdOk, FlList, FlReads, FlHas, FlCalm, FlRd. -/
import Derived.Test.YtmmkncocgjgapaaK8
import Derived.Test.YtmmkncocgjgapaaK9
set_option linter.unusedVariables false

/- The walk of Lay of a work: tuples are laid in a file. -/
namespace Go.Proofs.Ytmmkncocgjgapaa.Fl
open Go.RowKit

section
variable {w w' : World} {O : Nat → Prop} {K : Key} {W : Wk} {x : Nat} {X : Wr}

theorem close_live (hI : WkI w O K W) (h : WrAt w O K W x X) (hc : X.closed = false) (ho : X.Ok W.D.size) (hac : W.D.acts + 1 < 1099511627776) (hO : ∀ g, w.heap.size ≤ g → O g) :
    Calls Try.prog 24 #[P x] w (Closed w O K W x X) :=
  close_any hI h hc (ho.fits hI.size.1) (ho.last_at hI.size.1 h.width.1 h.width.2 W) hac hO

/-- Tuples in a slice: in a block of tuples, or in one that was there ahead of the work. -/
def Tps (K : Key) (w : World) (a : Option Addr) (l : List Tup) : Prop := l = [] ∨ ∃ g off, a = some ⟨g, off, none⟩ ∧ g < w.heap.size ∧ ((∃ cs, Blk w g 45 cs) ∨ g < K.base) ∧
  ∀ k (hk : k < l.length) j, j < 5 → w.cell? ⟨g, off + k * 5 + j, none⟩ = (icells l[k])[j]?
theorem cell_block {g o : Nat} (hb : w'.heap[g]? = w.heap[g]?) : w'.cell? ⟨g, o, none⟩ = w.cell? ⟨g, o, none⟩ := World.cell?_of_block hb
theorem WkI.under (h : WkI w O K W) {E : Nat → Prop} {g : Nat} (hg : g < K.base) (hE : ¬ E g) : ¬ Ft K E w g := by
  obtain ⟨⟨q0, q1, q2, q3, q4, q5, q6⟩, _⟩ := h.out
  rintro (e | e | e | e | e | e | ⟨e, _⟩ | ⟨e, _⟩ | e)
  all_goals first | omega | exact hE e
theorem Tps.turn {E : Nat → Prop} {a : Option Addr} {l : List Tup} (h : Tps K w a l) (hI : WkI w O K W) (ht : Turn K E w w') (hE : ∀ g, ((∃ cs, Blk w g 45 cs) ∨ g < K.base) → ¬ E g) : Tps K w' a l := by
  rcases h with h | ⟨g, off, e, hl, hg, hc⟩
  · exact .inl h
  · have hn : ¬ Ft K E w g := by
      rcases hg with ⟨cs, hb⟩ | hb
      · exact hI.keeps ht hb (by decide) (by decide) (by decide) (by decide) (by decide) (hE g (.inl ⟨cs, hb⟩))
      · exact hI.under hb (hE g (.inr hb))
    have hbl := ht.block g hl hn
    refine .inr ⟨g, off, e, Nat.lt_of_lt_of_le hl ht.size, ?_, fun k hk j hj => ?_⟩
    · rcases hg with ⟨cs, hb⟩ | hb
      · exact .inl ⟨cs, hbl.trans hb⟩
      · exact .inr hb
    · rw [cell_block hbl]
      exact hc k hk j hj
theorem Tps.below {a : Option Addr} {l : List Tup} (h : Tps K w a l) (hb : Below w.heap.size w w') : Tps K w' a l := by
  rcases h with h | ⟨g, off, e, hl, hg, hc⟩
  · exact .inl h
  · have hbl := hb.block g hl
    refine .inr ⟨g, off, e, Nat.lt_of_lt_of_le hl hb.size, ?_, fun k hk j hj => ?_⟩
    · rcases hg with ⟨cs, hb⟩ | hb
      · exact .inl ⟨cs, hbl.trans hb⟩
      · exact .inr hb
    · rw [cell_block hbl]
      exact hc k hk j hj
theorem Tps.cells {a : Option Addr} {l : List Tup} (h : Tps K w a l) (h5 : ∀ t ∈ l, t.length = 5) {k : Nat} (hk : k < l.length) :
    ∃ g off, a = some ⟨g, off, none⟩ ∧ ∃ c0 c1 c2 c3 c4 : BitVec 64, l[k] = [c0, c1, c2, c3, c4] ∧ w.cell? ⟨g, off + k * 5, none⟩ = some (.int .i64 c0.toInt) ∧ w.cell? ⟨g, off + k * 5 + 1, none⟩ = some (.int .i64 c1.toInt) ∧
      w.cell? ⟨g, off + k * 5 + 2, none⟩ = some (.int .i64 c2.toInt) ∧ w.cell? ⟨g, off + k * 5 + 3, none⟩ = some (.int .i64 c3.toInt) ∧ w.cell? ⟨g, off + k * 5 + 4, none⟩ = some (.int .i64 c4.toInt) := by
  rcases h with h | ⟨g, off, e, hl, hg, hc⟩
  · subst h; simp at hk
  · have hl := h5 l[k] (List.getElem_mem hk)
    have hc := hc k hk
    generalize l[k] = t at *
    match t, hl with
    | [c0, c1, c2, c3, c4], _ => exact ⟨g, off, e, c0, c1, c2, c3, c4, rfl, hc 0 (by omega), hc 1 (by omega), hc 2 (by omega), hc 3 (by omega), hc 4 (by omega)⟩
theorem Tps.of_blk {g : Nat} {l : List Tup} {rest : List Value} (h : Blk w g 45 (flatT l ++ rest).toArray) (h5 : ∀ t ∈ l, t.length = 5) : Tps K w (some ⟨g, 0, none⟩) l := by
  refine .inr ⟨g, 0, rfl, h.lt, .inl ⟨_, h⟩, fun k hk j hj => ?_⟩
  obtain ⟨g', eg, h'⟩ := TpsAt.of_blk h h5 k j hk hj
  injection eg with eg
  injection eg with eg
  rw [eg, Nat.zero_add]
  exact h'

theorem wr_below (hI : WkI w O K W) (h : WrAt w O K W x X) (hb : Below w.heap.size w w') : WrAt w' O K W x X :=
  ⟨h.blk.below hb h.blk.lt, fun hc => (h.live hc).stay (E := fun _ => False) hI (Turn.below hb) (fun h => h) (fun h => h), h.width, h.bound, h.lies⟩
/-- Behind the first k tuples. -/
def LayLoop (w1 : World) (O : Nat → Prop) (K : Key) (W : Wk) (x fb : Nat) (X : Wr) (a : Option Addr) (l : List Tup) (iv : Value) (wr : World) : Prop :=
  ∃ k : Nat, iv = .int .i64 (k : Int) ∧ k ≤ l.length ∧ putsOk W X (l.take k) ∧ WkI wr O K { W with D := (puts W X (l.take k)).2 } ∧ WrAt wr O K { W with D := (puts W X (l.take k)).2 } x (puts W X (l.take k)).1 ∧
    Blk wr fb 32 noFile ∧ Tps K wr a l ∧ Turn K (Own x X) w1 wr

/-- How Lay ends behind its writer X of the work W. -/
def LayEnd (w' : World) (O : Nat → Prop) (K : Key) (W : Wk) (X : Wr) (l : List Tup) (e : Ending) : Prop :=
  (putsOk W X l ∧ (0 < (puts W X l).1.n → ((puts W X l).1.wrote { W with D := (puts W X l).2 }).1 = 0) ∧ ∃ L', e = .returned (.tuple #[.agg ((puts W X l).1.last { W with D := (puts W X l).2 }).1.file, .int .i64 0]) ∧
    GaveRel W.L W.B (X.first + ((puts W X l).1.last { W with D := (puts W X l).2 }).1.at_) (X.blocks - ((puts W X l).1.last { W with D := (puts W X l).2 }).1.at_) L' ∧
    WkI w' O K { W with D := ((puts W X l).1.last { W with D := (puts W X l).2 }).2, A := W.A.release X.buf W.D.size, L := L' }) ∨
  (∃ (er : Int) (L' : List Sp.Ext) (D' : Dev.Dv), er ≠ 0 ∧ e = .returned (.tuple #[.agg noFile, .int .i64 er]) ∧ GaveRel W.L W.B X.first X.blocks L' ∧
    WkI w' O K { W with D := D', A := W.A.release X.buf W.D.size, L := L' } ∧
    ((∃ k, ∃ hk : k < l.length, putsOk W X (l.take k) ∧ Crc.zeroW (l[k].drop X.width) = false ∧ er = 1 ∧ D' = (puts W X (l.take k)).2) ∨
     (∃ k, ∃ hk : k < l.length, putsOk W X (l.take k) ∧ Crc.zeroW (l[k].drop X.width) = true ∧ er = (((puts W X (l.take k)).1.put l[k]).wrote { W with D := (puts W X (l.take k)).2 }).1 ∧ D' = (((puts W X (l.take k)).1.put l[k]).wrote { W with D := (puts W X (l.take k)).2 }).2) ∨
     (putsOk W X l ∧ 0 < (puts W X l).1.n ∧ er = ((puts W X l).1.wrote { W with D := (puts W X l).2 }).1 ∧ D' = ((puts W X l).1.wrote { W with D := (puts W X l).2 }).2)))
def LayTold (w : World) (O : Nat → Prop) (K : Key) (W : Wk) (wN : Nat) (l : List Tup) (e : Ending) (w' : World) : Prop :=
  ∃ b d, w.heap.size ≤ b ∧ w.heap.size ≤ d ∧ Turn K (fun _ => False) w w' ∧
    ((∃ (r er : Int) (L' : List Sp.Ext), 0 < blocksOf W.D.size wN l.length ∧ Sp.TakeRel W.L 0 W.B (blocksOf W.D.size wN l.length) r er L' ∧ er ≠ 0 ∧ e = .returned (.tuple #[.agg noFile, .int .i64 er]) ∧ WkI w' (but O d) K { W with A := (W.A.grant W.D.size b).release b W.D.size, L := L' }) ∨
     (∃ (first : Nat) (L' : List Sp.Ext), ((blocksOf W.D.size wN l.length = 0 ∧ first = 0 ∧ L' = W.L) ∨ (0 < blocksOf W.D.size wN l.length ∧ Sp.TakeRel W.L 0 W.B (blocksOf W.D.size wN l.length) (first : Int) 0 L')) ∧
       LayEnd w' (but O d) K { W with A := W.A.grant W.D.size b, L := L' } (fresh W.D.size first (blocksOf W.D.size wN l.length).toNat wN l.length b d) l e))

set_option maxRecDepth 100000 in
set_option maxHeartbeats 4000000 in
theorem lay_any (wN : Nat) (l : List Tup) (a : Option Addr) (c : Nat) (hI : WkI w O K W) (h1 : 1 ≤ wN) (h5 : wN ≤ 5) (hb : l.length ≤ 100000000) (hn : W.D.size ≤ W.A.room - W.A.used) (hl : Tps K w a l) (ht5 : ∀ t ∈ l, t.length = 5) (hac : W.D.acts + l.length + 1 < 1099511627776) (hO : ∀ g, w.heap.size ≤ g → O g) :
    Calls Try.prog 12 #[P K.wk, .int .i64 (wN : Int), .slice a l.length c] w (LayTold w O K W wN l) := by
  have hbl : Below w.heap.size w (w.alloc (.cells noFile 32)) := (Below.refl _ _).alloc (Nat.le_refl _) _
  have hF := Blk.new w 32 noFile
  have HM := Lib.hid (make_any wN l.length (hI.below hbl) h1 h5 hb hn)
  have HT : Hid (Turn K (fun _ => False) w _) := Lib.hid (Turn.below hbl)
  have HI := Lib.hid (hI.below hbl)
  have HBS : Hid (K.base ≤ w.heap.size) := Lib.hid (by have := hI.out.1; have := hI.box.lt; omega)
  have HF := Lib.hid hF
  have HL := Lib.hid (hl.below hbl)
  have H5 := Lib.hid ht5
  have hz0 : w.heap.size < (w.alloc (.cells noFile 32)).heap.size := hF.lt
  have HO : Hid (∀ g, (w.alloc (.cells noFile 32)).heap.size ≤ g → O g) := Lib.hid (fun g hg => hO g (by omega))
  unfold noFile at HM HT HI HF HL HO hz0
  obtain ⟨fb, hfb⟩ : ∃ fb, fb = w.heap.size := ⟨_, rfl⟩
  have HFB := Lib.hid (Nat.le_of_eq hfb.symm)
  clear hbl hF hI hl ht5 hO
  go_enter Try.func12, Try.ntmps12
  go_wp2_with fail
  generalize w.alloc (.cells #[.int .i64 0, .int .i64 0, .int .i64 0, .int .i64 0] 32) = w1 at *
  rw [← hfb] at HF
  rw [← hfb]
  clear hfb
  refine HM.out.mono ?_
  rintro e w2 ⟨b, d, q1, q2, ht2, hm⟩
  have HT2 := Lib.hid (HT.out.trans ht2)
  have HL2 := Lib.hid (HL.out.turn HI.out ht2 (fun g _ h => h))
  have HF2 := Lib.hid (HI.out.blk ht2 HF.out (by decide) (by decide) (by decide) (by decide) (by decide) (fun h => h))
  have hs12 : w1.heap.size ≤ w2.heap.size := ht2.size
  clear HM HT HL HF ht2
  rcases hm with ⟨r, er, L', hm0, hm1, hm2, rfl, hI2⟩ | ⟨x, first, L', hm0, hx, rfl, hI2, hX2⟩
  · have hne : (er != 0) = true := by simpa using hm2
    have HI2 := Lib.hid hI2
    have HM1 := Lib.hid (And.intro hm0 (And.intro hm1 hm2))
    obtain ⟨hI6, hF6, hT6⟩ := four_store HI2.out HF2.out (.int .i64 0) (.int .i64 0) (.int .i64 0) (.int .i64 0)
    unfold four at hI6 hF6 hT6
    have hT6' := turn_fresh ((HT2.out.mono (fun k h => h.elim)).trans hT6) (fun k e => by rw [e]; exact HFB.out)
    have g0 := HF2.out.frozen 0
    have g1 := HF2.out.frozen 1
    have g2 := HF2.out.frozen 2
    have g3 := HF2.out.frozen 3
    have p0 : w2.cell? ⟨fb, 0, none⟩ = some (.int .i64 0) := HF2.out.cell 0
    have p1 : w2.cell? ⟨fb, 1, none⟩ = some (.int .i64 0) := HF2.out.cell 1
    have p2 : w2.cell? ⟨fb, 2, none⟩ = some (.int .i64 0) := HF2.out.cell 2
    have p3 : w2.cell? ⟨fb, 3, none⟩ = some (.int .i64 0) := HF2.out.cell 3
    have HI6 := Lib.hid hI6
    have HF6 := Lib.hid hF6
    have HT6 := Lib.hid hT6'
    clear hI2 hm0 hm1 hm2 HO HL2 hI6 hF6 hT6 hT6' HI2 HF2 HT2
    go_wp2_with fail
    generalize ((((w2.setCell ⟨fb, 0, none⟩ (.int .i64 0)).setCell ⟨fb, 1, none⟩ (.int .i64 0)).setCell ⟨fb, 2, none⟩ (.int .i64 0)).setCell ⟨fb, 3, none⟩ (.int .i64 0)) = w6 at *
    have s0 : w6.cell? ⟨fb, 0, none⟩ = some (.int .i64 0) := HF6.out.cell 0
    have s1 : w6.cell? ⟨fb, 1, none⟩ = some (.int .i64 0) := HF6.out.cell 1
    have s2 : w6.cell? ⟨fb, 2, none⟩ = some (.int .i64 0) := HF6.out.cell 2
    have s3 : w6.cell? ⟨fb, 3, none⟩ = some (.int .i64 0) := HF6.out.cell 3
    refine bodyPost_ret (v := .tuple #[.agg #[.int .i64 0, .int .i64 0, .int .i64 0, .int .i64 0], .int .i64 er]) (by simp [results, Try.results12, go_sem, s0, s1, s2, s3]; try rfl) rfl ?_
    exact ⟨b, d, by omega, by omega, HT6.out, .inl ⟨r, er, L', HM1.out.1, HM1.out.2.1, HM1.out.2.2, rfl, HI6.out⟩⟩
  · have hB2 := hX2.live rfl
    have hdl : d < w2.heap.size := hB2.row.lt
    have HO2 : Hid (∀ g, w2.heap.size ≤ g → but O d g) := Lib.hid (fun g hg => ⟨HO.out g (by omega), by omega⟩)
    clear hB2
    have HI2 := Lib.hid hI2
    have HX2 := Lib.hid hX2
    have HM1 := Lib.hid hm0
    clear hI2 hm0 hX2 HO
    go_wp2_with fail
    obtain ⟨V, hV⟩ : ∃ V : Wk, V = { W with A := W.A.grant W.D.size b, L := L' } := ⟨_, rfl⟩
    obtain ⟨Y, hY⟩ : ∃ Y : Wr, Y = fresh W.D.size first (blocksOf W.D.size (wN : Int) (l.length : Int)).toNat wN l.length b d := ⟨_, rfl⟩
    have HV := Lib.hid hV
    have HY := Lib.hid hY
    rw [← hV] at HI2 HX2
    rw [← hY] at HX2
    have hVD : V.D = W.D := by rw [hV]
    have hsz : 8 ≤ V.D.size := HI2.out.size.1
    have hYc : Y.closed = false := by rw [hY]; rfl
    have hYw : Y.width = wN := by rw [hY]; rfl
    have hYn : Y.count = 0 := by rw [hY]; rfl
    have hYb : Y.bound = l.length := by rw [hY]; rfl
    have hYo : Y.Ok V.D.size := by
      rw [hVD] at hsz ⊢
      rw [hY]
      have := (blocksOf_bd (count := (l.length : Int)) (width := (wN : Int)) hsz (by have := HI2.out.size.2; rw [hVD] at this; exact this) (by omega) (by omega) (by omega)).1
      exact Wr.Ok.new b d first _ wN l.length hsz h1 h5 (by omega)
    have HYF := Lib.hid (And.intro hYc (And.intro hYw (And.intro hYn (And.intro hYb (And.intro hYo (And.intro hVD hsz))))))
    clear hV hY hVD hsz hYc hYw hYn hYb hYo
    go_loopw [27] (fun iv wr => LayLoop w2 (but O d) K V x fb Y a l iv wr) (fun iv _ => l.length - (intOf iv).toNat)
    case atStart => exact ⟨0, rfl, by omega, trivial, HI2.out, HX2.out, HF2.out, HL2.out, Turn.refl _ _ _⟩
    case round =>
      obtain ⟨k, rfl, hk, hpk, hIk, hXk, hFk, hLk, htk⟩ := hrel
      clear HI2 HX2 HF2 HL2
      by_cases hkl : k < l.length
      · have hki : (k : Int) < (l.length : Int) := by omega
        have hki2 : decide (k < l.length) = true := by simpa using hkl
        have H5k := H5.out
        obtain ⟨g, off, ha, c0, c1, c2, c3, c4, hlk, y0, y1, y2, y3, y4⟩ := hLk.cells H5k hkl
        subst ha
        have HKI := Lib.hid (And.intro hpk (And.intro hIk (And.intro hXk (And.intro hFk (And.intro hLk htk)))))
        have HKL : Hid (∃ h : k < l.length, l[k] = [c0, c1, c2, c3, c4]) := Lib.hid ⟨hkl, hlk⟩
        have hbn : Below wr.heap.size wr (wr.alloc (.cells #[.int .i64 c0.toInt, .int .i64 c1.toInt, .int .i64 c2.toInt, .int .i64 c3.toInt, .int .i64 c4.toInt] 45)) := (Below.refl _ _).alloc (Nat.le_refl _) _
        have hkk := puts_kin V Y (l.take k)
        obtain ⟨f1, f2, f3, f4, f5, f6, f7⟩ := HYF.out
        have hkok := puts_ok (W := V) (l.take k) f5 f7 (by omega) (by omega) (by rw [f3, f4, List.length_take]; omega)
        have hlt : (l.take k).length = k := by rw [List.length_take]; omega
        have hsk := htk.size
        have HP := Lib.hid (put_live [c0, c1, c2, c3, c4] rfl (hIk.below hbn) (wr_below hIk hXk hbn) (hkk.closed.trans f1) (by show (puts V Y (l.take k)).1.Ok (puts V Y (l.take k)).2.size; rw [hkk.size]; exact hkok) (by show (puts V Y (l.take k)).2.acts + 1 < _; have := hkk.acts; rw [hlt, f6] at this; omega) (fun g hg => HO2.out g (by have := hbn.size; omega)))
        have nn : (Blk (wr.alloc (.cells #[.int .i64 c0.toInt, .int .i64 c1.toInt, .int .i64 c2.toInt, .int .i64 c3.toInt, .int .i64 c4.toInt] 45)) wr.heap.size 45 _) := Blk.new wr _ _
        have n0 := nn.cell 0
        have n1 := nn.cell 1
        have n2 := nn.cell 2
        have n3 := nn.cell 3
        have n4 := nn.cell 4
        have HBN := Lib.hid hbn
        clear hbn hkk hkok hlt hsk nn f1 f2 f3 f4 f5 f6 f7
        have ki0 : (0 : Int) ≤ (k : Int) := by omega
        clear hpk hIk hXk hFk hLk htk H5k hkl hlk
        go_wp2_with fail
        refine HP.out.mono ?_
        rintro e w4 hput
        have HKI' := HKI
        obtain ⟨hpk, hIk, hXk, hFk, hLk, htk⟩ := HKI'.out
        obtain ⟨hkl, hlk⟩ := HKL.out
        have hkk := puts_kin V Y (l.take k)
        have hlt : (l.take k).length = k := by rw [List.length_take]; omega
        have htake : l.take (k + 1) = l.take k ++ [[c0, c1, c2, c3, c4]] := by rw [List.take_succ_eq_append_getElem hkl, hlk]
        obtain ⟨f1, f2, f3, f4, f5, f6, f7⟩ := HYF.out
        rcases hput with ⟨hz, rfl, hb4⟩ | ⟨hz, hfull, _, _⟩ | ⟨hz, hfull, hput⟩
        · have hIn := hIk.below HBN.out
          have hFn := hFk.below HBN.out hFk.lt
          have hB := hXk.live (hkk.closed.trans f1)
          have HFN : Hid (∀ q, Own x (puts V Y (l.take k)).1 q → q ≠ fb) := Lib.hid (fun q h e => by
            rcases h with h | h | h
            · exact hFk.ne_ hXk.blk (by decide) (e.symm.trans h)
            · exact hFk.ne_ hB.blk (by decide) (e.symm.trans h)
            · exact hFk.ne_ hB.row (by decide) (e.symm.trans h))
          have e1 : Y.buf = b := by rw [HY.out]; rfl
          have e2 : Y.arr = d := by rw [HY.out]; rfl
          have HOW : Hid (∀ q, Own x (puts V Y (l.take k)).1 q → w.heap.size ≤ q) := Lib.hid (fun q h => by
            rcases h with h | h | h
            · omega
            · rw [h, hkk.buf, e1]; omega
            · rw [h, hkk.arr, e2]; omega)
          have HTk : Hid (Turn K (fun _ => False) w wr) := Lib.hid (turn_fresh ((HT2.out.mono (fun k h => h.elim)).trans htk) (fun q h => by
            rcases h with h | h | h
            · omega
            · rw [h, e1]; omega
            · rw [h, e2]; omega))
          have hIm := hIn.below hb4
          have HDR := Lib.hid (drop_live hIm (wr_below hIn (wr_below hIk hXk HBN.out) hb4) (hkk.closed.trans f1))
          have HIm := Lib.hid hIm
          have HFm := Lib.hid (hFn.below hb4 hFn.lt)
          have HTm := Lib.hid ((HTk.out.trans (Turn.below HBN.out)).trans (Turn.below hb4))
          have HZ := Lib.hid hz
          have HPK := Lib.hid hpk
          clear hpk hIk hXk hFk hLk htk HKI HKI' hkk hlt htake f1 f2 f3 f4 f5 f6 f7 hz hb4 hIm hIn hFn hB HTk HP HBN n0 n1 n2 n3 n4 y0 y1 y2 y3 y4 e1 e2
          go_wp2_with fail
          refine HDR.out.mono ?_
          rintro e w5 ⟨L5, rfl, hg5, hI5, hX5, ht5⟩
          have HIe := Lib.hid hI5
          have HFe := Lib.hid (HIm.out.blk ht5 HFm.out (by decide) (by decide) (by decide) (by decide) (by decide) (fun h => HFN.out _ h rfl))
          have HTe := Lib.hid (turn_fresh ((HTm.out.mono (fun k h => h.elim)).trans ht5) HOW.out)
          have HG5 := Lib.hid hg5
          clear hI5 ht5 hX5 hg5 HDR HFN HOW HIm HFm HTm
          obtain ⟨hI6, hF6, hT6⟩ := four_store HIe.out HFe.out (.int .i64 0) (.int .i64 0) (.int .i64 0) (.int .i64 0)
          unfold four at hI6 hF6 hT6
          have hT6' := turn_fresh ((HTe.out.mono (fun k h => h.elim)).trans hT6) (fun k e => by rw [e]; exact HFB.out)
          have g0 := HFe.out.frozen 0
          have g1 := HFe.out.frozen 1
          have g2 := HFe.out.frozen 2
          have g3 := HFe.out.frozen 3
          have p0 : w5.cell? ⟨fb, 0, none⟩ = some (.int .i64 0) := HFe.out.cell 0
          have p1 : w5.cell? ⟨fb, 1, none⟩ = some (.int .i64 0) := HFe.out.cell 1
          have p2 : w5.cell? ⟨fb, 2, none⟩ = some (.int .i64 0) := HFe.out.cell 2
          have p3 : w5.cell? ⟨fb, 3, none⟩ = some (.int .i64 0) := HFe.out.cell 3
          have HI6 := Lib.hid hI6
          have HF6 := Lib.hid hF6
          have HT6 := Lib.hid hT6'
          clear hI6 hF6 hT6 hT6' HIe HFe HTe
          go_wp2_with fail
          generalize ((((w5.setCell ⟨fb, 0, none⟩ (.int .i64 0)).setCell ⟨fb, 1, none⟩ (.int .i64 0)).setCell ⟨fb, 2, none⟩ (.int .i64 0)).setCell ⟨fb, 3, none⟩ (.int .i64 0)) = w6 at *
          have s0 : w6.cell? ⟨fb, 0, none⟩ = some (.int .i64 0) := HF6.out.cell 0
          have s1 : w6.cell? ⟨fb, 1, none⟩ = some (.int .i64 0) := HF6.out.cell 1
          have s2 : w6.cell? ⟨fb, 2, none⟩ = some (.int .i64 0) := HF6.out.cell 2
          have s3 : w6.cell? ⟨fb, 3, none⟩ = some (.int .i64 0) := HF6.out.cell 3
          refine bodyPost_ret (v := .tuple #[.agg #[.int .i64 0, .int .i64 0, .int .i64 0, .int .i64 0], .int .i64 (1)]) (by simp [results, Try.results12, go_sem, s0, s1, s2, s3]; try rfl) rfl ?_
          refine ⟨b, d, by omega, by omega, HT6.out, .inr ⟨first, L', HM1.out, ?_⟩⟩
          rw [← HV.out, ← HY.out]
          have hkk := puts_kin V Y (l.take k)
          refine .inr ⟨_, L5, _, by decide, rfl, ?_, ?_, .inl ⟨k, hkl, HPK.out, ?_, rfl, rfl⟩⟩
          · have := HG5.out
            rw [hkk.first, hkk.blocks] at this
            exact this
          · have := HI6.out
            rw [hkk.buf] at this
            rw [← hkk.size]
            exact this
          · rw [hlk, ← hkk.width]; exact HZ.out
        · exfalso
          have e1 := hkk.count
          have e2 := hkk.bound
          rw [hlt] at e1
          omega
        · rcases hput with ⟨hw0, rfl, hI4, hX4, ht4⟩ | ⟨hd, hw0, L4, rfl, hg4, hI4, hX4, ht4⟩
          · have hIn := hIk.below HBN.out
            have hFn := hFk.below HBN.out hFk.lt
            have hLn := hLk.below HBN.out
            have hown : ∀ q, Own x (puts V Y (l.take k)).1 q → Own x Y q := fun q h => by unfold Own at h ⊢; rw [hkk.buf, hkk.arr] at h; exact h
            have hB := hXk.live (hkk.closed.trans f1)
            have hBn := hB.stay (E := fun _ => False) hIk (Turn.below HBN.out) (fun h => h) (fun h => h)
            have hF4 := hIn.blk ht4 hFn (by decide) (by decide) (by decide) (by decide) (by decide) (fun h => by
              rcases h with h | h | h
              · exact hFk.ne_ hXk.blk (by decide) h
              · exact hFk.ne_ hB.blk (by decide) h
              · exact hFk.ne_ hB.row (by decide) h)
            have hL4 := hLn.turn hIn ht4 (fun q hq h => by
              rcases hq with ⟨cs, hq⟩ | hq
              · rcases h with h | h | h
                · exact hq.ne_ (hXk.blk.below HBN.out hXk.blk.lt) (by decide) h
                · exact hq.ne_ hBn.blk (by decide) h
                · exact hq.ne_ hBn.row (by decide) h
              · rcases h with h | h | h
                · rw [h] at hq; have := HBS.out; omega
                · rw [h, hkk.buf, show Y.buf = b from by rw [HY.out]; rfl] at hq; have := HBS.out; omega
                · rw [h, hkk.arr, show Y.arr = d from by rw [HY.out]; rfl] at hq; have := HBS.out; omega)
            have hp4 : putsOk V Y (l.take (k + 1)) := by
              rw [htake, putsOk_snoc]
              exact ⟨hpk, ⟨hz, hw0⟩, trivial⟩
            have hs4 : puts V Y (l.take (k + 1)) = (puts V Y (l.take k)).1.next { V with D := (puts V Y (l.take k)).2 } [c0, c1, c2, c3, c4] := by rw [htake, puts_snoc]
            have ht44 := (htk.trans (Turn.below HBN.out)).trans (ht4.mono hown)
            have HN4 : Hid (LayLoop w2 (but O d) K V x fb Y (some ⟨g, off, none⟩) l (.int .i64 ((k : Int) + 1)) w4) := Lib.hid ⟨k + 1, by go_num, by omega, hp4, by rw [hs4]; exact hI4, by rw [hs4]; exact hX4, hF4, hL4, ht44⟩
            clear hpk hIk hXk hFk hLk htk HKI HKI' hkk hlt htake f1 f2 f3 f4 f5 f6 f7 hz hfull hw0 hI4 hX4 ht4 hIn hFn hLn hown hB hBn hF4 hL4 hp4 hs4 ht44 HP HBN n0 n1 n2 n3 n4 hlk HKL y0 y1 y2 y3 y4
            go_wp2_with fail
            go_roundw
            case rel => exact HN4.out
            case measure => simp [intOf]; omega
          · have hIn := hIk.below HBN.out
            have hFn := hFk.below HBN.out hFk.lt
            have hB := hXk.live (hkk.closed.trans f1)
            have HFN : Hid (∀ q, Own x (puts V Y (l.take k)).1 q → q ≠ fb) := Lib.hid (fun q h e => by
              rcases h with h | h | h
              · exact hFk.ne_ hXk.blk (by decide) (e.symm.trans h)
              · exact hFk.ne_ hB.blk (by decide) (e.symm.trans h)
              · exact hFk.ne_ hB.row (by decide) (e.symm.trans h))
            have e1 : Y.buf = b := by rw [HY.out]; rfl
            have e2 : Y.arr = d := by rw [HY.out]; rfl
            have HOW : Hid (∀ q, Own x (puts V Y (l.take k)).1 q → w.heap.size ≤ q) := Lib.hid (fun q h => by
              rcases h with h | h | h
              · omega
              · rw [h, hkk.buf, e1]; omega
              · rw [h, hkk.arr, e2]; omega)
            have HTk : Hid (Turn K (fun _ => False) w wr) := Lib.hid (turn_fresh ((HT2.out.mono (fun k h => h.elim)).trans htk) (fun q h => by
              rcases h with h | h | h
              · omega
              · rw [h, e1]; omega
              · rw [h, e2]; omega))
            have HIe := Lib.hid hI4
            have HFe := Lib.hid (hIn.blk ht4 hFn (by decide) (by decide) (by decide) (by decide) (by decide) (fun h => HFN.out _ h rfl))
            have HTe := Lib.hid (turn_fresh (((HTk.out.trans (Turn.below HBN.out)).mono (fun k h => h.elim)).trans ht4) HOW.out)
            have HG5 := Lib.hid hg4
            have HW0 := Lib.hid hw0
            have HZ := Lib.hid hz
            have HPK := Lib.hid hpk
            have hne : ((((puts V Y (l.take k)).1.put [c0, c1, c2, c3, c4]).wrote { V with D := (puts V Y (l.take k)).2 }).1 != 0) = true := by simpa using hw0
            have HDR := Lib.hid (drop_closed (O := but O d) (K := K) (W := V) (X := { (puts V Y (l.take k)).1.put [c0, c1, c2, c3, c4] with closed := true }) ⟨hX4, fun h => (by cases h), hXk.width, hXk.bound, hXk.lies⟩ rfl)
            clear hpk hIk hXk hFk hLk htk HKI HKI' hkk hlt htake f1 f2 f3 f4 f5 f6 f7 hz hfull hw0 hI4 hX4 ht4 hIn hFn hB HFN HOW HTk HP HBN n0 n1 n2 n3 n4 y0 y1 y2 y3 y4 hg4 hd e1 e2
            go_wp2_with fail
            refine HDR.out.mono ?_
            rintro e w5 ⟨rfl, rfl⟩
            obtain ⟨hI6, hF6, hT6⟩ := four_store HIe.out HFe.out (.int .i64 0) (.int .i64 0) (.int .i64 0) (.int .i64 0)
            unfold four at hI6 hF6 hT6
            have hT6' := turn_fresh ((HTe.out.mono (fun k h => h.elim)).trans hT6) (fun k e => by rw [e]; exact HFB.out)
            have g0 := HFe.out.frozen 0
            have g1 := HFe.out.frozen 1
            have g2 := HFe.out.frozen 2
            have g3 := HFe.out.frozen 3
            have p0 : w4.cell? ⟨fb, 0, none⟩ = some (.int .i64 0) := HFe.out.cell 0
            have p1 : w4.cell? ⟨fb, 1, none⟩ = some (.int .i64 0) := HFe.out.cell 1
            have p2 : w4.cell? ⟨fb, 2, none⟩ = some (.int .i64 0) := HFe.out.cell 2
            have p3 : w4.cell? ⟨fb, 3, none⟩ = some (.int .i64 0) := HFe.out.cell 3
            have HI6 := Lib.hid hI6
            have HF6 := Lib.hid hF6
            have HT6 := Lib.hid hT6'
            clear hI6 hF6 hT6 hT6' HIe HFe HTe
            go_wp2_with fail
            generalize ((((w4.setCell ⟨fb, 0, none⟩ (.int .i64 0)).setCell ⟨fb, 1, none⟩ (.int .i64 0)).setCell ⟨fb, 2, none⟩ (.int .i64 0)).setCell ⟨fb, 3, none⟩ (.int .i64 0)) = w6 at *
            have s0 : w6.cell? ⟨fb, 0, none⟩ = some (.int .i64 0) := HF6.out.cell 0
            have s1 : w6.cell? ⟨fb, 1, none⟩ = some (.int .i64 0) := HF6.out.cell 1
            have s2 : w6.cell? ⟨fb, 2, none⟩ = some (.int .i64 0) := HF6.out.cell 2
            have s3 : w6.cell? ⟨fb, 3, none⟩ = some (.int .i64 0) := HF6.out.cell 3
            refine bodyPost_ret (v := .tuple #[.agg #[.int .i64 0, .int .i64 0, .int .i64 0, .int .i64 0], .int .i64 ((((puts V Y (l.take k)).1.put [c0, c1, c2, c3, c4]).wrote { V with D := (puts V Y (l.take k)).2 }).1)]) (by simp [results, Try.results12, go_sem, s0, s1, s2, s3]; try rfl) rfl ?_
            refine ⟨b, d, by omega, by omega, HT6.out, .inr ⟨first, L', HM1.out, ?_⟩⟩
            rw [← HV.out, ← HY.out]
            have hkk := puts_kin V Y (l.take k)
            refine .inr ⟨_, L4, _, HW0.out, rfl, ?_, ?_, .inr (.inl ⟨k, hkl, HPK.out, ?_, by rw [hlk], by rw [hlk]⟩)⟩
            · have := HG5.out
              rw [hkk.first, hkk.blocks] at this
              exact this
            · have := HI6.out
              rw [hkk.buf] at this
              rw [← hkk.size]
              exact this
            · rw [hlk, ← hkk.width]; exact HZ.out
      · have hki : (l.length : Int) ≤ (k : Int) := by omega
        have hki2 : decide (k < l.length) = false := by simpa using hkl
        have HKI := Lib.hid (And.intro hpk (And.intro hIk (And.intro hXk (And.intro hFk (And.intro hLk htk)))))
        have hke : k = l.length := by omega
        have HKL := Lib.hid hke
        have hkk := puts_kin V Y l
        obtain ⟨f1, f2, f3, f4, f5, f6, f7⟩ := HYF.out
        rw [hke, List.take_length] at hpk hIk hXk
        have hkok := puts_ok (W := V) l f5 f7 (by omega) (by omega) (by omega)
        have hsk := htk.size
        have hB := hXk.live (hkk.closed.trans f1)
        have HCl := Lib.hid (close_live hIk hXk (hkk.closed.trans f1) (by show (puts V Y l).1.Ok (puts V Y l).2.size; rw [hkk.size]; exact hkok) (by show (puts V Y l).2.acts + 1 < _; have := hkk.acts; rw [f6] at this; omega) (fun g hg => HO2.out g (by omega)))
        have HFN : Hid (∀ q, Own x (puts V Y l).1 q ∨ wr.heap.size ≤ q → q ≠ fb) := Lib.hid (fun q h e => by
          rcases h with (h | h | h) | h
          · exact hFk.ne_ hXk.blk (by decide) (e.symm.trans h)
          · exact hFk.ne_ hB.blk (by decide) (e.symm.trans h)
          · exact hFk.ne_ hB.row (by decide) (e.symm.trans h)
          · have := hFk.lt; omega)
        have HOW : Hid (∀ q, Own x (puts V Y l).1 q ∨ wr.heap.size ≤ q → w.heap.size ≤ q) := Lib.hid (fun q h => by
          have e1 : Y.buf = b := by rw [HY.out]; rfl
          have e2 : Y.arr = d := by rw [HY.out]; rfl
          rcases h with (h | h | h) | h
          · omega
          · rw [h, hkk.buf, e1]; omega
          · rw [h, hkk.arr, e2]; omega
          · omega)
        have HTk : Hid (Turn K (fun _ => False) w wr) := Lib.hid (turn_fresh ((HT2.out.mono (fun k h => h.elim)).trans htk) (fun q h => by
          rw [HY.out] at h
          rcases h with h | h | h
          · omega
          · rw [h]; show w.heap.size ≤ b; omega
          · rw [h]; show w.heap.size ≤ d; omega))
        have HIk := Lib.hid hIk
        have HFk := Lib.hid hFk
        have HPK := Lib.hid hpk
        clear hpk hIk hXk hFk hLk htk hkl hke hkk hkok hsk hB f1 f2 f3 f4 f5 f6 f7 HKI
        go_wp2_with fail
        refine HCl.out.mono ?_
        rintro e w5 hcl
        rcases hcl with ⟨hw0, L5, rfl, hg5, hI5, hX5, ht5⟩ | ⟨hn0, hw0, L5, rfl, hg5, hI5, hX5, ht5⟩
        · obtain ⟨v0, v1, v2, v3, hv⟩ : ∃ v0 v1 v2 v3 : Int, ((puts V Y l).1.last { V with D := (puts V Y l).2 }).1.file = #[.int .i64 v0, .int .i64 v1, .int .i64 v2, .int .i64 v3] := ⟨_, _, _, _, rfl⟩
          rw [hv]
          have HVV := Lib.hid hv
          clear hv
          have HIe := Lib.hid hI5
          have HFe := Lib.hid (HIk.out.blk ht5 HFk.out (by decide) (by decide) (by decide) (by decide) (by decide) (fun h => HFN.out _ h rfl))
          have HTe := Lib.hid (turn_fresh ((HTk.out.mono (fun k h => h.elim)).trans ht5) HOW.out)
          have HG5 := Lib.hid hg5
          have HW0 := Lib.hid hw0
          clear hI5 ht5 hX5 hg5 hw0 HCl HFN HOW HTk HIk HFk
          obtain ⟨hI6, hF6, hT6⟩ := four_store HIe.out HFe.out (.int .i64 v0) (.int .i64 v1) (.int .i64 v2) (.int .i64 v3)
          unfold four at hI6 hF6 hT6
          have hT6' := turn_fresh ((HTe.out.mono (fun k h => h.elim)).trans hT6) (fun k e => by rw [e]; exact HFB.out)
          have g0 := HFe.out.frozen 0
          have g1 := HFe.out.frozen 1
          have g2 := HFe.out.frozen 2
          have g3 := HFe.out.frozen 3
          have p0 : w5.cell? ⟨fb, 0, none⟩ = some (.int .i64 0) := HFe.out.cell 0
          have p1 : w5.cell? ⟨fb, 1, none⟩ = some (.int .i64 0) := HFe.out.cell 1
          have p2 : w5.cell? ⟨fb, 2, none⟩ = some (.int .i64 0) := HFe.out.cell 2
          have p3 : w5.cell? ⟨fb, 3, none⟩ = some (.int .i64 0) := HFe.out.cell 3
          have HI6 := Lib.hid hI6
          have HF6 := Lib.hid hF6
          have HT6 := Lib.hid hT6'
          clear hI6 hF6 hT6 hT6' HIe HFe HTe
          go_wp2_with fail
          generalize ((((w5.setCell ⟨fb, 0, none⟩ (.int .i64 v0)).setCell ⟨fb, 1, none⟩ (.int .i64 v1)).setCell ⟨fb, 2, none⟩ (.int .i64 v2)).setCell ⟨fb, 3, none⟩ (.int .i64 v3)) = w6 at *
          have s0 : w6.cell? ⟨fb, 0, none⟩ = some (.int .i64 v0) := HF6.out.cell 0
          have s1 : w6.cell? ⟨fb, 1, none⟩ = some (.int .i64 v1) := HF6.out.cell 1
          have s2 : w6.cell? ⟨fb, 2, none⟩ = some (.int .i64 v2) := HF6.out.cell 2
          have s3 : w6.cell? ⟨fb, 3, none⟩ = some (.int .i64 v3) := HF6.out.cell 3
          refine bodyPost_ret (v := .tuple #[.agg #[.int .i64 v0, .int .i64 v1, .int .i64 v2, .int .i64 v3], .int .i64 (0)]) (by simp [results, Try.results12, go_sem, s0, s1, s2, s3]; try rfl) rfl ?_
          refine ⟨b, d, by omega, by omega, HT6.out, .inr ⟨first, L', HM1.out, ?_⟩⟩
          rw [← HV.out, ← HY.out]
          have hkk := puts_kin V Y l
          refine .inl ⟨HPK.out, HW0.out, L5, by rw [HVV.out], ?_, ?_⟩
          · have := HG5.out
            rw [hkk.first, hkk.blocks] at this
            exact this
          · have := HI6.out
            rw [hkk.buf] at this
            rw [← hkk.size]
            exact this
        · have HN0 := Lib.hid hn0
          have hne : (((puts V Y l).1.wrote { V with D := (puts V Y l).2 }).1 != 0) = true := by simpa using hw0
          clear hn0
          unfold noFile
          have HIe := Lib.hid hI5
          have HFe := Lib.hid (HIk.out.blk ht5 HFk.out (by decide) (by decide) (by decide) (by decide) (by decide) (fun h => HFN.out _ h rfl))
          have HTe := Lib.hid (turn_fresh ((HTk.out.mono (fun k h => h.elim)).trans ht5) HOW.out)
          have HG5 := Lib.hid hg5
          have HW0 := Lib.hid hw0
          clear hI5 ht5 hX5 hg5 hw0 HCl HFN HOW HTk HIk HFk
          obtain ⟨hI6, hF6, hT6⟩ := four_store HIe.out HFe.out (.int .i64 0) (.int .i64 0) (.int .i64 0) (.int .i64 0)
          unfold four at hI6 hF6 hT6
          have hT6' := turn_fresh ((HTe.out.mono (fun k h => h.elim)).trans hT6) (fun k e => by rw [e]; exact HFB.out)
          have g0 := HFe.out.frozen 0
          have g1 := HFe.out.frozen 1
          have g2 := HFe.out.frozen 2
          have g3 := HFe.out.frozen 3
          have p0 : w5.cell? ⟨fb, 0, none⟩ = some (.int .i64 0) := HFe.out.cell 0
          have p1 : w5.cell? ⟨fb, 1, none⟩ = some (.int .i64 0) := HFe.out.cell 1
          have p2 : w5.cell? ⟨fb, 2, none⟩ = some (.int .i64 0) := HFe.out.cell 2
          have p3 : w5.cell? ⟨fb, 3, none⟩ = some (.int .i64 0) := HFe.out.cell 3
          have HI6 := Lib.hid hI6
          have HF6 := Lib.hid hF6
          have HT6 := Lib.hid hT6'
          clear hI6 hF6 hT6 hT6' HIe HFe HTe
          go_wp2_with fail
          generalize ((((w5.setCell ⟨fb, 0, none⟩ (.int .i64 0)).setCell ⟨fb, 1, none⟩ (.int .i64 0)).setCell ⟨fb, 2, none⟩ (.int .i64 0)).setCell ⟨fb, 3, none⟩ (.int .i64 0)) = w6 at *
          have s0 : w6.cell? ⟨fb, 0, none⟩ = some (.int .i64 0) := HF6.out.cell 0
          have s1 : w6.cell? ⟨fb, 1, none⟩ = some (.int .i64 0) := HF6.out.cell 1
          have s2 : w6.cell? ⟨fb, 2, none⟩ = some (.int .i64 0) := HF6.out.cell 2
          have s3 : w6.cell? ⟨fb, 3, none⟩ = some (.int .i64 0) := HF6.out.cell 3
          refine bodyPost_ret (v := .tuple #[.agg #[.int .i64 0, .int .i64 0, .int .i64 0, .int .i64 0], .int .i64 (((puts V Y l).1.wrote { V with D := (puts V Y l).2 }).1)]) (by simp [results, Try.results12, go_sem, s0, s1, s2, s3]; try rfl) rfl ?_
          refine ⟨b, d, by omega, by omega, HT6.out, .inr ⟨first, L', HM1.out, ?_⟩⟩
          rw [← HV.out, ← HY.out]
          have hkk := puts_kin V Y l
          refine .inr ⟨_, L5, _, HW0.out, rfl, ?_, ?_, .inr (.inr ⟨HPK.out, HN0.out, rfl, rfl⟩)⟩
          · have := HG5.out
            rw [hkk.first, hkk.blocks] at this
            exact this
          · have := HI6.out
            rw [hkk.buf] at this
            rw [← hkk.size]
            exact this
end

end Go.Proofs.Ytmmkncocgjgapaa.Fl

/- The walk of Lay where no writer is told. -/
namespace Go.Proofs.Ytmmkncocgjgapaa.Fl
open Go.RowKit

section
variable {w w' : World} {O : Nat → Prop} {K : Key} {W : Wk}

def LayNo (w : World) (er : Int) (e : Ending) (w' : World) : Prop := e = .returned (.tuple #[.agg noFile, .int .i64 er]) ∧ Below w.heap.size w w'

set_option maxRecDepth 100000 in
set_option maxHeartbeats 2000000 in
theorem lay_no (wk : Option Addr) (width er : Int) (a : Option Addr) (n c : Nat) (her : er ≠ 0)
    (hm : Calls Try.prog 22 #[.pointer wk, .int .i64 width, .int .i64 (n : Int)] (w.alloc (.cells noFile 32)) (MakeNo (w.alloc (.cells noFile 32)) er)) :
    Calls Try.prog 12 #[.pointer wk, .int .i64 width, .slice a n c] w (LayNo w er) := by
  have hbl : Below w.heap.size w (w.alloc (.cells noFile 32)) := (Below.refl _ _).alloc (Nat.le_refl _) _
  have hF := Blk.new w 32 noFile
  have hne : (er != 0) = true := by simpa using her
  have HM := Lib.hid hm
  have HB := Lib.hid hbl
  have HF := Lib.hid hF
  have hz0 : w.heap.size < (w.alloc (.cells noFile 32)).heap.size := hF.lt
  unfold noFile at HM HF HB hz0
  obtain ⟨fb, hfb⟩ : ∃ fb, fb = w.heap.size := ⟨_, rfl⟩
  have HFB := Lib.hid (Nat.le_of_eq hfb.symm)
  clear hbl hF her hm
  go_enter Try.func12, Try.ntmps12
  go_wp2_with fail
  generalize w.alloc (.cells #[.int .i64 0, .int .i64 0, .int .i64 0, .int .i64 0] 32) = w1 at *
  rw [← hfb] at HF
  rw [← hfb]
  clear hfb
  refine HM.out.mono ?_
  rintro e w2 ⟨rfl, hb2⟩
  have hF2 := HF.out.below hb2 HF.out.lt
  have hB2 : Below w.heap.size w w2 := HB.out.trans (hb2.mono (by omega))
  have g0 := hF2.frozen 0
  have g1 := hF2.frozen 1
  have g2 := hF2.frozen 2
  have g3 := hF2.frozen 3
  have p0 : w2.cell? ⟨fb, 0, none⟩ = some (.int .i64 0) := hF2.cell 0
  have p1 : w2.cell? ⟨fb, 1, none⟩ = some (.int .i64 0) := hF2.cell 1
  have p2 : w2.cell? ⟨fb, 2, none⟩ = some (.int .i64 0) := hF2.cell 2
  have p3 : w2.cell? ⟨fb, 3, none⟩ = some (.int .i64 0) := hF2.cell 3
  have HF6 := Lib.hid ((((hF2.set_ 0 (.int .i64 0)).set_ 1 (.int .i64 0)).set_ 2 (.int .i64 0)).set_ 3 (.int .i64 0))
  have HB6 := Lib.hid ((((hB2.setCell (p := ⟨fb, 0, none⟩) HFB.out (.int .i64 0)).setCell (p := ⟨fb, 1, none⟩) HFB.out (.int .i64 0)).setCell (p := ⟨fb, 2, none⟩) HFB.out (.int .i64 0)).setCell (p := ⟨fb, 3, none⟩) HFB.out (.int .i64 0))
  clear hF2 hB2 hb2 HF HB HM
  go_wp2_with fail
  generalize ((((w2.setCell ⟨fb, 0, none⟩ (.int .i64 0)).setCell ⟨fb, 1, none⟩ (.int .i64 0)).setCell ⟨fb, 2, none⟩ (.int .i64 0)).setCell ⟨fb, 3, none⟩ (.int .i64 0)) = w6 at *
  have s0 : w6.cell? ⟨fb, 0, none⟩ = some (.int .i64 0) := HF6.out.cell 0
  have s1 : w6.cell? ⟨fb, 1, none⟩ = some (.int .i64 0) := HF6.out.cell 1
  have s2 : w6.cell? ⟨fb, 2, none⟩ = some (.int .i64 0) := HF6.out.cell 2
  have s3 : w6.cell? ⟨fb, 3, none⟩ = some (.int .i64 0) := HF6.out.cell 3
  refine bodyPost_ret (v := .tuple #[.agg #[.int .i64 0, .int .i64 0, .int .i64 0, .int .i64 0], .int .i64 er]) (by simp [results, Try.results12, go_sem, s0, s1, s2, s3]; try rfl) rfl ?_
  exact ⟨rfl, HB6.out⟩

theorem lay_nil (width : Int) (a : Option Addr) (n c : Nat) (w : World) : Calls Try.prog 12 #[.pointer none, .int .i64 width, .slice a n c] w (LayNo w 1) :=
  lay_no none width 1 a n c (by decide) (make_nil width n _)
theorem lay_arg (width : Int) (a : Option Addr) (n c : Nat) (hI : WkI w O K W) (h : width < 1 ∨ 5 < width ∨ 100000000 < n) : Calls Try.prog 12 #[P K.wk, .int .i64 width, .slice a n c] w (LayNo w 1) :=
  lay_no _ width 1 a n c (by decide) (make_arg width n (hI.below ((Below.refl _ _).alloc (Nat.le_refl _) _)) (by omega))
theorem lay_room (wN : Nat) (a : Option Addr) (n c : Nat) (hI : WkI w O K W) (h1 : 1 ≤ wN) (h5 : wN ≤ 5) (hb : n ≤ 100000000) (hn : (W.A.room : Int) - W.A.used < W.D.size) : Calls Try.prog 12 #[P K.wk, .int .i64 (wN : Int), .slice a n c] w (LayNo w 7) :=
  lay_no _ wN 7 a n c (by decide) (make_room wN n (hI.below ((Below.refl _ _).alloc (Nat.le_refl _) _)) h1 h5 hb hn)
end

end Go.Proofs.Ytmmkncocgjgapaa.Fl

/- What a reader keeps, in plain words. -/
namespace Go.Proofs.Ytmmkncocgjgapaa.Fl
open Go.RowKit

/-- Some tuples lie in the buffer, all of the blocks that were read are told but for them. -/
structure Rd.Ok (size : Nat) (X : Rd) : Prop where
  left : ∃ left wN : Nat, X.width = (wN : Int) ∧ X.n = X.at_ + left * wN ∧ ((X.told + left : Nat) : Int) = min X.count ((X.block * hN size wN : Nat) : Int)
  fits : X.n + 2 ≤ size
  block : (X.block : Int) ≤ X.count

section
variable {size : Nat} {X : Rd}
theorem Rd.Ok.new (first blocks width count : Int) (b d : Nat) (ws : List (BitVec 64)) (h8 : 8 ≤ size) (hw : 1 ≤ width) (hc : 0 ≤ count) : Rd.Ok size ⟨first, blocks, width, count, b, d, 0, 0, 0, 0, false, ws⟩ :=
  ⟨⟨0, width.toNat, (show width = (width.toNat : Int) by omega), by simp, by show ((0 + 0 : Nat) : Int) = min count ((0 * hN size width.toNat : Nat) : Int); rw [Nat.zero_mul]; omega⟩, by show 0 + 2 ≤ size; omega, hc⟩
theorem Rd.Ok.room (h : X.Ok size) (h1 : 1 ≤ X.width) (hn : X.at_ ≠ X.n) : X.at_ + X.width.toNat ≤ size := by
  obtain ⟨left, wN, hw, hl, _⟩ := h.left
  have hf := h.fits
  have e : X.width.toNat = wN := by rw [hw]; rfl
  rw [e]
  have h0 : left ≠ 0 := fun e0 => hn (by rw [hl, e0, Nat.zero_mul, Nat.add_zero])
  have : 1 * wN ≤ left * wN := Nat.mul_le_mul_right _ (by omega)
  omega
theorem Rd.Ok.next (h : X.Ok size) (hn : X.at_ ≠ X.n) : X.next.Ok size := by
  obtain ⟨left, wN, hw, hl, ht⟩ := h.left
  have e : X.width.toNat = wN := by rw [hw]; rfl
  have h0 : left ≠ 0 := fun e0 => hn (by rw [hl, e0, Nat.zero_mul, Nat.add_zero])
  refine ⟨⟨left - 1, wN, hw, ?_, ?_⟩, h.fits, h.block⟩
  · show X.n = X.at_ + X.width.toNat + (left - 1) * wN
    obtain ⟨m, rfl⟩ : ∃ m, left = m + 1 := ⟨left - 1, by omega⟩
    rw [hl, e, Nat.add_sub_cancel, Nat.add_mul]
    omega
  · show ((X.told + 1 + (left - 1) : Nat) : Int) = _
    rw [show X.told + 1 + (left - 1) = X.told + left from by omega]
    exact ht
/-- A block is due: all that was read is told. -/
theorem Rd.Ok.due (h : X.Ok size) (h1 : 1 ≤ X.width) (h5 : X.width ≤ 5) (h8 : 8 ≤ size) (hn : X.at_ = X.n) (hlt : (X.told : Int) < X.count) : X.told = X.block * hN size X.width.toNat ∧ (X.block : Int) < X.count := by
  obtain ⟨left, wN, hw, hl, ht⟩ := h.left
  have e : X.width.toNat = wN := by rw [hw]; rfl
  have hp := hN_pos (width := wN) h8 (by omega) (by omega)
  have h0 : left = 0 := by
    have : left * wN = 0 := by omega
    rcases Nat.mul_eq_zero.1 this with h | h
    · exact h
    · omega
  rw [h0, Nat.add_zero] at ht
  rw [e]
  have h2 : X.told = X.block * hN size wN := by omega
  refine ⟨h2, ?_⟩
  have : X.block * 1 ≤ X.block * hN size wN := Nat.mul_le_mul_left _ hp
  omega
theorem Rd.Ok.load (h : X.Ok size) (h1 : 1 ≤ X.width) (h5 : X.width ≤ 5) (h8 : 8 ≤ size) (hn : X.at_ = X.n) (hlt : (X.told : Int) < X.count) {p : List (BitVec 64)} (hp : p.length + 2 ≤ size) (hw : (p.length : Int) = X.want size) :
    (X.loaded p).Ok size ∧ (X.loaded p).at_ ≠ (X.loaded p).n := by
  obtain ⟨d1, d2⟩ := h.due h1 h5 h8 hn hlt
  obtain ⟨wN, hwN⟩ : ∃ wN : Nat, X.width = (wN : Int) := ⟨X.width.toNat, by omega⟩
  have e : X.width.toNat = wN := by rw [hwN]; rfl
  have hpos := hN_pos (width := wN) h8 (by omega) (by omega)
  rw [e] at d1
  unfold Rd.want at hw
  rw [hwN, hN_eq h8 (by omega) (by omega)] at hw
  obtain ⟨m, hm⟩ : ∃ m : Nat, min (X.count - (X.told : Int)) (hN size wN : Int) = (m : Int) := ⟨(min (X.count - (X.told : Int)) (hN size wN : Int)).toNat, by omega⟩
  rw [hm, ← Int.natCast_mul] at hw
  have hw' : p.length = m * wN := by exact_mod_cast hw
  have hm1 : 1 ≤ m := by omega
  refine ⟨⟨⟨m, wN, hwN, ?_, ?_⟩, hp, ?_⟩, ?_⟩
  · show p.length = 0 + m * wN
    omega
  · show ((X.told + m : Nat) : Int) = min X.count (((X.block + 1) * hN size wN : Nat) : Int)
    rw [Nat.add_mul, Nat.one_mul, ← d1]
    omega
  · show ((X.block + 1 : Nat) : Int) ≤ X.count
    omega
  · show 0 ≠ p.length
    have : 1 * wN ≤ m * wN := Nat.mul_le_mul_right _ hm1
    omega
end

section
variable {w w' : World} {O : Nat → Prop} {K : Key} {W : Wk} {x : Nat} {X X1 : Rd} {D1 : Dev.Dv}
theorem Loads.ok (h : Loads W X X1 D1) (ho : X.Ok W.D.size) (h1 : 1 ≤ X.width) (h5 : X.width ≤ 5) (h8 : 8 ≤ W.D.size) (hlt : (X.told : Int) < X.count) : X1.Ok W.D.size ∧ X1.at_ ≠ X1.n ∧ X1.width = X.width := by
  rcases h with ⟨hn, rfl, _⟩ | ⟨hn, i, iN, wN, p, _, _, _, _, hp, hpw, _, rfl, _⟩
  · exact ⟨ho, hn, rfl⟩
  · obtain ⟨q1, q2⟩ := ho.load h1 h5 h8 hn hlt hp hpw
    exact ⟨q1, q2, rfl⟩
/-- The next tuple, and the reader is as it should be. -/
theorem next_live (hI : WkI w O K W) (h : RdAt w O K W x X) (hc : X.closed = false) (ho : X.Ok W.D.size) (hlt : (X.told : Int) < X.count) (hload : Loads W X X1 D1) (hac : W.D.acts + 1 < 1099511627776) :
    X1.next.Ok W.D.size ∧ Calls Try.prog 17 #[P x] w (NextOk w O K W x X X1 D1) := by
  obtain ⟨q1, q2, q3⟩ := hload.ok ho h.width.1 h.width.2 hI.size.1 hlt
  have hr := q1.room (by rw [q3]; exact h.width.1) q2
  rw [q3] at hr
  exact ⟨q1.next q2, next_ok hI h hc hlt hload hr (by have := ho.block; have := h.count.2; omega) hac⟩
end

end Go.Proofs.Ytmmkncocgjgapaa.Fl

/- The walk of List where no reader is told. -/
namespace Go.Proofs.Ytmmkncocgjgapaa.Fl
open Go.RowKit

section
variable {w w' : World} {O : Nat → Prop} {K : Key} {W : Wk}

def ListNo (w : World) (er : Int) (e : Ending) (w' : World) : Prop := e = .returned (.tuple #[.slice none 0 0, .int .i64 er]) ∧ Below w.heap.size w w'

set_option maxRecDepth 100000 in
set_option maxHeartbeats 2000000 in
theorem list_no (wk : Option Addr) (first blocks width count er : Int) (her : er ≠ 0)
    (hm : Calls Try.prog 15 #[.pointer wk, .agg (fvals first blocks width count)] (w.alloc (.cells (fvals first blocks width count) 32)) (OpenNo (w.alloc (.cells (fvals first blocks width count) 32)) er)) :
    Calls Try.prog 25 #[.pointer wk, .agg (fvals first blocks width count)] w (ListNo w er) := by
  have hbl : Below w.heap.size w (w.alloc (.cells (fvals first blocks width count) 32)) := (Below.refl _ _).alloc (Nat.le_refl _) _
  have hF := Blk.new w 32 (fvals first blocks width count)
  have hne : (er != 0) = true := by simpa using her
  have HM := Lib.hid hm
  have HB := Lib.hid hbl
  have HF := Lib.hid hF
  have hz0 : w.heap.size < (w.alloc (.cells (fvals first blocks width count) 32)).heap.size := hF.lt
  unfold fvals at *
  clear hbl hF her hm
  go_enter_defers Try.func25, Try.ntmps25
  go_wp2_with fail
  generalize w.alloc (.cells #[.int .i64 first, .int .i64 blocks, .int .i64 width, .int .i64 count] 32) = w1 at *
  have k0 : w1.cell? ⟨w.heap.size, 0, none⟩ = some (.int .i64 first) := HF.out.cell 0
  have k1 : w1.cell? ⟨w.heap.size, 1, none⟩ = some (.int .i64 blocks) := HF.out.cell 1
  have k2 : w1.cell? ⟨w.heap.size, 2, none⟩ = some (.int .i64 width) := HF.out.cell 2
  have k3 : w1.cell? ⟨w.heap.size, 3, none⟩ = some (.int .i64 count) := HF.out.cell 3
  go_wp2_with fail
  refine HM.out.mono ?_
  rintro e w2 ⟨rfl, hb2⟩
  have HB2 := Lib.hid (HB.out.trans (hb2.mono (by omega)))
  clear hb2 HB HF HM k0 k1 k2 k3
  go_wp2_with fail
  exact ⟨_, results_tmp2 rfl _ _ _, rfl, HB2.out⟩

theorem list_nil (first blocks width count : Int) (w : World) : Calls Try.prog 25 #[.pointer none, .agg (fvals first blocks width count)] w (ListNo w 1) :=
  list_no none first blocks width count 1 (by decide) (open_nil first blocks width count _)
theorem list_arg (first blocks width count : Int) (hI : WkI w O K W) (hc : ¬ CanBe W.D.size blocks width count) (hct : -9223372036854775808 ≤ count) : Calls Try.prog 25 #[P K.wk, .agg (fvals first blocks width count)] w (ListNo w 1) :=
  list_no _ first blocks width count 1 (by decide) (open_arg first blocks width count (hI.below ((Below.refl _ _).alloc (Nat.le_refl _) _)) hc hct)
theorem list_room (first blocks width count : Int) (hI : WkI w O K W) (hc : CanBe W.D.size blocks width count) (hn : (W.A.room : Int) - W.A.used < W.D.size) : Calls Try.prog 25 #[P K.wk, .agg (fvals first blocks width count)] w (ListNo w 7) :=
  list_no _ first blocks width count 7 (by decide) (open_room first blocks width count (hI.below ((Below.refl _ _).alloc (Nat.le_refl _) _)) hc hn)
end

end Go.Proofs.Ytmmkncocgjgapaa.Fl

/- Tuples read one behind another, in plain words. -/
namespace Go.Proofs.Ytmmkncocgjgapaa.Fl
open Go.RowKit

/-- From reader X (and the work's device) the tuples l come, and leave reader Y and device D. -/
def Reads (W : Wk) (X : Rd) : List Tup → Rd → Dev.Dv → Prop
  | [], Y, D => Y = X ∧ D = W.D
  | t :: l, Y, D => ∃ X1 D1, Loads W X X1 D1 ∧ t = X1.tup ∧ Reads { W with D := D1 } X1.next l Y D

theorem Reads.snoc {W : Wk} {X Y : Rd} {D : Dev.Dv} {l : List Tup} (h : Reads W X l Y D) {X1 : Rd} {D1 : Dev.Dv} (hl : Loads { W with D := D } Y X1 D1) : Reads W X (l ++ [X1.tup]) X1.next D1 := by
  induction l generalizing W X with
  | nil =>
    obtain ⟨rfl, rfl⟩ := h
    exact ⟨X1, D1, hl, rfl, rfl, rfl⟩
  | cons t l ih =>
    obtain ⟨X2, D2, h1, h2, h3⟩ := h
    exact ⟨X2, D2, h1, h2, ih h3 hl⟩

structure ReadsKin (W : Wk) (X : Rd) (n : Nat) (Y : Rd) (D : Dev.Dv) : Prop where
  first : Y.first = X.first
  blocks : Y.blocks = X.blocks
  width : Y.width = X.width
  count : Y.count = X.count
  buf : Y.buf = X.buf
  arr : Y.arr = X.arr
  closed : Y.closed = X.closed
  told : Y.told = X.told + n
  size : D.size = W.D.size
  acts : D.acts ≤ W.D.acts + n
theorem loads_kin {W : Wk} {X X1 : Rd} {D1 : Dev.Dv} (h : Loads W X X1 D1) : ReadsKin W X 1 X1.next D1 := by
  rcases h with ⟨_, rfl, rfl⟩ | ⟨_, i, iN, wN, p, _, _, _, _, _, _, _, rfl, rfl⟩
  · exact ⟨rfl, rfl, rfl, rfl, rfl, rfl, rfl, rfl, rfl, Nat.le_succ _⟩
  · exact ⟨rfl, rfl, rfl, rfl, rfl, rfl, rfl, rfl, (Dev.rd_kin W.D i).size, (Dev.rd_kin W.D i).acts⟩
theorem Reads.kin {W : Wk} {X Y : Rd} {D : Dev.Dv} {l : List Tup} (h : Reads W X l Y D) : ReadsKin W X l.length Y D := by
  induction l generalizing W X with
  | nil =>
    obtain ⟨rfl, rfl⟩ := h
    exact ⟨rfl, rfl, rfl, rfl, rfl, rfl, rfl, rfl, rfl, Nat.le_refl _⟩
  | cons t l ih =>
    obtain ⟨X2, D2, h1, h2, h3⟩ := h
    have k1 := loads_kin h1
    have k2 := ih h3
    exact ⟨k2.first.trans k1.first, k2.blocks.trans k1.blocks, k2.width.trans k1.width, k2.count.trans k1.count, k2.buf.trans k1.buf, k2.arr.trans k1.arr, k2.closed.trans k1.closed,
      by rw [k2.told, k1.told, List.length_cons]; omega, k2.size.trans k1.size, by have h2 : D.acts ≤ D2.acts + l.length := k2.acts; have := k1.acts; rw [List.length_cons]; omega⟩
theorem Reads.ok {W : Wk} {X Y : Rd} {D : Dev.Dv} {l : List Tup} (h : Reads W X l Y D) (ho : X.Ok W.D.size) (h1 : 1 ≤ X.width) (h5 : X.width ≤ 5) (h8 : 8 ≤ W.D.size) (hc : ((X.told + l.length : Nat) : Int) ≤ X.count) : Y.Ok W.D.size := by
  induction l generalizing W X with
  | nil =>
    obtain ⟨rfl, rfl⟩ := h
    exact ho
  | cons t l ih =>
    obtain ⟨X2, D2, hl, h2, h3⟩ := h
    rw [List.length_cons] at hc
    have k1 := loads_kin hl
    obtain ⟨q1, q2, q3⟩ := hl.ok ho h1 h5 h8 (by omega)
    have hz : D2.size = W.D.size := k1.size
    have := ih (W := { W with D := D2 }) (X := X2.next) h3 (by show X2.next.Ok D2.size; rw [hz]; exact q1.next q2) (by rw [k1.width]; exact h1) (by rw [k1.width]; exact h5) (by show 8 ≤ D2.size; omega) (by rw [k1.told, k1.count]; omega)
    rw [← hz]
    exact this

theorem flatT_one (l : List Tup) : ∀ v ∈ flatT l, v.oneCell' = true := by
  intro v hv
  simp only [flatT, List.mem_flatten, List.mem_map] at hv
  obtain ⟨e, ⟨t, _, rfl⟩, he⟩ := hv
  simp only [icells, List.mem_map] at he
  obtain ⟨x, _, rfl⟩ := he
  rfl

theorem el_tup : Elem Try.prog 22 45 5 40 := elem_of (z := .agg #[.int .i64 0, .int .i64 0, .int .i64 0, .int .i64 0, .int .i64 0]) Try.underlying22 (by kernel_rfl) rfl (by omega)

end Go.Proofs.Ytmmkncocgjgapaa.Fl

/- What files hold, in plain words: a writer, blocks of a device, a reader. -/
namespace Go.Proofs.Ytmmkncocgjgapaa.Fl
open Go.RowKit

/-- The first columns of tuples, one behind another. -/
def pay (wN : Nat) (l : List Tup) : List (BitVec 64) := (l.map (List.take wN)).flatten
theorem pay_append (wN : Nat) (a b : List Tup) : pay wN (a ++ b) = pay wN a ++ pay wN b := by simp [pay]
theorem pay_one (wN : Nat) (t : Tup) : pay wN [t] = t.take wN := by simp [pay]
theorem pay_nil (wN : Nat) : pay wN [] = [] := rfl
theorem pay_cons (wN : Nat) (t : Tup) (l : List Tup) : pay wN (t :: l) = t.take wN ++ pay wN l := by simp [pay]
theorem pay_length {wN : Nat} {l : List Tup} (h5 : ∀ t ∈ l, t.length = 5) (hw : wN ≤ 5) : (pay wN l).length = l.length * wN := by
  induction l with
  | nil => simp [pay]
  | cons t l ih =>
    rw [pay_cons, List.length_append, ih (fun u hu => h5 u (List.mem_cons_of_mem _ hu)), List.length_take, h5 t (List.mem_cons_self ..), List.length_cons, Nat.add_mul, Nat.min_eq_left hw]
    omega

/-- How many blocks so many tuples need. -/
def nB (size wN count : Nat) : Nat := (count + hN size wN - 1) / hN size wN
theorem nB_eq {size wN count : Nat} (h8 : 8 ≤ size) (h1 : 1 ≤ wN) (h5 : wN ≤ 5) : blocksOf size wN count = (nB size wN count : Int) := by
  have hp := hN_pos h8 h1 h5
  unfold blocksOf nB
  rw [hN_eq h8 h1 h5]
  have e : ((count : Int) + (hN size wN : Int) - 1) = ((count + hN size wN - 1 : Nat) : Int) := by omega
  rw [e, ← Int.natCast_ediv]
theorem nB_mul {size wN count k r : Nat} (hh : 1 ≤ hN size wN) (e : count = k * hN size wN + r) (hr : r < hN size wN) : nB size wN count = if r = 0 then k else k + 1 := by
  unfold nB
  split
  · rename_i h0
    rw [e, h0, Nat.add_zero, show k * hN size wN + hN size wN - 1 = (hN size wN - 1) + hN size wN * k from by rw [Nat.mul_comm]; omega, Nat.add_mul_div_left _ _ (by omega), Nat.div_eq_of_lt (by omega)]
    omega
  · rename_i h0
    rw [e, show k * hN size wN + r + hN size wN - 1 = (r - 1) + hN size wN * (k + 1) from by rw [Nat.mul_add, Nat.mul_comm k]; omega, Nat.add_mul_div_left _ _ (by omega), Nat.div_eq_of_lt (by omega)]
    omega
theorem nB_cap {size wN count : Nat} (hh : 1 ≤ hN size wN) : count ≤ nB size wN count * hN size wN ∧ ∀ j, j < nB size wN count → j * hN size wN < count := by
  have h1 := Nat.div_add_mod count (hN size wN)
  have h2 := Nat.mod_lt count (show hN size wN > 0 by omega)
  have h3 := nB_mul (size := size) (wN := wN) (count := count) (k := count / hN size wN) (r := count % hN size wN) hh (by rw [Nat.mul_comm]; omega) h2
  rw [Nat.mul_comm] at h1
  rw [h3]
  split
  · refine ⟨by omega, fun j hj => ?_⟩
    have : (j + 1) * hN size wN ≤ (count / hN size wN) * hN size wN := Nat.mul_le_mul_right _ hj
    rw [Nat.add_mul] at this
    omega
  · refine ⟨by rw [Nat.add_mul]; omega, fun j hj => ?_⟩
    have : j * hN size wN ≤ (count / hN size wN) * hN size wN := Nat.mul_le_mul_right _ (by omega)
    omega
theorem nB_le {size wN count : Nat} (hh : 1 ≤ hN size wN) : nB size wN count ≤ count := by
  have h := (nB_cap (size := size) (wN := wN) (count := count) hh).2
  rcases Nat.lt_or_ge count (nB size wN count) with hlt | hge
  · have := h count hlt
    have : count * 1 ≤ count * hN size wN := Nat.mul_le_mul_left _ hh
    omega
  · exact hge

/-- The tuples of one block. -/
def chunk (h : Nat) (l : List Tup) (j : Nat) : List Tup := (l.drop (j * h)).take h
theorem chunk_append {h : Nat} {l m : List Tup} {j : Nat} (hj : (j + 1) * h ≤ l.length) : chunk h (l ++ m) j = chunk h l j := by
  unfold chunk
  rw [Nat.add_mul, Nat.one_mul] at hj
  rw [List.drop_append_of_le_length (by omega), List.take_append_of_le_length (by rw [List.length_drop]; omega)]
/-- n blocks from 'first' on hold these tuples. -/
def Lies (D : Dev.Dv) (wN first n : Nat) (l : List Tup) : Prop := ∀ j, j < n → D.now ((first + j : Nat) : Int) = some (sealed (pay wN (chunk (hN D.size wN) l j)) D.size wN (first + j))
theorem Lies.stay {D D' : Dev.Dv} {wN first n : Nat} {l : List Tup} (h : Lies D wN first n l) (hs : D'.size = D.size) (hn : ∀ j, j < n → D'.now ((first + j : Nat) : Int) = D.now ((first + j : Nat) : Int)) : Lies D' wN first n l := by
  intro j hj
  rw [hn j hj, hs]
  exact h j hj

structure Wr.Has (X : Wr) (D : Dev.Dv) (l : List Tup) : Prop where
  ok : X.Ok D.size
  cnt : X.count = l.length
  len : X.ws.length = D.size
  tup : ∀ t ∈ l, t.length = 5
  buf : X.ws.take X.n = pay X.width (l.drop (X.at_ * hN D.size X.width))
  lies : Lies D X.width X.first X.at_ l

theorem Wr.Has.new {D : Dev.Dv} (b d first blocks wN bN : Nat) (h8 : 8 ≤ D.size) (h1 : 1 ≤ wN) (h5 : wN ≤ 5) (hb : (blocks : Int) = blocksOf D.size wN bN) : (fresh D.size first blocks wN bN b d).Has D [] :=
  ⟨Wr.Ok.new b d first blocks wN bN h8 h1 h5 hb, rfl, by simp [fresh, zeros], (fun t h => by cases h), by simp [fresh, pay], fun j hj => absurd hj (by simp [fresh])⟩

section
variable {X : Wr} {W : Wk} {l : List Tup} {t : Tup}
theorem Wr.Has.stay {D D' : Dev.Dv} (h : X.Has D l) (hs : D'.size = D.size) (hn : ∀ j, j < X.at_ → D'.now ((X.first + j : Nat) : Int) = D.now ((X.first + j : Nat) : Int)) : X.Has D' l :=
  ⟨hs ▸ h.ok, h.cnt, hs ▸ h.len, h.tup, hs ▸ h.buf, h.lies.stay hs hn⟩
theorem put_buf (h : X.Has W.D l) (h8 : 8 ≤ W.D.size) (h1 : 1 ≤ X.width) (h5 : X.width ≤ 5) (ht : t.length = 5) : (X.put t).ws.take (X.put t).n = pay X.width ((l ++ [t]).drop (X.at_ * hN W.D.size X.width)) := by
  obtain ⟨k, hk, e, hc⟩ := h.ok.part
  have hf := h.ok.fits h8
  have hlen : (t.take X.width).length = X.width := by rw [List.length_take, ht]; omega
  show (over X.ws X.n (t.take X.width)).take (X.n + X.width) = _
  have := over_take (ws := X.ws) (n := X.n) (l := t.take X.width) (by rw [h.len]; omega)
  rw [hlen] at this
  rw [this, h.buf, List.drop_append_of_le_length (by rw [← h.cnt]; omega), pay_append, pay_one]
theorem Wr.Has.put (h : X.Has W.D l) (h8 : 8 ≤ W.D.size) (h1 : 1 ≤ X.width) (h5 : X.width ≤ 5) (ht : t.length = 5) (hb : X.count ≠ X.bound)
    (hok : ((X.n : Int) + X.width) / X.width = holds W.D.size X.width → ((X.put t).wrote W).1 = 0) : (X.next W t).1.Has (X.next W t).2 (l ++ [t]) := by
  obtain ⟨k, hk, e, hc⟩ := h.ok.part
  obtain ⟨a1, a2, a3, a4, a5, a6, a7, a8, a9, a10⟩ := next_same X W t
  have hO := Wr.Ok.next (t := t) (W := W) (size := W.D.size) h.ok h8 h1 h5 hb
  have hpb := put_buf h h8 h1 h5 ht
  have hcnt := h.cnt
  have hlen : (over X.ws X.n (t.take X.width)).length = X.ws.length := by
    refine over_length ?_
    have hf := h.ok.fits h8
    have hm : X.n + X.width ≤ hN W.D.size X.width * X.width := by
      have h2 : (k + 1) * X.width ≤ hN W.D.size X.width * X.width := Nat.mul_le_mul_right _ hk
      rw [Nat.add_mul] at h2
      omega
    have := hN_mul W.D.size X.width
    rw [h.len, List.length_take]
    omega
  have htup : ∀ u ∈ l ++ [t], u.length = 5 := fun u hu => by
    rcases List.mem_append.1 hu with hu | hu
    · exact h.tup u hu
    · rw [List.mem_singleton.1 hu]; exact ht
  have hdv := h.ok.div h1 e
  refine ⟨by rw [a10]; exact hO, by rw [a5, h.cnt]; simp, by rw [a8, a10]; exact hlen.trans h.len, htup, ?_, ?_⟩
  · rw [a10, a3]
    unfold Wr.next
    split
    · rename_i hd
      rw [hdv, hN_eq h8 h1 h5] at hd
      show List.take 0 _ = pay X.width ((l ++ [t]).drop ((X.at_ + 1) * hN W.D.size X.width))
      rw [List.drop_of_length_le (by rw [List.length_append, List.length_singleton, Nat.add_mul]; omega)]
      rfl
    · exact hpb
  · rw [a3, a1]
    intro j hj
    rw [a10]
    have hlow : j < X.at_ → chunk (hN W.D.size X.width) (l ++ [t]) j = chunk (hN W.D.size X.width) l j := fun hja => by
      refine chunk_append ?_
      have : (j + 1) * hN W.D.size X.width ≤ X.at_ * hN W.D.size X.width := Nat.mul_le_mul_right _ hja
      omega
    unfold Wr.next at hj ⊢
    split at hj
    · rename_i hd
      have h0 := hok hd
      rw [if_pos hd]
      rw [hdv, hN_eq h8 h1 h5] at hd
      have hj' : j < X.at_ + 1 := hj
      have hnow := Dev.wr_now W.D (((X.put t).first + (X.put t).at_ : Nat) : Int) (sealed ((X.put t).ws.take (X.put t).n) W.D.size (X.put t).width ((X.put t).first + (X.put t).at_))
      have h0' : (W.D.wr (((X.put t).first + (X.put t).at_ : Nat) : Int) (sealed ((X.put t).ws.take (X.put t).n) W.D.size (X.put t).width ((X.put t).first + (X.put t).at_))).1 = 0 := h0
      rw [if_pos h0'] at hnow
      show (((X.put t).wrote W).2).now _ = _
      unfold Wr.wrote
      rw [hnow]
      unfold Dev.upd
      have ef : (X.put t).first = X.first := rfl
      have ea : (X.put t).at_ = X.at_ := rfl
      have ew : (X.put t).width = X.width := rfl
      rw [ef, ea, ew]
      by_cases hja : j = X.at_
      · subst hja
        rw [if_pos rfl, hpb]
        congr 2
        unfold chunk
        rw [List.take_of_length_le (by rw [List.length_drop, List.length_append, List.length_singleton]; omega)]
      · rw [if_neg (by omega), h.lies j (by omega), hlow (by omega)]
    · rename_i hd
      rw [if_neg hd, h.lies j hj, hlow hj]
theorem Wr.Has.last (h : X.Has W.D l) (h8 : 8 ≤ W.D.size) (h1 : 1 ≤ X.width) (h5 : X.width ≤ 5) (hok : 0 < X.n → (X.wrote W).1 = 0) :
    Lies (X.last W).2 X.width X.first (X.last W).1.at_ l ∧ (X.last W).1.at_ = nB W.D.size X.width l.length ∧ (X.last W).2.size = W.D.size ∧ ∀ i : Int, (∀ j, j < (X.last W).1.at_ → i ≠ ((X.first + j : Nat) : Int)) → (X.last W).2.now i = W.D.now i := by
  obtain ⟨k, hk, e, hc⟩ := h.ok.part
  have hp := hN_pos h8 h1 h5
  have hcnt := h.cnt
  have hnb := nB_mul (size := W.D.size) (wN := X.width) (count := l.length) hp (by rw [← hcnt]; exact hc) hk
  rw [hnb]
  unfold Wr.last
  split
  · rename_i hn
    have hk0 : k = 0 := by
      rcases Nat.mul_eq_zero.1 (e.symm.trans hn) with h | h
      · exact h
      · omega
    rw [if_pos hk0]
    exact ⟨h.lies, rfl, rfl, fun _ _ => rfl⟩
  · rename_i hn
    have hk0 : k ≠ 0 := fun e0 => hn (by rw [e, e0, Nat.zero_mul])
    rw [if_neg hk0]
    have h0 := hok (by omega)
    have hnow := Dev.wr_now W.D ((X.first + X.at_ : Nat) : Int) (sealed (X.ws.take X.n) W.D.size X.width (X.first + X.at_))
    have h0' : (W.D.wr ((X.first + X.at_ : Nat) : Int) (sealed (X.ws.take X.n) W.D.size X.width (X.first + X.at_))).1 = 0 := h0
    rw [if_pos h0'] at hnow
    have hsz : (X.wrote W).2.size = W.D.size := (Dev.wr_kin W.D _ _).size
    have hnow' : (X.wrote W).2.now = Dev.upd W.D.now ((X.first + X.at_ : Nat) : Int) (sealed (X.ws.take X.n) W.D.size X.width (X.first + X.at_)) := hnow
    refine ⟨fun j hj => ?_, rfl, hsz, fun i hi => ?_⟩
    · have hj' : j < X.at_ + 1 := hj
      show (X.wrote W).2.now _ = some (sealed _ (X.wrote W).2.size _ _)
      rw [hsz, hnow']
      unfold Dev.upd
      by_cases hja : j = X.at_
      · subst hja
        rw [if_pos rfl, h.buf]
        congr 2
        unfold chunk
        rw [List.take_of_length_le (by rw [List.length_drop]; omega)]
      · rw [if_neg (by omega)]
        exact h.lies j (by omega)
    · show (X.wrote W).2.now i = _
      rw [hnow']
      show (if i = ((X.first + X.at_ : Nat) : Int) then _ else _) = _
      rw [if_neg (hi X.at_ (Nat.lt_succ_self _))]
end

/-- All tuples fit the width. -/
def FitsW (wN : Nat) (l : List Tup) : Prop := ∀ t ∈ l, t.length = 5 ∧ Crc.zeroW (t.drop wN) = true
theorem zeroW_eq {l : List (BitVec 64)} (h : Crc.zeroW l = true) : l = zeros l.length := by
  unfold Crc.zeroW at h
  unfold zeros
  rw [List.eq_replicate_iff]
  refine ⟨rfl, fun b hb => ?_⟩
  have := List.all_eq_true.1 h b hb
  simpa using this
theorem fits_split {wN : Nat} {t : Tup} (h5 : t.length = 5) (hz : Crc.zeroW (t.drop wN) = true) : t.take wN ++ zeros (5 - wN) = t := by
  have := zeroW_eq hz
  rw [List.length_drop, h5] at this
  rw [← this, List.take_append_drop]

structure Rd.Has (X : Rd) (D : Dev.Dv) (first wN : Nat) (l : List Tup) : Prop where
  ok : X.Ok D.size
  fst : X.first = (first : Int)
  wid : X.width = (wN : Int)
  cnt : X.count = (l.length : Int)
  low : X.told ≤ l.length
  len : X.ws.length = D.size
  buf : (X.ws.drop X.at_).take (X.n - X.at_) = pay wN ((l.take (X.block * hN D.size wN)).drop X.told)
  lies : Lies D wN first (nB D.size wN l.length) l
  blk : X.block ≤ nB D.size wN l.length

theorem Rd.Has.new {D : Dev.Dv} {first wN : Nat} {l : List Tup} (b d : Nat) (blocks : Int) (h8 : 8 ≤ D.size) (h1 : 1 ≤ wN) (h : Lies D wN first (nB D.size wN l.length) l) : Rd.Has ⟨first, blocks, wN, l.length, b, d, 0, 0, 0, 0, false, zeros D.size⟩ D first wN l :=
  ⟨Rd.Ok.new _ _ _ _ b d _ h8 (by omega) (by omega), rfl, rfl, rfl, Nat.zero_le _, by simp [zeros], by simp [pay], h, Nat.zero_le _⟩
theorem Rd.Has.stay {X : Rd} {D D' : Dev.Dv} {first wN : Nat} {l : List Tup} (h : X.Has D first wN l) (hs : D'.size = D.size) (hn : ∀ j, j < nB D.size wN l.length → D'.now ((first + j : Nat) : Int) = D.now ((first + j : Nat) : Int)) : X.Has D' first wN l :=
  ⟨hs ▸ h.ok, h.fst, h.wid, h.cnt, h.low, hs ▸ h.len, hs ▸ h.buf, by rw [hs]; exact h.lies.stay hs hn, by rw [hs]; exact h.blk⟩

section
variable {X : Rd} {W : Wk} {first wN : Nat} {l : List Tup}
/-- A tuple lies in the buffer. -/
theorem Rd.Has.here (h : X.Has W.D first wN l) (h1 : 1 ≤ wN) (h5 : wN ≤ 5) (hf : FitsW wN l) (hn : X.at_ ≠ X.n) : ∃ hl : X.told < l.length, X.tup = l[X.told] ∧ X.next.Has W.D first wN l := by
  obtain ⟨left, w', hw', hl, ht⟩ := h.ok.left
  obtain rfl : w' = wN := by have := h.wid; omega
  have hcnt := h.cnt
  have h0 : left ≠ 0 := fun e0 => hn (by rw [hl, e0, Nat.zero_mul, Nat.add_zero])
  have hlt : X.told < l.length := by omega
  have hb : X.told < X.block * hN W.D.size w' := by omega
  have hrest : (l.take (X.block * hN W.D.size w')).drop X.told = l[X.told] :: (l.take (X.block * hN W.D.size w')).drop (X.told + 1) := by
    rw [List.drop_eq_getElem_cons (by rw [List.length_take]; omega), List.getElem_take]
  have hbuf := h.buf
  rw [hrest, pay_cons] at hbuf
  obtain ⟨t5, tz⟩ := hf _ (List.getElem_mem hlt)
  have hnum : X.n - X.at_ = left * w' := by omega
  have hge : 1 * w' ≤ left * w' := Nat.mul_le_mul_right _ (by omega)
  have htl : (l[X.told].take w').length = w' := by rw [List.length_take, t5]; omega
  have e1 : (X.ws.drop X.at_).take w' = l[X.told].take w' := by
    have := congrArg (List.take w') hbuf
    rw [List.take_take, Nat.min_eq_left (by omega), List.take_append_of_le_length (by omega), List.take_of_length_le (Nat.le_of_eq htl)] at this
    exact this
  have ewN : X.width.toNat = w' := by rw [hw']; rfl
  refine ⟨hlt, ?_, h.ok.next hn, h.fst, h.wid, h.cnt, ?_, h.len, ?_, h.lies, h.blk⟩
  · unfold Rd.tup
    rw [ewN, e1]
    exact fits_split t5 tz
  · show X.told + 1 ≤ l.length
    omega
  · show (X.ws.drop (X.at_ + X.width.toNat)).take (X.n - (X.at_ + X.width.toNat)) = pay w' ((l.take (X.block * hN W.D.size w')).drop (X.told + 1))
    have := congrArg (List.drop w') hbuf
    rw [List.drop_take, List.drop_drop, List.drop_append_of_le_length (by omega), List.drop_of_length_le (Nat.le_of_eq htl), List.nil_append] at this
    rw [ewN, ← this]
    congr 1
    omega
/-- A block is due, and the device lets it be read. -/
theorem Rd.Has.load (h : X.Has W.D first wN l) (h8 : 8 ≤ W.D.size) (h1 : 1 ≤ wN) (h5 : wN ≤ 5) (hf : FitsW wN l) (hlt : X.told < l.length) (hn : X.at_ = X.n) (hfb : first + l.length < 9223372036854775808) (hr : (W.D.rd ((first + X.block : Nat) : Int)).1 = 0) :
    ∃ X1, Loads W X X1 (W.D.rd ((first + X.block : Nat) : Int)).2 ∧ X1.Has (W.D.rd ((first + X.block : Nat) : Int)).2 first wN l ∧ X1.at_ ≠ X1.n ∧ X1.told = X.told ∧ X1.block = X.block + 1 := by
  have hcnt := h.cnt
  have hwid := h.wid
  obtain ⟨d1, d2⟩ := h.ok.due (by omega) (by omega) h8 hn (by omega)
  have ewN : X.width.toNat = wN := by rw [hwid]; rfl
  rw [ewN] at d1
  have hp := hN_pos h8 h1 h5
  obtain ⟨c1, c2⟩ := nB_cap (size := W.D.size) (wN := wN) (count := l.length) hp
  have hbn : X.block < nB W.D.size wN l.length := by
    refine Nat.lt_of_mul_lt_mul_right (a := hN W.D.size wN) ?_
    omega
  have hlies := h.lies X.block hbn
  have hch5 : ∀ t ∈ chunk (hN W.D.size wN) l X.block, t.length = 5 := fun t ht => (hf t (List.mem_of_mem_drop (List.mem_of_mem_take ht))).1
  have hchl : (chunk (hN W.D.size wN) l X.block).length = min (hN W.D.size wN) (l.length - X.told) := by unfold chunk; rw [List.length_take, List.length_drop, d1]
  have hpl := pay_length hch5 h5
  have hfit : (pay wN (chunk (hN W.D.size wN) l X.block)).length + 2 ≤ W.D.size := by
    have h2 : (chunk (hN W.D.size wN) l X.block).length * wN ≤ hN W.D.size wN * wN := Nat.mul_le_mul_right _ (by omega)
    have := hN_mul W.D.size wN
    omega
  have hwant : ((pay wN (chunk (hN W.D.size wN) l X.block)).length : Int) = X.want W.D.size := by
    unfold Rd.want
    rw [hpl, hwid, hN_eq h8 h1 h5, Int.natCast_mul, hchl, hcnt]
    congr 1
    omega
  have hsz : (W.D.rd ((first + X.block : Nat) : Int)).2.size = W.D.size := (Dev.rd_kin W.D _).size
  have hnow := Dev.rd_now W.D ((first + X.block : Nat) : Int)
  obtain ⟨q1, q2⟩ := h.ok.load (by omega) (by omega) h8 hn (by omega) hfit hwant
  have hload : Loads W X (X.loaded (pay wN (chunk (hN W.D.size wN) l X.block))) (W.D.rd ((first + X.block : Nat) : Int)).2 := by
    refine .inr ⟨hn, _, first + X.block, wN, _, ?_, hr, rfl, hwid, hfit, hwant, ?_, rfl, rfl⟩
    · rw [h.fst, ← Int.natCast_add, IntKind.wrap_i64]
      omega
    · unfold Dev.Dv.words
      rw [hlies]
      rfl
  refine ⟨_, hload, ⟨by rw [hsz]; exact q1, h.fst, h.wid, h.cnt, h.low, ?_, ?_, ?_, by rw [hsz]; exact hbn⟩, q2, rfl, rfl⟩
  · show (over X.ws 0 _).length = _
    rw [over_length (by rw [h.len]; omega), hsz]
    exact h.len
  · rw [hsz]
    show ((over X.ws 0 (pay wN (chunk (hN W.D.size wN) l X.block))).drop 0).take ((pay wN (chunk (hN W.D.size wN) l X.block)).length - 0) = pay wN ((l.take ((X.block + 1) * hN W.D.size wN)).drop X.told)
    have := over_take (ws := X.ws) (n := 0) (l := pay wN (chunk (hN W.D.size wN) l X.block)) (Nat.zero_le _)
    rw [Nat.zero_add] at this
    rw [List.drop_zero, Nat.sub_zero, this, List.take_zero, List.nil_append]
    congr 1
    unfold chunk
    rw [d1, List.drop_take]
    congr 1
    rw [Nat.add_mul]
    omega
  · rw [hsz]
    exact h.lies.stay hsz (fun j _ => by rw [hnow])
end

end Go.Proofs.Ytmmkncocgjgapaa.Fl

/- Devices on which acts go well, and what stands behind many of them. -/
namespace Go.Proofs.Ytmmkncocgjgapaa.Fl
open Go.RowKit

/-- Behind n acts that went well. -/
structure Goes (D D' : Dev.Dv) (n : Nat) : Prop where
  size : D'.size = D.size
  blocks : D'.blocks = D.blocks
  acts : D'.acts = D.acts + n
  down : D.down = false → D'.down = false
  fuse : D.fuse = -1 → D'.fuse = -1
  fault : D.fault = -1 → D'.fault = -1
theorem Goes.refl (D : Dev.Dv) : Goes D D 0 := ⟨rfl, rfl, rfl, id, id, id⟩
theorem Goes.trans {D E F : Dev.Dv} {n m : Nat} (h : Goes D E n) (k : Goes E F m) : Goes D F (n + m) :=
  ⟨k.size.trans h.size, k.blocks.trans h.blocks, by rw [k.acts, h.acts]; omega, fun x => k.down (h.down x), fun x => k.fuse (h.fuse x), fun x => k.fault (h.fault x)⟩
theorem goes_act {D : Dev.Dv} (h : D.act.1 = 0) : Goes D D.act.2 1 := by
  rw [Dev.act_acts h]
  refine ⟨rfl, rfl, rfl, id, fun hf => ?_, fun hf => ?_⟩
  · show (if 0 < D.fuse then D.fuse - 1 else D.fuse) = -1
    rw [hf]; decide
  · show (if 0 < D.fault then D.fault - 1 else D.fault) = -1
    rw [hf]; decide
theorem goes_rd {D : Dev.Dv} {i : Int} (h : (D.rd i).1 = 0) : Goes D (D.rd i).2 1 := by
  unfold Dev.Dv.rd at h ⊢
  split at h
  · rename_i hb
    rw [if_pos hb]
    exact goes_act h
  · rename_i hb
    exact absurd h hb
theorem goes_wr {D : Dev.Dv} {i : Int} {ws : List Value} (h : (D.wr i ws).1 = 0) : Goes D (D.wr i ws).2 1 := by
  obtain ⟨_, h2, h3⟩ := Dev.wr_ok h
  rw [h3]
  obtain ⟨a, b, c, d, e, f⟩ := goes_act h2
  exact ⟨a, b, c, d, e, f⟩

/-- No power fails. -/
def Sure (D : Dev.Dv) : Prop := D.down = false ∧ D.fuse = -1
theorem Goes.sure {D D' : Dev.Dv} {n : Nat} (h : Goes D D' n) (hs : Sure D) : Sure D' := ⟨h.down hs.1, h.fuse hs.2⟩
/-- Behind a fault: all is as it was, and no fault comes any more. -/
structure Felt (D D' : Dev.Dv) : Prop where
  size : D'.size = D.size
  blocks : D'.blocks = D.blocks
  acts : D'.acts = D.acts
  down : D'.down = false
  fuse : D'.fuse = -1
  fault : D'.fault = -1
  now : D'.now = D.now
theorem Felt.sure {D D' : Dev.Dv} (h : Felt D D') : Sure D' := ⟨h.down, h.fuse⟩
theorem sure_act {D : Dev.Dv} (h : Sure D) : (D.act.1 = 0) ∨ (D.fault = 0 ∧ D.act.1 = 6 ∧ Felt D D.act.2) := by
  unfold Dev.Dv.act
  rw [if_neg (by rw [h.2]; decide)]
  split
  · rename_i hf
    refine .inr ⟨hf, rfl, rfl, rfl, rfl, h.1, ?_, rfl, rfl⟩
    show (if 0 < D.fuse then D.fuse - 1 else D.fuse) = -1
    rw [h.2]; decide
  · exact .inl rfl
theorem sure_rd {D : Dev.Dv} {i : Int} (h : Sure D) (h0 : 0 ≤ i) (hi : i < D.blocks) : (D.rd i).1 = 0 ∨ (D.fault = 0 ∧ (D.rd i).1 = 6 ∧ Felt D (D.rd i).2) := by
  have hb : D.bars i D.size = 0 := by
    unfold Dev.Dv.bars
    rw [if_neg (by rw [h.1]; decide), if_neg (by omega)]
  unfold Dev.Dv.rd
  rw [if_pos hb]
  exact sure_act h
theorem sure_wr {D : Dev.Dv} {i : Int} {ws : List Value} (h : Sure D) (h0 : 0 ≤ i) (hi : i < D.blocks) (hl : ws.length = D.size) : (D.wr i ws).1 = 0 ∨ (D.fault = 0 ∧ (D.wr i ws).1 = 6 ∧ Felt D (D.wr i ws).2) := by
  have hb : D.bars i ws.length = 0 := by
    unfold Dev.Dv.bars
    rw [if_neg (by rw [h.1]; decide), if_neg (by omega)]
  unfold Dev.Dv.wr
  rw [if_pos hb]
  rcases sure_act h with ha | ⟨hf, ha, hF⟩
  · rw [if_pos ha]; exact .inl rfl
  · rw [if_neg (by rw [ha]; decide)]; exact .inr ⟨hf, ha, hF⟩

/-- Reading goes on to the end, or to a block that the device doesn't give. -/
theorem Rd.Has.run {first wN : Nat} {l : List Tup} (h1 : 1 ≤ wN) (h5 : wN ≤ 5) (hf : FitsW wN l) (hfb : first + l.length < 9223372036854775808) :
    ∀ (n : Nat) (X : Rd) (W : Wk), X.Has W.D first wN l → 8 ≤ W.D.size → l.length ≤ X.told + n →
    ∃ m Y D, X.told ≤ m ∧ m ≤ l.length ∧ Reads W X ((l.take m).drop X.told) Y D ∧ Y.Has D first wN l ∧ Y.told = m ∧ X.block ≤ Y.block ∧ Goes W.D D (Y.block - X.block) ∧ D.now = W.D.now ∧
      (m = l.length ∨ (m < l.length ∧ Y.at_ = Y.n ∧ Y.block < nB W.D.size wN l.length ∧ (D.rd ((first + Y.block : Nat) : Int)).1 ≠ 0)) := by
  intro n
  induction n with
  | zero =>
    intro X W h h8 hn
    have hlow := h.low
    exact ⟨X.told, X, W.D, Nat.le_refl _, by omega, (by rw [List.drop_of_length_le (by rw [List.length_take]; omega)]; exact ⟨rfl, rfl⟩), h, rfl, Nat.le_refl _, (by rw [Nat.sub_self]; exact Goes.refl _), rfl, .inl (by omega)⟩
  | succ n ih =>
    intro X W h h8 hn
    have hlow := h.low
    rcases Nat.lt_or_ge X.told l.length with hlt | hge
    · -- one more tuple
      have step : ∀ (X1 : Rd) (D1 : Dev.Dv), Loads W X X1 D1 → X1.Has D1 first wN l → X1.at_ ≠ X1.n → X1.told = X.told → X.block ≤ X1.block → Goes W.D D1 (X1.block - X.block) → D1.now = W.D.now →
          ∃ m Y D, X.told ≤ m ∧ m ≤ l.length ∧ Reads W X ((l.take m).drop X.told) Y D ∧ Y.Has D first wN l ∧ Y.told = m ∧ X.block ≤ Y.block ∧ Goes W.D D (Y.block - X.block) ∧ D.now = W.D.now ∧
            (m = l.length ∨ (m < l.length ∧ Y.at_ = Y.n ∧ Y.block < nB W.D.size wN l.length ∧ (D.rd ((first + Y.block : Nat) : Int)).1 ≠ 0)) := by
        intro X1 D1 hL h' hn' ht' hb' hg' hw'
        obtain ⟨hl1, e1, hN⟩ := Rd.Has.here (W := { W with D := D1 }) h' h1 h5 hf hn'
        have hz := hg'.size
        obtain ⟨m, Y, D, a1, a2, a3, a4, a5, a6, a7, a8, a9⟩ := ih X1.next { W with D := D1 } hN (by show 8 ≤ D1.size; omega) (by show l.length ≤ X1.told + 1 + n; omega)
        have a1' : X1.told + 1 ≤ m := a1
        have a6' : X1.block ≤ Y.block := a6
        have a3' : Reads { W with D := D1 } X1.next ((l.take m).drop (X1.told + 1)) Y D := a3
        rw [ht'] at a3'
        refine ⟨m, Y, D, by omega, a2, ?_, a4, a5, by omega, ?_, a8.trans hw', ?_⟩
        · have hdr : (l.take m).drop X.told = l[X.told] :: (l.take m).drop (X.told + 1) := by rw [List.drop_eq_getElem_cons (by rw [List.length_take]; omega), List.getElem_take]
          rw [hdr]
          exact ⟨X1, D1, hL, by rw [e1]; congr 1; exact ht'.symm, a3'⟩
        · have a7' : Goes D1 D (Y.block - X1.block) := a7
          have := hg'.trans a7'
          rw [show X1.block - X.block + (Y.block - X1.block) = Y.block - X.block from by omega] at this
          exact this
        · rcases a9 with a9 | ⟨b1, b2, b3, b4⟩
          · exact .inl a9
          · have b3' : Y.block < nB D1.size wN l.length := b3
            rw [hz] at b3'
            exact .inr ⟨b1, b2, b3', b4⟩
      by_cases hn' : X.at_ = X.n
      · by_cases hr : (W.D.rd ((first + X.block : Nat) : Int)).1 = 0
        · obtain ⟨X1, q1, q2, q3, q4, q5⟩ := h.load h8 h1 h5 hf hlt hn' hfb hr
          exact step X1 _ q1 q2 q3 q4 (by omega) (by rw [q5, Nat.add_sub_cancel_left]; exact goes_rd hr) (Dev.rd_now _ _)
        · have hwid := h.wid
          have hcnt := h.cnt
          obtain ⟨d1, d2⟩ := h.ok.due (by omega) (by omega) h8 hn' (by omega)
          rw [show X.width.toNat = wN from by rw [hwid]; rfl] at d1
          have hp := hN_pos h8 h1 h5
          obtain ⟨c1, c2⟩ := nB_cap (size := W.D.size) (wN := wN) (count := l.length) hp
          refine ⟨X.told, X, W.D, Nat.le_refl _, by omega, (by rw [List.drop_of_length_le (by rw [List.length_take]; omega)]; exact ⟨rfl, rfl⟩), h, rfl, Nat.le_refl _, (by rw [Nat.sub_self]; exact Goes.refl _), rfl, .inr ⟨hlt, hn', ?_, hr⟩⟩
          refine Nat.lt_of_mul_lt_mul_right (a := hN W.D.size wN) ?_
          omega
      · exact step X W.D (.inl ⟨hn', rfl, rfl⟩) h hn' rfl (Nat.le_refl _) (by rw [Nat.sub_self]; exact Goes.refl _) rfl
    · exact ⟨X.told, X, W.D, Nat.le_refl _, by omega, (by rw [List.drop_of_length_le (by rw [List.length_take]; omega)]; exact ⟨rfl, rfl⟩), h, rfl, Nat.le_refl _, (by rw [Nat.sub_self]; exact Goes.refl _), rfl, .inl (by omega)⟩
/-- All is told: all blocks were read. -/
theorem Rd.Has.all {X : Rd} {D : Dev.Dv} {first wN : Nat} {l : List Tup} (h : X.Has D first wN l) (h8 : 8 ≤ D.size) (h1 : 1 ≤ wN) (h5 : wN ≤ 5) (ht : X.told = l.length) : X.block = nB D.size wN l.length := by
  obtain ⟨left, w', hw', hl, e⟩ := h.ok.left
  have hwid := h.wid
  obtain rfl : w' = wN := by omega
  have hcnt := h.cnt
  have hblk := h.blk
  have hp := hN_pos h8 h1 h5
  obtain ⟨c1, c2⟩ := nB_cap (size := D.size) (wN := w') (count := l.length) hp
  rcases Nat.lt_or_ge X.block (nB D.size w' l.length) with hlt | hge
  · have := c2 X.block hlt
    omega
  · omega

section
variable {X : Wr} {W : Wk} {l : List Tup} {t : Tup}
theorem next_goes (hok : ((X.n : Int) + X.width) / X.width = holds W.D.size X.width → ((X.put t).wrote W).1 = 0) : X.at_ ≤ (X.next W t).1.at_ ∧ Goes W.D (X.next W t).2 ((X.next W t).1.at_ - X.at_) ∧
    ∀ i : Int, (∀ j, X.at_ ≤ j → j < (X.next W t).1.at_ → i ≠ ((X.first + j : Nat) : Int)) → (X.next W t).2.now i = W.D.now i := by
  unfold Wr.next
  split
  · rename_i hd
    have h0 := hok hd
    refine ⟨Nat.le_succ _, ?_, fun i hi => ?_⟩
    · show Goes W.D ((X.put t).wrote W).2 (X.at_ + 1 - X.at_)
      rw [Nat.add_sub_cancel_left]
      exact goes_wr h0
    · show ((X.put t).wrote W).2.now i = _
      unfold Wr.wrote
      unfold Wr.wrote at h0
      rw [Dev.wr_now, if_pos h0]
      exact if_neg (hi X.at_ (Nat.le_refl _) (Nat.lt_succ_self _))
  · refine ⟨Nat.le_refl _, ?_, fun i hi => rfl⟩
    show Goes W.D W.D (X.at_ - X.at_)
    rw [Nat.sub_self]
    exact Goes.refl _
/-- Behind many Puts. -/
structure PutsHas (W : Wk) (X : Wr) (l0 l : List Tup) (r : Wr × Dev.Dv) : Prop where
  has : r.1.Has r.2 (l0 ++ l)
  at_ : X.at_ ≤ r.1.at_
  goes : Goes W.D r.2 (r.1.at_ - X.at_)
  now : ∀ i : Int, (∀ j, X.at_ ≤ j → j < r.1.at_ → i ≠ ((X.first + j : Nat) : Int)) → r.2.now i = W.D.now i
theorem puts_has {l0 : List Tup} (h : X.Has W.D l0) (h8 : 8 ≤ W.D.size) (h1 : 1 ≤ X.width) (h5 : X.width ≤ 5) (ht : ∀ t ∈ l, t.length = 5) (hb : X.count + l.length ≤ X.bound) (hok : putsOk W X l) : PutsHas W X l0 l (puts W X l) := by
  induction l generalizing W X l0 with
  | nil => exact ⟨by rw [List.append_nil]; exact h, Nat.le_refl _, by show Goes W.D W.D (X.at_ - X.at_); rw [Nat.sub_self]; exact Goes.refl _, fun i _ => rfl⟩
  | cons t l ih =>
    obtain ⟨⟨hz, hok1⟩, hok2⟩ := hok
    rw [List.length_cons] at hb
    obtain ⟨a1, a2, a3, a4, a5, a6, a7, a8, a9, a10⟩ := next_same X W t
    obtain ⟨g1, g2, g3⟩ := next_goes hok1
    have hh := h.put h8 h1 h5 (ht t (List.mem_cons_self ..)) (by omega) hok1
    have hz := g2.size
    obtain ⟨b1, b2, b3, b4⟩ := ih (W := { W with D := (X.next W t).2 }) (X := (X.next W t).1) hh (by show 8 ≤ (X.next W t).2.size; omega) (by rw [a3]; exact h1) (by rw [a3]; exact h5) (fun u hu => ht u (List.mem_cons_of_mem _ hu)) (by rw [a5, a4]; omega) hok2
    refine ⟨?_, ?_, ?_, fun i hi => ?_⟩
    · rw [show l0 ++ t :: l = l0 ++ [t] ++ l from by simp]
      exact b1
    · exact Nat.le_trans g1 b2
    · have b3' : Goes (X.next W t).2 (puts W X (t :: l)).2 ((puts W X (t :: l)).1.at_ - (X.next W t).1.at_) := b3
      have b2' : (X.next W t).1.at_ ≤ (puts W X (t :: l)).1.at_ := b2
      have := g2.trans b3'
      rw [show (X.next W t).1.at_ - X.at_ + ((puts W X (t :: l)).1.at_ - (X.next W t).1.at_) = (puts W X (t :: l)).1.at_ - X.at_ from by omega] at this
      exact this
    · have b2' : (X.next W t).1.at_ ≤ (puts W X (t :: l)).1.at_ := b2
      have := b4 i (fun j hj hj' => by rw [a1]; exact hi j (by omega) hj')
      refine this.trans (g3 i (fun j hj hj' => hi j hj (by omega)))
theorem last_goes (hok : 0 < X.n → (X.wrote W).1 = 0) : X.at_ ≤ (X.last W).1.at_ ∧ Goes W.D (X.last W).2 ((X.last W).1.at_ - X.at_) := by
  unfold Wr.last
  split
  · refine ⟨Nat.le_refl _, ?_⟩
    show Goes W.D W.D (X.at_ - X.at_)
    rw [Nat.sub_self]
    exact Goes.refl _
  · refine ⟨Nat.le_succ _, ?_⟩
    show Goes W.D (X.wrote W).2 (X.at_ + 1 - X.at_)
    rw [Nat.add_sub_cancel_left]
    exact goes_wr (hok (by omega))
end

end Go.Proofs.Ytmmkncocgjgapaa.Fl

/- The walk of a reader's Close behind a defer. -/
namespace Go.Proofs.Ytmmkncocgjgapaa.Fl
open Go.RowKit

section
variable {w w' : World} {O : Nat → Prop} {K : Key} {W : Wk} {x : Nat} {X : Rd} {E : Nat → Prop} {u : FrameMode}

set_option maxRecDepth 100000 in
set_option maxHeartbeats 1000000 in
theorem rclose_d (hI : WkI w O K W) (h : RdAt w O K W x X) (hc : X.closed = false) : CallsD Try.prog 28 #[P x] u w (fun e u' w' => u' = u ∧ RCloseTold w O K W x X e w') := by
  have hB := h.live hc
  have hbx : x ≠ X.buf ∧ x ≠ X.arr := ⟨h.blk.ne_ hB.blk (by decide), h.blk.ne_ hB.row (by decide)⟩
  have c9 : w.cell? ⟨x, 10, none⟩ = some (.bool X.closed) := h.blk.cell 10
  rw [hc] at c9
  have f9 := h.blk.frozen 10
  obtain ⟨hI1, hX1, ht1⟩ := rd_store hI h.blk 10 (.bool true)
  rw [rcells_close] at hX1
  have hB1 := hB.stay hI ht1 (fun e => hbx.1 e.symm) (fun e => hbx.2 e.symm)
  have HC := Lib.hid hc
  have HBX := Lib.hid hbx
  clear hc hI h hB hbx
  go_enter_d Try.func28, Try.ntmps28
  go_wp2_with fail
  generalize w.setCell ⟨x, 10, none⟩ (.bool true) = w1 at *
  have d0 : w1.drew.cell? ⟨x, 0, none⟩ = some (P K.wk) := hX1.cell 0
  have d6 : w1.drew.cell? ⟨x, 5, none⟩ = some (P X.buf) := hX1.cell 5
  have k1 : w1.drew.cell? ⟨K.wk, 1, none⟩ = some (P K.a) := hI1.box.cell 1
  have hB1' : BufAt w1.drew O W X.buf X.arr X.ws := ⟨hB1.blk, hB1.row, hB1.len, hB1.out, hB1.st⟩
  have HR := Lib.hid (release_w hI1.drew hB1')
  have HI1 := Lib.hid hI1.drew
  have HX1 : Hid (Blk w1.drew x 110 (rcells K { X with closed := true })) := Lib.hid hX1
  have HT1 := Lib.hid ht1.drew
  clear c9 f9 hI1 hX1 hB1 hB1' ht1
  go_still_tail 11, (by kernel_rfl)
  change wpList _ _ _ _ _ w1.drew
  generalize w1.drew = w2 at *
  clear d0 d6 k1
  go_wp2_with fail
  refine HR.out.mono ?_
  rintro e w3 ⟨rfl, hI3, ht3⟩
  have hX3 := HI1.out.blk ht3 HX1.out (by decide) (by decide) (by decide) (by decide) (by decide) HBX.out.1
  have ht13 : Turn K (OwnR x X) w w3 := (HT1.out.mono (fun k h => .inl h)).trans (ht3.mono (fun k h => .inr (.inl h)))
  have HT3 := Lib.hid ht13
  have HI3 := Lib.hid hI3
  have HX3 := Lib.hid hX3
  clear ht3 hI3 hX3 HR HI1 HX1 HT1 ht13
  go_wp2_with fail
  go_end0
  exact ⟨rfl, HI3.out, HX3.out, HT3.out⟩
end

end Go.Proofs.Ytmmkncocgjgapaa.Fl
