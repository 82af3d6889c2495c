/- The walk of the looker's look. -/
import Derived.Test.YtlbaigkpojkfjaaZJnLook
set_option linter.unusedVariables false
namespace Go.Proofs.Ytlbaigkpojkfjaa.Fl
open Go.RowKit

/-- Behind a look. -/
def LookC (w : World) (O : Nat → Prop) (K : Key) (W : Wk) (lb xb b d key val dst first wN : Nat) (l : List Tup) (L : Lk) (t : Tup) (e : Ending) (w' : World) : Prop :=
  Turn K (EjL lb xb b d) w w' ∧ ∃ D', Calm W.D D' ∧
  ((∃ X', (looked l key val dst L t).2.2 = true ∧ e = .returned (.tuple #[.agg (icells (looked l key val dst L t).2.1).toArray, .bool true, .int .i64 0]) ∧ D'.acts + L.m ≤ W.D.acts + (looked l key val dst L t).1.m ∧ WkI w' O K { W with D := D' } ∧ LkI w' O K { W with D := D' } lb xb b d key val dst first wN l (looked l key val dst L t).1 X') ∨
   (∃ er m', e = .returned (.tuple #[.agg (icells t).toArray, .bool false, .int .i64 er]) ∧ D'.acts + L.m ≤ W.D.acts + m' ∧ L.m ≤ m' ∧ m' ≤ l.length ∧
     ((er = 3 ∧ (looked l key val dst L t).2.2 = false ∧ WkI w' O K { W with D := D' } ∧ ∃ L' X', LkI w' O K { W with D := D' } lb xb b d key val dst first wN l L' X') ∨
      (er = 6 ∧ W.D.fault ≠ -1 ∧ WkI w' O K { W with D := D', A := W.A.release b W.D.size } ∧ ∃ X', RdAt w' O K { W with D := D', A := W.A.release b W.D.size } xb X' ∧ X'.closed = true))))
def cellB (wr : World) (p : Addr) : Bool := match wr.cell? p with | some (.bool b) => b | _ => false
def todoOf (wr : World) (lb xb n : Nat) : Nat := (n - toldOf wr xb) + (if cellB wr ⟨lb, 7, none⟩ && !cellB wr ⟨lb, 6, none⟩ then 0 else 1)

section
variable {w w' : World} {O : Nat → Prop} {K : Key} {W : Wk} {lb xb b d key val dst first wN : Nat} {l : List Tup} {L : Lk} {X : Rd}
theorem todo_of (h : LkI w O K W lb xb b d key val dst first wN l L X) : todoOf w lb xb l.length = L.todo l := by
  unfold todoOf toldOf cellB Lk.todo
  rw [h.rd.blk.cell 9, h.blk.cell 6, h.blk.cell 7]
  show l.length - ((X.told : Int)).toNat + (if (L.begun && !L.ok) = true then 0 else 1) = _
  rw [h.live.2.1, Int.toNat_natCast]

theorem five_at (t : Tup) (i : Nat) (hi : i < 5) : (#[.int .i64 (col t 0), .int .i64 (col t 1), .int .i64 (col t 2), .int .i64 (col t 3), .int .i64 (col t 4)] : Array Value)[i]? = some (.int .i64 (col t i)) := by
  obtain rfl | rfl | rfl | rfl | rfl : i = 0 ∨ i = 1 ∨ i = 2 ∨ i = 3 ∨ i = 4 := by omega
  all_goals rfl
theorem five_set (t : Tup) (i : Nat) (h5 : t.length = 5) (hi : i < 5) {x : BitVec 64} {v : Int} (hx : x.toInt = v) : (#[.int .i64 (col t 0), .int .i64 (col t 1), .int .i64 (col t 2), .int .i64 (col t 3), .int .i64 (col t 4)] : Array Value).setIfInBounds i (.int .i64 v) = (icells (t.set i x)).toArray := by
  subst hx
  match t, h5 with
  | [a, b, c, d, e], _ =>
    obtain rfl | rfl | rfl | rfl | rfl : i = 0 ∨ i = 1 ∨ i = 2 ∨ i = 3 ∨ i = 4 := by omega
    all_goals rfl
theorem lcells_at (xb key val dst : Nat) (L : Lk) (i : Nat) (hi : i < 5) : (lcells xb key val dst L)[1 + i]? = some (.int .i64 (col L.t i)) := by
  obtain rfl | rfl | rfl | rfl | rfl : i = 0 ∨ i = 1 ∨ i = 2 ∨ i = 3 ∨ i = 4 := by omega
  all_goals rfl
structure LookLoop (w : World) (O : Nat → Prop) (K : Key) (W : Wk) (lb xb b d key val dst first wN : Nat) (l : List Tup) (L0 : Lk) (m0 : Nat) (kk : Int) (cs : Array Value) (Lc : Lk) (X : Rd) (D : Dev.Dv) (wr : World) : Prop where
  same : sought l Lc kk = sought l L0 kk
  m : m0 ≤ Lc.m
  acts : D.acts + m0 ≤ W.D.acts + Lc.m
  calm : Calm W.D D
  wk : WkI wr O K { W with D := D }
  lk : LkI wr O K { W with D := D } lb xb b d key val dst first wN l Lc X
  tup : Blk wr w.heap.size 57 cs
  res : Blk wr (w.heap.size + 1) 57 zero5
  turn : Turn K (fun q => EjL lb xb b d q ∨ w.heap.size ≤ q) w wr

set_option maxRecDepth 100000 in
set_option maxHeartbeats 4000000 in
theorem look_any (t : Tup) (hI : WkI w O K W) (h : LkI w O K W lb xb b d key val dst first wN l L X) (hs : Sure W.D) (hf : FitsW wN l) (hfit : nB W.D.size wN l.length = 0 ∨ first + nB W.D.size wN l.length ≤ W.D.blocks) (hfs : first ≤ 1000000) (hk : key < 5) (hv : val < 5) (hd : dst < 5) (h5 : t.length = 5) (hac : W.D.acts + l.length + 2 < 1099511627776) (hlt : ∀ q, EjL lb xb b d q → q < w.heap.size) :
    Calls Try.prog 48 #[P lb, .agg (icells t).toArray] w (LookC w O K W lb xb b d key val dst first wN l L t) := by
  obtain ⟨k, hkk⟩ : ∃ k, k = col t key := ⟨_, rfl⟩
  have hlb := hlt lb (.inl rfl)
  have hbl : Below w.heap.size w ((w.alloc (.cells (icells t).toArray 57)).alloc (.cells zero5 57)) := ((Below.refl _ _).alloc (Nat.le_refl _) _).alloc (by simp) _
  have hT := (Blk.new w 57 (icells t).toArray).alloc (.cells zero5 57)
  have hZ := Blk.new (w.alloc (.cells (icells t).toArray 57)) 57 zero5
  rw [show (w.alloc (.cells (icells t).toArray 57)).heap.size = w.heap.size + 1 from by simp] at hZ
  have hI1 := hI.below hbl
  have h1 := h.below hI hbl
  have hT1 : Turn K (fun q => EjL lb xb b d q ∨ w.heap.size ≤ q) w ((w.alloc (.cells (icells t).toArray 57)).alloc (.cells zero5 57)) := Turn.below hbl
  have htk : (icells t).toArray[key]? = some (.int .i64 k) := by
    rw [hkk]
    have : key < t.length := by omega
    simp [icells, col, this]
  have HTK := Lib.hid htk
  have HH := Lib.hid (And.intro hs (And.intro hf (And.intro hfit (And.intro hfs (And.intro h5 (And.intro hac (And.intro hlt (And.intro hkk (And.intro h.live h.has)))))))))
  have HDST := Lib.hid hd
  have HVAL := Lib.hid hv
  have HLEN := Lib.hid h5
  have HI := Lib.hid hI1
  have HL := Lib.hid h1
  have HT := Lib.hid hT
  have HZ := Lib.hid hZ
  have HT1 := Lib.hid hT1
  rw [icells_col h5] at *
  unfold zero5 at *
  clear hI h hs hf hfit hfs h5 hac hlt hkk hbl hT hZ hI1 h1 hT1 htk
  go_enter Try.func48, Try.ntmps48
  go_upto_region 1 with (fail)
  generalize ((w.alloc (.cells #[.int .i64 (col t 0), .int .i64 (col t 1), .int .i64 (col t 2), .int .i64 (col t 3), .int .i64 (col t 4)] 57)).alloc (.cells #[.int .i64 0, .int .i64 0, .int .i64 0, .int .i64 0, .int .i64 0] 57)) = w1 at *
  have c8 : w1.cell? ⟨lb, 8, none⟩ = some (.int .i64 (key : Int)) := HL.out.blk.cell 8
  have tk : w1.cell? ⟨w.heap.size, key, none⟩ = some (.int .i64 k) := (HT.out.cell key).trans HTK.out
  have i0 : (0 : Int) ≤ (key : Int) := by omega
  have i1 : (key : Int) < 5 := by omega
  have j0 : (0 : Int) ≤ (val : Int) := by omega
  have j1 : (val : Int) < 5 := by omega
  have k0 : (0 : Int) ≤ (dst : Int) := by omega
  have k1 : (dst : Int) < 5 := by omega
  obtain ⟨la, hla⟩ : ∃ la, la = L.last := ⟨_, rfl⟩
  obtain ⟨an, han⟩ : ∃ an, an = L.any := ⟨_, rfl⟩
  have c11 : w1.cell? ⟨lb, 11, none⟩ = some (.int .i64 la) := by rw [hla]; exact HL.out.blk.cell 11
  have c12 : w1.cell? ⟨lb, 12, none⟩ = some (.bool an) := by rw [han]; exact HL.out.blk.cell 12
  have HLA := Lib.hid (And.intro hla han)
  clear hla han
  go_upto_region 2 with (fail)
  go_cut [27] (fun v wx => v = .bool (an && decide (k < la)) ∧ w1 = wx)
  case first =>
    cases an with
    | false =>
      go_wp2_with fail
      go_meet
      exact ⟨rfl, rfl⟩
    | true =>
      go_wp2_with fail
      go_meet
      exact ⟨rfl, rfl⟩
  case rest =>
    obtain ⟨rfl, rfl⟩ := hcut
    obtain ⟨hs, hf, hfit, hfs, h5, hac, hlt, hkk, hlive, hhas⟩ := HH.out
    have HEJ := Lib.hid hlt
    have hlow := hhas.low
    have hmm := hlive.2.1
    have HLOW := Lib.hid (show L.m ≤ l.length by omega)
    clear hlow hmm hlive hhas hs hf hfit hfs h5 hac hlt hkk
    obtain ⟨gd, hgd⟩ : ∃ gd, gd = (an && decide (k < la)) := ⟨_, rfl⟩
    rw [← hgd]
    have HGD := Lib.hid hgd
    clear hgd
    cases gd with
    | true =>
      have y0 : w1.cell? ⟨w.heap.size, 0, none⟩ = some (.int .i64 (col t 0)) := HT.out.cell 0
      have y1 : w1.cell? ⟨w.heap.size, 1, none⟩ = some (.int .i64 (col t 1)) := HT.out.cell 1
      have y2 : w1.cell? ⟨w.heap.size, 2, none⟩ = some (.int .i64 (col t 2)) := HT.out.cell 2
      have y3 : w1.cell? ⟨w.heap.size, 3, none⟩ = some (.int .i64 (col t 3)) := HT.out.cell 3
      have y4 : w1.cell? ⟨w.heap.size, 4, none⟩ = some (.int .i64 (col t 4)) := HT.out.cell 4
      have z0 : w1.cell? ⟨w.heap.size + 1, 0, none⟩ = some (.int .i64 0) := HZ.out.cell 0
      have z1 : w1.cell? ⟨w.heap.size + 1, 1, none⟩ = some (.int .i64 0) := HZ.out.cell 1
      have z2 : w1.cell? ⟨w.heap.size + 1, 2, none⟩ = some (.int .i64 0) := HZ.out.cell 2
      have z3 : w1.cell? ⟨w.heap.size + 1, 3, none⟩ = some (.int .i64 0) := HZ.out.cell 3
      have z4 : w1.cell? ⟨w.heap.size + 1, 4, none⟩ = some (.int .i64 0) := HZ.out.cell 4
      have g0 := HZ.out.frozen 0
      have g1 := HZ.out.frozen 1
      have g2 := HZ.out.frozen 2
      have g3 := HZ.out.frozen 3
      have g4 := HZ.out.frozen 4
      obtain ⟨hI9, hR9, hT9⟩ := five_store HI.out HZ.out (.int .i64 (col t 0)) (.int .i64 (col t 1)) (.int .i64 (col t 2)) (.int .i64 (col t 3)) (.int .i64 (col t 4))
      have hL9 := HL.out.stay (O' := O) (W' := W) HI.out hT9 (fun q hq e => by have := HEJ.out q hq; omega) (fun _ _ h => h) rfl (fun _ _ => rfl) (fun _ h _ => h)
      have HR9 := Lib.hid hR9
      have HF9 := Lib.hid (And.intro hI9 (And.intro hL9 (HT1.out.trans (hT9.mono (fun q e => .inr (by rw [e]; omega))))))
      unfold five at HR9 HF9
      clear hI9 hR9 hT9 hL9 tk c8 c11 c12 HTK HT HZ HI HL HT1
      go_wp2_with fail
      generalize (((((w1.setCell ⟨w.heap.size + 1, 0, none⟩ (.int .i64 (col t 0))).setCell ⟨w.heap.size + 1, 1, none⟩ (.int .i64 (col t 1))).setCell ⟨w.heap.size + 1, 2, none⟩ (.int .i64 (col t 2))).setCell ⟨w.heap.size + 1, 3, none⟩ (.int .i64 (col t 3))).setCell ⟨w.heap.size + 1, 4, none⟩ (.int .i64 (col t 4))) = w9 at *
      have s0 : w9.cell? ⟨w.heap.size + 1, 0, none⟩ = some (.int .i64 (col t 0)) := HR9.out.cell 0
      have s1 : w9.cell? ⟨w.heap.size + 1, 1, none⟩ = some (.int .i64 (col t 1)) := HR9.out.cell 1
      have s2 : w9.cell? ⟨w.heap.size + 1, 2, none⟩ = some (.int .i64 (col t 2)) := HR9.out.cell 2
      have s3 : w9.cell? ⟨w.heap.size + 1, 3, none⟩ = some (.int .i64 (col t 3)) := HR9.out.cell 3
      have s4 : w9.cell? ⟨w.heap.size + 1, 4, none⟩ = some (.int .i64 (col t 4)) := HR9.out.cell 4
      refine bodyPost_ret (v := .tuple #[.agg #[.int .i64 (col t 0), .int .i64 (col t 1), .int .i64 (col t 2), .int .i64 (col t 3), .int .i64 (col t 4)], .bool false, .int .i64 3]) (by simp [results, Try.results48, go_sem, s0, s1, s2, s3, s4]; try rfl) rfl ?_
      obtain ⟨hI9, hL9, hT9⟩ := HF9.out
      obtain ⟨hs, hf, hfit, hfs, h5, hac, hlt, hkk, hlive, hhas⟩ := HH.out
      refine ⟨turn_fresh2 hT9 (fun q hq => hq.elim .inr .inl), W.D, Calm.refl _, .inr ⟨3, L.m, by rw [icells_col h5], Nat.le_refl _, Nat.le_refl _, HLOW.out, .inl ⟨rfl, ?_, hI9, L, X, hL9⟩⟩⟩
      unfold looked
      have hg := HGD.out
      rw [HLA.out.1, HLA.out.2, hkk] at hg
      rw [if_pos hg.symm]
    | false =>
      have f11 := HL.out.blk.frozen 11
      have f12 := HL.out.blk.frozen 12
      have hc2 : Chg (fun q => q = lb) w1 ((w1.setCell ⟨lb, 11, none⟩ (.int .i64 k)).setCell ⟨lb, 12, none⟩ (.bool true)) := ((Chg.refl (fun q => q = lb) w1).setCell ⟨lb, 11, none⟩ (.int .i64 k) (fun _ => rfl)).setCell ⟨lb, 12, none⟩ (.bool true) (fun _ => rfl)
      obtain ⟨hI2, hL2, hT2⟩ := HL.out.aside HI.out hc2 (L' := L.key k) rfl ((HL.out.blk.set_ 11 (.int .i64 k)).set_ 12 (.bool true))
      have hTB2 := HT.out.chg hc2 (fun e => by have e2 : w.heap.size = lb := e; omega)
      have hRB2 := HZ.out.chg hc2 (fun e => by have e2 : w.heap.size + 1 = lb := e; omega)
      have HLP := Lib.hid (show ∃ Lc X D, LookLoop w O K W lb xb b d key val dst first wN l (L.key k) L.m k #[.int .i64 (col t 0), .int .i64 (col t 1), .int .i64 (col t 2), .int .i64 (col t 3), .int .i64 (col t 4)] Lc X D ((w1.setCell ⟨lb, 11, none⟩ (.int .i64 k)).setCell ⟨lb, 12, none⟩ (.bool true)) from ⟨L.key k, X, W.D, rfl, Nat.le_refl _, Nat.le_refl _, Calm.refl _, hI2, hL2, hTB2, hRB2, HT1.out.trans (hT2.mono (fun q e => .inl (.inl e)))⟩)
      clear hc2 hI2 hL2 hT2 hTB2 hRB2 tk c8 HTK HT HZ HI HL HT1
      go_upto_region 4 with (fail)
      go_wp2_with fail
      generalize ((w1.setCell ⟨lb, 11, none⟩ (.int .i64 k)).setCell ⟨lb, 12, none⟩ (.bool true)) = w2 at *
      clear c11 c12 f11 f12
      go_loopw [8] (fun ev wr => ∃ Lc X D, LookLoop w O K W lb xb b d key val dst first wN l (L.key k) L.m k #[.int .i64 (col t 0), .int .i64 (col t 1), .int .i64 (col t 2), .int .i64 (col t 3), .int .i64 (col t 4)] Lc X D wr) (fun _ wr => todoOf wr lb xb l.length)
      case atStart => exact HLP.out
      case round =>
        obtain ⟨Lc, Xc, D, hR⟩ := hrel
        have HR := Lib.hid hR
        obtain ⟨hs, hf, hfit, hfs, h5, hac, hlt, hkk, hlive, hhas⟩ := HH.out
        have hlc := hR.lk.live.2.1
        have hlow := hR.lk.has.low
        have hacts := hR.acts
        have hmm := hR.m
        have HLC := Lib.hid (show Lc.m ≤ l.length by omega)
        have HM := Lib.hid (more_c hR.wk hR.lk (hR.calm.sure hs) hf (by show nB D.size wN l.length = 0 ∨ first + nB D.size wN l.length ≤ D.blocks; rw [hR.calm.size, hR.calm.blocks]; exact hfit) hfs (by show D.acts + 1 < _; omega) (fun q hq => by have := hlt q hq; have := hR.turn.size; omega))
        obtain ⟨t0, ht0⟩ : ∃ t0, t0 = col Lc.t 0 := ⟨_, rfl⟩
        obtain ⟨bg, hbg⟩ : ∃ bg, bg = Lc.begun := ⟨_, rfl⟩
        obtain ⟨ok0, hok⟩ : ∃ ok0, ok0 = Lc.ok := ⟨_, rfl⟩
        have c1 : wr.cell? ⟨lb, 1, none⟩ = some (.int .i64 t0) := by rw [ht0]; exact hR.lk.blk.cell 1
        have c6 : wr.cell? ⟨lb, 6, none⟩ = some (.bool ok0) := by rw [hok]; exact hR.lk.blk.cell 6
        have c7 : wr.cell? ⟨lb, 7, none⟩ = some (.bool bg) := by rw [hbg]; exact hR.lk.blk.cell 7
        have HT0 := Lib.hid (And.intro ht0 (And.intro hbg hok))
        have hdu : Lc.due k = (!bg || (ok0 && decide (t0 < k))) := by rw [ht0, hbg, hok]; rfl
        have HDU := Lib.hid hdu
        clear hR hs hf hfit hfs h5 hac hlt hkk hlive hhas hlc hlow hacts hmm ht0 hbg hok HLP
        have hcs : bg = false ∨ (bg = true ∧ ok0 = true ∧ t0 < k) ∨ (bg = true ∧ ok0 = false) ∨ (bg = true ∧ ok0 = true ∧ ¬ t0 < k) := by
          cases bg <;> cases ok0 <;> by_cases h : t0 < k <;> simp [h]
        clear hdu
        rcases hcs with rfl | ⟨rfl, rfl, hlt0⟩ | ⟨rfl, rfl⟩ | ⟨rfl, rfl, hge⟩
        · have HD := Lib.hid (show Lc.due k = true by rw [HDU.out]; rfl)
          go_wp2_with fail
          refine HM.out.mono ?_
          rintro e w3 ⟨ht3, hh⟩
          have hlt3 := HR.out.turn.size
          have hEJ := HEJ.out
          have hTB3 := HR.out.wk.blk ht3 HR.out.tup (by decide) (by decide) (by decide) (by decide) (by decide) (fun hq => by have := hEJ _ hq; omega)
          have hRB3 := HR.out.wk.blk ht3 HR.out.res (by decide) (by decide) (by decide) (by decide) (by decide) (fun hq => by have := hEJ _ hq; omega)
          have hTT3 := HR.out.turn.trans (ht3.mono (fun q hq => .inl hq))
          have HTB3 := Lib.hid hTB3
          have HRB3 := Lib.hid hRB3
          have HTT3 := Lib.hid hTT3
          have HSZ := Lib.hid ht3.size
          unfold zero5 at HRB3
          clear hlt3 hEJ hTB3 hRB3 hTT3 ht3 c1 c6 c7 HM
          rcases hh with ⟨X', D', rfl, hC, hA, hI3, hL3⟩ | ⟨X', D', f0, rfl, hF, hI3, hX3, hc3⟩
          · cases hbd : Lc.bad l with
            | false =>
              rw [if_neg (by decide : ¬ (false = true))]
              have HST := Lib.hid (show LookLoop w O K W lb xb b d key val dst first wN l (L.key k) L.m k #[.int .i64 (col t 0), .int .i64 (col t 1), .int .i64 (col t 2), .int .i64 (col t 3), .int .i64 (col t 4)] (Lc.step l) X' D' w3 from ⟨by rw [← sought_step HD.out hbd]; exact HR.out.same, by have := HR.out.m; have := step_m l Lc; omega, by have := HR.out.acts; have h2 : D'.acts + Lc.m ≤ D.acts + (Lc.step l).m := hA; omega, HR.out.calm.trans hC, hI3, hL3, HTB3.out, HRB3.out, HTT3.out⟩)
              clear hC hA hI3 hL3 hbd
              go_wp2_with fail
              go_roundw
              case rel => exact ⟨_, _, _, HST.out⟩
              case measure => exact (by have h1 := todo_of HR.out.lk; have h2 := todo_of HST.out.lk; have h3 := todo_step (lb := l) HD.out; omega)
            | true =>
              rw [if_pos (rfl : true = true)]
              have y0 : w3.cell? ⟨w.heap.size, 0, none⟩ = some (.int .i64 (col t 0)) := HTB3.out.cell 0
              have y1 : w3.cell? ⟨w.heap.size, 1, none⟩ = some (.int .i64 (col t 1)) := HTB3.out.cell 1
              have y2 : w3.cell? ⟨w.heap.size, 2, none⟩ = some (.int .i64 (col t 2)) := HTB3.out.cell 2
              have y3 : w3.cell? ⟨w.heap.size, 3, none⟩ = some (.int .i64 (col t 3)) := HTB3.out.cell 3
              have y4 : w3.cell? ⟨w.heap.size, 4, none⟩ = some (.int .i64 (col t 4)) := HTB3.out.cell 4
              have z0 : w3.cell? ⟨w.heap.size + 1, 0, none⟩ = some (.int .i64 0) := HRB3.out.cell 0
              have z1 : w3.cell? ⟨w.heap.size + 1, 1, none⟩ = some (.int .i64 0) := HRB3.out.cell 1
              have z2 : w3.cell? ⟨w.heap.size + 1, 2, none⟩ = some (.int .i64 0) := HRB3.out.cell 2
              have z3 : w3.cell? ⟨w.heap.size + 1, 3, none⟩ = some (.int .i64 0) := HRB3.out.cell 3
              have z4 : w3.cell? ⟨w.heap.size + 1, 4, none⟩ = some (.int .i64 0) := HRB3.out.cell 4
              have g0 := HRB3.out.frozen 0
              have g1 := HRB3.out.frozen 1
              have g2 := HRB3.out.frozen 2
              have g3 := HRB3.out.frozen 3
              have g4 := HRB3.out.frozen 4
              obtain ⟨hI9, hR9, hT9⟩ := five_store hI3 HRB3.out (.int .i64 (col t 0)) (.int .i64 (col t 1)) (.int .i64 (col t 2)) (.int .i64 (col t 3)) (.int .i64 (col t 4))
              have hL9 := hL3.stay (O' := O) (W' := { W with D := D' }) hI3 hT9 (fun q hq e => by have := HEJ.out q hq; omega) (fun _ _ h => h) rfl (fun _ _ => rfl) (fun _ h _ => h)
              have HF9 := Lib.hid (And.intro hI9 (And.intro hL9 (HTT3.out.trans (hT9.mono (fun q e => .inr (by rw [e]; omega))))))
              have HX3 := Lib.hid (And.intro hC (And.intro hA hbd))
              clear hL3 hL9 hC hA hbd
              have HR9 := Lib.hid hR9
              unfold five at HR9 HF9
              clear hI9 hR9 hT9 hI3
              go_wp2_with fail
              generalize (((((w3.setCell ⟨w.heap.size + 1, 0, none⟩ (.int .i64 (col t 0))).setCell ⟨w.heap.size + 1, 1, none⟩ (.int .i64 (col t 1))).setCell ⟨w.heap.size + 1, 2, none⟩ (.int .i64 (col t 2))).setCell ⟨w.heap.size + 1, 3, none⟩ (.int .i64 (col t 3))).setCell ⟨w.heap.size + 1, 4, none⟩ (.int .i64 (col t 4))) = w9 at *
              have s0 : w9.cell? ⟨w.heap.size + 1, 0, none⟩ = some (.int .i64 (col t 0)) := HR9.out.cell 0
              have s1 : w9.cell? ⟨w.heap.size + 1, 1, none⟩ = some (.int .i64 (col t 1)) := HR9.out.cell 1
              have s2 : w9.cell? ⟨w.heap.size + 1, 2, none⟩ = some (.int .i64 (col t 2)) := HR9.out.cell 2
              have s3 : w9.cell? ⟨w.heap.size + 1, 3, none⟩ = some (.int .i64 (col t 3)) := HR9.out.cell 3
              have s4 : w9.cell? ⟨w.heap.size + 1, 4, none⟩ = some (.int .i64 (col t 4)) := HR9.out.cell 4
              refine bodyPost_ret (v := .tuple #[.agg #[.int .i64 (col t 0), .int .i64 (col t 1), .int .i64 (col t 2), .int .i64 (col t 3), .int .i64 (col t 4)], .bool false, .int .i64 3]) (by simp [results, Try.results48, go_sem, s0, s1, s2, s3, s4]; try rfl) rfl ?_
              obtain ⟨hI9, hL9, hT9⟩ := HF9.out
              obtain ⟨hC, hA, hbd⟩ := HX3.out
              obtain ⟨hs, hf, hfit, hfs, h5, hac, hlt, hkk, hlive, hhas⟩ := HH.out
              have hl9 := hL9.has.low
              have hm9 := hL9.live.2.1
              have ha := HR.out.acts
              have hm := HR.out.m
              have hsm := step_m l Lc
              refine ⟨turn_fresh2 hT9 (fun q hq => hq.elim .inr .inl), D', HR.out.calm.trans hC, .inr ⟨3, (Lc.step l).m, by rw [icells_col h5], by have h2 : D'.acts + Lc.m ≤ D.acts + (Lc.step l).m := hA; omega, by omega, by omega, .inl ⟨rfl, ?_, hI9, _, X', hL9⟩⟩⟩
              have hso := HR.out.same
              rw [sought_bad HD.out hbd, hkk] at hso
              unfold looked
              have hg := HGD.out
              rw [HLA.out.1, HLA.out.2, hkk] at hg
              rw [if_neg (by rw [← hg]; decide)]
              show (if (sought l (L.key (col t key)) (col t key)).2 = true then _ else _ : Lk × Tup × Bool).2.2 = false
              rw [← hso]
              rfl
          · skip
            have y0 : w3.cell? ⟨w.heap.size, 0, none⟩ = some (.int .i64 (col t 0)) := HTB3.out.cell 0
            have y1 : w3.cell? ⟨w.heap.size, 1, none⟩ = some (.int .i64 (col t 1)) := HTB3.out.cell 1
            have y2 : w3.cell? ⟨w.heap.size, 2, none⟩ = some (.int .i64 (col t 2)) := HTB3.out.cell 2
            have y3 : w3.cell? ⟨w.heap.size, 3, none⟩ = some (.int .i64 (col t 3)) := HTB3.out.cell 3
            have y4 : w3.cell? ⟨w.heap.size, 4, none⟩ = some (.int .i64 (col t 4)) := HTB3.out.cell 4
            have z0 : w3.cell? ⟨w.heap.size + 1, 0, none⟩ = some (.int .i64 0) := HRB3.out.cell 0
            have z1 : w3.cell? ⟨w.heap.size + 1, 1, none⟩ = some (.int .i64 0) := HRB3.out.cell 1
            have z2 : w3.cell? ⟨w.heap.size + 1, 2, none⟩ = some (.int .i64 0) := HRB3.out.cell 2
            have z3 : w3.cell? ⟨w.heap.size + 1, 3, none⟩ = some (.int .i64 0) := HRB3.out.cell 3
            have z4 : w3.cell? ⟨w.heap.size + 1, 4, none⟩ = some (.int .i64 0) := HRB3.out.cell 4
            have g0 := HRB3.out.frozen 0
            have g1 := HRB3.out.frozen 1
            have g2 := HRB3.out.frozen 2
            have g3 := HRB3.out.frozen 3
            have g4 := HRB3.out.frozen 4
            obtain ⟨hI9, hR9, hT9⟩ := five_store hI3 HRB3.out (.int .i64 (col t 0)) (.int .i64 (col t 1)) (.int .i64 (col t 2)) (.int .i64 (col t 3)) (.int .i64 (col t 4))
            have hX9 := hX3.turn' (O' := O) (W' := { W with D := D', A := W.A.release b D.size }) hI3 hT9 (fun e => by have := HEJ.out xb (.inr (.inl rfl)); omega) (fun h => by rw [hc3] at h; cases h) (fun h => by rw [hc3] at h; cases h) (fun _ _ h => h) rfl (fun _ h _ => h)
            have HF9 := Lib.hid (And.intro hI9 (And.intro hX9 (HTT3.out.trans (hT9.mono (fun q e => .inr (by rw [e]; omega))))))
            have HX3 := Lib.hid (And.intro f0 (And.intro hF hc3))
            clear hX3 hX9 hF hc3 f0
            have HR9 := Lib.hid hR9
            unfold five at HR9 HF9
            clear hI9 hR9 hT9 hI3
            go_wp2_with fail
            generalize (((((w3.setCell ⟨w.heap.size + 1, 0, none⟩ (.int .i64 (col t 0))).setCell ⟨w.heap.size + 1, 1, none⟩ (.int .i64 (col t 1))).setCell ⟨w.heap.size + 1, 2, none⟩ (.int .i64 (col t 2))).setCell ⟨w.heap.size + 1, 3, none⟩ (.int .i64 (col t 3))).setCell ⟨w.heap.size + 1, 4, none⟩ (.int .i64 (col t 4))) = w9 at *
            have s0 : w9.cell? ⟨w.heap.size + 1, 0, none⟩ = some (.int .i64 (col t 0)) := HR9.out.cell 0
            have s1 : w9.cell? ⟨w.heap.size + 1, 1, none⟩ = some (.int .i64 (col t 1)) := HR9.out.cell 1
            have s2 : w9.cell? ⟨w.heap.size + 1, 2, none⟩ = some (.int .i64 (col t 2)) := HR9.out.cell 2
            have s3 : w9.cell? ⟨w.heap.size + 1, 3, none⟩ = some (.int .i64 (col t 3)) := HR9.out.cell 3
            have s4 : w9.cell? ⟨w.heap.size + 1, 4, none⟩ = some (.int .i64 (col t 4)) := HR9.out.cell 4
            refine bodyPost_ret (v := .tuple #[.agg #[.int .i64 (col t 0), .int .i64 (col t 1), .int .i64 (col t 2), .int .i64 (col t 3), .int .i64 (col t 4)], .bool false, .int .i64 6]) (by simp [results, Try.results48, go_sem, s0, s1, s2, s3, s4]; try rfl) rfl ?_
            obtain ⟨hI9, hX9, hT9⟩ := HF9.out
            obtain ⟨f0, hF, hc3⟩ := HX3.out
            obtain ⟨hs, hf, hfit, hfs, h5, hac, hlt, hkk, hlive, hhas⟩ := HH.out
            have ha := HR.out.acts
            have hm := HR.out.m
            have hfa := hF.acts
            have hcal := HR.out.calm
            rw [hcal.size] at hI9 hX9
            refine ⟨turn_fresh2 hT9 (fun q hq => hq.elim .inr .inl), D', hcal.trans hF.calm, .inr ⟨6, Lc.m, by rw [icells_col h5], by have h2 : D'.acts = D.acts := hfa; omega, hm, HLC.out, .inr ⟨rfl, fun hf1 => ?_, hI9, X', hX9, hc3⟩⟩⟩
            have h1 := hcal.fault hf1
            have h2 : D.fault = 0 := f0
            omega
        · have HD := Lib.hid (show Lc.due k = true by rw [HDU.out]; simp [hlt0])
          go_wp2_with fail
          refine HM.out.mono ?_
          rintro e w3 ⟨ht3, hh⟩
          have hlt3 := HR.out.turn.size
          have hEJ := HEJ.out
          have hTB3 := HR.out.wk.blk ht3 HR.out.tup (by decide) (by decide) (by decide) (by decide) (by decide) (fun hq => by have := hEJ _ hq; omega)
          have hRB3 := HR.out.wk.blk ht3 HR.out.res (by decide) (by decide) (by decide) (by decide) (by decide) (fun hq => by have := hEJ _ hq; omega)
          have hTT3 := HR.out.turn.trans (ht3.mono (fun q hq => .inl hq))
          have HTB3 := Lib.hid hTB3
          have HRB3 := Lib.hid hRB3
          have HTT3 := Lib.hid hTT3
          have HSZ := Lib.hid ht3.size
          unfold zero5 at HRB3
          clear hlt3 hEJ hTB3 hRB3 hTT3 ht3 c1 c6 c7 HM
          rcases hh with ⟨X', D', rfl, hC, hA, hI3, hL3⟩ | ⟨X', D', f0, rfl, hF, hI3, hX3, hc3⟩
          · cases hbd : Lc.bad l with
            | false =>
              rw [if_neg (by decide : ¬ (false = true))]
              have HST := Lib.hid (show LookLoop w O K W lb xb b d key val dst first wN l (L.key k) L.m k #[.int .i64 (col t 0), .int .i64 (col t 1), .int .i64 (col t 2), .int .i64 (col t 3), .int .i64 (col t 4)] (Lc.step l) X' D' w3 from ⟨by rw [← sought_step HD.out hbd]; exact HR.out.same, by have := HR.out.m; have := step_m l Lc; omega, by have := HR.out.acts; have h2 : D'.acts + Lc.m ≤ D.acts + (Lc.step l).m := hA; omega, HR.out.calm.trans hC, hI3, hL3, HTB3.out, HRB3.out, HTT3.out⟩)
              clear hC hA hI3 hL3 hbd
              go_wp2_with fail
              go_roundw
              case rel => exact ⟨_, _, _, HST.out⟩
              case measure => exact (by have h1 := todo_of HR.out.lk; have h2 := todo_of HST.out.lk; have h3 := todo_step (lb := l) HD.out; omega)
            | true =>
              rw [if_pos (rfl : true = true)]
              have y0 : w3.cell? ⟨w.heap.size, 0, none⟩ = some (.int .i64 (col t 0)) := HTB3.out.cell 0
              have y1 : w3.cell? ⟨w.heap.size, 1, none⟩ = some (.int .i64 (col t 1)) := HTB3.out.cell 1
              have y2 : w3.cell? ⟨w.heap.size, 2, none⟩ = some (.int .i64 (col t 2)) := HTB3.out.cell 2
              have y3 : w3.cell? ⟨w.heap.size, 3, none⟩ = some (.int .i64 (col t 3)) := HTB3.out.cell 3
              have y4 : w3.cell? ⟨w.heap.size, 4, none⟩ = some (.int .i64 (col t 4)) := HTB3.out.cell 4
              have z0 : w3.cell? ⟨w.heap.size + 1, 0, none⟩ = some (.int .i64 0) := HRB3.out.cell 0
              have z1 : w3.cell? ⟨w.heap.size + 1, 1, none⟩ = some (.int .i64 0) := HRB3.out.cell 1
              have z2 : w3.cell? ⟨w.heap.size + 1, 2, none⟩ = some (.int .i64 0) := HRB3.out.cell 2
              have z3 : w3.cell? ⟨w.heap.size + 1, 3, none⟩ = some (.int .i64 0) := HRB3.out.cell 3
              have z4 : w3.cell? ⟨w.heap.size + 1, 4, none⟩ = some (.int .i64 0) := HRB3.out.cell 4
              have g0 := HRB3.out.frozen 0
              have g1 := HRB3.out.frozen 1
              have g2 := HRB3.out.frozen 2
              have g3 := HRB3.out.frozen 3
              have g4 := HRB3.out.frozen 4
              obtain ⟨hI9, hR9, hT9⟩ := five_store hI3 HRB3.out (.int .i64 (col t 0)) (.int .i64 (col t 1)) (.int .i64 (col t 2)) (.int .i64 (col t 3)) (.int .i64 (col t 4))
              have hL9 := hL3.stay (O' := O) (W' := { W with D := D' }) hI3 hT9 (fun q hq e => by have := HEJ.out q hq; omega) (fun _ _ h => h) rfl (fun _ _ => rfl) (fun _ h _ => h)
              have HF9 := Lib.hid (And.intro hI9 (And.intro hL9 (HTT3.out.trans (hT9.mono (fun q e => .inr (by rw [e]; omega))))))
              have HX3 := Lib.hid (And.intro hC (And.intro hA hbd))
              clear hL3 hL9 hC hA hbd
              have HR9 := Lib.hid hR9
              unfold five at HR9 HF9
              clear hI9 hR9 hT9 hI3
              go_wp2_with fail
              generalize (((((w3.setCell ⟨w.heap.size + 1, 0, none⟩ (.int .i64 (col t 0))).setCell ⟨w.heap.size + 1, 1, none⟩ (.int .i64 (col t 1))).setCell ⟨w.heap.size + 1, 2, none⟩ (.int .i64 (col t 2))).setCell ⟨w.heap.size + 1, 3, none⟩ (.int .i64 (col t 3))).setCell ⟨w.heap.size + 1, 4, none⟩ (.int .i64 (col t 4))) = w9 at *
              have s0 : w9.cell? ⟨w.heap.size + 1, 0, none⟩ = some (.int .i64 (col t 0)) := HR9.out.cell 0
              have s1 : w9.cell? ⟨w.heap.size + 1, 1, none⟩ = some (.int .i64 (col t 1)) := HR9.out.cell 1
              have s2 : w9.cell? ⟨w.heap.size + 1, 2, none⟩ = some (.int .i64 (col t 2)) := HR9.out.cell 2
              have s3 : w9.cell? ⟨w.heap.size + 1, 3, none⟩ = some (.int .i64 (col t 3)) := HR9.out.cell 3
              have s4 : w9.cell? ⟨w.heap.size + 1, 4, none⟩ = some (.int .i64 (col t 4)) := HR9.out.cell 4
              refine bodyPost_ret (v := .tuple #[.agg #[.int .i64 (col t 0), .int .i64 (col t 1), .int .i64 (col t 2), .int .i64 (col t 3), .int .i64 (col t 4)], .bool false, .int .i64 3]) (by simp [results, Try.results48, go_sem, s0, s1, s2, s3, s4]; try rfl) rfl ?_
              obtain ⟨hI9, hL9, hT9⟩ := HF9.out
              obtain ⟨hC, hA, hbd⟩ := HX3.out
              obtain ⟨hs, hf, hfit, hfs, h5, hac, hlt, hkk, hlive, hhas⟩ := HH.out
              have hl9 := hL9.has.low
              have hm9 := hL9.live.2.1
              have ha := HR.out.acts
              have hm := HR.out.m
              have hsm := step_m l Lc
              refine ⟨turn_fresh2 hT9 (fun q hq => hq.elim .inr .inl), D', HR.out.calm.trans hC, .inr ⟨3, (Lc.step l).m, by rw [icells_col h5], by have h2 : D'.acts + Lc.m ≤ D.acts + (Lc.step l).m := hA; omega, by omega, by omega, .inl ⟨rfl, ?_, hI9, _, X', hL9⟩⟩⟩
              have hso := HR.out.same
              rw [sought_bad HD.out hbd, hkk] at hso
              unfold looked
              have hg := HGD.out
              rw [HLA.out.1, HLA.out.2, hkk] at hg
              rw [if_neg (by rw [← hg]; decide)]
              show (if (sought l (L.key (col t key)) (col t key)).2 = true then _ else _ : Lk × Tup × Bool).2.2 = false
              rw [← hso]
              rfl
          · skip
            have y0 : w3.cell? ⟨w.heap.size, 0, none⟩ = some (.int .i64 (col t 0)) := HTB3.out.cell 0
            have y1 : w3.cell? ⟨w.heap.size, 1, none⟩ = some (.int .i64 (col t 1)) := HTB3.out.cell 1
            have y2 : w3.cell? ⟨w.heap.size, 2, none⟩ = some (.int .i64 (col t 2)) := HTB3.out.cell 2
            have y3 : w3.cell? ⟨w.heap.size, 3, none⟩ = some (.int .i64 (col t 3)) := HTB3.out.cell 3
            have y4 : w3.cell? ⟨w.heap.size, 4, none⟩ = some (.int .i64 (col t 4)) := HTB3.out.cell 4
            have z0 : w3.cell? ⟨w.heap.size + 1, 0, none⟩ = some (.int .i64 0) := HRB3.out.cell 0
            have z1 : w3.cell? ⟨w.heap.size + 1, 1, none⟩ = some (.int .i64 0) := HRB3.out.cell 1
            have z2 : w3.cell? ⟨w.heap.size + 1, 2, none⟩ = some (.int .i64 0) := HRB3.out.cell 2
            have z3 : w3.cell? ⟨w.heap.size + 1, 3, none⟩ = some (.int .i64 0) := HRB3.out.cell 3
            have z4 : w3.cell? ⟨w.heap.size + 1, 4, none⟩ = some (.int .i64 0) := HRB3.out.cell 4
            have g0 := HRB3.out.frozen 0
            have g1 := HRB3.out.frozen 1
            have g2 := HRB3.out.frozen 2
            have g3 := HRB3.out.frozen 3
            have g4 := HRB3.out.frozen 4
            obtain ⟨hI9, hR9, hT9⟩ := five_store hI3 HRB3.out (.int .i64 (col t 0)) (.int .i64 (col t 1)) (.int .i64 (col t 2)) (.int .i64 (col t 3)) (.int .i64 (col t 4))
            have hX9 := hX3.turn' (O' := O) (W' := { W with D := D', A := W.A.release b D.size }) hI3 hT9 (fun e => by have := HEJ.out xb (.inr (.inl rfl)); omega) (fun h => by rw [hc3] at h; cases h) (fun h => by rw [hc3] at h; cases h) (fun _ _ h => h) rfl (fun _ h _ => h)
            have HF9 := Lib.hid (And.intro hI9 (And.intro hX9 (HTT3.out.trans (hT9.mono (fun q e => .inr (by rw [e]; omega))))))
            have HX3 := Lib.hid (And.intro f0 (And.intro hF hc3))
            clear hX3 hX9 hF hc3 f0
            have HR9 := Lib.hid hR9
            unfold five at HR9 HF9
            clear hI9 hR9 hT9 hI3
            go_wp2_with fail
            generalize (((((w3.setCell ⟨w.heap.size + 1, 0, none⟩ (.int .i64 (col t 0))).setCell ⟨w.heap.size + 1, 1, none⟩ (.int .i64 (col t 1))).setCell ⟨w.heap.size + 1, 2, none⟩ (.int .i64 (col t 2))).setCell ⟨w.heap.size + 1, 3, none⟩ (.int .i64 (col t 3))).setCell ⟨w.heap.size + 1, 4, none⟩ (.int .i64 (col t 4))) = w9 at *
            have s0 : w9.cell? ⟨w.heap.size + 1, 0, none⟩ = some (.int .i64 (col t 0)) := HR9.out.cell 0
            have s1 : w9.cell? ⟨w.heap.size + 1, 1, none⟩ = some (.int .i64 (col t 1)) := HR9.out.cell 1
            have s2 : w9.cell? ⟨w.heap.size + 1, 2, none⟩ = some (.int .i64 (col t 2)) := HR9.out.cell 2
            have s3 : w9.cell? ⟨w.heap.size + 1, 3, none⟩ = some (.int .i64 (col t 3)) := HR9.out.cell 3
            have s4 : w9.cell? ⟨w.heap.size + 1, 4, none⟩ = some (.int .i64 (col t 4)) := HR9.out.cell 4
            refine bodyPost_ret (v := .tuple #[.agg #[.int .i64 (col t 0), .int .i64 (col t 1), .int .i64 (col t 2), .int .i64 (col t 3), .int .i64 (col t 4)], .bool false, .int .i64 6]) (by simp [results, Try.results48, go_sem, s0, s1, s2, s3, s4]; try rfl) rfl ?_
            obtain ⟨hI9, hX9, hT9⟩ := HF9.out
            obtain ⟨f0, hF, hc3⟩ := HX3.out
            obtain ⟨hs, hf, hfit, hfs, h5, hac, hlt, hkk, hlive, hhas⟩ := HH.out
            have ha := HR.out.acts
            have hm := HR.out.m
            have hfa := hF.acts
            have hcal := HR.out.calm
            rw [hcal.size] at hI9 hX9
            refine ⟨turn_fresh2 hT9 (fun q hq => hq.elim .inr .inl), D', hcal.trans hF.calm, .inr ⟨6, Lc.m, by rw [icells_col h5], by have h2 : D'.acts = D.acts := hfa; omega, hm, HLC.out, .inr ⟨rfl, fun hf1 => ?_, hI9, X', hX9, hc3⟩⟩⟩
            have h1 := hcal.fault hf1
            have h2 : D.fault = 0 := f0
            omega
        · have HD := Lib.hid (show Lc.due k = false by rw [HDU.out]; rfl)
          have HFO := Lib.hid (show (found Lc val k).toInt = -1 by unfold found; rw [← HT0.out.2.2]; rfl)
          have HF0 := Lib.hid (And.intro HR.out.wk (And.intro HR.out.lk (And.intro HR.out.tup (And.intro (show Blk wr (w.heap.size + 1) 57 #[.int .i64 0, .int .i64 0, .int .i64 0, .int .i64 0, .int .i64 0] from HR.out.res) HR.out.turn))))
          clear HM
          go_upto_region 12 with (fail)
          clear c1 c6 c7
          obtain ⟨hI4, hL4, hTB4, hRB4, hTT4⟩ := HF0.out
          have c10 : wr.cell? ⟨lb, 10, none⟩ = some (.int .i64 (dst : Int)) := hL4.blk.cell 10
          have td : wr.cell? ⟨w.heap.size, dst, none⟩ = some (.int .i64 (col t dst)) := (hTB4.cell dst).trans (five_at t dst HDST.out)
          have tf := hTB4.frozen dst
          obtain ⟨hI5, hTB5, hT5⟩ := aside_store hI4 hTB4 dst (.int .i64 (-1)) (by decide)
          have hL5 := hL4.stay (O' := O) (W' := { W with D := D }) hI4 hT5 (fun q hq e => by have := HEJ.out q hq; omega) (fun _ _ h => h) rfl (fun _ _ => rfl) (fun _ h _ => h)
          have hRB5 := hI4.blk hT5 hRB4 (by decide) (by decide) (by decide) (by decide) (by decide) (fun e => by omega)
          obtain ⟨u, hu⟩ : ∃ u, u = t.set dst (found Lc val k) := ⟨_, rfl⟩
          have hul : u.length = 5 := by rw [hu, List.length_set]; exact HLEN.out
          rw [five_set t dst HLEN.out HDST.out HFO.out, ← hu, icells_col hul] at hTB5
          have HU := Lib.hid (And.intro hu hul)
          have HF5 := Lib.hid (And.intro hI5 (And.intro hL5 (And.intro hTB5 (And.intro hRB5 (hTT4.trans (hT5.mono (fun q e => .inr (by rw [e]; omega))))))))
          clear hI4 hL4 hTB4 hRB4 hTT4 hI5 hTB5 hT5 hL5 hRB5 hu hul
          go_upto_region 13 with (fail)
          generalize wr.setCell ⟨w.heap.size, dst, none⟩ (.int .i64 (-1)) = w5 at *
          clear c10 td tf
          obtain ⟨hI5, hL5, hTB5, hRB5, hTT5⟩ := HF5.out
          have y0 : w5.cell? ⟨w.heap.size, 0, none⟩ = some (.int .i64 (col u 0)) := hTB5.cell 0
          have y1 : w5.cell? ⟨w.heap.size, 1, none⟩ = some (.int .i64 (col u 1)) := hTB5.cell 1
          have y2 : w5.cell? ⟨w.heap.size, 2, none⟩ = some (.int .i64 (col u 2)) := hTB5.cell 2
          have y3 : w5.cell? ⟨w.heap.size, 3, none⟩ = some (.int .i64 (col u 3)) := hTB5.cell 3
          have y4 : w5.cell? ⟨w.heap.size, 4, none⟩ = some (.int .i64 (col u 4)) := hTB5.cell 4
          have z0 : w5.cell? ⟨w.heap.size + 1, 0, none⟩ = some (.int .i64 0) := hRB5.cell 0
          have z1 : w5.cell? ⟨w.heap.size + 1, 1, none⟩ = some (.int .i64 0) := hRB5.cell 1
          have z2 : w5.cell? ⟨w.heap.size + 1, 2, none⟩ = some (.int .i64 0) := hRB5.cell 2
          have z3 : w5.cell? ⟨w.heap.size + 1, 3, none⟩ = some (.int .i64 0) := hRB5.cell 3
          have z4 : w5.cell? ⟨w.heap.size + 1, 4, none⟩ = some (.int .i64 0) := hRB5.cell 4
          have g0 := hRB5.frozen 0
          have g1 := hRB5.frozen 1
          have g2 := hRB5.frozen 2
          have g3 := hRB5.frozen 3
          have g4 := hRB5.frozen 4
          obtain ⟨hI9, hR9, hT9⟩ := five_store hI5 hRB5 (.int .i64 (col u 0)) (.int .i64 (col u 1)) (.int .i64 (col u 2)) (.int .i64 (col u 3)) (.int .i64 (col u 4))
          have hL9 := hL5.stay (O' := O) (W' := { W with D := D }) hI5 hT9 (fun q hq e => by have := HEJ.out q hq; omega) (fun _ _ h => h) rfl (fun _ _ => rfl) (fun _ h _ => h)
          have HR9 := Lib.hid hR9
          have HF9 := Lib.hid (And.intro hI9 (And.intro hL9 (hTT5.trans (hT9.mono (fun q e => .inr (by rw [e]; omega))))))
          unfold five at HR9 HF9
          clear hI5 hL5 hTB5 hRB5 hTT5 hI9 hR9 hT9 hL9 HF5
          go_wp2_with fail
          generalize (((((w5.setCell ⟨w.heap.size + 1, 0, none⟩ (.int .i64 (col u 0))).setCell ⟨w.heap.size + 1, 1, none⟩ (.int .i64 (col u 1))).setCell ⟨w.heap.size + 1, 2, none⟩ (.int .i64 (col u 2))).setCell ⟨w.heap.size + 1, 3, none⟩ (.int .i64 (col u 3))).setCell ⟨w.heap.size + 1, 4, none⟩ (.int .i64 (col u 4))) = w9 at *
          have s0 : w9.cell? ⟨w.heap.size + 1, 0, none⟩ = some (.int .i64 (col u 0)) := HR9.out.cell 0
          have s1 : w9.cell? ⟨w.heap.size + 1, 1, none⟩ = some (.int .i64 (col u 1)) := HR9.out.cell 1
          have s2 : w9.cell? ⟨w.heap.size + 1, 2, none⟩ = some (.int .i64 (col u 2)) := HR9.out.cell 2
          have s3 : w9.cell? ⟨w.heap.size + 1, 3, none⟩ = some (.int .i64 (col u 3)) := HR9.out.cell 3
          have s4 : w9.cell? ⟨w.heap.size + 1, 4, none⟩ = some (.int .i64 (col u 4)) := HR9.out.cell 4
          refine bodyPost_ret (v := .tuple #[.agg #[.int .i64 (col u 0), .int .i64 (col u 1), .int .i64 (col u 2), .int .i64 (col u 3), .int .i64 (col u 4)], .bool true, .int .i64 0]) (by simp [results, Try.results48, go_sem, s0, s1, s2, s3, s4]; try rfl) rfl ?_
          obtain ⟨hI9, hL9, hT9⟩ := HF9.out
          obtain ⟨hs, hf, hfit, hfs, h5, hac, hlt, hkk, hlive, hhas⟩ := HH.out
          have hlk : looked l key val dst L t = (Lc, u, true) := by
            have hso := HR.out.same
            rw [sought_done HD.out] at hso
            have hg := HGD.out
            rw [HLA.out.1, HLA.out.2, hkk] at hg
            unfold looked
            rw [if_neg (by rw [← hg]; decide)]
            rw [hkk] at hso
            show (if (sought l (L.key (col t key)) (col t key)).2 = true then _ else _ : Lk × Tup × Bool) = _
            rw [← hso, HU.out.1, hkk]
            rfl
          refine ⟨turn_fresh2 hT9 (fun q hq => hq.elim .inr .inl), D, HR.out.calm, .inl ⟨Xc, ?_, ?_, ?_, hI9, ?_⟩⟩
          · rw [hlk]
          · rw [hlk]; show _ = Ending.returned (.tuple #[.agg (icells u).toArray, .bool true, .int .i64 0]); rw [icells_col HU.out.2]
          · rw [hlk]; exact HR.out.acts
          · rw [hlk]; exact hL9
        · have HD := Lib.hid (show Lc.due k = false by rw [HDU.out]; simp; omega)
          clear HM
          by_cases heq : t0 = k
          · have heqb : (t0 == k) = true := by simpa using heq
            obtain ⟨xv, hxv⟩ : ∃ xv, xv = col Lc.t val := ⟨_, rfl⟩
            have HFO := Lib.hid (show (found Lc val k).toInt = xv by unfold found; rw [← HT0.out.2.2, ← HT0.out.1, if_pos (by simpa using heq), hxv]; rfl)
            have c5 : wr.cell? ⟨lb, 9, none⟩ = some (.int .i64 (val : Int)) := HR.out.lk.blk.cell 9
            have cv : wr.cell? ⟨lb, 1 + val, none⟩ = some (.int .i64 xv) := by rw [hxv, HR.out.lk.blk.cell]; exact lcells_at xb key val dst Lc val HVAL.out
            clear hxv heq
            skip
            go_upto_region 11 with (fail)
            go_quiet (fail)
            have hbq : Below wr.heap.size wr (wr.drewN nq) := ⟨rfl, rfl, rfl, Nat.le_refl _, fun _ _ => rfl⟩
            have HF0 := Lib.hid (And.intro (HR.out.wk.below hbq) (And.intro (HR.out.lk.below HR.out.wk hbq) (And.intro (HR.out.tup.below hbq HR.out.tup.lt) (And.intro (show Blk (wr.drewN nq) (w.heap.size + 1) 57 #[.int .i64 0, .int .i64 0, .int .i64 0, .int .i64 0, .int .i64 0] from HR.out.res) (HR.out.turn.trans (Turn.below hbq))))))
            clear hbq c1 c6 c7 c5 cv
            generalize wr.drewN nq = w4 at *
            obtain ⟨hI4, hL4, hTB4, hRB4, hTT4⟩ := HF0.out
            have c10 : w4.cell? ⟨lb, 10, none⟩ = some (.int .i64 (dst : Int)) := hL4.blk.cell 10
            have td : w4.cell? ⟨w.heap.size, dst, none⟩ = some (.int .i64 (col t dst)) := (hTB4.cell dst).trans (five_at t dst HDST.out)
            have tf := hTB4.frozen dst
            obtain ⟨hI5, hTB5, hT5⟩ := aside_store hI4 hTB4 dst (.int .i64 xv) (by decide)
            have hL5 := hL4.stay (O' := O) (W' := { W with D := D }) hI4 hT5 (fun q hq e => by have := HEJ.out q hq; omega) (fun _ _ h => h) rfl (fun _ _ => rfl) (fun _ h _ => h)
            have hRB5 := hI4.blk hT5 hRB4 (by decide) (by decide) (by decide) (by decide) (by decide) (fun e => by omega)
            obtain ⟨u, hu⟩ : ∃ u, u = t.set dst (found Lc val k) := ⟨_, rfl⟩
            have hul : u.length = 5 := by rw [hu, List.length_set]; exact HLEN.out
            rw [five_set t dst HLEN.out HDST.out HFO.out, ← hu, icells_col hul] at hTB5
            have HU := Lib.hid (And.intro hu hul)
            have HF5 := Lib.hid (And.intro hI5 (And.intro hL5 (And.intro hTB5 (And.intro hRB5 (hTT4.trans (hT5.mono (fun q e => .inr (by rw [e]; omega))))))))
            clear hI4 hL4 hTB4 hRB4 hTT4 hI5 hTB5 hT5 hL5 hRB5 hu hul
            go_upto_region 13 with (fail)
            generalize w4.setCell ⟨w.heap.size, dst, none⟩ (.int .i64 xv) = w5 at *
            clear c10 td tf
            obtain ⟨hI5, hL5, hTB5, hRB5, hTT5⟩ := HF5.out
            have y0 : w5.cell? ⟨w.heap.size, 0, none⟩ = some (.int .i64 (col u 0)) := hTB5.cell 0
            have y1 : w5.cell? ⟨w.heap.size, 1, none⟩ = some (.int .i64 (col u 1)) := hTB5.cell 1
            have y2 : w5.cell? ⟨w.heap.size, 2, none⟩ = some (.int .i64 (col u 2)) := hTB5.cell 2
            have y3 : w5.cell? ⟨w.heap.size, 3, none⟩ = some (.int .i64 (col u 3)) := hTB5.cell 3
            have y4 : w5.cell? ⟨w.heap.size, 4, none⟩ = some (.int .i64 (col u 4)) := hTB5.cell 4
            have z0 : w5.cell? ⟨w.heap.size + 1, 0, none⟩ = some (.int .i64 0) := hRB5.cell 0
            have z1 : w5.cell? ⟨w.heap.size + 1, 1, none⟩ = some (.int .i64 0) := hRB5.cell 1
            have z2 : w5.cell? ⟨w.heap.size + 1, 2, none⟩ = some (.int .i64 0) := hRB5.cell 2
            have z3 : w5.cell? ⟨w.heap.size + 1, 3, none⟩ = some (.int .i64 0) := hRB5.cell 3
            have z4 : w5.cell? ⟨w.heap.size + 1, 4, none⟩ = some (.int .i64 0) := hRB5.cell 4
            have g0 := hRB5.frozen 0
            have g1 := hRB5.frozen 1
            have g2 := hRB5.frozen 2
            have g3 := hRB5.frozen 3
            have g4 := hRB5.frozen 4
            obtain ⟨hI9, hR9, hT9⟩ := five_store hI5 hRB5 (.int .i64 (col u 0)) (.int .i64 (col u 1)) (.int .i64 (col u 2)) (.int .i64 (col u 3)) (.int .i64 (col u 4))
            have hL9 := hL5.stay (O' := O) (W' := { W with D := D }) hI5 hT9 (fun q hq e => by have := HEJ.out q hq; omega) (fun _ _ h => h) rfl (fun _ _ => rfl) (fun _ h _ => h)
            have HR9 := Lib.hid hR9
            have HF9 := Lib.hid (And.intro hI9 (And.intro hL9 (hTT5.trans (hT9.mono (fun q e => .inr (by rw [e]; omega))))))
            unfold five at HR9 HF9
            clear hI5 hL5 hTB5 hRB5 hTT5 hI9 hR9 hT9 hL9 HF5
            go_wp2_with fail
            generalize (((((w5.setCell ⟨w.heap.size + 1, 0, none⟩ (.int .i64 (col u 0))).setCell ⟨w.heap.size + 1, 1, none⟩ (.int .i64 (col u 1))).setCell ⟨w.heap.size + 1, 2, none⟩ (.int .i64 (col u 2))).setCell ⟨w.heap.size + 1, 3, none⟩ (.int .i64 (col u 3))).setCell ⟨w.heap.size + 1, 4, none⟩ (.int .i64 (col u 4))) = w9 at *
            have s0 : w9.cell? ⟨w.heap.size + 1, 0, none⟩ = some (.int .i64 (col u 0)) := HR9.out.cell 0
            have s1 : w9.cell? ⟨w.heap.size + 1, 1, none⟩ = some (.int .i64 (col u 1)) := HR9.out.cell 1
            have s2 : w9.cell? ⟨w.heap.size + 1, 2, none⟩ = some (.int .i64 (col u 2)) := HR9.out.cell 2
            have s3 : w9.cell? ⟨w.heap.size + 1, 3, none⟩ = some (.int .i64 (col u 3)) := HR9.out.cell 3
            have s4 : w9.cell? ⟨w.heap.size + 1, 4, none⟩ = some (.int .i64 (col u 4)) := HR9.out.cell 4
            refine bodyPost_ret (v := .tuple #[.agg #[.int .i64 (col u 0), .int .i64 (col u 1), .int .i64 (col u 2), .int .i64 (col u 3), .int .i64 (col u 4)], .bool true, .int .i64 0]) (by simp [results, Try.results48, go_sem, s0, s1, s2, s3, s4]; try rfl) rfl ?_
            obtain ⟨hI9, hL9, hT9⟩ := HF9.out
            obtain ⟨hs, hf, hfit, hfs, h5, hac, hlt, hkk, hlive, hhas⟩ := HH.out
            have hlk : looked l key val dst L t = (Lc, u, true) := by
              have hso := HR.out.same
              rw [sought_done HD.out] at hso
              have hg := HGD.out
              rw [HLA.out.1, HLA.out.2, hkk] at hg
              unfold looked
              rw [if_neg (by rw [← hg]; decide)]
              rw [hkk] at hso
              show (if (sought l (L.key (col t key)) (col t key)).2 = true then _ else _ : Lk × Tup × Bool) = _
              rw [← hso, HU.out.1, hkk]
              rfl
            refine ⟨turn_fresh2 hT9 (fun q hq => hq.elim .inr .inl), D, HR.out.calm, .inl ⟨Xc, ?_, ?_, ?_, hI9, ?_⟩⟩
            · rw [hlk]
            · rw [hlk]; show _ = Ending.returned (.tuple #[.agg (icells u).toArray, .bool true, .int .i64 0]); rw [icells_col HU.out.2]
            · rw [hlk]; exact HR.out.acts
            · rw [hlk]; exact hL9
          · have heqb : (t0 == k) = false := by simpa using heq
            have HFO := Lib.hid (show (found Lc val k).toInt = -1 by unfold found; rw [← HT0.out.2.2, ← HT0.out.1, if_neg (by simpa using heq)]; rfl)
            have HF0 := Lib.hid (And.intro HR.out.wk (And.intro HR.out.lk (And.intro HR.out.tup (And.intro (show Blk wr (w.heap.size + 1) 57 #[.int .i64 0, .int .i64 0, .int .i64 0, .int .i64 0, .int .i64 0] from HR.out.res) HR.out.turn))))
            go_upto_region 12 with (fail)
            clear c1 c6 c7
            obtain ⟨hI4, hL4, hTB4, hRB4, hTT4⟩ := HF0.out
            have c10 : wr.cell? ⟨lb, 10, none⟩ = some (.int .i64 (dst : Int)) := hL4.blk.cell 10
            have td : wr.cell? ⟨w.heap.size, dst, none⟩ = some (.int .i64 (col t dst)) := (hTB4.cell dst).trans (five_at t dst HDST.out)
            have tf := hTB4.frozen dst
            obtain ⟨hI5, hTB5, hT5⟩ := aside_store hI4 hTB4 dst (.int .i64 (-1)) (by decide)
            have hL5 := hL4.stay (O' := O) (W' := { W with D := D }) hI4 hT5 (fun q hq e => by have := HEJ.out q hq; omega) (fun _ _ h => h) rfl (fun _ _ => rfl) (fun _ h _ => h)
            have hRB5 := hI4.blk hT5 hRB4 (by decide) (by decide) (by decide) (by decide) (by decide) (fun e => by omega)
            obtain ⟨u, hu⟩ : ∃ u, u = t.set dst (found Lc val k) := ⟨_, rfl⟩
            have hul : u.length = 5 := by rw [hu, List.length_set]; exact HLEN.out
            rw [five_set t dst HLEN.out HDST.out HFO.out, ← hu, icells_col hul] at hTB5
            have HU := Lib.hid (And.intro hu hul)
            have HF5 := Lib.hid (And.intro hI5 (And.intro hL5 (And.intro hTB5 (And.intro hRB5 (hTT4.trans (hT5.mono (fun q e => .inr (by rw [e]; omega))))))))
            clear hI4 hL4 hTB4 hRB4 hTT4 hI5 hTB5 hT5 hL5 hRB5 hu hul
            go_upto_region 13 with (fail)
            generalize wr.setCell ⟨w.heap.size, dst, none⟩ (.int .i64 (-1)) = w5 at *
            clear c10 td tf
            obtain ⟨hI5, hL5, hTB5, hRB5, hTT5⟩ := HF5.out
            have y0 : w5.cell? ⟨w.heap.size, 0, none⟩ = some (.int .i64 (col u 0)) := hTB5.cell 0
            have y1 : w5.cell? ⟨w.heap.size, 1, none⟩ = some (.int .i64 (col u 1)) := hTB5.cell 1
            have y2 : w5.cell? ⟨w.heap.size, 2, none⟩ = some (.int .i64 (col u 2)) := hTB5.cell 2
            have y3 : w5.cell? ⟨w.heap.size, 3, none⟩ = some (.int .i64 (col u 3)) := hTB5.cell 3
            have y4 : w5.cell? ⟨w.heap.size, 4, none⟩ = some (.int .i64 (col u 4)) := hTB5.cell 4
            have z0 : w5.cell? ⟨w.heap.size + 1, 0, none⟩ = some (.int .i64 0) := hRB5.cell 0
            have z1 : w5.cell? ⟨w.heap.size + 1, 1, none⟩ = some (.int .i64 0) := hRB5.cell 1
            have z2 : w5.cell? ⟨w.heap.size + 1, 2, none⟩ = some (.int .i64 0) := hRB5.cell 2
            have z3 : w5.cell? ⟨w.heap.size + 1, 3, none⟩ = some (.int .i64 0) := hRB5.cell 3
            have z4 : w5.cell? ⟨w.heap.size + 1, 4, none⟩ = some (.int .i64 0) := hRB5.cell 4
            have g0 := hRB5.frozen 0
            have g1 := hRB5.frozen 1
            have g2 := hRB5.frozen 2
            have g3 := hRB5.frozen 3
            have g4 := hRB5.frozen 4
            obtain ⟨hI9, hR9, hT9⟩ := five_store hI5 hRB5 (.int .i64 (col u 0)) (.int .i64 (col u 1)) (.int .i64 (col u 2)) (.int .i64 (col u 3)) (.int .i64 (col u 4))
            have hL9 := hL5.stay (O' := O) (W' := { W with D := D }) hI5 hT9 (fun q hq e => by have := HEJ.out q hq; omega) (fun _ _ h => h) rfl (fun _ _ => rfl) (fun _ h _ => h)
            have HR9 := Lib.hid hR9
            have HF9 := Lib.hid (And.intro hI9 (And.intro hL9 (hTT5.trans (hT9.mono (fun q e => .inr (by rw [e]; omega))))))
            unfold five at HR9 HF9
            clear hI5 hL5 hTB5 hRB5 hTT5 hI9 hR9 hT9 hL9 HF5
            go_wp2_with fail
            generalize (((((w5.setCell ⟨w.heap.size + 1, 0, none⟩ (.int .i64 (col u 0))).setCell ⟨w.heap.size + 1, 1, none⟩ (.int .i64 (col u 1))).setCell ⟨w.heap.size + 1, 2, none⟩ (.int .i64 (col u 2))).setCell ⟨w.heap.size + 1, 3, none⟩ (.int .i64 (col u 3))).setCell ⟨w.heap.size + 1, 4, none⟩ (.int .i64 (col u 4))) = w9 at *
            have s0 : w9.cell? ⟨w.heap.size + 1, 0, none⟩ = some (.int .i64 (col u 0)) := HR9.out.cell 0
            have s1 : w9.cell? ⟨w.heap.size + 1, 1, none⟩ = some (.int .i64 (col u 1)) := HR9.out.cell 1
            have s2 : w9.cell? ⟨w.heap.size + 1, 2, none⟩ = some (.int .i64 (col u 2)) := HR9.out.cell 2
            have s3 : w9.cell? ⟨w.heap.size + 1, 3, none⟩ = some (.int .i64 (col u 3)) := HR9.out.cell 3
            have s4 : w9.cell? ⟨w.heap.size + 1, 4, none⟩ = some (.int .i64 (col u 4)) := HR9.out.cell 4
            refine bodyPost_ret (v := .tuple #[.agg #[.int .i64 (col u 0), .int .i64 (col u 1), .int .i64 (col u 2), .int .i64 (col u 3), .int .i64 (col u 4)], .bool true, .int .i64 0]) (by simp [results, Try.results48, go_sem, s0, s1, s2, s3, s4]; try rfl) rfl ?_
            obtain ⟨hI9, hL9, hT9⟩ := HF9.out
            obtain ⟨hs, hf, hfit, hfs, h5, hac, hlt, hkk, hlive, hhas⟩ := HH.out
            have hlk : looked l key val dst L t = (Lc, u, true) := by
              have hso := HR.out.same
              rw [sought_done HD.out] at hso
              have hg := HGD.out
              rw [HLA.out.1, HLA.out.2, hkk] at hg
              unfold looked
              rw [if_neg (by rw [← hg]; decide)]
              rw [hkk] at hso
              show (if (sought l (L.key (col t key)) (col t key)).2 = true then _ else _ : Lk × Tup × Bool) = _
              rw [← hso, HU.out.1, hkk]
              rfl
            refine ⟨turn_fresh2 hT9 (fun q hq => hq.elim .inr .inl), D, HR.out.calm, .inl ⟨Xc, ?_, ?_, ?_, hI9, ?_⟩⟩
            · rw [hlk]
            · rw [hlk]; show _ = Ending.returned (.tuple #[.agg (icells u).toArray, .bool true, .int .i64 0]); rw [icells_col HU.out.2]
            · rw [hlk]; exact HR.out.acts
            · rw [hlk]; exact hL9
end

end Go.Proofs.Ytlbaigkpojkfjaa.Fl
