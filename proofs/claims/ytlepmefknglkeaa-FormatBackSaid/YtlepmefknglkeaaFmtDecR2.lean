/- The walk of the reference's Decode: the rows (under way). -/
import Derived.Test.YtlepmefknglkeaaFmtDecR
set_option linter.unusedVariables false
namespace Go.Proofs.Ytlepmefknglkeaa.Gr
open Go.RowKit Var

theorem own_edges' {w : World} {base n : Nat} {v : Value} {l : List E2} (h : w.ownsRow base 36 2 v n (flatE l)) :
    ∃ av cv, v = .slice av n cv ∧ ERow w av l ∧ l.length = n ∧ (∀ x, av = some x → base ≤ x.block) := by
  have hl : l.length = n := by have := h.1; rw [flatE_length] at this; omega
  rcases h.2 with ⟨rfl, h0⟩ | ⟨g, cap, cur, rfl, hb, _⟩
  · subst h0
    exact ⟨none, 0, rfl, fun i hi => by omega, hl, fun x hx => by cases hx⟩
  · exact ⟨_, cap, rfl, (EBlk.of_own h).1.row, hl, fun x hx => by injection hx with hx; subst hx; exact hb⟩

def RDecLoop (b : List Nat) (n m : Int) (N : Nat) (p2 : Int) (W : World) (g : Nat) (pv uv : Value) (wr : World) : Prop :=
  ∃ (u : Nat) (es : List E2) (p : Int) (v : Value), uv = .int .i64 (u : Int) ∧ pv = .int .i64 p ∧ u ≤ N ∧ Blk wr g 24 #[.int .i64 n, v] ∧ wr.ownsRow W.heap.size 36 2 v es.length (flatE es) ∧ Chg (fun j => j = g) W wr ∧
    decRows b n m N 0 [] p2 = decRows b n m (N - u) u es p ∧ (es.length : Int) ≤ m

/-- What the rest of the bytes is told as. -/
def decEnd (b : List Nat) (n : Int) (R : List E2 × Int × Bool) : Int × List E2 × Int × Int := if R.2.2 = true ∨ R.2.1 ≠ b.length then (0, [], R.2.1, 3) else (n, R.1, 0, 0)

theorem app_facts1 {n : Int} {W wr w2 : World} {q k : Nat} {v v2 : Value} {L M : List E2} {o2 : Obj} (hws : W.heap.size = q + 1) (hc : Chg (fun j => j = q) W wr) (hB : Blk wr q 24 #[.int .i64 n, v])
    (ho : wr.ownsRow W.heap.size 36 2 v k (flatE M)) (hown2 : w2.ownsRow (q + 1) 36 2 v2 (k + 1) (flatE L)) (hg2 : (wr.alloc o2).grownBy w2 v.ownBlock) :
    Blk w2 q 24 #[.int .i64 n, v] ∧ Blk (w2.setCell ⟨q, 1, none⟩ v2) q 24 #[.int .i64 n, v2] ∧
      (w2.setCell ⟨q, 1, none⟩ v2).ownsRow W.heap.size 36 2 v2 (k + 1) (flatE L) ∧ Chg (fun j => j = q) W (w2.setCell ⟨q, 1, none⟩ v2) := by
  have hc2 := ((Chg.refl (fun k => some k = v.ownBlock) wr).alloc o2).trans (Chg.of_grown hg2) (fun _ _ h => h)
  have hne : ¬ some q = v.ownBlock := fun e => by
    have := (ho.lt q e.symm).1
    omega
  have hB2 := hB.chg hc2 hne
  have hC2 : Chg (fun j => j = q) W w2 := hc.trans hc2 (fun k hk e => by
    have := (ho.lt k e.symm).1
    omega)
  refine ⟨hB2, by simpa using hB2.set_ 1 v2, ?_, hC2.setCell _ _ (fun _ => rfl)⟩
  rw [hws]
  exact own_chg hown2 ((Chg.refl (fun j => j = q) w2).setCell ⟨q, 1, none⟩ _ (fun _ => rfl)) (fun g hg e => by
    have := (hown2.lt g hg).1
    omega)

theorem dec_good {w wr : World} {r B m cv : Nat} {n : Int} {av : Option Addr} {es : List E2} {u v : Value} (hown : wr.ownsRow B 36 2 (.slice av m cv) m (flatE es)) (hrB : r < B) (h : Below w.heap.size w wr) (hr : w.heap.size ≤ r) :
    DecTold n es 0 0 w (.returned (.tuple #[.agg #[.int .i64 n, .slice av m cv], .int .i64 0, .int .i64 0])) ((wr.setCell ⟨r, 0, none⟩ u).setCell ⟨r, 1, none⟩ v) := by
  have hc : Chg (fun j => j = r) wr ((wr.setCell ⟨r, 0, none⟩ u).setCell ⟨r, 1, none⟩ v)  := ((Chg.refl (fun j => j = r) wr).setCell ⟨r, 0, none⟩ _ (fun _ => rfl)).setCell ⟨r, 1, none⟩ _ (fun _ => rfl)
  obtain ⟨a2, c2, e, h1, h2, -⟩ := own_edges' (own_chg hown hc (fun g hg e => by
    have := (hown.lt g hg).1
    omega))
  cases e
  exact ⟨_, _, _, rfl, h1, h2, (h.setCell hr _).setCell hr _⟩

def RRowIn (b : List Nat) (n u : Int) (cnt : Nat) (p0 : Int) (es : List E2) (W : World) (g : Nat) (pv vv iv : Value) (wr : World) : Prop :=
  ∃ (t : Nat) (e2 : List E2) (v p : Int) (vl : Value), iv = .int .i64 (t : Int) ∧ vv = .int .i64 v ∧ pv = .int .i64 p ∧ Blk wr g 24 #[.int .i64 n, vl] ∧
    wr.ownsRow W.heap.size 36 2 vl (es.length + t) (flatE (es ++ e2)) ∧ Chg (fun j => j = g) W wr ∧ RowAt b n u cnt p0 t e2 v p

set_option maxRecDepth 100000 in
set_option maxHeartbeats 2000000 in
theorem rdecode_rest (a : Option Addr) (n c : Nat) (b : List Nat) (w : World) (N M : Nat) (p1 p2 : Int) (hn : n < 1000000000) (hr : Row w a (byts b)) (hl : b.length = n) (h256 : ∀ x ∈ b, x < 256) (hb : b.head? = some 71)
    (hN : num b 1 1073741824 = ((N : Int), p1, false)) (hM : num b p1 (if N = 0 then 0 else 1073741824) = ((M : Int), p2, false)) :
    Calls Try.prog 35 #[.slice a n c] w (DecTold (decEnd b N (decRows b N M N 0 [] p2)).1 (decEnd b N (decRows b N M N 0 [] p2)).2.1 (decEnd b N (decRows b N M N 0 [] p2)).2.2.1 (decEnd b N (decRows b N M N 0 [] p2)).2.2.2 w) := by
  have h1 := below_new w (.cells #[.int .i64 0, .slice none 0 0] 24)
  have h2 := h1.trans ((below_new (w.alloc (.cells #[.int .i64 0, .slice none 0 0] 24)) (.cells #[.int .i64 0, .slice none 0 0] 24)).mono h1.size)
  have B1 := Lib.hid ((Blk.new w 24 #[.int .i64 0, .slice none 0 0]).alloc (.cells #[.int .i64 0, .slice none 0 0] 24))
  have B2 := Blk.new (w.alloc (.cells #[.int .i64 0, .slice none 0 0] 24)) 24 #[.int .i64 0, .slice none 0 0]
  rw [show (w.alloc (.cells #[.int .i64 0, .slice none 0 0] 24)).heap.size = w.heap.size + 1 by simp] at B2
  have HB2 := Lib.hid B2
  have H2 := Lib.hid h2
  have hNle := num_end b 1 1073741824 (by rw [hN])
  have hMle := num_end b p1 (if N = 0 then 0 else 1073741824) (by rw [hM])
  rw [hN] at hNle
  rw [hM] at hMle
  simp only at hNle hMle
  have HR := Lib.hid (hr.below h2)
  have N1 := number_any a n c b 1 1073741824 _ h256 hn (by omega) (hr.below h2) hl
  rw [show ((1073741824 : Nat) : Int) = 1073741824 from rfl, hN] at N1
  have HN := Lib.hid N1
  have N2 := number_any a n c b p1 (if N = 0 then 0 else 1073741824) _ h256 hn (by split <;> omega) (hr.below h2) hl
  rw [show (((if N = 0 then 0 else 1073741824 : Nat)) : Int) = if N = 0 then 0 else 1073741824 by split <;> rfl, hM] at N2
  have HN2 := Lib.hid N2
  obtain ⟨g, off, rfl, e1, hg, hlb⟩ := head_cell hr hb
  have hn1 : ¬ (n : Int) = 0 := by omega
  have hn2 : ((n : Int) == 0) = false := by simp; omega
  have hn0 : (0 : Int) < n := by omega
  have hm0 : M ≤ 1073741824 := by
    have := hMle.2.1
    split at this <;> omega
  generalize hR : decRows b N M N 0 [] p2 = R at *
  have HRR := Lib.hid hR
  clear h1 h2 B2 N1 N2 hr hb hN hM hR
  go_enter Try.func35, Try.ntmps35
  go_wp2_with fail
  generalize (w.alloc (.cells #[.int .i64 0, .slice none 0 0] 24)).alloc (.cells #[.int .i64 0, .slice none 0 0] 24) = W at *
  refine HN.out.mono ?_
  rintro e w1 ⟨rfl, rfl⟩
  by_cases h0 : N = 0
  · have h00 : ((N : Int) == 0) = true := by simp [h0]
    rw [if_pos h0] at HN2 hMle
    have H0 := Lib.hid h0
    clear h0
    go_wp2_with fail
    refine HN2.out.mono ?_
    rintro e w1 ⟨rfl, rfl⟩
    go_wp2_with fail
    have hG := Blk.new W 24 #[.int .i64 (N : Int), .slice none 0 0]
    have hWs : (W.alloc (.cells #[.int .i64 (N : Int), .slice none 0 0] 24)).heap.size = W.heap.size + 1 := by simp
    have bG := below_new W (.cells #[.int .i64 (N : Int), .slice none 0 0] 24)
    have BG := Lib.hid bG
    have HG := Lib.hid hG
    clear bG hG HN HN2
    generalize W.alloc (.cells #[.int .i64 (N : Int), .slice none 0 0] 24) = W3 at *
    go_loopw [11, 14] (fun pv uv wr => RDecLoop b N M N p2 W3 W.heap.size pv uv wr) (fun _ uv _ => N - (intOf uv).toNat)
    case atStart => exact ⟨0, [], p2, _, rfl, rfl, by omega, HG.out, World.ownsRow_nil _ _ _ _, Chg.refl _ _, rfl, by simp⟩
    case round =>
      obtain ⟨u, es, p, v, rfl, rfl, hu, hB, hown, hc, hinv, hes⟩ := hrel
      obtain ⟨av, cv, rfl, -, hel, -⟩ := own_edges' hown
      have c1 : wr.cell? ⟨W.heap.size, 1, none⟩ = some (.slice av es.length cv) := hB.cell 1
      have hbw : Below W.heap.size W wr := BG.out.trans (hc.below_of (by omega) (fun j hj e => by omega))
      have hlt : ¬ (u : Int) < N := by have := H0.out; omega
      obtain rfl : N = u := by omega
      have hRR := HRR.out
      rw [hinv, Nat.sub_self, decRows] at hRR
      have D1 := Lib.hid (B1.out.below hbw B1.out.lt)
      have D2 := Lib.hid (HB2.out.below hbw HB2.out.lt)
      have HWW := Lib.hid (H2.out.trans (hbw.mono H2.out.size))
      have r0 : wr.cell? ⟨w.heap.size, 0, none⟩ = some (.int .i64 0) := D1.out.cell 0
      have r1 : wr.cell? ⟨w.heap.size, 1, none⟩ = some (.slice none 0 0) := D1.out.cell 1
      have f0 := D1.out.frozen 0
      have f1 := D1.out.frozen 1
      have s0 : wr.cell? ⟨w.heap.size + 1, 0, none⟩ = some (.int .i64 0) := D2.out.cell 0
      have s1 : wr.cell? ⟨w.heap.size + 1, 1, none⟩ = some (.slice none 0 0) := D2.out.cell 1
      have c0 : wr.cell? ⟨W.heap.size, 0, none⟩ = some (.int .i64 (N : Int)) := hB.cell 0
      have hl1 := D1.out.lt
      have hW2 := H2.out.size
      have HO := Lib.hid hown
      clear hB hown hc hinv hbw
      by_cases hpe : p = n
      · have hD : decEnd b N R = ((N : Int), es, 0, 0) := by
          rw [← hRR]
          unfold decEnd
          rw [if_neg (by simp; omega)]
        have HD := Lib.hid hD
        clear hRR hD
        subst hpe
        have x1 : ((n : Int) != n) = false := by simp
        have hlW : w.heap.size + 1 < W.heap.size := HB2.out.lt
        go_wp2_with fail
        obtain ⟨_, r2, r3⟩ := res_cells D1.out (.int .i64 (N : Int)) (.slice av es.length cv)
        (try simp only [Exit.inBlock, Exit.then])
        refine bodyPost_ret (by simp [results, Try.results35, go_sem, r2, r3]; try rfl) rfl ?_
        rw [HD.out]
        exact dec_good HO.out (by omega) HWW.out (Nat.le_refl _)
      · have hD : decEnd b N R = (0, [], p, 3) := by
          rw [← hRR]
          unfold decEnd
          rw [if_pos (by simp; omega)]
        have HD := Lib.hid hD
        clear hRR hD
        have x1 : (p != n) = true := by rw [bne_iff_ne]; exact hpe
        go_wp2_with fail
        obtain ⟨_, r2, r3⟩ := res_cells D1.out (.int .i64 0) (.slice none 0 0)
        (try simp only [Exit.inBlock, Exit.then])
        refine bodyPost_ret (by simp [results, Try.results35, go_sem, r2, r3]; try rfl) rfl ?_
        rw [HD.out]
        exact dec_none p D1.out HWW.out (Nat.le_refl _)
  · have h00 : ((N : Int) == 0) = false := by simp [h0]
    rw [if_neg h0] at HN2
    go_wp2_with fail
    refine HN2.out.mono ?_
    rintro e w1 ⟨rfl, rfl⟩
    go_wp2_with fail
    have hG := Blk.new W 24 #[.int .i64 (N : Int), .slice none 0 0]
    have hWs : (W.alloc (.cells #[.int .i64 (N : Int), .slice none 0 0] 24)).heap.size = W.heap.size + 1 := by simp
    have bG := below_new W (.cells #[.int .i64 (N : Int), .slice none 0 0] 24)
    have BG := Lib.hid bG
    have HG := Lib.hid hG
    clear bG hG HN HN2
    generalize W.alloc (.cells #[.int .i64 (N : Int), .slice none 0 0] 24) = W3 at *
    go_loopw [11, 14] (fun pv uv wr => RDecLoop b N M N p2 W3 W.heap.size pv uv wr) (fun _ uv _ => N - (intOf uv).toNat)
    case atStart => exact ⟨0, [], p2, _, rfl, rfl, by omega, HG.out, World.ownsRow_nil _ _ _ _, Chg.refl _ _, rfl, by simp⟩
    case round =>
      obtain ⟨u, es, p, v, rfl, rfl, hu, hB, hown, hc, hinv, hes⟩ := hrel
      obtain ⟨av, cv, rfl, -, hel, -⟩ := own_edges' hown
      have c1 : wr.cell? ⟨W.heap.size, 1, none⟩ = some (.slice av es.length cv) := hB.cell 1
      have hbw : Below W.heap.size W wr := BG.out.trans (hc.below_of (by omega) (fun j hj e => by omega))
      by_cases hlt : (u : Int) < N
      · have N3 := number_any (some ⟨g, off, none⟩) n c b p (M - es.length) wr h256 hn (by omega) (HR.out.below hbw) hl
        rw [show (((M - es.length : Nat)) : Int) = (M : Int) - es.length by omega] at N3
        have t1 : IntKind.i64.wrap ((M : Int) - es.length) = (M : Int) - es.length := by rw [IntKind.wrap_i64]; omega
        have t2 : IntKind.u64.wrap ((M : Int) - es.length) = (M : Int) - es.length := by simp [IntKind.wrap, IntKind.bits, IntKind.signed]; omega
        have N4 := Lib.hid N3
        have HB := Lib.hid hB
        have HO := Lib.hid hown
        have HC := Lib.hid hc
        have HI := Lib.hid hinv
        have HW := Lib.hid hbw
        clear N3 hB hown hc hinv hbw
        go_wp2_with fail
        refine N4.out.mono ?_
        rintro e w1 ⟨rfl, rfl⟩
        have D1 := Lib.hid (B1.out.below HW.out B1.out.lt)
        have D2 := Lib.hid (HB2.out.below HW.out HB2.out.lt)
        have HWW := Lib.hid (H2.out.trans (HW.out.mono H2.out.size))
        have r0 : wr.cell? ⟨w.heap.size, 0, none⟩ = some (.int .i64 0) := D1.out.cell 0
        have r1 : wr.cell? ⟨w.heap.size, 1, none⟩ = some (.slice none 0 0) := D1.out.cell 1
        have f0 := D1.out.frozen 0
        have f1 := D1.out.frozen 1
        have s0 : wr.cell? ⟨w.heap.size + 1, 0, none⟩ = some (.int .i64 0) := D2.out.cell 0
        have s1 : wr.cell? ⟨w.heap.size + 1, 1, none⟩ = some (.slice none 0 0) := D2.out.cell 1
        have hl1 := D1.out.lt
        have hj : N - u = (N - u - 1) + 1 := by omega
        cases hbad : (num b p ((M : Int) - es.length)).2.2
        · have hend := num_end b p _ hbad
          have hRR := HRR.out
          rw [HI.out, hj, decRows, if_neg (by rw [hbad]; simp)] at hRR
          have hle := HI.out
          clear hle
          generalize (num b p ((M : Int) - es.length)).2.1 = pl at *
          generalize (num b p ((M : Int) - es.length)).1 = pc at *
          have t3 : IntKind.i64.wrap ((N : Int) - 1) = (N : Int) - 1 := by rw [IntKind.wrap_i64]; omega
          have hrefuse : (N : Int) = u + 1 ∧ pc ≠ (M : Int) - es.length ∨ ¬ (N : Int) = u + 1 ∨ (N : Int) = u + 1 ∧ pc = (M : Int) - es.length := by omega
          rcases hrefuse with ⟨hN1, hp1⟩ | hgo
          · rw [if_pos ⟨by omega, hp1⟩] at hRR
            have HR3 := Lib.hid hRR
            clear hRR
            have x1 : ((u : Int) == (N : Int) - 1) = true := by rw [beq_iff_eq]; omega
            have x2 : (pc != (M : Int) - es.length) = true := by rw [bne_iff_ne]; exact hp1
            have x3 : IntKind.i64.wrap (pl - 1) = pl - 1 := by rw [IntKind.wrap_i64]; omega
            go_wp2_with fail
            obtain ⟨_, r2, r3⟩ := res_cells D1.out (.int .i64 0) (.slice none 0 0)
            (try simp only [Exit.inBlock, Exit.then])
            refine bodyPost_ret (by simp [results, Try.results35, go_sem, r2, r3]; try rfl) rfl ?_
            rw [← HR3.out]
            exact dec_none (pl - 1) D1.out HWW.out (Nat.le_refl _)
          · rw [if_neg (by omega)] at hRR
            have HR3 := Lib.hid hRR
            clear hRR
            obtain ⟨cnt, rfl⟩ : ∃ cnt : Nat, pc = (cnt : Int) := ⟨pc.toNat, by omega⟩
            rw [Int.toNat_natCast] at HR3
            have hg2 : (((u : Int) == (N : Int) - 1) = false) ∨ (((u : Int) == (N : Int) - 1) = true ∧ ((cnt : Int) != (M : Int) - es.length) = false) := by
              rcases hgo with h | ⟨h, h'⟩
              · left; rw [beq_eq_false_iff_ne]; omega
              · right; exact ⟨by rw [beq_iff_eq]; omega, by rw [h']; simp⟩
            have hNl : (N : Int) = N := rfl
            rcases hg2 with x1 | ⟨x1, x2⟩
            all_goals
              clear N4 r0 r1 f0 f1 s0 s1
              go_wp2_with fail
              go_loopw [16, 18, 19] (fun pv vv iv wr => RRowIn b N u cnt pl es W3 W.heap.size pv vv iv wr) (fun _ _ iv _ => cnt - (intOf iv).toNat)
              case atStart => exact ⟨0, [], u, pl, _, rfl, rfl, rfl, HB.out, by simpa using HO.out, HC.out, RowAt.start (by omega)⟩
              case round =>
                obtain ⟨t, f2, v, q, vl, rfl, rfl, rfl, hB, hown, hc, hat⟩ := hrel
                have hbw : Below W.heap.size W wr := BG.out.trans (hc.below_of (by omega) (fun j hj e => by omega))
                clear c1 D1 D2 HWW hl1 HB HO HC HW
                have hv1 := hat.2.2.1
                have hv2 := hat.2.2.2.1
                have hle2 := hat.2.1
                have hlen := hat.1
                have hws2 := hc.size
                have HB := Lib.hid hB
                have HO := Lib.hid hown
                have HC := Lib.hid hc
                have HA := Lib.hid hat
                have HL := Lib.hid hlen
                have HW := Lib.hid hbw
                have q1 : wr.cell? ⟨W.heap.size, 1, none⟩ = some vl := hB.cell 1
                have qf := hB.frozen 1
                clear hB hown hc hat hbw hlen
                by_cases hlt2 : (t : Int) < cnt
                · have N3 := number_any (some ⟨g, off, none⟩) n c b q ((N : Int) - 1 - v).toNat wr h256 hn (by omega) (HR.out.below HW.out) hl
                  rw [show ((((N : Int) - 1 - v).toNat : Nat) : Int) = (N : Int) - 1 - v by omega] at N3
                  have t4 : IntKind.i64.wrap ((N : Int) - 1 - v) = (N : Int) - 1 - v := by rw [IntKind.wrap_i64]; omega
                  have t5 : IntKind.u64.wrap ((N : Int) - 1 - v) = (N : Int) - 1 - v := by simp [IntKind.wrap, IntKind.bits, IntKind.signed]; omega
                  have N4 := Lib.hid N3
                  clear N3
                  go_wp2_with fail
                  refine N4.out.mono ?_
                  rintro e w1 ⟨rfl, rfl⟩
                  cases hbad2 : (num b q ((N : Int) - 1 - v)).2.2
                  · have hat2 := HA.out.good (by omega) hbad2
                    have hend2 := num_end b q _ hbad2
                    have HA2 := Lib.hid hat2
                    clear hat2
                    generalize (num b q ((N : Int) - 1 - v)).2.1 = pl2 at *
                    generalize (num b q ((N : Int) - 1 - v)).1 = d at *
                    have t6 : IntKind.i64.wrap (v + d) = v + d := by rw [IntKind.wrap_i64]; omega
                    have hrow : Row (wr.alloc (.cells #[.int .i64 (u : Int), .int .i64 (v + d)] 36)) (some ⟨wr.heap.size, 0, none⟩) (flatE [((u : Int), v + d)]) := Row.new wr #[.int .i64 (u : Int), .int .i64 (v + d)] 36 (0, 0)
                    have HRW := Lib.hid hrow
                    clear hrow N4 HA
                    go_wp2_with (at_builtin; go_must (refine wpList_append rfl (.tmp 124) (.tmp 128) _ rfl el_edge W3.heap.size _ _ _ rfl (HO.out.alloc _) _ 1 1 (flatE [((u : Int), v + d)]) rfl rfl HRW.out (flatE_one _) (by unfold maxLen; omega) (by omega) (by simp; omega) ?_))
                    intro v2 w2 hown2 hg2 _ hb2
                    rw [← flatE_append] at hown2
                    obtain ⟨a2, c2, rfl, -, -, -⟩ := own_edges' hown2
                    obtain ⟨hB2, hB3, hO3, hC3⟩ := app_facts1 hWs HC.out HB.out HO.out hown2 hg2
                    have m1 : w2.cell? ⟨W.heap.size, 1, none⟩ = some vl := hB2.cell 1
                    have mf := hB2.frozen 1
                    have HB3 := Lib.hid hB3
                    have HO3 := Lib.hid hO3
                    have HC3 := Lib.hid hC3
                    clear hown2 hg2 hb2 hB2 hB3 hO3 hC3 q1 qf HRW
                    go_wp2_with fail
                    go_roundw
                    case rel => exact ⟨t + 1, f2 ++ [((u : Int), v + d)], v + d, pl2, _, by go_num, rfl, rfl, HB3.out, by rw [← List.append_assoc]; exact HO3.out, HC3.out, HA2.out⟩
                    case measure => simp [intOf]; omega
                  · have hbd := HA.out.bad (by omega) hbad2
                    have hR4 := HR3.out
                    rw [show (decRow b N u cnt u pl).2.2 = true by rw [hbd], if_pos rfl, show (decRow b N u cnt u pl).2.1 = (num b q ((N : Int) - 1 - v)).2.1 by rw [hbd]] at hR4
                    have HR4 := Lib.hid hR4
                    clear hR4 hbd
                    generalize (num b q ((N : Int) - 1 - v)).2.1 = pl2 at *
                    generalize (num b q ((N : Int) - 1 - v)).1 = d at *
                    have D1 := Lib.hid (B1.out.below HW.out B1.out.lt)
                    have D2 := Lib.hid (HB2.out.below HW.out HB2.out.lt)
                    have HWW := Lib.hid (H2.out.trans (HW.out.mono H2.out.size))
                    have r0 : wr.cell? ⟨w.heap.size, 0, none⟩ = some (.int .i64 0) := D1.out.cell 0
                    have r1 : wr.cell? ⟨w.heap.size, 1, none⟩ = some (.slice none 0 0) := D1.out.cell 1
                    have f0 := D1.out.frozen 0
                    have f1 := D1.out.frozen 1
                    have s0 : wr.cell? ⟨w.heap.size + 1, 0, none⟩ = some (.int .i64 0) := D2.out.cell 0
                    have s1 : wr.cell? ⟨w.heap.size + 1, 1, none⟩ = some (.slice none 0 0) := D2.out.cell 1
                    have hl1 := D1.out.lt
                    clear N4 HA
                    go_wp2_with fail
                    obtain ⟨_, r2, r3⟩ := res_cells D1.out (.int .i64 0) (.slice none 0 0)
                    (try simp only [Exit.inBlock, Exit.then])
                    refine bodyPost_ret (by simp [results, Try.results35, go_sem, r2, r3]; try rfl) rfl ?_
                    rw [← HR4.out]
                    exact dec_none pl2 D1.out HWW.out (Nat.le_refl _)
                · obtain rfl : t = cnt := by omega
                  have hwh := HA.out.whole
                  have hR4 := HR3.out
                  rw [hwh, if_neg (by simp)] at hR4
                  have HR4 := Lib.hid hR4
                  clear hR4 hwh
                  go_wp2_with fail
                  go_roundw
                  case rel => exact ⟨u + 1, es ++ f2, q, vl, by go_num, rfl, by omega, HB.out, by rw [List.length_append, HL.out]; exact HO.out, HC.out, by rw [HRR.out, show N - (u + 1) = N - u - 1 by omega]; exact HR4.out.symm, by rw [List.length_append, HL.out]; omega⟩
                  case measure => simp [intOf]; omega
        · have hRR := HRR.out
          rw [HI.out, hj, decRows, if_pos hbad] at hRR
          have HR3 := Lib.hid hRR
          clear hRR
          generalize (num b p ((M : Int) - es.length)).2.1 = pl at *
          generalize (num b p ((M : Int) - es.length)).1 = pc at *
          go_wp2_with fail
          obtain ⟨_, r2, r3⟩ := res_cells D1.out (.int .i64 0) (.slice none 0 0)
          (try simp only [Exit.inBlock, Exit.then])
          refine bodyPost_ret (by simp [results, Try.results35, go_sem, r2, r3]; try rfl) rfl ?_
          rw [← HR3.out]
          exact dec_none pl D1.out HWW.out (Nat.le_refl _)
      · obtain rfl : N = u := by omega
        have hRR := HRR.out
        rw [hinv, Nat.sub_self, decRows] at hRR
        have D1 := Lib.hid (B1.out.below hbw B1.out.lt)
        have D2 := Lib.hid (HB2.out.below hbw HB2.out.lt)
        have HWW := Lib.hid (H2.out.trans (hbw.mono H2.out.size))
        have r0 : wr.cell? ⟨w.heap.size, 0, none⟩ = some (.int .i64 0) := D1.out.cell 0
        have r1 : wr.cell? ⟨w.heap.size, 1, none⟩ = some (.slice none 0 0) := D1.out.cell 1
        have f0 := D1.out.frozen 0
        have f1 := D1.out.frozen 1
        have s0 : wr.cell? ⟨w.heap.size + 1, 0, none⟩ = some (.int .i64 0) := D2.out.cell 0
        have s1 : wr.cell? ⟨w.heap.size + 1, 1, none⟩ = some (.slice none 0 0) := D2.out.cell 1
        have c0 : wr.cell? ⟨W.heap.size, 0, none⟩ = some (.int .i64 (N : Int)) := hB.cell 0
        have hl1 := D1.out.lt
        have hW2 := H2.out.size
        have HO := Lib.hid hown
        clear hB hown hc hinv hbw
        by_cases hpe : p = n
        · have hD : decEnd b N R = ((N : Int), es, 0, 0) := by
            rw [← hRR]
            unfold decEnd
            rw [if_neg (by simp; omega)]
          have HD := Lib.hid hD
          clear hRR hD
          subst hpe
          have x1 : ((n : Int) != n) = false := by simp
          have hlW : w.heap.size + 1 < W.heap.size := HB2.out.lt
          go_wp2_with fail
          obtain ⟨_, r2, r3⟩ := res_cells D1.out (.int .i64 (N : Int)) (.slice av es.length cv)
          (try simp only [Exit.inBlock, Exit.then])
          refine bodyPost_ret (by simp [results, Try.results35, go_sem, r2, r3]; try rfl) rfl ?_
          rw [HD.out]
          exact dec_good HO.out (by omega) HWW.out (Nat.le_refl _)
        · have hD : decEnd b N R = (0, [], p, 3) := by
            rw [← hRR]
            unfold decEnd
            rw [if_pos (by simp; omega)]
          have HD := Lib.hid hD
          clear hRR hD
          have x1 : (p != n) = true := by rw [bne_iff_ne]; exact hpe
          go_wp2_with fail
          obtain ⟨_, r2, r3⟩ := res_cells D1.out (.int .i64 0) (.slice none 0 0)
          (try simp only [Exit.inBlock, Exit.then])
          refine bodyPost_ret (by simp [results, Try.results35, go_sem, r2, r3]; try rfl) rfl ?_
          rw [HD.out]
          exact dec_none p D1.out HWW.out (Nat.le_refl _)

end Go.Proofs.Ytlepmefknglkeaa.Gr
