/- The walk of format.Decode. -/
import Derived.Test.YtlepmefknglkeaaFmtDecR2
import Derived.Test.YtlepmefknglkeaaFmtCutP
set_option linter.unusedVariables false
namespace Go.Proofs.Ytlepmefknglkeaa.Gr
open Go.RowKit Var

/-- What stands while the rows are read: the reader, the graph and its edges. -/
structure DSt (W : World) (R G : Nat) (a : Option Addr) (n c : Nat) (N : Int) (v : Value) (es : List E2) (at_ : Int) (fail : Bool) (wr : World) : Prop where
  rb : Blk wr R 62 #[.slice a n c, .int .i64 at_, .bool fail]
  gb : Blk wr G 24 #[.int .i64 N, v]
  own : wr.ownsRow W.heap.size 36 2 v es.length (flatE es)
  chg : Chg (fun j => j = R ∨ j = G) W wr
section
variable {w W wr w2 : World} {R G : Nat} {a : Option Addr} {n c : Nat} {N : Int} {v : Value} {es : List E2} {at_ : Int} {fail : Bool}
theorem DSt.below (h : DSt W R G a n c N v es at_ fail wr) (hW : Below w.heap.size w W) (hR : w.heap.size ≤ R) (hG : w.heap.size ≤ G) : Below w.heap.size w wr :=
  hW.trans (h.chg.below_of hW.size (fun k hk e => by omega))
theorem DSt.rdr {b : List Nat} (h : DSt W R G a n c N v es at_ fail wr) (hW : Below w.heap.size w W) (hR : w.heap.size ≤ R) (hG : w.heap.size ≤ G) (hr : Row w a (byts b)) (hl : b.length = n) : Rdr wr R a n c b at_ fail :=
  ⟨h.rb, hr.below (h.below hW hR hG), hl⟩
theorem DSt.ne (h : DSt W R G a n c N v es at_ fail wr) : R ≠ G := h.rb.ne_ h.gb (by decide)
theorem DSt.took {b : List Nat} {at2 : Int} {fail2 : Bool} (h : DSt W R G a n c N v es at_ fail wr) (hR : R < W.heap.size) (h1 : Rdr w2 R a n c b at2 fail2) (h2 : Chg (fun j => j = R) wr w2) : DSt W R G a n c N v es at2 fail2 w2 :=
  ⟨h1.blk, h.gb.chg h2 (fun e => h.ne e.symm), own_chg h.own h2 (fun g hg e => by
    have := (h.own.lt g hg).1
    omega), h.chg.trans h2 (fun k _ e => .inl e)⟩
theorem DSt.cells (h : DSt W R G a n c N v es at_ fail wr) : wr.cell? ⟨R, 1, none⟩ = some (.int .i64 at_) ∧ wr.cell? ⟨R, 2, none⟩ = some (.bool fail) ∧ wr.cell? ⟨G, 0, none⟩ = some (.int .i64 N) ∧ wr.cell? ⟨G, 1, none⟩ = some v ∧ wr.frozen? ⟨G, 1, none⟩ = false ∧ wr.frozen? ⟨R, 1, none⟩ = false ∧ wr.frozen? ⟨R, 2, none⟩ = false :=
  ⟨h.rb.cell 1, h.rb.cell 2, h.gb.cell 0, h.gb.cell 1, h.gb.frozen 1, h.rb.frozen 1, h.rb.frozen 2⟩
theorem DSt.setBad (h : DSt W R G a n c N v es at_ fail wr) (hR : R < W.heap.size) (at2 : Int) : DSt W R G a n c N v es at2 true ((wr.setCell ⟨R, 1, none⟩ (.int .i64 at2)).setCell ⟨R, 2, none⟩ (.bool true)) := by
  have hc : Chg (fun j => j = R) wr ((wr.setCell ⟨R, 1, none⟩ (.int .i64 at2)).setCell ⟨R, 2, none⟩ (.bool true)) := ((Chg.refl (fun j => j = R) wr).setCell _ _ (fun _ => rfl)).setCell _ _ (fun _ => rfl)
  refine ⟨by simpa using (h.rb.set_ 1 (.int .i64 at2)).set_ 2 (.bool true), h.gb.chg hc (fun e => h.ne e.symm), own_chg h.own hc (fun g hg e => ?_), h.chg.trans hc (fun k _ e => .inl e)⟩
  have := (h.own.lt g hg).1
  omega
theorem DSt.app {v2 : Value} {L : List E2} {o2 : Obj} (h : DSt W R G a n c N v es at_ fail wr) (hR : R < W.heap.size) (hG : G < W.heap.size) (hown2 : w2.ownsRow W.heap.size 36 2 v2 L.length (flatE L)) (hg2 : (wr.alloc o2).grownBy w2 v.ownBlock) :
    Blk w2 G 24 #[.int .i64 N, v] ∧ DSt W R G a n c N v2 L at_ fail (w2.setCell ⟨G, 1, none⟩ v2) := by
  have hc2 := ((Chg.refl (fun k => some k = v.ownBlock) wr).alloc o2).trans (Chg.of_grown hg2) (fun _ _ h => h)
  have hno : ∀ q, q < W.heap.size → ¬ some q = v.ownBlock := fun q hq e => by
    have := (h.own.lt q e.symm).1
    omega
  have hno2 : ∀ g, v2.ownBlock = some g → ¬ g = G := fun g hg e => by
    have := (hown2.lt g hg).1
    omega
  have hB2 := h.gb.chg hc2 (hno G hG)
  have hc3 := (Chg.refl (fun j => j = G) w2).setCell ⟨G, 1, none⟩ v2 (fun _ => rfl)
  refine ⟨hB2, ((h.rb.chg hc2 (hno R hR)).chg hc3 h.ne), by simpa using hB2.set_ 1 v2, own_chg hown2 hc3 hno2, ?_⟩
  exact (h.chg.trans hc2 (fun k hk e => absurd e (hno k hk))).trans hc3 (fun k _ e => .inr e)
end

theorem num_zero {b : List Nat} {p most : Int} (h : (num b p most).2.2 = true) : (num b p most).1 = 0 := by
  unfold num at h ⊢
  split
  · rfl
  · rename_i h1
    rw [if_neg h1] at h
    split
    · rfl
    · rename_i h2
      rw [if_neg h2] at h
      cases h

/-- Behind some rows: they are read, or a byte was wrong. -/
def DLoop (b : List Nat) (N M : Nat) (R0 : List E2 × Int × Bool) (W : World) (R G : Nat) (a : Option Addr) (n c : Nat) (uv : Value) (wr : World) : Prop :=
  ∃ (u : Nat) (es : List E2) (p : Int) (v : Value) (fail : Bool), uv = .int .i64 (u : Int) ∧ u ≤ N ∧ DSt W R G a n c N v es p fail wr ∧ (fail = false → (es.length : Int) ≤ M) ∧ (0 ≤ p ∧ p ≤ b.length) ∧
    (fail = false → decRows b N M (N - u) u es p = R0) ∧ (fail = true → R0.2 = (p, true))

/-- Within a row: some edges are read, or a byte was wrong. -/
def DRowIn (b : List Nat) (N : Nat) (u : Int) (cnt : Nat) (p0 : Int) (es : List E2) (W : World) (R G : Nat) (a : Option Addr) (n c : Nat) (kv vv : Value) (wr : World) : Prop :=
  ∃ (k : Nat) (e2 : List E2) (v p : Int) (vl : Value) (fail : Bool), kv = .int .i64 (k : Int) ∧ vv = .int .i64 v ∧ k ≤ cnt ∧ DSt W R G a n c N vl (es ++ e2) p fail wr ∧ (0 ≤ p ∧ p ≤ b.length) ∧
    (fail = false → RowAt b N u cnt p0 (cnt - k) e2 v p) ∧ (fail = true → (decRow b N u cnt u p0).2 = (p, true))
/-- A loop that is left at once. -/
def Still (k v : Value) (w : World) (kv vv : Value) (wr : World) : Prop := k = kv ∧ v = vv ∧ w = wr

/-- The result's own block is set to the zero graph. -/
theorem decG_none {w W wr : World} {R G : Nat} {a : Option Addr} {n c : Nat} {N : Int} {v : Value} {es : List E2} {p : Int} {fail : Bool} (hS : Blk W w.heap.size 24 #[.int .i64 0, .slice none 0 0]) (hW : Below w.heap.size w W) (hR : w.heap.size < R) (hG : w.heap.size < G) (D : DSt W R G a n c N v es p fail wr) :
    Blk wr w.heap.size 24 #[.int .i64 0, .slice none 0 0] ∧ Below w.heap.size w wr :=
  ⟨hS.chg D.chg (by omega), D.below hW (by omega) (by omega)⟩

theorem dec_none_drew {w w1 : World} {g : Nat} (p : Int) (hB : Blk w1 g 24 #[.int .i64 0, .slice none 0 0]) (h : Below w.heap.size w w1) (hg : w.heap.size ≤ g) :
    DecTold 0 [] p 3 w (.returned (.tuple #[.agg #[.int .i64 0, .slice none 0 0], .int .i64 p, .int .i64 3])) ((w1.setCell ⟨g, 0, none⟩ (.int .i64 0)).setCell ⟨g, 1, none⟩ (.slice none 0 0)).drew :=
  ⟨none, 0, 0, rfl, fun i hi => absurd hi (by simp), rfl, ((h.setCell hg _).setCell hg _).drew⟩

set_option maxRecDepth 100000 in
set_option maxHeartbeats 4000000 in
theorem decode_rest (a : Option Addr) (n c : Nat) (b : List Nat) (w : World) (N M : Nat) (p1 p2 : Int) (hn : n < 1000000000) (hr : Row w a (byts b)) (hl : b.length = n) (h256 : ∀ x ∈ b, x < 256) (hb : b.head? = some 71)
    (hN : num b 1 1073741824 = ((N : Int), p1, false)) (hM : num b p1 (if N = 0 then 0 else 1073741824) = ((M : Int), p2, false)) :
    Calls Try.prog 34 #[.slice a n c] w (DecTold (decEnd b N (decRows b N M N 0 [] p2)).1 (decEnd b N (decRows b N M N 0 [] p2)).2.1 (decEnd b N (decRows b N M N 0 [] p2)).2.2.1 (decEnd b N (decRows b N M N 0 [] p2)).2.2.2 w) := by
  have h1 := below_new w (.cells #[.int .i64 0, .slice none 0 0] 24)
  have h2 := h1.trans ((below_new (w.alloc (.cells #[.int .i64 0, .slice none 0 0] 24)) (.cells #[.slice a n c, .int .i64 1, .bool false] 62)).mono h1.size)
  have B1 := Lib.hid ((Blk.new w 24 #[.int .i64 0, .slice none 0 0]).alloc (.cells #[.slice a n c, .int .i64 1, .bool false] 62))
  have B2 := Blk.new (w.alloc (.cells #[.int .i64 0, .slice none 0 0] 24)) 62 #[.slice a n c, .int .i64 1, .bool false]
  rw [show (w.alloc (.cells #[.int .i64 0, .slice none 0 0] 24)).heap.size = w.heap.size + 1 by simp] at B2
  have HB2 := Lib.hid (⟨B2, hr.below h2, hl⟩ : Rdr _ _ a n c b 1 false)
  have H2 := Lib.hid h2
  have hNle := num_end b 1 1073741824 (by rw [hN])
  have hMle := num_end b p1 (if N = 0 then 0 else 1073741824) (by rw [hM])
  rw [hN] at hNle
  rw [hM] at hMle
  simp only at hNle hMle
  have HR := Lib.hid hr
  have N1 := take_num (w.heap.size + 1) a n c b 1 1073741824 _ h256 hn (by omega) HB2.out
  rw [show ((1073741824 : Nat) : Int) = 1073741824 from rfl, hN] at N1
  have HN := Lib.hid N1
  have HNM := Lib.hid hM
  obtain ⟨g, off, rfl, e1, hg, hlb⟩ := head_cell hr hb
  have hn1 : ¬ (n : Int) = 0 := by omega
  have hn2 : ((n : Int) == 0) = false := by simp; omega
  have hn0 : (0 : Int) < n := by omega
  have hm0 : M ≤ 1073741824 := by
    have := hMle.2.1
    split at this <;> omega
  generalize hR : decRows b N M N 0 [] p2 = R0 at *
  have HRR := Lib.hid hR
  have HMle := Lib.hid hMle
  have hp2 := hMle.2.2
  clear h1 h2 B2 N1 hr hb hN hM hR hMle
  go_enter Try.func34, Try.ntmps34
  go_wp2_with fail
  generalize (w.alloc (.cells #[.int .i64 0, .slice none 0 0] 24)).alloc (.cells #[.slice (some ⟨g, off, none⟩) n c, .int .i64 1, .bool false] 62) = W at *
  refine HN.out.mono ?_
  rintro e w1 ⟨rfl, hr1, hc1⟩
  have hzW := HB2.out.blk.lt
  have hz1 := hc1.size
  have hG := Blk.new w1 24 #[.int .i64 (N : Int), .slice none 0 0]
  have hW2s : (w1.alloc (.cells #[.int .i64 (N : Int), .slice none 0 0] 24)).heap.size = w1.heap.size + 1 := by simp
  have hbl : Below w.heap.size w (w1.alloc (.cells #[.int .i64 (N : Int), .slice none 0 0] 24)) :=
    (H2.out.trans (hc1.below_of H2.out.size (fun k hk e => by omega))).alloc (Nat.le_trans H2.out.size hz1) _
  have hrd : Rdr (w1.alloc (.cells #[.int .i64 (N : Int), .slice none 0 0] 24)) (w.heap.size + 1) (some ⟨g, off, none⟩) n c b p1 false :=
    ⟨hr1.blk.alloc _, HR.out.below hbl, hl⟩
  have hS : Blk (w1.alloc (.cells #[.int .i64 (N : Int), .slice none 0 0] 24)) w.heap.size 24 #[.int .i64 0, .slice none 0 0] := (B1.out.chg hc1 (by omega)).alloc _
  have BL := Lib.hid hbl
  have RD := Lib.hid hrd
  have HG := Lib.hid hG
  have HS := Lib.hid hS
  have HWS := Lib.hid hW2s
  clear hG hW2s hbl hrd hS hr1 hc1 HN HB2 B1 H2
  have hGb : w1.heap.size = w1.heap.size := rfl
  generalize hRb : w.heap.size + 1 = R at *
  have hGl := HG.out.lt
  have hRl := RD.out.blk.lt
  have hRw : w.heap.size < R := by omega
  have hGw : w.heap.size < w1.heap.size := by omega
  have hRG : ¬ R = w1.heap.size := by omega
  have hRG2 : ¬ w1.heap.size = R := by omega
  have hSR : ¬ w.heap.size = R := by omega
  have hSG : ¬ w.heap.size = w1.heap.size := by omega
  have hcase : (N = 0 ∧ num b p1 0 = ((M : Int), p2, false)) ∨ (¬ N = 0 ∧ num b p1 1073741824 = ((M : Int), p2, false)) := by
    have := HNM.out
    by_cases h0 : N = 0
    · rw [if_pos h0] at this; exact .inl ⟨h0, this⟩
    · rw [if_neg h0] at this; exact .inr ⟨h0, this⟩
  have c0 : (w1.alloc (.cells #[.int .i64 (N : Int), .slice none 0 0] 24)).cell? ⟨w1.heap.size, 0, none⟩ = some (.int .i64 (N : Int)) := HG.out.cell 0
  clear HNM HMle hRb hzW hGb
  rcases hcase with ⟨h0, hM⟩ | ⟨h0, hM⟩
  · have h00 : ((N : Int) == 0) = true := by simp [h0]
    have N2 := take_num R (some ⟨g, off, none⟩) n c b p1 0 _ h256 hn (by omega) RD.out
    rw [show ((0 : Nat) : Int) = 0 from rfl, hM] at N2
    have HN2 := Lib.hid N2
    have H0 := Lib.hid h0
    clear N2 hM h0
    go_wp2_with fail
    generalize w1.alloc (.cells #[.int .i64 (N : Int), .slice none 0 0] 24) = W2 at *
    generalize w1.heap.size = G at *
    clear HWS hz1
    refine HN2.out.mono ?_
    rintro e w2 ⟨rfl, hr2, hc2⟩
    have D0 : DSt W2 R G (some ⟨g, off, none⟩) n c N (.slice none 0 0) [] p2 false w2 :=
      ⟨hr2.blk, HG.out.chg hc2 hRG2, World.ownsRow_nil _ _ _ _, hc2.mono (fun k _ e => .inl e)⟩
    have HD0 := Lib.hid D0
    clear D0 hr2 hc2 HN2
    go_wp2_with fail
    go_loopw [9] (fun uv wr => DLoop b N M R0 W2 R G (some ⟨g, off, none⟩) n c uv wr) (fun uv _ => N - (intOf uv).toNat)
    case atStart => exact ⟨0, [], p2, _, false, rfl, by omega, HD0.out, fun _ => by simp, hp2, fun _ => HRR.out, fun h => by cases h⟩
    case round =>
      clear HD0
      obtain ⟨u, es, p, v, fail, rfl, hu, D, hM, hp, hgo, hbad⟩ := hrel
      obtain ⟨d1, d2, d3, d4, d5, d6, d7⟩ := D.cells
      obtain ⟨av, cv, rfl, -, hel, -⟩ := own_edges' D.own
      have hdr := D.rdr BL.out (by omega) (by omega) HR.out hl
      have HDR := Lib.hid hdr
      have HD := Lib.hid D
      have HGO := Lib.hid hgo
      have HBAD := Lib.hid hbad
      have HEL := Lib.hid hM
      clear c0 D hgo hbad hdr hM
      cases fail
      · have hR2 := HGO.out rfl
        have hMl := HEL.out rfl
        by_cases hlt : (u : Int) < N
        · exfalso
          have := H0.out
          omega
        · obtain rfl : N = u := by omega
          rw [Nat.sub_self, decRows] at hR2
          have HR2 := Lib.hid hR2
          clear hR2
          by_cases hpn : p = n
          · subst hpn
            have x1 : ¬ (n : Int) < n := by omega
            have hD : decEnd b N R0 = ((N : Int), es, 0, 0) := by
              rw [← HR2.out]
              unfold decEnd
              rw [if_neg (by simp only; intro h; rcases h with h | h <;> simp_all)]
            have HD9 := Lib.hid hD
            clear hD
            obtain ⟨hB, hbw⟩ := decG_none HS.out BL.out hRw hGw HD.out
            have r0 : wr.cell? ⟨w.heap.size, 0, none⟩ = some (.int .i64 0) := hB.cell 0
            have r1 : wr.cell? ⟨w.heap.size, 1, none⟩ = some (.slice none 0 0) := hB.cell 1
            have f0 := hB.frozen 0
            have f1 := hB.frozen 1
            have D1 := Lib.hid hB
            have HW := Lib.hid hbw
            clear hB hbw
            have hGS : w.heap.size ≠ G := hSG
            go_wp2_with fail
            obtain ⟨_, r2, r3⟩ := res_cells D1.out (.int .i64 (N : Int)) (.slice av es.length cv)
            (try simp only [Exit.inBlock, Exit.then])
            refine bodyPost_ret (by simp [results, Try.results34, go_sem, r2, r3]; try rfl) rfl ?_
            rw [HD9.out]
            exact dec_good HD.out.own (by omega) HW.out (Nat.le_refl _)
          · have x1 : p < (n : Int) := by omega
            obtain ⟨hB, hbw⟩ := decG_none HS.out BL.out hRw hGw HD.out
            have r0 : wr.cell? ⟨w.heap.size, 0, none⟩ = some (.int .i64 0) := hB.cell 0
            have r1 : wr.cell? ⟨w.heap.size, 1, none⟩ = some (.slice none 0 0) := hB.cell 1
            have f0 := hB.frozen 0
            have f1 := hB.frozen 1
            have D1 := Lib.hid hB
            have HW := Lib.hid hbw
            clear hB hbw
            go_wp2_with fail
            go_region
            go_wp2_with fail
            obtain ⟨_, r2, r3⟩ := res_cells D1.out (.int .i64 0) (.slice none 0 0)
            (try simp only [Exit.inBlock, Exit.then])
            refine bodyPost_ret (by simp [results, Try.results34, go_sem, r2, r3]; try rfl) rfl ?_
            have hD : decEnd b N R0 = (0, [], p, 3) := by
              rw [← HR2.out]
              unfold decEnd
              rw [if_pos (.inr (by simp only; omega))]
            rw [hD]
            exact dec_none_drew p D1.out HW.out (Nat.le_refl _)
      · have hR2 := HBAD.out rfl
        have HR2 := Lib.hid hR2
        clear hR2
        by_cases hlt : (u : Int) < N
        all_goals
          obtain ⟨hB, hbw⟩ := decG_none HS.out BL.out hRw hGw HD.out
          have r0 : wr.cell? ⟨w.heap.size, 0, none⟩ = some (.int .i64 0) := hB.cell 0
          have r1 : wr.cell? ⟨w.heap.size, 1, none⟩ = some (.slice none 0 0) := hB.cell 1
          have f0 := hB.frozen 0
          have f1 := hB.frozen 1
          have D1 := Lib.hid hB
          have HW := Lib.hid hbw
          clear hB hbw
          go_wp2_with fail
          go_region
          go_wp2_with fail
          obtain ⟨_, r2, r3⟩ := res_cells D1.out (.int .i64 0) (.slice none 0 0)
          (try simp only [Exit.inBlock, Exit.then])
          refine bodyPost_ret (by simp [results, Try.results34, go_sem, r2, r3]; try rfl) rfl ?_
          have hD : decEnd b N R0 = (0, [], p, 3) := by
            have hR3 := HR2.out
            unfold decEnd
            rw [hR3, if_pos (.inl rfl)]
          rw [hD]
          exact dec_none_drew p D1.out HW.out (Nat.le_refl _)
  · have h00 : ((N : Int) == 0) = false := by simp [h0]
    have N2 := take_num R (some ⟨g, off, none⟩) n c b p1 1073741824 _ h256 hn (by omega) RD.out
    rw [show ((1073741824 : Nat) : Int) = 1073741824 from rfl, hM] at N2
    have HN2 := Lib.hid N2
    clear N2 hM h0
    go_wp2_with fail
    generalize w1.alloc (.cells #[.int .i64 (N : Int), .slice none 0 0] 24) = W2 at *
    generalize w1.heap.size = G at *
    clear HWS hz1
    refine HN2.out.mono ?_
    rintro e w2 ⟨rfl, hr2, hc2⟩
    have D0 : DSt W2 R G (some ⟨g, off, none⟩) n c N (.slice none 0 0) [] p2 false w2 :=
      ⟨hr2.blk, HG.out.chg hc2 hRG2, World.ownsRow_nil _ _ _ _, hc2.mono (fun k _ e => .inl e)⟩
    have HD0 := Lib.hid D0
    clear D0 hr2 hc2 HN2
    go_wp2_with fail
    go_loopw [9] (fun uv wr => DLoop b N M R0 W2 R G (some ⟨g, off, none⟩) n c uv wr) (fun uv _ => N - (intOf uv).toNat)
    case atStart => exact ⟨0, [], p2, _, false, rfl, by omega, HD0.out, fun _ => by simp, hp2, fun _ => HRR.out, fun h => by cases h⟩
    case round =>
      clear HD0
      obtain ⟨u, es, p, v, fail, rfl, hu, D, hM, hp, hgo, hbad⟩ := hrel
      obtain ⟨d1, d2, d3, d4, d5, d6, d7⟩ := D.cells
      obtain ⟨av, cv, rfl, -, hel, -⟩ := own_edges' D.own
      have hdr := D.rdr BL.out (by omega) (by omega) HR.out hl
      have HDR := Lib.hid hdr
      have HD := Lib.hid D
      have HGO := Lib.hid hgo
      have HBAD := Lib.hid hbad
      have HEL := Lib.hid hM
      clear c0 D hgo hbad hdr hM
      cases fail
      · have hR2 := HGO.out rfl
        have hMl := HEL.out rfl
        by_cases hlt : (u : Int) < N
        · have T1 := take_num R (some ⟨g, off, none⟩) n c b p (M - es.length) wr h256 hn (by omega) HDR.out
          rw [show (((M - es.length : Nat)) : Int) = (M : Int) - es.length by omega] at T1
          have t1 : IntKind.i64.wrap ((M : Int) - es.length) = (M : Int) - es.length := by rw [IntKind.wrap_i64]; omega
          have t3 : IntKind.i64.wrap ((N : Int) - 1) = (N : Int) - 1 := by rw [IntKind.wrap_i64]; omega
          have T2 := Lib.hid T1
          clear T1
          rw [show N - u = (N - u - 1) + 1 by omega] at hR2
          have HR2 := Lib.hid hR2
          clear hR2
          go_wp2_with fail
          refine T2.out.mono ?_
          rintro e w3 ⟨rfl, hr3, hc3⟩
          have hnle := num_le b p ((M : Int) - es.length) (by omega)
          have hnge := num_ge (b := b) (at_ := p) (most := (M : Int) - es.length) (by omega)
          have HDT := Lib.hid (HD.out.took hRl hr3 hc3)
          clear hr3 hc3 HD HDR d1 d2 d3 d4 d5 d6 d7 T2
          cases hbd : (num b p ((M : Int) - es.length)).2.2
          · have hend := num_end b p _ hbd
            have hpos := num_pos hbd
            rcases rows_ways b N M (N - u - 1) u es p with hw | ⟨-, hw⟩ | ⟨-, hw⟩ | ⟨-, hw⟩
            · rw [hbd] at hw; cases hw
            · have hR3 := HR2.out
              rw [rows_bad2 hbd hw] at hR3
              have HR3 := Lib.hid hR3
              rw [hbd] at HDT
              clear hR3 HR2 hbd
              generalize (num b p ((M : Int) - es.length)).2.1 = pl at *
              obtain ⟨cnt, hcnt⟩ : ∃ cnt : Nat, (num b p ((M : Int) - es.length)).1 = (cnt : Int) := ⟨(num b p ((M : Int) - es.length)).1.toNat, by omega⟩
              rw [hcnt] at hw hend ⊢
              clear hcnt
              obtain ⟨g1, g2, g3, g4, g5, g6, g7⟩ := HDT.out.cells
              have x1 : ((u : Int) == (N : Int) - 1) = true := by rw [beq_iff_eq]; omega
              have x2 : (cnt : Int) < (M : Int) - es.length := by omega
              have x3 : IntKind.i64.wrap (pl - 1) = pl - 1 := by rw [IntKind.wrap_i64]; omega
              have HDW := Lib.hid (HDT.out.setBad hRl (pl - 1))
              obtain ⟨k1, k2, k3, k4, k5, k6, k7⟩ := HDW.out.cells
              clear hw
              go_wp2_with fail
              generalize hw4 : (w3.setCell ⟨R, 1, none⟩ (.int .i64 (pl - 1))).setCell ⟨R, 2, none⟩ (.bool true) = w4 at *
              clear hw4
              go_loopw [10, 11] (fun kv vv wr => Still (.int .i64 (cnt : Int)) (.int .i64 (u : Int)) w4 kv vv wr) (fun _ _ _ => 0)
              case atStart => exact ⟨rfl, rfl, rfl⟩
              case round =>
                obtain ⟨rfl, rfl, rfl⟩ := hrel
                go_wp2_with fail
                all_goals
                  go_roundw
                  case rel => exact ⟨u + 1, es, pl - 1, _, true, by go_num, by omega, HDW.out, fun h => (by cases h), by omega, fun h => (by cases h), fun _ => by rw [← HR3.out]⟩
                  case measure => simp [intOf]; omega
            all_goals
              have hR3 := HR2.out
              rw [decRows, if_neg (by rw [hbd]; simp), if_neg hw.1] at hR3
              rw [hbd] at HDT
              obtain ⟨cnt, hcnt⟩ : ∃ cnt : Nat, (num b p ((M : Int) - es.length)).1 = (cnt : Int) := ⟨(num b p ((M : Int) - es.length)).1.toNat, by omega⟩
              replace hw := hw.1
              rw [hcnt] at hw hend hR3 ⊢
              rw [Int.toNat_natCast] at hR3
              have HR3 := Lib.hid hR3
              clear hcnt hR3 HR2 hbd
              generalize (num b p ((M : Int) - es.length)).2.1 = pl at *
              obtain ⟨g1, g2, g3, g4, g5, g6, g7⟩ := HDT.out.cells
              have hg2 : (((u : Int) == (N : Int) - 1) = false) ∨ (((u : Int) == (N : Int) - 1) = true ∧ ¬ (cnt : Int) < (M : Int) - es.length) := by
                by_cases hu1 : N - u - 1 = 0
                · right
                  refine ⟨by rw [beq_iff_eq]; omega, ?_⟩
                  intro hlt2
                  exact hw ⟨hu1, by omega⟩
                · left
                  rw [beq_eq_false_iff_ne]
                  omega
              clear hw
              rcases hg2 with x1 | ⟨x1, x2⟩
              all_goals
                go_wp2_with fail
                clear g1 g2 g3 g4 g5 g6 g7
                go_loopw [10, 11] (fun kv vv wr => DRowIn b N u cnt pl es W2 R G (some ⟨g, off, none⟩) n c kv vv wr) (fun kv _ _ => (intOf kv).toNat)
                case atStart => exact ⟨cnt, [], u, pl, _, false, rfl, rfl, by omega, by simpa using HDT.out, by omega, fun _ => by rw [Nat.sub_self]; exact RowAt.start (by omega), fun h => (by cases h)⟩
                case round =>
                  obtain ⟨k, f2, v, q, vl, fail, rfl, rfl, hk, D, hq, hat, hbad2⟩ := hrel
                  clear HDT
                  obtain ⟨d1, d2, d3, d4, d5, d6, d7⟩ := D.cells
                  have hdr := D.rdr BL.out (by omega) (by omega) HR.out hl
                  obtain ⟨avl, cvl, rfl, -, hel2, -⟩ := own_edges' D.own
                  have hll : (es ++ f2).length = es.length + f2.length := List.length_append
                  obtain ⟨LL, hLL⟩ : ∃ LL, (es ++ f2).length = LL := ⟨_, rfl⟩
                  have HLL := Lib.hid hLL
                  rw [hLL] at D d4 hll
                  have hll2 : LL ≤ es.length + f2.length := Nat.le_of_eq hll
                  clear hel2 hLL hll
                  have HDR := Lib.hid hdr
                  have HD := Lib.hid D
                  have HAT := Lib.hid hat
                  have HBAD2 := Lib.hid hbad2
                  clear D hat hbad2 hdr
                  cases fail
                  · have hat := HAT.out rfl
                    have hv1 := hat.2.2.1
                    have hv2 := hat.2.2.2.1
                    have hle2 : f2.length ≤ cnt - k := Nat.le_of_eq hat.1
                    have hle3 : cnt - k ≤ f2.length := Nat.le_of_eq hat.1.symm
                    by_cases hk0 : (0 : Int) < (k : Int)
                    · have T3 := take_num R (some ⟨g, off, none⟩) n c b q ((N : Int) - 1 - v).toNat wr h256 hn (by omega) HDR.out
                      rw [show ((((N : Int) - 1 - v).toNat : Nat) : Int) = (N : Int) - 1 - v by omega] at T3
                      have t4 : IntKind.i64.wrap ((N : Int) - 1 - v) = (N : Int) - 1 - v := by rw [IntKind.wrap_i64]; omega
                      have t5 : IntKind.i64.wrap ((N : Int) - 1) = (N : Int) - 1 := by rw [IntKind.wrap_i64]; omega
                      have T4 := Lib.hid T3
                      have HA := Lib.hid hat
                      clear T3 hat
                      go_wp2_with fail
                      refine T4.out.mono ?_
                      rintro e w4 ⟨rfl, hr4, hc4⟩
                      have hnle := num_le b q ((N : Int) - 1 - v) (by omega)
                      have hnge := num_ge (b := b) (at_ := q) (most := (N : Int) - 1 - v) (by omega)
                      have HDU := Lib.hid (HD.out.took hRl hr4 hc4)
                      clear hr4 hc4 HD HDR d1 d2 d3 d4 d5 d6 d7 T4
                      cases hbd : (num b q ((N : Int) - 1 - v)).2.2
                      · have hend2 := num_end b q _ hbd
                        have HA2 := Lib.hid (HA.out.good (by omega) hbd)
                        rw [hbd] at HDU
                        generalize (num b q ((N : Int) - 1 - v)).2.1 = pl2 at *
                        generalize (num b q ((N : Int) - 1 - v)).1 = d at *
                        clear HA
                        obtain ⟨g1, g2, g3, g4, g5, g6, g7⟩ := HDU.out.cells
                        have t6 : IntKind.i64.wrap (v + d) = v + d := by rw [IntKind.wrap_i64]; omega
                        have HRW := Lib.hid (Row.new w4 #[.int .i64 (u : Int), .int .i64 (v + d)] 36 (0, 0) : Row (w4.alloc (.cells #[.int .i64 (u : Int), .int .i64 (v + d)] 36)) (some ⟨w4.heap.size, 0, none⟩) (flatE [((u : Int), v + d)]))
                        have hws4 := HDU.out.chg.size
                        have HO : Hid (w4.ownsRow W2.heap.size 36 2 (.slice avl LL cvl) LL (flatE (es ++ f2))) := Lib.hid (by have h := HDU.out.own; rw [HLL.out] at h; exact h)
                        go_wp2_with (at_builtin; go_must (refine wpList_append rfl (.tmp 108) (.tmp 112) _ rfl el_edge W2.heap.size (.slice avl LL cvl) LL (flatE (es ++ f2)) rfl (HO.out.alloc _) _ 1 1 (flatE [((u : Int), v + d)]) rfl rfl HRW.out (flatE_one _) (by unfold maxLen; omega) (by omega) (by simp; omega) ?_))
                        intro v2 w5 hown5 hg5 _ _
                        rw [← flatE_append] at hown5
                        obtain ⟨a2, c2, rfl, -, -, -⟩ := own_edges' hown5
                        obtain ⟨hB5, hD5⟩ := HDU.out.app hRl hGl (v2 := .slice a2 (LL + 1) c2) (L := es ++ (f2 ++ [((u : Int), v + d)])) (by
                          have hL : (es ++ (f2 ++ [((u : Int), v + d)])).length = LL + 1 := by rw [← HLL.out]; simp; omega
                          rw [hL, ← List.append_assoc]
                          exact hown5) hg5
                        have m1 : w5.cell? ⟨G, 1, none⟩ = some (.slice avl LL cvl) := hB5.cell 1
                        have mf := hB5.frozen 1
                        have HD5 := Lib.hid hD5
                        clear hown5 hg5 hB5 hD5 HRW HDU HO g1 g2 g3 g4 g5 g6 g7
                        go_wp2_with fail
                        go_roundw
                        case rel => exact ⟨k - 1, f2 ++ [((u : Int), v + d)], v + d, pl2, _, false, by go_num, rfl, by omega, HD5.out, by omega, fun _ => by rw [show cnt - (k - 1) = cnt - k + 1 by omega]; exact HA2.out, fun h => (by cases h)⟩
                        case measure => simp [intOf]; omega
                      · have HA2 := Lib.hid (HA.out.bad (by omega) hbd)
                        have hd0 : (num b q ((N : Int) - 1 - v)).1 = 0 := num_zero hbd
                        rw [hbd] at HDU
                        rw [hd0]
                        generalize (num b q ((N : Int) - 1 - v)).2.1 = pl2 at *
                        clear hd0 HA hbd
                        obtain ⟨d, hd⟩ : ∃ d : Int, d = 0 := ⟨_, rfl⟩
                        obtain ⟨g1, g2, g3, g4, g5, g6, g7⟩ := HDU.out.cells
                        have t6 : IntKind.i64.wrap v = v := by rw [IntKind.wrap_i64]; omega
                        have HRW := Lib.hid (Row.new w4 #[.int .i64 (u : Int), .int .i64 (v)] 36 (0, 0) : Row (w4.alloc (.cells #[.int .i64 (u : Int), .int .i64 (v)] 36)) (some ⟨w4.heap.size, 0, none⟩) (flatE [((u : Int), v)]))
                        have hws4 := HDU.out.chg.size
                        have HO : Hid (w4.ownsRow W2.heap.size 36 2 (.slice avl LL cvl) LL (flatE (es ++ f2))) := Lib.hid (by have h := HDU.out.own; rw [HLL.out] at h; exact h)
                        go_wp2_with (at_builtin; go_must (refine wpList_append rfl (.tmp 108) (.tmp 112) _ rfl el_edge W2.heap.size (.slice avl LL cvl) LL (flatE (es ++ f2)) rfl (HO.out.alloc _) _ 1 1 (flatE [((u : Int), v)]) rfl rfl HRW.out (flatE_one _) (by unfold maxLen; omega) (by omega) (by simp; omega) ?_))
                        intro v2 w5 hown5 hg5 _ _
                        rw [← flatE_append] at hown5
                        obtain ⟨a2, c2, rfl, -, -, -⟩ := own_edges' hown5
                        obtain ⟨hB5, hD5⟩ := HDU.out.app hRl hGl (v2 := .slice a2 (LL + 1) c2) (L := es ++ (f2 ++ [((u : Int), v)])) (by
                          have hL : (es ++ (f2 ++ [((u : Int), v)])).length = LL + 1 := by rw [← HLL.out]; simp; omega
                          rw [hL, ← List.append_assoc]
                          exact hown5) hg5
                        have m1 : w5.cell? ⟨G, 1, none⟩ = some (.slice avl LL cvl) := hB5.cell 1
                        have mf := hB5.frozen 1
                        have HD5 := Lib.hid hD5
                        clear hown5 hg5 hB5 hD5 HRW HDU HO g1 g2 g3 g4 g5 g6 g7
                        go_wp2_with fail
                        go_roundw
                        case rel => exact ⟨k - 1, f2 ++ [((u : Int), v)], v, pl2, _, true, by go_num, rfl, by omega, HD5.out, by omega, fun h => (by cases h), fun _ => HA2.out⟩
                        case measure => simp [intOf]; omega
                    · obtain rfl : k = 0 := by omega
                      rw [Nat.sub_zero] at hat
                      have hwh := hat.whole
                      have hR4 := HR3.out
                      rw [hwh, if_neg (by simp)] at hR4
                      have HR4 := Lib.hid hR4
                      have HDV := Lib.hid HD.out
                      have hk00 : ¬ (0 : Int) < ((0 : Nat) : Int) := by omega
                      have hk01 : ((0 : Nat) : Int) = 0 := rfl
                      clear hR4 hwh hat
                      go_wp2_with fail
                      go_roundw
                      case rel => exact ⟨u + 1, es ++ f2, q, _, false, by go_num, by omega, HDV.out, fun _ => by rw [List.length_append]; omega, by omega, fun _ => by rw [show N - (u + 1) = N - u - 1 by omega]; exact HR4.out, fun h => (by cases h)⟩
                      case measure => simp [intOf]; omega
                  · have hbd := HBAD2.out rfl
                    have hR4 := HR3.out
                    rw [hbd, if_pos rfl] at hR4
                    have HR4 := Lib.hid hR4
                    have HDV := Lib.hid HD.out
                    clear hR4 hbd
                    go_wp2_with fail
                    all_goals
                      go_roundw
                      case rel => exact ⟨u + 1, es ++ f2, q, _, true, by go_num, by omega, HDV.out, fun h => (by cases h), by omega, fun h => (by cases h), fun _ => by rw [← HR4.out]⟩
                      case measure => simp [intOf]; omega
          · have hR3 := HR2.out
            have hn0 : (num b p ((M : Int) - es.length)).1 = 0 := num_zero hbd
            rw [rows_bad1 hbd] at hR3
            have HR3 := Lib.hid hR3
            rw [hbd] at HDT
            rw [hn0]
            clear hR3 HR2 hbd hn0
            generalize (num b p ((M : Int) - es.length)).2.1 = pl at *
            obtain ⟨g1, g2, g3, g4, g5, g6, g7⟩ := HDT.out.cells
            have x0 : ((u : Int) == (N : Int) - 1) = true ∨ ((u : Int) == (N : Int) - 1) = false := by cases ((u : Int) == (N : Int) - 1) <;> simp
            rcases x0 with x1 | x1
            all_goals
              go_wp2_with fail
              go_loopw [10, 11] (fun kv vv wr => Still (.int .i64 0) (.int .i64 (u : Int)) w3 kv vv wr) (fun _ _ _ => 0)
              case atStart => exact ⟨rfl, rfl, rfl⟩
              case round =>
                obtain ⟨rfl, rfl, rfl⟩ := hrel
                go_wp2_with fail
                all_goals
                  go_roundw
                  case rel => exact ⟨u + 1, es, pl, _, true, by go_num, by omega, HDT.out, fun h => (by cases h), by omega, fun h => (by cases h), fun _ => by rw [← HR3.out]⟩
                  case measure => simp [intOf]; omega
        · obtain rfl : N = u := by omega
          rw [Nat.sub_self, decRows] at hR2
          have HR2 := Lib.hid hR2
          clear hR2
          by_cases hpn : p = n
          · subst hpn
            have x1 : ¬ (n : Int) < n := by omega
            have hD : decEnd b N R0 = ((N : Int), es, 0, 0) := by
              rw [← HR2.out]
              unfold decEnd
              rw [if_neg (by simp only; intro h; rcases h with h | h <;> simp_all)]
            have HD9 := Lib.hid hD
            clear hD
            obtain ⟨hB, hbw⟩ := decG_none HS.out BL.out hRw hGw HD.out
            have r0 : wr.cell? ⟨w.heap.size, 0, none⟩ = some (.int .i64 0) := hB.cell 0
            have r1 : wr.cell? ⟨w.heap.size, 1, none⟩ = some (.slice none 0 0) := hB.cell 1
            have f0 := hB.frozen 0
            have f1 := hB.frozen 1
            have D1 := Lib.hid hB
            have HW := Lib.hid hbw
            clear hB hbw
            have hGS : w.heap.size ≠ G := hSG
            go_wp2_with fail
            obtain ⟨_, r2, r3⟩ := res_cells D1.out (.int .i64 (N : Int)) (.slice av es.length cv)
            (try simp only [Exit.inBlock, Exit.then])
            refine bodyPost_ret (by simp [results, Try.results34, go_sem, r2, r3]; try rfl) rfl ?_
            rw [HD9.out]
            exact dec_good HD.out.own (by omega) HW.out (Nat.le_refl _)
          · have x1 : p < (n : Int) := by omega
            obtain ⟨hB, hbw⟩ := decG_none HS.out BL.out hRw hGw HD.out
            have r0 : wr.cell? ⟨w.heap.size, 0, none⟩ = some (.int .i64 0) := hB.cell 0
            have r1 : wr.cell? ⟨w.heap.size, 1, none⟩ = some (.slice none 0 0) := hB.cell 1
            have f0 := hB.frozen 0
            have f1 := hB.frozen 1
            have D1 := Lib.hid hB
            have HW := Lib.hid hbw
            clear hB hbw
            go_wp2_with fail
            go_region
            go_wp2_with fail
            obtain ⟨_, r2, r3⟩ := res_cells D1.out (.int .i64 0) (.slice none 0 0)
            (try simp only [Exit.inBlock, Exit.then])
            refine bodyPost_ret (by simp [results, Try.results34, go_sem, r2, r3]; try rfl) rfl ?_
            have hD : decEnd b N R0 = (0, [], p, 3) := by
              rw [← HR2.out]
              unfold decEnd
              rw [if_pos (.inr (by simp only; omega))]
            rw [hD]
            exact dec_none_drew p D1.out HW.out (Nat.le_refl _)
      · have hR2 := HBAD.out rfl
        have HR2 := Lib.hid hR2
        clear hR2
        by_cases hlt : (u : Int) < N
        all_goals
          obtain ⟨hB, hbw⟩ := decG_none HS.out BL.out hRw hGw HD.out
          have r0 : wr.cell? ⟨w.heap.size, 0, none⟩ = some (.int .i64 0) := hB.cell 0
          have r1 : wr.cell? ⟨w.heap.size, 1, none⟩ = some (.slice none 0 0) := hB.cell 1
          have f0 := hB.frozen 0
          have f1 := hB.frozen 1
          have D1 := Lib.hid hB
          have HW := Lib.hid hbw
          clear hB hbw
          go_wp2_with fail
          go_region
          go_wp2_with fail
          obtain ⟨_, r2, r3⟩ := res_cells D1.out (.int .i64 0) (.slice none 0 0)
          (try simp only [Exit.inBlock, Exit.then])
          refine bodyPost_ret (by simp [results, Try.results34, go_sem, r2, r3]; try rfl) rfl ?_
          have hD : decEnd b N R0 = (0, [], p, 3) := by
            have hR3 := HR2.out
            unfold decEnd
            rw [hR3, if_pos (.inl rfl)]
          rw [hD]
          exact dec_none_drew p D1.out HW.out (Nat.le_refl _)

end Go.Proofs.Ytlepmefknglkeaa.Gr
