/- Texts of mine, packed: MfRead, MfPack, MfUnpack, MfWords, MfStand. -/
import Derived.Test.YtmmkncocgjgapaaDoorK5
import Derived.Laws.ResultCell
import Derived.Laws.BytesArg
import Derived.Shelf.Spec.RuneCount
set_option linter.unusedVariables false

/- The walk of manifest.read (printed by genmfread.py out of mfread.head). -/
namespace Go.Proofs.YtmmkncocgjgapaaDoor.Mf
open Go.RowKit Dev

section
variable {B s : Nat} {w0 w w' : World} {v1 v2 v3 x1 x2 x3 : Value} {k1 k2 k3 : List Value} {O : Nat → Prop} {a rl rn : Nat} {pv : Value} {D : Dv}
theorem Tri.self (h : Tri B s w0 v1 v2 v3 x1 x2 x3 k1 k2 k3 w) : Tri B s w v1 v2 v3 x1 x2 x3 k1 k2 k3 w := ⟨h.blk, h.o1, h.o2, h.o3, h.ne12, h.ne13, h.ne23, Below.refl _ _, h.hs, h.size⟩
theorem Tri.chg {S : Nat → Prop} (h : Tri B s w0 v1 v2 v3 x1 x2 x3 k1 k2 k3 w) (hc : Chg S w w') (hS : ¬ S s) (hS2 : ∀ g, B ≤ g → ¬ S g) : Tri B s w' v1 v2 v3 x1 x2 x3 k1 k2 k3 w' :=
  ⟨h.blk.chg hc hS, own_chg h.o1 hc (fun g hg => hS2 g (h.o1.lt g hg).1), own_chg h.o2 hc (fun g hg => hS2 g (h.o2.lt g hg).1), own_chg h.o3 hc (fun g hg => hS2 g (h.o3.lt g hg).1), h.ne12, h.ne13, h.ne23, Below.refl _ _, h.hs, Nat.le_trans h.size hc.size⟩
theorem at_keep (h : At w O a rl rn pv D) (hO : ∀ g, O g → g < B) (ha : a < B) (hl : rl < B) (hn : rn < B) (hb : Below B w w') : At w' O a rl rn pv D :=
  h.chg (Chg.of_below hb) (by omega) (by omega) (by omega) (fun g hg => by have := hO g (h.pout g hg); omega) (fun g cs hg _ => by have := hO g hg; omega)
end
theorem fl_one (p : List (BitVec 64)) : ∀ u ∈ Crc.words p, u.oneCell' = true := by
  intro u hu
  unfold Crc.words at hu
  obtain ⟨x, _, rfl⟩ := List.mem_map.1 hu
  rfl
theorem own_form3 {w : World} {base : Nat} {e : TypeId} {size : Nat} {v : Value} {n : Nat} {xs : List Value} (h : w.ownsRow base e size v n xs) : ∃ a m c, v = .slice a m c := by
  obtain ⟨a, c, h⟩ := own_form h
  exact ⟨a, _, c, h⟩
def ReadTold (w : World) (O : Nat → Prop) (a rl rn : Nat) (pv : Value) (D : Dv) (Cs : List BlkC) (e : Ending) (w' : World) : Prop :=
  ∃ x1 x2 x3, e = .returned (.tuple #[.agg #[x1, x2, x3], .int .i64 0]) ∧ w'.ownsRow w.heap.size 35 1 x1 (allOf Cs).length (Crc.words (allOf Cs)) ∧ w'.ownsRow w.heap.size 35 1 x2 (tagsOf Cs).length (Crc.words (tagsOf Cs)) ∧
    w'.ownsRow w.heap.size 3 1 x3 (lensOf Cs).length ((lensOf Cs).map (.int .i64)) ∧ At w' O a rl rn pv (plus D Cs.length) ∧ Chg (fun k => k = a) w w'
def ReadLoop (w : World) (a rl rn : Nat) (pv : Value) (O : Nat → Prop) (D : Dv) (Cs : List BlkC) (iv : Value) (wr : World) : Prop :=
  ∃ (j : Nat) (x1 x2 x3 : Value), iv = .int .i64 (j : Int) ∧ j ≤ Cs.length ∧ Tri (w.heap.size + 2) (w.heap.size + 1) wr x1 x2 x3 x1 x2 x3 (Crc.words (allOf (Cs.take j))) (Crc.words (tagsOf (Cs.take j))) ((lensOf (Cs.take j)).map (.int .i64)) wr ∧
    Blk wr w.heap.size 70 #[.slice none 0 0, .slice none 0 0, .slice none 0 0] ∧ At wr O a rl rn pv (plus D j) ∧ Chg (fun k => k = a) w wr
theorem words_append (a b : List (BitVec 64)) : Crc.words (a ++ b) = Crc.words a ++ Crc.words b := by simp [Crc.words]

set_option maxRecDepth 100000 in
set_option maxHeartbeats 8000000 in
theorem read_any {w : World} {O : Nat → Prop} {a rl rn : Nat} {pv : Value} {D : Dv} (h : At w O a rl rn pv D) (hcalm : Calm D) (Cs : List BlkC) (first : Nat) (hin : first + Cs.length ≤ D.blocks) (hcs : ∀ j (hj : j < Cs.length), D.words ((first + j : Nat) : Int) = blkW D.size (first + j) Cs[j]) (hp : ∀ p t, some (p, t) ∈ Cs → p.length + 2 ≤ D.size)
    (hac : D.acts + Cs.length < 1099511627776) (hk : Cs.length ≤ 1000) :
    Calls Tryd.prog 33 #[.pointer (some ⟨a, 0, none⟩), .int .i64 (first : Int), .int .i64 (Cs.length : Int)] w (ReadTold w O a rl rn pv D Cs) := by
  obtain ⟨⟨s8, s256⟩, hbl, _⟩ := h.nums.fit
  have hal : a < w.heap.size := h.box.lt
  have hll : rl < w.heap.size := h.lasts.lt
  have hnl : rn < w.heap.size := h.now.lt
  obtain ⟨O', hO'⟩ : ∃ O' : Nat → Prop, O' = fun g => O g ∧ g < w.heap.size := ⟨_, rfl⟩
  have h' : At w O' a rl rn pv D := by rw [hO']; exact h.mono (fun g h1 h2 => ⟨h2, h1⟩)
  have HOUT := Lib.hid (show ∀ w' D', At w' O' a rl rn pv D' → At w' O a rl rn pv D' from fun w' D' h => h.mono (fun g _ h => by rw [hO'] at h; exact h.1))
  have HALT2 := Lib.hid (show ∀ g, O' g → g < w.heap.size + 1 from fun g h => by rw [hO'] at h; exact Nat.lt_succ_of_lt h.2)
  have HALT3 := Lib.hid (show ∀ g, O' g → g < w.heap.size from fun g h => by rw [hO'] at h; exact h.2)
  clear hO'
  have H := Lib.hid h'
  have HC := Lib.hid hcalm
  have HP := Lib.hid hp
  have HCS := Lib.hid hcs
  have HBL := Lib.hid hbl
  have HIN := Lib.hid hin
  have HAC := Lib.hid hac
  have HS8 := Lib.hid (And.intro s8 s256)
  clear h h' hcalm hp hcs hbl hac s8 s256
  go_enter Tryd.func33, Tryd.ntmps33
  go_wp2_with fail
  go_loopw [16] (fun iv wr => ReadLoop w a rl rn pv O' D Cs iv wr) (fun iv _ => Cs.length - (intOf iv).toNat)
  case atStart =>
    have hb1 : Below w.heap.size w ((w.alloc (.cells #[.slice none 0 0, .slice none 0 0, .slice none 0 0] 70)).alloc (.cells #[.slice none 0 0, .slice none 0 0, .slice none 0 0] 70)) := ((Below.refl _ _).alloc (Nat.le_refl _) _).alloc (by simp) _
    refine ⟨0, .slice none 0 0, .slice none 0 0, .slice none 0 0, rfl, Nat.zero_le _, ⟨?_, World.ownsRow_nil _ _ _ _, World.ownsRow_nil _ _ _ _, World.ownsRow_nil _ _ _ _, (fun g h => by cases h), (fun g h => by cases h), (fun g h => by cases h), Below.refl _ _, by omega, by simp⟩, (Blk.new w _ _).alloc _, H.out.below hb1, Chg.of_below' hb1⟩
    have := Blk.new (w.alloc (.cells #[.slice none 0 0, .slice none 0 0, .slice none 0 0] 70)) 70 #[.slice none 0 0, .slice none 0 0, .slice none 0 0]
    simpa using this
  case round =>
    clear H
    obtain ⟨j, x1, x2, x3, rfl, hj, hT, hRB, hA, hCh⟩ := hrel
    by_cases hlt : j < Cs.length
    · have hlt2 : (j : Int) < (Cs.length : Int) := by omega
      have i0 : (0 : Int) ≤ (j : Int) := by omega
      have hw1 : IntKind.i64.wrap ((first : Int) + (j : Int)) = ((first + j : Nat) : Int) := by have := HBL.out; have := HIN.out; rw [IntKind.wrap_i64]; omega
      have hrd := (HC.out.plus j).rd (i := ((first + j : Nat) : Int)) (by omega) (by have := HIN.out; show ((first + j : Nat) : Int) < (D.blocks : Int); omega)
      rw [plus_plus] at hrd
      have HR := Lib.hid (rd_ok (i := ((first + j : Nat) : Int)) hA (by rw [hrd]) (by have := HAC.out; show D.acts + j + 1 < _; omega))
      have HRD := Lib.hid hrd
      have HW := Lib.hid (HCS.out j hlt)
      have HT := Lib.hid hT
      have HRB := Lib.hid hRB
      have HCH := Lib.hid hCh
      have HM := Lib.hid (And.intro hj hlt)
      have HTA := Lib.hid (show allOf (Cs.take (j + 1)) = allOf (Cs.take j) ++ payC Cs[j] from by rw [List.take_succ_eq_append_getElem hlt, allOf_add])
      have HTT := Lib.hid (show tagsOf (Cs.take (j + 1)) = tagsOf (Cs.take j) ++ tagC Cs[j] from by rw [List.take_succ_eq_append_getElem hlt, tagsOf_add])
      have HTL := Lib.hid (show lensOf (Cs.take (j + 1)) = lensOf (Cs.take j) ++ lenC Cs[j] from by rw [List.take_succ_eq_append_getElem hlt, lensOf_add])
      have HPJ := Lib.hid (show ∀ p t, Cs[j] = some (p, t) → p.length + 2 ≤ D.size from fun p t e => HP.out p t (e ▸ List.getElem_mem hlt))
      have hL1 : (allOf (Cs.take j)).length ≤ 256000 := by
        have := all_len HS8.out.2 (Cs := Cs.take j) (fun p t h => HP.out p t (List.mem_of_mem_take h))
        have h2 : (Cs.take j).length ≤ 1000 := by rw [List.length_take]; omega
        omega
      have hL2 : (tagsOf (Cs.take j)).length ≤ 1000 := by have := tags_len (Cs.take j); rw [List.length_take] at this; omega
      have hL3 : (lensOf (Cs.take j)).length ≤ 1000 := by have := lens_len (Cs.take j); rw [List.length_take] at this; omega
      have HLEN := Lib.hid (And.intro hL1 (And.intro hL2 hL3))
      generalize Cs[j] = cj at *
      clear hT hRB hA hCh hj hlt hrd hL1 hL2 hL3 hin
      go_wp2_with fail
      refine HR.out.mono ?_
      rintro e w2 ⟨g, c, rfl, ho2, hg2, hA2, hc2⟩
      obtain ⟨a', c', hv, hrow, hq1, hq2, hlen⟩ := own_slice ho2
      injection hv with hv1 hv2 hv3
      subst hv1
      subst hv3
      rw [HRD.out] at hA2
      have HA2 := Lib.hid hA2
      have HCH2 := Lib.hid (HCH.out.trans hc2 (fun _ _ h => h))
      have HT2 := Lib.hid (HT.out.chg hc2 (by omega) (fun g hg => by omega))
      have HRB2 := Lib.hid (HRB.out.chg hc2 (by omega))
      have hrow2 : Row w2 (some ⟨g, 0, none⟩) (blkW D.size (first + j) cj) := HW.out ▸ hrow
      have HG := Lib.hid (get_blk cj D.size (first + j) (some ⟨g, 0, none⟩) c w2 hrow2 HS8.out.1 HS8.out.2 (by have := HBL.out; have := HIN.out; omega) hq1 hq2 HPJ.out)
      clear hrow hrow2 hA2 hc2 ho2 hlen HR HW HRD HT HRB HCH
      go_wp2_with fail
      refine HG.out.mono ?_
      rintro e w3 (⟨p, t, b, pc, rfl, rfl, hrp, hb3⟩ | ⟨rfl, rfl, hb3⟩)
      · have HT3 := Lib.hid (HT2.out.step hb3).self
        have HRB3 := Lib.hid (HRB2.out.below hb3 HRB2.out.lt)
        have HA3 := Lib.hid (HA2.out.below hb3)
        have HCH3 := Lib.hid (HCH2.out.then_below hb3)
        have HP3 := Lib.hid hrp
        clear HT2 HRB2 HA2 HCH2 hrp hb3 HG
        go_wp2_with fail
        have hpl := HPJ.out p t rfl
        have hs256 := HS8.out.2
        have hbd : Below w3.heap.size w3 w3.drew := (Below.refl _ _).drew
        have T0 := Lib.hid (HT3.out.step hbd).self
        have HRB4 := Lib.hid (HRB3.out.below hbd HRB3.out.lt)
        have HA4 := Lib.hid (HA3.out.below hbd)
        have HCH4 := Lib.hid (HCH3.out.then_below hbd)
        have P0 := Lib.hid (HP3.out.below hbd)
        clear HT3 HRB3 HA3 HCH3 HP3 hbd
        refine as_begin (TriF (w.heap.size + 1) x1 x2 x3) (fun j => decide (16 ≤ j)) 21 rfl (by kernel_rfl) T0.out.f ?_
        generalize w3.drew = W0 at *
        refine as_read (i := 0) _ (.pointer (some ⟨w.heap.size + 1, 0, none⟩)) T0.out.f (fun _ _ d _ _ h => by cases d <;> exact h) rfl (by kernel_rfl) rfl (fun w' hF => by obtain ⟨u0, u1, u2⟩ := hF; simp [execOp, Act.eval, go_sem]) ?_
        refine as_read (i := 1) _ (x1) T0.out.f (fun _ _ d _ _ h => by cases d <;> exact h) rfl (by kernel_rfl) rfl (fun w' hF => by obtain ⟨u0, u1, u2⟩ := hF; simp [execOp, Act.eval, go_sem, u0]) ?_
        refine as_read (i := 2) _ (.slice b p.length pc) T0.out.f (fun _ _ d _ _ h => by cases d <;> exact h) rfl (by kernel_rfl) rfl (fun w' hF => by obtain ⟨u0, u1, u2⟩ := hF; simp [execOp, Act.eval, go_sem]) ?_
        refine as_read (i := 4) _ (.pointer (some ⟨w.heap.size + 1, 1, none⟩)) T0.out.f (fun _ _ d _ _ h => by cases d <;> exact h) rfl (by kernel_rfl) rfl (fun w' hF => by obtain ⟨u0, u1, u2⟩ := hF; simp [execOp, Act.eval, go_sem]) ?_
        refine as_read (i := 5) _ (x2) T0.out.f (fun _ _ d _ _ h => by cases d <;> exact h) rfl (by kernel_rfl) rfl (fun w' hF => by obtain ⟨u0, u1, u2⟩ := hF; simp [execOp, Act.eval, go_sem, u1]) ?_
        refine as_read (i := 6) _ (.int .u64 (Crc.I64 t)) T0.out.f (fun _ _ d _ _ h => by cases d <;> exact h) rfl (by kernel_rfl) rfl (fun w' hF => by obtain ⟨u0, u1, u2⟩ := hF; simp [execOp, Act.eval, go_sem]) ?_
        refine as_read (i := 9) _ (.pointer (some ⟨w.heap.size + 1, 2, none⟩)) T0.out.f (fun _ _ d _ _ h => by cases d <;> exact h) rfl (by kernel_rfl) rfl (fun w' hF => by obtain ⟨u0, u1, u2⟩ := hF; simp [execOp, Act.eval, go_sem]) ?_
        refine as_read (i := 10) _ (x3) T0.out.f (fun _ _ d _ _ h => by cases d <;> exact h) rfl (by kernel_rfl) rfl (fun w' hF => by obtain ⟨u0, u1, u2⟩ := hF; simp [execOp, Act.eval, go_sem, u2]) ?_
        refine as_read (i := 11) _ (.slice b p.length pc) T0.out.f (fun _ _ d _ _ h => by cases d <;> exact h) rfl (by kernel_rfl) rfl (fun w' hF => by obtain ⟨u0, u1, u2⟩ := hF; simp [execOp, Act.eval, go_sem]) ?_
        refine as_read (i := 12) _ (.int .i64 (p.length : Int)) T0.out.f (fun _ _ d _ _ h => by cases d <;> exact h) rfl (by kernel_rfl) rfl (fun w' hF => by obtain ⟨u0, u1, u2⟩ := hF; simp [execOp, Act.eval, go_sem]) ?_
        refine as_alt [3, 7, 13] (by kernel_rfl) rfl (all3 ?_ ?_ ?_)
        · refine altG_mk _ rfl rfl (fun K hK => ?_)
          refine wp_append (.tmp 43) (.tmp 44) _ rfl Dev.el_u64 (w.heap.size + 2) x1 _ _ (by simp [Act.eval, go_sem]) T0.out.o1 b p.length pc (Crc.words p) (by simp [Act.eval, go_sem]) (by rw [Crc.words_length]; omega) P0.out (fl_one _) (by rw [Crc.words_length]; have := HLEN.out; have := hpl; unfold maxLen; omega) (by rw [Crc.words_length]; have := HLEN.out; have := hpl; omega) T0.out.size ?_
          intro y1 W1 a1 a2 a3 a4
          have T1 := Lib.hid (T0.out.app1 a1 a2 a3 a4 (Crc.words_length p))
          refine hK.out _ _ (fun _ => T1.out.f) ?_
          clear hK K a1 a2 a3 a4
          refine as_read (i := 15) _ (.pointer (some ⟨w.heap.size + 1, 0, none⟩)) T1.out.f (fun _ _ d _ _ h => by cases d <;> exact h) rfl (by kernel_rfl) rfl (fun w' hF => by simp [execOp, Act.eval, go_sem]) ?_
          refine as_alt [7, 13] (by kernel_rfl) rfl (all2 ?_ ?_)
          · refine altG_mk _ rfl rfl (fun K hK => ?_)
            go_simp
            have T2 := Lib.hid (T1.out.alloc (.cells #[.int .u64 (Crc.I64 t)] 35))
            have F2 := Lib.hid (Fr.new T1.out (.int .u64 (Crc.I64 t)) 35)
            refine hK.out _ _ (fun _ => T2.out.f) ?_
            clear hK K
            generalize W1.alloc (.cells #[.int .u64 (Crc.I64 t)] 35) = W2 at *
            refine as_alt [8, 13] (by kernel_rfl) rfl (all2 ?_ ?_)
            · refine altG_mk _ rfl rfl (fun K hK => ?_)
              refine wp_append (.tmp 47) (.tmp 49) _ rfl Dev.el_u64 (w.heap.size + 2) x2 _ _ (by simp [Act.eval, go_sem]) T2.out.o2 (some ⟨W1.heap.size, 0, none⟩) 1 1 [.int .u64 (Crc.I64 t)] (by simp [Act.eval, go_sem]) rfl F2.out.row (by intro u hu; simp at hu; subst hu; rfl) (by rw [Crc.words_length]; have := HLEN.out; unfold maxLen; omega) (by rw [Crc.words_length]; have := HLEN.out; omega) T2.out.size ?_
              intro y3 W3 a1 a2 a3 a4
              have T3 := Lib.hid (T2.out.app2 a1 a2 a3 a4 rfl)
              refine hK.out _ _ (fun _ => T3.out.f) ?_
              clear hK K a1 a2 a3 a4
              refine as_alt [13] (by kernel_rfl) rfl (all1 ?_)
              refine altG_mk _ rfl rfl (fun K hK => ?_)
              go_simp
              have T4 := Lib.hid (T3.out.alloc (.cells #[.int .i64 (p.length : Int)] 3))
              have F4 := Lib.hid (Fr.new T3.out (.int .i64 (p.length : Int)) 3)
              have G4 := Lib.hid (F2.out.alloc (.cells #[.int .i64 (p.length : Int)] 3))
              refine hK.out _ _ (fun _ => T4.out.f) ?_
              clear hK K
              generalize W3.alloc (.cells #[.int .i64 (p.length : Int)] 3) = W4 at *
              refine as_alt [14] (by kernel_rfl) rfl (all1 ?_)
              refine altG_mk _ rfl rfl (fun K hK => ?_)
              refine wp_append (.tmp 52) (.tmp 55) _ rfl el_int (w.heap.size + 2) x3 _ _ (by simp [Act.eval, go_sem]) T4.out.o3 (some ⟨W3.heap.size, 0, none⟩) 1 1 [.int .i64 (p.length : Int)] (by simp [Act.eval, go_sem]) rfl F4.out.row (by intro u hu; simp at hu; subst hu; rfl) (by rw [List.length_map]; have := HLEN.out; unfold maxLen; omega) (by rw [List.length_map]; have := HLEN.out; omega) T4.out.size ?_
              intro y5 W5 a1 a2 a3 a4
              have T5 := Lib.hid (T4.out.app3 a1 a2 a3 a4 rfl)
              refine hK.out _ _ (fun _ => T5.out.f) ?_
              clear hK K a1 a2 a3 a4
              obtain ⟨e1, m1, c1, rfl⟩ := own_form3 T5.out.o1
              obtain ⟨e2, m2, c2, rfl⟩ := own_form3 T5.out.o2
              obtain ⟨e3, m3, c3, rfl⟩ := own_form3 T5.out.o3
              have TS := T5.out.stored
              have q0 := T5.out.blk.cell 0
              have q1 := (T5.out.blk.set_ 0 (.slice e1 m1 c1)).cell 1
              have q2 := ((T5.out.blk.set_ 0 (.slice e1 m1 c1)).set_ 1 (.slice e2 m2 c2)).cell 2
              have z0 := T5.out.blk.frozen 0
              have z1 := (T5.out.blk.set_ 0 (.slice e1 m1 c1)).frozen 1
              have z2 := ((T5.out.blk.set_ 0 (.slice e1 m1 c1)).set_ 1 (.slice e2 m2 c2)).frozen 2
              simp at q0 q1 q2
              have HBW := Lib.hid T5.out.base
              have HTS := Lib.hid TS
              clear TS
              refine as_alt [16] (by kernel_rfl) rfl (all1 ?_)
              refine altG_mk _ rfl rfl (fun K hK => ?_)
              go_simp
              refine hK.out _ _ (fun h => absurd h (by decide)) ?_
              clear hK K
              refine as_alt [17] (by kernel_rfl) rfl (all1 ?_)
              refine altG_mk _ rfl rfl (fun K hK => ?_)
              go_simp
              refine hK.out _ _ (fun h => absurd h (by decide)) ?_
              clear hK K
              refine as_alt [18] (by kernel_rfl) rfl (all1 ?_)
              refine altG_mk _ rfl rfl (fun K hK => ?_)
              go_simp
              refine hK.out _ _ (fun h => absurd h (by decide)) ?_
              clear hK K
              refine as_alt [19] (by kernel_rfl) rfl (all1 ?_)
              refine altG_mk _ rfl rfl (fun K hK => ?_)
              go_simp
              refine hK.out _ _ (fun h => absurd h (by decide)) ?_
              clear hK K
              refine as_alt [20] (by kernel_rfl) rfl (all1 ?_)
              refine altG_mk _ rfl rfl (fun K hK => ?_)
              go_simp
              refine hK.out _ _ (fun h => absurd h (by decide)) ?_
              clear hK K
              refine as_end (by kernel_rfl) ?_
              clear q0 q1 q2 z0 z1 z2
              generalize (((W5.setCell ⟨w.heap.size + 1, 0, none⟩ (.slice e1 m1 c1)).setCell ⟨w.heap.size + 1, 1, none⟩ (.slice e2 m2 c2)).setCell ⟨w.heap.size + 1, 2, none⟩ (.slice e3 m3 c3)) = WE at *
              have HBE := Lib.hid ((HBW.out.mono (Nat.le_succ _)).trans HTS.out.2)
              have HTE := Lib.hid HTS.out.1
              clear HTS HBW
              go_wp2_with fail
              go_roundw
              case rel => exact ⟨j + 1, _, _, _, by go_num, HM.out.2, by rw [HTA.out, HTT.out, HTL.out, words_append, words_append, List.map_append]; exact HTE.out, HRB4.out.below HBE.out (by omega), at_keep HA4.out (fun g h => HALT2.out g h) (by omega) (by omega) (by omega) HBE.out, HCH4.out.trans (Chg.of_below HBE.out) (fun k hk h => absurd h (by omega))⟩
              case measure => have := HM.out.2; simp [intOf]; omega
            · refine altG_mk _ rfl rfl (fun K hK => ?_)
              go_simp
              have T6 := Lib.hid (T2.out.alloc (.cells #[.int .i64 (p.length : Int)] 3))
              have F6 := Lib.hid (Fr.new T2.out (.int .i64 (p.length : Int)) 3)
              have G6 := Lib.hid (F2.out.alloc (.cells #[.int .i64 (p.length : Int)] 3))
              refine hK.out _ _ (fun _ => T6.out.f) ?_
              clear hK K
              generalize W2.alloc (.cells #[.int .i64 (p.length : Int)] 3) = W6 at *
              refine as_alt [8] (by kernel_rfl) rfl (all1 ?_)
              refine altG_mk _ rfl rfl (fun K hK => ?_)
              refine wp_append (.tmp 47) (.tmp 49) _ rfl Dev.el_u64 (w.heap.size + 2) x2 _ _ (by simp [Act.eval, go_sem]) T6.out.o2 (some ⟨W1.heap.size, 0, none⟩) 1 1 [.int .u64 (Crc.I64 t)] (by simp [Act.eval, go_sem]) rfl G6.out.row (by intro u hu; simp at hu; subst hu; rfl) (by rw [Crc.words_length]; have := HLEN.out; unfold maxLen; omega) (by rw [Crc.words_length]; have := HLEN.out; omega) T6.out.size ?_
              intro y7 W7 a1 a2 a3 a4
              have T7 := Lib.hid (T6.out.app2 a1 a2 a3 a4 rfl)
              have H7_13 := Lib.hid (F6.out.app2 a2 a3)
              refine hK.out _ _ (fun _ => T7.out.f) ?_
              clear hK K a1 a2 a3 a4
              refine as_alt [14] (by kernel_rfl) rfl (all1 ?_)
              refine altG_mk _ rfl rfl (fun K hK => ?_)
              refine wp_append (.tmp 52) (.tmp 55) _ rfl el_int (w.heap.size + 2) x3 _ _ (by simp [Act.eval, go_sem]) T7.out.o3 (some ⟨W2.heap.size, 0, none⟩) 1 1 [.int .i64 (p.length : Int)] (by simp [Act.eval, go_sem]) rfl H7_13.out.row (by intro u hu; simp at hu; subst hu; rfl) (by rw [List.length_map]; have := HLEN.out; unfold maxLen; omega) (by rw [List.length_map]; have := HLEN.out; omega) T7.out.size ?_
              intro y8 W8 a1 a2 a3 a4
              have T8 := Lib.hid (T7.out.app3 a1 a2 a3 a4 rfl)
              refine hK.out _ _ (fun _ => T8.out.f) ?_
              clear hK K a1 a2 a3 a4
              obtain ⟨e1, m1, c1, rfl⟩ := own_form3 T8.out.o1
              obtain ⟨e2, m2, c2, rfl⟩ := own_form3 T8.out.o2
              obtain ⟨e3, m3, c3, rfl⟩ := own_form3 T8.out.o3
              have TS := T8.out.stored
              have q0 := T8.out.blk.cell 0
              have q1 := (T8.out.blk.set_ 0 (.slice e1 m1 c1)).cell 1
              have q2 := ((T8.out.blk.set_ 0 (.slice e1 m1 c1)).set_ 1 (.slice e2 m2 c2)).cell 2
              have z0 := T8.out.blk.frozen 0
              have z1 := (T8.out.blk.set_ 0 (.slice e1 m1 c1)).frozen 1
              have z2 := ((T8.out.blk.set_ 0 (.slice e1 m1 c1)).set_ 1 (.slice e2 m2 c2)).frozen 2
              simp at q0 q1 q2
              have HBW := Lib.hid T8.out.base
              have HTS := Lib.hid TS
              clear TS
              refine as_alt [16] (by kernel_rfl) rfl (all1 ?_)
              refine altG_mk _ rfl rfl (fun K hK => ?_)
              go_simp
              refine hK.out _ _ (fun h => absurd h (by decide)) ?_
              clear hK K
              refine as_alt [17] (by kernel_rfl) rfl (all1 ?_)
              refine altG_mk _ rfl rfl (fun K hK => ?_)
              go_simp
              refine hK.out _ _ (fun h => absurd h (by decide)) ?_
              clear hK K
              refine as_alt [18] (by kernel_rfl) rfl (all1 ?_)
              refine altG_mk _ rfl rfl (fun K hK => ?_)
              go_simp
              refine hK.out _ _ (fun h => absurd h (by decide)) ?_
              clear hK K
              refine as_alt [19] (by kernel_rfl) rfl (all1 ?_)
              refine altG_mk _ rfl rfl (fun K hK => ?_)
              go_simp
              refine hK.out _ _ (fun h => absurd h (by decide)) ?_
              clear hK K
              refine as_alt [20] (by kernel_rfl) rfl (all1 ?_)
              refine altG_mk _ rfl rfl (fun K hK => ?_)
              go_simp
              refine hK.out _ _ (fun h => absurd h (by decide)) ?_
              clear hK K
              refine as_end (by kernel_rfl) ?_
              clear q0 q1 q2 z0 z1 z2
              generalize (((W8.setCell ⟨w.heap.size + 1, 0, none⟩ (.slice e1 m1 c1)).setCell ⟨w.heap.size + 1, 1, none⟩ (.slice e2 m2 c2)).setCell ⟨w.heap.size + 1, 2, none⟩ (.slice e3 m3 c3)) = WE at *
              have HBE := Lib.hid ((HBW.out.mono (Nat.le_succ _)).trans HTS.out.2)
              have HTE := Lib.hid HTS.out.1
              clear HTS HBW
              go_wp2_with fail
              go_roundw
              case rel => exact ⟨j + 1, _, _, _, by go_num, HM.out.2, by rw [HTA.out, HTT.out, HTL.out, words_append, words_append, List.map_append]; exact HTE.out, HRB4.out.below HBE.out (by omega), at_keep HA4.out (fun g h => HALT2.out g h) (by omega) (by omega) (by omega) HBE.out, HCH4.out.trans (Chg.of_below HBE.out) (fun k hk h => absurd h (by omega))⟩
              case measure => have := HM.out.2; simp [intOf]; omega
          · refine altG_mk _ rfl rfl (fun K hK => ?_)
            go_simp
            have T9 := Lib.hid (T1.out.alloc (.cells #[.int .i64 (p.length : Int)] 3))
            have F9 := Lib.hid (Fr.new T1.out (.int .i64 (p.length : Int)) 3)
            refine hK.out _ _ (fun _ => T9.out.f) ?_
            clear hK K
            generalize W1.alloc (.cells #[.int .i64 (p.length : Int)] 3) = W9 at *
            refine as_alt [7] (by kernel_rfl) rfl (all1 ?_)
            refine altG_mk _ rfl rfl (fun K hK => ?_)
            go_simp
            have T10 := Lib.hid (T9.out.alloc (.cells #[.int .u64 (Crc.I64 t)] 35))
            have F10 := Lib.hid (Fr.new T9.out (.int .u64 (Crc.I64 t)) 35)
            have G10 := Lib.hid (F9.out.alloc (.cells #[.int .u64 (Crc.I64 t)] 35))
            refine hK.out _ _ (fun _ => T10.out.f) ?_
            clear hK K
            generalize W9.alloc (.cells #[.int .u64 (Crc.I64 t)] 35) = W10 at *
            refine as_alt [8] (by kernel_rfl) rfl (all1 ?_)
            refine altG_mk _ rfl rfl (fun K hK => ?_)
            refine wp_append (.tmp 47) (.tmp 49) _ rfl Dev.el_u64 (w.heap.size + 2) x2 _ _ (by simp [Act.eval, go_sem]) T10.out.o2 (some ⟨W9.heap.size, 0, none⟩) 1 1 [.int .u64 (Crc.I64 t)] (by simp [Act.eval, go_sem]) rfl F10.out.row (by intro u hu; simp at hu; subst hu; rfl) (by rw [Crc.words_length]; have := HLEN.out; unfold maxLen; omega) (by rw [Crc.words_length]; have := HLEN.out; omega) T10.out.size ?_
            intro y11 W11 a1 a2 a3 a4
            have T11 := Lib.hid (T10.out.app2 a1 a2 a3 a4 rfl)
            have H11_13 := Lib.hid (G10.out.app2 a2 a3)
            refine hK.out _ _ (fun _ => T11.out.f) ?_
            clear hK K a1 a2 a3 a4
            refine as_alt [14] (by kernel_rfl) rfl (all1 ?_)
            refine altG_mk _ rfl rfl (fun K hK => ?_)
            refine wp_append (.tmp 52) (.tmp 55) _ rfl el_int (w.heap.size + 2) x3 _ _ (by simp [Act.eval, go_sem]) T11.out.o3 (some ⟨W1.heap.size, 0, none⟩) 1 1 [.int .i64 (p.length : Int)] (by simp [Act.eval, go_sem]) rfl H11_13.out.row (by intro u hu; simp at hu; subst hu; rfl) (by rw [List.length_map]; have := HLEN.out; unfold maxLen; omega) (by rw [List.length_map]; have := HLEN.out; omega) T11.out.size ?_
            intro y12 W12 a1 a2 a3 a4
            have T12 := Lib.hid (T11.out.app3 a1 a2 a3 a4 rfl)
            refine hK.out _ _ (fun _ => T12.out.f) ?_
            clear hK K a1 a2 a3 a4
            obtain ⟨e1, m1, c1, rfl⟩ := own_form3 T12.out.o1
            obtain ⟨e2, m2, c2, rfl⟩ := own_form3 T12.out.o2
            obtain ⟨e3, m3, c3, rfl⟩ := own_form3 T12.out.o3
            have TS := T12.out.stored
            have q0 := T12.out.blk.cell 0
            have q1 := (T12.out.blk.set_ 0 (.slice e1 m1 c1)).cell 1
            have q2 := ((T12.out.blk.set_ 0 (.slice e1 m1 c1)).set_ 1 (.slice e2 m2 c2)).cell 2
            have z0 := T12.out.blk.frozen 0
            have z1 := (T12.out.blk.set_ 0 (.slice e1 m1 c1)).frozen 1
            have z2 := ((T12.out.blk.set_ 0 (.slice e1 m1 c1)).set_ 1 (.slice e2 m2 c2)).frozen 2
            simp at q0 q1 q2
            have HBW := Lib.hid T12.out.base
            have HTS := Lib.hid TS
            clear TS
            refine as_alt [16] (by kernel_rfl) rfl (all1 ?_)
            refine altG_mk _ rfl rfl (fun K hK => ?_)
            go_simp
            refine hK.out _ _ (fun h => absurd h (by decide)) ?_
            clear hK K
            refine as_alt [17] (by kernel_rfl) rfl (all1 ?_)
            refine altG_mk _ rfl rfl (fun K hK => ?_)
            go_simp
            refine hK.out _ _ (fun h => absurd h (by decide)) ?_
            clear hK K
            refine as_alt [18] (by kernel_rfl) rfl (all1 ?_)
            refine altG_mk _ rfl rfl (fun K hK => ?_)
            go_simp
            refine hK.out _ _ (fun h => absurd h (by decide)) ?_
            clear hK K
            refine as_alt [19] (by kernel_rfl) rfl (all1 ?_)
            refine altG_mk _ rfl rfl (fun K hK => ?_)
            go_simp
            refine hK.out _ _ (fun h => absurd h (by decide)) ?_
            clear hK K
            refine as_alt [20] (by kernel_rfl) rfl (all1 ?_)
            refine altG_mk _ rfl rfl (fun K hK => ?_)
            go_simp
            refine hK.out _ _ (fun h => absurd h (by decide)) ?_
            clear hK K
            refine as_end (by kernel_rfl) ?_
            clear q0 q1 q2 z0 z1 z2
            generalize (((W12.setCell ⟨w.heap.size + 1, 0, none⟩ (.slice e1 m1 c1)).setCell ⟨w.heap.size + 1, 1, none⟩ (.slice e2 m2 c2)).setCell ⟨w.heap.size + 1, 2, none⟩ (.slice e3 m3 c3)) = WE at *
            have HBE := Lib.hid ((HBW.out.mono (Nat.le_succ _)).trans HTS.out.2)
            have HTE := Lib.hid HTS.out.1
            clear HTS HBW
            go_wp2_with fail
            go_roundw
            case rel => exact ⟨j + 1, _, _, _, by go_num, HM.out.2, by rw [HTA.out, HTT.out, HTL.out, words_append, words_append, List.map_append]; exact HTE.out, HRB4.out.below HBE.out (by omega), at_keep HA4.out (fun g h => HALT2.out g h) (by omega) (by omega) (by omega) HBE.out, HCH4.out.trans (Chg.of_below HBE.out) (fun k hk h => absurd h (by omega))⟩
            case measure => have := HM.out.2; simp [intOf]; omega
        · refine altG_mk _ rfl rfl (fun K hK => ?_)
          go_simp
          have T13 := Lib.hid (T0.out.alloc (.cells #[.int .u64 (Crc.I64 t)] 35))
          have F13 := Lib.hid (Fr.new T0.out (.int .u64 (Crc.I64 t)) 35)
          have P13 := Lib.hid (P0.out.below ((Below.refl _ _).alloc (Nat.le_refl _) (.cells #[.int .u64 (Crc.I64 t)] 35)))
          refine hK.out _ _ (fun _ => T13.out.f) ?_
          clear hK K
          generalize W0.alloc (.cells #[.int .u64 (Crc.I64 t)] 35) = W13 at *
          refine as_alt [3, 13] (by kernel_rfl) rfl (all2 ?_ ?_)
          · refine altG_mk _ rfl rfl (fun K hK => ?_)
            refine wp_append (.tmp 43) (.tmp 44) _ rfl Dev.el_u64 (w.heap.size + 2) x1 _ _ (by simp [Act.eval, go_sem]) T13.out.o1 b p.length pc (Crc.words p) (by simp [Act.eval, go_sem]) (by rw [Crc.words_length]; omega) P13.out (fl_one _) (by rw [Crc.words_length]; have := HLEN.out; have := hpl; unfold maxLen; omega) (by rw [Crc.words_length]; have := HLEN.out; have := hpl; omega) T13.out.size ?_
            intro y14 W14 a1 a2 a3 a4
            have T14 := Lib.hid (T13.out.app1 a1 a2 a3 a4 (Crc.words_length p))
            have H14_7 := Lib.hid (F13.out.app1 a2 a3)
            refine hK.out _ _ (fun _ => T14.out.f) ?_
            clear hK K a1 a2 a3 a4
            refine as_read (i := 15) _ (.pointer (some ⟨w.heap.size + 1, 0, none⟩)) T14.out.f (fun _ _ d _ _ h => by cases d <;> exact h) rfl (by kernel_rfl) rfl (fun w' hF => by simp [execOp, Act.eval, go_sem]) ?_
            refine as_alt [8, 13] (by kernel_rfl) rfl (all2 ?_ ?_)
            · refine altG_mk _ rfl rfl (fun K hK => ?_)
              refine wp_append (.tmp 47) (.tmp 49) _ rfl Dev.el_u64 (w.heap.size + 2) x2 _ _ (by simp [Act.eval, go_sem]) T14.out.o2 (some ⟨W0.heap.size, 0, none⟩) 1 1 [.int .u64 (Crc.I64 t)] (by simp [Act.eval, go_sem]) rfl H14_7.out.row (by intro u hu; simp at hu; subst hu; rfl) (by rw [Crc.words_length]; have := HLEN.out; unfold maxLen; omega) (by rw [Crc.words_length]; have := HLEN.out; omega) T14.out.size ?_
              intro y15 W15 a1 a2 a3 a4
              have T15 := Lib.hid (T14.out.app2 a1 a2 a3 a4 rfl)
              refine hK.out _ _ (fun _ => T15.out.f) ?_
              clear hK K a1 a2 a3 a4
              refine as_alt [13] (by kernel_rfl) rfl (all1 ?_)
              refine altG_mk _ rfl rfl (fun K hK => ?_)
              go_simp
              have T16 := Lib.hid (T15.out.alloc (.cells #[.int .i64 (p.length : Int)] 3))
              have F16 := Lib.hid (Fr.new T15.out (.int .i64 (p.length : Int)) 3)
              have G16 := Lib.hid (H14_7.out.alloc (.cells #[.int .i64 (p.length : Int)] 3))
              refine hK.out _ _ (fun _ => T16.out.f) ?_
              clear hK K
              generalize W15.alloc (.cells #[.int .i64 (p.length : Int)] 3) = W16 at *
              refine as_alt [14] (by kernel_rfl) rfl (all1 ?_)
              refine altG_mk _ rfl rfl (fun K hK => ?_)
              refine wp_append (.tmp 52) (.tmp 55) _ rfl el_int (w.heap.size + 2) x3 _ _ (by simp [Act.eval, go_sem]) T16.out.o3 (some ⟨W15.heap.size, 0, none⟩) 1 1 [.int .i64 (p.length : Int)] (by simp [Act.eval, go_sem]) rfl F16.out.row (by intro u hu; simp at hu; subst hu; rfl) (by rw [List.length_map]; have := HLEN.out; unfold maxLen; omega) (by rw [List.length_map]; have := HLEN.out; omega) T16.out.size ?_
              intro y17 W17 a1 a2 a3 a4
              have T17 := Lib.hid (T16.out.app3 a1 a2 a3 a4 rfl)
              refine hK.out _ _ (fun _ => T17.out.f) ?_
              clear hK K a1 a2 a3 a4
              obtain ⟨e1, m1, c1, rfl⟩ := own_form3 T17.out.o1
              obtain ⟨e2, m2, c2, rfl⟩ := own_form3 T17.out.o2
              obtain ⟨e3, m3, c3, rfl⟩ := own_form3 T17.out.o3
              have TS := T17.out.stored
              have q0 := T17.out.blk.cell 0
              have q1 := (T17.out.blk.set_ 0 (.slice e1 m1 c1)).cell 1
              have q2 := ((T17.out.blk.set_ 0 (.slice e1 m1 c1)).set_ 1 (.slice e2 m2 c2)).cell 2
              have z0 := T17.out.blk.frozen 0
              have z1 := (T17.out.blk.set_ 0 (.slice e1 m1 c1)).frozen 1
              have z2 := ((T17.out.blk.set_ 0 (.slice e1 m1 c1)).set_ 1 (.slice e2 m2 c2)).frozen 2
              simp at q0 q1 q2
              have HBW := Lib.hid T17.out.base
              have HTS := Lib.hid TS
              clear TS
              refine as_alt [16] (by kernel_rfl) rfl (all1 ?_)
              refine altG_mk _ rfl rfl (fun K hK => ?_)
              go_simp
              refine hK.out _ _ (fun h => absurd h (by decide)) ?_
              clear hK K
              refine as_alt [17] (by kernel_rfl) rfl (all1 ?_)
              refine altG_mk _ rfl rfl (fun K hK => ?_)
              go_simp
              refine hK.out _ _ (fun h => absurd h (by decide)) ?_
              clear hK K
              refine as_alt [18] (by kernel_rfl) rfl (all1 ?_)
              refine altG_mk _ rfl rfl (fun K hK => ?_)
              go_simp
              refine hK.out _ _ (fun h => absurd h (by decide)) ?_
              clear hK K
              refine as_alt [19] (by kernel_rfl) rfl (all1 ?_)
              refine altG_mk _ rfl rfl (fun K hK => ?_)
              go_simp
              refine hK.out _ _ (fun h => absurd h (by decide)) ?_
              clear hK K
              refine as_alt [20] (by kernel_rfl) rfl (all1 ?_)
              refine altG_mk _ rfl rfl (fun K hK => ?_)
              go_simp
              refine hK.out _ _ (fun h => absurd h (by decide)) ?_
              clear hK K
              refine as_end (by kernel_rfl) ?_
              clear q0 q1 q2 z0 z1 z2
              generalize (((W17.setCell ⟨w.heap.size + 1, 0, none⟩ (.slice e1 m1 c1)).setCell ⟨w.heap.size + 1, 1, none⟩ (.slice e2 m2 c2)).setCell ⟨w.heap.size + 1, 2, none⟩ (.slice e3 m3 c3)) = WE at *
              have HBE := Lib.hid ((HBW.out.mono (Nat.le_succ _)).trans HTS.out.2)
              have HTE := Lib.hid HTS.out.1
              clear HTS HBW
              go_wp2_with fail
              go_roundw
              case rel => exact ⟨j + 1, _, _, _, by go_num, HM.out.2, by rw [HTA.out, HTT.out, HTL.out, words_append, words_append, List.map_append]; exact HTE.out, HRB4.out.below HBE.out (by omega), at_keep HA4.out (fun g h => HALT2.out g h) (by omega) (by omega) (by omega) HBE.out, HCH4.out.trans (Chg.of_below HBE.out) (fun k hk h => absurd h (by omega))⟩
              case measure => have := HM.out.2; simp [intOf]; omega
            · refine altG_mk _ rfl rfl (fun K hK => ?_)
              go_simp
              have T18 := Lib.hid (T14.out.alloc (.cells #[.int .i64 (p.length : Int)] 3))
              have F18 := Lib.hid (Fr.new T14.out (.int .i64 (p.length : Int)) 3)
              have G18 := Lib.hid (H14_7.out.alloc (.cells #[.int .i64 (p.length : Int)] 3))
              refine hK.out _ _ (fun _ => T18.out.f) ?_
              clear hK K
              generalize W14.alloc (.cells #[.int .i64 (p.length : Int)] 3) = W18 at *
              refine as_alt [8] (by kernel_rfl) rfl (all1 ?_)
              refine altG_mk _ rfl rfl (fun K hK => ?_)
              refine wp_append (.tmp 47) (.tmp 49) _ rfl Dev.el_u64 (w.heap.size + 2) x2 _ _ (by simp [Act.eval, go_sem]) T18.out.o2 (some ⟨W0.heap.size, 0, none⟩) 1 1 [.int .u64 (Crc.I64 t)] (by simp [Act.eval, go_sem]) rfl G18.out.row (by intro u hu; simp at hu; subst hu; rfl) (by rw [Crc.words_length]; have := HLEN.out; unfold maxLen; omega) (by rw [Crc.words_length]; have := HLEN.out; omega) T18.out.size ?_
              intro y19 W19 a1 a2 a3 a4
              have T19 := Lib.hid (T18.out.app2 a1 a2 a3 a4 rfl)
              have H19_13 := Lib.hid (F18.out.app2 a2 a3)
              refine hK.out _ _ (fun _ => T19.out.f) ?_
              clear hK K a1 a2 a3 a4
              refine as_alt [14] (by kernel_rfl) rfl (all1 ?_)
              refine altG_mk _ rfl rfl (fun K hK => ?_)
              refine wp_append (.tmp 52) (.tmp 55) _ rfl el_int (w.heap.size + 2) x3 _ _ (by simp [Act.eval, go_sem]) T19.out.o3 (some ⟨W14.heap.size, 0, none⟩) 1 1 [.int .i64 (p.length : Int)] (by simp [Act.eval, go_sem]) rfl H19_13.out.row (by intro u hu; simp at hu; subst hu; rfl) (by rw [List.length_map]; have := HLEN.out; unfold maxLen; omega) (by rw [List.length_map]; have := HLEN.out; omega) T19.out.size ?_
              intro y20 W20 a1 a2 a3 a4
              have T20 := Lib.hid (T19.out.app3 a1 a2 a3 a4 rfl)
              refine hK.out _ _ (fun _ => T20.out.f) ?_
              clear hK K a1 a2 a3 a4
              obtain ⟨e1, m1, c1, rfl⟩ := own_form3 T20.out.o1
              obtain ⟨e2, m2, c2, rfl⟩ := own_form3 T20.out.o2
              obtain ⟨e3, m3, c3, rfl⟩ := own_form3 T20.out.o3
              have TS := T20.out.stored
              have q0 := T20.out.blk.cell 0
              have q1 := (T20.out.blk.set_ 0 (.slice e1 m1 c1)).cell 1
              have q2 := ((T20.out.blk.set_ 0 (.slice e1 m1 c1)).set_ 1 (.slice e2 m2 c2)).cell 2
              have z0 := T20.out.blk.frozen 0
              have z1 := (T20.out.blk.set_ 0 (.slice e1 m1 c1)).frozen 1
              have z2 := ((T20.out.blk.set_ 0 (.slice e1 m1 c1)).set_ 1 (.slice e2 m2 c2)).frozen 2
              simp at q0 q1 q2
              have HBW := Lib.hid T20.out.base
              have HTS := Lib.hid TS
              clear TS
              refine as_alt [16] (by kernel_rfl) rfl (all1 ?_)
              refine altG_mk _ rfl rfl (fun K hK => ?_)
              go_simp
              refine hK.out _ _ (fun h => absurd h (by decide)) ?_
              clear hK K
              refine as_alt [17] (by kernel_rfl) rfl (all1 ?_)
              refine altG_mk _ rfl rfl (fun K hK => ?_)
              go_simp
              refine hK.out _ _ (fun h => absurd h (by decide)) ?_
              clear hK K
              refine as_alt [18] (by kernel_rfl) rfl (all1 ?_)
              refine altG_mk _ rfl rfl (fun K hK => ?_)
              go_simp
              refine hK.out _ _ (fun h => absurd h (by decide)) ?_
              clear hK K
              refine as_alt [19] (by kernel_rfl) rfl (all1 ?_)
              refine altG_mk _ rfl rfl (fun K hK => ?_)
              go_simp
              refine hK.out _ _ (fun h => absurd h (by decide)) ?_
              clear hK K
              refine as_alt [20] (by kernel_rfl) rfl (all1 ?_)
              refine altG_mk _ rfl rfl (fun K hK => ?_)
              go_simp
              refine hK.out _ _ (fun h => absurd h (by decide)) ?_
              clear hK K
              refine as_end (by kernel_rfl) ?_
              clear q0 q1 q2 z0 z1 z2
              generalize (((W20.setCell ⟨w.heap.size + 1, 0, none⟩ (.slice e1 m1 c1)).setCell ⟨w.heap.size + 1, 1, none⟩ (.slice e2 m2 c2)).setCell ⟨w.heap.size + 1, 2, none⟩ (.slice e3 m3 c3)) = WE at *
              have HBE := Lib.hid ((HBW.out.mono (Nat.le_succ _)).trans HTS.out.2)
              have HTE := Lib.hid HTS.out.1
              clear HTS HBW
              go_wp2_with fail
              go_roundw
              case rel => exact ⟨j + 1, _, _, _, by go_num, HM.out.2, by rw [HTA.out, HTT.out, HTL.out, words_append, words_append, List.map_append]; exact HTE.out, HRB4.out.below HBE.out (by omega), at_keep HA4.out (fun g h => HALT2.out g h) (by omega) (by omega) (by omega) HBE.out, HCH4.out.trans (Chg.of_below HBE.out) (fun k hk h => absurd h (by omega))⟩
              case measure => have := HM.out.2; simp [intOf]; omega
          · refine altG_mk _ rfl rfl (fun K hK => ?_)
            go_simp
            have T21 := Lib.hid (T13.out.alloc (.cells #[.int .i64 (p.length : Int)] 3))
            have F21 := Lib.hid (Fr.new T13.out (.int .i64 (p.length : Int)) 3)
            have G21 := Lib.hid (F13.out.alloc (.cells #[.int .i64 (p.length : Int)] 3))
            have P21 := Lib.hid (P13.out.below ((Below.refl _ _).alloc (Nat.le_refl _) (.cells #[.int .i64 (p.length : Int)] 3)))
            refine hK.out _ _ (fun _ => T21.out.f) ?_
            clear hK K
            generalize W13.alloc (.cells #[.int .i64 (p.length : Int)] 3) = W21 at *
            refine as_alt [3] (by kernel_rfl) rfl (all1 ?_)
            refine altG_mk _ rfl rfl (fun K hK => ?_)
            refine wp_append (.tmp 43) (.tmp 44) _ rfl Dev.el_u64 (w.heap.size + 2) x1 _ _ (by simp [Act.eval, go_sem]) T21.out.o1 b p.length pc (Crc.words p) (by simp [Act.eval, go_sem]) (by rw [Crc.words_length]; omega) P21.out (fl_one _) (by rw [Crc.words_length]; have := HLEN.out; have := hpl; unfold maxLen; omega) (by rw [Crc.words_length]; have := HLEN.out; have := hpl; omega) T21.out.size ?_
            intro y22 W22 a1 a2 a3 a4
            have T22 := Lib.hid (T21.out.app1 a1 a2 a3 a4 (Crc.words_length p))
            have H22_7 := Lib.hid (G21.out.app1 a2 a3)
            have H22_13 := Lib.hid (F21.out.app1 a2 a3)
            refine hK.out _ _ (fun _ => T22.out.f) ?_
            clear hK K a1 a2 a3 a4
            refine as_read (i := 15) _ (.pointer (some ⟨w.heap.size + 1, 0, none⟩)) T22.out.f (fun _ _ d _ _ h => by cases d <;> exact h) rfl (by kernel_rfl) rfl (fun w' hF => by simp [execOp, Act.eval, go_sem]) ?_
            refine as_alt [8] (by kernel_rfl) rfl (all1 ?_)
            refine altG_mk _ rfl rfl (fun K hK => ?_)
            refine wp_append (.tmp 47) (.tmp 49) _ rfl Dev.el_u64 (w.heap.size + 2) x2 _ _ (by simp [Act.eval, go_sem]) T22.out.o2 (some ⟨W0.heap.size, 0, none⟩) 1 1 [.int .u64 (Crc.I64 t)] (by simp [Act.eval, go_sem]) rfl H22_7.out.row (by intro u hu; simp at hu; subst hu; rfl) (by rw [Crc.words_length]; have := HLEN.out; unfold maxLen; omega) (by rw [Crc.words_length]; have := HLEN.out; omega) T22.out.size ?_
            intro y23 W23 a1 a2 a3 a4
            have T23 := Lib.hid (T22.out.app2 a1 a2 a3 a4 rfl)
            have H23_13 := Lib.hid (H22_13.out.app2 a2 a3)
            refine hK.out _ _ (fun _ => T23.out.f) ?_
            clear hK K a1 a2 a3 a4
            refine as_alt [14] (by kernel_rfl) rfl (all1 ?_)
            refine altG_mk _ rfl rfl (fun K hK => ?_)
            refine wp_append (.tmp 52) (.tmp 55) _ rfl el_int (w.heap.size + 2) x3 _ _ (by simp [Act.eval, go_sem]) T23.out.o3 (some ⟨W13.heap.size, 0, none⟩) 1 1 [.int .i64 (p.length : Int)] (by simp [Act.eval, go_sem]) rfl H23_13.out.row (by intro u hu; simp at hu; subst hu; rfl) (by rw [List.length_map]; have := HLEN.out; unfold maxLen; omega) (by rw [List.length_map]; have := HLEN.out; omega) T23.out.size ?_
            intro y24 W24 a1 a2 a3 a4
            have T24 := Lib.hid (T23.out.app3 a1 a2 a3 a4 rfl)
            refine hK.out _ _ (fun _ => T24.out.f) ?_
            clear hK K a1 a2 a3 a4
            obtain ⟨e1, m1, c1, rfl⟩ := own_form3 T24.out.o1
            obtain ⟨e2, m2, c2, rfl⟩ := own_form3 T24.out.o2
            obtain ⟨e3, m3, c3, rfl⟩ := own_form3 T24.out.o3
            have TS := T24.out.stored
            have q0 := T24.out.blk.cell 0
            have q1 := (T24.out.blk.set_ 0 (.slice e1 m1 c1)).cell 1
            have q2 := ((T24.out.blk.set_ 0 (.slice e1 m1 c1)).set_ 1 (.slice e2 m2 c2)).cell 2
            have z0 := T24.out.blk.frozen 0
            have z1 := (T24.out.blk.set_ 0 (.slice e1 m1 c1)).frozen 1
            have z2 := ((T24.out.blk.set_ 0 (.slice e1 m1 c1)).set_ 1 (.slice e2 m2 c2)).frozen 2
            simp at q0 q1 q2
            have HBW := Lib.hid T24.out.base
            have HTS := Lib.hid TS
            clear TS
            refine as_alt [16] (by kernel_rfl) rfl (all1 ?_)
            refine altG_mk _ rfl rfl (fun K hK => ?_)
            go_simp
            refine hK.out _ _ (fun h => absurd h (by decide)) ?_
            clear hK K
            refine as_alt [17] (by kernel_rfl) rfl (all1 ?_)
            refine altG_mk _ rfl rfl (fun K hK => ?_)
            go_simp
            refine hK.out _ _ (fun h => absurd h (by decide)) ?_
            clear hK K
            refine as_alt [18] (by kernel_rfl) rfl (all1 ?_)
            refine altG_mk _ rfl rfl (fun K hK => ?_)
            go_simp
            refine hK.out _ _ (fun h => absurd h (by decide)) ?_
            clear hK K
            refine as_alt [19] (by kernel_rfl) rfl (all1 ?_)
            refine altG_mk _ rfl rfl (fun K hK => ?_)
            go_simp
            refine hK.out _ _ (fun h => absurd h (by decide)) ?_
            clear hK K
            refine as_alt [20] (by kernel_rfl) rfl (all1 ?_)
            refine altG_mk _ rfl rfl (fun K hK => ?_)
            go_simp
            refine hK.out _ _ (fun h => absurd h (by decide)) ?_
            clear hK K
            refine as_end (by kernel_rfl) ?_
            clear q0 q1 q2 z0 z1 z2
            generalize (((W24.setCell ⟨w.heap.size + 1, 0, none⟩ (.slice e1 m1 c1)).setCell ⟨w.heap.size + 1, 1, none⟩ (.slice e2 m2 c2)).setCell ⟨w.heap.size + 1, 2, none⟩ (.slice e3 m3 c3)) = WE at *
            have HBE := Lib.hid ((HBW.out.mono (Nat.le_succ _)).trans HTS.out.2)
            have HTE := Lib.hid HTS.out.1
            clear HTS HBW
            go_wp2_with fail
            go_roundw
            case rel => exact ⟨j + 1, _, _, _, by go_num, HM.out.2, by rw [HTA.out, HTT.out, HTL.out, words_append, words_append, List.map_append]; exact HTE.out, HRB4.out.below HBE.out (by omega), at_keep HA4.out (fun g h => HALT2.out g h) (by omega) (by omega) (by omega) HBE.out, HCH4.out.trans (Chg.of_below HBE.out) (fun k hk h => absurd h (by omega))⟩
            case measure => have := HM.out.2; simp [intOf]; omega
        · refine altG_mk _ rfl rfl (fun K hK => ?_)
          go_simp
          have T25 := Lib.hid (T0.out.alloc (.cells #[.int .i64 (p.length : Int)] 3))
          have F25 := Lib.hid (Fr.new T0.out (.int .i64 (p.length : Int)) 3)
          have P25 := Lib.hid (P0.out.below ((Below.refl _ _).alloc (Nat.le_refl _) (.cells #[.int .i64 (p.length : Int)] 3)))
          refine hK.out _ _ (fun _ => T25.out.f) ?_
          clear hK K
          generalize W0.alloc (.cells #[.int .i64 (p.length : Int)] 3) = W25 at *
          refine as_alt [3, 7] (by kernel_rfl) rfl (all2 ?_ ?_)
          · refine altG_mk _ rfl rfl (fun K hK => ?_)
            refine wp_append (.tmp 43) (.tmp 44) _ rfl Dev.el_u64 (w.heap.size + 2) x1 _ _ (by simp [Act.eval, go_sem]) T25.out.o1 b p.length pc (Crc.words p) (by simp [Act.eval, go_sem]) (by rw [Crc.words_length]; omega) P25.out (fl_one _) (by rw [Crc.words_length]; have := HLEN.out; have := hpl; unfold maxLen; omega) (by rw [Crc.words_length]; have := HLEN.out; have := hpl; omega) T25.out.size ?_
            intro y26 W26 a1 a2 a3 a4
            have T26 := Lib.hid (T25.out.app1 a1 a2 a3 a4 (Crc.words_length p))
            have H26_13 := Lib.hid (F25.out.app1 a2 a3)
            refine hK.out _ _ (fun _ => T26.out.f) ?_
            clear hK K a1 a2 a3 a4
            refine as_read (i := 15) _ (.pointer (some ⟨w.heap.size + 1, 0, none⟩)) T26.out.f (fun _ _ d _ _ h => by cases d <;> exact h) rfl (by kernel_rfl) rfl (fun w' hF => by simp [execOp, Act.eval, go_sem]) ?_
            refine as_alt [7] (by kernel_rfl) rfl (all1 ?_)
            refine altG_mk _ rfl rfl (fun K hK => ?_)
            go_simp
            have T27 := Lib.hid (T26.out.alloc (.cells #[.int .u64 (Crc.I64 t)] 35))
            have F27 := Lib.hid (Fr.new T26.out (.int .u64 (Crc.I64 t)) 35)
            have G27 := Lib.hid (H26_13.out.alloc (.cells #[.int .u64 (Crc.I64 t)] 35))
            refine hK.out _ _ (fun _ => T27.out.f) ?_
            clear hK K
            generalize W26.alloc (.cells #[.int .u64 (Crc.I64 t)] 35) = W27 at *
            refine as_alt [8] (by kernel_rfl) rfl (all1 ?_)
            refine altG_mk _ rfl rfl (fun K hK => ?_)
            refine wp_append (.tmp 47) (.tmp 49) _ rfl Dev.el_u64 (w.heap.size + 2) x2 _ _ (by simp [Act.eval, go_sem]) T27.out.o2 (some ⟨W26.heap.size, 0, none⟩) 1 1 [.int .u64 (Crc.I64 t)] (by simp [Act.eval, go_sem]) rfl F27.out.row (by intro u hu; simp at hu; subst hu; rfl) (by rw [Crc.words_length]; have := HLEN.out; unfold maxLen; omega) (by rw [Crc.words_length]; have := HLEN.out; omega) T27.out.size ?_
            intro y28 W28 a1 a2 a3 a4
            have T28 := Lib.hid (T27.out.app2 a1 a2 a3 a4 rfl)
            have H28_13 := Lib.hid (G27.out.app2 a2 a3)
            refine hK.out _ _ (fun _ => T28.out.f) ?_
            clear hK K a1 a2 a3 a4
            refine as_alt [14] (by kernel_rfl) rfl (all1 ?_)
            refine altG_mk _ rfl rfl (fun K hK => ?_)
            refine wp_append (.tmp 52) (.tmp 55) _ rfl el_int (w.heap.size + 2) x3 _ _ (by simp [Act.eval, go_sem]) T28.out.o3 (some ⟨W0.heap.size, 0, none⟩) 1 1 [.int .i64 (p.length : Int)] (by simp [Act.eval, go_sem]) rfl H28_13.out.row (by intro u hu; simp at hu; subst hu; rfl) (by rw [List.length_map]; have := HLEN.out; unfold maxLen; omega) (by rw [List.length_map]; have := HLEN.out; omega) T28.out.size ?_
            intro y29 W29 a1 a2 a3 a4
            have T29 := Lib.hid (T28.out.app3 a1 a2 a3 a4 rfl)
            refine hK.out _ _ (fun _ => T29.out.f) ?_
            clear hK K a1 a2 a3 a4
            obtain ⟨e1, m1, c1, rfl⟩ := own_form3 T29.out.o1
            obtain ⟨e2, m2, c2, rfl⟩ := own_form3 T29.out.o2
            obtain ⟨e3, m3, c3, rfl⟩ := own_form3 T29.out.o3
            have TS := T29.out.stored
            have q0 := T29.out.blk.cell 0
            have q1 := (T29.out.blk.set_ 0 (.slice e1 m1 c1)).cell 1
            have q2 := ((T29.out.blk.set_ 0 (.slice e1 m1 c1)).set_ 1 (.slice e2 m2 c2)).cell 2
            have z0 := T29.out.blk.frozen 0
            have z1 := (T29.out.blk.set_ 0 (.slice e1 m1 c1)).frozen 1
            have z2 := ((T29.out.blk.set_ 0 (.slice e1 m1 c1)).set_ 1 (.slice e2 m2 c2)).frozen 2
            simp at q0 q1 q2
            have HBW := Lib.hid T29.out.base
            have HTS := Lib.hid TS
            clear TS
            refine as_alt [16] (by kernel_rfl) rfl (all1 ?_)
            refine altG_mk _ rfl rfl (fun K hK => ?_)
            go_simp
            refine hK.out _ _ (fun h => absurd h (by decide)) ?_
            clear hK K
            refine as_alt [17] (by kernel_rfl) rfl (all1 ?_)
            refine altG_mk _ rfl rfl (fun K hK => ?_)
            go_simp
            refine hK.out _ _ (fun h => absurd h (by decide)) ?_
            clear hK K
            refine as_alt [18] (by kernel_rfl) rfl (all1 ?_)
            refine altG_mk _ rfl rfl (fun K hK => ?_)
            go_simp
            refine hK.out _ _ (fun h => absurd h (by decide)) ?_
            clear hK K
            refine as_alt [19] (by kernel_rfl) rfl (all1 ?_)
            refine altG_mk _ rfl rfl (fun K hK => ?_)
            go_simp
            refine hK.out _ _ (fun h => absurd h (by decide)) ?_
            clear hK K
            refine as_alt [20] (by kernel_rfl) rfl (all1 ?_)
            refine altG_mk _ rfl rfl (fun K hK => ?_)
            go_simp
            refine hK.out _ _ (fun h => absurd h (by decide)) ?_
            clear hK K
            refine as_end (by kernel_rfl) ?_
            clear q0 q1 q2 z0 z1 z2
            generalize (((W29.setCell ⟨w.heap.size + 1, 0, none⟩ (.slice e1 m1 c1)).setCell ⟨w.heap.size + 1, 1, none⟩ (.slice e2 m2 c2)).setCell ⟨w.heap.size + 1, 2, none⟩ (.slice e3 m3 c3)) = WE at *
            have HBE := Lib.hid ((HBW.out.mono (Nat.le_succ _)).trans HTS.out.2)
            have HTE := Lib.hid HTS.out.1
            clear HTS HBW
            go_wp2_with fail
            go_roundw
            case rel => exact ⟨j + 1, _, _, _, by go_num, HM.out.2, by rw [HTA.out, HTT.out, HTL.out, words_append, words_append, List.map_append]; exact HTE.out, HRB4.out.below HBE.out (by omega), at_keep HA4.out (fun g h => HALT2.out g h) (by omega) (by omega) (by omega) HBE.out, HCH4.out.trans (Chg.of_below HBE.out) (fun k hk h => absurd h (by omega))⟩
            case measure => have := HM.out.2; simp [intOf]; omega
          · refine altG_mk _ rfl rfl (fun K hK => ?_)
            go_simp
            have T30 := Lib.hid (T25.out.alloc (.cells #[.int .u64 (Crc.I64 t)] 35))
            have F30 := Lib.hid (Fr.new T25.out (.int .u64 (Crc.I64 t)) 35)
            have G30 := Lib.hid (F25.out.alloc (.cells #[.int .u64 (Crc.I64 t)] 35))
            have P30 := Lib.hid (P25.out.below ((Below.refl _ _).alloc (Nat.le_refl _) (.cells #[.int .u64 (Crc.I64 t)] 35)))
            refine hK.out _ _ (fun _ => T30.out.f) ?_
            clear hK K
            generalize W25.alloc (.cells #[.int .u64 (Crc.I64 t)] 35) = W30 at *
            refine as_alt [3] (by kernel_rfl) rfl (all1 ?_)
            refine altG_mk _ rfl rfl (fun K hK => ?_)
            refine wp_append (.tmp 43) (.tmp 44) _ rfl Dev.el_u64 (w.heap.size + 2) x1 _ _ (by simp [Act.eval, go_sem]) T30.out.o1 b p.length pc (Crc.words p) (by simp [Act.eval, go_sem]) (by rw [Crc.words_length]; omega) P30.out (fl_one _) (by rw [Crc.words_length]; have := HLEN.out; have := hpl; unfold maxLen; omega) (by rw [Crc.words_length]; have := HLEN.out; have := hpl; omega) T30.out.size ?_
            intro y31 W31 a1 a2 a3 a4
            have T31 := Lib.hid (T30.out.app1 a1 a2 a3 a4 (Crc.words_length p))
            have H31_7 := Lib.hid (F30.out.app1 a2 a3)
            have H31_13 := Lib.hid (G30.out.app1 a2 a3)
            refine hK.out _ _ (fun _ => T31.out.f) ?_
            clear hK K a1 a2 a3 a4
            refine as_read (i := 15) _ (.pointer (some ⟨w.heap.size + 1, 0, none⟩)) T31.out.f (fun _ _ d _ _ h => by cases d <;> exact h) rfl (by kernel_rfl) rfl (fun w' hF => by simp [execOp, Act.eval, go_sem]) ?_
            refine as_alt [8] (by kernel_rfl) rfl (all1 ?_)
            refine altG_mk _ rfl rfl (fun K hK => ?_)
            refine wp_append (.tmp 47) (.tmp 49) _ rfl Dev.el_u64 (w.heap.size + 2) x2 _ _ (by simp [Act.eval, go_sem]) T31.out.o2 (some ⟨W25.heap.size, 0, none⟩) 1 1 [.int .u64 (Crc.I64 t)] (by simp [Act.eval, go_sem]) rfl H31_7.out.row (by intro u hu; simp at hu; subst hu; rfl) (by rw [Crc.words_length]; have := HLEN.out; unfold maxLen; omega) (by rw [Crc.words_length]; have := HLEN.out; omega) T31.out.size ?_
            intro y32 W32 a1 a2 a3 a4
            have T32 := Lib.hid (T31.out.app2 a1 a2 a3 a4 rfl)
            have H32_13 := Lib.hid (H31_13.out.app2 a2 a3)
            refine hK.out _ _ (fun _ => T32.out.f) ?_
            clear hK K a1 a2 a3 a4
            refine as_alt [14] (by kernel_rfl) rfl (all1 ?_)
            refine altG_mk _ rfl rfl (fun K hK => ?_)
            refine wp_append (.tmp 52) (.tmp 55) _ rfl el_int (w.heap.size + 2) x3 _ _ (by simp [Act.eval, go_sem]) T32.out.o3 (some ⟨W0.heap.size, 0, none⟩) 1 1 [.int .i64 (p.length : Int)] (by simp [Act.eval, go_sem]) rfl H32_13.out.row (by intro u hu; simp at hu; subst hu; rfl) (by rw [List.length_map]; have := HLEN.out; unfold maxLen; omega) (by rw [List.length_map]; have := HLEN.out; omega) T32.out.size ?_
            intro y33 W33 a1 a2 a3 a4
            have T33 := Lib.hid (T32.out.app3 a1 a2 a3 a4 rfl)
            refine hK.out _ _ (fun _ => T33.out.f) ?_
            clear hK K a1 a2 a3 a4
            obtain ⟨e1, m1, c1, rfl⟩ := own_form3 T33.out.o1
            obtain ⟨e2, m2, c2, rfl⟩ := own_form3 T33.out.o2
            obtain ⟨e3, m3, c3, rfl⟩ := own_form3 T33.out.o3
            have TS := T33.out.stored
            have q0 := T33.out.blk.cell 0
            have q1 := (T33.out.blk.set_ 0 (.slice e1 m1 c1)).cell 1
            have q2 := ((T33.out.blk.set_ 0 (.slice e1 m1 c1)).set_ 1 (.slice e2 m2 c2)).cell 2
            have z0 := T33.out.blk.frozen 0
            have z1 := (T33.out.blk.set_ 0 (.slice e1 m1 c1)).frozen 1
            have z2 := ((T33.out.blk.set_ 0 (.slice e1 m1 c1)).set_ 1 (.slice e2 m2 c2)).frozen 2
            simp at q0 q1 q2
            have HBW := Lib.hid T33.out.base
            have HTS := Lib.hid TS
            clear TS
            refine as_alt [16] (by kernel_rfl) rfl (all1 ?_)
            refine altG_mk _ rfl rfl (fun K hK => ?_)
            go_simp
            refine hK.out _ _ (fun h => absurd h (by decide)) ?_
            clear hK K
            refine as_alt [17] (by kernel_rfl) rfl (all1 ?_)
            refine altG_mk _ rfl rfl (fun K hK => ?_)
            go_simp
            refine hK.out _ _ (fun h => absurd h (by decide)) ?_
            clear hK K
            refine as_alt [18] (by kernel_rfl) rfl (all1 ?_)
            refine altG_mk _ rfl rfl (fun K hK => ?_)
            go_simp
            refine hK.out _ _ (fun h => absurd h (by decide)) ?_
            clear hK K
            refine as_alt [19] (by kernel_rfl) rfl (all1 ?_)
            refine altG_mk _ rfl rfl (fun K hK => ?_)
            go_simp
            refine hK.out _ _ (fun h => absurd h (by decide)) ?_
            clear hK K
            refine as_alt [20] (by kernel_rfl) rfl (all1 ?_)
            refine altG_mk _ rfl rfl (fun K hK => ?_)
            go_simp
            refine hK.out _ _ (fun h => absurd h (by decide)) ?_
            clear hK K
            refine as_end (by kernel_rfl) ?_
            clear q0 q1 q2 z0 z1 z2
            generalize (((W33.setCell ⟨w.heap.size + 1, 0, none⟩ (.slice e1 m1 c1)).setCell ⟨w.heap.size + 1, 1, none⟩ (.slice e2 m2 c2)).setCell ⟨w.heap.size + 1, 2, none⟩ (.slice e3 m3 c3)) = WE at *
            have HBE := Lib.hid ((HBW.out.mono (Nat.le_succ _)).trans HTS.out.2)
            have HTE := Lib.hid HTS.out.1
            clear HTS HBW
            go_wp2_with fail
            go_roundw
            case rel => exact ⟨j + 1, _, _, _, by go_num, HM.out.2, by rw [HTA.out, HTT.out, HTL.out, words_append, words_append, List.map_append]; exact HTE.out, HRB4.out.below HBE.out (by omega), at_keep HA4.out (fun g h => HALT2.out g h) (by omega) (by omega) (by omega) HBE.out, HCH4.out.trans (Chg.of_below HBE.out) (fun k hk h => absurd h (by omega))⟩
            case measure => have := HM.out.2; simp [intOf]; omega
      · have HT3 := Lib.hid (HT2.out.step hb3).self
        have HRB3 := Lib.hid (HRB2.out.below hb3 HRB2.out.lt)
        have HA3 := Lib.hid (HA2.out.below hb3)
        have HCH3 := Lib.hid (HCH2.out.then_below hb3)
        clear HT2 HRB2 HA2 HCH2 hb3 HG
        go_wp2_with fail
        go_roundw
        case rel => exact ⟨j + 1, x1, x2, x3, by go_num, HM.out.2, by rw [HTA.out, HTT.out, HTL.out]; simpa [payC, tagC, lenC] using HT3.out, HRB3.out, HA3.out, HCH3.out⟩
        case measure => have := HM.out.2; simp [intOf]; omega
    · obtain rfl : j = Cs.length := by omega
      have hlt2 : ¬ (Cs.length : Int) < (Cs.length : Int) := by omega
      have HT := Lib.hid hT
      have HRB := Lib.hid hRB
      have HA := Lib.hid hA
      have HCH := Lib.hid hCh
      clear hT hRB hA hCh hlt hj hin
      obtain ⟨e1, m1, c1, rfl⟩ := own_form3 HT.out.o1
      obtain ⟨e2, m2, c2, rfl⟩ := own_form3 HT.out.o2
      obtain ⟨e3, m3, c3, rfl⟩ := own_form3 HT.out.o3
      have q0 := HT.out.blk.cell 0
      have q1 := HT.out.blk.cell 1
      have q2 := HT.out.blk.cell 2
      simp at q0 q1 q2
      have r0 := HRB.out.cell 0
      have r1 := (HRB.out.set_ 0 (.slice e1 m1 c1)).cell 1
      have r2 := ((HRB.out.set_ 0 (.slice e1 m1 c1)).set_ 1 (.slice e2 m2 c2)).cell 2
      have g0 := (((HRB.out.set_ 0 (.slice e1 m1 c1)).set_ 1 (.slice e2 m2 c2)).set_ 2 (.slice e3 m3 c3)).cell 0
      have g1 := (((HRB.out.set_ 0 (.slice e1 m1 c1)).set_ 1 (.slice e2 m2 c2)).set_ 2 (.slice e3 m3 c3)).cell 1
      have g2 := (((HRB.out.set_ 0 (.slice e1 m1 c1)).set_ 1 (.slice e2 m2 c2)).set_ 2 (.slice e3 m3 c3)).cell 2
      simp at r0 r1 r2 g0 g1 g2
      have z0 := HRB.out.frozen 0
      have z1 := (HRB.out.set_ 0 (.slice e1 m1 c1)).frozen 1
      have z2 := ((HRB.out.set_ 0 (.slice e1 m1 c1)).set_ 1 (.slice e2 m2 c2)).frozen 2
      go_wp2_with fail
      refine bodyPost_ret (v := .tuple #[.agg #[.slice e1 m1 c1, .slice e2 m2 c2, .slice e3 m3 c3], .int .i64 0]) ?_ rfl ?_
      · rw [results_cell_tmp rfl]
        go_simp
      have hc1 : Chg (fun k => k = w.heap.size) wr (wr.setCell ⟨w.heap.size, 0, none⟩ (.slice e1 m1 c1)) := Chg.setCell (Chg.refl (fun k => k = w.heap.size) wr) ⟨w.heap.size, 0, none⟩ _ (fun _ => rfl)
      have hc2 := Chg.setCell hc1 ⟨w.heap.size, 1, none⟩ (.slice e2 m2 c2) (fun _ => rfl)
      have hc3 := Chg.setCell hc2 ⟨w.heap.size, 2, none⟩ (.slice e3 m3 c3) (fun _ => rfl)
      have hT := HT.out.chg hc3 (by omega) (fun g hg => by omega)
      have ht : Cs.take Cs.length = Cs := List.take_length
      have h1 := own_mono hT.o1 (base' := w.heap.size) (by omega)
      have h2 := own_mono hT.o2 (base' := w.heap.size) (by omega)
      have h3 := own_mono hT.o3 (base' := w.heap.size) (by omega)
      rw [ht] at h1 h2 h3
      rw [Crc.words_length] at h1 h2
      rw [List.length_map] at h3
      exact ⟨_, _, _, rfl, h1, h2, h3, HOUT.out _ _ (at_keep HA.out HALT3.out hal hll hnl (hc3.below_of (by have := HCH.out.size; omega) (fun k hk e => by omega))), HCH.out.trans hc3 (fun k hk e => absurd e (by omega))⟩

end Go.Proofs.YtmmkncocgjgapaaDoor.Mf

/- Names and their words: pack and unpack. -/
namespace Go.Proofs.YtmmkncocgjgapaaDoor.Mf
open Go.RowKit

/-- The number of the bytes from place k on, so many of them, zeros behind the name's end. -/
def packN (s : ByteArray) : Nat → Nat
  | 0 => 0
  | k + 1 => packN s k * 256 + (if h : k < s.size then (s[k]'h).toNat else 0)
theorem packN_lt (s : ByteArray) : ∀ k, packN s k < 256 ^ k
  | 0 => by simp [packN]
  | k + 1 => by
    have h := packN_lt s k
    unfold packN
    have : (if h : k < s.size then (s[k]'h).toNat else 0) < 256 := by
      split
      · rename_i h2
        exact (s[k]'h2).toNat_lt
      · omega
    rw [Nat.pow_succ]
    generalize (if h : k < s.size then (s[k]'h).toNat else 0) = y at *
    generalize 256 ^ k = z at *
    omega
theorem or_byte (x y : Nat) (hx : x < 72057594037927936) (hy : y < 256) : bits BinOp.or IntKind.u64 ((x : Int) * 256) (IntKind.u64.wrap (y : Int)) = ((x * 256 + y : Nat) : Int) := by
  have h1 : ((x : Int) * 256) = Crc.I64 (BitVec.ofNat 64 (x * 256)) := by
    rw [Crc.I64_ofNat (by omega)]
    omega
  have h2 : IntKind.u64.wrap (y : Int) = Crc.I64 (BitVec.ofNat 64 y) := by
    rw [Crc.u64_wrap_id (by omega) (by omega), Crc.I64_ofNat (by omega)]
  refine (Crc.bits64 (· ||| ·) _ _ _ _ h1 h2).trans ?_
  unfold Crc.I64
  rw [BitVec.toNat_or, BitVec.toNat_ofNat, BitVec.toNat_ofNat, Nat.mod_eq_of_lt (by omega), Nat.mod_eq_of_lt (by omega)]
  have := Nat.shiftLeft_add_eq_or_of_lt (b := y) (i := 8) (by omega) x
  rw [Nat.shiftLeft_eq] at this
  rw [← this]
def PackLoop (s : ByteArray) (w : World) (xv iv : Value) (wr : World) : Prop := ∃ k : Nat, iv = .int .i64 (k : Int) ∧ k ≤ 8 ∧ xv = .int .u64 ((packN s k : Nat) : Int) ∧ w = wr
set_option maxRecDepth 100000 in
theorem pack_any (s : ByteArray) (w : World) : Calls Tryd.prog 30 #[.string s] w (fun e w' => e = .returned (.int .u64 ((packN s 8 : Nat) : Int)) ∧ w = w') := by
  go_enter Tryd.func30, Tryd.ntmps30
  go_wp2_with fail
  go_loopw [3, 5] (fun xv iv wr => PackLoop s w xv iv wr) (fun _ iv _ => 8 - (intOf iv).toNat)
  case atStart => exact ⟨0, rfl, by omega, rfl, rfl⟩
  case round =>
    obtain ⟨k, rfl, hk, rfl, rfl⟩ := hrel
    by_cases hlt : k < 8
    · have hlt2 : (k : Int) < 8 := by omega
      have i0 : (0 : Int) ≤ (k : Int) := by omega
      have hb := packN_lt s k
      have hb2 : packN s k < 72057594037927936 := Nat.lt_of_lt_of_le hb (Nat.le_trans (Nat.pow_le_pow_right (by omega) (show k ≤ 7 by omega)) (by decide))
      have HM := Lib.hid (And.intro hk hlt)
      have HS : Hid (packN s (k + 1) = packN s k * 256 + (if h : k < s.size then (s[k]'h).toNat else 0)) := Lib.hid rfl
      generalize packN s k = x at *
      clear hb hk hlt
      by_cases hin : k < s.size
      · have hin2 : (k : Int) < (s.size : Int) := by omega
        have HS2 := Lib.hid (show packN s (k + 1) = x * 256 + (s[k]'hin).toNat from by rw [HS.out, dif_pos hin])
        go_wp2_with fail
        have hor := or_byte x (s[k]'hin).toNat hb2 (s[k]'hin).toNat_lt
        rw [hor]
        go_roundw
        case rel => exact ⟨k + 1, by go_num, HM.out.2, by rw [HS2.out], rfl⟩
        case measure => have := HM.out.2; simp [intOf]; omega
      · have hin2 : ¬ (k : Int) < (s.size : Int) := by omega
        have HS2 := Lib.hid (show packN s (k + 1) = x * 256 from by rw [HS.out, dif_neg hin]; rfl)
        go_wp2_with fail
        go_roundw
        case rel => exact ⟨k + 1, by go_num, HM.out.2, by rw [HS2.out]; simp, rfl⟩
        case measure => have := HM.out.2; simp [intOf]; omega
    · obtain rfl : k = 8 := by omega
      go_wp2_with fail
      go_ret
      exact ⟨rfl, rfl⟩

/-- A word that begins with these bytes, zeros behind them. -/
def leftW : List UInt8 → Nat
  | [] => 0
  | c :: l => c.toNat * 72057594037927936 + leftW l / 256
theorem leftW_lt : ∀ l : List UInt8, leftW l < 18446744073709551616
  | [] => by simp [leftW]
  | c :: l => by
    have := leftW_lt l
    have hc := c.toNat_lt
    unfold leftW
    omega
theorem leftW_dvd : ∀ l : List UInt8, l.length ≤ 8 → ∃ q, leftW l = 256 ^ (8 - l.length) * q
  | [], _ => ⟨0, rfl⟩
  | c :: l, h => by
    rw [List.length_cons] at h
    obtain ⟨q, hq⟩ := leftW_dvd l (by omega)
    have e1 : 8 - l.length = (8 - (l.length + 1)) + 1 := by omega
    refine ⟨c.toNat * 256 ^ l.length + q, ?_⟩
    unfold leftW
    rw [hq, e1, Nat.pow_succ, List.length_cons, Nat.mul_add]
    rw [show 256 ^ (8 - (l.length + 1)) * 256 * q = 256 ^ (8 - (l.length + 1)) * q * 256 from by rw [Nat.mul_assoc, Nat.mul_comm 256 q, Nat.mul_assoc], Nat.mul_div_cancel _ (by omega)]
    congr 1
    rw [Nat.mul_comm (256 ^ _) (_ * _), Nat.mul_assoc, ← Nat.pow_add, show l.length + (8 - (l.length + 1)) = 7 from by omega]
theorem leftW_next {c : UInt8} {l : List UInt8} (h : l.length ≤ 7) : leftW (c :: l) * 256 % 18446744073709551616 = leftW l ∧ leftW (c :: l) / 72057594037927936 = c.toNat := by
  obtain ⟨q, hq⟩ := leftW_dvd l (by omega)
  have e1 : 8 - l.length = (7 - l.length) + 1 := by omega
  rw [e1, Nat.pow_succ, Nat.mul_assoc, Nat.mul_comm 256 q, ← Nat.mul_assoc] at hq
  have := leftW_lt l
  have hc := c.toNat_lt
  rw [show leftW (c :: l) = c.toNat * 72057594037927936 + leftW l / 256 from rfl]
  generalize 256 ^ (7 - l.length) * q = z at *
  generalize leftW l = y at *
  generalize c.toNat = x at *
  constructor <;> omega
theorem leftW_snoc (c : UInt8) : ∀ l : List UInt8, l.length ≤ 7 → leftW (l ++ [c]) = leftW l + c.toNat * 256 ^ (7 - l.length)
  | [], _ => by simp [leftW]
  | d :: l, h => by
    rw [List.length_cons] at h
    have ih := leftW_snoc c l (by omega)
    rw [List.cons_append]
    unfold leftW
    rw [ih, List.length_cons, show 7 - l.length = (7 - (l.length + 1)) + 1 from by omega, Nat.pow_succ, ← Nat.mul_assoc, Nat.add_mul_div_right _ _ (by omega)]
    omega
theorem packN_left (s : ByteArray) : ∀ k, k ≤ 8 → packN s k * 256 ^ (8 - k) = leftW (s.data.toList.take k)
  | 0, _ => by simp [packN, leftW]
  | k + 1, h => by
    have ih := packN_left s k (by omega)
    have hsz : s.data.toList.length = s.size := by rw [Array.length_toList]; rfl
    unfold packN
    split
    · rename_i hk
      have hk2 : k < s.data.toList.length := by omega
      rw [List.take_succ_eq_append_getElem hk2, leftW_snoc _ _ (by rw [List.length_take]; omega), ← ih, List.length_take, Nat.min_eq_left (by omega), Nat.add_mul, Nat.mul_assoc, ← Nat.pow_succ', show (8 - (k + 1)).succ = 8 - k from by omega, show 8 - (k + 1) = 7 - k from by omega]
      congr 1
    · rename_i hk
      rw [List.take_of_length_le (by omega), ← List.take_of_length_le (l := s.data.toList) (i := k) (by omega), ← ih, Nat.add_zero, Nat.mul_assoc, ← Nat.pow_succ', show (8 - (k + 1)).succ = 8 - k from by omega]
theorem packN_word {s : ByteArray} (h : s.size ≤ 8) : packN s 8 = leftW s.data.toList := by
  have := packN_left s 8 (Nat.le_refl _)
  have hsz : s.data.toList.length = s.size := by rw [Array.length_toList]; rfl
  rw [List.take_of_length_le (by omega)] at this
  simpa using this

end Go.Proofs.YtmmkncocgjgapaaDoor.Mf

/- The walk of unpack. -/
namespace Go.Proofs.YtmmkncocgjgapaaDoor.Mf
open Go.RowKit Dev

theorem el_u8 : Elem Tryd.prog 103 5 1 1 := elem_of (z := .int .u8 0) Tryd.underlying103 (by kernel_rfl) rfl (by decide)
def bv (c : UInt8) : Value := .int .u8 (c.toNat : Int)
def sLen : Value → Nat
  | .slice _ n _ => n
  | _ => 0
def UnLoop (l : List UInt8) (w : World) (xv v : Value) (wr : World) : Prop := ∃ k : Nat, xv = .int .u64 ((leftW (l.drop k) : Nat) : Int) ∧ k ≤ l.length ∧ wr.ownsRow w.heap.size 5 1 v k ((l.map bv).take k) ∧ Below w.heap.size w wr
set_option maxRecDepth 100000 in
theorem unpack_any (s : ByteArray) (w : World) (h1 : 1 ≤ s.size) (h8 : s.size ≤ 8) (hnz : ∀ c ∈ s.data.toList, c.toNat ≠ 0) : Calls Tryd.prog 48 #[.int .u64 ((packN s 8 : Nat) : Int)] w (fun e w' => e = .returned (.string s) ∧ Below w.heap.size w w') := by
  rw [packN_word h8]
  have hsz : s.data.toList.length = s.size := by rw [Array.length_toList]; rfl
  have HSTR := Lib.hid (show ∀ l : List UInt8, l = s.data.toList → strOfNums (l.map fun x => (x.toNat : Int)) = s from fun l h => by rw [h]; exact strOfNums_bytes s)
  obtain ⟨l, hl⟩ : ∃ l, l = s.data.toList := ⟨_, rfl⟩
  rw [← hl] at hsz hnz ⊢
  have HNZ := Lib.hid hnz
  have HL := Lib.hid hl
  have HSZ := Lib.hid (show 1 ≤ l.length ∧ l.length ≤ 8 by omega)
  clear hl hnz h1 h8 hsz
  go_enter Tryd.func48, Tryd.ntmps48
  go_wp2_with fail
  go_loopw [0, 3] (fun xv v wr => UnLoop l w xv v wr) (fun _ v _ => l.length - sLen v)
  case atStart => exact ⟨0, rfl, Nat.zero_le _, World.ownsRow_nil _ _ _ _, Below.refl _ _⟩
  case round =>
    obtain ⟨k, rfl, hk, hown, hb⟩ := hrel
    obtain ⟨a0, c0, hv⟩ := own_form hown
    have hz := hb.size
    have HB := Lib.hid hb
    by_cases hlt : k < l.length
    · have hd : l.drop k = l[k] :: l.drop (k + 1) := List.drop_eq_getElem_cons hlt
      obtain ⟨n1, n2⟩ := leftW_next (c := l[k]) (l := l.drop (k + 1)) (by rw [List.length_drop]; have := HSZ.out; omega)
      have n3 := HNZ.out l[k] (List.getElem_mem hlt)
      rw [← hd] at n1 n2
      have n4 := leftW_lt (l.drop k)
      have HTS := Lib.hid (show (l.map bv).take (k + 1) = (l.map bv).take k ++ [bv l[k]] from by rw [List.take_succ_eq_append_getElem (by rw [List.length_map]; exact hlt), List.getElem_map])
      have hne : ((leftW (l.drop k) : Nat) : Int) ≠ 0 := by omega
      have hq : ((leftW (l.drop k) : Nat) : Int) / 72057594037927936 = (l[k].toNat : Int) := by omega
      have hw : IntKind.u64.wrap (((leftW (l.drop k) : Nat) : Int) * 256) = ((leftW (l.drop (k + 1)) : Nat) : Int) := by rw [IntKind.wrap_u64]; omega
      have hm : (l[k].toNat : Int) % 256 = (l[k].toNat : Int) := by have := l[k].toNat_lt; omega
      have HM := Lib.hid (And.intro hk hlt)
      have HO := Lib.hid hown
      subst hv
      have HK8 := Lib.hid (show k ≤ 8 by have := HSZ.out; omega)
      generalize leftW (l.drop k) = x at *
      obtain ⟨y, hy⟩ : ∃ y, leftW (l.drop (k + 1)) = y := ⟨_, rfl⟩
      rw [hy] at hw
      have HY := Lib.hid hy
      clear hy
      generalize l[k] = ch at *
      clear hd n1 n2 n3 n4 hown hb hk hlt
      go_wp2_with (at_builtin; go_must (refine wpList_append rfl (.tmp 8) (.tmp 12) _ rfl el_u8 w.heap.size _ _ _ rfl (HO.out.alloc _) (some ⟨_, 0, none⟩) 1 1 [bv ch] rfl rfl (Row.new _ _ _ _) (by intro u hu; simp at hu; subst hu; rfl) (by have := HK8.out; unfold maxLen; omega) (by have := HK8.out; omega) (by simp; omega) ?_))
      intro v2 w2 hown2 hg2 _ hb2
      rw [← HTS.out] at hown2
      have HO2 := Lib.hid hown2
      have HB2 := Lib.hid ((HB.out.alloc HB.out.size _).trans hb2)
      clear hown2 hg2 hb2
      go_wp2_with fail
      go_roundw
      case rel => exact ⟨k + 1, by rw [HY.out], HM.out.2, HO2.out, HB2.out⟩
      case measure =>
        obtain ⟨a2, c2, hv2⟩ := own_form HO2.out
        have := HM.out.2
        rw [hv2]
        simp [sLen]
        omega
    · obtain rfl : k = l.length := by omega
      have hd : l.drop l.length = [] := List.drop_length
      rw [hd]
      have h0 : ((leftW [] : Nat) : Int) = 0 := rfl
      have HO := Lib.hid (show wr.ownsRow w.heap.size 5 1 _ l.length (l.map bv) from by have := hown; rw [List.take_of_length_le (by rw [List.length_map]; exact Nat.le_refl _)] at this; exact this)
      obtain ⟨a1, c1, e1, hrow, _, _, _⟩ := own_slice HO.out
      rw [hv] at e1
      injection e1 with e1 e2 e3
      subst e1 e3
      subst hv
      have hne0 := HSZ.out.1
      obtain ⟨b, o, rfl, _, _⟩ := hrow.at_ (i := 0) (by rw [List.length_map]; omega)
      have hconv := run_convert_bytes_arg (P := Tryd.prog) wr 103 5 Tryd.underlying103 Tryd.underlying5 b o l.length c0 (l.map fun x => (x.toNat : Int)) (by simp) (fun i hi => by
        obtain ⟨b', o', e, hc, _⟩ := hrow.at_ (i := i) (by rw [List.length_map]; exact hi)
        injection e with e
        injection e with e1 e2
        subst e1 e2
        rw [hc, List.getElem_map]
        simp [bv, hi]) 9 Tryd.underlying9
      rw [HSTR.out l HL.out] at hconv
      clear hrow hown hb hk hlt
      go_wp2_with fail
      go_ret
      exact ⟨rfl, HB.out⟩

end Go.Proofs.YtmmkncocgjgapaaDoor.Mf

/- A manifest's words, and their parts, in plain words. -/
namespace Go.Proofs.YtmmkncocgjgapaaDoor.Mf
open Go.RowKit

def entW (e : Ent) : List (BitVec 64) := [BitVec.ofNat 64 (packN e.name 8), BitVec.ofInt 64 e.f, BitVec.ofInt 64 e.b, BitVec.ofInt 64 e.w, BitVec.ofInt 64 e.c]
def entsW (l : List Ent) : List (BitVec 64) := l.flatMap entW
def wordsM (g : Nat) (l : List Ent) : List (BitVec 64) := BitVec.ofNat 64 g :: BitVec.ofNat 64 l.length :: entsW l
theorem entsW_length (l : List Ent) : (entsW l).length = l.length * 5 := by
  induction l with
  | nil => rfl
  | cons e l ih => simp only [entsW, List.flatMap_cons, List.length_append, List.length_cons] at ih ⊢; rw [ih]; simp [entW]; omega
theorem wordsM_length (g : Nat) (l : List Ent) : (wordsM g l).length = 2 + l.length * 5 := by
  unfold wordsM
  rw [List.length_cons, List.length_cons, entsW_length]
  omega
theorem entsW_snoc (l : List Ent) (e : Ent) : entsW (l ++ [e]) = entsW l ++ entW e := by simp [entsW]
/-- The words of block i of a slot. -/
def partM (all : List (BitVec 64)) (span i : Nat) : List (BitVec 64) := (all.drop (i * span)).take span
theorem partM_length (all : List (BitVec 64)) (span i : Nat) : (partM all span i).length = min span (all.length - i * span) := by
  unfold partM
  rw [List.length_take, List.length_drop]
/-- The blocks of a slot, sealed. -/
def slotC (all : List (BitVec 64)) (tag : BitVec 64) (span k : Nat) : List BlkC := (List.range k).map fun i => some (partM all span i, tag)
theorem slotC_length (all : List (BitVec 64)) (tag : BitVec 64) (span k : Nat) : (slotC all tag span k).length = k := by simp [slotC]
theorem slotC_succ (all : List (BitVec 64)) (tag : BitVec 64) (span k : Nat) : slotC all tag span (k + 1) = slotC all tag span k ++ [some (partM all span k, tag)] := by
  unfold slotC
  rw [List.range_succ, List.map_append]
  rfl
theorem slotC_all (all : List (BitVec 64)) (tag : BitVec 64) (span : Nat) : ∀ k, allOf (slotC all tag span k) = all.take (k * span)
  | 0 => by simp [slotC, allOf]
  | k + 1 => by
    rw [slotC_succ, allOf_add, slotC_all all tag span k]
    show all.take (k * span) ++ partM all span k = _
    unfold partM
    rw [Nat.add_mul, Nat.one_mul, List.take_add]
theorem slotC_tags (all : List (BitVec 64)) (tag : BitVec 64) (span : Nat) : ∀ k, tagsOf (slotC all tag span k) = List.replicate k tag
  | 0 => rfl
  | k + 1 => by
    rw [slotC_succ, tagsOf_add, slotC_tags all tag span k, List.replicate_succ']
    rfl
theorem slotC_lens (all : List (BitVec 64)) (tag : BitVec 64) (span k : Nat) : lensOf (slotC all tag span k) = (List.range k).map fun i => ((min span (all.length - i * span) : Nat) : Int) := by
  unfold lensOf slotC
  rw [List.flatMap_map]
  rw [show (fun i => lenC (some (partM all span i, tag))) = fun i => [((min span (all.length - i * span) : Nat) : Int)] from funext fun i => by
    show [((partM all span i).length : Int)] = _
    rw [partM_length]]
  induction (List.range k) with
  | nil => rfl
  | cons i l ih => rw [List.flatMap_cons, ih]; rfl

end Go.Proofs.YtmmkncocgjgapaaDoor.Mf

/- The walk of (slot).stands, where it doesn't stand. -/
namespace Go.Proofs.YtmmkncocgjgapaaDoor.Mf
open Go.RowKit Dev

/-- No manifest. -/
def Nought (w : World) (e : Ending) (w' : World) : Prop := e = .returned (.tuple #[.slice none 0 0, .int .u64 0]) ∧ Below w.heap.size w w'

/-- Too few blocks are sealed. -/
theorem stands_few (a1 a2 a3 : Option Addr) (n1 n2 n3 c1 c2 c3 : Nat) (k : Nat) (size parity : Int) (w : World) (h : n2 < k) :
    Calls Tryd.prog 34 #[.agg #[.slice a1 n1 c1, .slice a2 n2 c2, .slice a3 n3 c3], .int .i64 (k : Int), .int .i64 size, .int .i64 parity] w (Nought w) := by
  have h2 : (n2 : Int) < (k : Int) := by omega
  have hb := (Below.refl w.heap.size w).alloc (Nat.le_refl _) (.cells #[.slice a1 n1 c1, .slice a2 n2 c2, .slice a3 n3 c3] 70)
  have HB := Lib.hid hb
  clear hb h
  go_enter Tryd.func34, Tryd.ntmps34
  go_wp2_with fail
  go_ret2
  exact ⟨rfl, HB.out⟩

def TagLoop (T : List (BitVec 64)) (g : Nat) (w : World) (iv : Value) (wr : World) : Prop := ∃ j : Nat, iv = .int .i64 (j : Int) ∧ j ≤ T.length ∧ (∀ i (hi : i < T.length), i < j → T[i] = BitVec.ofNat 64 g) ∧ w = wr
set_option maxRecDepth 100000 in
set_option maxHeartbeats 1000000 in
/-- All blocks are sealed, but not of one generation. -/
theorem stands_mix (a1 a2 a3 : Option Addr) (nW nT n3 c1 c2 c3 : Nat) (k : Nat) (size : Int) (W T : List (BitVec 64)) (g n : Nat) (w : World) (hr1 : Row w a1 (Crc.words W)) (hr2 : Row w a2 (Crc.words T)) (hnW : W.length = nW) (hnT : T.length = nT) (hk : k ≤ nT) (hW2 : 2 ≤ nW) (hT : nT ≤ 1000) (hWl : nW ≤ 300000)
    (hg0 : W[0]? = some (BitVec.ofNat 64 g)) (hg1 : 1 ≤ g) (hg2 : g ≤ 4611686018427387904) (hn : W[1]? = some (BitVec.ofNat 64 n)) (hn2 : n ≤ 12) (hne : ∃ t ∈ T, t ≠ BitVec.ofNat 64 g) :
    Calls Tryd.prog 34 #[.agg #[.slice a1 nW c1, .slice a2 nT c2, .slice a3 n3 c3], .int .i64 (k : Int), .int .i64 size, .int .i64 ((g % 2 : Nat) : Int)] w (Nought w) := by
  have f1 : ¬ (nT : Int) < (k : Int) := by omega
  have f2 : ¬ (nW : Int) < 2 := by omega
  have hb := (Below.refl w.heap.size w).alloc (Nat.le_refl _) (.cells #[.slice a1 nW c1, .slice a2 nT c2, .slice a3 n3 c3] 70)
  have r1 := hr1.below hb
  have r2 := hr2.below hb
  have HB := Lib.hid hb
  clear hr1 hr2 hb
  go_enter Tryd.func34, Tryd.ntmps34
  obtain ⟨b1, o1, rfl, cw0, _⟩ := r1.at_ (i := 0) (by rw [Crc.words_length]; omega)
  obtain ⟨b1', o1', e1, cw1, _⟩ := r1.at_ (i := 1) (by rw [Crc.words_length]; omega)
  injection e1 with e1
  injection e1 with e1 e1'
  subst e1 e1'
  have cw0' : (Crc.words W)[0]'(by rw [Crc.words_length]; omega) = .int .u64 (g : Int) := by
    rw [List.getElem?_eq_getElem (by omega)] at hg0
    injection hg0 with hg0
    unfold Crc.words
    rw [List.getElem_map, hg0, Crc.I64_ofNat (by omega)]
  have cw1' : (Crc.words W)[1]'(by rw [Crc.words_length]; omega) = .int .u64 (n : Int) := by
    rw [List.getElem?_eq_getElem (by omega)] at hn
    injection hn with hn
    unfold Crc.words
    rw [List.getElem_map, hn, Crc.I64_ofNat (by omega)]
  rw [cw0'] at cw0
  rw [cw1'] at cw1
  simp only [Nat.add_zero] at cw0
  have HT := Lib.hid (And.intro hnT (And.intro hT hne))
  have HGG := Lib.hid hg2
  have g1 : ¬ (g : Int) < 1 := by omega
  have g2 : ¬ (4611686018427387904 : Int) < (g : Int) := by omega
  have g3 : IntKind.i64.wrap ((g % 2 : Nat) : Int) = ((g % 2 : Nat) : Int) := by rw [IntKind.wrap_i64]; omega
  have n1 : ¬ (12 : Int) < (n : Int) := by omega
  have n2 : IntKind.i64.wrap (n : Int) = (n : Int) := by rw [IntKind.wrap_i64]; omega
  have n3' : IntKind.i64.wrap (5 * (n : Int)) = 5 * (n : Int) := by rw [IntKind.wrap_i64]; omega
  have n4 : IntKind.i64.wrap (2 + 5 * (n : Int)) = 2 + 5 * (n : Int) := by rw [IntKind.wrap_i64]; omega
  have HR2 := Lib.hid r2
  clear r1 r2 cw0' cw1' hg0 hn hk hW2 hT hWl hne hnT hnW hg1 hg2 hn2
  go_upto_region 3 with (fail)
  go_quiet (fail)
  have hq := Blk.new w 70 #[.slice (some ⟨b1, o1, none⟩) nW c1, .slice a2 nT c2, .slice a3 n3 c3]
  have HB2 := Lib.hid (below_dn HB.out nq)
  have HR3 := Lib.hid (HR2.out.below (below_dn (Below.refl _ _) nq))
  have hq2 : Blk ((w.alloc (.cells #[.slice (some ⟨b1, o1, none⟩) nW c1, .slice a2 nT c2, .slice a3 n3 c3] 70)).drewN nq) w.heap.size 70 #[.slice (some ⟨b1, o1, none⟩) nW c1, .slice a2 nT c2, .slice a3 n3 c3] := hq
  have q0 := hq2.cell 0
  have q1 := hq2.cell 1
  clear HB HR2 hq hq2 cw0 cw1
  generalize (w.alloc (.cells #[.slice (some ⟨b1, o1, none⟩) nW c1, .slice a2 nT c2, .slice a3 n3 c3] 70)).drewN nq = w2 at *
  simp at q0 q1
  by_cases hlen : (nW : Int) = 2 + 5 * (n : Int)
  · obtain ⟨hnT, hT, t, ht, hne⟩ := HT.out
    have HNE := Lib.hid (And.intro ht hne)
    have HNT := Lib.hid (And.intro hnT hT)
    clear ht hne hT hnT
    go_wp2_with fail
    go_loopw [69] (fun iv wr => TagLoop T g w2 iv wr) (fun iv _ => T.length - (intOf iv).toNat)
    case atStart => exact ⟨0, rfl, Nat.zero_le _, fun i _ h => absurd h (Nat.not_lt_zero _), rfl⟩
    case round =>
      obtain ⟨j, rfl, hj, hall, rfl⟩ := hrel
      have HALL := Lib.hid hall
      clear hall
      by_cases hlt : j < T.length
      · have hlt2 : (j : Int) < (nT : Int) := by have := HNT.out.1; omega
        have i0 : (0 : Int) ≤ (j : Int) := by omega
        obtain ⟨b2, o2, rfl, cj, _⟩ := HR3.out.at_ (i := j) (by rw [Crc.words_length]; exact hlt)
        unfold Crc.words at cj
        rw [List.getElem_map] at cj
        have HM := Lib.hid (And.intro hj hlt)
        have hjb : j < 1000 := by have := HNT.out; omega
        by_cases hq : T[j] = BitVec.ofNat 64 g
        · have hI : Crc.I64 T[j] = (g : Int) := by rw [hq, Crc.I64_ofNat (by have := HGG.out; omega)]
          rw [hI] at cj
          have HS := Lib.hid (show ∀ i (hi : i < T.length), i < j + 1 → T[i] = BitVec.ofNat 64 g from fun i hi h => by
            by_cases e : i = j
            · subst e; exact hq
            · exact HALL.out i hi (by omega))
          clear hq hI hlt hj
          go_wp2_with fail
          go_roundw
          case rel => exact ⟨j + 1, by have := HNT.out; have := HM.out; go_num, HM.out.2, HS.out, rfl⟩
          case measure => have := HNT.out; have := HM.out.2; simp [intOf]; omega
        · have hI : ¬ Crc.I64 T[j] = (g : Int) := fun h => hq (by
            have h2 : (T[j]).toNat = g := by unfold Crc.I64 at h; omega
            exact BitVec.eq_of_toNat_eq (by rw [h2, BitVec.toNat_ofNat, Nat.mod_eq_of_lt (by have := HGG.out; omega)]))
          generalize Crc.I64 T[j] = y at *
          clear hq hlt hj
          go_wp2_with fail
          go_ret2
          exact ⟨rfl, HB2.out⟩
      · exfalso
        obtain ⟨i, hi, e⟩ := List.getElem_of_mem HNE.out.1
        exact HNE.out.2 (e ▸ HALL.out i hi (by omega))
  · go_wp2_with fail
    go_ret2
    exact ⟨rfl, HB2.out⟩

end Go.Proofs.YtmmkncocgjgapaaDoor.Mf
