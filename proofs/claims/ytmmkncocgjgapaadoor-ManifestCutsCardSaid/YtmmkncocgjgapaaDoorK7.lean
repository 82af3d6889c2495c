/- Texts of mine, packed: MfStand2, MfSlots, MfLoad, MfAwake, MfFew. -/
import Derived.Test.YtmmkncocgjgapaaDoorK6
set_option linter.unusedVariables false

/- The walk of (slot).stands, where it stands. -/
namespace Go.Proofs.YtmmkncocgjgapaaDoor.Mf
open Go.RowKit Dev

theorem el_ent : Elem Tryd.prog 22 54 5 48 := elem_of (z := .agg #[.string ⟨#[]⟩, .int .i64 0, .int .i64 0, .int .i64 0, .int .i64 0]) Tryd.underlying22 (by kernel_rfl) rfl (by omega)
/-- The manifest of a slot that stands. -/
def StoodC (w : World) (g : Nat) (l : List Ent) (e : Ending) (w' : World) : Prop :=
  ∃ v, e = .returned (.tuple #[v, .int .u64 (g : Int)]) ∧ w'.ownsRow w.heap.size 54 5 v l.length (flatM l) ∧ Below w.heap.size w w'
def LenLoop (Ls : List Int) (tot span : Nat) (w : World) (lv iv : Value) (wr : World) : Prop := ∃ i : Nat, iv = .int .i64 (i : Int) ∧ i ≤ Ls.length ∧ lv = .int .i64 ((tot - i * span : Nat) : Int) ∧ w = wr

/-- The words of the entries that are left. -/
def EntAt (l : List Ent) (w : World) (b1 j : Nat) (wv : Value) : Prop := ∃ o c, wv = .slice (some ⟨b1, o, none⟩) ((l.length - j) * 5) c ∧ (l.length - j) * 5 ≤ c ∧ c ≤ maxLen ∧ Row w (some ⟨b1, o, none⟩) (Crc.words (entsW (l.drop j)))
def EntLoop (l : List Ent) (w : World) (b1 : Nat) (lv wv : Value) (wr : World) : Prop := ∃ j, j ≤ l.length ∧ wr.ownsRow w.heap.size 54 5 lv j (flatM (l.take j)) ∧ EntAt l w b1 j wv ∧ Below w.heap.size w wr

theorem own_ents {w : World} {base n : Nat} {t : TypeId} {v : Value} {l : List Ent} (h : w.ownsRow base t 5 v n (flatM l)) : ∃ a c, v = .slice a n c ∧ Row w a (flatM l) ∧ l.length = n ∧ n ≤ c ∧ c ≤ maxLen := by
  have hl : l.length = n := by have := h.1; rw [flatM_length] at this; omega
  rcases h.2 with ⟨rfl, h0⟩ | ⟨g, cap, cur, rfl, _, _, h1, h2, _⟩
  · subst h0
    obtain rfl : l = [] := List.length_eq_zero_iff.1 hl
    exact ⟨none, 0, rfl, Row.nil _ _, rfl, Nat.le_refl _, by unfold maxLen; omega⟩
  · exact ⟨_, cap, rfl, fun i hi => ⟨_, rfl, by rw [List.getElem?_eq_getElem hi]; exact h.cells (g := g) rfl i _ (List.getElem?_eq_getElem hi)⟩, hl, h1, h2⟩
theorem formed_small {l : List Ent} (h : formedM l = true) {j : Nat} (hj : j < l.length) : l[j].name.size ≤ 8 := by
  have := (of_decide_eq_true (show decide (l.length ≤ 12 ∧ ∀ j, j < l.length → okAt l j = true) = true from h)).2 j hj
  unfold okAt at this
  rw [List.getElem?_eq_getElem hj] at this
  simp only [Bool.and_eq_true, okEnt, okName, decide_eq_true_eq] at this
  have h8 := this.1.1.1.1.1.1.2
  have hsz : l[j].name.data.toList.length = l[j].name.size := by rw [Array.length_toList]; rfl
  omega
/-- An entry stored field by field into a block just made. -/
theorem ent_stores {w : World} {nb B : Nat} (s : ByteArray) (f b x cc : Int) (h : Blk w nb 54 #[.string ⟨#[]⟩, .int .i64 0, .int .i64 0, .int .i64 0, .int .i64 0]) (hB : B ≤ w.heap.size) (hnb : B ≤ nb) :
    Blk (((((w.setCell ⟨nb, 0, none⟩ (.string s)).setCell ⟨nb, 1, none⟩ (.int .i64 f)).setCell ⟨nb, 2, none⟩ (.int .i64 b)).setCell ⟨nb, 3, none⟩ (.int .i64 x)).setCell ⟨nb, 4, none⟩ (.int .i64 cc)) nb 54 #[.string s, .int .i64 f, .int .i64 b, .int .i64 x, .int .i64 cc] ∧
    Below B w (((((w.setCell ⟨nb, 0, none⟩ (.string s)).setCell ⟨nb, 1, none⟩ (.int .i64 f)).setCell ⟨nb, 2, none⟩ (.int .i64 b)).setCell ⟨nb, 3, none⟩ (.int .i64 x)).setCell ⟨nb, 4, none⟩ (.int .i64 cc)) := by
  have c1 : Chg (fun k => k = nb) w (w.setCell ⟨nb, 0, none⟩ (.string s)) := Chg.setCell (Chg.refl (fun k => k = nb) w) ⟨nb, 0, none⟩ _ (fun _ => rfl)
  have c2 := Chg.setCell c1 ⟨nb, 1, none⟩ (.int .i64 f) (fun _ => rfl)
  have c3 := Chg.setCell c2 ⟨nb, 2, none⟩ (.int .i64 b) (fun _ => rfl)
  have c4 := Chg.setCell c3 ⟨nb, 3, none⟩ (.int .i64 x) (fun _ => rfl)
  have c5 := Chg.setCell c4 ⟨nb, 4, none⟩ (.int .i64 cc) (fun _ => rfl)
  exact ⟨((((h.set_ 0 (.string s)).set_ 1 (.int .i64 f)).set_ 2 (.int .i64 b)).set_ 3 (.int .i64 x)).set_ 4 (.int .i64 cc), c5.below_of hB (fun k hk e => by omega)⟩

set_option maxRecDepth 100000 in
set_option maxHeartbeats 4000000 in
theorem stands_yes (a1 a2 a3 : Option Addr) (nW nT n3 c1 c2 c3 : Nat) (k size : Nat) (T : List (BitVec 64)) (Ls : List Int) (g : Nat) (l : List Ent) (w : World) (hr1 : Row w a1 (Crc.words (wordsM g l))) (hr2 : Row w a2 (Crc.words T)) (hr3 : Row w a3 (Ls.map (.int .i64))) (hnW : 2 + l.length * 5 = nW) (hnT : T.length = nT) (hn3 : Ls.length = n3) (hk : k ≤ nT) (hT : nT ≤ 1000) (h3 : n3 ≤ 1000) (hc1 : c1 ≤ maxLen) (hcW : nW ≤ c1)
    (hg1 : 1 ≤ g) (hg2 : g ≤ 4611686018427387904) (hf : formedM l = true) (hall : ∀ t ∈ T, t = BitVec.ofNat 64 g) (h8 : 8 ≤ size) (h256 : size ≤ 256) (hls : ∀ i (hi : i < Ls.length), Ls[i] = ((min (size - 2) (nW - i * (size - 2)) : Nat) : Int)) :
    Calls Tryd.prog 34 #[.agg #[.slice a1 nW c1, .slice a2 nT c2, .slice a3 n3 c3], .int .i64 (k : Int), .int .i64 (size : Int), .int .i64 ((g % 2 : Nat) : Int)] w (StoodC w g l) := by
  have hl12 : l.length ≤ 12 := by unfold formedM at hf; exact (of_decide_eq_true hf).1
  have f1 : ¬ (nT : Int) < (k : Int) := by omega
  have f2 : ¬ (nW : Int) < 2 := by omega
  have hb := (Below.refl w.heap.size w).alloc (Nat.le_refl _) (.cells #[.slice a1 nW c1, .slice a2 nT c2, .slice a3 n3 c3] 70)
  have r1 := hr1.below hb
  have HR2 := Lib.hid (hr2.below hb)
  have HR0 := Lib.hid hr1
  have HR3 := Lib.hid (hr3.below hb)
  have HB := Lib.hid hb
  obtain ⟨W, hW⟩ : ∃ W, W = wordsM g l := ⟨_, rfl⟩
  have hWl : W.length = nW := by rw [hW, wordsM_length, hnW]
  rw [← hW] at r1
  obtain ⟨b1, o1, rfl, cw0, _⟩ := r1.at_ (i := 0) (by rw [Crc.words_length]; omega)
  obtain ⟨b1', o1', e1, cw1, _⟩ := r1.at_ (i := 1) (by rw [Crc.words_length]; omega)
  injection e1 with e1
  injection e1 with e1 e1'
  subst e1 e1'
  have cw0' : (Crc.words W)[0]'(by rw [Crc.words_length]; omega) = .int .u64 (g : Int) := by
    subst hW
    unfold Crc.words wordsM
    simp only [List.map_cons, List.getElem_cons_zero]
    rw [Crc.I64_ofNat (by omega)]
  have cw1' : (Crc.words W)[1]'(by rw [Crc.words_length]; omega) = .int .u64 (l.length : Int) := by
    subst hW
    unfold Crc.words wordsM
    simp only [List.map_cons, List.getElem_cons_zero, List.getElem_cons_succ]
    rw [Crc.I64_ofNat (by omega)]
  rw [cw0'] at cw0
  rw [cw1'] at cw1
  simp only [Nat.add_zero] at cw0
  have HR1 := Lib.hid r1
  have HW := Lib.hid (And.intro hW hWl)
  have g1 : ¬ (g : Int) < 1 := by omega
  have g2 : ¬ (4611686018427387904 : Int) < (g : Int) := by omega
  have g3 : IntKind.i64.wrap ((g % 2 : Nat) : Int) = ((g % 2 : Nat) : Int) := by rw [IntKind.wrap_i64]; omega
  obtain ⟨n, hn⟩ : ∃ n, n = l.length := ⟨_, rfl⟩
  rw [← hn] at cw1 hnW hl12
  have n1 : ¬ (12 : Int) < (n : Int) := by omega
  have n2 : IntKind.i64.wrap (n : Int) = (n : Int) := by rw [IntKind.wrap_i64]; omega
  have n3' : IntKind.i64.wrap (5 * (n : Int)) = 5 * (n : Int) := by rw [IntKind.wrap_i64]; omega
  have n4 : IntKind.i64.wrap (2 + 5 * (n : Int)) = 2 + 5 * (n : Int) := by rw [IntKind.wrap_i64]; omega
  have hlen : (nW : Int) = 2 + 5 * (n : Int) := by omega
  have HX := Lib.hid (And.intro hn (And.intro hnW (And.intro hl12 (And.intro hf (And.intro hnT (And.intro hT (And.intro hn3 h3)))))))
  have HALL := Lib.hid hall
  have HLS := Lib.hid hls
  have HG := Lib.hid (And.intro hg1 hg2)
  have HSZ := Lib.hid (And.intro h8 h256)
  have HC := Lib.hid (And.intro hc1 hcW)
  clear hr1 hr2 hr3 hb r1 cw0' cw1' hWl hW hnW hnT hn3 hk hT h3 hg1 hg2 hf hall hls h8 h256 hn hl12 hc1 hcW
  go_enter Tryd.func34, Tryd.ntmps34
  go_upto_region 3 with (fail)
  go_quiet (fail)
  have hq := Blk.new w 70 #[.slice (some ⟨b1, o1, none⟩) nW c1, .slice a2 nT c2, .slice a3 n3 c3]
  have HB2 := Lib.hid (below_dn HB.out nq)
  have HS1 := Lib.hid (HR1.out.below (below_dn (Below.refl _ _) nq))
  have HS2 := Lib.hid (HR2.out.below (below_dn (Below.refl _ _) nq))
  have HS3 := Lib.hid (HR3.out.below (below_dn (Below.refl _ _) nq))
  have hq2 : Blk ((w.alloc (.cells #[.slice (some ⟨b1, o1, none⟩) nW c1, .slice a2 nT c2, .slice a3 n3 c3] 70)).drewN nq) w.heap.size 70 #[.slice (some ⟨b1, o1, none⟩) nW c1, .slice a2 nT c2, .slice a3 n3 c3] := hq
  have q0 := hq2.cell 0
  have q1 := hq2.cell 1
  have q2 := hq2.cell 2
  clear HB HR1 HR2 HR3 hq hq2 cw0 cw1
  generalize (w.alloc (.cells #[.slice (some ⟨b1, o1, none⟩) nW c1, .slice a2 nT c2, .slice a3 n3 c3] 70)).drewN nq = w2 at *
  simp at q0 q1 q2
  go_wp2_with fail
  clear g1 g2 g3 n1 n2 n3' n4 f1 f2
  go_loopw [69] (fun iv wr => TagLoop T g w2 iv wr) (fun iv _ => T.length - (intOf iv).toNat)
  case atStart => exact ⟨0, rfl, Nat.zero_le _, fun i _ h => absurd h (Nat.not_lt_zero _), rfl⟩
  case round =>
    obtain ⟨j, rfl, hj, hall, rfl⟩ := hrel
    clear hall
    by_cases hlt : j < T.length
    · have hlt2 : (j : Int) < (nT : Int) := by have := HX.out; omega
      have i0 : (0 : Int) ≤ (j : Int) := by omega
      obtain ⟨b2, o2, rfl, cj, _⟩ := HS2.out.at_ (i := j) (by rw [Crc.words_length]; exact hlt)
      unfold Crc.words at cj
      rw [List.getElem_map] at cj
      have HM := Lib.hid (And.intro hj hlt)
      have hjb : j < 1000 := by have := HX.out; omega
      have hq : T[j] = BitVec.ofNat 64 g := HALL.out _ (List.getElem_mem hlt)
      have hI : Crc.I64 T[j] = (g : Int) := by rw [hq, Crc.I64_ofNat (by have := HG.out; omega)]
      rw [hI] at cj
      clear hq hI hlt hj
      go_wp2_with fail
      go_roundw
      case rel => exact ⟨j + 1, by have := HM.out; go_num, HM.out.2, fun i hi h => HALL.out _ (List.getElem_mem hi), rfl⟩
      case measure => have := HM.out.2; simp [intOf]; omega
    · have hlt2 : ¬ (j : Int) < (nT : Int) := by have := HX.out; omega
      clear hj hlt
      go_wp2_with fail
      have HLEN := Lib.hid hlen
      clear hlen hlt2
      go_loopw [14, 83] (fun lv iv wr => LenLoop Ls nW (size - 2) w2 lv iv wr) (fun _ iv _ => Ls.length - (intOf iv).toNat)
      case atStart => exact ⟨0, rfl, Nat.zero_le _, by have := HLEN.out; simp; omega, rfl⟩
      case round =>
        obtain ⟨i, rfl, hi, rfl, rfl⟩ := hrel
        by_cases hlt : i < Ls.length
        · have hlt2 : (i : Int) < (n3 : Int) := by have := HX.out; omega
          have i0 : (0 : Int) ≤ (i : Int) := by omega
          obtain ⟨b3, o3, rfl, cj, _⟩ := HS3.out.at_ (i := i) (by rw [List.length_map]; exact hlt)
          rw [List.getElem_map, HLS.out i hlt] at cj
          have HM := Lib.hid (And.intro hi hlt)
          have hib : i < 1000 := by have := HX.out; omega
          have HN := Lib.hid (show nW - (i + 1) * (size - 2) = nW - i * (size - 2) - (size - 2) from by rw [Nat.add_mul]; omega)
          have hx62 : nW - i * (size - 2) ≤ 62 := by have := HX.out; omega
          generalize nW - i * (size - 2) = x at *
          have hsw : IntKind.i64.wrap ((size : Int) - 2) = ((size - 2 : Nat) : Int) := by have := HSZ.out; rw [IntKind.wrap_i64]; omega
          have hsp : size - 2 ≤ 254 := by have := HSZ.out; omega
          generalize size - 2 = sp at *
          clear hlt hi
          go_wp2_with fail
          go_roundw
          case rel => exact ⟨i + 1, by go_num, HM.out.2, by rw [HN.out]; exact congrArg _ (by omega), rfl⟩
          case measure => have := HM.out.2; simp [intOf]; omega
        · have hlt2 : ¬ (i : Int) < (n3 : Int) := by have := HX.out; omega
          clear hlt hi
          go_upto_region 21 with (fail)
          go_cut [18] (fun wv wx => EntAt l w b1 0 wv ∧ w2 = wx)
          case first =>
            have f1 : (2 : Int) ≤ (nW : Int) := by have := HX.out; omega
            have f3 : (nW : Int) ≤ (c1 : Int) := by have := HC.out; omega
            by_cases hcap : c1 = 2
            · have HCAP := Lib.hid hcap
              have hcapT : (c1 = 2) = True := by simp [hcap]
              clear hcap
              go_wp2_with fail
              go_meet
              have := HX.out
              have := HCAP.out
              exact ⟨⟨o1, 0, by congr 1 <;> omega, by omega, by unfold maxLen; omega, by
                have h := (HR0.out.take 0)
                have h0 : l = [] := List.length_eq_zero_iff.1 (by have := HC.out; omega)
                rw [h0]
                exact Row.nil _ _⟩, rfl⟩
            · go_wp2_with fail
              go_meet
              have := HX.out
              exact ⟨⟨o1 + 2, c1 - 2, by congr 1 <;> omega, by have := HC.out; omega, by have := HC.out; omega, by
                have h := HR0.out.drop 2
                unfold Crc.words at h
                rw [← List.map_drop] at h
                exact h⟩, rfl⟩
          case rest =>
            obtain ⟨he, rfl⟩ := hcut
            have HE := Lib.hid he
            clear he
            have hl18 : ∃ m c, u18 = .slice (some ⟨b1, m, none⟩) (l.length * 5) c := by obtain ⟨o, c, h, _⟩ := HE.out; exact ⟨o, c, h⟩
            go_wp2_with fail
            go_loopw [17, 18] (fun lv wv wr => EntLoop l w b1 lv wv wr) (fun _ wv _ => sLen wv)
            case atStart => exact ⟨0, Nat.zero_le _, World.ownsRow_nil _ _ _ _, HE.out, HB2.out⟩
            case round =>
              obtain ⟨j, hj, hown, ⟨o, c, rfl, hc1, hc2, hrow⟩, hbr⟩ := hrel
              by_cases hlt : j < l.length
              · have hok : okEnt l[j] = true := by
                  have := (of_decide_eq_true (show decide (l.length ≤ 12 ∧ ∀ j, j < l.length → okAt l j = true) = true from HX.out.2.2.2.1)).2 j hlt
                  unfold okAt at this
                  rw [List.getElem?_eq_getElem hlt] at this
                  simp only [Bool.and_eq_true] at this
                  exact this.1
                have hdr : l.drop j = l[j] :: l.drop (j + 1) := List.drop_eq_getElem_cons hlt
                have HTS := Lib.hid (show flatM (l.take (j + 1)) = flatM (l.take j) ++ ecells l[j] from by
                  rw [List.take_succ_eq_append_getElem hlt, flatM_append]
                  simp [flatM])
                have hrw : Crc.words (entsW (l.drop j)) = Crc.words (entW l[j]) ++ Crc.words (entsW (l.drop (j + 1))) := by
                  rw [hdr, ← words_append]
                  rfl
                rw [hrw] at hrow
                have hrow2 := hrow.drop 5
                rw [show (Crc.words (entW l[j]) ++ Crc.words (entsW (l.drop (j + 1)))).drop 5 = Crc.words (entsW (l.drop (j + 1))) from rfl] at hrow2
                have hcell := hrow.below hbr
                generalize l[j] = p0 at *
                obtain ⟨s, f, b, x, cc⟩ := p0
                simp only [okEnt, okName, Bool.and_eq_true, decide_eq_true_eq] at hok
                obtain ⟨⟨⟨⟨⟨⟨s1, s8⟩, sok⟩, of_⟩, ob⟩, ox⟩, oc⟩ := hok
                unfold okNum at of_ ob ox oc
                simp only [Bool.and_eq_true, decide_eq_true_eq] at of_ ob ox oc
                have hsz : s.data.toList.length = s.size := by rw [Array.length_toList]; rfl
                rw [hsz] at s1 s8
                have hnz : ∀ c ∈ s.data.toList, c.toNat ≠ 0 := fun c hc h0 => by
                  have := List.all_eq_true.1 sok c hc
                  unfold okB at this
                  rw [h0] at this
                  simp at this
                have hpk : packN s 8 < 18446744073709551616 := Nat.lt_of_lt_of_le (packN_lt s 8) (by decide)
                have hI : ∀ y : Int, 0 ≤ y → y ≤ 1099511627776 → Crc.I64 (BitVec.ofInt 64 y) = y := fun y h0 h1 => by
                  unfold Crc.I64
                  rw [BitVec.toNat_ofInt]
                  omega
                have cellAt : ∀ k (hk : k < 5), wr.cell? ⟨b1, o + k, none⟩ = some ([Value.int .u64 ((packN s 8 : Nat) : Int), .int .u64 f, .int .u64 b, .int .u64 x, .int .u64 cc][k]'hk) := fun k hk => by
                  obtain ⟨b', o', e', hc', _⟩ := hcell.at_ (i := k) (by rw [List.length_append, Crc.words_length]; simp [entW]; omega)
                  injection e' with e'
                  injection e' with e1 e2
                  subst e1 e2
                  rw [hc']
                  congr 1
                  rw [List.getElem_append_left (by rw [Crc.words_length]; simpa [entW] using hk)]
                  unfold Crc.words entW
                  rcases k with _ | _ | _ | _ | _ | k
                  · simp only [List.map_cons, List.getElem_cons_zero]; rw [Crc.I64_ofNat hpk]
                  · simp only [List.map_cons, List.getElem_cons_zero, List.getElem_cons_succ]; rw [hI f of_.1 of_.2]
                  · simp only [List.map_cons, List.getElem_cons_zero, List.getElem_cons_succ]; rw [hI b ob.1 ob.2]
                  · simp only [List.map_cons, List.getElem_cons_zero, List.getElem_cons_succ]; rw [hI x ox.1 ox.2]
                  · simp only [List.map_cons, List.getElem_cons_zero, List.getElem_cons_succ]; rw [hI cc oc.1 oc.2]
                  · omega
                have hbb : b1 < wr.heap.size := (cell_lt (cellAt 0 (by omega))).1
                have CELL := Lib.hid (fun w' (hF : Below wr.heap.size wr w') => (⟨(hF.cell hbb).trans (cellAt 0 (by omega)), (hF.cell hbb).trans (cellAt 1 (by omega)), (hF.cell hbb).trans (cellAt 2 (by omega)), (hF.cell hbb).trans (cellAt 3 (by omega)), (hF.cell hbb).trans (cellAt 4 (by omega))⟩ : w'.cell? ⟨b1, o, none⟩ = some (.int .u64 ((packN s 8 : Nat) : Int)) ∧ w'.cell? ⟨b1, o + 1, none⟩ = some (.int .u64 f) ∧ w'.cell? ⟨b1, o + 2, none⟩ = some (.int .u64 b) ∧ w'.cell? ⟨b1, o + 3, none⟩ = some (.int .u64 x) ∧ w'.cell? ⟨b1, o + 4, none⟩ = some (.int .u64 cc)))
                have UNP := Lib.hid (fun W' => unpack_any s W' s1 s8 hnz)
                have hw1 : IntKind.i64.wrap f = f := by rw [IntKind.wrap_i64]; omega
                have hw2 : IntKind.i64.wrap b = b := by rw [IntKind.wrap_i64]; omega
                have hw3 : IntKind.i64.wrap x = x := by rw [IntKind.wrap_i64]; omega
                have hw4 : IntKind.i64.wrap cc = cc := by rw [IntKind.wrap_i64]; omega
                have HM := Lib.hid (And.intro hj hlt)
                have HO := Lib.hid hown
                have HBR := Lib.hid hbr
                have HRN := Lib.hid hrow2
                have HM5 := Lib.hid (show (l.length - j) * 5 = (l.length - (j + 1)) * 5 + 5 by omega)
                have hm5 : 5 ≤ (l.length - j) * 5 := by omega
                generalize (l.length - j) * 5 = m at *
                have m0 : ¬ m = 0 := by omega
                have m1 : (1 : Int) < (m : Int) := by omega
                have m2 : (2 : Int) < (m : Int) := by omega
                have m3 : (3 : Int) < (m : Int) := by omega
                have m4 : (4 : Int) < (m : Int) := by omega
                have HCC := Lib.hid (And.intro hc1 hc2)
                have HPK : Hid (∃ q, q = packN s 8) := Lib.hid ⟨_, rfl⟩
                have hd0 : Below wr.heap.size wr wr.drew := (Below.refl _ _).drew
                generalize hpp : packN s 8 = p at *
                clear hown hbr hrow hrow2 hcell cellAt hI hdr hrw hpk hnz hlt hj s1 s8 sok of_ ob ox oc hsz hc1 hc2
                go_upto_region 24 with (fail)
                go_cut [19] (fun pv wx => ∃ nb, pv = .pointer (some ⟨nb, 0, none⟩) ∧ Blk wx nb 54 #[.string s, .int .i64 f, .int .i64 b, .int .i64 x, .int .i64 cc] ∧ wr.heap.size ≤ nb ∧ Below wr.heap.size wr wx)
                case first =>
                  refine as_begin (fun w' => Below wr.heap.size wr w') (fun j => decide (22 ≤ j)) 23 rfl (by kernel_rfl) hd0 ?_
                  refine as_read (i := 0) _ (.slice (some ⟨b1, o, none⟩) m c) hd0 (fun _ _ d _ _ h => by cases d <;> exact h) rfl (by kernel_rfl) rfl (fun w' hF => by obtain ⟨u0, u1, u2, u3, u4⟩ := CELL.out _ hF; simp [execOp, Act.eval, go_sem]) ?_
                  refine as_read (i := 1) _ (.pointer (some ⟨b1, o, none⟩)) hd0 (fun _ _ d _ _ h => by cases d <;> exact h) rfl (by kernel_rfl) rfl (fun w' hF => by obtain ⟨u0, u1, u2, u3, u4⟩ := CELL.out _ hF; simp [execOp, Act.eval, go_sem, m0]) ?_
                  refine as_read (i := 2) _ (.int .u64 (p : Int)) hd0 (fun _ _ d _ _ h => by cases d <;> exact h) rfl (by kernel_rfl) rfl (fun w' hF => by obtain ⟨u0, u1, u2, u3, u4⟩ := CELL.out _ hF; simp [execOp, Act.eval, go_sem, u0]) ?_
                  refine as_read (i := 4) _ (.slice (some ⟨b1, o, none⟩) m c) hd0 (fun _ _ d _ _ h => by cases d <;> exact h) rfl (by kernel_rfl) rfl (fun w' hF => by obtain ⟨u0, u1, u2, u3, u4⟩ := CELL.out _ hF; simp [execOp, Act.eval, go_sem]) ?_
                  refine as_read (i := 5) _ (.pointer (some ⟨b1, o + 1, none⟩)) hd0 (fun _ _ d _ _ h => by cases d <;> exact h) rfl (by kernel_rfl) rfl (fun w' hF => by obtain ⟨u0, u1, u2, u3, u4⟩ := CELL.out _ hF; simp [execOp, Act.eval, go_sem, m1]) ?_
                  refine as_read (i := 6) _ (.int .u64 f) hd0 (fun _ _ d _ _ h => by cases d <;> exact h) rfl (by kernel_rfl) rfl (fun w' hF => by obtain ⟨u0, u1, u2, u3, u4⟩ := CELL.out _ hF; simp [execOp, Act.eval, go_sem, u1]) ?_
                  refine as_read (i := 7) _ (.int .i64 f) hd0 (fun _ _ d _ _ h => by cases d <;> exact h) rfl (by kernel_rfl) rfl (fun w' hF => by obtain ⟨u0, u1, u2, u3, u4⟩ := CELL.out _ hF; simp [execOp, Act.eval, go_sem, hw1]) ?_
                  refine as_read (i := 8) _ (.slice (some ⟨b1, o, none⟩) m c) hd0 (fun _ _ d _ _ h => by cases d <;> exact h) rfl (by kernel_rfl) rfl (fun w' hF => by obtain ⟨u0, u1, u2, u3, u4⟩ := CELL.out _ hF; simp [execOp, Act.eval, go_sem]) ?_
                  refine as_read (i := 9) _ (.pointer (some ⟨b1, o + 2, none⟩)) hd0 (fun _ _ d _ _ h => by cases d <;> exact h) rfl (by kernel_rfl) rfl (fun w' hF => by obtain ⟨u0, u1, u2, u3, u4⟩ := CELL.out _ hF; simp [execOp, Act.eval, go_sem, m2]) ?_
                  refine as_read (i := 10) _ (.int .u64 b) hd0 (fun _ _ d _ _ h => by cases d <;> exact h) rfl (by kernel_rfl) rfl (fun w' hF => by obtain ⟨u0, u1, u2, u3, u4⟩ := CELL.out _ hF; simp [execOp, Act.eval, go_sem, u2]) ?_
                  refine as_read (i := 11) _ (.int .i64 b) hd0 (fun _ _ d _ _ h => by cases d <;> exact h) rfl (by kernel_rfl) rfl (fun w' hF => by obtain ⟨u0, u1, u2, u3, u4⟩ := CELL.out _ hF; simp [execOp, Act.eval, go_sem, hw2]) ?_
                  refine as_read (i := 12) _ (.slice (some ⟨b1, o, none⟩) m c) hd0 (fun _ _ d _ _ h => by cases d <;> exact h) rfl (by kernel_rfl) rfl (fun w' hF => by obtain ⟨u0, u1, u2, u3, u4⟩ := CELL.out _ hF; simp [execOp, Act.eval, go_sem]) ?_
                  refine as_read (i := 13) _ (.pointer (some ⟨b1, o + 3, none⟩)) hd0 (fun _ _ d _ _ h => by cases d <;> exact h) rfl (by kernel_rfl) rfl (fun w' hF => by obtain ⟨u0, u1, u2, u3, u4⟩ := CELL.out _ hF; simp [execOp, Act.eval, go_sem, m3]) ?_
                  refine as_read (i := 14) _ (.int .u64 x) hd0 (fun _ _ d _ _ h => by cases d <;> exact h) rfl (by kernel_rfl) rfl (fun w' hF => by obtain ⟨u0, u1, u2, u3, u4⟩ := CELL.out _ hF; simp [execOp, Act.eval, go_sem, u3]) ?_
                  refine as_read (i := 15) _ (.int .i64 x) hd0 (fun _ _ d _ _ h => by cases d <;> exact h) rfl (by kernel_rfl) rfl (fun w' hF => by obtain ⟨u0, u1, u2, u3, u4⟩ := CELL.out _ hF; simp [execOp, Act.eval, go_sem, hw3]) ?_
                  refine as_read (i := 16) _ (.slice (some ⟨b1, o, none⟩) m c) hd0 (fun _ _ d _ _ h => by cases d <;> exact h) rfl (by kernel_rfl) rfl (fun w' hF => by obtain ⟨u0, u1, u2, u3, u4⟩ := CELL.out _ hF; simp [execOp, Act.eval, go_sem]) ?_
                  refine as_read (i := 17) _ (.pointer (some ⟨b1, o + 4, none⟩)) hd0 (fun _ _ d _ _ h => by cases d <;> exact h) rfl (by kernel_rfl) rfl (fun w' hF => by obtain ⟨u0, u1, u2, u3, u4⟩ := CELL.out _ hF; simp [execOp, Act.eval, go_sem, m4]) ?_
                  refine as_read (i := 18) _ (.int .u64 cc) hd0 (fun _ _ d _ _ h => by cases d <;> exact h) rfl (by kernel_rfl) rfl (fun w' hF => by obtain ⟨u0, u1, u2, u3, u4⟩ := CELL.out _ hF; simp [execOp, Act.eval, go_sem, u4]) ?_
                  refine as_read (i := 19) _ (.int .i64 cc) hd0 (fun _ _ d _ _ h => by cases d <;> exact h) rfl (by kernel_rfl) rfl (fun w' hF => by obtain ⟨u0, u1, u2, u3, u4⟩ := CELL.out _ hF; simp [execOp, Act.eval, go_sem, hw4]) ?_
                  refine as_alt [3, 21] (by kernel_rfl) rfl (all2 ?_ ?_)
                  · refine altG_mk _ rfl rfl (fun K hK => ?_)
                    go_simp
                    refine (UNP.out _).mono ?_
                    rintro e w5 ⟨rfl, hd5⟩
                    have hd5 := hd0.trans (hd5.mono hd0.size)
                    refine hK.out _ _ (fun _ => hd5) ?_
                    clear hK K
                    refine as_read (i := 20) _ (.agg #[.string s, .int .i64 f, .int .i64 b, .int .i64 x, .int .i64 cc]) hd5 (fun _ _ d _ _ h => by cases d <;> exact h) rfl (by kernel_rfl) rfl (fun w' hF => by simp [execOp, Act.eval, go_sem]) ?_
                    refine as_alt [21] (by kernel_rfl) rfl (all1 ?_)
                    refine altG_mk _ rfl rfl (fun K hK => ?_)
                    go_simp
                    refine hK.out _ _ (fun _ => hd5.alloc hd5.size _) ?_
                    clear hK K
                    refine as_alt [22] (by kernel_rfl) rfl (all1 ?_)
                    refine altG_mk _ rfl rfl (fun K hK => ?_)
                    go_simp
                    refine hK.out _ _ (fun h => absurd h (by decide)) ?_
                    clear hK K
                    refine as_end (by kernel_rfl) ?_
                    go_wp2_with fail
                    go_meet
                    exact ⟨w5.heap.size, rfl, Blk.new w5 _ _, hd5.size, hd5.alloc hd5.size _⟩
                  · refine altG_mk _ rfl rfl (fun K hK => ?_)
                    go_simp
                    refine hK.out _ _ (fun _ => hd0.alloc hd0.size _) ?_
                    clear hK K
                    refine as_alt [3] (by kernel_rfl) rfl (all1 ?_)
                    refine altG_mk _ rfl rfl (fun K hK => ?_)
                    go_simp
                    refine (UNP.out _).mono ?_
                    rintro e w5 ⟨rfl, hd5⟩
                    have hB5 : Blk w5 wr.heap.size 54 #[.string ⟨#[]⟩, .int .i64 0, .int .i64 0, .int .i64 0, .int .i64 0] := Blk.below (Blk.new wr.drew _ #[.string ⟨#[]⟩, .int .i64 0, .int .i64 0, .int .i64 0, .int .i64 0]) hd5 (by simp)
                    have hd6 : Below wr.heap.size wr w5 := (hd0.alloc hd0.size _).trans (hd5.mono (by simp))
                    clear hd5
                    refine hK.out _ _ (fun _ => hd6) ?_
                    clear hK K
                    refine as_read (i := 20) _ (.agg #[.string s, .int .i64 f, .int .i64 b, .int .i64 x, .int .i64 cc]) hd6 (fun _ _ d _ _ h => by cases d <;> exact h) rfl (by kernel_rfl) rfl (fun w' hF => by simp [execOp, Act.eval, go_sem]) ?_
                    refine as_alt [22] (by kernel_rfl) rfl (all1 ?_)
                    refine altG_mk _ rfl rfl (fun K hK => ?_)
                    have z0 := hB5.frozen 0
                    have z1 := (hB5.set_ 0 (.string s)).frozen 1
                    have z2 := ((hB5.set_ 0 (.string s)).set_ 1 (.int .i64 f)).frozen 2
                    have z3 := (((hB5.set_ 0 (.string s)).set_ 1 (.int .i64 f)).set_ 2 (.int .i64 b)).frozen 3
                    have z4 := ((((hB5.set_ 0 (.string s)).set_ 1 (.int .i64 f)).set_ 2 (.int .i64 b)).set_ 3 (.int .i64 x)).frozen 4
                    have c0 := hB5.cell 0
                    have c1' := (hB5.set_ 0 (.string s)).cell 1
                    have c2' := ((hB5.set_ 0 (.string s)).set_ 1 (.int .i64 f)).cell 2
                    have c3' := (((hB5.set_ 0 (.string s)).set_ 1 (.int .i64 f)).set_ 2 (.int .i64 b)).cell 3
                    have c4 := ((((hB5.set_ 0 (.string s)).set_ 1 (.int .i64 f)).set_ 2 (.int .i64 b)).set_ 3 (.int .i64 x)).cell 4
                    simp at c0 c1' c2' c3' c4
                    go_simp
                    refine hK.out _ _ (fun h => absurd h (by decide)) ?_
                    clear hK K c0 c1' c2' c3' c4 z0 z1 z2 z3 z4
                    refine as_end (by kernel_rfl) ?_
                    obtain ⟨hE1, hE2⟩ := ent_stores (B := wr.heap.size) s f b x cc hB5 hd6.size (Nat.le_refl _)
                    generalize ((((w5.setCell ⟨wr.heap.size, 0, none⟩ (.string s)).setCell ⟨wr.heap.size, 1, none⟩ (.int .i64 f)).setCell ⟨wr.heap.size, 2, none⟩ (.int .i64 b)).setCell ⟨wr.heap.size, 3, none⟩ (.int .i64 x)).setCell ⟨wr.heap.size, 4, none⟩ (.int .i64 cc) = w6 at *
                    go_wp2_with fail
                    go_meet
                    exact ⟨wr.heap.size, rfl, hE1, Nat.le_refl _, hd6.trans hE2⟩
                case rest =>
                  obtain ⟨nb, rfl, hbe, hnb, hbx⟩ := hcut
                  obtain ⟨u0, -⟩ := CELL.out _ hbx
                  have e0 := hbe.cell 0
                  have e1 := hbe.cell 1
                  have e2 := hbe.cell 2
                  have e3 := hbe.cell 3
                  have e4 := hbe.cell 4
                  simp at e0 e1 e2 e3 e4
                  have HO2 := Lib.hid (own_chg HO.out (Chg.of_below' (S := fun _ => False) hbx) (fun _ _ h => h))
                  have HB6 := Lib.hid (HBR.out.trans (hbx.mono HBR.out.size))
                  have HPA := Lib.hid (fun W' => pack_any s W')
                  rw [hpp] at HPA
                  have HBE := Lib.hid hbe
                  clear hbe hbx hd0 UNP CELL HO HBR hpp HPK
                  go_upto_region 25 with (fail)
                  go_quiet ((go_at_call 30; exact Calls.quiet_of_same' (HPA.out _)))
                  have e0 : (wc.drewN nq).cell? ⟨nb, 0, none⟩ = some (.string s) := e0
                  have e1 : (wc.drewN nq).cell? ⟨nb, 1, none⟩ = some (.int .i64 f) := e1
                  have e2 : (wc.drewN nq).cell? ⟨nb, 2, none⟩ = some (.int .i64 b) := e2
                  have e3 : (wc.drewN nq).cell? ⟨nb, 3, none⟩ = some (.int .i64 x) := e3
                  have e4 : (wc.drewN nq).cell? ⟨nb, 4, none⟩ = some (.int .i64 cc) := e4
                  have HO7 := Lib.hid (own_chg HO2.out (Chg.of_below' (S := fun _ => False) (below_dn (Below.refl _ _) nq)) (fun _ _ h => h))
                  have HB7 := Lib.hid (below_dn HB6.out nq)
                  clear HO2 HB6 HBE HPA
                  generalize wc.drewN nq = w7 at *
                  have hj12 : j ≤ 12 := by have := HM.out; have := HX.out; omega
                  go_wp2_with (at_builtin; go_must (refine wpList_append rfl (.tmp 133) (.tmp 135) _ rfl el_ent w.heap.size _ _ _ rfl (HO7.out.alloc _) (some ⟨_, 0, none⟩) 1 1 [.string s, .int .i64 f, .int .i64 b, .int .i64 x, .int .i64 cc] rfl rfl (Row.new _ _ _ _) (by intro u hu; simp at hu; rcases hu with rfl | rfl | rfl | rfl | rfl <;> rfl) (by unfold maxLen; omega) (by omega) (by have := HB7.out.size; simp; omega) ?_))
                  intro v2 w8 hown2 hg2 _ hb2
                  have hown3 : w8.ownsRow w.heap.size 54 5 v2 (j + 1) (flatM (l.take (j + 1))) := by rw [HTS.out]; exact hown2
                  have HO8 := Lib.hid hown3
                  have HB8 := Lib.hid ((HB7.out.alloc HB7.out.size _).trans hb2)
                  have f5 : (5 : Int) ≤ (m : Int) := by omega
                  have f6 : (m : Int) ≤ (c : Int) := by have := HCC.out; omega
                  clear hown2 hown3 hg2 hb2 e0 e1 e2 e3 e4 HO7 HB7 u0
                  by_cases hcap : c = 5
                  · have HCAP := Lib.hid hcap
                    have hcapT : (c = 5) = True := by simp [hcap]
                    clear hcap
                    go_wp2_with fail
                    go_roundw
                    case rel =>
                      have h1 := HM.out
                      have h2 := HM5.out
                      have h3 := HCC.out
                      have h4 := HCAP.out
                      have h0 : l.drop (j + 1) = [] := List.drop_eq_nil_of_le (by omega)
                      exact ⟨j + 1, by omega, HO8.out, ⟨o, 0, by congr 1 <;> omega, by omega, by unfold maxLen; omega, by rw [h0]; exact Row.nil _ _⟩, HB8.out⟩
                    case measure => simp [sLen]; omega
                  · go_wp2_with fail
                    go_roundw
                    case rel =>
                      have h1 := HM.out
                      have h2 := HM5.out
                      have h3 := HCC.out
                      exact ⟨j + 1, by omega, HO8.out, ⟨o + 5, c - 5, by congr 1 <;> omega, by omega, by omega, HRN.out⟩, HB8.out⟩
                    case measure => simp [sLen]; omega
              · have hjl : j = l.length := by omega
                subst hjl
                have hm0 : (l.length - l.length) * 5 = 0 := by omega
                rw [hm0]
                have ht : l.take l.length = l := List.take_length
                rw [ht] at hown
                have HO := Lib.hid hown
                have HBR := Lib.hid hbr
                obtain ⟨va, vc, hv, hrowF, -, -, -⟩ := own_ents hown
                have HF := Lib.hid (formed_any l va l.length vc wr hrowF rfl (by have := HX.out; omega) (fun i hi => Nat.le_trans (formed_small HX.out.2.2.2.1 hi) (by unfold maxLen; omega)))
                subst hv
                clear hown hbr hrowF hj hlt hc1 hc2 hrow
                go_wp2_with fail
                refine HF.out.mono ?_
                rintro e w9 ⟨rfl, hb9⟩
                rw [HX.out.2.2.2.1]
                have HO9 := Lib.hid (own_chg HO.out (Chg.of_below' (S := fun _ => False) hb9) (fun _ _ h => h))
                have HB9 := Lib.hid (HBR.out.trans (hb9.mono HBR.out.size))
                clear hb9 HF HO HBR
                go_wp2_with fail
                go_ret2
                exact ⟨_, rfl, HO9.out, HB9.out⟩

end Go.Proofs.YtmmkncocgjgapaaDoor.Mf

/- What a slot may hold, and what stands in it. -/
namespace Go.Proofs.YtmmkncocgjgapaaDoor.Mf
open Go.RowKit Dev

/-- What a block of a slot holds: a part of a generation's entries, or nothing. -/
abbrev Hold := Option (Nat × List Ent)
def holdC (span i : Nat) : Hold → BlkC
  | none => none
  | some q => some (partM (wordsM q.1 q.2) span i, BitVec.ofNat 64 q.1)
def slotH (span k : Nat) (τ : Nat → Hold) : List BlkC := (List.range k).map fun i => holdC span i (τ i)
theorem slotH_length (span k : Nat) (τ : Nat → Hold) : (slotH span k τ).length = k := by simp [slotH]
theorem slotH_get (span k : Nat) (τ : Nat → Hold) (i : Nat) (h : i < (slotH span k τ).length) : (slotH span k τ)[i] = holdC span i (τ i) := by simp [slotH]
theorem slotH_succ (span k : Nat) (τ : Nat → Hold) : slotH span (k + 1) τ = slotH span k τ ++ [holdC span k (τ k)] := by
  unfold slotH
  rw [List.range_succ, List.map_append]
  rfl
structure SlotOk (k p G : Nat) (τ : Nat → Hold) : Prop where
  ok : ∀ i g l, i < k → τ i = some (g, l) → 1 ≤ g ∧ g ≤ G ∧ g % 2 = p ∧ formedM l = true
  one : ∀ i j g l m, i < k → j < k → τ i = some (g, l) → τ j = some (g, m) → l = m
def StandsIs (k : Nat) (τ : Nat → Hold) : Hold → Prop
  | none => ¬ ∃ q, ∀ i, i < k → τ i = some q
  | some q => ∀ i, i < k → τ i = some q
theorem stands_is (k : Nat) (τ : Nat → Hold) : ∃ r, StandsIs k τ r := by
  by_cases h : ∃ q, ∀ i, i < k → τ i = some q
  · obtain ⟨q, h⟩ := h
    exact ⟨some q, h⟩
  · exact ⟨none, h⟩
def genH : Hold → Nat
  | none => 0
  | some q => q.1
def entsH : Hold → List Ent
  | none => []
  | some q => q.2
theorem tags_few {span : Nat} {τ : Nat → Hold} : ∀ k, (tagsOf (slotH span k τ)).length ≤ k ∧ ((∃ i, i < k ∧ τ i = none) → (tagsOf (slotH span k τ)).length < k) ∧ ((∀ i, i < k → τ i ≠ none) → (tagsOf (slotH span k τ)).length = k)
  | 0 => ⟨by simp [slotH, tagsOf], (fun ⟨i, h, _⟩ => absurd h (Nat.not_lt_zero _)), fun _ => rfl⟩
  | k + 1 => by
    obtain ⟨h1, h2, h3⟩ := tags_few (span := span) (τ := τ) k
    rw [slotH_succ, tagsOf_add, List.length_append]
    cases hk : τ k with
    | none =>
      have e : (tagC (holdC span k none)).length = 0 := rfl
      rw [e]
      exact ⟨by omega, fun _ => by omega, fun h => absurd hk (h k (by omega))⟩
    | some q =>
      have e : (tagC (holdC span k (some q))).length = 1 := rfl
      rw [e]
      refine ⟨by omega, (fun ⟨i, hi, hn⟩ => ?_), fun h => ?_⟩
      · have : i < k := by
          rcases Nat.lt_succ_iff_lt_or_eq.1 hi with h | h
          · exact h
          · subst h; rw [hk] at hn; cases hn
        have := h2 ⟨i, this, hn⟩
        omega
      · have := h3 (fun i hi => h i (by omega))
        omega
theorem tags_mem {span : Nat} {τ : Nat → Hold} : ∀ k i q, i < k → τ i = some q → BitVec.ofNat 64 q.1 ∈ tagsOf (slotH span k τ)
  | 0, i, q, h, _ => absurd h (Nat.not_lt_zero _)
  | k + 1, i, q, h, hq => by
    rw [slotH_succ, tagsOf_add, List.mem_append]
    by_cases e : i = k
    · subst e
      right
      rw [hq]
      simp [holdC, tagC]
    · exact .inl (tags_mem k i q (by omega) hq)
theorem tags_of {span : Nat} {τ : Nat → Hold} : ∀ k t, t ∈ tagsOf (slotH span k τ) → ∃ i q, i < k ∧ τ i = some q ∧ t = BitVec.ofNat 64 q.1
  | 0, t, h => by simp [slotH, tagsOf] at h
  | k + 1, t, h => by
    rw [slotH_succ, tagsOf_add, List.mem_append] at h
    rcases h with h | h
    · obtain ⟨i, q, h1, h2, h3⟩ := tags_of k t h
      exact ⟨i, q, by omega, h2, h3⟩
    · cases hk : τ k with
      | none => rw [hk] at h; simp [holdC, tagC] at h
      | some q =>
        rw [hk] at h
        simp [holdC, tagC] at h
        exact ⟨k, q, by omega, hk, h⟩
theorem slotH_whole {span k : Nat} {τ : Nat → Hold} {q : Nat × List Ent} (h : ∀ i, i < k → τ i = some q) : slotH span k τ = slotC (wordsM q.1 q.2) (BitVec.ofNat 64 q.1) span k := by
  unfold slotH slotC
  apply List.map_congr_left
  intro i hi
  rw [h i (List.mem_range.1 hi)]
  rfl
theorem slotH_part {span k : Nat} {τ : Nat → Hold} (hf : ∀ i g l, i < k → τ i = some (g, l) → (wordsM g l).length ≤ 62) : ∀ p t, some (p, t) ∈ slotH span k τ → p.length ≤ span := by
  intro p t h
  unfold slotH at h
  obtain ⟨i, hi, he⟩ := List.mem_map.1 h
  cases hk : τ i with
  | none => rw [hk] at he; simp [holdC] at he
  | some q =>
    rw [hk] at he
    simp only [holdC, Option.some.injEq, Prod.mk.injEq] at he
    rw [← he.1, partM_length]
    omega
theorem allOf_head {span k : Nat} {τ : Nat → Hold} {g : Nat} {l : List Ent} (hk : 0 < k) (h0 : τ 0 = some (g, l)) (hs : 6 ≤ span) : (allOf (slotH span k τ))[0]? = some (BitVec.ofNat 64 g) ∧ (allOf (slotH span k τ))[1]? = some (BitVec.ofNat 64 l.length) ∧ 2 ≤ (allOf (slotH span k τ)).length := by
  have key : ∀ k, 0 < k → ∃ r, allOf (slotH span k τ) = BitVec.ofNat 64 g :: BitVec.ofNat 64 l.length :: r := by
    intro k
    induction k with
    | zero => intro h; exact absurd h (Nat.lt_irrefl _)
    | succ k ih =>
      intro _
      rw [slotH_succ, allOf_add]
      by_cases hk0 : k = 0
      · subst hk0
        rw [h0]
        obtain ⟨s, rfl⟩ : ∃ s, span = s + 1 + 1 := ⟨span - 2, by omega⟩
        refine ⟨(entsW l).take s, ?_⟩
        simp [slotH, allOf, holdC, payC, partM, wordsM]
      · obtain ⟨r, hr⟩ := ih (by omega)
        rw [hr]
        exact ⟨_, rfl⟩
  obtain ⟨r, hr⟩ := key k hk
  rw [hr]
  exact ⟨rfl, rfl, by simp⟩

/-- What stands of a slot. -/
def StandC (w : World) (r : Hold) (e : Ending) (w' : World) : Prop :=
  ∃ v, e = .returned (.tuple #[v, .int .u64 (genH r : Int)]) ∧ w'.ownsRow w.heap.size 54 5 v (entsH r).length (flatM (entsH r)) ∧ Below w.heap.size w w'
theorem Nought.stand {w : World} {e : Ending} {w' : World} (h : Nought w e w') : StandC w none e w' := ⟨_, h.1, World.ownsRow_nil _ _ _ _, h.2⟩
theorem stands_any {size k p G : Nat} {τ : Nat → Hold} {r : Hold} (h8 : 8 ≤ size) (h256 : size ≤ 256) (hk : k = slotN size) (hok : SlotOk k p G τ) (hG : G ≤ 4611686018427387904) (hr : StandsIs k τ r) (a1 a2 a3 : Option Addr) (n1 n2 n3 c1 c2 c3 : Nat) (w : World)
    (hr1 : Row w a1 (Crc.words (allOf (slotH (size - 2) k τ)))) (hr2 : Row w a2 (Crc.words (tagsOf (slotH (size - 2) k τ)))) (hr3 : Row w a3 ((lensOf (slotH (size - 2) k τ)).map (.int .i64))) (hn1 : n1 = (allOf (slotH (size - 2) k τ)).length) (hn2 : n2 = (tagsOf (slotH (size - 2) k τ)).length) (hn3 : n3 = (lensOf (slotH (size - 2) k τ)).length) (hc : n1 ≤ c1) (hc1 : c1 ≤ maxLen) :
    Calls Tryd.prog 34 #[.agg #[.slice a1 n1 c1, .slice a2 n2 c2, .slice a3 n3 c3], .int .i64 (k : Int), .int .i64 (size : Int), .int .i64 (p : Int)] w (StandC w r) := by
  obtain ⟨b1, b2, b3, b4⟩ := slotN_bd h8 h256
  rw [← hk] at b1 b2 b3 b4
  have hlen : ∀ i g l, i < k → τ i = some (g, l) → (wordsM g l).length ≤ 62 := fun i g l hi h => by
    have := (hok.ok i g l hi h).2.2.2
    have h12 : l.length ≤ 12 := by unfold formedM at this; exact (of_decide_eq_true this).1
    rw [wordsM_length]
    omega
  have hpp := slotH_part (span := size - 2) hlen
  have hal := all_len (size := size) h256 (Cs := slotH (size - 2) k τ) (fun p t h => by have := hpp p t h; omega)
  rw [slotH_length] at hal
  obtain ⟨t1, t2, t3⟩ := tags_few (span := size - 2) (τ := τ) k
  have hnone : (∃ i, i < k ∧ τ i = none) → r = none := fun ⟨i, hi, h⟩ => by
    cases r with
    | none => rfl
    | some q => rw [hr i hi] at h; cases h
  by_cases hN : ∃ i, i < k ∧ τ i = none
  · rw [hnone hN]
    exact (stands_few a1 a2 a3 n1 n2 n3 c1 c2 c3 k size p w (by rw [hn2]; exact t2 hN)).mono fun e w' h => h.stand
  have hall : ∀ i, i < k → τ i ≠ none := fun i hi h => hN ⟨i, hi, h⟩
  have htl := t3 hall
  obtain ⟨⟨g, l⟩, h0⟩ : ∃ q, τ 0 = some q := Option.ne_none_iff_exists'.1 (hall 0 (by omega))
  obtain ⟨g1, g2, g3, g4⟩ := hok.ok 0 g l (by omega) h0
  by_cases hM : ∃ i q, i < k ∧ τ i = some q ∧ q.1 ≠ g
  · obtain ⟨i, q, hi, hq, hne⟩ := hM
    have hrn : r = none := by
      cases r with
      | none => rfl
      | some q' =>
        have e0 := hr 0 (by omega)
        have e1 := hr i hi
        rw [h0] at e0
        rw [hq] at e1
        injection e0 with e0
        injection e1 with e1
        exact absurd (by rw [e1, ← e0]) hne
    rw [hrn]
    obtain ⟨q1, q2, q3, q4⟩ := hok.ok i q.1 q.2 hi hq
    obtain ⟨w1, w2, w3⟩ := allOf_head (k := k) (span := size - 2) (by omega) h0 (show 6 ≤ size - 2 by omega)
    have h12 : l.length ≤ 12 := by unfold formedM at g4; exact (of_decide_eq_true g4).1
    rw [← g3]
    refine (stands_mix a1 a2 a3 n1 n2 n3 c1 c2 c3 k size _ _ g l.length w hr1 hr2 hn1.symm hn2.symm (by omega) (by omega) (by omega) (by omega) w1 g1 (by omega) w2 h12 ⟨_, tags_mem k i q hi hq, fun e => hne ?_⟩).mono fun e w' h => h.stand
    have := congrArg BitVec.toNat e
    rw [BitVec.toNat_ofNat, BitVec.toNat_ofNat, Nat.mod_eq_of_lt (by omega), Nat.mod_eq_of_lt (by omega)] at this
    exact this
  · have hW : ∀ i, i < k → τ i = some (g, l) := fun i hi => by
      obtain ⟨⟨g', l'⟩, hq⟩ := Option.ne_none_iff_exists'.1 (hall i hi)
      have e : g' = g := Classical.byContradiction fun h => hM ⟨i, _, hi, hq, h⟩
      subst e
      rw [hq, hok.one i 0 g' l' l hi (by omega) hq h0]
    have hrs : r = some (g, l) := by
      cases r with
      | none => exact absurd ⟨_, hW⟩ hr
      | some q' => rw [← hr 0 (by omega), h0]
    rw [hrs]
    have hsl := slotH_whole (span := size - 2) hW
    simp only at hsl
    have h12 := hlen 0 g l (by omega) h0
    have hall2 : allOf (slotH (size - 2) k τ) = wordsM g l := by
      rw [hsl, slotC_all]
      exact List.take_of_length_le (by omega)
    rw [hall2] at hr1 hn1
    rw [wordsM_length] at hn1 h12
    rw [← g3]
    refine (stands_yes a1 a2 a3 n1 n2 n3 c1 c2 c3 k size _ (lensOf (slotH (size - 2) k τ)) g l w hr1 hr2 hr3 hn1.symm hn2.symm hn3.symm (by omega) (by omega) (by have := lens_len (slotH (size - 2) k τ); rw [slotH_length] at this; omega) hc1 hc g1 (by omega) g4 (fun t ht => ?_) h8 h256 (fun i hi => ?_)).mono fun e w' h => h
    · rw [hsl, slotC_tags] at ht
      exact (List.mem_replicate.1 ht).2
    · have hls : lensOf (slotH (size - 2) k τ) = (List.range k).map fun i => ((min (size - 2) ((wordsM g l).length - i * (size - 2)) : Nat) : Int) := by rw [hsl, slotC_lens]
      have : (lensOf (slotH (size - 2) k τ))[i]? = some ((min (size - 2) (n1 - i * (size - 2)) : Nat) : Int) := by
        have hik : i < k := by rw [hls] at hi; simpa using hi
        rw [hls, List.getElem?_map, List.getElem?_range hik, wordsM_length, hn1]
        rfl
      rw [List.getElem?_eq_getElem hi] at this
      exact Option.some.inj this

end Go.Proofs.YtmmkncocgjgapaaDoor.Mf

/- The walk of Load on a calm device whose slots hold parts of manifests. -/
namespace Go.Proofs.YtmmkncocgjgapaaDoor.Mf
open Go.RowKit Dev

theorem results_tmp4 {fn : Func} {t u v x : Tmp} (h : fn.results = #[.tmp t, .tmp u, .tmp v, .tmp x]) (tmps : Array Value) (P : Program) (w : World) :
    (results fn tmps).run P w = .ok (.tuple #[tmps.getD t undef, tmps.getD u undef, tmps.getD v undef, tmps.getD x undef]) w := by
  simp [results, h]
def Lies (D : Dv) (k : Nat) (τ : Nat → Nat → Hold) : Prop := ∀ p i, p < 2 → i < k → D.words ((p * k + i : Nat) : Int) = blkW D.size (p * k + i) (holdC (D.size - 2) i (τ p i))
def nx (n : Nat) (t : BitVec 64) : Nat := if t.toNat ≤ 4611686018427387904 then max n (t.toNat + 1) else n
def nxs (T : List (BitVec 64)) (n : Nat) : Nat := T.foldl nx n
theorem nx_le {n : Nat} {t : BitVec 64} (h : n ≤ 4611686018427387905) : nx n t ≤ 4611686018427387905 := by unfold nx; split <;> omega
theorem nxs_le : ∀ (T : List (BitVec 64)) (n : Nat), n ≤ 4611686018427387905 → nxs T n ≤ 4611686018427387905
  | [], n, h => h
  | t :: T, n, h => nxs_le T (nx n t) (nx_le h)
theorem nxs_snoc (T : List (BitVec 64)) (t : BitVec 64) (n : Nat) : nxs (T ++ [t]) n = nx (nxs T n) t := by simp [nxs]
def bestH (r r' : Hold) : Hold := if genH r < genH r' then r' else r
def bestN (r : Nat → Hold) : Nat → Hold
  | 0 => none
  | q + 1 => bestH (bestN r q) (r q)
def nextN (span k : Nat) (τ : Nat → Nat → Hold) : Nat → Nat
  | 0 => 1
  | q + 1 => nxs (tagsOf (slotH span k (τ q))) (nextN span k τ q)
theorem nextN_le (span k : Nat) (τ : Nat → Nat → Hold) : ∀ q, nextN span k τ q ≤ 4611686018427387905
  | 0 => by simp [nextN]
  | q + 1 => nxs_le _ _ (nextN_le span k τ q)
def nextH (span k : Nat) (τ : Nat → Nat → Hold) (r : Nat → Hold) : Nat :=
  if 0 < genH (bestN r 2) ∧ nextN span k τ 2 % 2 = genH (bestN r 2) % 2 then nextN span k τ 2 + 1 else nextN span k τ 2
def LoadTold (w : World) (O : Nat → Prop) (a rl rn : Nat) (pv : Value) (D : Dv) (k : Nat) (τ : Nat → Nat → Hold) (r : Nat → Hold) (e : Ending) (w' : World) : Prop :=
  ∃ v, e = .returned (.tuple #[v, .int .u64 (genH (bestN r 2) : Int), .int .u64 (nextH (D.size - 2) k τ r : Int), .int .i64 0]) ∧ w'.ownsRow w.heap.size 54 5 v (entsH (bestN r 2)).length (flatM (entsH (bestN r 2))) ∧
    At w' O a rl rn pv (plus D (2 * k)) ∧ Chg (fun j => j = a) w w'
def LoadLoop (w : World) (O : Nat → Prop) (a rl rn : Nat) (pv : Value) (D : Dv) (k : Nat) (τ : Nat → Nat → Hold) (r : Nat → Hold) (bv gv nv iv : Value) (wr : World) : Prop :=
  ∃ q : Nat, iv = .int .i64 (q : Int) ∧ q ≤ 2 ∧ gv = .int .u64 (genH (bestN r q) : Int) ∧ nv = .int .u64 (nextN (D.size - 2) k τ q : Int) ∧ wr.ownsRow w.heap.size 54 5 bv (entsH (bestN r q)).length (flatM (entsH (bestN r q))) ∧
    At wr O a rl rn pv (plus D (q * k)) ∧ Chg (fun j => j = a) w wr
def NxLoop (T : List (BitVec 64)) (n0 : Nat) (w : World) (nv iv : Value) (wr : World) : Prop := ∃ j : Nat, iv = .int .i64 (j : Int) ∧ j ≤ T.length ∧ nv = .int .u64 (nxs (T.take j) n0 : Int) ∧ w = wr

set_option maxRecDepth 100000 in
set_option maxHeartbeats 8000000 in
theorem load_any {w : World} {O : Nat → Prop} {a rl rn : Nat} {pv : Value} {D : Dv} {k G : Nat} {τ : Nat → Nat → Hold} {r : Nat → Hold} (h : At w O a rl rn pv D) (hcalm : Calm D) (hk : k = slotN D.size) (hbl : 2 * k ≤ D.blocks) (hl : Lies D k τ) (hok : ∀ p, p < 2 → SlotOk k p G (τ p)) (hG : G ≤ 4611686018427387904) (hr : ∀ p, p < 2 → StandsIs k (τ p) (r p))
    (hac : D.acts + 2 * k < 1099511627776) : Calls Tryd.prog 16 #[.pointer (some ⟨a, 0, none⟩)] w (LoadTold w O a rl rn pv D k τ r) := by
  obtain ⟨⟨s8, s256⟩, hbl2, _⟩ := h.nums.fit
  obtain ⟨k1, k2, k3, -⟩ := slotN_bd s8 s256
  rw [← hk] at k1 k2 k3
  have hsz := size_any h.box
  have hbk := blocks_any h.box
  have hdn := down_any h.box
  rw [hcalm.down] at hdn
  have hsl := slot_ok D.size w s8 s256
  rw [← hk] at hsl
  have hkw : IntKind.i64.wrap (2 * (k : Int)) = 2 * (k : Int) := by rw [IntKind.wrap_i64]; omega
  have hb2 : ¬ (D.blocks : Int) < 2 * (k : Int) := by omega
  have HS8 := Lib.hid (And.intro s8 s256)
  have HK := Lib.hid (And.intro hk (And.intro k1 (And.intro k2 (And.intro hbl (And.intro hG hac)))))
  have H := Lib.hid h
  have HC := Lib.hid hcalm
  have HL := Lib.hid hl
  have HOK := Lib.hid hok
  have HR := Lib.hid hr
  have hal : a < w.heap.size := h.box.lt
  clear s8 s256 hk k1 k2 k3 hbl hG hac h hcalm hl hok hr hbl2
  go_enter Tryd.func16, Tryd.ntmps16
  go_wp2_with fail
  refine hsz.mono ?_
  rintro e _ ⟨rfl, rfl⟩
  go_wp2_with fail
  refine hsl.mono ?_
  rintro e _ ⟨rfl, rfl⟩
  go_wp2_with fail
  refine hdn.mono ?_
  rintro e _ ⟨rfl, rfl⟩
  go_wp2_with fail
  refine hbk.mono ?_
  rintro e _ ⟨rfl, rfl⟩
  go_wp2_with fail
  clear hsz hbk hdn hsl hb2 hkw
  go_loopw [7, 8, 9, 29] (fun bv gv nv iv wr => LoadLoop w O a rl rn pv D k τ r bv gv nv iv wr) (fun _ _ _ iv _ => 2 - (intOf iv).toNat)
  case atStart => exact ⟨0, rfl, by omega, rfl, rfl, World.ownsRow_nil _ _ _ _, by rw [Nat.zero_mul, plus_zero]; exact H.out, Chg.refl _ _⟩
  case round =>
    obtain ⟨q, rfl, hq, rfl, rfl, hown, hA, hch⟩ := hrel
    obtain ⟨va, vc, rfl, hrowB, -, -, -⟩ := own_ents hown
    have HO := Lib.hid hown
    have HCH := Lib.hid hch
    have hA2 := hA
    by_cases hlt : q < 2
    · have hlt2 : (q : Int) < 2 := by omega
      have hqk : q * k ≤ k := by have : q * k ≤ 1 * k := Nat.mul_le_mul_right _ (by omega); omega
      have hw1 : IntKind.i64.wrap ((q : Int) * (k : Int)) = ((q * k : Nat) : Int) := by have := HK.out; rw [IntKind.wrap_i64, ← Int.natCast_mul]; omega
      have hrd := read_any hA (HC.out.plus _) (slotH (D.size - 2) k (τ q)) (q * k) (by rw [slotH_length]; have := HK.out; show q * k + k ≤ D.blocks; omega) (fun j hj => by
        rw [slotH_length] at hj
        rw [slotH_get]
        exact HL.out q j hlt hj) (fun p t hp => by
          have hlen : ∀ i g l, i < k → τ q i = some (g, l) → (wordsM g l).length ≤ 62 := fun i g l hi h => by
            have := ((HOK.out q hlt).ok i g l hi h).2.2.2
            have h12 : l.length ≤ 12 := by unfold formedM at this; exact (of_decide_eq_true this).1
            rw [wordsM_length]
            omega
          have := slotH_part (span := D.size - 2) hlen p t hp
          have := HS8.out
          show p.length + 2 ≤ D.size
          omega) (by rw [slotH_length]; have := HK.out; show D.acts + q * k + k < _; omega) (by rw [slotH_length]; have := HK.out; omega)
      rw [slotH_length] at hrd
      have HRD := Lib.hid hrd
      have HM := Lib.hid (And.intro hq (And.intro hlt hqk))
      clear hrd hown hch hA hA2 hlt hqk hq hrowB
      go_wp2_with fail
      refine HRD.out.mono ?_
      rintro e w2 ⟨x1, x2, x3, rfl, o1, o2, o3, hA2, hch2⟩
      obtain ⟨a1, c1, rfl, row1, le1, m1, -⟩ := own_slice o1
      obtain ⟨a2, c2, rfl, row2, le2, m2, -⟩ := own_slice o2
      obtain ⟨a3, c3, rfl, row3, le3, m3, -⟩ := own_slice o3
      rw [plus_plus, slotH_length] at hA2
      have hbn : Below w2.heap.size w2 (w2.alloc (.cells #[.slice a1 (allOf (slotH (D.size - 2) k (τ q))).length c1, .slice a2 (tagsOf (slotH (D.size - 2) k (τ q))).length c2, .slice a3 (lensOf (slotH (D.size - 2) k (τ q))).length c3] 70)) := (Below.refl _ _).alloc (Nat.le_refl _) _
      have HR1 := Lib.hid (row1.below hbn)
      have HR2 := Lib.hid (row2.below hbn)
      have HR3 := Lib.hid (row3.below hbn)
      have HLE := Lib.hid (And.intro le1 m1)
      have HA2 := Lib.hid (hA2.below hbn)
      have HCH2 := Lib.hid ((HCH.out.trans hch2 (fun _ _ h => h)).then_below hbn)
      have HO2 := Lib.hid (own_chg (own_chg HO.out hch2 (fun g hg e => by have := (HO.out.lt g hg).1; omega)) (Chg.of_below' (S := fun _ => False) hbn) (fun _ _ h => h))
      have hsb := Blk.new w2 70 #[.slice a1 (allOf (slotH (D.size - 2) k (τ q))).length c1, .slice a2 (tagsOf (slotH (D.size - 2) k (τ q))).length c2, .slice a3 (lensOf (slotH (D.size - 2) k (τ q))).length c3]
      have HSB := Lib.hid hsb
      have htl : (tagsOf (slotH (D.size - 2) k (τ q))).length ≤ 11 := by have := tags_len (slotH (D.size - 2) k (τ q)); rw [slotH_length] at this; have := HK.out; omega
      clear hA2 hch2 o1 o2 o3 row1 row2 row3 le1 m1 le2 m2 le3 m3 HO HCH HRD hbn hsb
      obtain ⟨T, hT⟩ : ∃ T, T = tagsOf (slotH (D.size - 2) k (τ q)) := ⟨_, rfl⟩
      have hN : nextN (D.size - 2) k τ (q + 1) = nxs T (nextN (D.size - 2) k τ q) := by rw [hT]; rfl
      have HN := Lib.hid hN
      have hnl := nextN_le (D.size - 2) k τ q
      generalize hn0 : nextN (D.size - 2) k τ q = n0 at *
      obtain ⟨nW, hnW⟩ : ∃ nW, nW = (allOf (slotH (D.size - 2) k (τ q))).length := ⟨_, rfl⟩
      obtain ⟨n3, hn3⟩ : ∃ n3, n3 = (lensOf (slotH (D.size - 2) k (τ q))).length := ⟨_, rfl⟩
      obtain ⟨nT, hnT⟩ : ∃ nT, nT = (tagsOf (slotH (D.size - 2) k (τ q))).length := ⟨_, rfl⟩
      rw [← hnT] at htl
      rw [← hnW, ← hn3, ← hnT] at HSB HR1 HR2 HR3 HA2 HCH2 HO2 ⊢
      rw [← hnW] at HLE
      have HNN := Lib.hid (And.intro hnW (And.intro hn3 (And.intro hnT (And.intro hT htl))))
      have hTn : T.length = nT := by rw [hT, hnT]
      rw [← hT] at HR2
      have HTN := Lib.hid (And.intro hTn htl)
      clear hnW hn3 hnT hT hN hn0 htl hTn
      go_wp2_with fail
      generalize hsx : w2.heap.size = s at *
      generalize w2.alloc (.cells #[.slice a1 nW c1, .slice a2 nT c2, .slice a3 n3 c3] 70) = w3 at *
      have HSX := Lib.hid hsx
      have HN0 := Lib.hid hnl
      clear hsx hnl
      go_loopw [9, 47] (fun nv iv wr => NxLoop T n0 w3 nv iv wr) (fun _ iv _ => T.length - (intOf iv).toNat)
      case atStart => exact ⟨0, rfl, Nat.zero_le _, rfl, rfl⟩
      case round =>
        obtain ⟨j, rfl, hj, rfl, rfl⟩ := hrel
        by_cases hjl : j < T.length
        · have hjl2 : (j : Int) < (nT : Int) := by have := HTN.out; omega
          have i0 : (0 : Int) ≤ (j : Int) := by omega
          obtain ⟨b2, o2, rfl, cj, _⟩ := HR2.out.at_ (i := j) (by rw [Crc.words_length]; exact hjl)
          unfold Crc.words at cj
          rw [List.getElem_map] at cj
          have HM2 := Lib.hid (And.intro hj hjl)
          have hjb : j < 1000 := by have := HTN.out; omega
          have HNX := Lib.hid (show nxs (T.take (j + 1)) n0 = nx (nxs (T.take j) n0) T[j] from by rw [List.take_succ_eq_append_getElem hjl, nxs_snoc])
          have hnl2 := nxs_le (T.take j) n0 HN0.out
          generalize nxs (T.take j) n0 = n1 at *
          have hIt : Crc.I64 T[j] = ((T[j].toNat : Nat) : Int) := rfl
          rw [hIt] at cj
          unfold nx at HNX
          generalize T[j].toNat = t at *
          clear hj hjl hIt
          by_cases ht : t ≤ 4611686018427387904
          · have ht2 : (t : Int) ≤ 4611686018427387904 := by omega
            have hw2 : IntKind.u64.wrap ((t : Int) + 1) = ((t + 1 : Nat) : Int) := by rw [IntKind.wrap_u64]; omega
            have HT2 := Lib.hid ht
            clear ht
            go_wp2_with fail
            go_roundw
            case rel => exact ⟨j + 1, by have := HM2.out; have := HTN.out; go_num, HM2.out.2, by rw [HNX.out, if_pos HT2.out]; exact congrArg _ (by omega), rfl⟩
            case measure => have := HM2.out.2; have := HTN.out; simp [intOf]; omega
          · have ht2 : ¬ (t : Int) ≤ 4611686018427387904 := by omega
            have HT2 := Lib.hid ht
            clear ht
            go_wp2_with fail
            go_roundw
            case rel => exact ⟨j + 1, by have := HM2.out; have := HTN.out; go_num, HM2.out.2, by rw [HNX.out, if_neg HT2.out], rfl⟩
            case measure => have := HM2.out.2; have := HTN.out; simp [intOf]; omega
        · have hjl2 : ¬ (j : Int) < (nT : Int) := by have := HTN.out; omega
          have HNJ := Lib.hid (show nxs (T.take j) n0 = nextN (D.size - 2) k τ (q + 1) from by rw [HN.out, List.take_of_length_le (by omega)])
          rw [HNJ.out]
          clear hjl hj
          go_upto_region 20 with (fail)
          go_cut [15, 16] (fun v15 v16 wx => ∃ v, v15 = v ∧ v16 = .int .u64 (genH (r q) : Int) ∧ wx.ownsRow w3.heap.size 54 5 v (entsH (r q)).length (flatM (entsH (r q))) ∧ Below w3.heap.size w3 wx)
          case first =>
            have hd0 : Below w3.heap.size w3 w3.drew := (Below.refl _ _).drew
            have CELL := Lib.hid (fun w' (hF : Below w3.heap.size w3 w') => (⟨(HSB.out.below hF HSB.out.lt).cell 0, (HSB.out.below hF HSB.out.lt).cell 1, (HSB.out.below hF HSB.out.lt).cell 2⟩ : w'.cell? ⟨s, 0, none⟩ = some (.slice a1 nW c1) ∧ w'.cell? ⟨s, 1, none⟩ = some (.slice a2 nT c2) ∧ w'.cell? ⟨s, 2, none⟩ = some (.slice a3 n3 c3)))
            have SIZ := Lib.hid (fun w' (hF : Below w3.heap.size w3 w') => size_any (HA2.out.below hF).box)
            refine mx_begin (fun w' => Below w3.heap.size w3 w') [(true, 0), (true, 1), (true, 2), (true, 4), (false, 3), (false, 5), (true, 6), (true, 7), (true, 8), (true, 9), (false, 10)] (by kernel_rfl) (by kernel_rfl) (fun _ _ d _ _ h => by cases d <;> exact h) hd0 ?_
            refine mx_read _ (.agg #[.slice a1 nW c1, .slice a2 nT c2, .slice a3 n3 c3]) rfl (by kernel_rfl) (fun w' hF => by obtain ⟨u0, u1, u2⟩ := CELL.out _ hF; simp [execOp, Act.eval, go_sem, u0, u1, u2]) ?_
            refine mx_read _ (.int .i64 (k : Int)) rfl (by kernel_rfl) (fun w' hF => by simp [execOp, Act.eval, go_sem]) ?_
            refine mx_read _ (.pointer (some ⟨a, 0, none⟩)) rfl (by kernel_rfl) (fun w' hF => by simp [execOp, Act.eval, go_sem]) ?_
            refine mx_read _ (.int .i64 (q : Int)) rfl (by kernel_rfl) (fun w' hF => by simp [execOp, Act.eval, go_sem]) ?_
            refine mx_one _ rfl (by kernel_rfl) (fun K8 hK8 => ?_)
            go_simp
            refine (SIZ.out _ hd0).mono ?_
            rintro e _ ⟨rfl, rfl⟩
            refine hK8.out _ _ (fun _ => hd0) ?_
            clear hK8 K8
            refine mx_one _ rfl (by kernel_rfl) (fun K8 hK8 => ?_)
            go_simp
            have hST := stands_any (r := r q) HS8.out.1 HS8.out.2 HK.out.1 (HOK.out q HM.out.2.1) HK.out.2.2.2.2.1 (HR.out q HM.out.2.1) a1 a2 a3 nW nT n3 c1 c2 c3 w3.drew (HR1.out.below hd0) (by have := HR2.out.below hd0; rw [HNN.out.2.2.2.1] at this; exact this) (HR3.out.below hd0) HNN.out.1 HNN.out.2.2.1 HNN.out.2.1 HLE.out.1 HLE.out.2
            refine hST.mono ?_
            rintro e w5 ⟨v, rfl, hov, hb5⟩
            have hb6 : Below w3.heap.size w3 w5 := hd0.trans (hb5.mono hd0.size)
            refine hK8.out _ _ (fun _ => hb6) ?_
            clear hK8 K8 hST
            refine mx_read _ (.tuple #[v, .int .u64 (genH (r q) : Int)]) rfl (by kernel_rfl) (fun w' hF => by simp [execOp, Act.eval, go_sem]) ?_
            refine mx_read _ v rfl (by kernel_rfl) (fun w' hF => by simp [execOp, Act.eval, go_sem]) ?_
            refine mx_read _ (.int .u64 (genH (r q) : Int)) rfl (by kernel_rfl) (fun w' hF => by simp [execOp, Act.eval, go_sem]) ?_
            refine mx_read _ v rfl (by kernel_rfl) (fun w' hF => by simp [execOp, Act.eval, go_sem]) ?_
            refine mx_one _ rfl (by kernel_rfl) (fun K8 hK8 => ?_)
            go_simp
            refine hK8.out _ _ (fun h => absurd rfl h) ?_
            clear hK8 K8
            refine mx_end ?_
            go_wp2_with fail
            go_meet
            exact ⟨v, rfl, rfl, own_mono hov hd0.size, hb6⟩
          case rest =>
            obtain ⟨v, rfl, rfl, hov, hbx⟩ := hcut
            have hwz := HCH2.out.size
            have HV := Lib.hid (own_mono hov hwz)
            have HO3 := Lib.hid (own_chg HO2.out (Chg.of_below' (S := fun _ => False) hbx) (fun _ _ h => h))
            have HA3 := Lib.hid (HA2.out.below hbx)
            have HCH3 := Lib.hid (HCH2.out.then_below hbx)
            have HQ := Lib.hid (show bestN r (q + 1) = bestH (bestN r q) (r q) from rfl)
            unfold bestH at HQ
            clear hov hbx hwz HO2 HA2 HCH2 HSB
            by_cases hgt : genH (bestN r q) < genH (r q)
            · have hgt2 : ((genH (bestN r q) : Nat) : Int) < ((genH (r q) : Nat) : Int) := by omega
              have HQ2 := Lib.hid (show bestN r (q + 1) = r q from by rw [HQ.out, if_pos hgt])
              clear hgt
              go_wp2_with fail
              go_roundw
              case rel => exact ⟨q + 1, by have := HM.out; go_num, by have := HM.out; omega, by rw [HQ2.out], rfl, by rw [HQ2.out]; exact HV.out, by rw [Nat.add_mul, Nat.one_mul]; exact HA3.out, HCH3.out⟩
              case measure => have := HM.out; simp [intOf]; omega
            · have hgt2 : ¬ ((genH (bestN r q) : Nat) : Int) < ((genH (r q) : Nat) : Int) := by omega
              have HQ2 := Lib.hid (show bestN r (q + 1) = bestN r q from by rw [HQ.out, if_neg hgt])
              clear hgt
              go_wp2_with fail
              go_roundw
              case rel => exact ⟨q + 1, by have := HM.out; go_num, by have := HM.out; omega, by rw [HQ2.out], rfl, by rw [HQ2.out]; exact HO3.out, by rw [Nat.add_mul, Nat.one_mul]; exact HA3.out, HCH3.out⟩
              case measure => have := HM.out; simp [intOf]; omega
    · obtain rfl : q = 2 := by omega
      have hlt2 : ¬ ((2 : Nat) : Int) < 2 := by omega
      have HN2 := nextN_le (D.size - 2) k τ 2
      have HNH := Lib.hid (show nextH (D.size - 2) k τ r = if 0 < genH (bestN r 2) ∧ nextN (D.size - 2) k τ 2 % 2 = genH (bestN r 2) % 2 then nextN (D.size - 2) k τ 2 + 1 else nextN (D.size - 2) k τ 2 from rfl)
      have HA := Lib.hid hA
      generalize hb : genH (bestN r 2) = g at *
      generalize hn : nextN (D.size - 2) k τ 2 = n at *
      clear hown hch hA hA2 hrowB hlt hq
      have hnw : IntKind.u64.wrap ((n : Int) + 1) = ((n + 1 : Nat) : Int) := by rw [IntKind.wrap_u64]; omega
      by_cases hg0 : 0 < g
      · have hg02 : (0 : Int) < (g : Int) := by omega
        by_cases hp : n % 2 = g % 2
        · have hp2 : (((n : Int) % 2) == ((g : Int) % 2)) = true := by rw [beq_iff_eq]; omega
          go_wp2_with fail
          refine bodyPost_ret (results_tmp4 rfl _ _ _) rfl ?_
          exact ⟨_, by rw [hb, HNH.out, if_pos ⟨hg0, hp⟩]; rfl, HO.out, HA.out, HCH.out⟩
        · have hp2 : (((n : Int) % 2) == ((g : Int) % 2)) = false := by rw [beq_eq_false_iff_ne]; omega
          go_wp2_with fail
          refine bodyPost_ret (results_tmp4 rfl _ _ _) rfl ?_
          exact ⟨_, by rw [hb, HNH.out, if_neg (fun h => hp h.2)]; rfl, HO.out, HA.out, HCH.out⟩
      · obtain rfl : g = 0 := by omega
        go_wp2_with fail
        refine bodyPost_ret (results_tmp4 rfl _ _ _) rfl ?_
        exact ⟨_, by rw [hb, HNH.out, if_neg (fun h => hg0 h.1)]; rfl, HO.out, HA.out, HCH.out⟩

end Go.Proofs.YtmmkncocgjgapaaDoor.Mf

/- Chapter 9's laws: a list of entries as an argument, and awake. -/
namespace Go.Proofs.YtmmkncocgjgapaaDoor.Mf
open Go.RowKit Dev

abbrev RdEnt : Rd (ByteArray × Int × Int × Int × Int) := rdPair 1 4 rdStr (rdPair 1 3 (rdInt .i64) (rdPair 1 2 (rdInt .i64) (rdPair 1 1 (rdInt .i64) (rdInt .i64))))
def toEnt (q : ByteArray × Int × Int × Int × Int) : Ent := ⟨q.1, q.2.1, q.2.2.1, q.2.2.2.1, q.2.2.2.2⟩
theorem rdEnt_cells {w : World} {cs : List Value} {d : ByteArray × Int × Int × Int × Int} (h : RdEnt w cs d) : cs = ecells (toEnt d) ∧ d.1.size ≤ maxLen := by
  obtain ⟨h0, ⟨h1, hm⟩, h2, ⟨h3, _⟩, h4, ⟨h5, _⟩, h6, ⟨h7, _⟩, h8, _⟩ := h
  match cs, h0 with
  | [c0, c1, c2, c3, c4], _ =>
    simp at h1 h3 h5 h7 h8
    subst h1 h3 h5 h7 h8
    exact ⟨rfl, hm⟩
theorem ents_of {w : World} {a : Option Addr} {n c : Nat} {l : List (ByteArray × Int × Int × Int × Int)} (h : rdSlice 5 RdEnt w [.slice a n c] l) :
    ∃ L : List Ent, L = l.map toEnt ∧ L.length = n ∧ n ≤ c ∧ c ≤ maxLen ∧ Row w a (flatM L) ∧ ∀ j (hj : j < L.length), L[j].name.size ≤ maxLen := by
  obtain ⟨a', n', c', e, hl, hn, hc, _, hr⟩ := h
  simp only [List.cons.injEq, Value.slice.injEq, and_true] at e
  obtain ⟨rfl, rfl, rfl⟩ := e
  have hL : (l.map toEnt).length = l.length := List.length_map ..
  refine ⟨l.map toEnt, rfl, by omega, hn, hc, fun i hi => ?_, fun j hj => ?_⟩
  · rw [flatM_length] at hi
    have hk : i / 5 < l.length := by omega
    obtain ⟨x, es, rfl, he, hj, hd⟩ := hr (i / 5) hk
    obtain ⟨hes, _⟩ := rdEnt_cells hd
    have h1 := hj (i % 5) (by omega)
    obtain ⟨b, off, spot⟩ := x
    have hs : spot = none := by
      obtain ⟨y, es0, hy, he0, hj0, hd0⟩ := hr 0 (by omega)
      injection hy with hy
      subst hy
      have := hj0 0 (by omega)
      rw [show ((⟨b, off, spot⟩ : Addr).add (0 * 5)).add 0 = ⟨b, off, spot⟩ from by simp [Addr.add], List.getElem?_eq_getElem (by omega)] at this
      exact (cell_lt this).2
    subst hs
    refine ⟨_, rfl, ?_⟩
    rw [add_none, add_none] at h1
    rw [add_none]
    have e1 : i / 5 * 5 + i % 5 = i := by omega
    rw [show off + i = off + i / 5 * 5 + i % 5 from by omega, h1]
    have := flatM_get (l.map toEnt) (i / 5) (by omega) (i % 5) (by omega)
    rw [e1] at this
    rw [this, hes, List.getElem_map]
  · rw [List.getElem_map]
    obtain ⟨x, es, _, _, _, hd⟩ := hr j (by omega)
    exact (rdEnt_cells hd).2

theorem zero_lies (size blocks k : Nat) : Lies (fresh size blocks) k (fun _ _ => none) := by
  intro p i _ _
  show zeroV size = Crc.words (List.replicate size 0#64)
  unfold zeroV Crc.words
  rw [List.map_replicate]
  rfl
theorem zero_slot (k p : Nat) : SlotOk k p 0 (fun _ => none) := ⟨(fun _ _ _ _ h => by cases h), (fun _ _ _ _ _ _ _ h => by cases h)⟩
theorem zero_stands (k : Nat) (hk : 0 < k) : StandsIs k (fun _ => none) none := fun ⟨q, h⟩ => by cases h 0 hk
theorem fresh_calm (size blocks : Nat) : Calm (fresh size blocks) := ⟨rfl, rfl, rfl⟩
theorem zero_tags (span : Nat) : ∀ k, tagsOf (slotH span k (fun _ => none)) = []
  | 0 => rfl
  | k + 1 => by rw [slotH_succ, tagsOf_add, zero_tags span k]; rfl
theorem zero_next (span k : Nat) : nextH span k (fun _ _ => none) (fun _ => none) = 1 := by
  have h : nextN span k (fun _ _ => none) 2 = 1 := by
    show nxs (tagsOf (slotH span k (fun _ => none))) (nxs (tagsOf (slotH span k (fun _ => none))) 1) = 1
    rw [zero_tags]
    rfl
  unfold nextH
  rw [if_neg (fun hh => absurd hh.1 (by decide)), h]

set_option maxRecDepth 100000 in
theorem awake_any (w : World) : Calls Tryd.prog 7 #[] w (fun e w' => e = .returned (.bool true) ∧ Below w.heap.size w w') := by
  have HN := Lib.hid (new_ok 64 4 w (by omega) (by omega) (by omega))
  go_enter Tryd.func7, Tryd.ntmps7
  go_wp2_with fail
  refine HN.out.mono ?_
  rintro e w2 ⟨rfl, hA, hb, hsz⟩
  have HL := Lib.hid (load_any (G := 0) (τ := fun _ _ => none) (r := fun _ => none) (hA (fun _ => False)) (fresh_calm 64 4) rfl (by decide) (zero_lies 64 4 _) (fun p _ => zero_slot _ p) (by omega) (fun p _ => zero_stands _ (by decide)) (by decide))
  have HB := Lib.hid hb
  clear hA hb
  go_wp2_with fail
  refine HL.out.mono ?_
  rintro e w3 ⟨v, rfl, hov, hA3, hch⟩
  have HB3 := Lib.hid (HB.out.trans (hch.below_of (by omega) (fun j hj e => by omega)))
  have hnx : (nextH ((fresh 64 4).size - 2) (slotN (fresh 64 4).size) (fun _ _ => none) (fun _ => none)) = 1 := zero_next _ _
  rw [hnx]
  have HS := Lib.hid (fun w => slot_ok 8 w (by omega) (by omega))
  clear hov hA3 hch hnx
  go_wp2_with fail
  refine (HS.out _).mono ?_
  rintro e w4 ⟨rfl, rfl⟩
  rw [show slotN 8 = 11 from rfl]
  go_wp2_with fail
  go_ret
  exact ⟨rfl, HB3.out⟩

end Go.Proofs.YtmmkncocgjgapaaDoor.Mf

/- few, at lists of any length. -/
namespace Go.Proofs.YtmmkncocgjgapaaDoor.Mf
open Go.RowKit

set_option maxRecDepth 100000 in
theorem few_all (l : List Ent) (a : Option Addr) (n c : Nat) (w : World) (hr : Row w a (flatM l)) (hn : l.length = n) (hl : n ≤ 9223372036854775807) (hsz : ∀ j (hj : j < l.length), l[j].name.size ≤ maxLen) :
    Calls Tryd.prog 8 #[.slice a n c] w (FewC l w) := by
  subst hn
  go_enter Tryd.func8, Tryd.ntmps8
  go_wp2_with fail
  go_loopw [3] (fun iv wr => FewLoop l w iv wr) (fun iv _ => l.length - (intOf iv).toNat)
  case atStart => exact ⟨0, rfl, Nat.zero_le _, Nat.zero_le _, fun j _ h => absurd h (Nat.not_lt_zero _), rfl⟩
  case round =>
    obtain ⟨k, rfl, hk, hk30, hall, rfl⟩ := hrel
    have HALL := Lib.hid hall
    clear hall
    by_cases hlt : k < l.length
    · have hlt2 : (k : Int) < (l.length : Int) := by omega
      by_cases h30 : k < 30
      · have h302 : (k : Int) < 30 := by omega
        have i0 : (0 : Int) ≤ (k : Int) := by omega
        obtain ⟨b, o, rfl, hbl, e0, e1, e2, e3, e4⟩ := ent_at hr hlt
        clear hbl e1 e2 e3 e4
        have hs := hsz k hlt
        have HM := Lib.hid (And.intro hk (And.intro hlt h30))
        have HS := Lib.hid (show ∀ (_ : l[k].name.size ≤ 1000), ∀ j (hj : j < l.length), j < k + 1 → l[j].name.size ≤ 1000 from fun h j hj hj2 => by
          by_cases e : j = k
          · subst e; exact h
          · exact HALL.out j hj (by omega))
        generalize l[k].name = s at *
        clear hr hk hlt h30
        by_cases hbig : s.size ≤ 1000
        · have hb2 : ¬ (1000 : Int) < (s.size : Int) := by omega
          have HB := Lib.hid hbig
          clear hbig
          go_wp2_with fail
          go_roundw
          case rel => exact ⟨k + 1, by go_num, HM.out.2.1, HM.out.2.2, HS.out HB.out, rfl⟩
          case measure => have := HM.out.2; simp [intOf]; omega
        · have hb2 : (1000 : Int) < (s.size : Int) := by omega
          clear hbig
          go_wp2_with fail
          go_ret
          exact ⟨false, rfl, (fun h => by cases h), rfl⟩
      · have h302 : ¬ (k : Int) < 30 := by omega
        have hl20 : ¬ (l.length : Int) ≤ 20 := by omega
        clear hlt h30 hk hk30
        go_wp2_with fail
        go_ret
        exact ⟨_, rfl, (fun h => by first | (simp at h; omega) | (simp at h)), rfl⟩
    · have hlt2 : ¬ (k : Int) < (l.length : Int) := by omega
      have HF := Lib.hid (show ∀ j (hj : j < l.length), l[j].name.size ≤ 1000 from fun j hj => HALL.out j hj (by omega))
      clear hlt hk hk30
      go_wp2_with fail
      go_ret
      exact ⟨_, rfl, fun h => ⟨by first | (simp at h; omega) | omega, HF.out⟩, rfl⟩


end Go.Proofs.YtmmkncocgjgapaaDoor.Mf
