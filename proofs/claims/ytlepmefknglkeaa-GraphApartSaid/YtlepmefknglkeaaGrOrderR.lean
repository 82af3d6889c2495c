/- The walk of the reference's Order: each edge put where it belongs. -/
import Derived.Test.YtlepmefknglkeaaGrOrder
import Derived.Test.YtlepmefknglkeaaGrDeg
import Derived.StillTailTactics
set_option linter.unusedVariables false
namespace Go.Proofs.Ytlepmefknglkeaa.Gr
open Go.RowKit

/-- In order, as a list. -/
def Srtd (M : List E2) : Prop := M.Pairwise fun x y => lessE y x = false
theorem leE_trans {x y z : E2} (h1 : lessE y x = false) (h2 : lessE z y = false) : lessE z x = false := by
  rw [lessE_not] at *
  omega
theorem lessE_asym {x y : E2} (h : lessE x y = true) : lessE y x = false := by
  rw [lessE_not]; rw [lessE_iff] at h; omega
theorem srt_srtd (l : List E2) : Srtd (srt l) := by
  have h := List.pairwise_mergeSort (le := fun x y : E2 => !lessE y x) (fun a b c h1 h2 => by
    simp only [Bool.not_eq_true'] at *
    exact leE_trans h1 h2) (fun a b => by
    cases h : lessE a b
    · simp
    · simp [lessE_asym h]) l
  exact h.imp (fun h => by simpa using h)
theorem srt_unique {M l : List E2} (hp : M.Perm l) (hs : Srtd M) : M = srt l := by
  refine List.Perm.eq_of_pairwise (le := fun x y : E2 => lessE y x = false) (fun a b _ _ h1 h2 => totE a b h2 h1) hs (srt_srtd l) ?_
  exact hp.trans (List.mergeSort_perm l _).symm

def insL (M : List E2) (e : E2) (k : Nat) : List E2 := M.take k ++ e :: M.drop k
theorem insL_length (M : List E2) (e : E2) (k : Nat) : (insL M e k).length = M.length + 1 := by simp [insL]; omega
theorem insL_end (M : List E2) (e : E2) : insL M e M.length = M ++ [e] := by simp [insL]
theorem insL_perm (M : List E2) (e : E2) (k : Nat) : (insL M e k).Perm (M ++ [e]) := by
  unfold insL
  refine (List.perm_middle).trans ?_
  rw [List.take_append_drop]
  exact (List.perm_append_singleton e M).symm
theorem insL_at (M : List E2) (e : E2) (k : Nat) (h : k ≤ M.length) : (insL M e k)[k]? = some e := by
  unfold insL
  rw [List.getElem?_append_right (by simp; omega)]
  simp [Nat.min_eq_left h]
theorem insL_pre (M : List E2) (e : E2) (k : Nat) (h : k < M.length) : (insL M e (k + 1))[k]? = some M[k] := by
  unfold insL
  rw [List.getElem?_append_left (by simp; omega)]
  simp [h]
theorem insL_swap (M : List E2) (e : E2) (k : Nat) (h : k < M.length) : ((insL M e (k + 1)).set (k + 1) M[k]).set k e = insL M e k := by
  have hA : (M.take k).length = k := by simp; omega
  have e1 : insL M e (k + 1) = M.take k ++ M[k] :: e :: M.drop (k + 1) := by
    unfold insL
    rw [List.take_succ_eq_append_getElem h, List.append_assoc]
    rfl
  have e2 : insL M e k = M.take k ++ e :: M[k] :: M.drop (k + 1) := by
    unfold insL
    rw [List.drop_eq_getElem_cons h]
  rw [e1, e2, List.set_append_right _ _ (by omega), List.set_append_right _ _ (by omega), hA, Nat.sub_self, show k + 1 - k = 1 by omega]
  rfl
theorem insL_srtd {M : List E2} {e : E2} {k : Nat} (hM : Srtd M) (h1 : ∀ j (h : j < M.length), k ≤ j → lessE e M[j] = true) (h2 : ∀ j (h : j < M.length), j < k → lessE e M[j] = false) : Srtd (insL M e k) := by
  unfold Srtd insL at *
  rw [List.pairwise_append, List.pairwise_cons]
  refine ⟨hM.sublist (List.take_sublist k M), ⟨?_, hM.sublist (List.drop_sublist k M)⟩, ?_⟩
  · intro x hx
    obtain ⟨i, hi, rfl⟩ := List.getElem_of_mem hx
    rw [List.getElem_drop]
    rw [List.length_drop] at hi
    exact lessE_asym (h1 _ (by omega) (by omega))
  · intro x hx y hy
    obtain ⟨i, hi, rfl⟩ := List.getElem_of_mem hx
    rw [List.getElem_take]
    rw [List.length_take] at hi
    rcases List.mem_cons.1 hy with rfl | hy
    · exact h2 i (by omega) (by omega)
    · obtain ⟨j, hj, rfl⟩ := List.getElem_of_mem hy
      rw [List.getElem_drop]
      rw [List.length_drop] at hj
      exact (List.pairwise_iff_getElem.1 hM) i (k + j) (by omega) (by omega) (by omega)
theorem srtd_to {M : List E2} (hM : Srtd M) {e : E2} {k : Nat} (hk : k < M.length) (h : lessE e M[k] = false) : ∀ j (h : j < M.length), j < k + 1 → lessE e M[j] = false := by
  intro j hj hjk
  by_cases e : j = k
  · subst e; exact h
  · exact leE_trans ((List.pairwise_iff_getElem.1 hM) j k hj hk (by omega)) h

def ROrd (n : Int) (l : List E2) (W : World) (q : Nat) (iv : Value) (wr : World) : Prop :=
  ∃ (k : Nat) (M : List E2) (v : Value), iv = .int .i64 (k : Int) ∧ k ≤ l.length ∧ Srtd M ∧ M.Perm ((l.take k).map normE) ∧ Blk wr q 24 #[.int .i64 n, v] ∧ wr.ownsRow W.heap.size 36 2 v k (flatE M) ∧ Chg (fun j => j = q) W wr
def RIns (n : Int) (M : List E2) (e : E2) (W : World) (q g cap : Nat) (kv : Value) (wr : World) : Prop :=
  ∃ k : Nat, kv = .int .i64 (k : Int) ∧ k ≤ M.length ∧ (∀ j (h : j < M.length), k ≤ j → lessE e M[j] = true) ∧ Blk wr q 24 #[.int .i64 n, .slice (some ⟨g, 0, none⟩) (M.length + 1) cap] ∧ EBlk wr g cap (insL M e k) ∧ Chg (fun j => j = q) W wr

theorem app_facts {n : Int} {W wr w2 : World} {q k : Nat} {v v2 : Value} {L M : List E2} {o1 o2 : Obj} (hws : W.heap.size = q + 1) (hc : Chg (fun j => j = q) W wr) (hB : Blk wr q 24 #[.int .i64 n, v])
    (ho : wr.ownsRow W.heap.size 36 2 v k (flatE M)) (hown2 : w2.ownsRow (q + 1) 36 2 v2 (k + 1) (flatE L)) (hg2 : ((wr.alloc o1).alloc o2).grownBy w2 v.ownBlock) :
    ∃ g cap, v2 = .slice (some ⟨g, 0, none⟩) (k + 1) cap ∧ k + 1 ≤ cap ∧ cap ≤ maxLen ∧ q < g ∧ Blk w2 q 24 #[.int .i64 n, v] ∧
      Blk (w2.setCell ⟨q, 1, none⟩ v2) q 24 #[.int .i64 n, v2] ∧ EBlk (w2.setCell ⟨q, 1, none⟩ v2) g cap L ∧ Chg (fun j => j = q) W (w2.setCell ⟨q, 1, none⟩ v2) := by
  have hc2 := (((Chg.refl (fun k => some k = v.ownBlock) wr).alloc o1).alloc o2).trans (Chg.of_grown hg2) (fun _ _ h => h)
  have hne : ¬ some q = v.ownBlock := fun e => by
    have := (ho.lt q e.symm).1
    omega
  have hB2 := hB.chg hc2 hne
  have hC2 : Chg (fun j => j = q) W w2 := hc.trans hc2 (fun k hk e => by
    have := (ho.lt k e.symm).1
    omega)
  rcases hown2.2 with ⟨_, h0⟩ | ⟨g, cap, cur, rfl, hb, hh, h1, h2, h3, h4⟩
  · cases h0
  · obtain ⟨hE, _, _⟩ := EBlk.of_own hown2
    obtain ⟨cur4, y1, y2, y3⟩ := hE.ex
    exact ⟨g, cap, rfl, h1, h2, by omega, hB2, by simpa using hB2.set_ 1 (.slice (some ⟨g, 0, none⟩) (k + 1) cap), ⟨cur4, y1.far (by show g ≠ q; omega) _, y2, y3⟩, hC2.setCell _ _ (fun _ => rfl)⟩
theorem EBlk.below {w w' : World} {g cap : Nat} {l : List E2} (h : EBlk w g cap l) (hb : Below w.heap.size w w') : EBlk w' g cap l := by
  obtain ⟨cur, x1, x2, x3⟩ := h.ex
  exact ⟨cur, x1.below hb x1.lt, x2, x3⟩
theorem EBlk.own {w : World} {g cap base n : Nat} {l : List E2} (h : EBlk w g cap l) (hn : l.length = n) (hb : base ≤ g) (h1 : n ≤ cap) (h2 : cap ≤ maxLen) : w.ownsRow base 36 2 (.slice (some ⟨g, 0, none⟩) n cap) n (flatE l) := by
  subst hn
  obtain ⟨cur, x1, x2, x3⟩ := h.ex
  exact ⟨flatE_length l, .inr ⟨g, cap, cur, rfl, hb, x1, h1, h2, x2, x3⟩⟩

theorem ord_next {n : Int} {l M : List E2} {W wr : World} {q g cap j : Nat} {e : E2} (hws : W.heap.size = q + 1) (hps : (l.take (M.length + 1)).map normE = (l.take M.length).map normE ++ [e]) (hp : M.Perm ((l.take M.length).map normE))
    (hs : Srtd (insL M e j)) (hB : Blk wr q 24 #[.int .i64 n, .slice (some ⟨g, 0, none⟩) (M.length + 1) cap]) (hE : EBlk wr g cap (insL M e j)) (hc : Chg (fun j => j = q) W wr) (h1 : M.length + 1 ≤ cap) (h2 : cap ≤ maxLen) (h3 : q < g) (hk : M.length < l.length) :
    ROrd n l W q (.int .i64 ((M.length : Int) + 1)) wr :=
  ⟨M.length + 1, insL M e j, _, by go_num, by omega, hs, (insL_perm M e j).trans (by rw [hps]; exact hp.append_right _), hB, hE.own (insL_length M e j) (by omega) h1 h2, hc⟩

set_option maxRecDepth 100000 in
set_option maxHeartbeats 1000000 in
theorem rorder_ok (n : Int) (l : List E2) (a : Option Addr) (m c : Nat) (w : World) (hr : ERow w a l) (hm : l.length = m) (hmm : m ≤ 300) (hf : formed n l = true) :
    Calls Try.prog 28 #[.agg #[.int .i64 n, .slice a m c]] w (OrdTold n (ordL l) 0 w) := by
  subst hm
  have h0 : Below w.heap.size w ((w.alloc (.cells #[.int .i64 n, .slice a l.length c] 24)).alloc (.cells #[.int .i64 0, .slice none 0 0] 24)) := ((Below.refl w.heap.size w).alloc (Nat.le_refl _) _).alloc (by simp) _
  have B0 := Lib.hid ((Blk.new w 24 #[.int .i64 n, .slice a l.length c]).alloc (.cells #[.int .i64 0, .slice none 0 0] 24))
  have B1 := Blk.new (w.alloc (.cells #[.int .i64 n, .slice a l.length c] 24)) 24 #[.int .i64 0, .slice none 0 0]
  rw [show (w.alloc (.cells #[.int .i64 n, .slice a l.length c] 24)).heap.size = w.heap.size + 1 by simp] at B1
  have HB1 := Lib.hid B1
  have hF := rformed_any n l a l.length c _ (hr.below h0) rfl (by omega)
  rw [hf] at hF
  have HF := Lib.hid hF
  have H0 := Lib.hid h0
  have HR := Lib.hid (hr.below h0)
  clear hF h0 hf hr B1
  go_enter Try.func28, Try.ntmps28
  go_wp2_with fail
  generalize hW : (w.alloc (.cells #[.int .i64 n, .slice a l.length c] 24)).alloc (.cells #[.int .i64 0, .slice none 0 0] 24) = W0 at *
  clear hW
  refine HF.out.mono ?_
  rintro e w1 ⟨rfl, hb1⟩
  have c0 : w1.cell? ⟨w.heap.size, 0, none⟩ = some (.int .i64 n) := (B0.out.below hb1 B0.out.lt).cell 0
  have H1 := Lib.hid (H0.out.trans (hb1.mono H0.out.size))
  have BB0 := Lib.hid (B0.out.below hb1 B0.out.lt)
  have BB1 := Lib.hid (HB1.out.below hb1 HB1.out.lt)
  have HR1 := Lib.hid (HR.out.below hb1)
  have hw0 := H1.out.size
  have hlb0 := BB0.out.lt
  have hlb1 := BB1.out.lt
  clear hb1 HF HR B0 HB1
  go_wp2_with fail
  have hQ := Blk.new w1 24 #[.int .i64 n, .slice none 0 0]
  have hbl : Below w1.heap.size w1 (w1.alloc (.cells #[.int .i64 n, .slice none 0 0] 24)) := (Below.refl _ _).alloc (Nat.le_refl _) _
  have hws : (w1.alloc (.cells #[.int .i64 n, .slice none 0 0] 24)).heap.size = w1.heap.size + 1 := by simp
  have D0 := Lib.hid (BB0.out.below hbl hlb0)
  have D1 := Lib.hid (BB1.out.below hbl hlb1)
  have HR2 := Lib.hid (HR1.out.below' hbl)
  have H2 := Lib.hid (H1.out.trans (hbl.mono hw0))
  have HQ := Lib.hid hQ
  clear hQ hbl BB0 BB1 c0
  generalize w1.alloc (.cells #[.int .i64 n, .slice none 0 0] 24) = W at *
  generalize hq : w1.heap.size = q at *
  go_loopw [5] (fun iv wr => ROrd n l W q iv wr) (fun iv _ => l.length - (intOf iv).toNat)
  case atStart => exact ⟨0, [], _, rfl, by omega, List.Pairwise.nil, List.Perm.refl _, HQ.out, World.ownsRow_nil _ _ _ _, Chg.refl _ _⟩
  case round =>
    obtain ⟨k, M, v, rfl, hk, hM, hP, hB, hown, hc⟩ := hrel
    have E0 := Lib.hid (D0.out.chg hc (by omega))
    have E1 := Lib.hid (D1.out.chg hc (by omega))
    have c1 : wr.cell? ⟨w.heap.size, 1, none⟩ = some (.slice a l.length c) := E0.out.cell 1
    have hws2 := hc.size
    have HM := Lib.hid hM
    have HP := Lib.hid hP
    have HB := Lib.hid hB
    have HO := Lib.hid hown
    have HC := Lib.hid hc
    have HK := Lib.hid hk
    have hlq := hB.lt
    clear hM hP hB hown hc hk
    by_cases hlt : (k : Int) < l.length
    · have k1 : k < l.length := by omega
      obtain ⟨b1, o1, rfl, x1, x2, hb1⟩ := HR2.out k k1
      have hbq : ¬ b1 = q := by omega
      have d1 := HC.out.cell x1 hbq
      have d2 := HC.out.cell x2 hbq
      have hk0 : (0 : Int) ≤ (k : Int) := by omega
      have q1 : wr.cell? ⟨q, 1, none⟩ = some v := HB.out.cell 1
      have qf := HB.out.frozen 1
      have HPS := Lib.hid (show ((l.take (k + 1)).map normE) = (l.take k).map normE ++ [normE l[k]] by rw [List.take_succ_eq_append_getElem k1, List.map_append]; rfl)
      clear x1 x2
      generalize l[k] = p at *
      obtain ⟨u, y⟩ := p
      simp only at d1 d2
      obtain ⟨p, r, hpr, hcase⟩ : ∃ p r, normE (u, y) = (p, r) ∧ ((y < u ∧ p = y ∧ r = u) ∨ (¬ y < u ∧ p = u ∧ r = y)) := by
        refine ⟨_, _, rfl, ?_⟩
        by_cases h : y < u
        · exact .inl ⟨h, by show min u y = y; omega, by show max u y = u; omega⟩
        · exact .inr ⟨h, by show min u y = u; omega, by show max u y = y; omega⟩
      rw [hpr] at HPS
      have hMl : M.length = k := by rw [HP.out.length_eq]; simp; omega
      subst hMl
      clear hpr
      have hrow : Row ((wr.alloc (.cells #[.int .i64 p, .int .i64 r] 36)).alloc (.cells #[.int .i64 p, .int .i64 r] 36)) (some ⟨wr.heap.size + 1, 0, none⟩) (flatE [(p, r)]) := by
        have := Row.new (wr.alloc (.cells #[.int .i64 p, .int .i64 r] 36)) #[.int .i64 p, .int .i64 r] 36 (0, 0)
        rw [show (wr.alloc (.cells #[.int .i64 p, .int .i64 r] 36)).heap.size = wr.heap.size + 1 by simp] at this
        exact this
      have HRW := Lib.hid hrow
      clear hrow
      rcases hcase with ⟨huv, rfl, rfl⟩ | ⟨huv, rfl, rfl⟩
      all_goals
        go_wp2_with (at_builtin; go_must (refine wpList_append rfl (.tmp 39) (.tmp 41) _ rfl el_edge W.heap.size _ _ _ rfl ((HO.out.alloc _).alloc _) _ 1 1 (flatE [(p, r)]) rfl rfl HRW.out (flatE_one _) (by unfold maxLen; omega) (by omega) (by simp; omega) ?_))
        intro v2 w2 hown2 hg2 _ hb2
        rw [← flatE_append] at hown2
        obtain ⟨g, cap, rfl, z1, z2, z3, hB2, hB3, hE3, hC3⟩ := app_facts hws HC.out HB.out HO.out hown2 hg2
        have m1 : w2.cell? ⟨q, 1, none⟩ = some v := hB2.cell 1
        have mf := hB2.frozen 1
        have HB3 := Lib.hid hB3
        have HE3 := Lib.hid hE3
        have HC3 := Lib.hid hC3
        clear hown2 hg2 hb2 hB2 hB3 hE3 hC3
        go_wp2_with fail
        generalize w2.setCell ⟨q, 1, none⟩ (.slice (some ⟨g, 0, none⟩) (M.length + 1) cap) = w3 at *
        go_loopw [7] (fun kv wr => RIns n M (p, r) W q g cap kv wr) (fun kv _ => (intOf kv).toNat)
        case atStart => exact ⟨M.length, rfl, Nat.le_refl _, fun j h h' => by omega, HB3.out, by rw [insL_end]; exact HE3.out, HC3.out⟩
        case round =>
          obtain ⟨i, rfl, hi, hles, hB4, hE4, hC4⟩ := hrel
          have i4 : wr.cell? ⟨q, 1, none⟩ = some (.slice (some ⟨g, 0, none⟩) (M.length + 1) cap) := hB4.cell 1
          clear HB HO HRW q1 qf d1 d2 HC E0 E1 c1 hws2 hlq m1 mf
          have HB4 := Lib.hid hB4
          have HE4 := Lib.hid hE4
          have HC4 := Lib.hid hC4
          have HI := Lib.hid hi
          have HLE := Lib.hid hles
          have hq4 := hB4.lt
          obtain ⟨e1, e2, f1, f2, hg4⟩ := hE4.cells i (p, r) (insL_at M (p, r) i hi)
          simp only at e1 e2
          clear hB4 hC4 HB3 HE3 HC3
          by_cases hi0 : i = 0
          · subst hi0
            have hsr := insL_srtd HM.out (fun j hj _ => HLE.out j hj (by omega)) (fun j hj hj0 => absurd hj0 (by omega))
            have HSR := Lib.hid hsr
            have t0 : decide ((0 : Int) < 0) = false := rfl
            clear hsr
            rw [show ((0 : Nat) : Int) = 0 from rfl]
            go_wp2_with fail
            go_quiet (fail)
            go_wp2_with fail
            go_roundw
            case rel => exact ord_next hws HPS.out HP.out HSR.out HB4.out ⟨HE4.out.ex⟩ (HC4.out.drewN _) z1 z2 z3 k1
            case measure => simp [intOf]; omega
          · obtain ⟨j, rfl⟩ : ∃ j, i = j + 1 := ⟨i - 1, by omega⟩
            have hj : j < M.length := by omega
            obtain ⟨e3, e4, f3, f4, _⟩ := hE4.cells j M[j] (insL_pre M (p, r) j hj)
            have hst := fun W3 (h : EBlk W3 g cap (insL M (p, r) (j + 1))) => (h.store (j + 1) M[j].1 M[j].2).store j p r
            rw [insL_swap M (p, r) j hj] at hst
            have hto := srtd_to HM.out hj (e := (p, r))
            have hnx : lessE (p, r) M[j] = true → ∀ j' (h : j' < M.length), j ≤ j' → lessE (p, r) M[j'] = true := fun h j' hj' hjj => by
              by_cases e : j' = j
              · subst e; exact h
              · exact HLE.out j' hj' (by omega)
            have HST := Lib.hid hst
            have HTO := Lib.hid hto
            have HNX := Lib.hid hnx
            clear hst hto hnx hE4 hi hles
            have HPJ := Lib.hid (insL_pre M (p, r) j hj)
            generalize M[j] = pm at *
            obtain ⟨x, y⟩ := pm
            simp only at e3 e4
            have t2 : IntKind.i64.wrap ((j : Int) + 1 - 1) = (j : Int) := by rw [IntKind.wrap_i64]; omega
            have t6 : IntKind.i64.wrap (j : Int) = (j : Int) := by rw [IntKind.wrap_i64]; omega
            have t1 : ((j + 1 : Nat) : Int) = (j : Int) + 1 := by omega
            have t3 : ((j : Int) + 1).toNat = j + 1 := by omega
            have t4 : (0 : Int) ≤ (j : Int) := by omega
            have t5 : (j : Int) < (M.length : Int) + 1 := by omega
            have t10 : (j : Int) + 1 < (M.length : Int) + 1 := by omega
            have t7 : (0 : Int) < (j : Int) + 1 := by omega
            have t8 : (0 : Int) ≤ (j : Int) + 1 := by omega
            have t9 : ((M.length + 1 : Nat) : Int) = (M.length : Int) + 1 := by omega
            have t0 : decide ((0 : Int) < (j : Int) + 1) = true := decide_eq_true t7
            rw [t1]
            clear t1 hk0 hlt
            go_wp2_with fail
            go_region_held3 (fun w' => w'.cell? ⟨g, (j + 1) * 2, none⟩ = some (.int .i64 p) ∧ w'.cell? ⟨g, (j + 1) * 2 + 1, none⟩ = some (.int .i64 r) ∧ w'.cell? ⟨g, j * 2, none⟩ = some (.int .i64 x) ∧ w'.cell? ⟨g, j * 2 + 1, none⟩ = some (.int .i64 y) ∧ w'.cell? ⟨q, 1, none⟩ = some (.slice (some ⟨g, 0, none⟩) (M.length + 1) cap))
              ((first | go_keep | ((try go_split_ands); refine ⟨?_, ?_, ?_, ?_, ?_⟩ <;> (first | rw [hb2.cell (by simpa using hg4)] | rw [hb2.cell (by simpa using hq4)]) <;> assumption)))
              ((go_at_call 41; refine (less_any p r x y _).mono ?_; rintro e w5 ⟨rfl, hb2⟩))
            have HB5 := Lib.hid (show Below wr.heap.size wr w5 from ⟨hb2.os, hb2.tape, hb2.output, hb2.size, hb2.block⟩)
            clear hb2 e1 e2 e3 e4 i4
            cases hq : lessE (p, r) (x, y)
            · have E5 := Lib.hid (HE4.out.below HB5.out)
              have B5 := Lib.hid (HB4.out.below HB5.out hq4)
              have C5 := Lib.hid (HC4.out.then_below HB5.out)
              have hsr := insL_srtd HM.out HLE.out (HTO.out hq)
              have HSR := Lib.hid hsr
              clear hsr
              go_wp2_with fail
              go_roundw
              case rel => exact ord_next hws HPS.out HP.out HSR.out B5.out E5.out C5.out z1 z2 z3 k1
              case measure => first | (simp [intOf]; done) | (simp [intOf]; omega)
            · have E5 := Lib.hid (HE4.out.below HB5.out)
              have B5 := Lib.hid (HB4.out.below HB5.out hq4)
              have C5 := Lib.hid (HC4.out.then_below HB5.out)
              go_wp2_with fail
              have b6 : Below w5.heap.size w5 (w5.alloc (.cells #[.int .i64 p, .int .i64 r] 36)) := (Below.refl _ _).alloc (Nat.le_refl _) _
              have X6 := Lib.hid (Blk.new w5 36 #[.int .i64 p, .int .i64 r])
              have E6 := Lib.hid (E5.out.below b6)
              have B6 := Lib.hid (B5.out.below b6 B5.out.lt)
              have C6 := Lib.hid (C5.out.then_below b6)
              have l5g := Nat.lt_of_lt_of_le hg4 HB5.out.size
              generalize w5.alloc (.cells #[.int .i64 p, .int .i64 r] 36) = w6 at *
              obtain ⟨v1, v2', u1, u2, l6⟩ := E6.out.cells (j + 1) (p, r) (insL_at M (p, r) (j + 1) (by omega))
              obtain ⟨v3, v4, u3, u4, _⟩ := E6.out.cells j (x, y) HPJ.out
              have v6 : w6.cell? ⟨w5.heap.size, 0, none⟩ = some (.int .i64 p) := X6.out.cell 0
              have v7 : w6.cell? ⟨w5.heap.size, 1, none⟩ = some (.int .i64 r) := X6.out.cell 1
              have n1 : q ≠ g := by omega
              have n2 : w5.heap.size ≠ g := by omega
              simp only at v1 v2' v3 v4
              have v5 : w6.cell? ⟨q, 1, none⟩ = some (.slice (some ⟨g, 0, none⟩) (M.length + 1) cap) := B6.out.cell 1
              clear b6 f1 f2 f3 f4
              go_still_tail 10, (by kernel_rfl)
              change wpList _ _ _ _ _ w6.drew
              replace v1 : w6.drew.cell? ⟨g, (j + 1) * 2, none⟩ = some (.int .i64 p) := v1
              replace v2' : w6.drew.cell? ⟨g, (j + 1) * 2 + 1, none⟩ = some (.int .i64 r) := v2'
              replace v3 : w6.drew.cell? ⟨g, j * 2, none⟩ = some (.int .i64 x) := v3
              replace v4 : w6.drew.cell? ⟨g, j * 2 + 1, none⟩ = some (.int .i64 y) := v4
              replace v5 : w6.drew.cell? ⟨q, 1, none⟩ = some (.slice (some ⟨g, 0, none⟩) (M.length + 1) cap) := v5
              replace v6 : w6.drew.cell? ⟨w5.heap.size, 0, none⟩ = some (.int .i64 p) := v6
              replace v7 : w6.drew.cell? ⟨w5.heap.size, 1, none⟩ = some (.int .i64 r) := v7
              replace u1 : w6.drew.frozen? ⟨g, (j + 1) * 2, none⟩ = false := u1
              replace u2 : w6.drew.frozen? ⟨g, (j + 1) * 2 + 1, none⟩ = false := u2
              replace u3 : w6.drew.frozen? ⟨g, j * 2, none⟩ = false := u3
              replace u4 : w6.drew.frozen? ⟨g, j * 2 + 1, none⟩ = false := u4
              have E7 := Lib.hid (show EBlk w6.drew g cap (insL M (p, r) (j + 1)) from ⟨E6.out.ex⟩)
              have B7 := Lib.hid (show Blk w6.drew q _ _ from B6.out)
              have C7 := Lib.hid C6.out.drew
              clear E6 B6 C6 X6
              generalize w6.drew = w7 at *
              go_wp2_with fail
              go_roundw
              case rel =>
                have hgW : ∀ P : Prop, g < W.heap.size → P := fun P h => absurd h (by omega)
                exact ⟨j, rfl, by have := HI.out; omega, HNX.out hq, (((B7.out.far n1 _).far n1 _).far n1 _).far n1 _, HST.out _ E7.out, (((C7.out.setCell _ _ (hgW _)).setCell _ _ (hgW _)).setCell _ _ (hgW _)).setCell _ _ (hgW _)⟩
              case measure => first | (simp [intOf]; done) | (simp [intOf]; omega)
    · have hkk : l.take k = l := List.take_of_length_le (by omega)
      have hMM := HP.out
      rw [hkk] at hMM
      have hfin := srt_unique hMM HM.out
      obtain rfl : k = l.length := by have := HK.out; omega
      have c2 : wr.cell? ⟨q, 0, none⟩ = some (.int .i64 n) := HB.out.cell 0
      have c3 : wr.cell? ⟨q, 1, none⟩ = some v := HB.out.cell 1
      have k0 := E1.out.frozen 0
      have k1 := E1.out.frozen 1
      have d0 : wr.cell? ⟨w.heap.size + 1, 0, none⟩ = some (.int .i64 0) := E1.out.cell 0
      have d1 : wr.cell? ⟨w.heap.size + 1, 1, none⟩ = some (.slice none 0 0) := E1.out.cell 1
      have hlt3 := E1.out.lt
      have H3 := Lib.hid (H2.out.trans (HC.out.below_of (by omega) (fun j hj e => by omega)))
      have HFIN := Lib.hid hfin
      have hor := HO.out
      clear hMM hfin hkk
      have hfo : ∃ av cv, v = .slice av l.length cv := by
        rcases hor.2 with ⟨rfl, h0⟩ | ⟨g, cap, cur, rfl, _⟩
        · exact ⟨none, 0, by rw [h0]⟩
        · exact ⟨_, _, rfl⟩
      obtain ⟨av, cv, rfl⟩ := hfo
      have hER : ERow wr av M := by
        rcases hor.2 with ⟨he, h0⟩ | ⟨g, cap, cur, he, _⟩
        · intro i hi
          have := hor.1
          rw [flatE_length, h0] at this
          omega
        · cases he
          exact (EBlk.of_own hor).1.row
      have hbl : ∀ x, av = some x → x.block ≠ w.heap.size + 1 := by
        rintro x rfl e
        have := (hor.lt x.block rfl).1
        omega
      have HERR := Lib.hid hER
      have HBL := Lib.hid hbl
      clear hER hbl hor HO
      go_wp2_with fail
      obtain ⟨r0, r1, r2⟩ := res_cells E1.out (.int .i64 n) (.slice av l.length cv)
      (try simp only [Exit.inBlock, Exit.then])
      refine bodyPost_ret (by simp [results, Try.results28, go_sem, r1, r2]; try rfl) rfl ?_
      have hfr : ERow ((wr.setCell ⟨w.heap.size + 1, 0, none⟩ (.int .i64 n)).setCell ⟨w.heap.size + 1, 1, none⟩ (.slice av l.length cv)) av M := by
        have hch := ((Chg.refl (fun j => j = w.heap.size + 1) wr).setCell ⟨w.heap.size + 1, 0, none⟩ (.int .i64 n) (fun _ => rfl)).setCell ⟨w.heap.size + 1, 1, none⟩ (.slice av l.length cv) (fun _ => rfl)
        exact Row.erow (HERR.out.row.chg hch (fun x hx => HBL.out x hx))
      refine ⟨_, _, _, rfl, ?_, ordL_length l, (H3.out.setCell (by simp) _).setCell (by simp) _⟩
      have e : ordL l = M := HFIN.out.symm
      rw [e]
      exact hfr

set_option maxRecDepth 100000 in
theorem rorder_no (n : Int) (l : List E2) (a : Option Addr) (m c : Nat) (w : World) (hr : ERow w a l) (hm : l.length = m) (hmm : m ≤ 300) (hf : formed n l = false) :
    Calls Try.prog 28 #[.agg #[.int .i64 n, .slice a m c]] w (OrdTold 0 [] 1 w) := by
  subst hm
  have h0 : Below w.heap.size w ((w.alloc (.cells #[.int .i64 n, .slice a l.length c] 24)).alloc (.cells #[.int .i64 0, .slice none 0 0] 24)) := ((Below.refl w.heap.size w).alloc (Nat.le_refl _) _).alloc (by simp) _
  have B1 := Blk.new (w.alloc (.cells #[.int .i64 n, .slice a l.length c] 24)) 24 #[.int .i64 0, .slice none 0 0]
  rw [show (w.alloc (.cells #[.int .i64 n, .slice a l.length c] 24)).heap.size = w.heap.size + 1 by simp] at B1
  have HB1 := Lib.hid B1
  have hF := rformed_any n l a l.length c _ (hr.below h0) rfl (by omega)
  rw [hf] at hF
  have HF := Lib.hid hF
  have H0 := Lib.hid h0
  clear hF h0 hf hr B1
  go_enter Try.func28, Try.ntmps28
  go_wp2_with fail
  generalize hW : (w.alloc (.cells #[.int .i64 n, .slice a l.length c] 24)).alloc (.cells #[.int .i64 0, .slice none 0 0] 24) = W0 at *
  clear hW
  refine HF.out.mono ?_
  rintro e w1 ⟨rfl, hb1⟩
  have F1 := Lib.hid (HB1.out.below hb1 HB1.out.lt)
  have H1 := Lib.hid (H0.out.trans (hb1.mono H0.out.size))
  have k0 := F1.out.frozen 0
  have k1 := F1.out.frozen 1
  have d0 : w1.cell? ⟨w.heap.size + 1, 0, none⟩ = some (.int .i64 0) := F1.out.cell 0
  have d1 : w1.cell? ⟨w.heap.size + 1, 1, none⟩ = some (.slice none 0 0) := F1.out.cell 1
  have hlt3 := F1.out.lt
  clear hb1 HF
  go_wp2_with fail
  obtain ⟨r0, r1, r2⟩ := res_cells F1.out (.int .i64 0) (.slice none 0 0)
  (try simp only [Exit.inBlock, Exit.then])
  refine bodyPost_ret (by simp [results, Try.results28, go_sem, r1, r2]; try rfl) rfl ?_
  exact ⟨none, 0, 0, rfl, fun i hi => absurd hi (by simp), rfl, (H1.out.setCell (by simp) _).setCell (by simp) _⟩

theorem rorder_told (n : Int) (l : List E2) (a : Option Addr) (m c : Nat) (w : World) (hr : ERow w a l) (hm : l.length = m) (hmm : m ≤ 300) :
    Calls Try.prog 28 #[.agg #[.int .i64 n, .slice a m c]] w (OrdTold (ordN n l) (ordX n l) (erO n l) w) := by
  unfold ordX ordN erO
  cases hf : formed n l
  · rw [if_neg (by simp), if_neg (by simp), if_neg (by simp)]
    exact rorder_no n l a m c w hr hm hmm hf
  · rw [if_pos rfl, if_pos rfl, if_pos rfl]
    exact rorder_ok n l a m c w hr hm hmm hf

end Go.Proofs.Ytlepmefknglkeaa.Gr
