/- The walk of Hold. -/
import Derived.Test.YtodjibhnmibedaaSpInside
set_option linter.unusedVariables false
namespace Go.Proofs.Ytodjibhnmibedaa.Sp
open Go.RowKit

def pieces (e : Ext) (first n : Nat) : List Ext := (if e.1 < first then [(e.1, first - e.1)] else []) ++ (if first + n < e.1 + e.2 then [(first + n, e.1 + e.2 - first - n)] else [])
def holdAt (L : List Ext) (k first n : Nat) : List Ext := L.take k ++ (pieces (L.getD k (0, 0)) first n ++ L.drop (k + 1))
def HoldYes (L : List Ext) (F B : Nat) (first n : Int) (k : Nat) : Prop :=
  insideB F B first n = true ∧ k < L.length ∧ ((L.getD k (0, 0)).1 : Int) ≤ first ∧ first + n ≤ ((L.getD k (0, 0)).1 : Int) + ((L.getD k (0, 0)).2 : Int)
/-- Behind an act on a space: what it answers, and what is free now. -/
def ActTold (w : World) (s F B : Nat) (v : Value) (base : Nat) (R : Int → List Ext → Prop) (e : Ending) (w' : World) : Prop :=
  ∃ er v' L', e = .returned (.int .i64 er) ∧ R er L' ∧ SpAt w' s F B v' L' base ∧ Chg (fun k => k = s ∨ some k = v.ownBlock) w w' ∧ (v'.ownBlock = v.ownBlock ∨ ∃ q, v'.ownBlock = some q ∧ w.heap.size ≤ q)
def HoldRel (L : List Ext) (F B : Nat) (first n : Int) (er : Int) (L' : List Ext) : Prop :=
  (er = 1 ∧ L' = L ∧ ∀ k, FirstTrue (endsB L first) L.length k → ¬ HoldYes L F B first n k) ∨ (er = 0 ∧ ∃ k, FirstTrue (endsB L first) L.length k ∧ HoldYes L F B first n k ∧ L' = holdAt L k first.toNat n.toNat)

theorem FirstTrue.unique {p : Nat → Bool} {n a b : Nat} (h1 : FirstTrue p n a) (h2 : FirstTrue p n b) : a = b := by
  rcases Nat.lt_trichotomy a b with h | h | h
  · have := h2.2.1 a h
    rw [h1.2.2 a (Nat.le_refl _) (by have := h2.1; omega)] at this
    cases this
  · exact h
  · have := h1.2.1 b h
    rw [h2.2.2 b (Nat.le_refl _) (by have := h1.1; omega)] at this
    cases this

theorem act_same {w w' : World} {s F B : Nat} {v : Value} {L : List Ext} {base : Nat} {R : Int → List Ext → Prop} (h : SpAt w s F B v L base) (hb : Below w.heap.size w w') (hR : R 1 L) : ActTold w s F B v base R (.returned (.int .i64 1)) w' :=
  ⟨1, v, L, rfl, hR, h.below hb, Chg.of_below' hb, .inl rfl⟩

theorem _root_.Go.RowKit.Below.size' {B : Nat} {w w' : World} (h : Below B w w') (hB : B ≤ w.heap.size) : B ≤ w'.heap.size := Nat.le_trans hB h.size
theorem _root_.Go.RowKit.Below.mono' {B : Nat} {w w' : World} (h : Below B w w') (hB : w.heap.size ≤ B) : Below w.heap.size w w' := h.mono hB
/-- A space stays where only blocks from a place on turn, its own lying ahead. -/
theorem SpAt.below3 {w w' : World} {s F B g n c : Nat} {L : List Ext} {base lo : Nat} (h : SpAt w s F B (.slice (some ⟨g, 0, none⟩) n c) L base) (hb : Below lo w w') (hs : s < lo) (hg : g < lo) : SpAt w' s F B (.slice (some ⟨g, 0, none⟩) n c) L base := by
  have key : ∀ q, (Value.slice (some ⟨g, 0, none⟩) n c).ownBlock = some q → ¬ lo ≤ q := fun q hq => by
    have : g = q := by simpa [Value.ownBlock] using hq
    omega
  exact ⟨h.blk.below hb hs, own_chg h.own (S := fun k => lo ≤ k) (Chg.of_below hb) key, h.F_le, h.B_le, h.L_le, h.in_⟩

theorem pieces_le {e : Ext} {fn m : Nat} (h : e.1 + e.2 ≤ 4000000) (h2 : fn ≤ e.1 + e.2) : (pieces e fn m).length ≤ 2 ∧ ∀ q ∈ pieces e fn m, q.1 + q.2 ≤ 4000000 := by
  unfold pieces
  split <;> split <;> refine ⟨by simp, fun q hq => ?_⟩ <;> simp at hq
  · rcases hq with rfl | rfl <;> simp only <;> omega
  · subst hq; simp only; omega
  · subst hq; simp only; omega

theorem hold_fin {w w11 ws : World} {s F B g c base k fn m : Nat} {x y : Nat} {L V : List Ext} {a10 : Option Addr} {k10 c10 : Nat}
    (hown : w11.ownsRow base 69 2 (.slice a10 k10 c10) k10 (flatX (L.take k ++ (V ++ L.drop (k + 1))))) (hc : Chg (fun q => q = s ∨ some q = (Value.slice (some ⟨g, 0, none⟩) L.length c).ownBlock) w w11)
    (hB : Blk w11 s 88 #[.int .i64 (F : Int), .int .i64 (B : Int), .slice a10 k10 c10]) (hf : (Value.slice a10 k10 c10).ownBlock = (Value.slice (some ⟨g, 0, none⟩) L.length c).ownBlock ∨ ∃ q, (Value.slice a10 k10 c10).ownBlock = some q ∧ ws.heap.size ≤ q)
    (hl : (L.take k ++ (V ++ L.drop (k + 1))).length = k10) (hws : w.heap.size ≤ ws.heap.size) (hy : HoldYes L F B fn m k) (hk : FirstTrue (endsB L fn) L.length k) (hgd : L.getD k (0, 0) = (x, y)) (hV : pieces (x, y) fn m = V) (hL : L.length + 1 ≤ 1000000)
    (hin : 1 ≤ (m : Int) ∧ (F : Int) ≤ fn ∧ (fn : Int) ≤ F + B ∧ (m : Int) ≤ F + B - fn) (h : SpAt ws s F B (.slice (some ⟨g, 0, none⟩) L.length c) L base) :
    ActTold w s F B (.slice (some ⟨g, 0, none⟩) L.length c) base (HoldRel L F B fn m) (.returned (.int .i64 0)) w11 := by
  have hxy : (x, y) ∈ L := by
    have h1 := hy.2.1
    rw [List.getD_eq_getElem?_getD, List.getElem?_eq_getElem h1] at hgd
    simp only [Option.getD_some] at hgd
    rw [← hgd]
    exact List.getElem_mem h1
  have hle := h.in_ _ hxy
  have h4 := hy.2.2.2
  rw [hgd] at h4
  simp only at h4 hle
  obtain ⟨p1, p2⟩ := pieces_le (e := (x, y)) (fn := fn) (m := m) hle (by simp only; omega)
  rw [hV] at p1 p2
  subst hl
  refine ⟨0, _, L.take k ++ (V ++ L.drop (k + 1)), rfl, .inr ⟨rfl, k, hk, hy, ?_⟩, ⟨hB, hown, h.F_le, h.B_le, ?_, ?_⟩, hc, hf.elim .inl (fun ⟨q, h1, h2⟩ => .inr ⟨q, h1, by omega⟩)⟩
  · unfold holdAt
    rw [hgd, Int.toNat_natCast, Int.toNat_natCast, hV]
  · have := hy.2.1
    simp only [List.length_append, List.length_take, List.length_drop]
    omega
  · intro e he
    rcases List.mem_append.1 he with he | he
    · exact h.in_ e (List.mem_of_mem_take he)
    · rcases List.mem_append.1 he with he | he
      · exact p2 e he
      · exact h.in_ e (List.mem_of_mem_drop he)

set_option maxRecDepth 100000 in
set_option maxHeartbeats 4000000 in
theorem hold_any (s F B : Nat) (v : Value) (L : List Ext) (base : Nat) (first n : Int) (w : World) (h : SpAt w s F B v L base) (hA : Asc L) (hL : L.length + 1 ≤ 1000000) (hbw : base ≤ w.heap.size) :
    Calls Try.prog 29 #[.pointer (some ⟨s, 0, none⟩), .int .i64 first, .int .i64 n] w (ActTold w s F B v base (HoldRel L F B first n)) := by
  obtain ⟨a, c, rfl, hc1, hc2⟩ := h.slice
  have HS := Lib.hid h
  have HA := Lib.hid hA
  have hF := h.F_le
  have hB := h.B_le
  have hsl := h.blk.lt
  have HI := Lib.hid (inside_any s F B (.slice a L.length c) L base first n w h)
  have HBE := Lib.hid (fun W (hb : Below w.heap.size w W) => behind_any s F B (.slice a L.length c) L base first W (h.below hb) hA)
  clear h hA
  cases hin : insideB F B first n
  · have HIN := Lib.hid hin
    rw [hin] at HI
    clear hin
    go_enter Try.func29, Try.ntmps29
    go_wp2_with fail
    refine HI.out.mono ?_
    rintro e w1 ⟨rfl, hb1⟩
    have HB1 := Lib.hid hb1
    clear hb1
    go_wp2_with fail
    go_ret
    exact act_same HS.out HB1.out (.inl ⟨rfl, rfl, fun k _ hy => by have := hy.1; rw [HIN.out] at this; cases this⟩)
  · have HIN := Lib.hid hin
    have hin2 : 1 ≤ n ∧ (F : Int) ≤ first ∧ first ≤ F + B ∧ n ≤ F + B - first := by
      unfold insideB at hin
      exact of_decide_eq_true hin
    rw [hin] at HI
    clear hin
    have t1 : IntKind.i64.wrap (first + n) = first + n := by rw [IntKind.wrap_i64]; omega
    go_enter Try.func29, Try.ntmps29
    go_wp2_with fail
    refine HI.out.mono ?_
    rintro e w1 ⟨rfl, hb1⟩
    have HB1 := Lib.hid hb1
    clear hb1
    go_wp2_with fail
    refine (HBE.out _ HB1.out).mono ?_
    rintro e w2 ⟨k, rfl, hk, hb2⟩
    have HB2 := Lib.hid (HB1.out.trans (hb2.mono HB1.out.size))
    have HK := Lib.hid hk
    have hkl := hk.1
    have S2 := Lib.hid (HS.out.below HB2.out)
    clear hb2 hk HB1 HBE HI
    have c2 : w2.cell? ⟨s, 2, none⟩ = some (.slice a L.length c) := S2.out.blk.cell 2
    by_cases hkn : k = L.length
    · have e1 : ((k : Int) == (L.length : Int)) = true := by rw [hkn]; simp
      have HKN := Lib.hid hkn
      clear hkn
      go_wp2_with fail
      go_ret
      exact act_same HS.out HB2.out (.inl ⟨rfl, rfl, fun k' hk' hy => by have := hy.2.1; have := HK.out.unique hk'; have := HKN.out; omega⟩)
    · have hkl2 : k < L.length := by omega
      have e1 : ((k : Int) == (L.length : Int)) = false := by simp; omega
      obtain ⟨g, rfl, f1, f2, f3, f4⟩ := S2.out.elem hkl2
      have hgd : L.getD k (0, 0) = L[k] := by rw [List.getD_eq_getElem?_getD, List.getElem?_eq_getElem hkl2]; rfl
      have hks : (k : Int) < (L.length : Int) := by omega
      have hks0 : (0 : Int) ≤ (k : Int) := by omega
      obtain ⟨⟨x, y⟩, hxy⟩ : ∃ q : Ext, L[k] = q := ⟨_, rfl⟩
      rw [hxy] at hgd f1 f2 f3 f4
      simp only at f1 f2 f3 f4
      have HGD := Lib.hid hgd
      clear hkn hxy hgd
      by_cases h1 : first < (x : Int)
      · go_wp2_with fail
        go_ret
        exact act_same HS.out HB2.out (.inl ⟨rfl, rfl, fun k' hk' hy => by have h9 := hy.2.2.1; have := HK.out.unique hk'; subst this; rw [HGD.out] at h9; simp only at h9; omega⟩)
      · go_wp2_with fail
        refine (end_any (x : Int) (y : Int) w2 ⟨by omega, by omega⟩ ⟨by omega, by omega⟩).mono ?_
        rintro e w3 ⟨rfl, hb3⟩
        have HB3 := Lib.hid (HB2.out.trans (hb3.mono HB2.out.size))
        have S3 := Lib.hid (S2.out.below hb3)
        clear hb3 c2 f1 f2
        obtain ⟨g2, hg2, f1, f2, -, -⟩ := S3.out.elem hkl2
        injection hg2 with hg2
        injection hg2 with hg2
        subst hg2
        have c2 : w3.cell? ⟨s, 2, none⟩ = some (.slice (some ⟨g, 0, none⟩) L.length c) := S3.out.blk.cell 2
        have hxy : L[k] = (x, y) := by rw [← HGD.out, List.getD_eq_getElem?_getD, List.getElem?_eq_getElem hkl2]; rfl
        rw [hxy] at f1 f2
        simp only at f1 f2
        clear hxy
        by_cases h2 : (x : Int) + y < first + n
        · go_wp2_with fail
          go_ret
          exact act_same HS.out HB3.out (.inl ⟨rfl, rfl, fun k' hk' hy => by have h9 := hy.2.2.2; have := HK.out.unique hk'; subst this; rw [HGD.out] at h9; simp only at h9; omega⟩)
        · obtain ⟨fn, hfn⟩ : ∃ fn : Nat, first = (fn : Int) := ⟨first.toNat, by omega⟩
          obtain ⟨m, hm⟩ : ∃ m : Nat, n = (m : Int) := ⟨n.toNat, by omega⟩
          subst hfn
          subst hm
          have HYES : Hid (HoldYes L F B fn m k) := Lib.hid ⟨HIN.out, hkl2, by rw [HGD.out]; simp only; omega, by rw [HGD.out]; simp only; omega⟩
          have hlt3 := HB3.out.size
          have hsl3 : s < w3.heap.size := by omega
          have hgl3 : g < w3.heap.size := (cell_lt f1).1
          have bE := (Below.refl w3.heap.size w3).alloc (Nat.le_refl _) (.cells #[.int .i64 (x : Int), .int .i64 (y : Int)] 69)
          have E4 := Lib.hid (Blk.new w3 69 #[.int .i64 (x : Int), .int .i64 (y : Int)])
          have BE := Lib.hid bE
          have S4 := Lib.hid (S3.out.below bE)
          clear bE
          by_cases h3 : (x : Int) < (fn : Int)
          · have e9 : ((fn - x : Nat) : Int) = (fn : Int) - x := by omega
            have e8 := Row.new (w3.alloc (.cells #[.int .i64 (x : Int), .int .i64 (y : Int)] 69)) #[.int .i64 (x : Int), .int .i64 ((fn - x : Nat) : Int)] 69 (0, 0)
            rw [e9, show (w3.alloc (.cells #[.int .i64 (x : Int), .int .i64 (y : Int)] 69)).heap.size = w3.heap.size + 1 by simp] at e8
            have e7 : (#[Value.int .i64 (x : Int), .int .i64 ((fn : Int) - x)]).toList = flatX [(x, fn - x)] := by rw [← e9]; rfl
            rw [e7] at e8
            have HRW := Lib.hid e8
            have t6 : IntKind.i64.wrap ((fn : Int) - x) = (fn : Int) - x := by rw [IntKind.wrap_i64]; omega
            clear e7 e8 e9
            go_wp2_with (at_builtin; go_must (refine wpList_append rfl (.tmp 62) (.tmp 70) _ rfl el_ext w3.heap.size (.slice none 0 0) 0 [] rfl (World.ownsRow_nil _ _ _ _) _ 1 1 (flatX [(x, fn - x)]) rfl rfl HRW.out (flatX_one _) (by unfold maxLen; omega) (by omega) (by simp; omega) ?_))
            intro v5 w5 hown5 hg5 _ hb5
            obtain ⟨h5l, h5v⟩ := XBlk.of_own (l := [(x, fn - x)]) hown5
            obtain ⟨a5, c5, rfl⟩ : ∃ a5 c5, v5 = .slice a5 1 c5 := by
              rcases h5v with ⟨-, h⟩ | ⟨g', cap', rest', rfl, _⟩
              · cases h
              · exact ⟨_, _, rfl⟩
            have hc5 : Chg (fun _ => False) (w3.alloc (.cells #[.int .i64 (x : Int), .int .i64 (y : Int)] 69)) w5 := ((Chg.refl (fun _ => False) _).alloc _).trans (Chg.of_grown hg5) (fun k _ e => by simp [Value.ownBlock] at e)
            have hbb5 : Below (w3.heap.size + 1) (w3.alloc (.cells #[.int .i64 (x : Int), .int .i64 (y : Int)] 69)) w5 := hc5.below_of (by simp) (fun k hk e => e)
            have HV5 : Hid (w5.ownsRow w3.heap.size 69 2 (.slice a5 1 c5) 1 (flatX [(x, fn - x)])) := Lib.hid hown5
            have E5 := Lib.hid (E4.out.below hbb5 (by omega))
            have S5 := Lib.hid (S4.out.below (hbb5.mono' (by simp)))
            have HB5 := Lib.hid ((HB3.out.trans (BE.out.mono HB3.out.size)).trans (hbb5.mono (by omega)))
            clear hown5 hg5 hb5 h5l h5v hc5 hbb5 HRW E4 S4 c2 f1 f2
            have d0 : w5.cell? ⟨w3.heap.size, 0, none⟩ = some (.int .i64 (x : Int)) := E5.out.cell 0
            have d1 : w5.cell? ⟨w3.heap.size, 1, none⟩ = some (.int .i64 (y : Int)) := E5.out.cell 1
            go_wp2_with fail
            refine (end_any (x : Int) (y : Int) w5 ⟨by omega, by omega⟩ ⟨by omega, by omega⟩).mono ?_
            rintro e w6 ⟨rfl, hb6⟩
            have E6 := Lib.hid (E5.out.below hb6 E5.out.lt)
            have S6 := Lib.hid (S5.out.below hb6)
            have HV6 := Lib.hid (own_chg HV5.out (Chg.of_below' (S := fun _ => False) hb6) (fun _ _ h => h))
            have HB6 := Lib.hid (HB5.out.trans (hb6.mono HB5.out.size))
            have hz6 : w3.heap.size ≤ w6.heap.size := Nat.le_trans (Nat.le_of_lt E5.out.lt) hb6.size
            clear hb6 d0 d1 E5 S5 HV5 HB5
            by_cases h4 : (fn : Int) + m < (x : Int) + y
            · have d0 : w6.cell? ⟨w3.heap.size, 0, none⟩ = some (.int .i64 (x : Int)) := E6.out.cell 0
              have d1 : w6.cell? ⟨w3.heap.size, 1, none⟩ = some (.int .i64 (y : Int)) := E6.out.cell 1
              go_wp2_with fail
              refine (end_any (x : Int) (y : Int) w6 ⟨by omega, by omega⟩ ⟨by omega, by omega⟩).mono ?_
              rintro e w7 ⟨rfl, hb7⟩
              have S7 := Lib.hid (S6.out.below hb7)
              have HV7 := Lib.hid (own_chg HV6.out (Chg.of_below' (S := fun _ => False) hb7) (fun _ _ h => h))
              have HB7 := Lib.hid (HB6.out.trans (hb7.mono HB6.out.size))
              have hz7 : w3.heap.size ≤ w7.heap.size := Nat.le_trans hz6 hb7.size
              clear hb7 d0 d1 E6 S6 HV6 HB6
              have e9 : ((fn + m : Nat) : Int) = (fn : Int) + m := by omega
              have e8 : ((x + y - fn - m : Nat) : Int) = (x : Int) + y - fn - m := by omega
              have e7 := Row.new w7 #[.int .i64 ((fn + m : Nat) : Int), .int .i64 ((x + y - fn - m : Nat) : Int)] 69 (0, 0)
              have e6 : (#[Value.int .i64 ((fn + m : Nat) : Int), .int .i64 ((x + y - fn - m : Nat) : Int)]).toList = flatX [(fn + m, x + y - fn - m)] := rfl
              rw [e6, e9, e8] at e7
              have HRW := Lib.hid e7
              have t7 : IntKind.i64.wrap ((x : Int) + y - fn) = (x : Int) + y - fn := by rw [IntKind.wrap_i64]; omega
              have t8 : IntKind.i64.wrap ((x : Int) + y - fn - m) = (x : Int) + y - fn - m := by rw [IntKind.wrap_i64]; omega
              clear e6 e7 e8 e9
              go_wp2_with (at_builtin; go_must (refine wpList_append rfl (.tmp 78) (.tmp 89) _ rfl el_ext w3.heap.size _ _ _ rfl (HV7.out.alloc _) _ 1 1 (flatX [(fn + m, x + y - fn - m)]) rfl rfl HRW.out (flatX_one _) (by unfold maxLen; omega) (by omega) (by simp; omega) ?_))
              rw [← flatX_append]
              intro v8 w8 hown8 hg8 _ hb8
              obtain ⟨h8l, h8v⟩ := XBlk.of_own hown8
              obtain ⟨a8, c8, rfl⟩ : ∃ a8 c8, v8 = .slice a8 2 c8 := by
                rcases h8v with ⟨-, h⟩ | ⟨g', cap', rest', rfl, _⟩
                · simp at h
                · exact ⟨_, _, rfl⟩
              have hbb8 : Below w3.heap.size w7 w8 := ((Below.refl w3.heap.size w7).alloc hz7 _).trans hb8
              have HV8 : Hid (w8.ownsRow w3.heap.size 69 2 (.slice a8 2 c8) 2 (flatX ([(x, fn - x)] ++ [(fn + m, x + y - fn - m)]))) := Lib.hid hown8
              have S8 := Lib.hid (S7.out.below3 hbb8 hsl3 hgl3)
              have HB8 := Lib.hid (HB7.out.trans (hbb8.mono (by omega)))
              have hz8 : w3.heap.size ≤ w8.heap.size := hbb8.size' hz7
              clear hown8 hg8 hb8 h8l h8v hbb8 HRW S7 HV7 HB7
              obtain ⟨h9l, h9v⟩ := XBlk.of_own (l := [(x, fn - x)] ++ [(fn + m, x + y - fn - m)]) HV8.out
              have hva : Row w8 a8 (flatX ([(x, fn - x)] ++ [(fn + m, x + y - fn - m)])) ∧ (∀ q : Addr, a8 = some q → some q.block ≠ (Value.slice (some ⟨g, 0, none⟩) L.length c).ownBlock) ∧ (0 < 2 → ∃ vb c1, a8 = some ⟨vb, 0, none⟩ ∧ Blk w8 vb 69 c1) := by
                rcases h9v with ⟨hv, h⟩ | ⟨g', cap', rest', hv, hg1, hg2, hX⟩
                · injection hv with hv1 hv2 hv3
                  refine ⟨by rw [h]; exact Row.nil _ _, (fun q hq => by rw [hv1] at hq; cases hq), (fun h0 => by omega)⟩
                · injection hv with hv1 hv2 hv3
                  refine ⟨?_, fun q hq => ?_, fun _ => ⟨g', _, hv1, hX.blk⟩⟩
                  · have := hX.row 0 ([(x, fn - x)] ++ [(fn + m, x + y - fn - m)]).length (Nat.le_refl _)
                    rw [List.take_length, List.drop_zero, Nat.zero_mul] at this
                    rw [hv1]
                    exact this
                  · rw [hv1] at hq
                    injection hq with hq
                    subst hq
                    intro e
                    have e2 : g' = g := by simpa [Value.ownBlock] using e
                    omega
              have HR := Lib.hid (replace_any L ([(x, fn - x)] ++ [(fn + m, x + y - fn - m)]) k (k + 1) L.length c base 2 c8 (some ⟨g, 0, none⟩) a8 w8 S8.out.own (Nat.le_trans hbw (by have := HB8.out.size; omega)) hva.1 h9l hva.2.1 hva.2.2 (by omega) (by omega) (by omega) (by omega))
              rw [show (((k + 1 : Nat)) : Int) = (k : Int) + 1 from rfl] at HR
              have c9 : w8.cell? ⟨s, 2, none⟩ = some (.slice (some ⟨g, 0, none⟩) L.length c) := S8.out.blk.cell 2
              clear h9l h9v hva
              go_wp2_with fail
              refine HR.out.mono ?_
              rintro e w10 ⟨a10, k10, c10, rfl, hown10, hc10, hf10⟩
              have hsg : ¬ some s = (Value.slice (some ⟨g, 0, none⟩) L.length c).ownBlock := fun e => own_ne_blk S8.out.own S8.out.blk (by decide) e.symm
              have B10 := S8.out.blk.chg hc10 hsg
              have hl10 := (XBlk.of_own hown10).1
              have hown11 := own_chg (S := fun q => q = s) hown10 ((Chg.refl _ w10).setCell ⟨s, 2, none⟩ (.slice a10 k10 c10) (fun _ => rfl)) (fun q hq e => own_ne_blk hown10 B10 (by decide) (e ▸ hq))
              have hc11 : Chg (fun q => q = s ∨ some q = (Value.slice (some ⟨g, 0, none⟩) L.length c).ownBlock) w (w10.setCell ⟨s, 2, none⟩ (.slice a10 k10 c10)) :=
                ((Chg.of_below' HB8.out).trans hc10 (fun q _ e => .inr e)).setCell _ _ (fun _ => .inl rfl)
              have B11 : Blk (w10.setCell ⟨s, 2, none⟩ (.slice a10 k10 c10)) s 88 #[.int .i64 (F : Int), .int .i64 (B : Int), .slice a10 k10 c10] := by simpa using B10.set_ 2 (.slice a10 k10 c10)
              have HFIN := Lib.hid (hold_fin (c := c) hown11 hc11 B11 hf10 hl10 HB8.out.size HYES.out HK.out HGD.out (show pieces (x, y) fn m = [(x, fn - x)] ++ [(fn + m, x + y - fn - m)] by unfold pieces; rw [if_pos (by simp only; omega), if_pos (by simp only; omega)]) hL hin2 S8.out)
              have c10' : w10.cell? ⟨s, 2, none⟩ = some (.slice (some ⟨g, 0, none⟩) L.length c) := B10.cell 2
              have f10 := B10.frozen 2
              clear hown10 hc10 hf10 B10 hl10 hown11 hc11 B11 HR c9
              go_wp2_with fail
              go_ret
              exact HFIN.out
            · have HV8 := HV6
              have S8 := S6
              have HB8 := HB6
              have hz8 := hz6
              clear HV6 S6 HB6 E6
              obtain ⟨h9l, h9v⟩ := XBlk.of_own (l := [(x, fn - x)]) HV8.out
              have hva : Row w6 a5 (flatX ([(x, fn - x)])) ∧ (∀ q : Addr, a5 = some q → some q.block ≠ (Value.slice (some ⟨g, 0, none⟩) L.length c).ownBlock) ∧ (0 < 1 → ∃ vb c1, a5 = some ⟨vb, 0, none⟩ ∧ Blk w6 vb 69 c1) := by
                rcases h9v with ⟨hv, h⟩ | ⟨g', cap', rest', hv, hg1, hg2, hX⟩
                · injection hv with hv1 hv2 hv3
                  refine ⟨by rw [h]; exact Row.nil _ _, (fun q hq => by rw [hv1] at hq; cases hq), (fun h0 => by omega)⟩
                · injection hv with hv1 hv2 hv3
                  refine ⟨?_, fun q hq => ?_, fun _ => ⟨g', _, hv1, hX.blk⟩⟩
                  · have := hX.row 0 ([(x, fn - x)]).length (Nat.le_refl _)
                    rw [List.take_length, List.drop_zero, Nat.zero_mul] at this
                    rw [hv1]
                    exact this
                  · rw [hv1] at hq
                    injection hq with hq
                    subst hq
                    intro e
                    have e2 : g' = g := by simpa [Value.ownBlock] using e
                    omega
              have HR := Lib.hid (replace_any L ([(x, fn - x)]) k (k + 1) L.length c base 1 c5 (some ⟨g, 0, none⟩) a5 w6 S8.out.own (Nat.le_trans hbw (by have := HB8.out.size; omega)) hva.1 h9l hva.2.1 hva.2.2 (by omega) (by omega) (by omega) (by omega))
              rw [show (((k + 1 : Nat)) : Int) = (k : Int) + 1 from rfl] at HR
              have c9 : w6.cell? ⟨s, 2, none⟩ = some (.slice (some ⟨g, 0, none⟩) L.length c) := S8.out.blk.cell 2
              clear h9l h9v hva
              go_wp2_with fail
              refine HR.out.mono ?_
              rintro e w10 ⟨a10, k10, c10, rfl, hown10, hc10, hf10⟩
              have hsg : ¬ some s = (Value.slice (some ⟨g, 0, none⟩) L.length c).ownBlock := fun e => own_ne_blk S8.out.own S8.out.blk (by decide) e.symm
              have B10 := S8.out.blk.chg hc10 hsg
              have hl10 := (XBlk.of_own hown10).1
              have hown11 := own_chg (S := fun q => q = s) hown10 ((Chg.refl _ w10).setCell ⟨s, 2, none⟩ (.slice a10 k10 c10) (fun _ => rfl)) (fun q hq e => own_ne_blk hown10 B10 (by decide) (e ▸ hq))
              have hc11 : Chg (fun q => q = s ∨ some q = (Value.slice (some ⟨g, 0, none⟩) L.length c).ownBlock) w (w10.setCell ⟨s, 2, none⟩ (.slice a10 k10 c10)) :=
                ((Chg.of_below' HB8.out).trans hc10 (fun q _ e => .inr e)).setCell _ _ (fun _ => .inl rfl)
              have B11 : Blk (w10.setCell ⟨s, 2, none⟩ (.slice a10 k10 c10)) s 88 #[.int .i64 (F : Int), .int .i64 (B : Int), .slice a10 k10 c10] := by simpa using B10.set_ 2 (.slice a10 k10 c10)
              have HFIN := Lib.hid (hold_fin (c := c) hown11 hc11 B11 hf10 hl10 HB8.out.size HYES.out HK.out HGD.out (show pieces (x, y) fn m = [(x, fn - x)] by unfold pieces; rw [if_pos (by simp only; omega), if_neg (by simp only; omega)]; rfl) hL hin2 S8.out)
              have c10' : w10.cell? ⟨s, 2, none⟩ = some (.slice (some ⟨g, 0, none⟩) L.length c) := B10.cell 2
              have f10 := B10.frozen 2
              clear hown10 hc10 hf10 B10 hl10 hown11 hc11 B11 HR c9
              go_wp2_with fail
              go_ret
              exact HFIN.out
          · have HV5 : Hid ((w3.alloc (.cells #[.int .i64 (x : Int), .int .i64 (y : Int)] 69)).ownsRow w3.heap.size 69 2 (.slice none 0 0) 0 (flatX [])) := Lib.hid (World.ownsRow_nil _ _ _ _)
            have HB5 := Lib.hid (HB3.out.trans (BE.out.mono HB3.out.size))
            have E5 := E4
            have S5 := S4
            clear E4 S4
            have d0 : (w3.alloc (.cells #[.int .i64 (x : Int), .int .i64 (y : Int)] 69)).cell? ⟨w3.heap.size, 0, none⟩ = some (.int .i64 (x : Int)) := E5.out.cell 0
            have d1 : (w3.alloc (.cells #[.int .i64 (x : Int), .int .i64 (y : Int)] 69)).cell? ⟨w3.heap.size, 1, none⟩ = some (.int .i64 (y : Int)) := E5.out.cell 1
            go_wp2_with fail
            refine (end_any (x : Int) (y : Int) (w3.alloc (.cells #[.int .i64 (x : Int), .int .i64 (y : Int)] 69)) ⟨by omega, by omega⟩ ⟨by omega, by omega⟩).mono ?_
            rintro e w6 ⟨rfl, hb6⟩
            have E6 := Lib.hid (E5.out.below hb6 E5.out.lt)
            have S6 := Lib.hid (S5.out.below hb6)
            have HV6 := Lib.hid (own_chg HV5.out (Chg.of_below' (S := fun _ => False) hb6) (fun _ _ h => h))
            have HB6 := Lib.hid (HB5.out.trans (hb6.mono HB5.out.size))
            have hz6 : w3.heap.size ≤ w6.heap.size := Nat.le_trans (Nat.le_of_lt E5.out.lt) hb6.size
            clear hb6 d0 d1 E5 S5 HV5 HB5
            by_cases h4 : (fn : Int) + m < (x : Int) + y
            · have d0 : w6.cell? ⟨w3.heap.size, 0, none⟩ = some (.int .i64 (x : Int)) := E6.out.cell 0
              have d1 : w6.cell? ⟨w3.heap.size, 1, none⟩ = some (.int .i64 (y : Int)) := E6.out.cell 1
              go_wp2_with fail
              refine (end_any (x : Int) (y : Int) w6 ⟨by omega, by omega⟩ ⟨by omega, by omega⟩).mono ?_
              rintro e w7 ⟨rfl, hb7⟩
              have S7 := Lib.hid (S6.out.below hb7)
              have HV7 := Lib.hid (own_chg HV6.out (Chg.of_below' (S := fun _ => False) hb7) (fun _ _ h => h))
              have HB7 := Lib.hid (HB6.out.trans (hb7.mono HB6.out.size))
              have hz7 : w3.heap.size ≤ w7.heap.size := Nat.le_trans hz6 hb7.size
              clear hb7 d0 d1 E6 S6 HV6 HB6
              have e9 : ((fn + m : Nat) : Int) = (fn : Int) + m := by omega
              have e8 : ((x + y - fn - m : Nat) : Int) = (x : Int) + y - fn - m := by omega
              have e7 := Row.new w7 #[.int .i64 ((fn + m : Nat) : Int), .int .i64 ((x + y - fn - m : Nat) : Int)] 69 (0, 0)
              have e6 : (#[Value.int .i64 ((fn + m : Nat) : Int), .int .i64 ((x + y - fn - m : Nat) : Int)]).toList = flatX [(fn + m, x + y - fn - m)] := rfl
              rw [e6, e9, e8] at e7
              have HRW := Lib.hid e7
              have t7 : IntKind.i64.wrap ((x : Int) + y - fn) = (x : Int) + y - fn := by rw [IntKind.wrap_i64]; omega
              have t8 : IntKind.i64.wrap ((x : Int) + y - fn - m) = (x : Int) + y - fn - m := by rw [IntKind.wrap_i64]; omega
              clear e6 e7 e8 e9
              go_wp2_with (at_builtin; go_must (refine wpList_append rfl (.tmp 78) (.tmp 89) _ rfl el_ext w3.heap.size _ _ _ rfl (HV7.out.alloc _) _ 1 1 (flatX [(fn + m, x + y - fn - m)]) rfl rfl HRW.out (flatX_one _) (by unfold maxLen; omega) (by omega) (by simp; omega) ?_))
              rw [← flatX_append]
              intro v8 w8 hown8 hg8 _ hb8
              obtain ⟨h8l, h8v⟩ := XBlk.of_own hown8
              obtain ⟨a8, c8, rfl⟩ : ∃ a8 c8, v8 = .slice a8 1 c8 := by
                rcases h8v with ⟨-, h⟩ | ⟨g', cap', rest', rfl, _⟩
                · simp at h
                · exact ⟨_, _, rfl⟩
              have hbb8 : Below w3.heap.size w7 w8 := ((Below.refl w3.heap.size w7).alloc hz7 _).trans hb8
              have HV8 : Hid (w8.ownsRow w3.heap.size 69 2 (.slice a8 1 c8) 1 (flatX ([] ++ [(fn + m, x + y - fn - m)]))) := Lib.hid hown8
              have S8 := Lib.hid (S7.out.below3 hbb8 hsl3 hgl3)
              have HB8 := Lib.hid (HB7.out.trans (hbb8.mono (by omega)))
              have hz8 : w3.heap.size ≤ w8.heap.size := hbb8.size' hz7
              clear hown8 hg8 hb8 h8l h8v hbb8 HRW S7 HV7 HB7
              obtain ⟨h9l, h9v⟩ := XBlk.of_own (l := [] ++ [(fn + m, x + y - fn - m)]) HV8.out
              have hva : Row w8 a8 (flatX ([] ++ [(fn + m, x + y - fn - m)])) ∧ (∀ q : Addr, a8 = some q → some q.block ≠ (Value.slice (some ⟨g, 0, none⟩) L.length c).ownBlock) ∧ (0 < 1 → ∃ vb c1, a8 = some ⟨vb, 0, none⟩ ∧ Blk w8 vb 69 c1) := by
                rcases h9v with ⟨hv, h⟩ | ⟨g', cap', rest', hv, hg1, hg2, hX⟩
                · injection hv with hv1 hv2 hv3
                  refine ⟨by rw [h]; exact Row.nil _ _, (fun q hq => by rw [hv1] at hq; cases hq), (fun h0 => by omega)⟩
                · injection hv with hv1 hv2 hv3
                  refine ⟨?_, fun q hq => ?_, fun _ => ⟨g', _, hv1, hX.blk⟩⟩
                  · have := hX.row 0 ([] ++ [(fn + m, x + y - fn - m)]).length (Nat.le_refl _)
                    rw [List.take_length, List.drop_zero, Nat.zero_mul] at this
                    rw [hv1]
                    exact this
                  · rw [hv1] at hq
                    injection hq with hq
                    subst hq
                    intro e
                    have e2 : g' = g := by simpa [Value.ownBlock] using e
                    omega
              have HR := Lib.hid (replace_any L ([] ++ [(fn + m, x + y - fn - m)]) k (k + 1) L.length c base 1 c8 (some ⟨g, 0, none⟩) a8 w8 S8.out.own (Nat.le_trans hbw (by have := HB8.out.size; omega)) hva.1 h9l hva.2.1 hva.2.2 (by omega) (by omega) (by omega) (by omega))
              rw [show (((k + 1 : Nat)) : Int) = (k : Int) + 1 from rfl] at HR
              have c9 : w8.cell? ⟨s, 2, none⟩ = some (.slice (some ⟨g, 0, none⟩) L.length c) := S8.out.blk.cell 2
              clear h9l h9v hva
              go_wp2_with fail
              refine HR.out.mono ?_
              rintro e w10 ⟨a10, k10, c10, rfl, hown10, hc10, hf10⟩
              have hsg : ¬ some s = (Value.slice (some ⟨g, 0, none⟩) L.length c).ownBlock := fun e => own_ne_blk S8.out.own S8.out.blk (by decide) e.symm
              have B10 := S8.out.blk.chg hc10 hsg
              have hl10 := (XBlk.of_own hown10).1
              have hown11 := own_chg (S := fun q => q = s) hown10 ((Chg.refl _ w10).setCell ⟨s, 2, none⟩ (.slice a10 k10 c10) (fun _ => rfl)) (fun q hq e => own_ne_blk hown10 B10 (by decide) (e ▸ hq))
              have hc11 : Chg (fun q => q = s ∨ some q = (Value.slice (some ⟨g, 0, none⟩) L.length c).ownBlock) w (w10.setCell ⟨s, 2, none⟩ (.slice a10 k10 c10)) :=
                ((Chg.of_below' HB8.out).trans hc10 (fun q _ e => .inr e)).setCell _ _ (fun _ => .inl rfl)
              have B11 : Blk (w10.setCell ⟨s, 2, none⟩ (.slice a10 k10 c10)) s 88 #[.int .i64 (F : Int), .int .i64 (B : Int), .slice a10 k10 c10] := by simpa using B10.set_ 2 (.slice a10 k10 c10)
              have HFIN := Lib.hid (hold_fin (c := c) hown11 hc11 B11 hf10 hl10 HB8.out.size HYES.out HK.out HGD.out (show pieces (x, y) fn m = [] ++ [(fn + m, x + y - fn - m)] by unfold pieces; rw [if_neg (by simp only; omega), if_pos (by simp only; omega)]) hL hin2 S8.out)
              have c10' : w10.cell? ⟨s, 2, none⟩ = some (.slice (some ⟨g, 0, none⟩) L.length c) := B10.cell 2
              have f10 := B10.frozen 2
              clear hown10 hc10 hf10 B10 hl10 hown11 hc11 B11 HR c9
              go_wp2_with fail
              go_ret
              exact HFIN.out
            · have HV8 := HV6
              have S8 := S6
              have HB8 := HB6
              have hz8 := hz6
              clear HV6 S6 HB6 E6
              obtain ⟨h9l, h9v⟩ := XBlk.of_own (l := ([] : List Ext)) HV8.out
              have hva : Row w6 (none : Option Addr) (flatX (([] : List Ext))) ∧ (∀ q : Addr, (none : Option Addr) = some q → some q.block ≠ (Value.slice (some ⟨g, 0, none⟩) L.length c).ownBlock) ∧ (0 < 0 → ∃ vb c1, (none : Option Addr) = some ⟨vb, 0, none⟩ ∧ Blk w6 vb 69 c1) := by
                rcases h9v with ⟨hv, h⟩ | ⟨g', cap', rest', hv, hg1, hg2, hX⟩
                · injection hv with hv1 hv2 hv3
                  refine ⟨by rw [h]; exact Row.nil _ _, (fun q hq => by rw [hv1] at hq; cases hq), (fun h0 => by omega)⟩
                · injection hv with hv1 hv2 hv3
                  refine ⟨?_, fun q hq => ?_, fun _ => ⟨g', _, hv1, hX.blk⟩⟩
                  · have := hX.row 0 (([] : List Ext)).length (Nat.le_refl _)
                    rw [List.take_length, List.drop_zero, Nat.zero_mul] at this
                    rw [hv1]
                    exact this
                  · rw [hv1] at hq
                    injection hq with hq
                    subst hq
                    intro e
                    have e2 : g' = g := by simpa [Value.ownBlock] using e
                    omega
              have HR := Lib.hid (replace_any L (([] : List Ext)) k (k + 1) L.length c base 0 0 (some ⟨g, 0, none⟩) (none : Option Addr) w6 S8.out.own (Nat.le_trans hbw (by have := HB8.out.size; omega)) hva.1 h9l hva.2.1 hva.2.2 (by omega) (by omega) (by omega) (by omega))
              rw [show (((k + 1 : Nat)) : Int) = (k : Int) + 1 from rfl] at HR
              have c9 : w6.cell? ⟨s, 2, none⟩ = some (.slice (some ⟨g, 0, none⟩) L.length c) := S8.out.blk.cell 2
              clear h9l h9v hva
              go_wp2_with fail
              refine HR.out.mono ?_
              rintro e w10 ⟨a10, k10, c10, rfl, hown10, hc10, hf10⟩
              have hsg : ¬ some s = (Value.slice (some ⟨g, 0, none⟩) L.length c).ownBlock := fun e => own_ne_blk S8.out.own S8.out.blk (by decide) e.symm
              have B10 := S8.out.blk.chg hc10 hsg
              have hl10 := (XBlk.of_own hown10).1
              have hown11 := own_chg (S := fun q => q = s) hown10 ((Chg.refl _ w10).setCell ⟨s, 2, none⟩ (.slice a10 k10 c10) (fun _ => rfl)) (fun q hq e => own_ne_blk hown10 B10 (by decide) (e ▸ hq))
              have hc11 : Chg (fun q => q = s ∨ some q = (Value.slice (some ⟨g, 0, none⟩) L.length c).ownBlock) w (w10.setCell ⟨s, 2, none⟩ (.slice a10 k10 c10)) :=
                ((Chg.of_below' HB8.out).trans hc10 (fun q _ e => .inr e)).setCell _ _ (fun _ => .inl rfl)
              have B11 : Blk (w10.setCell ⟨s, 2, none⟩ (.slice a10 k10 c10)) s 88 #[.int .i64 (F : Int), .int .i64 (B : Int), .slice a10 k10 c10] := by simpa using B10.set_ 2 (.slice a10 k10 c10)
              have HFIN := Lib.hid (hold_fin (c := c) hown11 hc11 B11 hf10 hl10 HB8.out.size HYES.out HK.out HGD.out (show pieces (x, y) fn m = ([] : List Ext) by unfold pieces; rw [if_neg (by simp only; omega), if_neg (by simp only; omega)]; rfl) hL hin2 S8.out)
              have c10' : w10.cell? ⟨s, 2, none⟩ = some (.slice (some ⟨g, 0, none⟩) L.length c) := B10.cell 2
              have f10 := B10.frozen 2
              clear hown10 hc10 hf10 B10 hl10 hown11 hc11 B11 HR c9
              go_wp2_with fail
              go_ret
              exact HFIN.out

end Go.Proofs.Ytodjibhnmibedaa.Sp
