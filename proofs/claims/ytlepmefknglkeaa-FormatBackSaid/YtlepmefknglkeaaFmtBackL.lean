/- The laws FormatCuts and FormatBack. -/
import Derived.Test.YtlepmefknglkeaaFmtDecL
set_option linter.unusedVariables false
namespace Go.Proofs.Ytlepmefknglkeaa.Gr
open Go.RowKit Var

theorem encB_bytes {V : List E2} {N : Nat} : ∀ c ∈ encB V N, c < 256 := by
  have hd : ∀ (es : List E2) (p : Int), ∀ c ∈ dl p es, c < 256 := by
    intro es
    induction es with
    | nil => intro p c hc; cases hc
    | cons e es ih =>
      intro p c hc
      rw [dl] at hc
      rcases List.mem_append.1 hc with h | h
      · exact put_bytes _ c h
      · exact ih _ c h
  intro c hc
  unfold encB headB body at hc
  simp only [List.mem_append, List.mem_singleton, List.mem_flatMap] at hc
  rcases hc with ((rfl | h) | h) | ⟨u, _, h⟩
  · omega
  · exact put_bytes _ c h
  · exact put_bytes _ c h
  · unfold encU at h
    rcases List.mem_append.1 h with h | h
    · exact put_bytes _ c h
    · exact hd _ _ c h
theorem encB_pos {V : List E2} {N : Nat} : 1 ≤ (encB V N).length := by unfold encB headB; simp
theorem body_ge {V : List E2} (k : Nat) : k ≤ (body V k).length := by
  induction k with
  | zero => omega
  | succ k ih =>
    have := put_pos (pre V ((k : Int) + 1) - pre V (k : Int))
    rw [body_succ, List.length_append, encU, List.length_append]
    omega
theorem encB_ge {V : List E2} {N : Nat} : N ≤ (encB V N).length := by
  have := body_ge (V := V) N
  unfold encB
  rw [List.length_append]
  omega

set_option maxRecDepth 100000 in
set_option maxHeartbeats 2000000 in
theorem FormatCuts_walk {w : World} (n : Int) (l : List E2) (a : Option Addr) (na ca : Nat) (ha : ERow w a l) (hla : l.length = na) (hl : na ≤ 9223372036854775807) (cut more : Int) (hcut : 0 ≤ cut ∧ cut < 65536) (hmore : 0 ≤ more ∧ more < 256) :
    Calls Try.prog 12 #[.agg #[.int .i64 n, .slice a na ca], .int .u16 cut, .int .u8 more] w (Told w true) := by
  have G0 := Lib.hid (GBox.new n ca ha hla)
  have h0 := below_new w (.cells #[.int .i64 n, .slice a na ca] 24)
  have H0 := Lib.hid h0
  have hz := h0.size
  clear h0 ha
  go_enter Try.func12, Try.ntmps12
  go_wp2_with fail
  generalize w.alloc (.cells #[.int .i64 n, .slice a na ca] 24) = W at *
  refine (awake4_any W).mono ?_
  rintro e w1 ⟨rfl, hb⟩
  have G1 := Lib.hid (G0.out.below hb)
  have H1 := Lib.hid (H0.out.trans (hb.mono hz))
  replace hz := H1.out.size
  obtain ⟨c1, c2, c3⟩ := G1.out.cells
  clear hb G0 H0
  go_wp2_with fail
  refine (rfew_any n 500 300 a na ca w1 hl).mono ?_
  rintro e w2 ⟨rfl, hb⟩
  have G2 := Lib.hid (G1.out.below hb)
  have H2 := Lib.hid (H1.out.trans (hb.mono hz))
  replace hz := H2.out.size
  clear c1 c2 c3
  obtain ⟨c1, c2, c3⟩ := G2.out.cells
  clear hb G1 H1
  cases hq : (decide (n ≤ 500) && decide ((na : Int) ≤ 300))
  · go_wp2_with fail
    refine (awake4_any w2).mono ?_
    rintro e w4 ⟨rfl, hb⟩
    go_wp2_with fail
    go_ret
    exact ⟨rfl, H2.out.trans (hb.mono hz)⟩
  simp only [Bool.and_eq_true, decide_eq_true_eq] at hq
  obtain ⟨q1, q2⟩ := hq
  have hx1 := encX_len (n := n) (l := l) (by omega) (by omega)
  go_wp2_with fail
  refine (encode_told2 n l a na ca w2 G2.out.row hla hl).mono ?_
  rintro e w3 ⟨a3, m3, d3, rfl, hr3, hl3, hb3, hroom⟩
  have H3 := Lib.hid (H2.out.trans (hb3.mono hz))
  cases hfa : formed n l
  · have e1 : erO n l = 1 := by unfold erO; rw [hfa]; rfl
    have x1 : encX n l = [] := by unfold encX; rw [hfa]; rfl
    rw [x1] at hl3
    rw [e1]
    simp only [List.length_nil] at hl3
    subst hl3
    clear hr3 hb3 hroom G2 H2 x1 hx1
    go_wp2_with fail
    go_ret
    exact ⟨rfl, H3.out⟩
  · have e1 : erO n l = 0 := by unfold erO; rw [hfa]; rfl
    rw [e1]
    obtain ⟨N, rfl⟩ : ∃ A : Nat, n = (A : Int) := ⟨n.toNat, formed_nat hfa⟩
    have x1 : encX (N : Int) l = encB (ordL l) N := by unfold encX; rw [if_pos hfa]; rfl
    rw [x1] at hx1 hr3 hl3
    have h256 := encB_bytes (V := ordL l) (N := N)
    have hpos := encB_pos (V := ordL l) (N := N)
    have hdec := dec_enc (fine_ord hfa)
    generalize encB (ordL l) N = bs at *
    have her : (dec bs).2.2.2 = 0 := by rw [hdec]
    obtain ⟨k, hk, hkl⟩ : ∃ k : Nat, cut % (m3 : Int) = (k : Int) ∧ k < m3 := by
      have h1 := Int.emod_nonneg cut (show (m3 : Int) ≠ 0 by omega)
      have h2 := Int.emod_lt_of_pos cut (show (0 : Int) < m3 by omega)
      exact ⟨(cut % (m3 : Int)).toNat, by omega, by omega⟩
    have hshort := dec_short her (k := k) (by omega)
    have C1 := decode_told a3 k d3 (bs.take k) w3 (by omega) (by
      have := hr3.take k
      unfold byts at this ⊢
      rw [List.map_take]
      exact this) (by rw [List.length_take]; omega) (fun x hx => h256 x (List.mem_of_mem_take hx))
    rw [hshort] at C1
    have hmo : ∀ x ∈ bs ++ [more.toNat], x < 256 := fun x hx => (List.mem_append.1 hx).elim (h256 x) (fun h => by simp at h; omega)
    have hlong := dec_long her more.toNat
    have C2 := Lib.hid (fun (b2 : Option Addr) (c2 : Nat) W' (hr' : Row W' b2 (byts (bs ++ [more.toNat]))) => decode_told b2 (m3 + 1) c2 (bs ++ [more.toNat]) W' (by omega) hr' (by simp; omega) hmo)
    rw [hlong] at C2
    have HC1 := Lib.hid C1
    have R3 := Lib.hid hr3
    have HL3 := Lib.hid hl3
    have hbl : bs.length ≤ m3 := Nat.le_of_eq hl3
    have hbl2 : m3 ≤ bs.length := Nat.le_of_eq hl3.symm
    rw [hl3] at C2
    have hz3 := H3.out.size
    have t1 : IntKind.i64.wrap cut = cut := by rw [IntKind.wrap_i64]; omega
    have HK := Lib.hid hk
    have hm0 : ¬ (m3 : Int) = 0 := by omega
    have hm1 : ((m3 : Int) == 0) = false := by simp; omega
    have hk0 : (0 : Int) ≤ (k : Int) := by omega
    have hmore2 : ((more.toNat : Nat) : Int) = more := by omega
    have HMO := Lib.hid hmore2
    clear hr3 hl3 hb3 G2 H2 x1 h256 hdec her hshort C1 hlong hmo c1 c2 c3 e1 hfa hmore2 hpos
    go_wp2_with fail
    rw [HK.out]
    go_wp2_with fail
    refine HC1.out.mono ?_
    rintro e w4 ⟨a4, m4, c4, rfl, hr4, hl4, hb4⟩
    have H4 := Lib.hid (H3.out.trans (hb4.mono hz3))
    have R4 := Lib.hid (R3.out.below hb4)
    have R5 := Lib.hid (R4.out.below (below_new w4 (.cells #[.int .i64 0, .slice a4 m4 c4] 24)))
    have H5 := Lib.hid (H4.out.trans ((below_new w4 (.cells #[.int .i64 0, .slice a4 m4 c4] 24)).mono H4.out.size))
    have hz5 := H5.out.size
    clear hb4 hr4 hl4 HC1 H3 R3
    go_wp2_with (at_builtin; go_must (refine wpList_append rfl (.tmp 48) (.tmp 49) _ rfl el_u8 w.heap.size (.slice none 0 0) 0 [] rfl (World.ownsRow_nil _ _ _ _) a3 m3 d3 (byts bs) rfl (by rw [byts_length]; omega) R5.out (byts_one _) (by unfold maxLen; omega) (by omega) hz5 ?_))
    intro v6 w6 hown6 _ _ hb6
    have HO6 := Lib.hid hown6
    have HB6 := Lib.hid hb6
    have hz6 : w.heap.size ≤ w6.heap.size := Nat.le_trans hz5 hb6.size
    clear hown6 hb6
    obtain ⟨a6, c6, rfl, hr6, h6a, h6b, h6c⟩ := own_slice HO6.out
    have hrow := Row.new w6 #[.int .u8 more] 5 (0, 0)
    have HRW : Hid (Row (w6.alloc (.cells #[.int .u8 more] 5)) (some ⟨w6.heap.size, 0, none⟩) (byts [more.toNat])) := Lib.hid (by
      unfold byts
      rw [List.map_cons, HMO.out]
      exact hrow)
    clear hrow hr6 h6c
    go_wp2_with (at_builtin; go_must (refine wpList_append rfl (.tmp 51) (.tmp 53) _ rfl el_u8 w.heap.size (.slice a6 m3 c6) m3 (byts bs) rfl (HO6.out.alloc _) _ 1 1 (byts [more.toNat]) rfl rfl HRW.out (byts_one _) (by unfold maxLen; omega) (by omega) (by simp; omega) ?_))
    rw [← byts_append]
    intro v7 w7 hown7 _ _ hb7
    obtain ⟨a7, c7, rfl, hr7, h7a, h7b, h7c⟩ := own_slice hown7
    have HC3 := Lib.hid (C2.out a7 c7 w7 hr7)
    have H7 := Lib.hid ((H5.out.trans HB6.out).trans (((below_new w6 (.cells #[.int .u8 more] 5)).mono hz6).trans hb7))
    have hz7 := H7.out.size
    clear hown7 hb7 hr7 h7c C2
    go_wp2_with fail
    refine HC3.out.mono ?_
    rintro e w8 ⟨a8, m8, c8, rfl, hr8, hl8, hb8⟩
    have H8 := Lib.hid (H7.out.trans (hb8.mono hz7))
    have H9 := Lib.hid (H8.out.trans ((below_new w8 (.cells #[.int .i64 0, .slice a8 m8 c8] 24)).mono H8.out.size))
    have y1 : ((k : Int) == (k : Int)) = true := by simp
    have y2 : ((bs.length : Int) == (m3 : Int)) = true := by rw [HL3.out]; simp
    have y3 : ((m3 : Int) == (m3 : Int)) = true := by simp
    clear hb8 hr8 hl8
    go_wp2_with fail
    go_ret
    exact ⟨rfl, H9.out⟩

theorem FormatCuts_law {w : World} (cs : Array Value) (g : Int × List (Int × Int)) (h : rdGraph w cs.toList g) (x : Int) (hx : (Lit.int .u16 x).wf = true) (y : Int) (hy : (Lit.int .u8 y).wf = true) :
    Calls Try.prog 12 #[.agg cs, .int .u16 x, .int .u8 y] w fun e w' => e = .returned (.bool true) ∧ Below w.heap.size w w' := by
  obtain ⟨a, m, c, rfl, h1, h2, h3, _⟩ := graph_open h
  exact FormatCuts_walk g.1 g.2 a m c h1 h2 h3 x y (u_bounds.2.1 hx) (u_bounds.2.2.1 hy)

/-- What stands behind the first half of FormatBack: whatever was there, the bytes are decoded and encoded again. -/
theorem back_facts {b : List Nat} (h256 : ∀ x ∈ b, x < 256) {n : Nat} (hl : b.length = n) (hn : n ≤ 3000) :
    ((dec b).2.2.2 = 3) ∨ ∃ (N : Nat) (V : List E2), dec b = ((N : Int), V, 0, 0) ∧ N ≤ 3000 ∧ V.length ≤ 1073741824 ∧ encX (N : Int) V = b ∧ erO (N : Int) V = 0 := by
  rcases dec_er b with h | h
  · right
    obtain ⟨N, V, hd, F, hf, ho, hb⟩ := dec_back h256 h.1
    refine ⟨N, V, hd, ?_, F.len, ?_, ?_⟩
    · have := encB_ge (V := V) (N := N)
      rw [hb] at this
      omega
    · unfold encX
      rw [if_pos hf, ho]
      exact hb
    · unfold erO
      rw [hf]
      rfl
  · exact .inl h.1

set_option maxRecDepth 100000 in
set_option maxHeartbeats 4000000 in
theorem FormatBack_walk {w : World} (n : Int) (l : List E2) (a : Option Addr) (na ca : Nat) (ha : ERow w a l) (hla : l.length = na) (hl : na ≤ 9223372036854775807)
    (b : List Nat) (a2 : Option Addr) (nb cb : Nat) (hrb : Row w a2 (byts b)) (hlb : b.length = nb) (h256 : ∀ x ∈ b, x < 256) (hnb : nb ≤ 9223372036854775807) :
    Calls Try.prog 11 #[.agg #[.int .i64 n, .slice a na ca], .slice a2 nb cb] w (Told w true) := by
  have G0 := Lib.hid (GBox.new n ca ha hla)
  have h0 := below_new w (.cells #[.int .i64 n, .slice a na ca] 24)
  have H0 := Lib.hid h0
  have hz := h0.size
  have HRB := Lib.hid hrb
  have HLB := Lib.hid hlb
  clear h0 ha hrb hlb
  go_enter Try.func11, Try.ntmps11
  go_wp2_with fail
  generalize w.alloc (.cells #[.int .i64 n, .slice a na ca] 24) = W at *
  refine (awake4_any W).mono ?_
  rintro e w1 ⟨rfl, hb⟩
  have G1 := Lib.hid (G0.out.below hb)
  have H1 := Lib.hid (H0.out.trans (hb.mono hz))
  replace hz := H1.out.size
  obtain ⟨c1, c2, c3⟩ := G1.out.cells
  clear hb G0 H0
  go_wp2_with fail
  refine (rfew_any n 500 300 a na ca w1 hl).mono ?_
  rintro e w2 ⟨rfl, hb⟩
  have G2 := Lib.hid (G1.out.below hb)
  have H2 := Lib.hid (H1.out.trans (hb.mono hz))
  replace hz := H2.out.size
  clear c1 c2 c3
  obtain ⟨c1, c2, c3⟩ := G2.out.cells
  clear hb G1 H1
  cases hq : (decide (n ≤ 500) && decide ((na : Int) ≤ 300))
  · go_wp2_with fail
    refine (awake4_any w2).mono ?_
    rintro e w4 ⟨rfl, hb⟩
    go_wp2_with fail
    go_ret
    exact ⟨rfl, H2.out.trans (hb.mono hz)⟩
  simp only [Bool.and_eq_true, decide_eq_true_eq] at hq
  obtain ⟨q1, q2⟩ := hq
  by_cases hbig : (3000 : Int) < nb
  · go_wp2_with fail
    refine (awake4_any w2).mono ?_
    rintro e w4 ⟨rfl, hb⟩
    go_wp2_with fail
    go_ret
    exact ⟨rfl, H2.out.trans (hb.mono hz)⟩
  have hx1 := encX_len (n := n) (l := l) (by omega) (by omega)
  go_wp2_with fail
  refine (rorder_told n l a na ca w2 G2.out.row hla (by omega)).mono ?_
  rintro e w3 ⟨a3, m3, d3, rfl, hr3, hl3, hb3⟩
  have hb3' := hb3.trans ((below_new w3 (.cells #[.int .i64 (ordN n l), .slice a3 m3 d3] 24)).mono hb3.size)
  have H3 := Lib.hid (H2.out.trans (hb3'.mono hz))
  have G3 := Lib.hid (G2.out.below hb3')
  have O3 := Lib.hid (GBox.new (ordN n l) d3 hr3 hl3)
  have hz3 := H3.out.size
  clear c1 c2 c3
  obtain ⟨c1, c2, c3⟩ := (G2.out.below hb3).cells
  clear hb3 hb3' hr3 G2 H2
  have HL3 := Lib.hid hl3
  clear hl3
  go_wp2_with fail
  generalize w3.alloc (.cells #[.int .i64 (ordN n l), .slice a3 m3 d3] 24) = w4 at *
  generalize w3.heap.size = gO at *
  refine (encode_told2 n l a na ca w4 G3.out.row hla hl).mono ?_
  rintro e w5 ⟨a5, m5, d5, rfl, hr5, hl5, hb5, -⟩
  have H5 := Lib.hid (H3.out.trans (hb5.mono hz3))
  have O5 := Lib.hid (O3.out.below hb5)
  have hz5 := H5.out.size
  have R5 := Lib.hid hr5
  have HL5 := Lib.hid hl5
  clear hb5 hr5 hl5 H3 O3 G3 c1 c2 c3
  have hfacts := back_facts h256 HLB.out (by omega)
  cases hfa : formed n l
  · have e1 : erO n l = 1 := by unfold erO; rw [hfa]; rfl
    rw [e1]
    clear O5 R5 HL5 hx1 e1 hfa HL3
    rcases hfacts with h3 | ⟨N2, V2, hd, hN2, hV2, hx2, he2⟩
    · have D := decode_told a2 nb cb b w5 (by omega) (HRB.out.below H5.out) HLB.out h256
      obtain ⟨⟨N2, V2, p2, er2⟩, hd⟩ : ∃ d, dec b = d := ⟨_, rfl⟩
      rw [hd] at D h3
      simp only at D h3
      subst h3
      have HD := Lib.hid D
      clear D hd
      go_wp2_with fail
      refine HD.out.mono ?_
      rintro e x6 ⟨a6, m6, c6, rfl, hr6, hl6, hb6⟩
      have H6 := Lib.hid (H5.out.trans (hb6.mono H5.out.size))
      have H7 := Lib.hid (H6.out.trans ((below_new x6 (.cells #[.int .i64 N2, .slice a6 m6 c6] 24)).mono H6.out.size))
      clear hr6 hl6 hb6 HD
      go_wp2_with fail
      go_ret
      exact ⟨rfl, H7.out⟩
    · have D := decode_told a2 nb cb b w5 (by omega) (HRB.out.below H5.out) HLB.out h256
      rw [hd] at D
      simp only at D
      have HD := Lib.hid D
      have HE2 := Lib.hid he2
      have HX2 := Lib.hid hx2
      clear D hd hx2 he2
      go_wp2_with fail
      refine HD.out.mono ?_
      rintro e x6 ⟨a6, m6, c6, rfl, hr6, hl6, hb6⟩
      have hb6' := hb6.trans ((below_new x6 (.cells #[.int .i64 (N2 : Int), .slice a6 m6 c6] 24)).mono hb6.size)
      have H7 := Lib.hid (H5.out.trans (hb6'.mono H5.out.size))
      have G7 := Lib.hid (GBox.new (N2 : Int) c6 hr6 hl6)
      obtain ⟨k1, k2, k3⟩ := G7.out.cells
      have HL6 := Lib.hid hl6
      have hm6 : m6 ≤ 1073741824 := by omega
      have y1 : ¬ (3000 : Int) < (N2 : Int) := by omega
      clear hr6 hl6 hb6 hb6' HD
      go_wp2_with fail
      generalize x6.alloc (.cells #[.int .i64 (N2 : Int), .slice a6 m6 c6] 24) = x7 at *
      generalize x6.heap.size = g6 at *
      refine (encode_told (N2 : Int) V2 a6 m6 c6 x7 G7.out.row HL6.out (by omega)).mono ?_
      rw [HE2.out, HX2.out]
      rintro e x8 ⟨a8, m8, c8, rfl, hr8, hl8, hb8⟩
      have H8 := Lib.hid (H7.out.trans (hb8.mono H7.out.size))
      have HSM := Lib.hid (bytes_any b b a2 a8 nb m8 cb c8 x8 (HRB.out.below H8.out) hr8 HLB.out hl8 (by omega) (by have := HLB.out; omega))
      clear hb8 hr8 hl8 k1 k2 k3 G7
      go_wp2_with fail
      refine HSM.out.mono ?_
      rw [decide_eq_true True.intro]
      rintro e x9 ⟨rfl, hb9⟩
      go_wp2_with fail
      go_ret
      exact ⟨rfl, H8.out.trans (hb9.mono H8.out.size)⟩
  · have e1 : erO n l = 0 := by unfold erO; rw [hfa]; rfl
    have e2 : ordN n l = n := by unfold ordN; rw [hfa]; rfl
    have e3 : ordX n l = ordL l := by unfold ordX; rw [hfa]; rfl
    obtain ⟨N, rfl⟩ : ∃ A : Nat, n = (A : Int) := ⟨n.toNat, formed_nat hfa⟩
    have x1 : encX (N : Int) l = encB (ordL l) N := by unfold encX; rw [if_pos hfa]; rfl
    have D5 := decode_told a5 m5 d5 (encB (ordL l) N) w5 (by have := HL5.out; omega) (by rw [← x1]; exact R5.out) (by rw [← x1]; exact HL5.out) encB_bytes
    rw [dec_enc (fine_ord hfa)] at D5
    simp only at D5
    have HD5 := Lib.hid D5
    have holen := ordL_length l
    rw [e2, e3] at O5
    rw [e3] at HL3
    generalize ordL l = V at *
    rw [e1, e2]
    clear D5 hx1 x1 e1 e2 e3 R5 HL5 hfa
    go_wp2_with fail
    refine HD5.out.mono ?_
    rintro e w6 ⟨a6, m6, c6, rfl, hr6, hl6, hb6⟩
    have hb6' := hb6.trans ((below_new w6 (.cells #[.int .i64 (N : Int), .slice a6 m6 c6] 24)).mono hb6.size)
    have H6 := Lib.hid (H5.out.trans (hb6'.mono hz5))
    have O6 := Lib.hid (O5.out.below hb6')
    have G6 := Lib.hid (GBox.new (N : Int) c6 hr6 hl6)
    have HL6 := Lib.hid hl6
    have hm3 : m3 ≤ 300 := by have := HL3.out; omega
    have hm6 : m6 ≤ 300 := by omega
    obtain ⟨k1, k2, k3⟩ := O6.out.cells
    obtain ⟨k4, k5, k6⟩ := G6.out.cells
    clear hb6 hb6' hr6 hl6 HD5 O5 H5 holen
    go_wp2_with fail
    generalize w6.alloc (.cells #[.int .i64 (N : Int), .slice a6 m6 c6] 24) = w7 at *
    generalize w6.heap.size = g6 at *
    refine (rsame_any (N : Int) (N : Int) V V a6 a3 m6 m3 c6 d3 w7 G6.out.row O6.out.row HL6.out HL3.out (by omega) (by omega)).mono ?_
    rw [same_self']
    rintro e w8 ⟨rfl, hb8⟩
    have H8 := Lib.hid (H6.out.trans (hb8.mono H6.out.size))
    clear hb8 O6 G6 H6 k1 k2 k3 k4 k5 k6 HL3 HL6
    rcases hfacts with h3 | ⟨N2, V2, hd, hN2, hV2, hx2, he2⟩
    · have D := decode_told a2 nb cb b w8 (by omega) (HRB.out.below H8.out) HLB.out h256
      obtain ⟨⟨N2, V2, p2, er2⟩, hd⟩ : ∃ d, dec b = d := ⟨_, rfl⟩
      rw [hd] at D h3
      simp only at D h3
      subst h3
      have HD := Lib.hid D
      clear D hd
      go_wp2_with fail
      refine HD.out.mono ?_
      rintro e x6 ⟨a6, m6, c6, rfl, hr6, hl6, hb6⟩
      have H6 := Lib.hid (H8.out.trans (hb6.mono H8.out.size))
      have H7 := Lib.hid (H6.out.trans ((below_new x6 (.cells #[.int .i64 N2, .slice a6 m6 c6] 24)).mono H6.out.size))
      clear hr6 hl6 hb6 HD
      go_wp2_with fail
      go_ret
      exact ⟨rfl, H7.out⟩
    · have D := decode_told a2 nb cb b w8 (by omega) (HRB.out.below H8.out) HLB.out h256
      rw [hd] at D
      simp only at D
      have HD := Lib.hid D
      have HE2 := Lib.hid he2
      have HX2 := Lib.hid hx2
      clear D hd hx2 he2
      go_wp2_with fail
      refine HD.out.mono ?_
      rintro e x6 ⟨a6, m6, c6, rfl, hr6, hl6, hb6⟩
      have hb6' := hb6.trans ((below_new x6 (.cells #[.int .i64 (N2 : Int), .slice a6 m6 c6] 24)).mono hb6.size)
      have H7 := Lib.hid (H8.out.trans (hb6'.mono H8.out.size))
      have G7 := Lib.hid (GBox.new (N2 : Int) c6 hr6 hl6)
      obtain ⟨k1, k2, k3⟩ := G7.out.cells
      have HL6 := Lib.hid hl6
      have hm6 : m6 ≤ 1073741824 := by omega
      have y1 : ¬ (3000 : Int) < (N2 : Int) := by omega
      clear hr6 hl6 hb6 hb6' HD
      go_wp2_with fail
      generalize x6.alloc (.cells #[.int .i64 (N2 : Int), .slice a6 m6 c6] 24) = x7 at *
      generalize x6.heap.size = g6 at *
      refine (encode_told (N2 : Int) V2 a6 m6 c6 x7 G7.out.row HL6.out (by omega)).mono ?_
      rw [HE2.out, HX2.out]
      rintro e x8 ⟨a8, m8, c8, rfl, hr8, hl8, hb8⟩
      have H8 := Lib.hid (H7.out.trans (hb8.mono H7.out.size))
      have HSM := Lib.hid (bytes_any b b a2 a8 nb m8 cb c8 x8 (HRB.out.below H8.out) hr8 HLB.out hl8 (by omega) (by have := HLB.out; omega))
      clear hb8 hr8 hl8 k1 k2 k3 G7
      go_wp2_with fail
      refine HSM.out.mono ?_
      rw [decide_eq_true True.intro]
      rintro e x9 ⟨rfl, hb9⟩
      go_wp2_with fail
      go_ret
      exact ⟨rfl, H8.out.trans (hb9.mono H8.out.size)⟩

theorem FormatBack_law {w : World} (cs : Array Value) (g : Int × List (Int × Int)) (h : rdGraph w cs.toList g) (a : Option Addr) (n c : Nat) (l : List Int) (h' : rdSlice 1 (rdInt .u8) w [.slice a n c] l) :
    Calls Try.prog 11 #[.agg cs, .slice a n c] w fun e w' => e = .returned (.bool true) ∧ Below w.heap.size w w' := by
  obtain ⟨a1, m1, c1, rfl, h1, h2, h3, _⟩ := graph_open h
  obtain ⟨b, g1, g2, g3, g4, _⟩ := bytes4_of h'
  exact FormatBack_walk g.1 g.2 a1 m1 c1 h1 h2 h3 b a n c g3 g1 g2 g4

end Go.Proofs.Ytlepmefknglkeaa.Gr
