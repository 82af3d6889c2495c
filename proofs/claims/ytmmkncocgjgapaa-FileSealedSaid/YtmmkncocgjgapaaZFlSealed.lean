/- The law FileSealed. -/
import Derived.Test.YtmmkncocgjgapaaK11
set_option linter.unusedVariables false
namespace Go.Proofs.Ytmmkncocgjgapaa.Fl
open Go.RowKit

/-- A block is due, on a device that holds at that place what another one does. -/
theorem Rd.Has.load_as {X : Rd} {G : Dev.Dv} {W : Wk} {first wN : Nat} {l : List Tup} (h : X.Has G first wN l) (hs : W.D.size = G.size) (h8 : 8 ≤ G.size) (h1 : 1 ≤ wN) (h5 : wN ≤ 5) (hf : FitsW wN l) (hlt : X.told < l.length) (hn : X.at_ = X.n) (hfb : first + l.length < 9223372036854775808)
    (hg : (G.rd ((first + X.block : Nat) : Int)).1 = 0) (hr : (W.D.rd ((first + X.block : Nat) : Int)).1 = 0) (hw : W.D.words ((first + X.block : Nat) : Int) = G.words ((first + X.block : Nat) : Int)) :
    ∃ X1, Loads W X X1 (W.D.rd ((first + X.block : Nat) : Int)).2 ∧ X1.Has G first wN l ∧ X1.at_ ≠ X1.n ∧ X1.told = X.told ∧ X1.block = X.block + 1 := by
  obtain ⟨X1, q1, q2, q3, q4, q5⟩ := Rd.Has.load (W := { W with D := G }) h h8 h1 h5 hf hlt hn hfb hg
  have hst := q2.stay (D' := G) (Dev.rd_kin G _).size.symm (fun j _ => by rw [Dev.rd_now])
  refine ⟨X1, ?_, hst, q3, q4, q5⟩
  rcases q1 with ⟨hn', _, _⟩ | ⟨hn', i, iN, w', p, hi, hr', hiN, hw', hp1, hp2, hwd, hX1, hD⟩
  · exact absurd hn hn'
  · have hii : i = ((first + X.block : Nat) : Int) := by
      rw [← hi, h.fst, ← Int.natCast_add, IntKind.wrap_i64]
      have hb := h.ok.block
      have hc := h.cnt
      omega
    subst hii
    refine .inr ⟨hn', _, iN, w', p, hi, hr, hiN, hw', by rw [hs]; exact hp1, by rw [hs]; exact hp2, by rw [hw, hs]; exact hwd, hX1, rfl⟩

/-- The block that the law writes. -/
def badW (x : BitVec 64) : List (BitVec 64) := [x, x, 0, 0, 0, 0, 0, 0, x % 4294967296#64]
theorem badW_not (x : BitVec 64) (p : List (BitVec 64)) (at_ : Nat) (hp : p.length + 2 ≤ 9) : Crc.words (badW x) ≠ sealed p 9 2 at_ := by
  intro h
  unfold sealed at h
  have h7 := congrArg (fun l => l[7]?) h
  rw [show (Crc.words (badW x))[7]? = some (.int .u64 0) from rfl] at h7
  have hl := Crc.bodyW_length (tag := BitVec.ofNat 64 2) hp
  unfold Crc.sealW Crc.words at h7
  rw [List.map_append, List.getElem?_append_left (by rw [List.length_map]; omega), List.getElem?_map] at h7
  unfold Crc.bodyW at h7
  rw [List.getElem?_append_right (by simp; omega)] at h7
  rw [show 7 - (p ++ List.replicate (9 - 2 - p.length) 0#64).length = 0 from by simp; omega] at h7
  simp [Crc.I64] at h7

/-- A device that holds G's blocks but for one. -/
structure Alike (G D : Dev.Dv) (k : Nat) : Prop where
  sure : Sure D
  fault : D.fault = -1
  size : D.size = 9
  blocks : D.blocks = 500
  now : ∀ i : Int, i ≠ (k : Int) → D.now i = G.now i
theorem se_step {V : Wk} {G D : Dev.Dv} {X : Rd} {l : List Tup} {k i : Nat} (hH : X.Has G 0 2 l) (hf : FitsW 2 l) (hG : Alike G G k) (hD : Alike G D k) (hti : X.told = i) (hbk : X.block ≤ k) (hik : i < k * 3) (hkl : k * 3 < l.length) (hl : l.length ≤ 200) :
    ∃ X1 D1, Loads { V with D := D } X X1 D1 ∧ X1.Has G 0 2 l ∧ X1.at_ ≠ X1.n ∧ X1.told = i ∧ X1.block ≤ k ∧ Alike G D1 k ∧ D1.now = D.now ∧ D1.acts ≤ D.acts + 1 := by
  by_cases hn : X.at_ = X.n
  · have hwid := hH.wid
    have hcnt := hH.cnt
    obtain ⟨d1, d2⟩ := hH.ok.due (by omega) (by omega) (by rw [hG.size]; omega) hn (by omega)
    rw [show X.width.toNat = 2 from by rw [hwid]; rfl, hG.size, show hN 9 2 = 3 from by decide] at d1
    have hb : X.block < k := by omega
    have hg0 : (G.rd ((0 + X.block : Nat) : Int)).1 = 0 := by
      rcases sure_rd (i := ((0 + X.block : Nat) : Int)) hG.sure (by omega) (by rw [hG.blocks]; omega) with h | ⟨h, _⟩
      · exact h
      · rw [hG.fault] at h; cases h
    have hd0 : (D.rd ((0 + X.block : Nat) : Int)).1 = 0 := by
      rcases sure_rd (i := ((0 + X.block : Nat) : Int)) hD.sure (by omega) (by rw [hD.blocks]; omega) with h | ⟨h, _⟩
      · exact h
      · rw [hD.fault] at h; cases h
    obtain ⟨X1, q1, q2, q3, q4, q5⟩ := Rd.Has.load_as (W := { V with D := D }) hH (by show D.size = _; rw [hD.size, hG.size]) (by rw [hG.size]; omega) (by omega) (by omega) hf (by omega) hn (by omega) hg0 hd0 (by
      show D.words _ = _
      unfold Dev.Dv.words
      rw [hD.now _ (by omega), hD.size, hG.size])
    have hgo := goes_rd hd0
    exact ⟨X1, _, q1, q2, q3, q4.trans hti, by omega, ⟨hgo.sure hD.sure, hgo.fault hD.fault, hgo.size.trans hD.size, hgo.blocks.trans hD.blocks, fun j hj => by rw [Dev.rd_now]; exact hD.now j hj⟩, Dev.rd_now _ _, Nat.le_of_eq hgo.acts⟩
  · exact ⟨X, D, .inl ⟨hn, rfl, rfl⟩, hH, hn, hti, hbk, hD, rfl, Nat.le_succ _⟩
def SeLoop (w0 : World) (O : Nat → Prop) (K : Key) (V : Wk) (G : Dev.Dv) (x b d k n3 a0 : Nat) (nw : Int → Option (List Value)) (l : List Tup) (lt : Option Addr) (iv : Value) (wr : World) : Prop :=
  ∃ (i : Nat) (X : Rd) (D : Dev.Dv), iv = .int .i64 (i : Int) ∧ i ≤ n3 ∧ WkI wr O K { V with D := D } ∧ RdAt wr O K { V with D := D } x X ∧ X.Has G 0 2 l ∧ X.told = i ∧ X.block ≤ k ∧ X.closed = false ∧ X.buf = b ∧ X.arr = d ∧ Alike G D k ∧ D.now = nw ∧ D.acts ≤ a0 + i ∧ Tps K wr lt l ∧ Below w0.heap.size w0 wr
theorem se_end {G : Dev.Dv} {X : Rd} {l : List Tup} {k : Nat} (hH : X.Has G 0 2 l) (hG : G.size = 9) (hti : X.told = k * 3) (hbk : X.block ≤ k) (hkl : k * 3 < l.length) : X.at_ = X.n ∧ X.block = k := by
  obtain ⟨left, w', hw', hl, ht⟩ := hH.ok.left
  have hwid := hH.wid
  obtain rfl : w' = 2 := by omega
  rw [hG, show hN 9 2 = 3 from by decide] at ht
  have hcnt := hH.cnt
  have h1 : left = 0 := by omega
  subst h1
  exact ⟨by omega, by omega⟩

set_option maxRecDepth 100000 in
set_option maxHeartbeats 8000000 in
theorem FileSealed_walk {w : World} (x : BitVec 64) (y : Nat) (hy : y < 256) (a : Option Addr) (c : Nat) (l : List Tup) (hT : ∀ K : Key, w.heap.size ≤ K.base → Tps K w a l) (ht5 : ∀ t ∈ l, t.length = 5) (hll : l.length ≤ maxLen) :
    Calls Try.prog 3 #[.slice a l.length c, .int .u8 (y : Int), .int .u64 (Crc.I64 x)] w (fun e w' => e = .returned (.bool true) ∧ Below w.heap.size w w') := by
  have HT5 := Lib.hid ht5
  have HTP := Lib.hid hT
  have HW := Lib.hid (work_ok 9 500 1000 w (by omega) (by omega) (by omega) (by omega) (by omega))
  rw [show ((500 : Nat) : Int) = 500 from rfl, show ((9 : Nat) : Int) = 9 from rfl] at HW
  clear ht5 hT
  go_enter Try.func3, Try.ntmps3
  go_wp2_with fail
  refine HW.out.mono ?_
  rintro e w2 ⟨K, rfl, hI2, hK, hb2⟩
  have HI2 := Lib.hid hI2
  have HK := Lib.hid hK
  have HB2 := Lib.hid hb2
  clear hI2 hK hb2 HW
  go_wp2_with fail
  refine (awake10_any w2).mono ?_
  rintro e w3 ⟨rfl, hb3⟩
  have HI3 := Lib.hid (HI2.out.below hb3)
  have HB3 := Lib.hid (HB2.out.trans (hb3.mono HB2.out.size))
  clear hb3 HI2 HB2
  by_cases h0 : l.length = 0
  · have h0b : ((l.length : Int) == 0) = true := by simpa using h0
    clear h0
    go_wp2_with fail
    refine (awake10_any w3).mono ?_
    rintro e w4 ⟨rfl, hb4⟩
    have HB4 := Lib.hid (HB3.out.trans (hb4.mono HB3.out.size))
    clear hb4
    go_wp2_with fail
    go_ret
    exact ⟨rfl, HB4.out⟩
  have h0b : ((l.length : Int) == 0) = false := by rw [beq_eq_false_iff_ne]; omega
  by_cases hbig : (200 : Int) < (l.length : Int)
  · clear h0
    go_wp2_with fail
    refine (awake10_any w3).mono ?_
    rintro e w4 ⟨rfl, hb4⟩
    have HB4 := Lib.hid (HB3.out.trans (hb4.mono HB3.out.size))
    clear hb4
    go_wp2_with fail
    go_ret
    exact ⟨rfl, HB4.out⟩
  have hnn : (l.length : Int) ≤ 200 := by omega
  have HTL := Lib.hid ((HTP.out K (by have := HK.out; omega)).below HB3.out)
  have HAL := Lib.hid (refall_any 2 l a c w3 (by omega) HTL.out HT5.out (by omega))
  rw [show ((2 : Nat) : Int) = 2 from rfl] at HAL
  clear hbig HTP
  cases hal : allB 2 l with
  | false =>
    rw [hal] at HAL
    clear h0 hal
    go_wp2_with fail
    refine HAL.out.mono ?_
    rintro e w4 ⟨rfl, hb4⟩
    have HB4 := Lib.hid (HB3.out.trans (hb4.mono HB3.out.size))
    clear hb4
    go_wp2_with fail
    refine (awake10_any w4).mono ?_
    rintro e w5 ⟨rfl, hb5⟩
    have HB5 := Lib.hid (HB4.out.trans (hb5.mono HB4.out.size))
    clear hb5
    go_wp2_with fail
    go_ret
    exact ⟨rfl, HB5.out⟩
  | true =>
  have hfit := (allB_iff HT5.out).1 hal
  rw [hal] at HAL
  have HFT := Lib.hid hfit
  clear hal hfit
  go_wp2_with fail
  refine HAL.out.mono ?_
  rintro e w4 ⟨rfl, hb4⟩
  have hI4 := HI3.out.below hb4
  have hB4 := HB3.out.trans (hb4.mono HB3.out.size)
  have hTL4 := HTL.out.below hb4
  have HL := Lib.hid (lay_c 2 l a c hI4 (sure_fresh 9 500) (Nat.le_refl _) (by omega) (by omega) (by omega) (by show 9 ≤ 1000 - 0; omega) hTL4 HT5.out (by show 0 + l.length + 1 < _; omega) (fun g hg => by
    unfold O0
    have := hB4.size
    rw [HK.out]
    omega))
  rw [show ((2 : Nat) : Int) = 2 from rfl] at HL
  have HI4 := Lib.hid hI4
  have HB4 := Lib.hid hB4
  have HTL4 := Lib.hid hTL4
  clear hI4 hB4 hTL4 hb4 HI3 HB3 HTL HAL
  go_wp2_with fail
  refine HL.out.mono ?_
  rintro e w5 ⟨W', O', ho, hI5, ht5, hres⟩
  have hb5 := Turn.belowB HI4.out HK.out (fun _ h => h.elim) HB4.out ht5
  have hTL5 := HTL4.out.turn HI4.out ht5 (fun g _ h => h)
  have hp : 1 ≤ hN 9 2 := by decide
  have h3 : hN 9 2 = 3 := by decide
  have hle := nB_le (size := 9) (wN := 2) (count := l.length) hp
  obtain ⟨c1, c2⟩ := nB_cap (size := 9) (wN := 2) (count := l.length) hp
  rw [h3] at c1 c2
  have hroom : ∃ p, Sp.Room (wk0 9 500 1000).L p (nB (wk0 9 500 1000).D.size 2 l.length) := ⟨0, room_whole (B := 500) (n := nB 9 2 l.length) (by omega)⟩
  rcases hres with ⟨first, rfl, hok⟩ | ⟨er, rfl, hno⟩
  rotate_left
  · exact (hno.not HFT.out rfl hroom).elim
  have hsp := hok.took.spec (Sp.whole_inv 0 500)
  have hn500 : nB 9 2 l.length ≤ 500 := by omega
  obtain rfl : first = 0 := laid_first hsp hn500
  have hlies : Lies W'.D 2 0 (nB 9 2 l.length) l := hok.lies
  have hgoes : Goes (Dev.fresh 9 500) W'.D (nB 9 2 l.length) := hok.goes
  have hsz : W'.D.size = 9 := hgoes.size
  have hn1 : 1 ≤ nB 9 2 l.length := by
    rcases Nat.eq_zero_or_pos (nB 9 2 l.length) with h | h
    · rw [h] at c1; omega
    · exact h
  rw [show fcells 0 (nB (wk0 9 500 1000).D.size 2 l.length) 2 l.length = #[.int .i64 0, .int .i64 (nB 9 2 l.length : Int), .int .i64 2, .int .i64 (l.length : Int)] from rfl]
  have husd : W'.A.used = 0 := by rw [hok.arn]; rfl
  have hroomA : W'.A.room = 1000 := by rw [hok.arn]; rfl
  have hbk := nB_eq (size := 9) (wN := 2) (count := l.length) (by omega) (by omega) (by omega)
  generalize hnb : nB 9 2 l.length = nb at *
  have HNB := Lib.hid hnb
  have HBK := Lib.hid hbk
  clear hnb hbk
  obtain ⟨k, hk, hkn⟩ : ∃ k : Nat, (y : Int).tmod (nb : Int) = (k : Int) ∧ k < nb := ⟨y % nb, by rw [Int.tmod_eq_emod_of_nonneg (by omega)]; exact (Int.natCast_emod _ _).symm, Nat.mod_lt _ (by omega)⟩
  have yy : IntKind.i64.wrap (y : Int) = (y : Int) := by rw [IntKind.wrap_i64]; omega
  have yk : IntKind.i64.wrap (k : Int) = (k : Int) := by rw [IntKind.wrap_i64]; omega
  have hb0 : ((nb : Int) == 0) = false := by rw [beq_eq_false_iff_ne]; omega
  have hb1 : ((nb : Int) == -1) = false := by rw [beq_eq_false_iff_ne]; omega
  have hbn : Below w5.heap.size w5 (w5.alloc (.cells #[.int .i64 0, .int .i64 (nb : Int), .int .i64 2, .int .i64 (l.length : Int)] 32)) := (Below.refl _ _).alloc (Nat.le_refl _) _
  have HG6 := Lib.hid (Blk.new w5 32 #[.int .i64 0, .int .i64 (nb : Int), .int .i64 2, .int .i64 (l.length : Int)])
  have HI6 := Lib.hid (hI5.below hbn)
  have HB6 := Lib.hid (hb5.trans (hbn.mono hb5.size))
  have HTL6 := Lib.hid (hTL5.below hbn)
  have HO6 : Hid (∀ g, (w5.alloc (.cells #[.int .i64 0, .int .i64 (nb : Int), .int .i64 2, .int .i64 (l.length : Int)] 32)).heap.size ≤ g → O' g) := Lib.hid (fun g hg => ho.1 g (by have := hbn.size; omega))
  have HLI := Lib.hid hlies
  have HGO := Lib.hid hgoes
  have HSZ := Lib.hid hsz
  have HUS := Lib.hid husd
  have HRM := Lib.hid hroomA
  have HC1 := Lib.hid c1
  have HC2 := Lib.hid c2
  clear hbn hI5 hb5 hTL5 ht5 ho hroom hok hsp hlies hgoes hsz husd hroomA c1 c2 HL HI4 HB4 HTL4 hp h3
  go_wp2_with fail
  generalize hfb : w5.heap.size = fb at *
  generalize w5.alloc (.cells #[.int .i64 0, .int .i64 (nb : Int), .int .i64 2, .int .i64 (l.length : Int)] 32) = w6 at *
  obtain ⟨u, hu⟩ : ∃ u, u = Crc.I64 x := ⟨_, rfl⟩
  obtain ⟨v, hv⟩ : ∃ v, v = Crc.I64 (x % 4294967296#64) := ⟨_, rfl⟩
  have hrm : u.tmod 4294967296 = v := by
    rw [hu, hv]
    unfold Crc.I64
    rw [Int.tmod_eq_emod_of_nonneg (by omega)]
    simp
  have hwords : (Crc.words (badW x)).toArray = #[.int .u64 u, .int .u64 u, .int .u64 0, .int .u64 0, .int .u64 0, .int .u64 0, .int .u64 0, .int .u64 0, .int .u64 v] := by rw [hu, hv]; rfl
  rw [← hu]
  have hsure : Sure W'.D := HGO.out.sure (sure_fresh 9 500)
  have hflt : W'.D.fault = -1 := HGO.out.fault rfl
  have hblk : W'.D.blocks = 500 := HGO.out.blocks
  have hact : W'.D.acts ≤ 200 := by have := HGO.out.acts; have h0 : (Dev.fresh 9 500).acts = 0 := rfl; omega
  have hwr0 : (W'.D.wr (k : Int) (Crc.words (badW x))).1 = 0 := by
    rcases sure_wr (i := (k : Int)) (ws := Crc.words (badW x)) hsure (by omega) (by omega) (by rw [HSZ.out]; rfl) with h | ⟨h, _⟩
    · exact h
    · omega
  have hE := goes_wr hwr0
  have hEn := Dev.wr_now W'.D (k : Int) (Crc.words (badW x))
  rw [if_pos hwr0] at hEn
  have hIa := HI6.out.drew.below (((Below.refl w6.drew.heap.size w6.drew).alloc (Nat.le_refl _) (.cells #[.int .u64 u, .int .u64 u, .int .u64 0, .int .u64 0, .int .u64 0, .int .u64 0, .int .u64 0, .int .u64 0, .int .u64 v] 23)))
  have hba := Blk.new w6.drew 23 #[.int .u64 u, .int .u64 u, .int .u64 0, .int .u64 0, .int .u64 0, .int .u64 0, .int .u64 0, .int .u64 0, .int .u64 v]
  have hla : Below w6.heap.size w6 (w6.drew.alloc (.cells #[.int .u64 u, .int .u64 u, .int .u64 0, .int .u64 0, .int .u64 0, .int .u64 0, .int .u64 0, .int .u64 0, .int .u64 v] 23)) := ((Below.refl w6.heap.size w6).drew).alloc (Nat.le_refl _) _
  have WR := Lib.hid ((write_w (i := (k : Int)) (l := some ⟨w6.drew.heap.size, 0, none⟩) (n := 9) (c := 9) (ws := Crc.words (badW x)) hIa rfl (by show W'.D.acts + 1 < _; omega) (by rw [← hwords] at hba; rw [← hwords]; exact Row.of_blk hba) (Crc.words_one _) (fun g hg => HO6.out g (by have := hla.size; omega)) (fun y hy e => by
      injection hy with hy
      subst hy
      obtain ⟨pv, hd⟩ := hIa.dev
      exact hba.ne_ hd.box (by decide) e) (by omega)).mono (fun e w' he => (⟨by rw [he.1, hwr0], he.2.1, (Turn.below hla).trans he.2.2⟩ : e = Ending.returned (.int .i64 0) ∧ WkI w' O' K { W' with D := (W'.D.wr (k : Int) (Crc.words (badW x))).2 } ∧ Turn K (fun _ => False) w6 w')))
  obtain ⟨E, hED⟩ : ∃ E, E = (W'.D.wr (k : Int) (Crc.words (badW x))).2 := ⟨_, rfl⟩
  rw [← hED] at WR hE hEn
  have g0 : w6.cell? ⟨fb, 0, none⟩ = some (.int .i64 0) := HG6.out.cell 0
  have HEE := Lib.hid hE
  have HEN := Lib.hid hEn
  have HSU := Lib.hid hsure
  have HFL := Lib.hid hflt
  have HBL := Lib.hid hblk
  have HAC := Lib.hid hact
  clear hED hE hEn hsure hflt hblk hact hwr0 hwords hu hv
  have hI6d := HI6.out.drew
  have g0d : w6.drew.cell? ⟨fb, 0, none⟩ = some (.int .i64 0) := g0
  have g0a : (w6.drew.alloc (.cells #[.int .u64 u, .int .u64 u, .int .u64 0, .int .u64 0, .int .u64 0, .int .u64 0, .int .u64 0, .int .u64 0, .int .u64 v] 23)).cell? ⟨fb, 0, none⟩ = some (.int .i64 0) := (HG6.out.below hla HG6.out.lt).cell 0
  have CELLT := Lib.hid (fun W2 (h : Turn K (fun _ => False) w6 W2) => (HI6.out.blk h HG6.out (by decide) (by decide) (by decide) (by decide) (by decide) (fun h => h)).cell 0)
  clear hba hla
  go_region_held3 (fun w' => w'.cell? ⟨fb, 0, none⟩ = some (.int .i64 0))
    (first | assumption | exact CELLT.out _ (by assumption))
    ((first
      | (go_at_call 13; refine (device_any (by assumption)).mono ?_; rintro e wdv ⟨rfl, rfl⟩)
      | (go_at_call 14; refine WR.out.mono ?_; rintro e w7 ⟨rfl, hI7, htw7⟩)))
  all_goals
    have hb7 := Turn.belowB HI6.out HK.out (fun _ h => h.elim) HB6.out htw7
    have hG7 := HI6.out.blk htw7 HG6.out (by decide) (by decide) (by decide) (by decide) (by decide) (fun h => h)
    have hTL7 := HTL6.out.turn HI6.out htw7 (fun g _ h => h)
    have f0 : w7.cell? ⟨fb, 0, none⟩ = some (.int .i64 0) := hG7.cell 0
    have f1 : w7.cell? ⟨fb, 1, none⟩ = some (.int .i64 (nb : Int)) := hG7.cell 1
    have f2 : w7.cell? ⟨fb, 2, none⟩ = some (.int .i64 2) := hG7.cell 2
    have f3 : w7.cell? ⟨fb, 3, none⟩ = some (.int .i64 (l.length : Int)) := hG7.cell 3
    have hEs : E.size = 9 := HEE.out.size.trans HSZ.out
    have HES := Lib.hid hEs
    have HOP := Lib.hid (open_ok 0 (nb : Int) 2 (l.length : Int) hI7 ⟨by omega, by omega, by omega, by omega, by show (nb : Int) = blocksOf E.size 2 l.length; rw [hEs]; exact HBK.out.symm⟩ (by show E.size ≤ W'.A.room - W'.A.used; rw [hEs, HUS.out, HRM.out]; omega))
    have HB7 := Lib.hid hb7
    have HI7 := Lib.hid hI7
    have HTL7 := Lib.hid hTL7
    clear hb7 hG7 hTL7 hI7 htw7 hEs hI6d g0d g0a g0 hIa HG6 HI6 HB6 HTL6 WR CELLT
    go_wp2_with fail
    refine HOP.out.mono ?_
    rintro e w8 ⟨rx, b, d, rfl, hI8, hX8, q1, q2, q3, ht8⟩
    have hb8 := Turn.belowB HI7.out HK.out (fun _ h => h.elim) HB7.out ht8
    have hTL8 := HTL7.out.turn HI7.out ht8 (fun g _ h => h)
    have hH0 : Rd.Has ⟨0, (nb : Int), 2, (l.length : Int), b, d, 0, 0, 0, 0, false, zeros E.size⟩ W'.D 0 2 l := by
      rw [HES.out, ← HSZ.out]
      exact Rd.Has.new (first := 0) (wN := 2) b d (nb : Int) (by rw [HSZ.out]; omega) (by omega) (by rw [HSZ.out, HNB.out]; exact HLI.out)
    obtain ⟨V, hV⟩ : ∃ V : Wk, V = { W' with D := E, A := W'.A.grant E.size b } := ⟨_, rfl⟩
    obtain ⟨X0, hX0⟩ : ∃ X0 : Rd, X0 = ⟨0, (nb : Int), 2, (l.length : Int), b, d, 0, 0, 0, 0, false, zeros E.size⟩ := ⟨_, rfl⟩
    have hI8' : WkI w8 (but O' d) K V := by rw [hV]; exact hI8
    have hX8' : RdAt w8 (but O' d) K V rx X0 := by rw [hX0, hV]; exact hX8
    rw [← hX0] at hH0
    have hVE : V.D = E := by rw [hV]
    have hXb : X0.buf = b ∧ X0.arr = d ∧ X0.closed = false ∧ X0.told = 0 ∧ X0.block = 0 := by rw [hX0]; exact ⟨rfl, rfl, rfl, rfl, rfl⟩
    have HI8 := Lib.hid hI8'
    have HX8 := Lib.hid hX8'
    have HH0 := Lib.hid hH0
    have HVE := Lib.hid hVE
    have HXB := Lib.hid hXb
    have HB8 := Lib.hid hb8
    have HTL8 := Lib.hid hTL8
    have HVA : Hid ((V.A.release b 9).used = 0) := Lib.hid (by rw [hV, HES.out]; show W'.A.used + 9 - 9 = 0; rw [HUS.out])
    have HQ := Lib.hid (show w.heap.size ≤ rx ∧ w.heap.size ≤ b ∧ w.heap.size ≤ d from by have := HB7.out.size; exact ⟨by omega, by omega, by omega⟩)
    have hk3 : k * 3 ≤ 1500 := by omega
    have hk3w : IntKind.i64.wrap ((k : Int) * 3) = ((k * 3 : Nat) : Int) := by rw [IntKind.wrap_i64]; omega
    have HKL : Hid (k * 3 < l.length) := Lib.hid (HC2.out k hkn)
    clear hI8 hX8 hI8' hX8' hH0 hVE hXb hb8 hTL8 ht8 q1 q2 q3 HOP f0 f1 f2 f3 HI7 HB7 HTL7 hV hX0
    generalize hn3 : k * 3 = n3 at *
    go_wp2_with fail
    have HG := Lib.hid (show Alike W'.D W'.D k from ⟨HSU.out, HFL.out, HSZ.out, HBL.out, fun _ _ => rfl⟩)
    have HEA := Lib.hid (show Alike W'.D E k from ⟨HEE.out.sure HSU.out, HEE.out.fault HFL.out, HES.out, HEE.out.blocks.trans HBL.out, fun j hj => by rw [HEN.out]; unfold Dev.upd; rw [if_neg hj]⟩)
    have HAE : Hid (E.acts ≤ 201) := Lib.hid (by have := HEE.out.acts; have := HAC.out; omega)
    go_loopw [14] (fun iv wr => SeLoop w (but O' d) K V W'.D rx b d k n3 E.acts E.now l a iv wr) (fun iv _ => n3 - (intOf iv).toNat)
    case atStart =>
      obtain ⟨h1, h2, h3, h4, h5⟩ := HXB.out
      exact ⟨0, X0, V.D, rfl, Nat.zero_le _, HI8.out, HX8.out, HH0.out, h4, by omega, h3, h1, h2, by rw [HVE.out]; exact HEA.out, by rw [HVE.out], by rw [HVE.out]; omega, HTL8.out, HB8.out⟩
    case round =>
      obtain ⟨i, X, D, rfl, hi, hIk, hXk, hHk, hti, hbk, hcl, hbf, har, hal, hnw, hac, hTLk, hbk0⟩ := hrel
      have hH := holds_any hIk 2
      rw [show holds ({ V with D := D } : Wk).D.size 2 = 3 from by show holds D.size 2 = 3; rw [hal.size]; decide] at hH
      have HH := Lib.hid hH
      have HHK := Lib.hid hHk
      have HIK := Lib.hid hIk
      have HXK := Lib.hid hXk
      have HTLK := Lib.hid hTLk
      have HBK0 := Lib.hid hbk0
      have HAL := Lib.hid hal
      have HCL := Lib.hid hcl
      have HBF := Lib.hid (And.intro hbf har)
      have HTI := Lib.hid hti
      have HBKK := Lib.hid hbk
      have HNW := Lib.hid hnw
      have HACC := Lib.hid hac
      clear hIk hXk hHk hti hbk hcl hbf har hal hnw hac hTLk hbk0 hH HI8 HX8 HH0 HB8 HTL8
      by_cases hlt : i < n3
      · obtain ⟨X1, D1, hload, h1H, h1n, h1t, h1b, h1A, h1w, h1a⟩ := se_step (V := V) HHK.out HFT.out HG.out HAL.out HTI.out HBKK.out (by omega) (by rw [hn3]; exact HKL.out) (by omega)
        have hwid := HHK.out.wid
        have hcnt := HHK.out.cnt
        have hil : i < l.length := by have := HKL.out; omega
        have hN := next_live HIK.out HXK.out HCL.out (by show X.Ok D.size; rw [HAL.out.size, ← HSZ.out]; exact HHK.out.ok) (by rw [HTI.out]; omega) hload (by show D.acts + 1 < _; have := HACC.out; have := HAE.out; omega)
        obtain ⟨_, hN⟩ := hN
        obtain ⟨hl1, e1, h2H⟩ := Rd.Has.here (W := { V with D := W'.D }) h1H (by omega) (by omega) HFT.out h1n
        obtain ⟨g, off, ha, c0, c1, c2', c3, c4, hli, _⟩ := HTLK.out.cells HT5.out hil
        have hx1 : (icells X1.tup).toArray = #[.int .i64 c0.toInt, .int .i64 c1.toInt, .int .i64 c2'.toInt, .int .i64 c3.toInt, .int .i64 c4.toInt] := by
          rw [e1]
          have : l[X1.told] = l[i] := by congr 1
          rw [this, hli]
          rfl
        have k1 := loads_kin hload
        have HN := Lib.hid hN
        have HX1 := Lib.hid hx1
        have H2H : Hid (X1.next.Has W'.D 0 2 l) := Lib.hid h2H
        have H1 := Lib.hid (And.intro h1t (And.intro h1b (And.intro h1A (And.intro h1w h1a))))
        have HK1 := Lib.hid k1
        have HLI2 := Lib.hid hli
        subst ha
        have hi32 : (i : Int) < (n3 : Int) := by omega
        have hi0 : (0 : Int) ≤ (i : Int) := by omega
        have hiln : (i : Int) < (l.length : Int) := by omega
        clear hload h1H h1n h1t h1b h1A h1w h1a hwid hcnt hN e1 h2H hli hx1 k1
        go_wp2_with fail
        refine HH.out.mono ?_
        rintro e w9 ⟨rfl, rfl⟩
        go_wp2_with fail
        refine HN.out.mono ?_
        rintro e w9 ⟨rfl, hI9, hX9, hB9, ht9⟩
        rw [HX1.out]
        have hOW : ∀ q, OwnR rx X q ∨ wr.heap.size ≤ q → w.heap.size ≤ q := fun q hq => by
          have := HQ.out
          have := HBK0.out.size
          rcases hq with (e | e | e) | e
          · omega
          · rw [e, HBF.out.1]; omega
          · rw [e, HBF.out.2]; omega
          · omega
        have hb9 := Turn.belowB HIK.out HK.out hOW HBK0.out ht9
        have hTL9 := HTLK.out.turn HIK.out ht9 (fun g hg hh => by
          rcases hg with ⟨cs, hg⟩ | hg
          · rcases hh with (e | e | e) | e
            · exact hg.ne_ HXK.out.blk (by decide) e
            · exact hg.ne_ (HXK.out.live HCL.out).blk (by decide) e
            · exact hg.ne_ (HXK.out.live HCL.out).row (by decide) e
            · have := hg.lt; omega
          · have := hOW g hh
            rw [HK.out] at hg
            omega)
        have hR9 : RdAt w9 (but O' d) K { V with D := D1 } rx X1.next := ⟨hX9, fun _ => by rw [HK1.out.buf, HK1.out.arr]; exact hB9, by rw [HK1.out.width]; exact HXK.out.width, by rw [HK1.out.count]; exact HXK.out.count⟩
        have hbn : Below w9.heap.size w9 (w9.alloc (.cells #[.int .i64 c0.toInt, .int .i64 c1.toInt, .int .i64 c2'.toInt, .int .i64 c3.toInt, .int .i64 c4.toInt] 45)) := (Below.refl _ _).alloc (Nat.le_refl _) _
        have HI10 := Lib.hid (hI9.below hbn)
        have HR10 := Lib.hid (hR9.below hI9 hbn)
        have HB10 := Lib.hid (hb9.trans (hbn.mono hb9.size))
        have hTL10 := hTL9.below hbn
        have HTL10 := Lib.hid hTL10
        have HG10 := Lib.hid (Blk.new w9 45 #[.int .i64 c0.toInt, .int .i64 c1.toInt, .int .i64 c2'.toInt, .int .i64 c3.toInt, .int .i64 c4.toInt])
        obtain ⟨g', off', ha, d0, d1, d2, d3, d4, hli, y0, y1, y2, y3, y4⟩ := (hTL10.below (w' := (w9.alloc (.cells #[.int .i64 c0.toInt, .int .i64 c1.toInt, .int .i64 c2'.toInt, .int .i64 c3.toInt, .int .i64 c4.toInt] 45)).drew) (Below.refl _ _).drew).cells HT5.out hil
        rw [HLI2.out] at hli
        injection hli with e0 hli
        injection hli with e1 hli
        injection hli with e2 hli
        injection hli with e3 hli
        injection hli with e4 hli
        subst e0 e1 e2 e3 e4
        injection ha with ha
        injection ha with ha1 ha2
        subst ha1 ha2
        generalize c0.toInt = z0 at *
        generalize c1.toInt = z1 at *
        generalize c2'.toInt = z2 at *
        generalize c3.toInt = z3 at *
        generalize c4.toInt = z4 at *
        clear hb9 hTL9 hR9 hbn hTL10 hI9 hX9 hB9 ht9 hOW hli HH HN HX1 HLI2
        go_wp2_with fail
        generalize hx9 : w9.heap.size = b9 at *
        generalize w9.alloc (.cells #[.int .i64 z0, .int .i64 z1, .int .i64 z2, .int .i64 z3, .int .i64 z4] 45) = w10 at *
        have v0 : w10.drew.cell? ⟨b9, 0, none⟩ = some (.int .i64 z0) := HG10.out.cell 0
        have v1 : w10.drew.cell? ⟨b9, 1, none⟩ = some (.int .i64 z1) := HG10.out.cell 1
        have v2 : w10.drew.cell? ⟨b9, 2, none⟩ = some (.int .i64 z2) := HG10.out.cell 2
        have v3 : w10.drew.cell? ⟨b9, 3, none⟩ = some (.int .i64 z3) := HG10.out.cell 3
        have v4 : w10.drew.cell? ⟨b9, 4, none⟩ = some (.int .i64 z4) := HG10.out.cell 4
        refine wp_reads (by kernel_rfl) (by kernel_rfl) ?_
        repeat (refine sg_step (fun K2 hK => ?_); go_simp; refine hK.out _ ?_; clear hK K2)
        refine sg_nil ?_
        go_wp2_with fail
        go_roundw
        case rel =>
          refine ⟨i + 1, X1.next, D1, by go_num, by omega, HI10.out.drew, HR10.out.below HI10.out (Below.refl _ _).drew, H2H.out, ?_, H1.out.2.1, HK1.out.closed.trans HCL.out, HK1.out.buf.trans HBF.out.1, HK1.out.arr.trans HBF.out.2, H1.out.2.2.1, H1.out.2.2.2.1.trans HNW.out, ?_, HTL10.out.below (Below.refl _ _).drew, HB10.out.trans ((Below.refl _ _).drew.mono HB10.out.size)⟩
          · show X1.told + 1 = i + 1
            rw [H1.out.1]
          · have := H1.out.2.2.2.2
            have := HACC.out
            omega
        case measure => simp [intOf]; omega
      · obtain rfl : i = n3 := by omega
        obtain ⟨hat, hbkk⟩ := se_end HHK.out HSZ.out (by rw [HTI.out, hn3]) HBKK.out (by rw [hn3]; exact HKL.out)
        have hwid := HHK.out.wid
        have hcnt := HHK.out.cnt
        have hfst := HHK.out.fst
        have hwr : IntKind.i64.wrap (X.first + (X.block : Int)) = (k : Int) := by rw [hfst, hbkk]; show IntKind.i64.wrap (0 + (k : Int)) = _; rw [Int.zero_add]; exact yk
        have hrd0 : (D.rd (k : Int)).1 = 0 := by
          rcases sure_rd (i := (k : Int)) HAL.out.sure (by omega) (by rw [HAL.out.blocks]; omega) with h | ⟨h, _⟩
          · exact h
          · rw [HAL.out.fault] at h; cases h
        have hwo : D.words (k : Int) = Crc.words (badW x) := by
          unfold Dev.Dv.words
          rw [HNW.out, HEN.out]
          unfold Dev.upd
          rw [if_pos rfl]
          rfl
        have hgo := goes_rd hrd0
        have HN := Lib.hid (next_bad HIK.out HXK.out HCL.out (by rw [HTI.out, hcnt]; have := HKL.out; omega) hat (er := 6) (D1 := (D.rd (k : Int)).2) (by decide) (Dev.rd_kin _ _).size (fun w2 h1 h2 => load_bad h1 h2 HCL.out hwr hrd0 (by show D.acts + 1 < _; have := HACC.out; have := HAE.out; omega) rfl hwid (l := badW x) (by show (badW x).length = D.size; rw [HAL.out.size]; rfl) hwo (fun p hp _ => by
          show D.words _ ≠ sealed p D.size 2 k
          rw [hwo, HAL.out.size]
          exact badW_not x p k (by have h : p.length + 2 ≤ D.size := hp; rw [HAL.out.size] at h; exact h)) (by rw [HTI.out, hcnt]; have := HKL.out; omega) (by rw [hbkk]; omega)))
        have HAT := Lib.hid hat
        have HWC := Lib.hid (And.intro hwid hcnt)
        clear hat hbkk hwid hcnt hfst hwr hrd0 hwo hgo
        go_wp2_with fail
        refine HH.out.mono ?_
        rintro e w9 ⟨rfl, rfl⟩
        go_wp2_with fail
        refine HN.out.mono ?_
        rintro e w9 ⟨rfl, hI9, hX9, ht9⟩
        have hOW : ∀ q, OwnR rx X q ∨ wr.heap.size ≤ q → w.heap.size ≤ q := fun q hq => by
          have := HQ.out
          have := HBK0.out.size
          rcases hq with (e | e | e) | e
          · omega
          · rw [e, HBF.out.1]; omega
          · rw [e, HBF.out.2]; omega
          · omega
        have hb9 := Turn.belowB HIK.out HK.out hOW HBK0.out ht9
        unfold zero5
        have hbn : Below w9.heap.size w9 (w9.alloc (.cells #[.int .i64 0, .int .i64 0, .int .i64 0, .int .i64 0, .int .i64 0] 45)) := (Below.refl _ _).alloc (Nat.le_refl _) _
        have hR9 : RdAt w9 (but O' d) K { V with D := (D.rd (k : Int)).2, A := V.A.release X.buf D.size } rx { X with closed := true } := ⟨hX9, (fun h => by cases h), HXK.out.width, HXK.out.count⟩
        have HI10 := Lib.hid (hI9.below hbn)
        have HR10 := Lib.hid (next_closed (hR9.below hI9 hbn) rfl)
        have HB10 := Lib.hid (hb9.trans (hbn.mono hb9.size))
        clear hb9 hbn hI9 hX9 ht9 hOW hR9 HN HH
        go_wp2_with fail
        generalize w9.alloc (.cells #[.int .i64 0, .int .i64 0, .int .i64 0, .int .i64 0, .int .i64 0] 45) = w10 at *
        refine HR10.out.mono ?_
        rintro e w11 ⟨rfl, hb11⟩
        have hbn : Below w11.heap.size w11 (w11.alloc (.cells #[.int .i64 0, .int .i64 0, .int .i64 0, .int .i64 0, .int .i64 0] 45)) := (Below.refl _ _).alloc (Nat.le_refl _) _
        have HI12 := Lib.hid ((HI10.out.below hb11).below hbn)
        have HB12 := Lib.hid ((HB10.out.trans (hb11.mono HB10.out.size)).trans (hbn.mono (by have := HB10.out.size; have := hb11.size; omega)))
        unfold zero5
        clear hb11 hbn HR10 HI10 HB10
        go_wp2_with fail
        generalize w11.alloc (.cells #[.int .i64 0, .int .i64 0, .int .i64 0, .int .i64 0, .int .i64 0] 45) = w12 at *
        refine (arena_any HI12.out).mono ?_
        rintro e w13 ⟨rfl, rfl⟩
        go_wp2_with fail
        refine (used_w HI12.out).mono ?_
        rintro e w13 ⟨rfl, rfl⟩
        have hus0 : ((V.A.release X.buf D.size).used : Int) = 0 := by rw [HBF.out.1, HAL.out.size, HVA.out]; rfl
        rw [hus0]
        go_wp2_with fail
        go_ret
        exact ⟨rfl, HB12.out⟩
theorem FileSealed_law {w : World} (a : Option Addr) (n c : Nat) (l : List (List Int)) (hl : rdSlice 5 (rdArr 5 1 (rdInt .i64)) w [.slice a n c] l) (y : Int) (hy : (Lit.int .u8 y).wf = true) (x : Int) (hx : (Lit.int .u64 x).wf = true) :
    Calls Try.prog 3 #[.slice a n c, .int .u8 y, .int .u64 x] w fun e w' => e = .returned (.bool true) ∧ Below w.heap.size w w' := by
  obtain ⟨lt, hn, h5, hm, _, hT⟩ := tups_of hl
  subst hn
  have hy := u_bounds.2.2.1 hy
  have hx := u_bounds.2.2.2.1 hx
  obtain ⟨y, rfl⟩ := Int.eq_ofNat_of_zero_le hy.1
  obtain ⟨x, rfl⟩ := Int.eq_ofNat_of_zero_le hx.1
  have he : (x : Int) = Crc.I64 (BitVec.ofNat 64 x) := (Crc.I64_ofNat (by omega)).symm
  rw [he]
  exact FileSealed_walk (BitVec.ofNat 64 x) y (by omega) a c lt hT h5 hm

end Go.Proofs.Ytmmkncocgjgapaa.Fl
