/- The law FileApart. -/
import Derived.Test.YtmmkncocgjgapaaZFlApartP
set_option linter.unusedVariables false
namespace Go.Proofs.Ytmmkncocgjgapaa.Fl
open Go.RowKit

def A1 (w0 : World) (xb pb : Nat) (K : Key) (a : Option Addr) (l : List Tup) (iv : Value) (wr : World) : Prop :=
  ∃ (k : Nat) (O : Nat → Prop) (W : Wk) (xs : Nat → Nat) (X : Nat → Wr) (cs : Array Value), iv = .int .i64 (k : Int) ∧ k ≤ 3 ∧ WkI wr O K W ∧ (∀ g, wr.heap.size ≤ g → O g) ∧ Tri wr O K W l.length xs X (fun _ => []) 0 k ∧ Calm9 W.D 0 ∧ W.A.used = 9 * k ∧ W.A.room = 900 ∧ W.B = 900 ∧
    (∀ b, Sp.Fr W.L b ↔ k * nB 9 3 l.length ≤ b ∧ b < 900) ∧ Blk wr xb 69 cs ∧ cs.size = 3 ∧ (∀ j, j < k → cs[j]? = some (P (xs j))) ∧ Blk wr pb 70 #[.slice none 0 0, .slice none 0 0, .slice none 0 0] ∧ Tps K wr a l ∧ Below w0.heap.size w0 wr
structure A2 (w0 wr : World) (xb pb : Nat) (O : Nat → Prop) (K : Key) (W : Wk) (len : Nat) (xs : Nat → Nat) (cs : Array Value) (X : Nat → Wr) (ps : Nat → List Tup) (vs : Nat → Value) (lo ac lim used : Nat) : Prop where
  wk : WkI wr O K W
  out : ∀ g, wr.heap.size ≤ g → O g
  tri : Tri wr O K W len xs X ps lo 3
  calm : Calm9 W.D ac
  used : W.A.used = used
  room : W.A.room = 900
  xblk : Blk wr xb 69 cs
  pblk : Blk wr pb 70 #[vs 0, vs 1, vs 2]
  rows : ∀ k, k < 3 → wr.ownsRow w0.heap.size 45 5 (vs k) (ps k).length (flatT (ps k))
  far : ∀ j k, j < 3 → k < 3 → j ≠ k → ∀ g, (vs j).ownBlock = some g → (vs k).ownBlock ≠ some g
  fit : ∀ k, k < 3 → FitsW 3 (ps k) ∧ (ps k).length ≤ lim
  bel : Below w0.heap.size w0 wr
def A2L (w0 : World) (xb pb : Nat) (K : Key) (a : Option Addr) (l : List Tup) (xs : Nat → Nat) (cs : Array Value) (n2 : Nat) (iv : Value) (wr : World) : Prop :=
  ∃ (i : Nat) (O : Nat → Prop) (W : Wk) (X : Nat → Wr) (ps : Nat → List Tup) (vs : Nat → Value), iv = .int .i64 (i : Int) ∧ i ≤ l.length ∧ i ≤ n2 ∧ A2 w0 wr xb pb O K W l.length xs cs X ps vs 0 i i 27 ∧ Tps K wr a l

def A3L (w0 : World) (xb pb : Nat) (K : Key) (len : Nat) (xs : Nat → Nat) (cs : Array Value) (X : Nat → Wr) (ps : Nat → List Tup) (vs : Nat → Value) (iv : Value) (wr : World) : Prop :=
  ∃ (k : Nat) (O : Nat → Prop) (W : Wk), iv = .int .i64 (k : Int) ∧ k ≤ 3 ∧ A2 w0 wr xb pb O K W len xs cs X ps vs k (300 + 1000 * k) 300 (9 * (3 - k))

set_option maxRecDepth 100000 in
set_option maxHeartbeats 8000000 in
theorem FileApart_walk {w : World} (a : Option Addr) (c : Nat) (l : List Tup) (hT : ∀ K : Key, w.heap.size ≤ K.base → Tps K w a l) (ht5 : ∀ t ∈ l, t.length = 5) (hll : l.length ≤ maxLen) (a2 : Option Addr) (n2 c2 : Nat) (l2 : List Int) (hr2 : Row w a2 (l2.map (Value.int .u8))) (hl2 : l2.length = n2) (hw2 : ∀ x ∈ l2, (Lit.int .u8 x).wf = true) (hm2 : n2 ≤ maxLen) :
    Calls Try.prog 5 #[.slice a l.length c, .slice a2 n2 c2] w (fun e w' => e = .returned (.bool true) ∧ Below w.heap.size w w') := by
  have HT5 := Lib.hid ht5
  have HTP := Lib.hid hT
  have HR2 := Lib.hid hr2
  have HL2 := Lib.hid hl2
  have HW2 := Lib.hid hw2
  have HW := Lib.hid (work_ok 9 900 900 w (by omega) (by omega) (by omega) (by omega) (by omega))
  rw [show ((900 : Nat) : Int) = 900 from rfl, show ((9 : Nat) : Int) = 9 from rfl] at HW
  have HGL : Hid (l = [] ∨ ∃ g off, a = some ⟨g, off, none⟩ ∧ g < w.heap.size) := Lib.hid (by
    rcases hT ⟨0, 0, 0, 0, 0, 0, 0, w.heap.size⟩ (Nat.le_refl _) with h | ⟨g, off, e, h, _⟩
    · exact .inl h
    · exact .inr ⟨g, off, e, h⟩)
  clear ht5 hT hr2 hl2 hw2
  go_enter Try.func5, Try.ntmps5
  go_wp2_with fail
  refine HW.out.mono ?_
  rintro e w2 ⟨K, rfl, hI2, hK, hb2⟩
  have HI2 := Lib.hid hI2
  have HK := Lib.hid hK
  have HB2 := Lib.hid hb2
  clear hI2 hK hb2 HW
  go_wp2_with fail
  refine (awake10_any w2).mono ?_
  rintro e w3 ⟨rfl, hb3⟩
  have HI3 := Lib.hid (HI2.out.below hb3)
  have HB3 := Lib.hid (HB2.out.trans (hb3.mono HB2.out.size))
  clear hb3 HI2 HB2
  by_cases hbig : (300 : Int) < (l.length : Int)
  · go_wp2_with fail
    refine (awake10_any w3).mono ?_
    rintro e w4 ⟨rfl, hb4⟩
    have HB4 := Lib.hid (HB3.out.trans (hb4.mono HB3.out.size))
    clear hb4
    go_wp2_with fail
    go_ret
    exact ⟨rfl, HB4.out⟩
  by_cases hbig2 : (300 : Int) < (n2 : Int)
  · go_wp2_with fail
    refine (awake10_any w3).mono ?_
    rintro e w4 ⟨rfl, hb4⟩
    have HB4 := Lib.hid (HB3.out.trans (hb4.mono HB3.out.size))
    clear hb4
    go_wp2_with fail
    go_ret
    exact ⟨rfl, HB4.out⟩
  have hnn : (l.length : Int) ≤ 300 := by omega
  have hnn2 : (n2 : Int) ≤ 300 := by omega
  have HTL := Lib.hid ((HTP.out K (by have := HK.out; omega)).below HB3.out)
  have HAL := Lib.hid (refall_any 3 l a c w3 (by omega) HTL.out HT5.out (by omega))
  rw [show ((3 : Nat) : Int) = 3 from rfl] at HAL
  clear hbig hbig2 HTP
  cases hal : allB 3 l with
  | false =>
    rw [hal] at HAL
    clear hal
    go_wp2_with fail
    refine HAL.out.mono ?_
    rintro e w4 ⟨rfl, hb4⟩
    have HB4 := Lib.hid (HB3.out.trans (hb4.mono HB3.out.size))
    clear hb4
    go_wp2_with fail
    refine (awake10_any w4).mono ?_
    rintro e w5 ⟨rfl, hb5⟩
    have HB5 := Lib.hid (HB4.out.trans (hb5.mono HB4.out.size))
    clear hb5
    go_wp2_with fail
    go_ret
    exact ⟨rfl, HB5.out⟩
  | true =>
  have hfit := (allB_iff HT5.out).1 hal
  rw [hal] at HAL
  have HFT := Lib.hid hfit
  clear hal hfit
  go_wp2_with fail
  refine HAL.out.mono ?_
  rintro e w4 ⟨rfl, hb4⟩
  have hbn1 : Below w4.heap.size w4 (w4.alloc (.cells #[.pointer none, .pointer none, .pointer none] 69)) := (Below.refl _ _).alloc (Nat.le_refl _) _
  have hbn2 : Below w4.heap.size w4 ((w4.alloc (.cells #[.pointer none, .pointer none, .pointer none] 69)).alloc (.cells #[.slice none 0 0, .slice none 0 0, .slice none 0 0] 70)) := hbn1.alloc (by simp) _
  have hX1 := (Blk.new w4 69 #[.pointer none, .pointer none, .pointer none]).alloc (.cells #[.slice none 0 0, .slice none 0 0, .slice none 0 0] 70)
  have hP1 := Blk.new (w4.alloc (.cells #[.pointer none, .pointer none, .pointer none] 69)) 70 #[.slice none 0 0, .slice none 0 0, .slice none 0 0]
  have hb44 := HB3.out.trans (hb4.mono HB3.out.size)
  rw [show (w4.alloc (.cells #[.pointer none, .pointer none, .pointer none] 69)).heap.size = w4.heap.size + 1 from by simp] at hP1
  have HI5 := Lib.hid ((HI3.out.below hb4).below hbn2)
  have HTL5 := Lib.hid ((HTL.out.below hb4).below hbn2)
  have HB5 := Lib.hid (hb44.trans (hbn2.mono hb44.size))
  have HX5 := Lib.hid hX1
  have HP5 := Lib.hid hP1
  have hxb0 : w.heap.size ≤ w4.heap.size := hb44.size
  clear hbn1 hbn2 hX1 hP1 hb44 hb4 HI3 HTL HB3 HAL
  go_wp2_with fail
  generalize ((w4.alloc (.cells #[.pointer none, .pointer none, .pointer none] 69)).alloc (.cells #[.slice none 0 0, .slice none 0 0, .slice none 0 0] 70)) = w5 at *
  generalize w4.heap.size = xb at *
  go_loopw [9] (fun iv wr => A1 w xb (xb + 1) K a l iv wr) (fun iv _ => 3 - (intOf iv).toNat)
  case atStart => exact ⟨0, O0 K, wk0 9 900 900, fun _ => 0, fun _ => fresh 9 0 0 0 0 0 0, _, rfl, by omega, HI5.out, fun g hg => by unfold O0; have := HB5.out.size; rw [HK.out]; omega, ⟨fun k _ h => by omega, fun k _ h => by omega, fun k _ h => by omega, fun k _ h => by omega, fun j k _ h => by omega, fun k _ h => by omega⟩, ⟨sure_fresh 9 900, rfl, rfl, rfl, Nat.le_refl _⟩, rfl, rfl, rfl, fun b => by
      show Sp.Fr (Sp.wholeL 0 900) b ↔ _
      constructor
      · rintro ⟨e, he, h1, h2⟩
        have := (Sp.whole_inv 0 900).ok e he
        omega
      · rintro ⟨_, h⟩
        exact room_whole (B := 900) (n := 900) (by omega) b (Nat.zero_le _) (by omega), HX5.out, rfl, fun j h => by omega, HP5.out, HTL5.out, HB5.out⟩
  case round =>
    obtain ⟨k, O, W, xs, X, cs, rfl, hk, hI, hO, hTr, hC, hus, hrm, hB9, hFr, hXb, hcs, hcx, hPb, hTl, hbl⟩ := hrel
    have hp : 1 ≤ hN 9 3 := by decide
    have hle := nB_le (size := 9) (wN := 3) (count := l.length) hp
    have hnb2 : nB 9 3 l.length * 2 ≤ l.length + 1 := by
      have hcap := nB_cap (size := 9) (wN := 3) (count := l.length) hp
      rw [show hN 9 3 = 2 from by decide] at hcap
      rcases Nat.eq_zero_or_pos (nB 9 3 l.length) with h | h
      · omega
      · have := hcap.2 (nB 9 3 l.length - 1) (by omega)
        omega
    by_cases hlt : (k : Int) < 3
    · have hM := make_any 3 l.length hI (by omega) (by omega) (by omega) (by rw [hC.size, hus, hrm]; omega)
      have HM := Lib.hid hM
      rw [show ((3 : Nat) : Int) = 3 from rfl] at HM
      have HI := Lib.hid hI
      have HO := Lib.hid hO
      have HTr := Lib.hid hTr
      have HC := Lib.hid hC
      have HUR := Lib.hid (And.intro hus (And.intro hrm hB9))
      have HFr := Lib.hid hFr
      have HXb := Lib.hid hXb
      have HCS := Lib.hid (And.intro hcs hcx)
      have HPb := Lib.hid hPb
      have HTl := Lib.hid hTl
      have HBl := Lib.hid hbl
      clear hI hO hTr hC hus hrm hB9 hFr hXb hcs hcx hPb hTl hbl hM HI5 HTL5 HB5 HX5 HP5
      go_wp2_with fail
      refine HM.out.mono ?_
      rintro e w6 ⟨b, d, q1, q2, ht6, hm⟩
      have hn9 : blocksOf W.D.size 3 l.length = (nB 9 3 l.length : Int) := by rw [HC.out.size]; exact nB_eq (wN := 3) (by omega) (by omega) (by omega)
      have hkn : (k + 1) * nB 9 3 l.length ≤ 900 := by
        have : (k + 1) * nB 9 3 l.length ≤ 3 * nB 9 3 l.length := Nat.mul_le_mul_right _ (by omega)
        omega
      rw [show ((3 : Nat) : Int) = 3 from rfl, hn9] at hm
      rcases hm with ⟨r, er, L', h0, htk, her, _⟩ | ⟨x, first, L', htk, hx, rfl, hI6, hX6⟩
      · exfalso
        rw [HUR.out.2.2] at htk
        have hI9 : Sp.Inv 0 900 W.L := by rw [← HUR.out.2.2]; exact HI.out.inv
        obtain ⟨_, hsp⟩ := Sp.take_spec hI9 htk
        rcases hsp with ⟨hh, _⟩ | ⟨m, hm, _, _, hno, _⟩ | ⟨_, _, _, _, hh, _⟩
        · omega
        · refine hno (k * nB 9 3 l.length) (fun b hb1 hb2 => (HFr.out b).2 ⟨hb1, ?_⟩)
          rw [Nat.add_mul] at hkn
          omega
        · exact her hh
      · have htk' : TookN W.L 900 (nB 9 3 l.length) first L' := by
          rcases htk with ⟨h0, h2, h3⟩ | ⟨h0, h2⟩
          · exact .inl ⟨by omega, h2, h3⟩
          · rw [HUR.out.2.2] at h2
            exact .inr ⟨by omega, h2⟩
        obtain ⟨rfl, hFr'⟩ := third (by rw [← HUR.out.2.2]; exact HI.out.inv) HFr.out hkn htk'
        rw [Int.toNat_natCast] at hX6
        rw [HC.out.size] at hX6 hI6
        have hd6 : d < w6.heap.size := (hX6.live rfl).row.lt
        have hTr6 := HTr.out.more (W' := { W with A := W.A.grant 9 b, L := L' }) (O' := but O d) HI.out ht6 (fun g hg h => h.1) rfl (fun p hp => by simp [Arena.Ar.grant, hp]) hX6 rfl (by
          have := Wr.Has.new (D := W.D) b d (k * nB 9 3 l.length) (nB 9 3 l.length) 3 l.length (by rw [HC.out.size]; omega) (by omega) (by omega) (by rw [HC.out.size]; exact (nB_eq (wN := 3) (by omega) (by omega) (by omega)).symm)
          rw [HC.out.size] at this
          exact this) ⟨rfl, rfl, rfl, rfl⟩ hx q1 q2 rfl
        have hXb6 := HI.out.blk ht6 HXb.out (by decide) (by decide) (by decide) (by decide) (by decide) (fun h => h)
        have hPb6 := HI.out.blk ht6 HPb.out (by decide) (by decide) (by decide) (by decide) (by decide) (fun h => h)
        have hTl6 := HTl.out.turn HI.out ht6 (fun g _ h => h)
        have hB6 := Turn.belowB HI.out HK.out (fun _ h => h.elim) HBl.out ht6
        have hkc : k < cs.size := by rw [HCS.out.1]; omega
        have c6 : w6.cell? ⟨xb, k, none⟩ = some cs[k] := (hXb6.cell k).trans (Array.getElem?_eq_getElem hkc)
        have z6 := hXb6.frozen k
        obtain ⟨s1, s2, s3⟩ := aside_store hI6 hXb6 k (P x) ⟨by decide, by decide, by decide, by decide, by decide, by decide, by decide, by decide⟩
        have hTr7 := hTr6.frame (W' := { W with A := W.A.grant 9 b, L := L' }) (O' := but O d) hI6 s3 (fun j j1 j2 => by
          have a := hTr6.at_ j j1 j2
          have bb := a.live (hTr6.cl j j1 j2)
          exact ⟨fun e => a.blk.ne_ hXb6 (by decide) e, fun e => bb.blk.ne_ hXb6 (by decide) e, fun e => bb.row.ne_ hXb6 (by decide) e⟩) (fun _ _ h => h) rfl (fun _ h _ => h) (fun _ _ _ _ _ => rfl)
        have hPb7 := hI6.blk s3 hPb6 (by decide) (by decide) (by decide) (by decide) (by decide) (fun e => hPb6.ne_ hXb6 (by decide) e)
        have hTl7 := hTl6.turn hI6 s3 (fun g hg e => by
          rcases hg with ⟨cs', hg⟩ | hg
          · exact hg.ne_ hXb6 (by decide) e
          · have := HK.out; omega)
        have hB7 := Turn.belowB hI6 HK.out (fun j e => by rw [e]; exact hxb0) hB6 s3
        have hO7 : ∀ g, (w6.setCell ⟨xb, k, none⟩ (P x)).heap.size ≤ g → but O d g := fun g hg => by
          have h1 := s3.size
          have h2 := ht6.size
          exact ⟨HO.out g (by omega), by omega⟩
        have HA1 : Hid (A1 w xb (xb + 1) K a l (.int .i64 ((k : Int) + 1)) (w6.setCell ⟨xb, k, none⟩ (P x))) := Lib.hid ⟨k + 1, but O d, _, _, _, _, by go_num, by omega, s1, hO7, hTr7, ⟨HC.out.sure, HC.out.fault, HC.out.size, HC.out.blocks, HC.out.acts⟩, by show W.A.used + 9 = _; rw [HUR.out.1]; omega, HUR.out.2.1, HUR.out.2.2, hFr', s2, by simp [HCS.out.1], fun j hj => by
          by_cases hjk : j = k
          · subst hjk
            rw [Array.getElem?_setIfInBounds_self_of_lt hkc]
            simp
          · rw [Array.getElem?_setIfInBounds_ne (fun e => hjk e.symm)]
            simp only [if_neg hjk]
            exact HCS.out.2 j (by omega), hPb7, hTl7, hB7⟩
        have hk0 : (0 : Int) ≤ (k : Int) := by omega
        generalize cs[k] = ck at *
        clear hn9 hkn htk htk' hFr' hI6 hX6 hd6 hTr6 hXb6 hPb6 hTl6 hB6 hkc s1 s2 s3 hTr7 hPb7 hTl7 hB7 hO7 ht6 HM HI HO HTr HC HUR HFr HXb HCS HPb HTl HBl
        go_wp2_with fail
        go_roundw
        case rel => exact HA1.out
        case measure => simp [intOf]; omega
    · obtain rfl : k = 3 := by omega
      have HS2 := Lib.hid (show A2 w wr xb (xb + 1) O K W l.length xs cs X (fun _ => []) (fun _ => .slice none 0 0) 0 0 0 27 from ⟨hI, hO, hTr, hC, hus, hrm, hXb, hPb, fun k _ => World.ownsRow_nil _ _ _ _, fun j k _ _ _ g h => by simp [Value.ownBlock] at h, fun k _ => ⟨(fun t ht => by cases ht), Nat.le_refl _⟩, hbl⟩)
      have HTl := Lib.hid hTl
      have HCS := Lib.hid (And.intro hcs hcx)
      have HN2 := Lib.hid hnb2
      clear hI hO hTr hC hus hrm hB9 hFr hXb hcs hcx hPb hTl hbl hle hp hnb2 hlt HI5 HTL5 HB5 HX5 HP5
      rw [show ((3 : Nat) : Int) = 3 from rfl]
      go_wp2_with fail
      go_loopw [12] (fun iv wr => A2L w xb (xb + 1) K a l xs cs n2 iv wr) (fun iv _ => l.length - (intOf iv).toNat)
      case atStart => exact ⟨0, O, W, X, _, _, rfl, Nat.zero_le _, Nat.zero_le _, HS2.out, HTl.out⟩
      case round =>
        clear HS2 HTl
        obtain ⟨i, O, W, X, ps, vs, rfl, hi1, hi2, hA, hTl⟩ := hrel
        by_cases hlt : (i : Int) < (l.length : Int) ∧ (i : Int) < (n2 : Int)
        · obtain ⟨hlt1, hlt2⟩ := hlt
          have hil : i < l.length := by omega
          have hi2l : i < l2.length := by have := HL2.out; omega
          obtain ⟨b1, o1, rfl, hc1, hl1⟩ := HR2.out.at_ (i := i) (by rw [List.length_map]; exact hi2l)
          obtain ⟨y, hy, hy2⟩ : ∃ y : Nat, l2[i] = (y : Int) ∧ y < 256 := by
            have := u_bounds.2.2.1 (HW2.out _ (List.getElem_mem hi2l))
            exact ⟨l2[i].toNat, by omega, by omega⟩
          have d1 : wr.cell? ⟨b1, o1 + i, none⟩ = some (.int .u8 (y : Int)) := by rw [hA.bel.cell hl1, hc1]; simp [hy]
          obtain ⟨k, hk, hk3⟩ : ∃ k : Nat, (y : Int).tmod 3 = (k : Int) ∧ k < 3 := ⟨y % 3, by rw [Int.tmod_eq_emod_of_nonneg (by omega)]; exact (Int.natCast_emod _ _).symm, Nat.mod_lt _ (by omega)⟩
          have yk : IntKind.i64.wrap (k : Int) = (k : Int) := by rw [IntKind.wrap_i64]; omega
          have hi0 : (0 : Int) ≤ (i : Int) := by omega
          have hk0 : (0 : Int) ≤ (k : Int) := by omega
          have hk33 : (k : Int) < 3 := by omega
          obtain ⟨g, off, rfl, c0, c1, c2', c3, c4, hli, x0, x1, x2, x3, x4⟩ := hTl.cells HT5.out hil
          have hgw : g < w.heap.size := by
            rcases HGL.out with h | ⟨g', off', e, h⟩
            · rw [h] at hil; cases hil
            · injection e with e
              injection e with e1 e2
              omega
          have hx : wr.cell? ⟨xb, k, none⟩ = some (P (xs k)) := (hA.xblk.cell k).trans (HCS.out.2 k hk3)
          have hwk := hA.tri.wid k (Nat.zero_le _) hk3
          have hhk := hA.tri.has k (Nat.zero_le _) hk3
          have hak := hA.tri.at_ k (Nat.zero_le _) hk3
          have hck := hA.tri.cl k (Nat.zero_le _) hk3
          obtain ⟨f5, fz⟩ := HFT.out _ (List.getElem_mem hil)
          rw [hli] at f5 fz
          have hkn : k * nB 9 3 l.length + nB 9 3 l.length ≤ 900 := by
            have h1 : (k + 1) * nB 9 3 l.length ≤ 3 * nB 9 3 l.length := Nat.mul_le_mul_right _ (by omega)
            rw [Nat.add_mul] at h1
            have := HN2.out
            omega
          have hlk := (hA.fit k hk3).2
          have HPU := Lib.hid (put_sure (t := [c0, c1, c2', c3, c4]) (hA.wk.drew) ⟨hak.blk, fun hc => ⟨(hak.live hc).blk, (hak.live hc).row, (hak.live hc).len, (hak.live hc).out, (hak.live hc).st⟩, hak.width, hak.bound, hak.lies⟩ hck hhk hA.calm.sure (by rw [hwk.2.2.2, hwk.2.2.1, hA.calm.blocks]; exact hkn) rfl (by rw [hwk.1]; exact fz) (by rw [hhk.cnt, hwk.2.1]; omega) (by have := hA.calm.acts; omega) (fun g hg => hA.out g hg))
          rw [show (icells [c0, c1, c2', c3, c4]).toArray = #[.int .i64 c0.toInt, .int .i64 c1.toInt, .int .i64 c2'.toInt, .int .i64 c3.toInt, .int .i64 c4.toInt] from rfl] at HPU
          have HA := Lib.hid hA
          have HTL := Lib.hid hTl
          have HLI := Lib.hid hli
          have e0 : wr.drew.cell? ⟨g, off + i * 5, none⟩ = some (.int .i64 c0.toInt) := x0
          have e1 : wr.drew.cell? ⟨g, off + i * 5 + 1, none⟩ = some (.int .i64 c1.toInt) := x1
          have e2 : wr.drew.cell? ⟨g, off + i * 5 + 2, none⟩ = some (.int .i64 c2'.toInt) := x2
          have e3 : wr.drew.cell? ⟨g, off + i * 5 + 3, none⟩ = some (.int .i64 c3.toInt) := x3
          have e4 : wr.drew.cell? ⟨g, off + i * 5 + 4, none⟩ = some (.int .i64 c4.toInt) := x4
          have hxd : wr.drew.cell? ⟨xb, k, none⟩ = some (P (xs k)) := hx
          obtain ⟨t, ht⟩ : ∃ t : Tup, t = [c0, c1, c2', c3, c4] := ⟨_, rfl⟩
          rw [← ht] at HPU
          have hti : icells t = [.int .i64 c0.toInt, .int .i64 c1.toInt, .int .i64 c2'.toInt, .int .i64 c3.toInt, .int .i64 c4.toInt] := by rw [ht]; rfl
          have HTI := Lib.hid hti
          have HTF : Hid (t.length = 5 ∧ Crc.zeroW (t.drop 3) = true) := Lib.hid (by rw [ht]; exact ⟨f5, fz⟩)
          clear hti
          generalize c0.toInt = z0 at *
          generalize c1.toInt = z1 at *
          generalize c2'.toInt = z2 at *
          generalize c3.toInt = z3 at *
          generalize c4.toInt = z4 at *
          clear hA hTl hli hc1 hy hwk hhk hak hck f5 fz hkn hlk hl1 x0 x1 x2 x3 x4 ht
          go_wp2_with fail
          refine wp_reads_one 7 (by kernel_rfl) rfl (by kernel_rfl) (fun _ _ d _ _ h => by cases d <;> exact h) ?_; simp only [List.take_succ_cons, List.take_zero, List.drop_succ_cons, List.drop_zero]
          repeat (refine sg_step (fun K2 hK => ?_); go_simp; refine hK.out _ ?_; clear hK K2)
          refine sg_nil (fun K hK => ?_); go_simp
          refine HPU.out.mono ?_
          rintro e w6 hput
          rcases hput with ⟨⟨hq, rfl, hI6, hX6, ht6⟩, hH6⟩ | ⟨hf0, _⟩
          · refine hK.out _ _ ?_; clear hK K
            repeat (refine sg_step (fun K2 hK => ?_); go_simp; refine hK.out _ ?_; clear hK K2)
            refine sg_nil ?_
            have hA := HA.out
            have hId := hA.wk.drew
            have hTd := hA.tri.below hA.wk (Below.refl wr.heap.size wr).drew
            have hwk := hA.tri.wid k (Nat.zero_le _) hk3
            obtain ⟨ng1, ng2, ng3⟩ := next_goes hq
            obtain ⟨n1, n2', n3, n4, n5, n6, n7, n8, n9, n10⟩ := next_same (X k) W t
            have hTr6 := hTd.step (W' := { W with D := ((X k).next W t).2 }) hId hA.calm.size (Nat.zero_le _) hk3 ht6 n10 (fun p hp => hp) hX6 (n9.trans (hA.tri.cl k (Nat.zero_le _) hk3)) hH6 ⟨n3.trans hwk.1, n4.trans hwk.2.1, n2'.trans hwk.2.2.1, n1.trans hwk.2.2.2⟩ ⟨n6, n7⟩ ng3
            have hakd := hTd.at_ k (Nat.zero_le _) hk3
            have hbkd := hakd.live (hTd.cl k (Nat.zero_le _) hk3)
            have hlow := hTd.low k (Nat.zero_le _) hk3
            have hE : ∀ q tt cs', Blk wr.drew q tt cs' → tt ≠ 117 → tt ≠ 112 → tt ≠ 23 → ¬ Own (xs k) (X k) q := fun q tt cs' hb h1 h2 h3 => by
              rintro (e | e | e)
              · exact hb.ne_ hakd.blk h1 e
              · exact hb.ne_ hbkd.blk h2 e
              · exact hb.ne_ hbkd.row h3 e
            have hXb6 : Blk w6 xb 69 cs := hId.blk ht6 (show Blk wr.drew xb _ cs from hA.xblk) (by decide) (by decide) (by decide) (by decide) (by decide) (hE _ _ _ hA.xblk (by decide) (by decide) (by decide))
            have hPb6 : Blk w6 (xb + 1) 70 #[vs 0, vs 1, vs 2] := hId.blk ht6 (show Blk wr.drew (xb + 1) _ _ from hA.pblk) (by decide) (by decide) (by decide) (by decide) (by decide) (hE _ _ _ hA.pblk (by decide) (by decide) (by decide))
            have hRw6 : ∀ j, j < 3 → w6.ownsRow w.heap.size 45 5 (vs j) (ps j).length (flatT (ps j)) := fun j hj => own_tup hId ht6 (hA.rows j hj) (fun q cs' hb => hE q _ cs' hb (by decide) (by decide) (by decide))
            have hTl6 := (HTL.out.below (Below.refl wr.heap.size wr).drew).turn hId ht6 (fun q hq' => by
              rcases hq' with ⟨cs', hb⟩ | hb
              · exact hE q _ cs' hb (by decide) (by decide) (by decide)
              · rintro (e | e | e) <;> omega)
            have hB6 := Turn.belowB hId HK.out (fun q hq' => by
              have := HK.out
              rcases hq' with e | e | e <;> omega) (hA.bel.trans ((Below.refl _ _).drew.mono hA.bel.size)) ht6
            have hC6 := hA.calm.goes ng2
            have hO6 : ∀ q, w6.heap.size ≤ q → O q := fun q hq' => hA.out q (by have := ht6.size; have h2 : wr.drew.heap.size = wr.heap.size := rfl; omega)
            have hgo1 : Calm9 ((X k).next W t).2 (i + 1) := by
              refine hC6.mono ?_
              unfold Wr.next
              split
              · show i + (((X k).at_ + 1) - (X k).at_) ≤ i + 1; omega
              · show i + ((X k).at_ - (X k).at_) ≤ i + 1; omega
            obtain ⟨av, cv, hv, hTv, _⟩ := tps_own (K := K) (hRw6 k hk3) (fun t ht => ((hA.fit k hk3).1 t ht).1)
            have HV := Lib.hid hv
            clear hv
            have hvs : (#[vs 0, vs 1, vs 2] : Array Value)[k]? = some (vs k) := by
              rcases k with _ | _ | _ | k
              · rfl
              · rfl
              · rfl
              · omega
            have p6 : w6.cell? ⟨xb + 1, k, none⟩ = some (vs k) := (hPb6.cell k).trans hvs
            have y0 : w6.cell? ⟨g, off + i * 5, none⟩ = some (.int .i64 z0) := (cell_block (ht6.block g (cell_lt e0).1 (hId.under (by have := HK.out; omega) (fun e => by rcases e with e | e | e <;> have := HK.out <;> omega)))).trans e0
            have y1 : w6.cell? ⟨g, off + i * 5 + 1, none⟩ = some (.int .i64 z1) := (cell_block (ht6.block g (cell_lt e1).1 (hId.under (by have := HK.out; omega) (fun e => by rcases e with e | e | e <;> have := HK.out <;> omega)))).trans e1
            have y2 : w6.cell? ⟨g, off + i * 5 + 2, none⟩ = some (.int .i64 z2) := (cell_block (ht6.block g (cell_lt e2).1 (hId.under (by have := HK.out; omega) (fun e => by rcases e with e | e | e <;> have := HK.out <;> omega)))).trans e2
            have y3 : w6.cell? ⟨g, off + i * 5 + 3, none⟩ = some (.int .i64 z3) := (cell_block (ht6.block g (cell_lt e3).1 (hId.under (by have := HK.out; omega) (fun e => by rcases e with e | e | e <;> have := HK.out <;> omega)))).trans e3
            have y4 : w6.cell? ⟨g, off + i * 5 + 4, none⟩ = some (.int .i64 z4) := (cell_block (ht6.block g (cell_lt e4).1 (hId.under (by have := HK.out; omega) (fun e => by rcases e with e | e | e <;> have := HK.out <;> omega)))).trans e4
            clear HPU hxd e0 e1 e2 e3 e4
            go_wp2_with fail
            refine yg_begin (fun w' => w'.cell? ⟨xb + 1, k, none⟩ = some (vs k) ∧ w'.cell? ⟨g, off + i * 5, none⟩ = some (.int .i64 z0) ∧ w'.cell? ⟨g, off + i * 5 + 1, none⟩ = some (.int .i64 z1) ∧ w'.cell? ⟨g, off + i * 5 + 2, none⟩ = some (.int .i64 z2) ∧ w'.cell? ⟨g, off + i * 5 + 3, none⟩ = some (.int .i64 z3) ∧ w'.cell? ⟨g, off + i * 5 + 4, none⟩ = some (.int .i64 z4)) [0, 1, 2, 3, 4, 5, 6, 7] [8, 9, 10, 11] (by kernel_rfl) (by kernel_rfl) (fun _ _ d _ _ h => by cases d <;> exact h) ⟨p6, y0, y1, y2, y3, y4⟩ ?_
            refine yg_read _ (.int .i64 (k : Int)) rfl rfl (fun w' hF => by simp [execOp, Act.eval, go_sem]) ?_
            refine yg_read _ (.int .i64 (k : Int)) rfl rfl (fun w' hF => by simp [execOp, Act.eval, go_sem]) ?_
            refine yg_read _ (.pointer (some ⟨xb + 1, k, none⟩)) rfl rfl (fun w' hF => by simp [execOp, Act.eval, go_sem, hk0, hk33]) ?_
            refine yg_read _ (vs k) rfl rfl (fun w' hF => by simp [execOp, Act.eval, go_sem, hF.1]) ?_
            refine yg_read _ (.slice (some ⟨g, off, none⟩) l.length c) rfl rfl (fun w' hF => by simp [execOp, Act.eval, go_sem]) ?_
            refine yg_read _ (.int .i64 (i : Int)) rfl rfl (fun w' hF => by simp [execOp, Act.eval, go_sem]) ?_
            refine yg_read _ (.pointer (some ⟨g, off + i * 5, none⟩)) rfl rfl (fun w' hF => by simp [execOp, Act.eval, go_sem, hi0, hlt1]) ?_
            refine yg_read _ (.agg #[.int .i64 z0, .int .i64 z1, .int .i64 z2, .int .i64 z3, .int .i64 z4]) rfl rfl (fun w' hF => by obtain ⟨_, u0, u1, u2, u3, u4⟩ := hF; simp [execOp, Act.eval, go_sem, u0, u1, u2, u3, u4]) ?_
            refine yg_end ?_
            have hb7 : Below w6.heap.size w6 (w6.alloc (.cells #[.int .i64 z0, .int .i64 z1, .int .i64 z2, .int .i64 z3, .int .i64 z4] 45)).drew := ((Below.refl _ _).alloc (Nat.le_refl _) _).drew
            have hFof : ∀ {w' : World}, Below w6.heap.size w6 w' → (w'.cell? ⟨xb + 1, k, none⟩ = some (vs k) ∧ w'.cell? ⟨g, off + i * 5, none⟩ = some (.int .i64 z0) ∧ w'.cell? ⟨g, off + i * 5 + 1, none⟩ = some (.int .i64 z1) ∧ w'.cell? ⟨g, off + i * 5 + 2, none⟩ = some (.int .i64 z2) ∧ w'.cell? ⟨g, off + i * 5 + 3, none⟩ = some (.int .i64 z3) ∧ w'.cell? ⟨g, off + i * 5 + 4, none⟩ = some (.int .i64 z4)) := fun hb => ⟨(hb.cell (cell_lt p6).1).trans p6, (hb.cell (cell_lt y0).1).trans y0, (hb.cell (cell_lt y1).1).trans y1, (hb.cell (cell_lt y2).1).trans y2, (hb.cell (cell_lt y3).1).trans y3, (hb.cell (cell_lt y4).1).trans y4⟩
            refine sf_step _ rfl (fun K8 hK8 => ?_)
            go_simp
            refine hK8.out _ _ (fun _ => hFof hb7) ?_
            clear hK8 K8
            have hI7 := hI6.below hb7
            have hO7 := own_chg (hRw6 k hk3) (Chg.of_below' (S := fun _ => False) hb7) (fun _ _ h => h)
            have hrw := Row.new w6.drew #[.int .i64 z0, .int .i64 z1, .int .i64 z2, .int .i64 z3, .int .i64 z4] 45 (0, 0)
            have hw67 : w.heap.size ≤ w6.heap.size := hB6.size
            have hpl : (ps k).length ≤ 300 := by have := (hA.fit k hk3).2; omega
            refine sf_step _ rfl (fun K9 hK9 => ?_)
            refine step_append rfl (.tmp 92) (.tmp 97) _ rfl el_tup w.heap.size (vs k) (ps k).length (flatT (ps k)) (by simp [Act.eval]) hO7 _ 1 1 [.int .i64 z0, .int .i64 z1, .int .i64 z2, .int .i64 z3, .int .i64 z4] (by simp [Act.eval]) rfl hrw (by intro u hu; simp at hu; rcases hu with rfl | rfl | rfl | rfl | rfl <;> rfl) (by unfold maxLen; omega) (by omega) (by have := hb7.size; omega) ?_
            intro v9 w9 hown9 hg9 hv9 hb9
            obtain ⟨g9, c9, rfl, _, _⟩ := World.ownsRow.form hown9 (by omega)
            have hc9 := Chg.of_grown hg9
            obtain ⟨hI9, hT9⟩ := aside_tup hI7 hO7 hc9
            have hne9 : ∀ q tt cs', Blk (w6.alloc (.cells #[.int .i64 z0, .int .i64 z1, .int .i64 z2, .int .i64 z3, .int .i64 z4] 45)).drew q tt cs' → tt ≠ 45 → ¬ some q = (vs k).ownBlock := fun q tt cs' hq' ht e => by
              obtain ⟨_, cs'', hb⟩ := own_blk hO7 e.symm
              exact hq'.ne_ hb ht rfl
            have hPb9 := (hPb6.below hb7 hPb6.lt).chg hc9 (hne9 _ _ _ (hPb6.below hb7 hPb6.lt) (by decide))
            have hXb9 := (hXb6.below hb7 hXb6.lt).chg hc9 (hne9 _ _ _ (hXb6.below hb7 hXb6.lt) (by decide))
            have hgn : ¬ some g = (vs k).ownBlock := fun e => by
              have := (own_blk hO7 e.symm).1
              omega
            obtain ⟨m0, m1, m2, m3, m4, m5⟩ := hFof hb7
            have F9 := (⟨(hPb9.cell k).trans hvs, hc9.cell m1 hgn, hc9.cell m2 hgn, hc9.cell m3 hgn, hc9.cell m4 hgn, hc9.cell m5 hgn⟩ : w9.cell? ⟨xb + 1, k, none⟩ = some (vs k) ∧ w9.cell? ⟨g, off + i * 5, none⟩ = some (.int .i64 z0) ∧ w9.cell? ⟨g, off + i * 5 + 1, none⟩ = some (.int .i64 z1) ∧ w9.cell? ⟨g, off + i * 5 + 2, none⟩ = some (.int .i64 z2) ∧ w9.cell? ⟨g, off + i * 5 + 3, none⟩ = some (.int .i64 z3) ∧ w9.cell? ⟨g, off + i * 5 + 4, none⟩ = some (.int .i64 z4))
            refine hK9.out _ _ (fun _ => F9) ?_
            clear hK9 K9
            refine sf_step _ rfl (fun K10 hK10 => ?_)
            go_simp
            refine hK10.out _ _ (fun _ => F9) ?_
            clear hK10 K10
            have f9 := F9.1
            have z9 := hPb9.frozen k
            refine sf_step _ rfl (fun K11 hK11 => ?_)
            go_simp
            refine hK11.out _ _ (fun h => absurd rfl h) ?_
            clear hK11 K11
            refine sf_end ?_
            obtain ⟨s1, s2, s3⟩ := aside_store hI9 hPb9 k (.slice (some ⟨g9, 0, none⟩) ((ps k).length + 1) c9) ⟨by decide, by decide, by decide, by decide, by decide, by decide, by decide, by decide⟩
            have hT610 : Turn K (fun q => some q = (vs k).ownBlock ∨ q = xb + 1) w6 (w9.setCell ⟨xb + 1, k, none⟩ (.slice (some ⟨g9, 0, none⟩) ((ps k).length + 1) c9)) := (Turn.below hb7).trans ((hT9.mono (fun q hq => .inl hq)).trans (s3.mono (fun q hq => .inr hq)))
            have hne6 : ∀ q tt cs', Blk w6 q tt cs' → tt ≠ 45 → tt ≠ 70 → ¬ (some q = (vs k).ownBlock ∨ q = xb + 1) := fun q tt cs' hq' h1 h2 e => by
              rcases e with e | e
              · obtain ⟨_, cs'', hb⟩ := own_blk (hRw6 k hk3) e.symm
                exact hq'.ne_ hb h1 rfl
              · exact hq'.ne_ hPb6 h2 e
            have hTr10 := hTr6.frame (W' := { W with D := ((X k).next W t).2 }) (O' := O) hI6 hT610 (fun j j1 j2 => by
              have a := hTr6.at_ j j1 j2
              have b := a.live (hTr6.cl j j1 j2)
              exact ⟨hne6 _ _ _ a.blk (by decide) (by decide), hne6 _ _ _ b.blk (by decide) (by decide), hne6 _ _ _ b.row (by decide) (by decide)⟩) (fun _ _ h => h) rfl (fun _ h _ => h) (fun _ _ _ _ _ => rfl)
            have hXb10 := hI6.blk hT610 hXb6 (by decide) (by decide) (by decide) (by decide) (by decide) (hne6 _ _ _ hXb6 (by decide) (by decide))
            have hTl10 : Tps K (w9.setCell ⟨xb + 1, k, none⟩ (.slice (some ⟨g9, 0, none⟩) ((ps k).length + 1) c9)) (some ⟨g, off, none⟩) l := by
              have hgK : g < K.base := by have := HK.out; omega
              have hgl : g < w6.heap.size := by omega
              have hbl := hT610.block g hgl (hI6.under hgK (fun e => by
                rcases e with e | e
                · have := (own_blk (hRw6 k hk3) e.symm).1; omega
                · omega))
              rcases hTl6 with h | ⟨g', off', e, h1, h2, h3⟩
              · exact .inl h
              · injection e with e
                injection e with e1 e2
                subst e1 e2
                exact .inr ⟨g, off, rfl, Nat.lt_of_lt_of_le h1 hT610.size, .inr hgK, fun j hj i hi => by rw [cell_block hbl]; exact h3 j hj i hi⟩
            have hB10 := Turn.belowB hI6 HK.out (fun q hq' => by
              rcases hq' with e | e
              · exact (own_blk (hRw6 k hk3) e.symm).1
              · omega) hB6 hT610
            have hkk : (ps k ++ [t]).length = (ps k).length + 1 := by simp
            have hrow : (w9.setCell ⟨xb + 1, k, none⟩ (.slice (some ⟨g9, 0, none⟩) ((ps k).length + 1) c9)).ownsRow w.heap.size 45 5 (.slice (some ⟨g9, 0, none⟩) ((ps k).length + 1) c9) (ps k ++ [t]).length (flatT (ps k ++ [t])) := by
              have h1 := own_tup hI9 s3 hown9 (fun q cs' hb e => hb.ne_ hPb9 (by decide) e)
              rw [hkk, flatT_append, show flatT [t] = icells t from by simp [flatT], HTI.out]
              exact h1
            have HNX : Hid (A2 w (w9.setCell ⟨xb + 1, k, none⟩ (.slice (some ⟨g9, 0, none⟩) ((ps k).length + 1) c9)) xb (xb + 1) O K { W with D := ((X k).next W t).2 } l.length xs cs (fun j => if j = k then ((X k).next W t).1 else X j) (fun j => if j = k then ps k ++ [t] else ps j) (fun j => if j = k then .slice (some ⟨g9, 0, none⟩) ((ps k).length + 1) c9 else vs j) 0 (i + 1) (i + 1) 27) := Lib.hid (by
              refine ⟨s1, fun q hq' => hO6 q (by have := hT610.size; omega), hTr10, hgo1, hA.used, hA.room, hXb10, ?_, fun j hj => ?_, fun j j' hj hj' hjj q hq1 hq2 => ?_, fun j hj => ?_, hB10⟩
              · have : (#[vs 0, vs 1, vs 2] : Array Value).setIfInBounds k (.slice (some ⟨g9, 0, none⟩) ((ps k).length + 1) c9) = #[(fun j => if j = k then Value.slice (some ⟨g9, 0, none⟩) ((ps k).length + 1) c9 else vs j) 0, (fun j => if j = k then Value.slice (some ⟨g9, 0, none⟩) ((ps k).length + 1) c9 else vs j) 1, (fun j => if j = k then Value.slice (some ⟨g9, 0, none⟩) ((ps k).length + 1) c9 else vs j) 2] := by
                  rcases k with _ | _ | _ | k
                  · simp
                  · simp
                  · simp
                  · omega
                rw [← this]
                exact s2
              · by_cases hjk : j = k
                · subst hjk
                  simp only [if_pos]
                  exact hrow
                · simp only [if_neg hjk]
                  have r7 := own_chg (hRw6 j hj) (Chg.of_below' (S := fun _ => False) hb7) (fun _ _ h => h)
                  have r9 := own_chg r7 hc9 (fun q hq1 hq2 => hA.far j k hj hk3 hjk q hq1 hq2.symm)
                  exact own_tup hI9 s3 r9 (fun q cs' hb e => hb.ne_ hPb9 (by decide) e)
              · have hfar : ∀ j, j < 3 → j ≠ k → ∀ q, (vs j).ownBlock = some q → (Value.slice (some ⟨g9, 0, none⟩) ((ps k).length + 1) c9).ownBlock ≠ some q := fun j hj hjk q h1 h2 => by
                  rcases hv9 with hv | hv
                  · exact hA.far k j hk3 hj (fun e => hjk e.symm) q (by rw [← hv]; exact h2) h1
                  · rw [hv] at h2
                    injection h2 with h2
                    have h3 := ((hRw6 j hj).lt q h1).2
                    have h4 := hb7.size
                    omega
                by_cases hjk : j = k
                · have hjk' : j' ≠ k := fun e => hjj (hjk.trans e.symm)
                  simp only [if_pos hjk] at hq1
                  simp only [if_neg hjk'] at hq2
                  exact hfar j' hj' hjk' q hq2 hq1
                · simp only [if_neg hjk] at hq1
                  by_cases hjk' : j' = k
                  · simp only [if_pos hjk'] at hq2
                    exact hfar j hj hjk q hq1 hq2
                  · simp only [if_neg hjk'] at hq2
                    exact hA.far j j' hj hj' hjj q hq1 hq2
              · by_cases hjk : j = k
                · subst hjk
                  simp only [if_pos]
                  refine ⟨fun u hu => ?_, by rw [hkk]; have := (hA.fit j hj).2; omega⟩
                  rcases List.mem_append.1 hu with hu | hu
                  · exact (hA.fit j hj).1 u hu
                  · rw [List.mem_singleton.1 hu]; exact HTF.out
                · simp only [if_neg hjk]
                  exact ⟨(hA.fit j hj).1, by have := (hA.fit j hj).2; omega⟩)
            have HTLX := Lib.hid hTl10
            generalize (w9.setCell ⟨xb + 1, k, none⟩ (.slice (some ⟨g9, 0, none⟩) ((ps k).length + 1) c9)) = w10 at *
            clear hA hId hTd hwk ng1 ng2 ng3 n1 n2' n3 n4 n5 n6 n7 n8 n9 n10 hTr6 hakd hbkd hlow hE hXb6 hPb6 hRw6 hTl6 hB6 hC6 hO6 hgo1 hTv hvs p6 y0 y1 y2 y3 y4 hb7 hFof hI7 hO7 hrw hown9 hg9 hv9 hb9 hc9 hI9 hT9 hne9 hPb9 hXb9 hgn m0 m1 m2 m3 m4 m5 F9 f9 z9 s1 s2 s3 hT610 hne6 hTr10 hXb10 hTl10 hB10 hkk hrow hI6 hX6 ht6 hH6 hq HA HTL HLI
            go_wp2_with fail
            go_roundw
            case rel => exact ⟨i + 1, O, _, _, _, _, by go_num, by omega, by omega, HNX.out, HTLX.out⟩
            case measure => simp [intOf]; omega
          · exact absurd hf0 (by rw [HA.out.calm.fault]; decide)
        · have HS3 := Lib.hid (show A2 w wr xb (xb + 1) O K W l.length xs cs X ps vs 0 300 300 27 from ⟨hA.wk, hA.out, hA.tri, hA.calm.mono (by omega), hA.used, hA.room, hA.xblk, hA.pblk, hA.rows, hA.far, fun k hk => ⟨(hA.fit k hk).1, by have := (hA.fit k hk).2; omega⟩, hA.bel⟩)
          have HND : Hid (¬ ((i : Int) < (l.length : Int) ∧ (i : Int) < (n2 : Int))) := Lib.hid hlt
          clear hA hTl hlt
          have go : ∀ {p : Prop}, (¬ (i : Int) < (l.length : Int) → p) → ((i : Int) < (l.length : Int) → ¬ (i : Int) < (n2 : Int) → p) → p := fun h1 h2 => by
            by_cases h : (i : Int) < (l.length : Int)
            · exact h2 h (fun h' => HND.out ⟨h, h'⟩)
            · exact h1 h
          refine go (fun h1 => ?_) (fun h1 h2 => ?_)
          all_goals
            clear go
            go_wp2_with fail
            go_loopw [14] (fun iv wr => A3L w xb (xb + 1) K l.length xs cs X ps vs iv wr) (fun iv _ => 3 - (intOf iv).toNat)
            case atStart => exact ⟨0, O, W, rfl, Nat.zero_le _, HS3.out⟩
            case round =>
              clear HS3
              obtain ⟨k, O, W, rfl, hk, hA⟩ := hrel
              by_cases hk3' : (k : Int) < 3
              · have hk3 : k < 3 := by omega
                have hx : wr.cell? ⟨xb, k, none⟩ = some (P (xs k)) := (hA.xblk.cell k).trans (HCS.out.2 k hk3)
                have hk0 : (0 : Int) ≤ (k : Int) := by omega
                have hwk := hA.tri.wid k (Nat.le_refl _) hk3
                have hhk := hA.tri.has k (Nat.le_refl _) hk3
                have hak := hA.tri.at_ k (Nat.le_refl _) hk3
                have hck := hA.tri.cl k (Nat.le_refl _) hk3
                have hkn : k * nB 9 3 l.length + nB 9 3 l.length ≤ 900 := by
                  have h1 : (k + 1) * nB 9 3 l.length ≤ 3 * nB 9 3 l.length := Nat.mul_le_mul_right _ (by omega)
                  rw [Nat.add_mul] at h1
                  have := HN2.out
                  omega
                have HCL := Lib.hid (close_sure hA.wk hak hck hhk hA.calm.sure (by rw [hwk.2.2.2, hwk.2.2.1, hA.calm.blocks]; exact hkn) (by have := hA.calm.acts; omega) hA.out)
                have HA := Lib.hid hA
                clear hA hwk hhk hak hck hkn
                go_wp2_with fail
                refine HCL.out.mono ?_
                rintro e w6 hcl
                rcases hcl with ⟨L', D', rfl, hgv, hli, hgo, hat1, hat2, hnow, hI6, hX6, ht6⟩ | ⟨hf0, _⟩
                · have hA := HA.out
                  have hwk := hA.tri.wid k (Nat.le_refl _) hk3
                  have hak := hA.tri.at_ k (Nat.le_refl _) hk3
                  have hbk := hak.live (hA.tri.cl k (Nat.le_refl _) hk3)
                  have hlow := hA.tri.low k (Nat.le_refl _) hk3
                  rw [hA.calm.size, hwk.1] at hli hgo hat1 hat2 hnow ⊢
                  rw [hwk.2.2.1] at hat2
                  have hC6 := hA.calm.goes hgo
                  have hE : ∀ q tt cs', Blk wr q tt cs' → tt ≠ 117 → tt ≠ 112 → tt ≠ 23 → ¬ (Own (xs k) (X k) q ∨ wr.heap.size ≤ q) := fun q tt cs' hb h1 h2 h3 => by
                    rintro ((e | e | e) | e)
                    · exact hb.ne_ hak.blk h1 e
                    · exact hb.ne_ hbk.blk h2 e
                    · exact hb.ne_ hbk.row h3 e
                    · have := hb.lt; omega
                  have hw1 : w.heap.size ≤ wr.heap.size := hA.bel.size
                  have hB6 := Turn.belowB hA.wk HK.out (fun q hq' => by
                    have := HK.out
                    rcases hq' with (e | e | e) | e <;> omega) hA.bel ht6
                  have hTr6 := (hA.tri.sub (lo' := k + 1) (by omega) (Nat.le_refl 3)).frame (W' := { W with D := D', A := W.A.release (X k).buf W.D.size, L := L' }) (O' := O) hA.wk ht6 (fun j j1 j2 => by
                    obtain ⟨o1, o2, o3⟩ := hA.tri.other (j := j) (k := k) (by omega) j2 (Nat.le_refl _) hk3 (by omega)
                    have aj := hA.tri.at_ j (by omega) j2
                    have bj := aj.live (hA.tri.cl j (by omega) j2)
                    exact ⟨fun e => e.elim o1 (fun e => by have := aj.blk.lt; omega), fun e => e.elim o2 (fun e => by have := bj.blk.lt; omega), fun e => e.elim o3 (fun e => by have := bj.row.lt; omega)⟩) (fun _ _ h => h) hgo.size (fun p hp ⟨j, j1, j2, e⟩ => by
                    unfold Arena.Ar.release
                    refine List.mem_filter.2 ⟨hp, ?_⟩
                    have := (hA.tri.ne j k (by omega) j2 (Nat.le_refl _) hk3 (by omega)).2.1
                    rw [e]
                    simpa using this) (fun j j1 j2 i hi => hnow _ (fun j' _ hj' e => by
                      have e' : (X j).first + i = (X k).first + j' := by omega
                      rw [(hA.tri.wid j (by omega) j2).2.2.2, hwk.2.2.2] at e'
                      exact range_ne (by omega) (by have := hA.tri.at_le hA.calm.size (k := j) (by omega) j2; omega) (by omega) e'))
                  have hXb6 := hA.wk.blk ht6 hA.xblk (by decide) (by decide) (by decide) (by decide) (by decide) (hE _ _ _ hA.xblk (by decide) (by decide) (by decide))
                  have hPb6 := hA.wk.blk ht6 hA.pblk (by decide) (by decide) (by decide) (by decide) (by decide) (hE _ _ _ hA.pblk (by decide) (by decide) (by decide))
                  have hRw6 : ∀ j, j < 3 → w6.ownsRow w.heap.size 45 5 (vs j) (ps j).length (flatT (ps j)) := fun j hj => own_tup hA.wk ht6 (hA.rows j hj) (fun q cs' hb => hE q _ cs' hb (by decide) (by decide) (by decide))
                  obtain ⟨n, hn⟩ : ∃ n, n = nB 9 3 (ps k).length := ⟨_, rfl⟩
                  obtain ⟨f, hf⟩ : ∃ f, f = if nB 9 3 (ps k).length = 0 then 0 else (X k).first := ⟨_, rfl⟩
                  have hnl : n ≤ nB 9 3 l.length := by omega
                  have hkn : k * nB 9 3 l.length + nB 9 3 l.length ≤ 900 := by
                    have h1 : (k + 1) * nB 9 3 l.length ≤ 3 * nB 9 3 l.length := Nat.mul_le_mul_right _ (by omega)
                    rw [Nat.add_mul] at h1
                    have := HN2.out
                    omega
                  have hff : f + n ≤ 900 := by
                    rw [hf]
                    split
                    · omega
                    · rw [hwk.2.2.2]; omega
                  have hliF : Lies D' 3 f n (ps k) := by
                    rw [hf]
                    split
                    · rename_i h0
                      intro j hj
                      omega
                    · rw [hn]; exact hli
                  have hbn : Below w6.heap.size w6 (w6.alloc (.cells (fcells f n 3 (ps k).length) 32)) := (Below.refl _ _).alloc (Nat.le_refl _) _
                  have hIa := hI6.below hbn
                  have hus : W.A.used = 9 * (3 - k) := hA.used
                  have HLS := Lib.hid (list_c 3 f (ps k) hIa hC6.sure (by omega) (by omega) (by have := (hA.fit k hk3).2; omega) (hA.fit k hk3).1 (by show Lies D' 3 f (nB D'.size 3 (ps k).length) (ps k); rw [hC6.size, ← hn]; exact hliF) (.inr (by show f + nB D'.size 3 (ps k).length ≤ D'.blocks; rw [hC6.size, hC6.blocks, ← hn]; exact hff)) (by omega) (by show D'.size ≤ W.A.room - (W.A.used - W.D.size); rw [hC6.size, hA.room, hA.calm.size]; omega) (by show D'.acts + (ps k).length + 1 < _; have := hC6.acts; have := (hA.fit k hk3).2; omega))
                  have hd9 : ({ W with D := D', A := W.A.release (X k).buf W.D.size, L := L' } : Wk).D.size = 9 := hC6.size
                  rw [hd9, ← hn] at HLS
                  rw [← hf, ← hn]
                  rw [show fcells f n 3 (ps k).length = #[.int .i64 (f : Int), .int .i64 (n : Int), .int .i64 3, .int .i64 ((ps k).length : Int)] from rfl] at HLS hIa hbn ⊢
                  have hTr7 := hTr6.below hI6 hbn
                  have hXb7 := hXb6.below hbn hXb6.lt
                  have hPb7 := hPb6.below hbn hPb6.lt
                  have hRw7 : ∀ j, j < 3 → (w6.alloc (.cells #[.int .i64 (f : Int), .int .i64 (n : Int), .int .i64 3, .int .i64 ((ps k).length : Int)] 32)).ownsRow w.heap.size 45 5 (vs j) (ps j).length (flatT (ps j)) := fun j hj => own_chg (hRw6 j hj) (Chg.of_below' (S := fun _ => False) hbn) (fun _ _ h => h)
                  have hB7 := hB6.trans (hbn.mono hB6.size)
                  have hO7 : ∀ q, (w6.alloc (.cells #[.int .i64 (f : Int), .int .i64 (n : Int), .int .i64 3, .int .i64 ((ps k).length : Int)] 32)).heap.size ≤ q → O q := fun q hq => hA.out q (by have := ht6.size; have := hbn.size; omega)
                  have HTr7 := Lib.hid hTr7
                  have HXb7 := Lib.hid hXb7
                  have HPb7 := Lib.hid hPb7
                  have HRw7 := Lib.hid hRw7
                  have HB7 := Lib.hid hB7
                  have HO7 := Lib.hid hO7
                  have HIa := Lib.hid hIa
                  have HC6 := Lib.hid hC6
                  have HUR := Lib.hid (And.intro hA.used (And.intro hA.room hA.calm.size))
                  have HNN := Lib.hid (And.intro hn (And.intro hnl hat1))
                  have HFF := Lib.hid hff
                  clear hA hwk hak hbk hlow hC6 hE hw1 hB6 hTr6 hXb6 hPb6 hRw6 hliF hbn hIa hus hd9 hTr7 hXb7 hPb7 hRw7 hB7 hO7 hgv hli hgo hat1 hat2 hnow hI6 hX6 ht6 hn hf hnl hkn hff HCL hx
                  go_wp2_with fail
                  generalize (w6.alloc (.cells #[.int .i64 (f : Int), .int .i64 (n : Int), .int .i64 3, .int .i64 ((ps k).length : Int)] 32)) = w7 at *
                  refine HLS.out.mono ?_
                  rintro e w8 ⟨W8, O8, ho8, hI8, ht8, hW8, hres8⟩
                  rcases hres8 with ⟨v, rfl, hown, hg8⟩ | ⟨hbad, _⟩
                  · obtain ⟨a8, c8, rfl, hT8, _⟩ := tps_own (K := K) hown (fun t ht => ((HA.out.fit k hk3).1 t ht).1)
                    have hTr8 := HTr7.out.frame (W' := W8) (O' := O8) HIa.out ht8 (fun _ _ _ => ⟨fun h => h, fun h => h, fun h => h⟩) ho8.2 hW8.size (fun p hp _ => by rw [hW8.arn]; exact hp) (fun _ _ _ _ _ => by rw [hW8.now])
                    have hXb8 := HIa.out.blk ht8 HXb7.out (by decide) (by decide) (by decide) (by decide) (by decide) (fun h => h)
                    have hPb8 := HIa.out.blk ht8 HPb7.out (by decide) (by decide) (by decide) (by decide) (by decide) (fun h => h)
                    have hRw8 : ∀ j, j < 3 → w8.ownsRow w.heap.size 45 5 (vs j) (ps j).length (flatT (ps j)) := fun j hj => own_tup HIa.out ht8 (HRw7.out j hj) (fun _ _ _ h => h)
                    have hB8 := Turn.belowB HIa.out HK.out (fun _ h => h.elim) HB7.out ht8
                    obtain ⟨av, cv, hv, hTv, _⟩ := tps_own (K := K) (hRw8 k hk3) (fun t ht => ((HA.out.fit k hk3).1 t ht).1)
                    have HSM := Lib.hid (refsame_yes (ps k) a8 av c8 cv w8 hT8 hTv (fun t ht => ((HA.out.fit k hk3).1 t ht).1) (by have := (HA.out.fit k hk3).2; omega))
                    have hvs : (#[vs 0, vs 1, vs 2] : Array Value)[k]? = some (vs k) := by
                      rcases k with _ | _ | _ | k
                      · rfl
                      · rfl
                      · rfl
                      · omega
                    have p8 : w8.cell? ⟨xb + 1, k, none⟩ = some (.slice av (ps k).length cv) := by rw [hPb8.cell k, hvs, hv]
                    have hC8 : Calm9 W8.D (300 + 1000 * (k + 1)) := by
                      have h6 := HC6.out
                      refine ⟨hW8.sure, hW8.fault h6.fault, hW8.size.trans h6.size, hW8.blocks.trans h6.blocks, ?_⟩
                      have h1 := h6.acts
                      have h2 := hg8.acts
                      have h3 : nB ({ W with D := D', A := W.A.release (X k).buf W.D.size, L := L' } : Wk).D.size 3 (ps k).length = n := by
                        show nB D'.size 3 _ = n
                        rw [h6.size]
                        exact HNN.out.1.symm
                      rw [h3] at h2
                      have h4 : W8.D.acts = D'.acts + n := h2
                      have := HNN.out.2.1
                      have := HN2.out
                      have := HNN.out.2.2
                      have := HNN.out.1
                      omega
                    have hus8 : W8.A.used = 9 * (3 - (k + 1)) := by
                      rw [hW8.arn]
                      show W.A.used - W.D.size = _
                      rw [HUR.out.1, HUR.out.2.2]
                      omega
                    have hrm8 : W8.A.room = 900 := by rw [hW8.arn]; exact HUR.out.2.1
                    have HNX : ∀ m, Hid (A3L w xb (xb + 1) K l.length xs cs X ps vs (.int .i64 ((k : Int) + 1)) (w8.drewN m)) := fun m => Lib.hid ⟨k + 1, O8, W8, by go_num, by omega, ⟨hI8.drewN m, fun q hq => ho8.1 q hq, hTr8.below hI8 ⟨rfl, rfl, rfl, Nat.le_refl _, fun _ _ => rfl⟩, hC8, hus8, hrm8, hXb8, hPb8, hRw8, HA.out.far, HA.out.fit, ⟨hB8.os, hB8.tape, hB8.output, hB8.size, hB8.block⟩⟩⟩
                    clear hTr8 hXb8 hPb8 hRw8 hB8 hv hTv hvs hC8 hus8 hrm8 hI8 ht8 hW8 hg8 hown hT8 ho8 HLS HTr7 HXb7 HPb7 HRw7 HB7 HO7 HIa HC6 HUR HNN HFF HA
                    go_wp2_with fail
                    refine HSM.out.mono ?_
                    rintro e w9 ⟨rfl, m, rfl⟩
                    go_wp2_with fail
                    go_roundw
                    case rel => exact (HNX m).out
                    case measure => simp [intOf]; omega
                  · exact absurd (HC6.out.fault) hbad
                · exact absurd hf0 (by rw [HA.out.calm.fault]; decide)
              · obtain rfl : k = 3 := by omega
                have HI := Lib.hid hA.wk
                have HBL := Lib.hid hA.bel
                have hus : W.A.used = 0 := hA.used
                have HUS := Lib.hid hus
                clear hA hus
                go_wp2_with fail
                refine (arena_any HI.out).mono ?_
                rintro e w6 ⟨rfl, rfl⟩
                go_wp2_with fail
                refine (used_w HI.out).mono ?_
                rintro e w6 ⟨rfl, rfl⟩
                rw [HUS.out]
                go_wp2_with fail
                go_ret
                exact ⟨rfl, HBL.out⟩
theorem FileApart_law {w : World} (a : Option Addr) (n c : Nat) (l : List (List Int)) (hl : rdSlice 5 (rdArr 5 1 (rdInt .i64)) w [.slice a n c] l) (a2 : Option Addr) (n2 c2 : Nat) (l2 : List Int) (hl2 : rdSlice 1 (rdInt .u8) w [.slice a2 n2 c2] l2) :
    Calls Try.prog 5 #[.slice a n c, .slice a2 n2 c2] w fun e w' => e = .returned (.bool true) ∧ Below w.heap.size w w' := by
  obtain ⟨lt, hn, h5, hm, _, hT⟩ := tups_of hl
  subst hn
  obtain ⟨h1, h2, h3, h4, h6⟩ := rdSlice_ints hl2
  exact FileApart_walk a c lt hT h5 hm a2 n2 c2 l2 h4 h1 h6 (by omega)

end Go.Proofs.Ytmmkncocgjgapaa.Fl
