/- The walk of the law SealBack. -/
import Derived.Test.YtoodkfjldflbeaaSealElse
set_option linter.unusedVariables false
namespace Go.Proofs.Ytoodkfjldflbeaa.Crc
open Go.RowKit

@[go_sem] theorem xor64 (s t : BitVec 64) : bits BinOp.xor IntKind.u64 (I64 s) (I64 t) = I64 (s ^^^ t) :=
  bits64 (· ^^^ ·) _ _ s t rfl rfl
theorem I64_spread (d : BitVec 32) : I64 (spread d false) = I32 d ∧ I64 (spread d true) = I32 d * 4294967296 := by
  unfold I32 I64 spread
  have := d.isLt
  rw [if_neg (by decide), if_pos rfl, BitVec.toNat_shiftLeft, BitVec.toNat_setWidth, Nat.shiftLeft_eq]
  omega
@[go_sem] theorem shl_spread (d : BitVec 32) : IntKind.u64.wrap (I64 (spread d false) * 4294967296) = I64 (spread d true) := by
  rw [(I64_spread d).1, (I64_spread d).2, IntKind.wrap_u64]
  have := I32_lt d
  omega
@[go_sem] theorem shl_spread' (d : BitVec 32) : I64 (spread d false) * 4294967296 % 18446744073709551616 = I64 (spread d true) := by
  rw [← shl_spread, IntKind.wrap_u64]

theorem words_set (m : List (BitVec 64)) (k : Nat) (x : BitVec 64) : (words m).toArray.setIfInBounds k (.int .u64 (I64 x)) = (words (m.set k x)).toArray := by
  apply Array.toList_inj.1
  unfold words
  rw [Array.toList_setIfInBounds, List.map_set]

theorem rdArr3_ints {k : IntKind} {w : World} {cs : Array Value} {l : List Int} (h : rdArr 3 1 (rdInt k) w cs.toList l) :
    ∃ d e f, cs = #[.int k d, .int k e, .int k f] ∧ (Lit.int k d).wf = true ∧ (Lit.int k e).wf = true ∧ (Lit.int k f).wf = true := by
  obtain ⟨hc, hl, hr⟩ := h
  obtain ⟨cs⟩ := cs
  match cs, l, hc, hl with
  | [c0, c1, c2], [d, e, f], _, _ =>
    have h0 := hr 0 (by simp)
    have h1 := hr 1 (by simp)
    have h2 := hr 2 (by simp)
    simp only [rdInt, Nat.zero_mul, List.drop_zero, List.take_succ_cons, List.take_zero, List.cons.injEq, and_true, List.getElem_cons_zero, Nat.one_mul, List.drop_succ_cons, List.getElem_cons_succ] at h0 h1 h2
    obtain ⟨rfl, w0⟩ := h0
    obtain ⟨rfl, w1⟩ := h1
    obtain ⟨rfl, w2⟩ := h2
    exact ⟨d, e, f, rfl, w0, w1, w2⟩

set_option maxRecDepth 100000 in
theorem back_big (d e : Int) (t0 t1 t2 : Int) (a : Option Addr) (n c : Nat) (w : World) (hn : n ≤ 9223372036854775807) (h : 1000 < n) :
    Calls Try.prog 9 #[.slice a n c, .agg #[.int .i64 d, .int .i64 e], .agg #[.int .u64 t0, .int .u64 t1, .int .u64 t2]] w fun e w' => e = .returned (.bool true) ∧ Below w.heap.size w w' := by
  go_enter Try.func9, Try.ntmps9
  go_wp2_with fail
  go_quiet (fail)
  have h0 := below_d (((Below.refl w.heap.size w).alloc (Nat.le_refl _) (.cells #[Value.int IntKind.i64 d, Value.int IntKind.i64 e] 32)).alloc (by simp) (.cells #[.int .u64 t0, .int .u64 t1, .int .u64 t2] 62)) nq
  generalize ((w.alloc (.cells #[Value.int IntKind.i64 d, Value.int IntKind.i64 e] 32)).alloc (.cells #[.int .u64 t0, .int .u64 t1, .int .u64 t2] 62)).drewN nq = W at *
  go_wp2_with fail
  refine (awake_any _).mono ?_
  rintro e1 w1 ⟨rfl, hb1⟩
  go_wp2_with fail
  refine (awake_any _).mono ?_
  rintro e2 w2 ⟨rfl, hb2⟩
  go_wp2_with fail
  go_ret
  have h1 := h0.trans (hb1.mono h0.size)
  exact ⟨rfl, h1.trans (hb2.mono h1.size)⟩

set_option maxRecDepth 100000 in
theorem back_no (d e : Int) (t0 t1 t2 : Int) (a : Option Addr) (n c : Nat) (w : World) (hn : n ≤ 1000) (h : ¬ PutFits d e n) :
    Calls Try.prog 9 #[.slice a n c, .agg #[.int .i64 d, .int .i64 e], .agg #[.int .u64 t0, .int .u64 t1, .int .u64 t2]] w fun e w' => e = .returned (.bool true) ∧ Below w.heap.size w w' := by
  have hn2 : (n : Int) ≤ 1000 := by omega
  have H := Lib.hid h
  clear h
  go_enter Try.func9, Try.ntmps9
  go_wp2_with fail
  go_quiet (fail)
  have h0 := below_d (((Below.refl w.heap.size w).alloc (Nat.le_refl _) (.cells #[Value.int IntKind.i64 d, Value.int IntKind.i64 e] 32)).alloc (by simp) (.cells #[.int .u64 t0, .int .u64 t1, .int .u64 t2] 62)) nq
  have g0 : ((((w.alloc (.cells #[Value.int IntKind.i64 d, Value.int IntKind.i64 e] 32)).alloc (.cells #[.int .u64 t0, .int .u64 t1, .int .u64 t2] 62)).drewN nq).cell? ⟨w.heap.size + 1, 0, none⟩) = some (.int .u64 t0) := by
    simp
  have g1 := cell_lt g0
  generalize ((w.alloc (.cells #[Value.int IntKind.i64 d, Value.int IntKind.i64 e] 32)).alloc (.cells #[.int .u64 t0, .int .u64 t1, .int .u64 t2] 62)).drewN nq = W at *
  go_wp2_with fail
  refine (awake_any _).mono ?_
  rintro e1 w1 ⟨rfl, hb1⟩
  have g2 : w1.cell? ⟨w.heap.size + 1, 0, none⟩ = some (.int .u64 t0) := by rw [hb1.cell g1.1, g0]
  go_wp2_with fail
  refine (put_no d e t0 a n c _ H.out (by omega)).mono ?_
  rintro e2 w2 ⟨rfl, rfl⟩
  go_wp2_with fail
  go_ret
  exact ⟨rfl, h0.trans (hb1.mono h0.size)⟩

theorem tells_seal (p : List (BitVec 64)) (size : Nat) (tag X : BitVec 64) (hs : size < 1000) (hp : p.length + 2 ≤ size) (k : Nat) (hk : k < (sealW p size tag X).length) (d : BitVec 32) (high : Bool)
    (h : IsSealed ((sealW p size tag X).set k ((sealW p size tag X)[k] ^^^ spread d high)) X) : d = 0#32 := by
  have hB := bodyW_length (tag := tag) hp
  exact tells_back (bodyW p size tag) p.length X (by omega) (by omega) k hk d high h

set_option maxRecDepth 100000 in
set_option maxHeartbeats 1600000 in
theorem back_yes (p : List (BitVec 64)) (size x : Nat) (tag : BitVec 64) (t1 t2 : Int) (k : Nat) (d : BitVec 32) (high : Bool) (a : Option Addr) (n c : Nat) (w : World) (hpn : p.length = n) (hn : n ≤ 1000) (hr : Row w a (words p)) (h8 : 8 ≤ size) (h256 : size ≤ 256) (hp : n + 2 ≤ size) (hx : x < 9223372036854775808)
    (h1 : 0 ≤ t1 ∧ t1 < 18446744073709551616) (h2 : 0 ≤ t2 ∧ t2 < 18446744073709551616) (hk : t1 % (size : Int) = (k : Int)) (hks : k < size) (hd : t2 % 4294967296 = I64 (spread d false)) (hh : (t1 / 4294967296 % 2 == 1) = high) :
    Calls Try.prog 9 #[.slice a n c, .agg #[.int .i64 (size : Int), .int .i64 (x : Int)], .agg #[.int .u64 (I64 tag), .int .u64 t1, .int .u64 t2]] w fun e w' => e = .returned (.bool true) ∧ Below w.heap.size w w' := by
  subst hpn
  have hn2 : (p.length : Int) ≤ 1000 := by omega
  have HPUT := Lib.hid (fun w hr => put_ok p size x tag a c w hr h8 h256 hp hx)
  have hkl : k < (sealW p size tag (BitVec.ofNat 64 x)).length := by rw [sealW_length hp]; exact hks
  have htell := tells_seal p size tag (BitVec.ofNat 64 x) (by omega) (by omega) k hkl d high
  have hlen := bodyW_length (tag := tag) hp
  have hL : (sealW p size tag (BitVec.ofNat 64 x)).length = size := sealW_length hp
  have hself := sealed_self p size tag (BitVec.ofNat 64 x) hp
  have hus : IntKind.u64.wrap (size : Int) = (size : Int) := u64_wrap_id (by omega) (by omega)
  have hki : IntKind.i64.wrap (k : Int) = (k : Int) := by rw [IntKind.wrap_i64]; omega
  have hkz : (0 : Int) ≤ (k : Int) ∧ (k : Int) < size := by omega
  have hsz : ((size : Int) == 0) = false := by rw [beq_eq_false_iff_ne]; omega
  have htt : (I64 tag != I64 tag) = false := by simp
  have Hx := Lib.hid hx
  have HTELL := Lib.hid htell
  have HLEN := Lib.hid hlen
  have HL := Lib.hid hL
  clear hlen hL htell hself hx
  go_enter Try.func9, Try.ntmps9
  go_wp2_with fail
  go_quiet (fail)
  have h0 := below_d (((Below.refl w.heap.size w).alloc (Nat.le_refl _) (.cells #[Value.int IntKind.i64 size, Value.int IntKind.i64 x] 32)).alloc (by simp) (.cells #[.int .u64 (I64 tag), .int .u64 t1, .int .u64 t2] 62)) nq
  have GB := (Blk.new (w.alloc (.cells #[Value.int IntKind.i64 size, Value.int IntKind.i64 x] 32)) 62 #[.int .u64 (I64 tag), .int .u64 t1, .int .u64 t2]).drewN nq
  rw [show (w.alloc (.cells #[Value.int IntKind.i64 size, Value.int IntKind.i64 x] 32)).heap.size = w.heap.size + 1 from by simp] at GB
  generalize ((w.alloc (.cells #[Value.int IntKind.i64 size, Value.int IntKind.i64 x] 32)).alloc (.cells #[.int .u64 (I64 tag), .int .u64 t1, .int .u64 t2] 62)).drewN nq = W at *
  have glt := GB.lt
  go_wp2_with fail
  refine (awake_any _).mono ?_
  rintro e1 w1 ⟨rfl, hb1⟩
  have hw1 := h0.trans (hb1.mono h0.size)
  have GB1 := GB.below hb1 glt
  have g1 : w1.cell? ⟨w.heap.size + 1, 0, none⟩ = some (.int .u64 (I64 tag)) := GB1.cell 0
  go_wp2_with fail
  refine (HPUT.out _ (hr.below hw1)).mono ?_
  rintro e2 w2 ⟨rfl, hB2, hb2⟩
  have hw2 := hw1.trans (hb2.mono hw1.size)
  have hr2 := Row.of_blk hB2
  have glt1 : w.heap.size + 1 < w1.heap.size := by have := hb1.size; omega
  clear g1
  go_wp2_with fail
  refine (get_yes p size x tag _ size _ hr2 h8 h256 hp Hx.out (Nat.le_refl _) (by unfold maxLen; omega)).mono ?_
  rintro e3 w3 ⟨a3, c3, rfl, hr3, hb3⟩
  have hw3 := hw2.trans (hb3.mono hw2.size)
  have hB3 := hB2.below hb3 hB2.lt
  have GB3 := (GB1.below hb2 glt1).below hb3 (GB1.below hb2 glt1).lt
  have g30 : w3.cell? ⟨w.heap.size + 1, 0, none⟩ = some (.int .u64 (I64 tag)) := GB3.cell 0
  have g31 : w3.cell? ⟨w.heap.size + 1, 1, none⟩ = some (.int .u64 t1) := GB3.cell 1
  have g32 : w3.cell? ⟨w.heap.size + 1, 2, none⟩ = some (.int .u64 t2) := GB3.cell 2
  have HS := same_any p p a3 a c3 c w3 hr3 (hr.below hw3) (by omega) (by omega)
  rw [show sameW p p = true from by simp [sameW]] at HS
  have HS2 := Lib.hid HS
  obtain ⟨b, hb⟩ : ∃ b, b = w1.heap.size := ⟨_, rfl⟩
  rw [← hb] at hB3
  rw [← hb]
  have hbl : w.heap.size ≤ b := by have := hw1.size; omega
  clear HS hr2 hB2 hr3 hb2 hb3 hb1 hb GB GB1 GB3
  go_wp2_with fail
  refine HS2.out.mono ?_
  rintro e4 w4 ⟨rfl, dd, rfl⟩
  have hw4 := below_d hw3 dd
  have hB4 := hB3.drewN dd
  have k0 : (w3.drewN dd).cell? ⟨w.heap.size + 1, 0, none⟩ = some (.int .u64 (I64 tag)) := g30
  have k1 : (w3.drewN dd).cell? ⟨w.heap.size + 1, 1, none⟩ = some (.int .u64 t1) := g31
  have k2 : (w3.drewN dd).cell? ⟨w.heap.size + 1, 2, none⟩ = some (.int .u64 t2) := g32
  clear g30 g31 g32 hB3 hw3 HS2
  generalize w3.drewN dd = w4 at *
  have hck : w4.cell? ⟨b, k, none⟩ = some (.int .u64 (I64 ((sealW p size tag (BitVec.ofNat 64 x))[k]))) := by
    rw [hB4.cell, List.getElem?_toArray, words_get _ _ hkl]
  have hfk := hB4.frozen k
  generalize hLL : sealW p size tag (BitVec.ofNat 64 x) = L at *
  have HLL := Lib.hid hLL
  clear hLL
  have hz0 : ∀ hgh, (I64 (spread d hgh) == 0) = decide (d = 0#32) := fun hgh => by
    rw [Bool.eq_iff_iff, beq_iff_eq, decide_eq_true_eq, I64_zero]
    refine ⟨fun h => spread_eq_zero h, fun h => ?_⟩
    subst h
    cases hgh <;> decide
  have hz := hz0 high
  have hset := words_set L k (L[k] ^^^ spread d high)
  have B5 := hB4.set_ k (.int .u64 (I64 (L[k] ^^^ spread d high)))
  rw [hset] at B5
  have hb5 := hw4.setCell (p := ⟨b, k, none⟩) hbl (.int .u64 (I64 (L[k] ^^^ spread d high)))
  clear hset hz0 hB4 hw4
  generalize hlk : L[k] = lk at *
  have HLK := Lib.hid hlk
  clear hlk
  have HLS : Hid ((L.set k (lk ^^^ spread d high)).length = size) := Lib.hid (by rw [List.length_set]; exact HL.out)
  have r5 := Row.of_blk B5
  by_cases hd0 : d = 0#32
  · have hs : spread d high = 0#64 := by subst hd0; cases high <;> decide
    have hz1 : (I64 (spread d high) == 0) = true := by rw [hs]; rfl
    rw [show (words (L.set k (lk ^^^ spread d high))).toArray.toList = words (sealW p size tag (BitVec.ofNat 64 x)) from by
      rw [HLL.out, hs, BitVec.xor_zero, ← HLK.out, List.set_getElem_self]] at r5
    clear hs hd0 B5 hz HTELL
    cases high
    all_goals
      go_wp2_with fail
      refine (get_yes p size x tag _ size _ r5 h8 h256 hp Hx.out (Nat.le_refl _) (by unfold maxLen; omega)).mono ?_
      rintro e5 w5 ⟨a5, c5, rfl, hr5, hb6⟩
      have hw5 := hb5.trans (hb6.mono hb5.size)
      clear hr5 hb6 hb5 r5
      go_wp2_with fail
      go_ret
      exact ⟨rfl, hw5⟩
  · have hz1 : (I64 (spread d high) == 0) = false := by rw [hz]; simp [hd0]
    have hno : ¬ IsSealed (L.set k (lk ^^^ spread d high)) (BitVec.ofNat 64 x) := fun h => hd0 (HTELL.out h)
    obtain ⟨B', z', he, hB'⟩ := snoc_of (L.set k (lk ^^^ spread d high)) (size - 1) (by rw [HLS.out]; omega)
    rw [List.toList_toArray, he] at r5
    rw [he] at hno
    have HNO := Lib.hid hno
    have HB' := Lib.hid (show B'.length + 1 = size by omega)
    clear hno hd0 B5 hz HTELL he hB' HLS
    cases high
    all_goals
      go_wp2_with fail
      refine (get_fault B' z' size x _ size _ r5 HB'.out h8 h256 Hx.out (Nat.le_refl _) (by unfold maxLen; omega) HNO.out).mono ?_
      rintro e5 w5 ⟨rfl, d5, rfl⟩
      have hw5 := below_d hb5 d5
      clear hb5 r5
      go_wp2_with fail
      go_ret
      exact ⟨rfl, hw5⟩

theorem SealBack_walk {w : World} (a : Option Addr) (n c : Nat) (m : List Int) (hm : rdSlice 1 (rdInt .u64) w [.slice a n c] m) (cs : Array Value) (l : List Int) (h : rdArr 2 1 (rdInt .i64) w cs.toList l) (cs3 : Array Value) (l3 : List Int) (h3 : rdArr 3 1 (rdInt .u64) w cs3.toList l3) :
    Calls Try.prog 9 #[.slice a n c, .agg cs, .agg cs3] w fun e w' => e = .returned (.bool true) ∧ Below w.heap.size w w' := by
  obtain ⟨d, e, rfl, hd, he, -⟩ := rdArr2_ints h
  obtain ⟨t0, t1, t2, rfl, w0, w1, w2⟩ := rdArr3_ints h3
  have bd := u_bounds.2.2.2.2 hd
  have be := u_bounds.2.2.2.2 he
  have b1 := u_bounds.2.2.2.1 w1
  have b2 := u_bounds.2.2.2.1 w2
  have hn : n ≤ 9223372036854775807 := by
    obtain ⟨_, h2, h3, _⟩ := rdSlice_ints hm
    unfold maxLen at h3
    omega
  obtain ⟨p, hp, hr⟩ := words_row hm
  by_cases hbig : n ≤ 1000
  · by_cases hf : PutFits d e n
    · obtain ⟨f1, f2, f3, f4⟩ := hf
      obtain ⟨size, rfl⟩ := Int.eq_ofNat_of_zero_le (show 0 ≤ d by omega)
      obtain ⟨x, rfl⟩ := Int.eq_ofNat_of_zero_le f3
      obtain ⟨tag, rfl⟩ := u64_of w0
      have q1 := Int.emod_nonneg t1 (show (size : Int) ≠ 0 by omega)
      have q2 := Int.emod_lt_of_pos t1 (show (0 : Int) < size by omega)
      have hI : t2 % 4294967296 = I64 (spread (BitVec.ofInt 32 t2) false) := by
        rw [(I64_spread _).1]
        unfold I32
        rw [BitVec.toNat_ofInt]
        have := Int.emod_nonneg t2 (show (4294967296 : Int) ≠ 0 by omega)
        show t2 % 4294967296 = (((t2 % 4294967296).toNat : Nat) : Int)
        omega
      exact back_yes p size x tag t1 t2 (t1 % (size : Int)).toNat (BitVec.ofInt 32 t2) _ a n c w hp hbig hr (by omega) (by omega) (by omega) (by omega) b1 b2 (by omega) (by omega) hI rfl
    · exact back_no d e t0 t1 t2 a n c w hbig hf
  · exact back_big d e t0 t1 t2 a n c w hn (by omega)

end Go.Proofs.Ytoodkfjldflbeaa.Crc
