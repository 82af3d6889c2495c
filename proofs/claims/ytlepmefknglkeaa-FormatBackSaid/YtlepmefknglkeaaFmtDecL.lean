/- The laws FormatDecodes and FormatLeast. -/
import Derived.Test.YtlepmefknglkeaaFmtDecG2
import Derived.Test.YtlepmefknglkeaaFmtBackP
import Derived.Test.YtlepmefknglkeaaFmtOnly
set_option linter.unusedVariables false
namespace Go.Proofs.Ytlepmefknglkeaa.Gr
open Go.RowKit Var

theorem bytes4_of {w : World} {a : Option Addr} {n c : Nat} {l : List Int} (h : rdSlice 1 (rdInt .u8) w [.slice a n c] l) :
    ∃ b : List Nat, b.length = n ∧ (∀ x ∈ b, x < 256) ∧ Row w a (byts b) ∧ n ≤ 9223372036854775807 ∧ n ≤ c ∧ c ≤ 9223372036854775807 := by
  obtain ⟨h1, h2, h3, h4, h5⟩ := rdSlice_ints h
  unfold maxLen at h3
  have e : l.map (Value.int .u8) = byts (l.map Int.toNat) := by
    unfold byts
    rw [List.map_map]
    apply List.map_congr_left
    intro x hx
    have := u_bounds.2.2.1 (h5 x hx)
    show Value.int .u8 x = Value.int .u8 ((x.toNat : Nat) : Int)
    rw [Int.toNat_of_nonneg this.1]
  refine ⟨l.map Int.toNat, by simpa using h1, ?_, by rw [← e]; exact h4, by omega, h2, by omega⟩
  intro x hx
  obtain ⟨y, hy, rfl⟩ := List.mem_map.1 hx
  have := u_bounds.2.2.1 (h5 y hy)
  omega

theorem dec_len {b : List Nat} (h256 : ∀ x ∈ b, x < 256) : (dec b).2.1.length ≤ 1073741824 ∧ ((dec b).2.2.2 ≠ 0 → (dec b).1 = 0 ∧ (dec b).2.1 = []) := by
  by_cases h : (dec b).2.2.2 = 0
  · obtain ⟨N, V, hd, F, _⟩ := dec_back h256 h
    rw [hd]
    exact ⟨F.len, fun h => absurd rfl h⟩
  · have key : (dec b).1 = 0 ∧ (dec b).2.1 = [] := by
      refine dec_cases (fun d => d.2.2.2 ≠ 0 → d.1 = 0 ∧ d.2.1 = []) b (fun _ _ => ⟨rfl, rfl⟩) (fun _ _ _ => ⟨rfl, rfl⟩) (fun _ _ _ _ _ _ _ => ⟨rfl, rfl⟩) (fun N M p1 p2 _ _ _ h => ?_) h
      unfold decEnd at h ⊢
      split at h
      · rename_i h1
        rw [if_pos h1]
        exact ⟨rfl, rfl⟩
      · exact absurd rfl h
    exact ⟨by rw [key.2]; simp, fun _ => key⟩

set_option maxRecDepth 100000 in
set_option maxHeartbeats 1000000 in
theorem FormatDecodes_walk {w : World} (a : Option Addr) (n c : Nat) (b : List Nat) (hr : Row w a (byts b)) (hl : b.length = n) (h256 : ∀ x ∈ b, x < 256) (hn : n ≤ 9223372036854775807) :
    Calls Try.prog 10 #[.slice a n c] w (Told w true) := by
  by_cases hbig : (3000 : Int) < n
  · clear hr hl h256
    go_enter Try.func10, Try.ntmps10
    go_wp2_with fail
    refine (awake4_any w).mono ?_
    rintro e w1 ⟨rfl, hb1⟩
    go_wp2_with fail
    refine (awake4_any w1).mono ?_
    rintro e w2 ⟨rfl, hb2⟩
    go_wp2_with fail
    go_ret
    exact ⟨rfl, hb1.trans (hb2.mono hb1.size)⟩
  · have C1 := Lib.hid (fun W (h : Below w.heap.size w W) => decode_told a n c b W (by omega) (hr.below h) hl h256)
    have C2 := Lib.hid (fun W (h : Below w.heap.size w W) => rdecode_told a n c b W (by omega) (hr.below h) hl h256)
    have hlen := (dec_len h256).1
    obtain ⟨⟨N, V, p, er⟩, hd⟩ : ∃ d, dec b = d := ⟨_, rfl⟩
    rw [hd] at C1 C2 hlen
    simp only at C1 C2 hlen
    clear hd hr hl h256
    have x1 : (er == er) = true := by simp
    have x2 : (p == p) = true := by simp
    go_enter Try.func10, Try.ntmps10
    go_wp2_with fail
    refine (awake4_any w).mono ?_
    rintro e w1 ⟨rfl, hb1⟩
    have H1 := Lib.hid hb1
    clear hb1
    go_wp2_with fail
    refine (C1.out _ H1.out).mono ?_
    rintro e w2 ⟨a2, m2, c2, rfl, hr2, hl2, hb2⟩
    have H2 := Lib.hid (H1.out.trans (hb2.mono H1.out.size))
    have B2 := Lib.hid (GBox.new N c2 hr2 hl2)
    have H3 := Lib.hid (H2.out.trans ((below_new w2 (.cells #[.int .i64 N, .slice a2 m2 c2] 24)).mono H2.out.size))
    obtain rfl : V.length = m2 := hl2
    clear hb2 hr2 C1 H1
    go_wp2_with fail
    generalize w2.alloc (.cells #[.int .i64 N, .slice a2 V.length c2] 24) = w3 at *
    generalize w2.heap.size = g2 at *
    refine (C2.out _ H3.out).mono ?_
    rintro e w4 ⟨a4, m4, c4, rfl, hr4, hl4, hb4⟩
    obtain rfl : V.length = m4 := hl4
    have H4 := Lib.hid (H3.out.trans (hb4.mono H3.out.size))
    have B4 := Lib.hid (B2.out.below hb4)
    have B5 := Lib.hid (B4.out.below (below_new w4 (.cells #[.int .i64 N, .slice a4 V.length c4] 24)))
    have D5 := Lib.hid (GBox.new N c4 hr4 rfl)
    have H5 := Lib.hid (H4.out.trans ((below_new w4 (.cells #[.int .i64 N, .slice a4 V.length c4] 24)).mono H4.out.size))
    obtain ⟨k1, k2, k3⟩ := B5.out.cells
    obtain ⟨k4, k5, k6⟩ := D5.out.cells
    clear hb4 hr4 C2 H2 H3 B2
    go_wp2_with fail
    generalize w4.alloc (.cells #[.int .i64 N, .slice a4 V.length c4] 24) = w5 at *
    refine (rsame_any N N V V a2 a4 V.length V.length c2 c4 w5 B5.out.row D5.out.row rfl rfl (by omega) (by omega)).mono ?_
    rw [same_self']
    rintro e w6 ⟨rfl, hb6⟩
    go_wp2_with fail
    go_ret
    exact ⟨rfl, H5.out.trans (hb6.mono H5.out.size)⟩

theorem FormatDecodes_law {w : World} (a : Option Addr) (n c : Nat) (l : List Int) (h : rdSlice 1 (rdInt .u8) w [.slice a n c] l) :
    Calls Try.prog 10 #[.slice a n c] w fun e w' => e = .returned (.bool true) ∧ Below w.heap.size w w' := by
  obtain ⟨b, h1, h2, h3, h4, _⟩ := bytes4_of h
  exact FormatDecodes_walk a n c b h3 h1 h2 h4

set_option maxRecDepth 100000 in
set_option maxHeartbeats 1000000 in
theorem FormatLeast_walk {w : World} (a : Option Addr) (n c : Nat) (b : List Nat) (hr : Row w a (byts b)) (hl : b.length = n) (h256 : ∀ x ∈ b, x < 256) (hn : n ≤ 9223372036854775807) (hc : n ≤ c) (hc2 : c ≤ 9223372036854775807) :
    Calls Try.prog 13 #[.slice a n c] w (Told w true) := by
  by_cases hbig : (3000 : Int) < n
  · clear hr hl h256
    go_enter Try.func13, Try.ntmps13
    go_wp2_with fail
    refine (awake4_any w).mono ?_
    rintro e w1 ⟨rfl, hb1⟩
    go_wp2_with fail
    refine (awake4_any w1).mono ?_
    rintro e w2 ⟨rfl, hb2⟩
    go_wp2_with fail
    go_ret
    exact ⟨rfl, hb1.trans (hb2.mono hb1.size)⟩
  · have C1 := Lib.hid (fun W (h : Below w.heap.size w W) => decode_told a n c b W (by omega) (hr.below h) hl h256)
    have C2 := Lib.hid (fun (k : Nat) (hk : k ≤ n) W (h : Below w.heap.size w W) => decode_told a k c (b.take k) W (by omega) (by
      have := (hr.below h).take k
      unfold byts at this ⊢
      rw [List.map_take]
      exact this) (by rw [List.length_take]; omega) (fun x hx => h256 x (List.mem_of_mem_take hx)))
    have her := dec_er b
    have hleast := dec_least (b := b)
    rw [hl] at her
    obtain ⟨⟨N, V, p, er⟩, hd⟩ : ∃ d, dec b = d := ⟨_, rfl⟩
    rw [hd] at C1 her hleast
    simp only at C1 her hleast
    clear hd hr hl h256
    rcases her with ⟨rfl, rfl⟩ | ⟨rfl, hp0, hpn⟩
    · clear hleast C2
      go_enter Try.func13, Try.ntmps13
      go_wp2_with fail
      refine (awake4_any w).mono ?_
      rintro e w1 ⟨rfl, hb1⟩
      go_wp2_with fail
      refine (C1.out _ hb1).mono ?_
      rintro e w2 ⟨a2, m2, c2, rfl, hr2, hl2, hb2⟩
      have H2 := Lib.hid (hb1.trans (hb2.mono hb1.size))
      have H3 := Lib.hid (H2.out.trans ((below_new w2 (.cells #[.int .i64 N, .slice a2 m2 c2] 24)).mono H2.out.size))
      clear hb1 hb2 hr2 hl2 C1
      go_wp2_with fail
      go_ret
      exact ⟨rfl, H3.out⟩
    · obtain ⟨k, rfl⟩ := Int.eq_ofNat_of_zero_le hp0
      have C3 := C2.out k (by omega)
      have hl3 := hleast (by omega)
      rw [Int.toNat_natCast] at hl3
      clear C2 hleast
      obtain ⟨⟨N2, V2, p2, er2⟩, hd2⟩ : ∃ d, dec (b.take k) = d := ⟨_, rfl⟩
      rw [hd2] at C3 hl3
      simp only at C3 hl3
      have HC := Lib.hid C3
      clear C3 hd2
      have x1 : (er2 == 0) = true ∨ ((er2 == 0) = false ∧ (p2 == (k : Int)) = true) := by
        by_cases h0 : er2 = 0
        · left; simp [h0]
        · right; exact ⟨by simp [h0], by rw [beq_iff_eq]; omega⟩
      clear hl3
      rcases x1 with x1 | ⟨x1, x2⟩
      all_goals
        go_enter Try.func13, Try.ntmps13
        go_wp2_with fail
        refine (awake4_any w).mono ?_
        rintro e w1 ⟨rfl, hb1⟩
        go_wp2_with fail
        refine (C1.out _ hb1).mono ?_
        rintro e w2 ⟨a2, m2, c2, rfl, hr2, hl2, hb2⟩
        have H2 := Lib.hid (hb1.trans (hb2.mono hb1.size))
        have H3 := Lib.hid (H2.out.trans ((below_new w2 (.cells #[.int .i64 N, .slice a2 m2 c2] 24)).mono H2.out.size))
        clear hb1 hb2 hr2 hl2 C1
        go_wp2_with fail
        refine (HC.out _ H3.out).mono ?_
        rintro e w4 ⟨a4, m4, c4, rfl, hr4, hl4, hb4⟩
        have H4 := Lib.hid (H3.out.trans (hb4.mono H3.out.size))
        have H5 := Lib.hid (H4.out.trans ((below_new w4 (.cells #[.int .i64 N2, .slice a4 m4 c4] 24)).mono H4.out.size))
        clear hb4 hr4 hl4 HC
        go_wp2_with fail
        go_ret
        exact ⟨rfl, H5.out⟩

theorem FormatLeast_law {w : World} (a : Option Addr) (n c : Nat) (l : List Int) (h : rdSlice 1 (rdInt .u8) w [.slice a n c] l) :
    Calls Try.prog 13 #[.slice a n c] w fun e w' => e = .returned (.bool true) ∧ Below w.heap.size w w' := by
  obtain ⟨b, h1, h2, h3, h4, h5, h6⟩ := bytes4_of h
  exact FormatLeast_walk a n c b h3 h1 h2 h4 h5 h6

end Go.Proofs.Ytlepmefknglkeaa.Gr
