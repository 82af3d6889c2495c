/- The walks of the laws VarintBack and VarintApart: each returns true and writes nothing that was there, of every input. -/
import Derived.Test.YtfeinadkdnjccaaVarLaws
import Derived.Test.YtfeinadkdnjccaaVarBack
import Derived.Test.YtfeinadkdnjccaaCrcLaws
set_option linter.unusedVariables false
namespace Go.Proofs.Ytfeinadkdnjccaa.Var
open Go.RowKit

/-- A slice value that holds just these bytes. -/
def Holds (w : World) (v : Value) (l : List Nat) : Prop := ∃ a c, v = .slice a l.length c ∧ Row w a (byts l) ∧ (a = none → l.length = 0 ∧ c = 0)
theorem Holds.below {w w' : World} {v : Value} {l : List Nat} (h : Holds w v l) (hb : Below w.heap.size w w') : Holds w' v l := by
  obtain ⟨a, c, hv, hr, h0⟩ := h
  exact ⟨a, c, hv, hr.below hb, h0⟩
theorem holds_own {w : World} {base : Nat} {e : TypeId} {n : Nat} {v : Value} {l : List Nat} (h : w.ownsRow base e 1 v n (byts l)) : Holds w v l := by
  obtain ⟨a, c, rfl, hr, h1, h2, h3⟩ := own_slice h
  rw [byts_length] at h3
  subst h3
  refine ⟨a, c, rfl, hr, ?_⟩
  rintro rfl
  rcases h.2 with ⟨hv, h0⟩ | ⟨g, cap, cur, hv, _⟩
  · injection hv with _ hv1 hv2
    exact ⟨h0, hv2⟩
  · injection hv with hv; cases hv

/-- Numbers, as cells. -/
def nums (l : List Nat) : List Value := l.map fun x : Nat => Value.int .u64 (x : Int)
theorem nums_length (l : List Nat) : (nums l).length = l.length := by simp [nums]

theorem nums_of {w : World} {a : Option Addr} {n c : Nat} {l : List Int} (h : rdSlice 1 (rdInt .u64) w [.slice a n c] l) :
    ∃ b : List Nat, b.length = n ∧ (∀ x ∈ b, x < 18446744073709551616) ∧ Row w a (nums b) ∧ n ≤ 9223372036854775807 := by
  obtain ⟨h1, h2, h3, h4, h5⟩ := rdSlice_ints h
  unfold maxLen at h3
  have e : l.map (Value.int .u64) = nums (l.map Int.toNat) := by
    unfold nums
    rw [List.map_map]
    apply List.map_congr_left
    intro x hx
    have := u_bounds.2.2.2.1 (h5 x hx)
    show Value.int .u64 x = Value.int .u64 ((x.toNat : Nat) : Int)
    rw [Int.toNat_of_nonneg this.1]
  refine ⟨l.map Int.toNat, by simpa using h1, ?_, by rw [← e]; exact h4, by omega⟩
  intro x hx
  obtain ⟨y, hy, rfl⟩ := List.mem_map.1 hx
  have := u_bounds.2.2.2.1 (h5 y hy)
  omega

def BackRel (w : World) (m : List Nat) (v iv : Value) (wr : World) : Prop :=
  ∃ k : Nat, k ≤ m.length ∧ iv = .int .i64 (k : Int) ∧ Holds wr v (cat (m.take k)) ∧ Below w.heap.size w wr
def BackRel2 (w wo : World) (m : List Nat) (at_ iv : Value) (wr : World) : Prop :=
  wr = wo ∧ ∃ k : Nat, k ≤ m.length ∧ iv = .int .i64 (k : Int) ∧ at_ = .int .i64 ((cat (m.take k)).length : Int) ∧ Below w.heap.size w wr

set_option maxRecDepth 100000 in
set_option maxHeartbeats 400000 in
theorem back_law (m : List Nat) (hm : ∀ x ∈ m, x < 18446744073709551616) (a : Option Addr) (n c : Nat) (w : World) (hr : Row w a (nums m)) (hn : m.length = n) (hl : n ≤ 100) :
    Calls Try.prog 10 #[.slice a n c] w fun e w' => e = .returned (.bool true) ∧ Below w.heap.size w w' := by
  have hcl := cat_len m hm
  go_enter Try.func10, Try.ntmps10
  go_wp2_with fail
  refine (awake_any _).mono ?_
  rintro e w1 ⟨rfl, hb1⟩
  go_wp2_with fail
  go_loopw [3, 4] (fun v iv wr => BackRel w m v iv wr) (fun _ iv _ => n - (intOf iv).toNat)
  case atStart => exact ⟨0, by omega, rfl, ⟨none, 0, by simp [cat], by simpa [cat, byts] using Row.nil _ _, fun _ => by simp [cat]⟩, hb1⟩
  case round =>
    obtain ⟨k, hk, rfl, hh, hb⟩ := hrel
    have hz := hb.size
    by_cases hlt : (k : Int) < n
    · obtain ⟨b1, o1, rfl, hc1, l1⟩ := hr.at_ (i := k) (by rw [nums_length]; omega)
      have hd1 : wr.cell? ⟨b1, o1 + k, none⟩ = some (.int .u64 ((m[k]'(by omega) : Nat) : Int)) := by rw [hb.cell l1, hc1]; simp [nums]
      have hx := hm (m[k]'(by omega)) (List.getElem_mem _)
      have hct := Lib.hid (cat_take m k (by omega))
      have hle : (cat (m.take k)).length ≤ 10 * k := by
        have := cat_len (m.take k) (fun x hx => hm x (List.mem_of_mem_take hx))
        rw [List.length_take] at this
        omega
      clear hc1
      generalize m[k]'(by omega) = x at *
      obtain ⟨a2, c2, rfl, hr2, h02⟩ := hh
      go_wp2_with fail
      refine (put_any _ x a2 _ c2 _ hr2 rfl (by omega) h02 hx).mono ?_
      rintro e w2 ⟨v2, rfl, hown2, hb2⟩
      have hh2 := holds_own hown2
      rw [← hct.out] at hh2
      go_wp2_with fail
      go_roundw
      case rel => exact ⟨k + 1, by omega, by go_num, hh2, hb.trans (hb2.mono hz)⟩
      case measure => simp [intOf]; omega
    · obtain rfl : k = n := by omega
      rw [List.take_of_length_le (by omega)] at hh
      obtain ⟨a2, c2, rfl, hr2, h02⟩ := hh
      have hcl2 : (cat m).length ≤ 1000 := by omega
      have hcb := cat_bytes m
      go_wp2_with fail
      obtain ⟨wo, rfl⟩ : ∃ wo : World, wo = wr := ⟨_, rfl⟩
      go_loopw [5, 6] (fun at_ iv wr => BackRel2 w wo m at_ iv wr) (fun _ iv _ => k - (intOf iv).toNat)
      case atStart => exact ⟨rfl, 0, by omega, rfl, rfl, hb⟩
      case round =>
        obtain ⟨rfl, j, hj, rfl, rfl, hbj⟩ := hrel
        by_cases hlt : (j : Int) < k
        · have hjm : j < m.length := by omega
          obtain ⟨b1, o1, rfl, hc1, l1⟩ := hr.at_ (i := j) (by rw [nums_length]; omega)
          have hd1 : wr.cell? ⟨b1, o1 + j, none⟩ = some (.int .u64 (m[j] : Int)) := by rw [hb.cell l1, hc1]; simp [nums]
          have hx := hm m[j] (List.getElem_mem _)
          have htk := take_cat m j hjm hx
          have hsn : (cat (m.take (j + 1))).length = (cat (m.take j)).length + size m[j] := by rw [cat_take m j hjm, List.length_append]; rfl
          have hs10 := size_le10 m[j] hx
          have hle : (cat (m.take j)).length ≤ 1000 := by
            have := cat_split m j hjm
            have h2 := congrArg List.length this
            simp at h2
            omega
          have Htk := Lib.hid htk
          have Hsn := Lib.hid hsn
          clear hc1 htk hsn
          generalize m[j] = x at *
          generalize (cat (m.take j)).length = q at *
          have hb1 : ((x : Int) != x) = false := by simp
          have hb2 : ((q : Int) + size x != q + size x) = false := by simp
          go_wp2_with fail
          refine (take_any (cat m) hcb _ a2 _ c2 _ hr2 rfl (by omega)).mono ?_
          rw [Htk.out]
          rintro e w2 ⟨rfl, rfl⟩
          go_wp2_with fail
          refine (size_any x _ hx).mono ?_
          rintro e w2 ⟨rfl, rfl⟩
          go_wp2_with fail
          go_roundw
          case rel => exact ⟨rfl, j + 1, by omega, by go_num, by rw [Hsn.out]; go_num, hbj⟩
          case measure => simp [intOf]; omega
        · obtain rfl : j = k := by omega
          have hbb : (((cat m).length : Int) == (cat m).length) = true := by simp
          rw [List.take_of_length_le (by omega)]
          go_wp2_with fail
          go_ret
          exact ⟨rfl, hb⟩

theorem back_odd (a : Option Addr) (n c : Nat) (w : World) (hm : ¬ n ≤ 100) (hl : n ≤ 9223372036854775807) :
    Calls Try.prog 10 #[.slice a n c] w fun e w' => e = .returned (.bool true) ∧ Below w.heap.size w w' := by
  go_enter Try.func10, Try.ntmps10
  go_wp2_with fail
  refine (awake_any _).mono ?_
  rintro e w1 ⟨rfl, hb1⟩
  go_wp2_with fail
  refine (awake_any _).mono ?_
  rintro e w2 ⟨rfl, hb2⟩
  go_wp2_with fail
  go_ret
  exact ⟨rfl, hb1.trans (hb2.mono hb1.size)⟩

theorem VarintBack_walk {w : World} (a : Option Addr) (n c : Nat) (l : List Int) (h : rdSlice 1 (rdInt .u64) w [.slice a n c] l) :
    Calls Try.prog 10 #[.slice a n c] w fun e w' => e = .returned (.bool true) ∧ Below w.heap.size w w' := by
  obtain ⟨m, hn, hm, hr, hl⟩ := nums_of h
  by_cases h1 : n ≤ 100
  · exact back_law m hm a n c w hr hn h1
  · exact back_odd a n c w h1 hl

set_option maxRecDepth 100000 in
set_option maxHeartbeats 400000 in
theorem apart_law (x y : List Nat) (hx : ∀ c ∈ x, c < 256) (hy : ∀ c ∈ y, c < 256) (at_ : Int) (ha : 0 ≤ at_ ∧ at_ < 256) (a b : Option Addr) (n m c d : Nat) (w : World) (ra : Row w a (byts x)) (rb : Row w b (byts y)) (hn : x.length = n) (hm : y.length = m)
    (h1 : n ≤ 1000) (h2 : m ≤ 1000) :
    Calls Try.prog 12 #[.slice a n c, .slice b m d, .int .u8 at_] w fun e w' => e = .returned (.bool true) ∧ Below w.heap.size w w' := by
  obtain ⟨k, hk, hkm⟩ : ∃ k : Nat, (0 < m → at_ % (m : Int) = (k : Int)) ∧ k ≤ m ∧ (m = 0 → k = 0) := by
    by_cases h0 : 0 < m
    · have := Int.emod_nonneg at_ (show (m : Int) ≠ 0 by omega)
      have h3 := Int.emod_lt_of_pos at_ (show (0 : Int) < m by omega)
      exact ⟨(at_ % m).toNat, fun _ => by omega, by omega, fun h => by omega⟩
    · exact ⟨0, fun h => absurd h h0, by omega, fun _ => rfl⟩
  obtain ⟨z, hz⟩ : ∃ z : Int, z = (k : Int) := ⟨_, rfl⟩
  have htk := take_apart x y k (by omega)
  rw [hn, show ((n + k : Nat) : Int) = n + z from by omega, ← hz] at htk
  generalize hT : take y z = T at *
  obtain ⟨t1, t2, t3⟩ := T
  have Htk := Lib.hid htk
  have HT := Lib.hid hT
  have hk' : 0 < m → at_ % (m : Int) = z := by rw [hz]; exact hk
  have hzb : 0 ≤ z ∧ z ≤ m := by omega
  have hz0 : m = 0 → z = 0 := fun h => by have := hkm.2 h; omega
  have t2b := take_end y z
  rw [hT] at t2b
  clear htk hT hk hkm hz k
  have hcat : ∀ c ∈ x ++ y, c < 256 := fun c hc => (List.mem_append.1 hc).elim (hx c) (hy c)
  by_cases h0 : (0 : Int) < m
  all_goals
    first | (have hkk := hk' (by omega)) | (obtain rfl : z = 0 := hz0 (by omega))
    clear hk' hz0
    go_enter Try.func12, Try.ntmps12
    go_wp2_with fail
    refine (awake_any _).mono ?_
    rintro e w1 ⟨rfl, hb1⟩
    have hz1 := hb1.size
    go_wp2_with (at_builtin; go_must (refine wpList_append rfl (.tmp 28) (.tmp 29) _ rfl el_u8 w.heap.size (.slice none 0 0) 0 [] rfl (World.ownsRow_nil _ _ _ _) a n c (byts x) rfl (by rw [byts_length]; omega) (ra.below hb1) (byts_one _) (by unfold maxLen; omega) (by omega) hz1 ?_))
    intro v2 w2 hown2 _ _ hb2
    have hbw2 := hb1.trans hb2
    have hz2 := hbw2.size
    go_wp2_with (at_builtin; go_must (refine wpList_append rfl (.tmp 31) (.tmp 32) _ rfl el_u8 w.heap.size v2 _ _ rfl hown2 b m d (byts y) rfl (by rw [byts_length]; omega) (rb.below hbw2) (byts_one _) (by unfold maxLen; omega) (by omega) hz2 ?_))
    rw [← byts_append]
    intro v3 w3 hown3 _ _ hb3
    have hbw3 := hbw2.trans hb3
    obtain ⟨a3, c3, rfl, hr3, -⟩ := own_slice hown3
    go_wp2_with fail
    refine (take_any y hy _ b m d _ (rb.below hbw3) hm (by omega)).mono ?_
    rw [HT.out]
    rintro e w4 ⟨rfl, rfl⟩
    go_wp2_with fail
    refine (take_any (x ++ y) hcat _ a3 _ c3 _ hr3 (by simp; omega) (by omega)).mono ?_
    first | rw [Htk.out] | (rw [show (n : Int) = n + 0 from by omega, Htk.out])
    rintro e w4 ⟨rfl, rfl⟩
    go_wp2_with fail
    go_ret
    exact ⟨rfl, hbw3⟩

theorem apart_odd (at_ : Int) (a b : Option Addr) (n m c d : Nat) (w : World) (hn : n ≤ 9223372036854775807) (hm : m ≤ 9223372036854775807) (h : ¬ (n ≤ 1000 ∧ m ≤ 1000)) :
    Calls Try.prog 12 #[.slice a n c, .slice b m d, .int .u8 at_] w fun e w' => e = .returned (.bool true) ∧ Below w.heap.size w w' := by
  by_cases h1 : (1000 : Int) < n
  all_goals (by_cases h2 : (1000 : Int) < m)
  all_goals first | (exfalso; omega) | skip
  all_goals
    clear h
    go_enter Try.func12, Try.ntmps12
    go_wp2_with fail
    refine (awake_any _).mono ?_
    rintro e1 w1 ⟨rfl, hb1⟩
    go_wp2_with fail
    refine (awake_any _).mono ?_
    rintro e2 w2 ⟨rfl, hb2⟩
    go_wp2_with fail
    go_ret
    exact ⟨rfl, hb1.trans (hb2.mono hb1.size)⟩

theorem VarintApart_walk {w : World} (a : Option Addr) (n c : Nat) (l : List Int) (h : rdSlice 1 (rdInt .u8) w [.slice a n c] l) (b : Option Addr) (m d : Nat) (l' : List Int) (h' : rdSlice 1 (rdInt .u8) w [.slice b m d] l') (x : Int) (hx : (Lit.int .u8 x).wf = true) :
    Calls Try.prog 12 #[.slice a n c, .slice b m d, .int .u8 x] w fun e w' => e = .returned (.bool true) ∧ Below w.heap.size w w' := by
  obtain ⟨p, hp, hp2, rp, lp, _⟩ := bytes_of h
  obtain ⟨q, hq, hq2, rq, lq, _⟩ := bytes_of h'
  by_cases hm : n ≤ 1000 ∧ m ≤ 1000
  · exact apart_law p q hp2 hq2 x (u_bounds.2.2.1 hx) a b n m c d w rp rq hp hq hm.1 hm.2
  · exact apart_odd x a b n m c d w lp lq hm

end Go.Proofs.Ytfeinadkdnjccaa.Var
