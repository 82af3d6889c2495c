/- The walk of the law ArenaFits: it returns true and writes nothing that was there, of every input. -/
import Derived.Test.YtoodkfjldflbeaaArena2
import Derived.Test.YtoodkfjldflbeaaOpen
set_option linter.unusedVariables false
namespace Go.Proofs.Ytoodkfjldflbeaa.Arena
open Go.RowKit

set_option maxRecDepth 100000 in
set_option maxHeartbeats 400000 in
theorem awake_any (w : World) :
    Calls Try.prog 12 #[] w fun e w' => e = .returned (.bool true) ∧ Below w.heap.size w w' := by
  go_enter Try.func12, Try.ntmps12
  go_wp2_with fail
  refine (new_any 10 _ (by omega) (by omega)).mono ?_
  rintro e w1 ⟨rfl, hA, hb⟩
  go_wp2_with fail
  refine (grant_ok _ _ _ 4 _ hA (by decide)).mono ?_
  rintro e w2 ⟨b, d, rfl, hA2, hB, hD, h1, h2, h3, hg⟩
  have d0 : w2.cell? ⟨b, 0, none⟩ = some (.slice (some ⟨d, 0, none⟩) 4 4) := hB.cell 0
  go_wp2_with (go_at_call 14; refine (left_any _ _ _ _ hA2).mono ?_; rintro e w3 ⟨rfl, rfl⟩)
  go_ret
  exact ⟨rfl, (hg.below_of hb.size (fun k hk => by omega)).trans' hb⟩

def FitsRel (w : World) (a r : Nat) (iv : Value) (wr : World) : Prop :=
  ∃ (k : Nat) (A : Ar), iv = .int .i64 (k : Int) ∧ At wr a r A ∧ Below w.heap.size w wr

set_option maxRecDepth 100000 in
set_option maxHeartbeats 400000 in
theorem fits_law (room : Int) (hrl : -9223372036854775808 ≤ room) (hr : room ≤ 100000) (l : List Int) (hl : ∀ x ∈ l, (Lit.int .i64 x).wf = true) (s : Option Addr) (n c : Nat) (w : World) (hs : Row w s (l.map (Value.int .i64))) (hn : l.length = n) (hn2 : n ≤ 60) :
    Calls Try.prog 3 #[.int .i64 room, .slice s n c] w fun e w' => e = .returned (.bool true) ∧ Below w.heap.size w w' := by
  go_enter Try.func3, Try.ntmps3
  go_wp2_with fail
  refine (awake_any _).mono ?_
  rintro e w1 ⟨rfl, hb1⟩
  go_wp2_with fail
  refine (new_any room _ (by omega) hrl).mono ?_
  rintro e w2 ⟨rfl, hA, hb2⟩
  have hb3 := hb1.trans (hb2.mono hb1.size)
  have hz1 := hb1.size
  obtain ⟨a, ha⟩ : ∃ a, a = w1.heap.size + 1 := ⟨_, rfl⟩
  obtain ⟨r, hr'⟩ : ∃ r, r = w1.heap.size := ⟨_, rfl⟩
  have hab : w.heap.size ≤ a := by omega
  have hrb : w.heap.size ≤ r := by omega
  rw [← ha, ← hr'] at hA
  rw [← ha]
  clear ha hr' hz1 hb2
  go_wp2_with fail
  go_loopw [6] (fun iv wr => FitsRel w a r iv wr) (fun iv _ => n - (intOf iv).toNat)
  case atStart => exact ⟨0, _, rfl, hA, hb3⟩
  case round =>
    obtain ⟨k, A, rfl, hA, hb⟩ := hrel
    have hz := hb.size
    by_cases hlt : (k : Int) < n
    · obtain ⟨b1, o1, rfl, hc1, l1⟩ := hs.at_ (i := k) (by rw [List.length_map]; omega)
      have hd1 : ∀ W, Below w.heap.size w W → W.cell? ⟨b1, o1 + k, none⟩ = some (.int .i64 (l[k]'(by omega))) := fun W hW => by rw [hW.cell l1, hc1]; simp
      have hx := u_bounds.2.2.2.2 (hl (l[k]'(by omega)) (List.getElem_mem _))
      clear hc1
      generalize l[k]'(by omega) = x at *
      have hd := hd1 wr hb
      obtain ⟨ok1, ok2, ok3, ok4, ok5⟩ := hA.ok
      clear ok1 ok4
      rcases Int.lt_or_le x 0 with hx0 | hx0
      · go_wp2_with (first | (go_at_call 14; refine (left_any _ _ _ _ hA).mono ?_; rintro e w3 ⟨rfl, rfl⟩) | (go_at_call 15; refine (peak_any _ _ _ _ hA).mono ?_; rintro e w3 ⟨rfl, rfl⟩) | (go_at_call 16; refine (grant_neg a r A x _ hx0).mono ?_; rintro e w3 ⟨rfl, rfl⟩))
        go_quiet ((first | (go_at_call 14; exact Calls.quiet_of_same' (left_any _ _ _ _ (hA.drewN _))) | (go_at_call 15; exact Calls.quiet_of_same' (peak_any _ _ _ _ (hA.drewN _)))))
        go_wp2_with fail
        go_roundw
        case rel => exact ⟨k + 1, A, by go_num, hA.drewN _, below_drewN hb _⟩
        case measure => simp [intOf]; omega
      rcases Int.lt_or_le ((A.room : Int) - A.used) x with hxr | hxr
      · have hdx : decide (x ≤ (A.room : Int) - A.used) = false := by simp; omega
        go_wp2_with (first | (go_at_call 14; refine (left_any _ _ _ _ hA).mono ?_; rintro e w3 ⟨rfl, rfl⟩) | (go_at_call 15; refine (peak_any _ _ _ _ hA).mono ?_; rintro e w3 ⟨rfl, rfl⟩))
        refine (grant_room a r A x _ hA hxr).mono ?_
        rintro e w3 ⟨rfl, hq⟩
        have HA := hA.quiet hq
        have hb4 : Below w.heap.size w w3 := hb.trans ((hq.chg (fun _ => False)).below_of hz (fun _ _ h => h))
        have hd3 := hd1 w3 hb4
        go_wp2_with fail
        go_quiet ((first | (go_at_call 14; exact Calls.quiet_of_same' (left_any _ _ _ _ (HA.drewN _))) | (go_at_call 15; exact Calls.quiet_of_same' (peak_any _ _ _ _ (HA.drewN _)))))
        go_wp2_with fail
        go_roundw
        case rel => exact ⟨k + 1, A, by go_num, HA.drewN _, below_drewN hb4 _⟩
        case measure => simp [intOf]; omega
      · obtain ⟨y, rfl⟩ := Int.eq_ofNat_of_zero_le hx0
        have hdx : decide ((y : Int) ≤ (A.room : Int) - A.used) = true := by simp; omega
        go_wp2_with (first | (go_at_call 14; refine (left_any _ _ _ _ hA).mono ?_; rintro e w3 ⟨rfl, rfl⟩) | (go_at_call 15; refine (peak_any _ _ _ _ hA).mono ?_; rintro e w3 ⟨rfl, rfl⟩))
        refine (grant_ok a r A y _ hA (by omega)).mono ?_
        rintro e w3 ⟨gb, gd, rfl, HA, hB, hD, g1, g2, g3, hg⟩
        have hb4 : Below w.heap.size w w3 := hb.trans (hg.below_of hz (fun k hk => by omega))
        have hd3 := hd1 w3 hb4
        have e1 : ((A.grant y gb).room : Int) = A.room := rfl
        have e2 : ((A.grant y gb).used : Int) = (A.used : Int) + y := by show ((A.used + y : Nat) : Int) = _; omega
        have u1 : IntKind.i64.wrap ((A.room : Int) - A.used - y) = (A.room : Int) - A.used - y := by rw [IntKind.wrap_i64]; omega
        have u2 : (((A.room : Int) - (A.used + y)) != (A.room : Int) - A.used - y) = false := by rw [bne_eq_false_iff_eq]; omega
        have hA3 := fun q => left_any a r (A.grant y gb) (w3.drewN q) (HA.drewN q)
        rw [e1, e2] at hA3
        have HA3 := Lib.hid hA3
        clear hA3 e1 e2
        go_wp2_with fail
        go_quiet ((first | (go_at_call 14; exact Calls.quiet_of_same' (HA3.out _))))
        go_wp2_with fail
        go_roundw
        case rel => exact ⟨k + 1, A.grant y gb, by go_num, HA.drewN _, below_drewN hb4 _⟩
        case measure => simp [intOf]; omega
    · go_wp2_with fail
      go_ret
      exact ⟨rfl, hb⟩

theorem fits_odd (room : Int) (s : Option Addr) (n c : Nat) (w : World) (hn : n ≤ 9223372036854775807) (h : ¬ (n ≤ 60 ∧ room ≤ 100000)) :
    Calls Try.prog 3 #[.int .i64 room, .slice s n c] w fun e w' => e = .returned (.bool true) ∧ Below w.heap.size w w' := by
  by_cases h1 : (60 : Int) < n
  all_goals (by_cases h2 : (100000 : Int) < room)
  all_goals first | (exfalso; omega) | skip
  all_goals
    clear h
    go_enter Try.func3, Try.ntmps3
    go_wp2_with fail
    refine (awake_any _).mono ?_
    rintro e1 w1 ⟨rfl, hb1⟩
    go_wp2_with fail
    refine (awake_any _).mono ?_
    rintro e2 w2 ⟨rfl, hb2⟩
    go_wp2_with fail
    go_ret
    exact ⟨rfl, hb1.trans (hb2.mono hb1.size)⟩

theorem ArenaFits_walk {w : World} (room : Int) (hr : (Lit.int .i64 room).wf = true) (s : Option Addr) (n c : Nat) (l : List Int) (h : rdSlice 1 (rdInt .i64) w [.slice s n c] l) :
    Calls Try.prog 3 #[.int .i64 room, .slice s n c] w fun e w' => e = .returned (.bool true) ∧ Below w.heap.size w w' := by
  obtain ⟨h1, h2, h3, h4, h5⟩ := rdSlice_ints h
  unfold maxLen at h3
  have := u_bounds.2.2.2.2 hr
  by_cases hg : n ≤ 60 ∧ room ≤ 100000
  · exact fits_law room (by omega) hg.2 l h5 s n c w h4 h1 hg.1
  · exact fits_odd room s n c w (by omega) hg

end Go.Proofs.Ytoodkfjldflbeaa.Arena
