/- The walk of the law CrcTurns: it returns true and writes nothing that was there, of every input. -/
import Derived.Test.YtfeinadkdnjccaaCrcLaws2
import Derived.Deep.LoopGhost
import Derived.Deep.RegionHeld3
namespace Go.Proofs.Ytfeinadkdnjccaa.Crc
open Go.RowKit

def over3 (a b c : List (BitVec 64)) : List (BitVec 64) := List.zipWith (· ^^^ ·) (List.zipWith (· ^^^ ·) a b) c

theorem over3_snoc (a b c : List (BitVec 64)) (k : Nat) (ha : k < a.length) (hb : k < b.length) (hc : k < c.length) :
    words (over3 (a.take (k + 1)) (b.take (k + 1)) (c.take (k + 1))) = words (over3 (a.take k) (b.take k) (c.take k)) ++ [.int .u64 (I64 (a[k] ^^^ b[k] ^^^ c[k]))] := by
  rw [List.take_succ_eq_append_getElem ha, List.take_succ_eq_append_getElem hb, List.take_succ_eq_append_getElem hc]
  have h1 : (a.take k).length = (b.take k).length := by simp; omega
  have h2 : (List.zipWith (· ^^^ ·) (a.take k) (b.take k)).length = (c.take k).length := by simp; omega
  unfold over3
  rw [List.zipWith_append h1, List.zipWith_append h2]
  simp [words]

set_option maxRecDepth 100000 in
set_option maxHeartbeats 400000 in
theorem turns_law (ma mb mc : List (BitVec 64)) (a b c : Option Addr) (na nb nc ca cb cc : Nat) (w : World) (ha : ma.length = na) (hb : mb.length = nb) (hc : mc.length = nc)
    (ra : Row w a (words ma)) (rb : Row w b (words mb)) (rc : Row w c (words mc)) (h1 : na ≤ 1000) (h2 : na ≤ nb) (h3 : na ≤ nc) (lb : nb ≤ cb) (lc : nc ≤ cc) (mcb : cb ≤ 9223372036854775807) (mcc : cc ≤ 9223372036854775807) :
    Calls Try.prog 6 #[.slice a na ca, .slice b nb cb, .slice c nc cc] w fun e w' => e = .returned (.bool true) ∧ Below w.heap.size w w' := by
  go_enter Try.func6, Try.ntmps6
  go_wp2_with fail
  refine (awake_any _).mono ?_
  rintro e1 w1 ⟨rfl, hb1⟩
  go_wp2_with fail
  have hz := hb1.size
  go_loopw [7, 8] (fun v i wr => ∃ k : Nat, k ≤ na ∧ i = .int .i64 k ∧ wr.ownsRow w.heap.size 27 1 v k (words (over3 (ma.take k) (mb.take k) (mc.take k))) ∧ Below w.heap.size w wr) (fun _ i _ => na - (intOf i).toNat)
  case atStart => exact ⟨0, by omega, rfl, by simpa [over3, words] using World.ownsRow_nil _ _ _ _, hb1⟩
  case round =>
    obtain ⟨k, hk, rfl, hown, hbr⟩ := hrel
    have hzr := hbr.size
    by_cases hlt : (k : Int) < na
    · obtain ⟨b1, o1, rfl, hc1, l1⟩ := ra.at_ (i := k) (by rw [words_length]; omega)
      obtain ⟨b2, o2, rfl, hc2, l2⟩ := rb.at_ (i := k) (by rw [words_length]; omega)
      obtain ⟨b3, o3, rfl, hc3, l3⟩ := rc.at_ (i := k) (by rw [words_length]; omega)
      have hd1 : wr.cell? ⟨b1, o1 + k, none⟩ = some (.int .u64 (I64 (ma[k]'(by omega)))) := by rw [hbr.cell l1, hc1]; simp [words]
      have hd2 : wr.cell? ⟨b2, o2 + k, none⟩ = some (.int .u64 (I64 (mb[k]'(by omega)))) := by rw [hbr.cell l2, hc2]; simp [words]
      have hd3 : wr.cell? ⟨b3, o3 + k, none⟩ = some (.int .u64 (I64 (mc[k]'(by omega)))) := by rw [hbr.cell l3, hc3]; simp [words]
      clear hc1 hc2 hc3
      go_wp2_with fail
      have hk0 : (0 : Int) ≤ (k : Int) := by omega
      have hkb : (k : Int) < nb := by omega
      have hkc : (k : Int) < nc := by omega
      go_region_held3 (fun w' => w'.cell? ⟨b1, o1 + k, none⟩ = some (.int .u64 (I64 (ma[k]'(by omega)))) ∧ w'.cell? ⟨b2, o2 + k, none⟩ = some (.int .u64 (I64 (mb[k]'(by omega)))) ∧ w'.cell? ⟨b3, o3 + k, none⟩ = some (.int .u64 (I64 (mc[k]'(by omega)))))
        (first | go_keep | (refine ⟨?_, ?_, ?_⟩ <;> (rw [hb3.cell (by assumption)]; go_keep)))
        ((refine step_append rfl _ _ _ (by rfl) el_u64 w.heap.size _ k _ (by rfl) ((hown.alloc _).drew) (some ⟨wr.heap.size, 0, none⟩) 1 1 _ (by rfl) rfl ((Row.new wr _ _ _)) (by intro u hu; simp at hu; subst hu; rfl) (by unfold maxLen; omega) (by omega) (by simp; omega) ?_; intro v3 w3 hown3 hg3 hat3 hb3))
      have hv := over3_snoc ma mb mc k (by omega) (by omega) (by omega)
      go_wp2_with fail
      go_roundw
      case rel => exact ⟨k + 1, by omega, by go_num, by rw [hv]; exact hown3, hbr.trans (((Below.refl w.heap.size wr).alloc hzr _).drew.trans hb3)⟩
      case measure => simp [intOf]; omega
    · obtain rfl : k = na := by omega
      obtain ⟨av, cv, hv, rv, -⟩ := own_slice hown
      subst hv
      go_wp2_with fail
      have hpl := turns ma (mb.take k) (mc.take k) (by simp; omega) (by simp; omega)
      rw [show List.zipWith (· ^^^ ·) (List.zipWith (· ^^^ ·) ma (mb.take k)) (mc.take k) = over3 (ma.take k) (mb.take k) (mc.take k) from by unfold over3; rw [List.take_of_length_le (l := ma) (by omega)]] at hpl
      have Hpl := Lib.hid hpl
      clear hpl
      have hl3 : (over3 (ma.take k) (mb.take k) (mc.take k)).length = k := by simp [over3]; omega
      have Hl3 := Lib.hid hl3
      clear hl3
      have rb' : Row wr b (words (mb.take k)) := by unfold words; rw [List.map_take]; exact (rb.below hbr).take k
      have rc' : Row wr c (words (mc.take k)) := by unfold words; rw [List.map_take]; exact (rc.below hbr).take k
      have e1 : (k : Int) ≤ cb := by omega
      have e2 : (k : Int) ≤ cc := by omega
      go_quiet ((go_at_call 14; first | exact Calls.quiet_of_same' (sum_at ma _ _ _ _ ha ((ra.below hbr).drewN _) (by omega)) | exact Calls.quiet_of_same' (sum_at (mb.take k) _ _ _ _ (by simp; omega) (rb'.drewN _) (by omega)) | exact Calls.quiet_of_same' (sum_at (mc.take k) _ _ _ _ (by simp; omega) (rc'.drewN _) (by omega)) | exact Calls.quiet_of_same' (sum_at _ _ _ _ _ Hl3.out (rv.drewN _) (by omega))))
      go_wp2_with fail
      go_ret
      exact ⟨congrArg (fun b => Ending.returned (.bool b)) (by rw [Hpl.out]; rfl), below_drewN hbr _⟩

set_option maxRecDepth 100000 in
set_option maxHeartbeats 400000 in
theorem turns_odd (a b c : Option Addr) (na nb nc ca cb cc : Nat) (w : World) (la : na ≤ 9223372036854775807) (lb : nb ≤ 9223372036854775807) (lc : nc ≤ 9223372036854775807) (h : ¬ (na ≤ 1000 ∧ na ≤ nb ∧ na ≤ nc)) :
    Calls Try.prog 6 #[.slice a na ca, .slice b nb cb, .slice c nc cc] w fun e w' => e = .returned (.bool true) ∧ Below w.heap.size w w' := by
  by_cases h1 : (1000 : Int) < na
  all_goals (by_cases h2 : (nb : Int) < na <;> by_cases h3 : (nc : Int) < na)
  all_goals first | (exfalso; omega) | skip
  all_goals
    clear h
    go_enter Try.func6, Try.ntmps6
    go_wp2_with fail
    refine (awake_any _).mono ?_
    rintro e1 w1 ⟨rfl, hb1⟩
    go_wp2_with fail
    refine (awake_any _).mono ?_
    rintro e2 w2 ⟨rfl, hb2⟩
    go_wp2_with fail
    go_ret
    exact ⟨rfl, hb1.trans (hb2.mono hb1.size)⟩

end Go.Proofs.Ytfeinadkdnjccaa.Crc
