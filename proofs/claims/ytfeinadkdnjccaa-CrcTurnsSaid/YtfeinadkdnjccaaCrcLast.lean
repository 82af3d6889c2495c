/- The walks of the four laws of the sums, told of their arguments as the form reads them. No condition. -/
import Derived.Test.YtfeinadkdnjccaaCrcLaws3
namespace Go.Proofs.Ytfeinadkdnjccaa.Crc
open Go.RowKit

theorem I32_ofInt {x : Int} (h : (Lit.int .u32 x).wf = true) : I32 (BitVec.ofInt 32 x) = x := by
  have := u_bounds.1 h
  unfold I32
  rw [BitVec.toNat_ofInt]
  omega

theorem CrcNext_walk {w : World} (a : Option Addr) (n c : Nat) (l : List Int) (h : rdSlice 1 (rdInt .u64) w [.slice a n c] l) (x : Int) (hx : (Lit.int .u64 x).wf = true) :
    Calls Try.prog 4 #[.slice a n c, .int .u64 x] w fun e w' => e = .returned (.bool true) ∧ Below w.heap.size w w' := by
  obtain ⟨m, hm, hr⟩ := words_row h
  rw [← I64_ofInt hx]
  exact next_law m _ a n c w hm hr

theorem CrcTells_walk {w : World} (a : Option Addr) (n c : Nat) (l : List Int) (h : rdSlice 1 (rdInt .u64) w [.slice a n c] l) (x : Int) (hx : (Lit.int .u16 x).wf = true) (cs : Array Value) (m : List Int) (hm : rdArr 2 1 (rdInt .u32) w cs.toList m) :
    Calls Try.prog 5 #[.slice a n c, .int .u16 x, .agg cs] w fun e w' => e = .returned (.bool true) ∧ Below w.heap.size w w' := by
  obtain ⟨d, e, rfl, wd, we, -⟩ := rdArr2_ints hm
  by_cases h1 : n ≤ 1000 ∧ 0 < n
  · obtain ⟨m, hm, hr⟩ := words_row h
    rw [← I32_ofInt wd]
    exact tells_law m _ e x (u_bounds.1 we) (u_bounds.2.1 hx) a n c w hm hr h1.1 h1.2 _ rfl
  · obtain ⟨_, h2, h3, _⟩ := rdSlice_ints h
    unfold maxLen at h3
    exact tells_odd d e x (u_bounds.1 we) a n c w (by omega) h1

theorem CrcTurns_walk {w : World} (a : Option Addr) (na ca : Nat) (la : List Int) (ha : rdSlice 1 (rdInt .u64) w [.slice a na ca] la) (b : Option Addr) (nb cb : Nat) (lb : List Int) (hb : rdSlice 1 (rdInt .u64) w [.slice b nb cb] lb)
    (c : Option Addr) (nc cc : Nat) (lc : List Int) (hc : rdSlice 1 (rdInt .u64) w [.slice c nc cc] lc) :
    Calls Try.prog 6 #[.slice a na ca, .slice b nb cb, .slice c nc cc] w fun e w' => e = .returned (.bool true) ∧ Below w.heap.size w w' := by
  obtain ⟨_, a2, a3, _⟩ := rdSlice_ints ha
  obtain ⟨_, b2, b3, _⟩ := rdSlice_ints hb
  obtain ⟨_, c2, c3, _⟩ := rdSlice_ints hc
  unfold maxLen at a3 b3 c3
  by_cases h1 : na ≤ 1000 ∧ na ≤ nb ∧ na ≤ nc
  · obtain ⟨ma, hma, ra⟩ := words_row ha
    obtain ⟨mb, hmb, rb⟩ := words_row hb
    obtain ⟨mc, hmc, rc⟩ := words_row hc
    exact turns_law ma mb mc a b c na nb nc ca cb cc w hma hmb hmc ra rb rc h1.1 h1.2.1 h1.2.2 b2 c2 (by omega) (by omega)
  · exact turns_odd a b c na nb nc ca cb cc w (by omega) (by omega) (by omega) h1

end Go.Proofs.Ytfeinadkdnjccaa.Crc
