/- The walk of the law DeviceFaults, of every input. -/
import Derived.Test.YtodjibhnmibedaaDevFaultsB
set_option linter.unusedVariables false
namespace Go.Proofs.Ytodjibhnmibedaa.Dev
open Go.RowKit

theorem DeviceFaults_walk {w : World} (n : Int) (hn : (Lit.int .u8 n).wf = true) (s : Option Addr) (m c : Nat) (l : List Int) (hl : rdSlice 1 (rdInt .u8) w [.slice s m c] l) (fuse : Bool) :
    Calls Try.prog 4 #[.int .u8 n, .slice s m c, .bool fuse] w fun e w' => e = .returned (.bool true) ∧ Below w.heap.size w w' := by
  have bn := u_bounds.2.2.1 hn
  obtain ⟨h1, h2, h3, h4, h5⟩ := rdSlice_ints hl
  have h3' := h3
  unfold maxLen at h3'
  obtain ⟨n, rfl⟩ := Int.eq_ofNat_of_zero_le bn.1
  by_cases hbig : m ≤ 60
  · cases fuse
    · exact faults_fault n (by omega) l (fun x hx => u_bounds.2.2.1 (h5 x hx)) s m c w h1 h4 hbig
    · exact faults_fuse n (by omega) l (fun x hx => u_bounds.2.2.1 (h5 x hx)) s m c w h1 h4 hbig
  · exact faults_big n fuse s m c w (by omega) (by omega)

end Go.Proofs.Ytodjibhnmibedaa.Dev
