/- Are all words of a buffer 0? It answers of a buffer that stands, and writes nothing. -/
import Derived.Test.YtoodkfjldflbeaaArenaPeak
set_option linter.unusedVariables false
namespace Go.Proofs.Ytoodkfjldflbeaa.Arena
open Go.RowKit

def ClearLoop (w : World) (n : Nat) (iv : Value) (wr : World) : Prop := ∃ k : Nat, iv = .int .i64 (k : Int) ∧ k ≤ n ∧ Quiet w wr

theorem Quiet.blk {w w' : World} {g : Nat} {t : TypeId} {cs : Array Value} (hq : Quiet w w') (h : Blk w g t cs) : Blk w' g t cs := by
  obtain ⟨d, rfl⟩ := hq
  exact h
theorem Quiet.drewN {w w' : World} (hq : Quiet w w') (n : Nat) : Quiet w (w'.drewN n) := by
  obtain ⟨d, rfl⟩ := hq
  exact ⟨d + n, by simp [World.drewN_drewN]⟩
theorem Quiet.drew {w w' : World} (hq : Quiet w w') : Quiet w w'.drew := hq.drewN 1

set_option maxRecDepth 100000 in
theorem clear_ok (b d n : Nat) (w : World) (hB : Blk w b 43 #[.slice (some ⟨d, 0, none⟩) n n]) (hD : Blk w d 33 (Array.replicate n (.int .u64 0))) (hn : n ≤ 1099511627776) :
    Calls Try.prog 21 #[.pointer (some ⟨b, 0, none⟩), .int .i64 (n : Int)] w fun e w' => e = .returned (.bool true) ∧ Quiet w w' := by
  have hc := hB.cell 0
  simp at hc
  have hc2 := fun k => hD.cell k
  go_enter Try.func21, Try.ntmps21
  go_wp2_with fail
  go_loopw [5] (fun iv wr => ClearLoop w n iv wr) (fun iv _ => n - (intOf iv).toNat)
  case atStart => exact ⟨0, rfl, by omega, Quiet.refl w⟩
  case round =>
    obtain ⟨k, rfl, hk, hq⟩ := hrel
    by_cases hlt : (k : Int) < n
    · have e1 : wr.cell? ⟨b, 0, none⟩ = some (.slice (some ⟨d, 0, none⟩) n n) := by rw [(hq.blk hB).cell 0]; rfl
      have e2 : wr.cell? ⟨d, k, none⟩ = some (.int .u64 0) := by rw [(hq.blk hD).cell k, Array.getElem?_replicate, if_pos (by omega)]
      go_wp2_with fail
      go_roundw
      case rel => exact ⟨k + 1, by go_num, by omega, hq⟩
      case measure => simp [intOf]; omega
    · go_wp2_with fail
      go_ret
      exact ⟨rfl, hq⟩

end Go.Proofs.Ytoodkfjldflbeaa.Arena
