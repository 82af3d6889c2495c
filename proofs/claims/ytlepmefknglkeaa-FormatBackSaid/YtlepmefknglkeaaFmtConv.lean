/- Bytes as a string. -/
import Derived.Test.YtlepmefknglkeaaFVRef
set_option linter.unusedVariables false
namespace Go.Proofs.Ytlepmefknglkeaa.Var
open Go.RowKit

def strOf (l : List Nat) : ByteArray := Go.strOfNums (l.map fun x : Nat => (x : Int))

theorem conv_any (l : List Nat) (a : Option Addr) (n c : Nat) (w : World) (hr : Row w a (byts l)) (hn : l.length = n) (h0 : 0 < n) :
    (convert 38 9 (.slice a n c)).run Try.prog w = .ok (.string (strOf l)) w := by
  obtain ⟨b, off, rfl, _, _⟩ := hr.at_ (i := 0) (by rw [byts_length]; omega)
  refine run_convert_bytes_arg w 38 5 Try.underlying38 Try.underlying5 b off n c _ (by simpa using hn) (fun i hi => ?_) 9 Try.underlying9
  obtain ⟨b', off', he, hc, _⟩ := hr.at_ (i := i) (by rw [byts_length]; omega)
  injection he with he
  injection he with he1 he2
  subst he1; subst he2
  rw [hc]
  have : i < l.length := by omega
  simp [byts, this]

end Go.Proofs.Ytlepmefknglkeaa.Var
