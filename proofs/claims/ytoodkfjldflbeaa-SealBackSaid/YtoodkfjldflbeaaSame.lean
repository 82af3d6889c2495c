/- Two lists of words: the same? -/
import Derived.Test.YtoodkfjldflbeaaSeal
set_option linter.unusedVariables false
namespace Go.Proofs.Ytoodkfjldflbeaa.Crc
open Go.RowKit

def Quiet (w w' : World) : Prop := ∃ d, w' = w.drewN d
theorem Quiet.refl (w : World) : Quiet w w := ⟨0, rfl⟩
theorem Quiet.drewN {w w' : World} (h : Quiet w w') (n : Nat) : Quiet w (w'.drewN n) := by
  obtain ⟨d, rfl⟩ := h
  exact ⟨d + n, by simp⟩

def sameW (l m : List (BitVec 64)) : Bool := decide (l = m)
def SameLoop (w : World) (n : Nat) (l m : List (BitVec 64)) (iv : Value) (wr : World) : Prop := ∃ k : Nat, iv = .int .i64 (k : Int) ∧ k ≤ n ∧ l.take k = m.take k ∧ Quiet w wr

theorem words_at {w : World} {a : Option Addr} {l : List (BitVec 64)} (h : Row w a (words l)) {k : Nat} (hk : k < l.length) : ∃ b o, a = some ⟨b, o, none⟩ ∧ w.cell? ⟨b, o + k, none⟩ = some (.int .u64 (I64 l[k])) := by
  obtain ⟨b, o, e, hc, _⟩ := h.at_ (i := k) (by simpa [words] using hk)
  refine ⟨b, o, e, ?_⟩
  rw [hc]
  simp [words]

theorem I64_inj {x y : BitVec 64} (h : I64 x = I64 y) : x = y := by
  apply BitVec.eq_of_toNat_eq
  unfold I64 at h
  omega

set_option maxRecDepth 100000 in
theorem same_any (l m : List (BitVec 64)) (a b : Option Addr) (ca cb : Nat) (w : World) (ha : Row w a (words l)) (hb : Row w b (words m)) (hl : l.length < 1000000) (hm : m.length < 1000000) :
    Calls Try.prog 20 #[.slice a l.length ca, .slice b m.length cb] w fun e w' => e = .returned (.bool (sameW l m)) ∧ Quiet w w' := by
  by_cases hlen : l.length = m.length
  · have hlen2 : (l.length : Int) = m.length := by omega
    go_enter Try.func20, Try.ntmps20
    go_wp2_with fail
    go_loopw [5] (fun iv wr => SameLoop w m.length l m iv wr) (fun iv _ => m.length - (intOf iv).toNat)
    case atStart => exact ⟨0, rfl, by omega, rfl, Quiet.refl _⟩
    case round =>
      obtain ⟨k, rfl, hk, htk, d, rfl⟩ := hrel
      by_cases hlt : (k : Int) < m.length
      · obtain ⟨b1, o1, rfl, hc1⟩ := words_at ha (k := k) (by omega)
        obtain ⟨b2, o2, rfl, hc2⟩ := words_at hb (k := k) (by omega)
        by_cases hx : l[k]'(by omega) = m[k]'(by omega)
        · have hxe : (I64 (l[k]'(by omega)) != I64 (m[k]'(by omega))) = false := by rw [hx]; simp
          generalize I64 (l[k]'(by omega)) = x at *
          generalize I64 (m[k]'(by omega)) = y at *
          have ht : l.take (k + 1) = m.take (k + 1) := by
            rw [List.take_add_one, List.take_add_one, htk, List.getElem?_eq_getElem (by omega), List.getElem?_eq_getElem (by omega), hx]
          have HT := Lib.hid ht
          clear ha hb ht htk hx
          go_wp2_with fail
          go_quiet (fail)
          go_wp2_with fail
          go_roundw
          case rel => exact ⟨k + 1, by go_num, by omega, HT.out, (Quiet.refl w).drewN _⟩
          case measure => simp [intOf]; omega
        · have hxe : (I64 (l[k]'(by omega)) != I64 (m[k]'(by omega))) = true := by rw [bne_iff_ne]; exact fun e => hx (I64_inj e)
          have hne : sameW l m = false := by unfold sameW; simp; rintro rfl; exact hx rfl
          have HNE := Lib.hid hne
          clear hne
          generalize I64 (l[k]'(by omega)) = x at *
          generalize I64 (m[k]'(by omega)) = y at *
          clear ha hb htk hx
          go_wp2_with fail
          go_quiet (fail)
          go_wp2_with fail
          go_ret
          exact ⟨congrArg (fun b => Ending.returned (.bool b)) HNE.out.symm, ((Quiet.refl w).drewN _).drewN _⟩
      · have heq : l = m := by
          rw [List.take_of_length_le (by omega), List.take_of_length_le (by omega)] at htk
          exact htk
        have heq2 : sameW l m = true := by unfold sameW; simp [heq]
        have HEQ := Lib.hid heq2
        clear heq heq2 htk
        go_wp2_with fail
        go_ret
        exact ⟨congrArg (fun b => Ending.returned (.bool b)) HEQ.out.symm, (Quiet.refl w).drewN _⟩
  · have hlen2 : ((l.length : Int) != m.length) = true := by rw [bne_iff_ne]; omega
    have hne : sameW l m = false := by unfold sameW; simp; rintro rfl; exact hlen rfl
    have HNE := Lib.hid hne
    clear hne
    go_enter Try.func20, Try.ntmps20
    go_wp2_with fail
    go_ret
    exact ⟨congrArg (fun b => Ending.returned (.bool b)) HNE.out.symm, Quiet.refl _⟩

end Go.Proofs.Ytoodkfjldflbeaa.Crc
