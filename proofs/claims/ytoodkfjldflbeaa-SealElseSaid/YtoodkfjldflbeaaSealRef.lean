/- The walks of seal.Put where it refuses, and of the reference's Put. -/
import Derived.Test.YtoodkfjldflbeaaSealPut
import Derived.Test.YtoodkfjldflbeaaSame
set_option linter.unusedVariables false
namespace Go.Proofs.Ytoodkfjldflbeaa.Crc
open Go.RowKit

/-- What Put asks. -/
def PutFits (size address : Int) (n : Nat) : Prop := 8 ≤ size ∧ size ≤ 256 ∧ 0 ≤ address ∧ (n : Int) + 2 ≤ size

set_option maxRecDepth 100000 in
theorem put_no (size address : Int) (tag : Int) (a : Option Addr) (n c : Nat) (w : World) (h : ¬ PutFits size address n) (hn : n ≤ 9223372036854775807) :
    Calls Try.prog 18 #[.int .i64 size, .int .i64 address, .int .u64 tag, .slice a n c] w fun e w' =>
      e = .returned (.tuple #[.slice none 0 0, .int .i64 1]) ∧ w = w' := by
  unfold PutFits at h
  by_cases hr : 8 ≤ size ∧ size ≤ 256 ∧ 0 ≤ address
  · have hR := right_any size address w
    rw [show decide (8 ≤ size ∧ size ≤ 256 ∧ 0 ≤ address) = true from by simpa using hr] at hR
    have HR := Lib.hid hR
    have h2 : size - 2 < (n : Int) := by omega
    obtain ⟨h8, h256, h0⟩ := hr
    clear hR h
    go_enter Try.func18, Try.ntmps18
    go_wp2_with fail
    refine HR.out.mono ?_
    rintro e w1 ⟨rfl, rfl⟩
    go_wp2_with fail
    go_ret2
    exact ⟨rfl, rfl⟩
  · have hR := right_any size address w
    rw [show decide (8 ≤ size ∧ size ≤ 256 ∧ 0 ≤ address) = false from by simpa using hr] at hR
    have HR := Lib.hid hR
    clear hR h hr
    go_enter Try.func18, Try.ntmps18
    go_wp2_with fail
    refine HR.out.mono ?_
    rintro e w1 ⟨rfl, rfl⟩
    go_wp2_with fail
    go_ret2
    exact ⟨rfl, rfl⟩

set_option maxRecDepth 100000 in
theorem refput_no (size address : Int) (tag : Int) (a : Option Addr) (n c : Nat) (w : World) (h : ¬ PutFits size address n) (hn : n ≤ 9223372036854775807) :
    Calls Try.prog 19 #[.int .i64 size, .int .i64 address, .int .u64 tag, .slice a n c] w fun e w' =>
      e = .returned (.tuple #[.slice none 0 0, .int .i64 1]) ∧ w = w' := by
  unfold PutFits at h
  by_cases h8 : size < 8
  · clear h
    go_enter Try.func19, Try.ntmps19
    go_wp2_with fail
    go_ret2
    exact ⟨rfl, rfl⟩
  by_cases h256 : 256 < size
  · clear h
    go_enter Try.func19, Try.ntmps19
    go_wp2_with fail
    go_ret2
    exact ⟨rfl, rfl⟩
  by_cases h0 : address < 0
  · clear h
    go_enter Try.func19, Try.ntmps19
    go_wp2_with fail
    go_ret2
    exact ⟨rfl, rfl⟩
  have h2 : size - 2 < (n : Int) := by omega
  have h3 : 8 ≤ size := by omega
  clear h
  go_enter Try.func19, Try.ntmps19
  go_wp2_with fail
  go_ret2
  exact ⟨rfl, rfl⟩

def lenV : Value → Nat
  | .slice _ n _ => n
  | _ => 0

/-- The reference's loop: zeros behind the payload. -/
def FillLoop (w : World) (p : List (BitVec 64)) (size : Nat) (v : Value) (wr : World) : Prop :=
  ∃ k, p.length + k + 2 ≤ size ∧ wr.ownsRow w.heap.size 33 1 v (p.length + k) (words (p ++ List.replicate k 0#64)) ∧ Below w.heap.size w wr

def RefPut (w : World) (size : Nat) (l : List (BitVec 64)) (e : Ending) (w' : World) : Prop :=
  ∃ v, e = .returned (.tuple #[v, .int .i64 0]) ∧ w'.ownsRow w.heap.size 33 1 v size (words l) ∧ Below w.heap.size w w'

theorem words_append (a b : List (BitVec 64)) : words (a ++ b) = words a ++ words b := by simp [words]

theorem add_word (n : Nat) (s : BitVec 32) (hn : n < 1000000) : ((n : Int) + 1) * 4294967296 + I32 s = I64 (((BitVec.ofNat 64 n + 1#64) <<< 32) ||| s.setWidth 64) := by
  have h : BitVec.ofNat 64 n + 1#64 = BitVec.ofNat 64 (n + 1) := by
    apply BitVec.eq_of_toNat_eq
    simp
  have hs := s.isLt
  rw [h]
  unfold I64 I32
  rw [BitVec.toNat_or, BitVec.toNat_shiftLeft, BitVec.toNat_ofNat, BitVec.toNat_setWidth, Nat.shiftLeft_eq, Nat.mod_eq_of_lt (a := n + 1) (by omega), Nat.mod_eq_of_lt (a := s.toNat) (by omega), Nat.mod_eq_of_lt (by omega)]
  have := Nat.two_pow_add_eq_or_of_lt (i := 32) (b := s.toNat) (by omega) (n + 1)
  rw [Nat.mul_comm, ← this]
  omega

set_option maxRecDepth 100000 in
set_option maxHeartbeats 400000 in
theorem refput_ok (p : List (BitVec 64)) (size x : Nat) (tag : BitVec 64) (a : Option Addr) (c : Nat) (w : World) (hr : Row w a (words p)) (h8 : 8 ≤ size) (h256 : size ≤ 256) (hp : p.length + 2 ≤ size) (hx : x < 9223372036854775808) :
    Calls Try.prog 19 #[.int .i64 (size : Int), .int .i64 (x : Int), .int .u64 (I64 tag), .slice a p.length c] w
      (RefPut w size (sealW p size tag (BitVec.ofNat 64 x))) := by
  have hp2 : decide ((size : Int) - 2 < (p.length : Int)) = false := by simp; omega
  go_enter Try.func19, Try.ntmps19
  go_wp2_with (at_builtin; go_must (refine wpList_append rfl (.tmp 29) (.tmp 30) _ rfl el_u64 w.heap.size _ 0 [] rfl (World.ownsRow_nil _ _ _ _) a p.length c (words p) rfl (by rw [words_length]; omega) hr (words_one p) (by unfold maxLen; omega) (by omega) (Nat.le_refl _) ?_))
  intro v1 w1 hown1 _ _ hb1
  go_wp2_with fail
  go_loopw [10] (fun v wr => FillLoop w p size v wr) (fun v _ => size - lenV v)
  case atStart => exact ⟨0, by omega, by simpa using hown1, hb1⟩
  case round =>
    obtain ⟨k, hk, hown, hb⟩ := hrel
    clear hown1 hb1
    by_cases hlt : (p.length + k : Nat) < (size : Int) - 2
    · obtain ⟨a2, c2, rfl, hr2, hcap, hcm, -⟩ := own_slice hown
      have hz := hb.size
      go_wp2_with (at_builtin; go_must (refine wpList_append rfl (.tmp 37) (.tmp 38) _ rfl el_u64 w.heap.size _ _ _ rfl (hown.alloc _) _ 1 1 (words [0#64]) rfl rfl (Row.new wr _ _ _) (words_one _) (by unfold maxLen; omega) (by omega) (by simp; omega) ?_))
      intro v2 w2 hown2 _ _ hb2
      obtain ⟨a3, c3, rfl, -⟩ := own_slice hown2
      go_wp2_with fail
      go_roundw
      case rel =>
        refine ⟨k + 1, by omega, ?_, (hb.trans (((Below.refl w.heap.size wr).alloc hz _).trans hb2))⟩
        have e : words (p ++ List.replicate k 0#64) ++ words [0#64] = words (p ++ List.replicate (k + 1) 0#64) := by
          rw [← words_append, List.append_assoc]
          congr 2
          exact (List.replicate_succ').symm
        rw [e] at hown2
        exact hown2
      case measure => simp [lenV]; omega
    · have hz := hb.size
      have hsz : p.length + k = size - 2 := by omega
      have hks : k = size - 2 - p.length := by omega
      rw [hsz, hks] at hown
      have hB : bodyW p size tag = p ++ List.replicate (size - 2 - p.length) 0#64 ++ [tag] := rfl
      generalize p ++ List.replicate (size - 2 - p.length) 0#64 = L at *
      have HB := Lib.hid hB
      clear hB hsz hks hk
      obtain ⟨a2, c2, rfl, -⟩ := own_slice hown
      have hlt2 : ¬ ((size - 2 : Nat) : Int) < (size : Int) - 2 := by omega
      go_wp2_with (at_builtin; go_must (refine wpList_append rfl (.tmp 40) (.tmp 42) _ rfl el_u64 w.heap.size _ _ _ rfl (hown.alloc _) _ 1 1 (words [tag]) rfl rfl (Row.new wr _ _ _) (words_one _) (by unfold maxLen; omega) (by omega) (by simp; omega) ?_))
      intro v3 w3 own3 _ _ hb3
      rw [← words_append, ← HB.out, show size - 2 + 1 = size - 1 from by omega] at own3
      have hB3 : Below w.heap.size w w3 := hb.trans (((Below.refl w.heap.size wr).alloc hz _).trans hb3)
      have lt3 := fun g hg => (own3.lt g hg).2
      have hBl := bodyW_length (tag := tag) hp
      have hz3 := hB3.size
      generalize hB0 : bodyW p size tag = B at *
      have HB0 := Lib.hid hB0
      clear hB0
      have HBl := Lib.hid hBl
      clear hBl hb3 hown hb hz
      obtain ⟨a3, c3, rfl, hr3, hcap3, -⟩ := own_slice own3
      have hwl : (words B).length = (size - 1) * 1 := by have := HBl.out; rw [words_length]; omega
      have HWL := Lib.hid hwl
      clear hwl
      go_wp2_with (at_builtin; go_must (refine wpList_append rfl (.tmp 44) (.tmp 45) _ rfl el_u64 w.heap.size _ 0 [] rfl (World.ownsRow_nil _ _ _ _) a3 (size - 1) c3 (words B) rfl HWL.out hr3 (words_one B) (by unfold maxLen; omega) (by omega) hz3 ?_))
      intro v4 w4 own4 hg4 hat4 hb4
      have own34 := own_chg own3 (Chg.of_grown hg4) (fun g hg h => by cases h)
      have ge4 : ∀ g, v4.ownBlock = some g → w3.heap.size ≤ g := fun g hg => by
        rcases hat4 with h | h
        · rw [hg] at h; cases h
        · rw [hg] at h; cases h; exact Nat.le_refl _
      have hz4 := hb4.size
      have hB4 := hB3.trans hb4
      clear hat4 hg4 own3 hr3 hb4
      obtain ⟨a4, c4, rfl, -⟩ := own_slice own4
      go_wp2_with (at_builtin; go_must (refine wpList_append rfl (.tmp 47) (.tmp 52) _ rfl el_u64 w.heap.size _ _ _ rfl (own4.alloc _) _ 1 1 [.int .u64 ((p.length : Int) + 1)] rfl rfl (Row.new w4 _ _ _) (by intro u hu; simp at hu; subst hu; rfl) (by unfold maxLen; omega) (by omega) (by simp; omega) ?_))
      intro v5 w5 own5 hg5 hat5 hb5
      have own35 := own_chg (own34.alloc (.cells #[.int .u64 ((p.length : Int) + 1)] 33)) (Chg.of_grown hg5) (fun g hg h => by have := ge4 g h.symm; have := lt3 g hg; omega)
      have ge5 : ∀ g, v5.ownBlock = some g → w3.heap.size ≤ g := fun g hg => by
        rcases hat5 with h | h
        · exact ge4 g (h ▸ hg)
        · rw [hg] at h; cases h; omega
      have hB5 := hB4.trans (((Below.refl w.heap.size w4).alloc (by omega) (.cells #[.int .u64 ((p.length : Int) + 1)] 33)).trans hb5)
      have hz5 : w3.heap.size ≤ w5.heap.size := by have := hb5.size; simp at this; omega
      rw [show [Value.int .u64 ((p.length : Int) + 1)] = words [BitVec.ofNat 64 p.length + 1#64] from by simp [words]; exact (I64_succ (by omega)).symm, ← words_append, show size - 1 + 1 = size from by omega] at own5
      clear hat5 hg5 own34 own4 ge4 hB4 hb5 hz4
      obtain ⟨a5, c5, rfl, -⟩ := own_slice own5
      have hux : IntKind.u64.wrap (x : Int) = (x : Int) := u64_wrap_id (by omega) (by omega)
      go_wp2_with (at_builtin; go_must (refine wpList_append rfl (.tmp 54) (.tmp 57) _ rfl el_u64 w.heap.size _ _ _ rfl (own5.alloc _) _ 1 1 [.int .u64 (x : Int)] rfl rfl (Row.new w5 _ _ _) (by intro u hu; simp at hu; subst hu; rfl) (by unfold maxLen; omega) (by omega) (by simp; omega) ?_))
      intro v6 w6 own6 hg6 _ hb6
      have own36 := own_chg (own35.alloc (.cells #[.int .u64 (x : Int)] 33)) (Chg.of_grown hg6) (fun g hg h => by have := ge5 g h.symm; have := lt3 g hg; omega)
      have hB6 := hB5.trans (((Below.refl w.heap.size w5).alloc (by omega) (.cells #[.int .u64 (x : Int)] 33)).trans hb6)
      have hz6 : w3.heap.size ≤ w6.heap.size := by have := hb6.size; simp at this; omega
      rw [show [Value.int .u64 (x : Int)] = words [BitVec.ofNat 64 x] from by simp [words]; exact (I64_ofNat (by omega)).symm, ← words_append] at own6
      clear hg6 own35 own5 ge5 hB5 hb6 hz5
      obtain ⟨a6, c6, rfl, hr6, hcap6, -⟩ := own_slice own6
      clear own6
      go_wp2_with fail
      refine (ref_at _ _ _ _ _ (by have := HBl.out; simp; omega) hr6 (by omega)).mono ?_
      rintro e w7 ⟨rfl, rfl⟩
      have hs : sum (B ++ [BitVec.ofNat 64 p.length + 1#64] ++ [BitVec.ofNat 64 x]) = next (next (sum B) (BitVec.ofNat 64 p.length + 1#64)) (BitVec.ofNat 64 x) := by
        unfold sum
        rw [List.foldl_append, List.foldl_append]
        rfl
      rw [hs]
      have hval : ((p.length : Int) + 1) * 4294967296 + I32 (next (next (sum B) (BitVec.ofNat 64 p.length + 1#64)) (BitVec.ofNat 64 x)) = I64 (lastW B (BitVec.ofNat 64 p.length) (BitVec.ofNat 64 x)) := add_word _ _ (by omega)
      have hZ : B ++ [lastW B (BitVec.ofNat 64 p.length) (BitVec.ofNat 64 x)] = sealW p size tag (BitVec.ofNat 64 x) := by
        unfold sealW
        rw [HB0.out]
      generalize lastW B (BitVec.ofNat 64 p.length) (BitVec.ofNat 64 x) = Z at *
      have HZ := Lib.hid hZ
      clear hZ
      generalize next (next (sum B) (BitVec.ofNat 64 p.length + 1#64)) (BitVec.ofNat 64 x) = S at *
      have HV := Lib.hid hval
      have hS := I32_lt S
      clear hs hval hr6 hcap6
      go_wp2_with (at_builtin; go_must (refine wpList_append rfl (.tmp 59) (.tmp 69) _ rfl el_u64 w.heap.size _ _ _ rfl (own36.alloc _) _ 1 1 [.int .u64 (((p.length : Int) + 1) * 4294967296 + I32 S)] rfl rfl (Row.new w6 _ _ _) (by intro u hu; simp at hu; subst hu; rfl) (by unfold maxLen; omega) (by omega) (by simp; omega) ?_))
      intro v8 w8 own8 _ _ hb8
      rw [show [Value.int .u64 (((p.length : Int) + 1) * 4294967296 + I32 S)] = words [Z] from by rw [HV.out]; rfl, ← words_append, show size - 1 + 1 = size from by omega] at own8
      have hB8 := hB6.trans (((Below.refl w.heap.size w6).alloc (by omega) (.cells #[.int .u64 (((p.length : Int) + 1) * 4294967296 + I32 S)] 33)).trans hb8)
      go_wp2_with fail
      go_ret2
      exact ⟨v8, rfl, HZ.out ▸ own8, hB8⟩

end Go.Proofs.Ytoodkfjldflbeaa.Crc
