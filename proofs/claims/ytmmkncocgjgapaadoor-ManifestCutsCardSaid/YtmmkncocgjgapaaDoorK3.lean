/- Texts of mine, packed: SealPut, Same, SealRef, SealPuts, SealGet, SealGet2, SealGet3, SealGetR, SealPlain, Open5, MfP, MfSmall, MfLaw, TrimLay, MfForm. -/
import Derived.Test.YtmmkncocgjgapaaDoorK1
import Derived.Test.YtmmkncocgjgapaaDoorK2
import Derived.Laws.CopyOwn
import Derived.Deep.RegionHeld3
import Derived.Lib.SlTrimSet
import Derived.WalkLawsBesides
import Derived.BigQuiet
import Derived.Deep.DeepCutAuto
import Derived.Deep.CutBlock
import Derived.Laws.StructEq
import Derived.Shelf.Strings.SlTrimAscii
import Derived.Test.YtmmkncocgjgapaaDoorRows
set_option linter.unusedVariables false

/- The walk of seal.Put: the sealed block lies in memory of the call's own, or the call refuses. -/
namespace Go.Proofs.YtmmkncocgjgapaaDoor.Crc
open Go.RowKit

/-- The words ahead of the last one: the payload, zeros, the tag. -/
def bodyW (p : List (BitVec 64)) (size : Nat) (tag : BitVec 64) : List (BitVec 64) := p ++ List.replicate (size - 2 - p.length) 0#64 ++ [tag]
theorem bodyW_length {p : List (BitVec 64)} {size : Nat} {tag : BitVec 64} (h : p.length + 2 ≤ size) : (bodyW p size tag).length + 1 = size := by
  simp [bodyW]; omega
/-- A sealed block. -/
def sealW (p : List (BitVec 64)) (size : Nat) (tag x : BitVec 64) : List (BitVec 64) :=
  bodyW p size tag ++ [lastW (bodyW p size tag) (BitVec.ofNat 64 p.length) x]
theorem sealW_length {p : List (BitVec 64)} {size : Nat} {tag x : BitVec 64} (h : p.length + 2 ≤ size) : (sealW p size tag x).length = size := by
  have := bodyW_length (tag := tag) h
  simp [sealW]; omega

def zeroCells (n : Nat) : List Value := List.replicate n (.int .u64 0)
theorem zeroCells_length (n : Nat) : (zeroCells n).length = n := by simp [zeroCells]

theorem put_cells (p : List (BitVec 64)) (size : Nat) (tag : BitVec 64) (h : p.length + 2 ≤ size) :
    (splice (zeroCells size) 0 (words p)).toArray.setIfInBounds (size - 2) (.int .u64 (I64 tag)) = (words (bodyW p size tag ++ [0#64])).toArray := by
  apply Array.toList_inj.1
  simp only [Array.toList_setIfInBounds]
  have h1 : splice (zeroCells size) 0 (words p) = words p ++ zeroCells (size - 2 - p.length) ++ [.int .u64 0] ++ [.int .u64 0] := by
    have e : size = p.length + ((size - 2 - p.length) + (1 + 1)) := by omega
    have hz : zeroCells size = zeroCells p.length ++ (zeroCells (size - 2 - p.length) ++ ([.int .u64 0] ++ [.int .u64 0])) := by
      unfold zeroCells
      conv => lhs; rw [e]
      rw [← List.replicate_append_replicate, ← List.replicate_append_replicate, ← List.replicate_append_replicate]
      rfl
    unfold splice
    rw [hz, words_length, List.take_zero, Nat.zero_add, List.drop_append_of_le_length (by rw [zeroCells_length]; omega), List.drop_of_length_le (by rw [zeroCells_length]; omega)]
    simp
  have h2 : (words p ++ zeroCells (size - 2 - p.length)).length = size - 2 := by
    rw [List.length_append, words_length, zeroCells_length]; omega
  rw [h1]
  have h3 : words (bodyW p size tag ++ [0#64]) = words p ++ zeroCells (size - 2 - p.length) ++ [.int .u64 (I64 tag)] ++ [.int .u64 0] := by
    simp only [bodyW, words, zeroCells, List.map_append, List.map_replicate, List.map_cons, List.map_nil]
    rfl
  rw [h3]
  generalize words p ++ zeroCells (size - 2 - p.length) = A at *
  rw [← h2]
  simp

theorem put_last (l : List (BitVec 64)) (size : Nat) (h : l.length + 1 = size) (y z : BitVec 64) :
    (words (l ++ [y])).toArray.setIfInBounds (size - 1) (.int .u64 (I64 z)) = (words (l ++ [z])).toArray := by
  apply Array.toList_inj.1
  subst h
  simp [words]

theorem last_at (l : List (BitVec 64)) (z : BitVec 64) (m n x : Nat) (a : Option Addr) (c : Nat) (w : World) (hr : Row w a (words (l ++ [z]))) (hm : l.length + 1 = m) (hcap : m ≤ c) (hl : m < 1000000) (hn : n < 1000000) (hx : x < 9223372036854775808) :
    Calls Tryd.prog 46 #[.slice a m c, .int .i64 (n : Int), .int .i64 (x : Int)] w fun e w' => e = .returned (.int .u64 (I64 (lastW l (BitVec.ofNat 64 n) (BitVec.ofNat 64 x)))) ∧ w = w' := by
  subst hm
  exact last_any l z n x a c w hr hcap (by omega) hn hx

set_option maxRecDepth 100000 in
theorem put_ok (p : List (BitVec 64)) (size x : Nat) (tag : BitVec 64) (a : Option Addr) (c : Nat) (w : World) (hr : Row w a (words p)) (h8 : 8 ≤ size) (h256 : size ≤ 256) (hp : p.length + 2 ≤ size) (hx : x < 9223372036854775808) :
    Calls Tryd.prog 31 #[.int .i64 (size : Int), .int .i64 (x : Int), .int .u64 (I64 tag), .slice a p.length c] w fun e w' =>
      e = .returned (.tuple #[.slice (some ⟨w.heap.size, 0, none⟩) size size, .int .i64 0]) ∧ Blk w' w.heap.size 35 (words (sealW p size tag (BitVec.ofNat 64 x))).toArray ∧ Below w.heap.size w w' := by
  have hR := right_any size x w
  rw [show decide (8 ≤ (size : Int) ∧ (size : Int) ≤ 256 ∧ 0 ≤ (x : Int)) = true from by simp; omega] at hR
  have HR := Lib.hid hR
  have hm := run_make_of (P := Tryd.prog) (t := 40) (e := 35) (bytes := 8) (z := .int .u64 0) Tryd.underlying40 (by kernel_rfl) rfl .i64 .i64 size (by omega) (by omega) w
  have hp2 : decide ((size : Int) - 2 < (p.length : Int)) = false := by simp; omega
  have hp3 : (0 : Int) ≤ (size : Int) - 2 := by omega
  clear hR
  go_enter Tryd.func31, Tryd.ntmps31
  go_wp2_with fail
  refine HR.out.mono ?_
  rintro e w1 ⟨rfl, rfl⟩
  have hcz : (zeroCells size).toArray = same size (.int .u64 0) := by
    apply Array.toList_inj.1
    rw [same_list]
    rfl
  have HB0 : (w.alloc (.cells (same size (.int .u64 0)) 35)).heap[w.heap.size]? = some (.cells (zeroCells size).toArray 35 (0, 0)) := by
    rw [hcz]; exact Blk.new w _ _
  have HBW := Lib.hid HB0
  clear HB0 hcz
  have hra := hr.below ((Below.refl w.heap.size w).alloc (Nat.le_refl _) (.cells (same size (.int .u64 0)) 35))
  go_wp2_with (with_reducible refine wpList_copy_splice (o := ⟨some 26, _, _, _, _, _⟩) ?h1 (.tmp 24) (.tmp 25) 40 40 ?h2 35 Tryd.underlying40 ?h3 (some ⟨w.heap.size, 0, none⟩) a size size p.length c ?h4 ?h5 w.heap.size 0 (zeroCells size) 35 HBW.out (words p) ?c1 ?c2 ?c3 (words_one p) w.heap.size w ?c4 (Nat.le_refl _) ?_)
  case h1 => rfl
  case h2 => rfl
  case h3 => kernel_rfl
  case h4 => rfl
  case h5 => rfl
  case c1 => rw [words_length]; exact (Nat.min_eq_left (by omega)).symm
  case c2 =>
    intro hpos
    obtain ⟨b, o, rfl, _⟩ := hra.at_ hpos
    refine ⟨_, rfl, fun j v hj => ?_⟩
    have hj2 := hj
    rw [List.getElem?_eq_some_iff] at hj2
    obtain ⟨hj2, rfl⟩ := hj2
    obtain ⟨b', o', e, hc, _⟩ := hra.at_ hj2
    cases e
    rw [add_none, hc]
  case c3 => rw [words_length, zeroCells_length]; omega
  case c4 => exact (Below.refl w.heap.size w).alloc (Nat.le_refl _) _
  intro w2 HG2 hb2
  have B2 : Blk w2 w.heap.size 35 (splice (zeroCells size) 0 (words p)).toArray := HG2.out
  have hcells := put_cells p size tag hp
  have hl2 : (splice (zeroCells size) 0 (words p)).toArray.size = size := by
    rw [List.size_toArray, length_splice _ _ _ (by rw [words_length, zeroCells_length]; omega), zeroCells_length]
  generalize (splice (zeroCells size) 0 (words p)).toArray = cs at *
  obtain ⟨v2, e2⟩ := B2.some_ (i := size - 2) (by omega)
  have f2 := B2.frozen (size - 2)
  have B3 := B2.set_ (size - 2) (.int .u64 (I64 tag))
  rw [hcells] at B3
  have hb3 := hb2.setCell (p := ⟨w.heap.size, size - 2, none⟩) (Nat.le_refl _) (.int .u64 (I64 tag))
  have HL := Lib.hid (bodyW_length (tag := tag) hp)
  have r3 := Row.of_blk B3
  have E3 := Lib.hid (put_last (bodyW p size tag) size HL.out 0#64 (lastW (bodyW p size tag) (BitVec.ofNat 64 p.length) (BitVec.ofNat 64 x)))
  clear hcells hl2
  clear HG2 hm hra hr HR
  go_wp2_with fail
  clear e2 f2
  generalize w2.setCell ⟨w.heap.size, size - 2, none⟩ (.int .u64 (I64 tag)) = w3 at *
  refine (last_at (bodyW p size tag) 0#64 size p.length x _ _ _ r3 HL.out (Nat.le_refl _) (by omega) (by omega) hx).mono ?_
  rintro e w4 ⟨rfl, rfl⟩
  obtain ⟨v3, e3⟩ := B3.some_ (i := size - 1) (by have := HL.out; simp [words]; omega)
  have f3 := B3.frozen (size - 1)
  have B4 := B3.set_ (size - 1) (.int .u64 (I64 (lastW (bodyW p size tag) (BitVec.ofNat 64 p.length) (BitVec.ofNat 64 x))))
  have hb4 := hb3.setCell (p := ⟨w.heap.size, size - 1, none⟩) (Nat.le_refl _) (.int .u64 (I64 (lastW (bodyW p size tag) (BitVec.ofNat 64 p.length) (BitVec.ofNat 64 x))))
  rw [E3.out] at B4
  clear B3 hb3 r3
  go_wp2_with fail
  go_ret2
  exact ⟨rfl, B4, hb4⟩

end Go.Proofs.YtmmkncocgjgapaaDoor.Crc

/- Two lists of words: the same? -/
namespace Go.Proofs.YtmmkncocgjgapaaDoor.Crc
open Go.RowKit

def Quiet (w w' : World) : Prop := ∃ d, w' = w.drewN d
theorem Quiet.refl (w : World) : Quiet w w := ⟨0, rfl⟩
theorem Quiet.drewN {w w' : World} (h : Quiet w w') (n : Nat) : Quiet w (w'.drewN n) := by
  obtain ⟨d, rfl⟩ := h
  exact ⟨d + n, by simp⟩

def sameW (l m : List (BitVec 64)) : Bool := decide (l = m)
def SameLoop (w : World) (n : Nat) (l m : List (BitVec 64)) (iv : Value) (wr : World) : Prop := ∃ k : Nat, iv = .int .i64 (k : Int) ∧ k ≤ n ∧ l.take k = m.take k ∧ Quiet w wr

theorem words_at {w : World} {a : Option Addr} {l : List (BitVec 64)} (h : Row w a (words l)) {k : Nat} (hk : k < l.length) : ∃ b o, a = some ⟨b, o, none⟩ ∧ w.cell? ⟨b, o + k, none⟩ = some (.int .u64 (I64 l[k])) := by
  obtain ⟨b, o, e, hc, _⟩ := h.at_ (i := k) (by simpa [words] using hk)
  refine ⟨b, o, e, ?_⟩
  rw [hc]
  simp [words]

theorem I64_inj {x y : BitVec 64} (h : I64 x = I64 y) : x = y := by
  apply BitVec.eq_of_toNat_eq
  unfold I64 at h
  omega

set_option maxRecDepth 100000 in
theorem same_any (l m : List (BitVec 64)) (a b : Option Addr) (ca cb : Nat) (w : World) (ha : Row w a (words l)) (hb : Row w b (words m)) (hl : l.length < 1000000) (hm : m.length < 1000000) :
    Calls Tryd.prog 20 #[.slice a l.length ca, .slice b m.length cb] w fun e w' => e = .returned (.bool (sameW l m)) ∧ Quiet w w' := by
  by_cases hlen : l.length = m.length
  · have hlen2 : (l.length : Int) = m.length := by omega
    go_enter Tryd.func20, Tryd.ntmps20
    go_wp2_with fail
    go_loopw [5] (fun iv wr => SameLoop w m.length l m iv wr) (fun iv _ => m.length - (intOf iv).toNat)
    case atStart => exact ⟨0, rfl, by omega, rfl, Quiet.refl _⟩
    case round =>
      obtain ⟨k, rfl, hk, htk, d, rfl⟩ := hrel
      by_cases hlt : (k : Int) < m.length
      · obtain ⟨b1, o1, rfl, hc1⟩ := words_at ha (k := k) (by omega)
        obtain ⟨b2, o2, rfl, hc2⟩ := words_at hb (k := k) (by omega)
        by_cases hx : l[k]'(by omega) = m[k]'(by omega)
        · have hxe : (I64 (l[k]'(by omega)) != I64 (m[k]'(by omega))) = false := by rw [hx]; simp
          generalize I64 (l[k]'(by omega)) = x at *
          generalize I64 (m[k]'(by omega)) = y at *
          have ht : l.take (k + 1) = m.take (k + 1) := by
            rw [List.take_add_one, List.take_add_one, htk, List.getElem?_eq_getElem (by omega), List.getElem?_eq_getElem (by omega), hx]
          have HT := Lib.hid ht
          clear ha hb ht htk hx
          go_wp2_with fail
          go_quiet (fail)
          go_wp2_with fail
          go_roundw
          case rel => exact ⟨k + 1, by go_num, by omega, HT.out, (Quiet.refl w).drewN _⟩
          case measure => simp [intOf]; omega
        · have hxe : (I64 (l[k]'(by omega)) != I64 (m[k]'(by omega))) = true := by rw [bne_iff_ne]; exact fun e => hx (I64_inj e)
          have hne : sameW l m = false := by unfold sameW; simp; rintro rfl; exact hx rfl
          have HNE := Lib.hid hne
          clear hne
          generalize I64 (l[k]'(by omega)) = x at *
          generalize I64 (m[k]'(by omega)) = y at *
          clear ha hb htk hx
          go_wp2_with fail
          go_quiet (fail)
          go_wp2_with fail
          go_ret
          exact ⟨congrArg (fun b => Ending.returned (.bool b)) HNE.out.symm, ((Quiet.refl w).drewN _).drewN _⟩
      · have heq : l = m := by
          rw [List.take_of_length_le (by omega), List.take_of_length_le (by omega)] at htk
          exact htk
        have heq2 : sameW l m = true := by unfold sameW; simp [heq]
        have HEQ := Lib.hid heq2
        clear heq heq2 htk
        go_wp2_with fail
        go_ret
        exact ⟨congrArg (fun b => Ending.returned (.bool b)) HEQ.out.symm, (Quiet.refl w).drewN _⟩
  · have hlen2 : ((l.length : Int) != m.length) = true := by rw [bne_iff_ne]; omega
    have hne : sameW l m = false := by unfold sameW; simp; rintro rfl; exact hlen rfl
    have HNE := Lib.hid hne
    clear hne
    go_enter Tryd.func20, Tryd.ntmps20
    go_wp2_with fail
    go_ret
    exact ⟨congrArg (fun b => Ending.returned (.bool b)) HNE.out.symm, Quiet.refl _⟩

end Go.Proofs.YtmmkncocgjgapaaDoor.Crc

/- The walks of seal.Put where it refuses, and of the reference's Put. -/
namespace Go.Proofs.YtmmkncocgjgapaaDoor.Crc
open Go.RowKit

/-- What Put asks. -/
def PutFits (size address : Int) (n : Nat) : Prop := 8 ≤ size ∧ size ≤ 256 ∧ 0 ≤ address ∧ (n : Int) + 2 ≤ size

set_option maxRecDepth 100000 in
theorem put_no (size address : Int) (tag : Int) (a : Option Addr) (n c : Nat) (w : World) (h : ¬ PutFits size address n) (hn : n ≤ 9223372036854775807) :
    Calls Tryd.prog 31 #[.int .i64 size, .int .i64 address, .int .u64 tag, .slice a n c] w fun e w' =>
      e = .returned (.tuple #[.slice none 0 0, .int .i64 1]) ∧ w = w' := by
  unfold PutFits at h
  by_cases hr : 8 ≤ size ∧ size ≤ 256 ∧ 0 ≤ address
  · have hR := right_any size address w
    rw [show decide (8 ≤ size ∧ size ≤ 256 ∧ 0 ≤ address) = true from by simpa using hr] at hR
    have HR := Lib.hid hR
    have h2 : size - 2 < (n : Int) := by omega
    obtain ⟨h8, h256, h0⟩ := hr
    clear hR h
    go_enter Tryd.func31, Tryd.ntmps31
    go_wp2_with fail
    refine HR.out.mono ?_
    rintro e w1 ⟨rfl, rfl⟩
    go_wp2_with fail
    go_ret2
    exact ⟨rfl, rfl⟩
  · have hR := right_any size address w
    rw [show decide (8 ≤ size ∧ size ≤ 256 ∧ 0 ≤ address) = false from by simpa using hr] at hR
    have HR := Lib.hid hR
    clear hR h hr
    go_enter Tryd.func31, Tryd.ntmps31
    go_wp2_with fail
    refine HR.out.mono ?_
    rintro e w1 ⟨rfl, rfl⟩
    go_wp2_with fail
    go_ret2
    exact ⟨rfl, rfl⟩

def lenV : Value → Nat
  | .slice _ n _ => n
  | _ => 0

/-- The reference's loop: zeros behind the payload. -/
def FillLoop (w : World) (p : List (BitVec 64)) (size : Nat) (v : Value) (wr : World) : Prop :=
  ∃ k, p.length + k + 2 ≤ size ∧ wr.ownsRow w.heap.size 35 1 v (p.length + k) (words (p ++ List.replicate k 0#64)) ∧ Below w.heap.size w wr

def RefPut (w : World) (size : Nat) (l : List (BitVec 64)) (e : Ending) (w' : World) : Prop :=
  ∃ v, e = .returned (.tuple #[v, .int .i64 0]) ∧ w'.ownsRow w.heap.size 35 1 v size (words l) ∧ Below w.heap.size w w'

theorem words_append (a b : List (BitVec 64)) : words (a ++ b) = words a ++ words b := by simp [words]

theorem add_word (n : Nat) (s : BitVec 32) (hn : n < 1000000) : ((n : Int) + 1) * 4294967296 + I32 s = I64 (((BitVec.ofNat 64 n + 1#64) <<< 32) ||| s.setWidth 64) := by
  have h : BitVec.ofNat 64 n + 1#64 = BitVec.ofNat 64 (n + 1) := by
    apply BitVec.eq_of_toNat_eq
    simp
  have hs := s.isLt
  rw [h]
  unfold I64 I32
  rw [BitVec.toNat_or, BitVec.toNat_shiftLeft, BitVec.toNat_ofNat, BitVec.toNat_setWidth, Nat.shiftLeft_eq, Nat.mod_eq_of_lt (a := n + 1) (by omega), Nat.mod_eq_of_lt (a := s.toNat) (by omega), Nat.mod_eq_of_lt (by omega)]
  have := Nat.two_pow_add_eq_or_of_lt (i := 32) (b := s.toNat) (by omega) (n + 1)
  rw [Nat.mul_comm, ← this]
  omega

end Go.Proofs.YtmmkncocgjgapaaDoor.Crc

/- The walk of the law SealPuts. -/
namespace Go.Proofs.YtmmkncocgjgapaaDoor.Crc
open Go.RowKit

theorem awake_last : lastW (bodyW [] 8 5#64) 0#64 0#64 = 5528736187#64 := by decide +kernel

theorem u64_of {x : Int} (h : (Lit.int .u64 x).wf = true) : ∃ b : BitVec 64, x = I64 b := ⟨BitVec.ofInt 64 x, (I64_ofInt h).symm⟩

theorem below_d {B : Nat} {w w' : World} (h : Below B w w') (n : Nat) : Below B w (w'.drewN n) := h.trans ⟨rfl, rfl, rfl, Nat.le_refl _, fun _ _ => rfl⟩

end Go.Proofs.YtmmkncocgjgapaaDoor.Crc

/- The walk of seal.Get: a block is opened as what it is, or refused. -/
namespace Go.Proofs.YtmmkncocgjgapaaDoor.Crc
open Go.RowKit

theorem nonzero_any (x : BitVec 64) (w : World) :
    Calls Tryd.prog 57 #[.int .u64 (I64 x)] w fun e w' => e = .returned (.bool (I64 x != 0)) ∧ w = w' := by
  go_enter Tryd.func57, Tryd.ntmps57
  go_wp2_with fail
  go_ret
  exact ⟨rfl, rfl⟩

def zeroW (l : List (BitVec 64)) : Bool := l.all (· == 0#64)
theorem I64_zero (x : BitVec 64) : I64 x = 0 ↔ x = 0#64 := by
  constructor
  · intro h
    exact I64_inj h
  · rintro rfl
    rfl
theorem zeroW_succ (l : List (BitVec 64)) (k : Nat) (h : k < l.length) : zeroW (l.take (k + 1)) = (zeroW (l.take k) && (l[k] == 0#64)) := by
  unfold zeroW
  rw [List.take_succ_eq_append_getElem h, List.all_append]
  simp
theorem zeroW_at (l : List (BitVec 64)) (k : Nat) (h : k < l.length) : l[k] ≠ 0#64 → zeroW l = false := by
  intro hx
  unfold zeroW
  rw [List.all_eq_false]
  exact ⟨_, List.getElem_mem h, by simpa using hx⟩
def FindLoop (n : Nat) (l : List (BitVec 64)) (iv : Value) : Prop := ∃ k : Nat, iv = .int .i64 (k : Int) ∧ k ≤ n ∧ zeroW (l.take k) = true

/-- The index of the first word that is not zero. -/
def FirstOne (l : List (BitVec 64)) (w : World) (e : Ending) (w' : World) : Prop :=
  ∃ i : Int, e = .returned (.int .i64 i) ∧ (zeroW l = true → i = -1) ∧ (zeroW l = false → 0 ≤ i) ∧ w = w'

set_option maxRecDepth 100000 in
theorem index_any (l : List (BitVec 64)) (a : Option Addr) (n c : Nat) (w : World) (hr : Row w a (words l)) (hn : l.length = n) (hl : n < 1000000) :
    Calls Tryd.prog 61 #[.slice a n c, .func (.func 57) #[] #[]] w (FirstOne l w) := by
  subst hn
  go_enter Tryd.func61, Tryd.ntmps61
  go_wp2_with fail
  go_loop [8] (fun iv => FindLoop l.length l iv) (fun iv => l.length - (intOf iv).toNat)
  case atStart => exact ⟨0, rfl, by omega, rfl⟩
  case round =>
    obtain ⟨k, rfl, hk, hz⟩ := hrel
    by_cases hlt : (k : Int) < l.length
    · have hkl : k < l.length := by omega
      obtain ⟨b, o, rfl, hc⟩ := words_at hr hkl
      have ht := zeroW_succ l k hkl
      have hnz := zeroW_at l k hkl
      generalize l[k] = x at *
      have HT := Lib.hid ht
      have HNZ := Lib.hid hnz
      have HZ := Lib.hid hz
      clear ht hnz hz hr
      by_cases hx : x = 0#64
      · have hxe : (I64 x != 0) = false := by rw [hx]; rfl
        clear hx
        go_wp2_with fail
        refine (nonzero_any x _).mono ?_
        rintro e w' ⟨rfl, rfl⟩
        rw [hxe]
        go_wp2_with fail
        go_round
        case rel => exact ⟨k + 1, by go_num, by omega, by rw [HT.out, HZ.out]; simpa [I64_zero] using hxe⟩
        case measure => simp [intOf]; omega
      · have hxe : (I64 x != 0) = true := by rw [bne_iff_ne]; exact fun h => hx ((I64_zero x).1 h)
        have hall := HNZ.out hx
        have HALL := Lib.hid hall
        clear hx hall
        go_wp2_with fail
        refine (nonzero_any x _).mono ?_
        rintro e w' ⟨rfl, rfl⟩
        rw [hxe]
        go_wp2_with fail
        go_ret
        exact ⟨(k : Int), rfl, fun h => (by rw [HALL.out] at h; cases h), fun _ => by omega, rfl⟩
    · have hz2 : zeroW l = true := by rw [List.take_of_length_le (by omega)] at hz; exact hz
      have HZ := Lib.hid hz2
      clear hz hz2
      go_wp2_with fail
      go_ret
      exact ⟨-1, rfl, fun _ => rfl, fun h => (by rw [HZ.out] at h; cases h), rfl⟩

set_option maxRecDepth 100000 in
theorem contains_any (l : List (BitVec 64)) (a : Option Addr) (n c : Nat) (w : World) (hr : Row w a (words l)) (hn : l.length = n) (hl : n < 1000000) :
    Calls Tryd.prog 56 #[.slice a n c, .func (.func 57) #[] #[]] w fun e w' => e = .returned (.bool (!zeroW l)) ∧ w = w' := by
  have HI := Lib.hid (index_any l a n c w hr hn hl)
  clear hr
  go_enter Tryd.func56, Tryd.ntmps56
  go_wp2_with fail
  refine HI.out.mono ?_
  rintro e w' ⟨i, rfl, h1, h2, rfl⟩
  cases hz : zeroW l
  · have h3 := h2 hz
    clear h1 h2
    have HZ := Lib.hid hz
    clear hz
    go_wp2_with fail
    go_ret
    exact ⟨congrArg (fun b => Ending.returned (.bool (!b))) HZ.out.symm, rfl⟩
  · obtain rfl := h1 hz
    have HZ := Lib.hid hz
    clear h1 h2 hz
    go_wp2_with fail
    go_ret
    exact ⟨congrArg (fun b => Ending.returned (.bool (!b))) HZ.out.symm, rfl⟩

end Go.Proofs.YtmmkncocgjgapaaDoor.Crc

/- The walk of seal.Get: a block is opened as what it is, or refused. -/
namespace Go.Proofs.YtmmkncocgjgapaaDoor.Crc
open Go.RowKit

def GotOk (w : World) (p : List (BitVec 64)) (tag : BitVec 64) (e : Ending) (w' : World) : Prop :=
  ∃ a c, e = .returned (.tuple #[.slice a p.length c, .int .u64 (I64 tag), .int .i64 0]) ∧ Row w' a (words p) ∧ Below w.heap.size w w'

theorem last_top (B : List (BitVec 64)) (n : Nat) (X : BitVec 64) (hn : n < 1000000) : I64 (lastW B (BitVec.ofNat 64 n) X) / 4294967296 = (n : Int) + 1 := by
  have := add_word n (next (next (sum B) (BitVec.ofNat 64 n + 1#64)) X) hn
  have h2 := I32_lt (next (next (sum B) (BitVec.ofNat 64 n + 1#64)) X)
  unfold lastW
  omega

theorem zeroW_replicate (n : Nat) : zeroW (List.replicate n 0#64) = true := by
  unfold zeroW
  simp

set_option maxRecDepth 100000 in
set_option maxHeartbeats 800000 in
theorem get_yes (p : List (BitVec 64)) (size x : Nat) (tag : BitVec 64) (a : Option Addr) (c : Nat) (w : World) (hr : Row w a (words (sealW p size tag (BitVec.ofNat 64 x)))) (h8 : 8 ≤ size) (h256 : size ≤ 256) (hp : p.length + 2 ≤ size) (hx : x < 9223372036854775808) (hc : size ≤ c) (hc2 : c ≤ maxLen) :
    Calls Tryd.prog 47 #[.slice a size c, .int .i64 (x : Int)] w (GotOk w p tag) := by
  unfold maxLen at hc2
  have hB := bodyW_length (tag := tag) hp
  have hlen := sealW_length (tag := tag) (x := BitVec.ofNat 64 x) hp
  obtain ⟨b, o, rfl, c1⟩ := words_at hr (k := size - 1) (by omega)
  obtain ⟨b', o', e, c2⟩ := words_at hr (k := size - 2) (by omega)
  cases e
  have g1 : (sealW p size tag (BitVec.ofNat 64 x))[size - 1]'(by omega) = lastW (bodyW p size tag) (BitVec.ofNat 64 p.length) (BitVec.ofNat 64 x) := by
    unfold sealW
    rw [List.getElem_append_right (by omega)]
    simp
  have g2 : (sealW p size tag (BitVec.ofNat 64 x))[size - 2]'(by omega) = tag := by
    unfold sealW
    rw [List.getElem_append_left (by omega)]
    unfold bodyW
    rw [List.getElem_append_right (by simp; omega)]
    simp
  rw [g1] at c1
  rw [g2] at c2
  have hq := last_top (bodyW p size tag) p.length (BitVec.ofNat 64 x) (by omega)
  have hrl : Row w (some ⟨b, o, none⟩) (words (bodyW p size tag ++ [lastW (bodyW p size tag) (BitVec.ofNat 64 p.length) (BitVec.ofNat 64 x)])) := hr
  have HL := Lib.hid (fun d => last_at (bodyW p size tag) _ size p.length x (some ⟨b, o, none⟩) c (w.drewN d) hrl hB hc (by omega) (by omega) hx)
  have hrz : Row w (some ⟨b, o + p.length, none⟩) (words (List.replicate (size - 2 - p.length) 0#64)) := by
    have h1 := (hr.drop p.length).take (size - 2 - p.length)
    have h2 : ((words (sealW p size tag (BitVec.ofNat 64 x))).drop p.length).take (size - 2 - p.length) = words (List.replicate (size - 2 - p.length) 0#64) := by
      unfold words sealW bodyW
      rw [← List.map_drop, ← List.map_take, List.append_assoc, List.append_assoc, List.drop_append_of_le_length (by omega), List.drop_of_length_le (Nat.le_refl _), List.nil_append, List.take_append_of_le_length (by simp), List.take_of_length_le (by simp)]
    rw [h2] at h1
    exact h1
  have HC := Lib.hid (fun d => contains_any (List.replicate (size - 2 - p.length) 0#64) (some ⟨b, o + p.length, none⟩) (size - 2 - p.length) (c - p.length) (w.drewN d) hrz (by simp) (by omega))
  rw [show (!zeroW (List.replicate (size - 2 - p.length) 0#64)) = false from by rw [zeroW_replicate]; rfl] at HC
  have hrp : Row w (some ⟨b, o, none⟩) (words p) := by
    have h1 := hr.take p.length
    have h2 : (words (sealW p size tag (BitVec.ofNat 64 x))).take p.length = words p := by
      unfold words sealW bodyW
      rw [← List.map_take, List.append_assoc, List.append_assoc, List.take_append_of_le_length (by omega), List.take_of_length_le (Nat.le_refl _)]
    rw [h2] at h1
    exact h1
  have hR := right_any size x w
  rw [show decide (8 ≤ (size : Int) ∧ (size : Int) ≤ 256 ∧ 0 ≤ (x : Int)) = true from by simp; omega] at hR
  have HR := Lib.hid hR
  have hg1 : decide ((size : Int) - 2 < (p.length : Int)) = false := by simp; omega
  have hg2 : decide ((p.length : Int) < 0) = false := by simp
  have hvb := I64_lt (lastW (bodyW p size tag) (BitVec.ofNat 64 p.length) (BitVec.ofNat 64 x))
  clear hR g1 g2 hrl hrz hB hlen hr
  generalize I64 (lastW (bodyW p size tag) (BitVec.ofNat 64 p.length) (BitVec.ofNat 64 x)) = V at *
  have hvv : (V != V) = false := by simp
  have b1 : (p.length : Int) ≤ c := by omega
  have b2 : (size : Int) - 2 ≤ c := by omega
  have b3 : (0 : Int) ≤ (size : Int) - 2 := by omega
  have b4 : (p.length : Int) ≤ (size : Int) - 2 := by omega
  go_enter Tryd.func47, Tryd.ntmps47
  go_wp2_with fail
  refine HR.out.mono ?_
  rintro e w1 ⟨rfl, rfl⟩
  go_wp2_with fail
  go_quiet ((first | (go_at_call 46; exact Calls.quiet_of_same' (HL.out _)) | (go_at_call 56; exact Calls.quiet_of_same' (HC.out _))))
  go_wp2_with fail
  have b5 : (size : Int) - 2 < (size : Int) := by omega
  have b6 : IntKind.i64.wrap ((size : Int) - 2) = (size : Int) - 2 := by rw [IntKind.wrap_i64]; omega
  have b7 : ((size : Int) - 2).toNat = size - 2 := by omega
  have b8 : (2 : Int) ≤ (size : Int) := by omega
  clear HL HC HR c1 hq hvb hvv hg1 hg2
  go_region_held3 (fun w' => w'.cell? ⟨b, o + (size - 2), none⟩ = some (.int .u64 (I64 tag)))
    (first | go_keep | (rw [hb1.cell (by have := (cell_lt c2).1; simpa using this)]; assumption))
    ((go_at_call 36; refine (clone_u64 (some ⟨b, o, none⟩) p.length c (words p) _ (by exact hrp) (words_length p) (words_one p) (by omega) (by simp)).mono ?_; rintro e w1 ⟨v1, rfl, own1, hb1⟩))
  all_goals
    obtain ⟨a1, c1, rfl, hr1, -⟩ := own_slice own1
    go_wp2_with fail
    go_ret3
    exact ⟨a1, c1, rfl, hr1, (below_d (Below.refl w.heap.size w) _).trans hb1⟩

end Go.Proofs.YtmmkncocgjgapaaDoor.Crc

/- The walk of seal.Get where the block is refused. -/
namespace Go.Proofs.YtmmkncocgjgapaaDoor.Crc
open Go.RowKit

set_option maxRecDepth 100000 in
theorem get_arg (size : Nat) (address : Int) (a : Option Addr) (c : Nat) (w : World) (h : ¬ (8 ≤ size ∧ size ≤ 256 ∧ 0 ≤ address)) (hs : size ≤ 9223372036854775807) :
    Calls Tryd.prog 47 #[.slice a size c, .int .i64 address] w fun e w' => e = .returned (.tuple #[.slice none 0 0, .int .u64 0, .int .i64 1]) ∧ w = w' := by
  have hR := right_any size address w
  rw [show decide (8 ≤ (size : Int) ∧ (size : Int) ≤ 256 ∧ 0 ≤ address) = false from by simp; omega] at hR
  have HR := Lib.hid hR
  clear hR h
  go_enter Tryd.func47, Tryd.ntmps47
  go_wp2_with fail
  refine HR.out.mono ?_
  rintro e w1 ⟨rfl, rfl⟩
  go_wp2_with fail
  go_ret3
  exact ⟨rfl, rfl⟩

def Refused (w : World) (e : Ending) (w' : World) : Prop := e = .returned (.tuple #[.slice none 0 0, .int .u64 0, .int .i64 6]) ∧ Quiet w w'

/-- The block is sealed at this address. -/
def IsSealed (l : List (BitVec 64)) (X : BitVec 64) : Prop := ∃ p tag, p.length + 2 ≤ l.length ∧ l = sealW p l.length tag X

theorem top_lt (z : BitVec 64) : 0 ≤ I64 z / 4294967296 ∧ I64 z / 4294967296 < 4294967296 := by
  have := I64_lt z
  omega

theorem parts (B : List (BitVec 64)) (n size : Nat) (hB : B.length + 1 = size) (hn : n + 2 ≤ size) : ∃ tag, B = B.take n ++ (B.drop n).take (size - 2 - n) ++ [tag] := by
  have h0 : size - 2 < B.length := by omega
  refine ⟨B[size - 2], ?_⟩
  have h1 : B = B.take (size - 2) ++ B.drop (size - 2) := (List.take_append_drop _ _).symm
  have h2 : B.drop (size - 2) = [B[size - 2]] := by
    rw [List.drop_eq_getElem_cons h0, List.drop_eq_nil_of_le (by omega)]
  have h3 : B.take (size - 2) = B.take n ++ (B.drop n).take (size - 2 - n) := by
    rw [← List.take_add, show n + (size - 2 - n) = size - 2 from by omega]
  rw [h2, h3] at h1
  exact h1

theorem zeroW_eq (l : List (BitVec 64)) (h : zeroW l = true) : l = List.replicate l.length 0#64 := by
  apply List.eq_replicate_iff.2
  refine ⟨rfl, fun b hb => ?_⟩
  unfold zeroW at h
  rw [List.all_eq_true] at h
  simpa using h b hb

theorem is_sealed (B : List (BitVec 64)) (z X : BitVec 64) (n size : Nat) (hB : B.length + 1 = size) (hn : n + 2 ≤ size) (hz : z = lastW B (BitVec.ofNat 64 n) X) (h0 : zeroW ((B.drop n).take (size - 2 - n)) = true) : IsSealed (B ++ [z]) X := by
  obtain ⟨tag, ht⟩ := parts B n size hB hn
  have hl : (B ++ [z]).length = size := by simp; omega
  have hp : (B.take n).length = n := by simp; omega
  have hm : ((B.drop n).take (size - 2 - n)).length = size - 2 - n := by simp; omega
  have hb : B = bodyW (B.take n) size tag := by
    unfold bodyW
    have := zeroW_eq _ h0
    rw [hm] at this
    rw [hp, ← this]
    exact ht
  refine ⟨B.take n, tag, by rw [hl, hp]; omega, ?_⟩
  rw [hl]
  unfold sealW
  rw [hp, ← hb, ← hz]

set_option maxRecDepth 100000 in
set_option maxHeartbeats 800000 in
theorem get_fault (B : List (BitVec 64)) (z : BitVec 64) (size x : Nat) (a : Option Addr) (c : Nat) (w : World) (hr : Row w a (words (B ++ [z]))) (hB : B.length + 1 = size) (h8 : 8 ≤ size) (h256 : size ≤ 256) (hx : x < 9223372036854775808) (hc : size ≤ c) (hc2 : c ≤ maxLen)
    (hno : ¬ IsSealed (B ++ [z]) (BitVec.ofNat 64 x)) :
    Calls Tryd.prog 47 #[.slice a size c, .int .i64 (x : Int)] w (Refused w) := by
  unfold maxLen at hc2
  obtain ⟨b, o, rfl, c1⟩ := words_at hr (k := size - 1) (by simp; omega)
  have g1 : (B ++ [z])[size - 1]'(by simp; omega) = z := by
    rw [List.getElem_append_right (by omega)]
    simp
  rw [g1] at c1
  have hR := right_any size x w
  rw [show decide (8 ≤ (size : Int) ∧ (size : Int) ≤ 256 ∧ 0 ≤ (x : Int)) = true from by simp; omega] at hR
  have HR := Lib.hid hR
  have hvb := I64_lt z
  have ht := top_lt z
  have HB := Lib.hid hB
  clear hR g1
  by_cases hA : I64 z / 4294967296 - 1 < 0
  · have hq : I64 z / 4294967296 = 0 := by omega
    clear hno hr hB hA ht
    generalize I64 z = V at *
    go_enter Tryd.func47, Tryd.ntmps47
    go_wp2_with fail
    refine HR.out.mono ?_
    rintro e w1 ⟨rfl, rfl⟩
    go_wp2_with fail
    go_quiet (fail)
    go_wp2_with fail
    go_ret3
    exact ⟨rfl, (Quiet.refl w).drewN _⟩
  obtain ⟨n, hn⟩ : ∃ n : Nat, I64 z / 4294967296 = (n : Int) + 1 := ⟨(I64 z / 4294967296 - 1).toNat, by omega⟩
  by_cases hA2 : size < n + 2
  · have hg1 : decide ((size : Int) - 2 < (n : Int)) = true := by simp; omega
    have hg2 : decide ((n : Int) < 0) = false := by simp
    have hnb : (n : Int) < 4294967296 := by omega
    clear hno hr hB hA ht
    generalize I64 z = V at *
    go_enter Tryd.func47, Tryd.ntmps47
    go_wp2_with fail
    refine HR.out.mono ?_
    rintro e w1 ⟨rfl, rfl⟩
    go_wp2_with fail
    go_quiet (fail)
    go_wp2_with fail
    go_ret3
    exact ⟨rfl, (Quiet.refl w).drewN _⟩
  have hg1 : decide ((size : Int) - 2 < (n : Int)) = false := by simp; omega
  have hg2 : decide ((n : Int) < 0) = false := by simp
  have hnb : (n : Int) < 4294967296 := by omega
  have HL := Lib.hid (fun d => last_at B z size n x (some ⟨b, o, none⟩) c (w.drewN d) hr hB hc (by omega) (by omega) hx)
  by_cases hzl : z = lastW B (BitVec.ofNat 64 n) (BitVec.ofNat 64 x)
  · have h0 : zeroW ((B.drop n).take (size - 2 - n)) = false := by
      cases h : zeroW ((B.drop n).take (size - 2 - n))
      · rfl
      · exact absurd (is_sealed B z _ n size hB (by omega) hzl h) hno
    have hrz : Row w (some ⟨b, o + n, none⟩) (words ((B.drop n).take (size - 2 - n))) := by
      have h1 := (hr.drop n).take (size - 2 - n)
      have h2 : ((words (B ++ [z])).drop n).take (size - 2 - n) = words ((B.drop n).take (size - 2 - n)) := by
        unfold words
        rw [← List.map_drop, ← List.map_take, List.drop_append_of_le_length (by omega), List.take_append_of_le_length (by simp; omega)]
      rw [h2] at h1
      exact h1
    have HC := Lib.hid (fun d => contains_any _ (some ⟨b, o + n, none⟩) (size - 2 - n) (c - n) (w.drewN d) hrz (by simp; omega) (by omega))
    rw [h0] at HC
    rw [← hzl] at HL
    have hvv : (I64 z != I64 z) = false := by simp
    have b1 : (n : Int) ≤ c := by omega
    have b2 : (size : Int) - 2 ≤ c := by omega
    have b3 : (0 : Int) ≤ (size : Int) - 2 := by omega
    have b4 : (n : Int) ≤ (size : Int) - 2 := by omega
    clear hno hr hB hA ht h0 hrz hzl
    generalize I64 z = V at *
    go_enter Tryd.func47, Tryd.ntmps47
    go_wp2_with fail
    refine HR.out.mono ?_
    rintro e w1 ⟨rfl, rfl⟩
    go_wp2_with fail
    go_quiet ((first | (go_at_call 46; exact Calls.quiet_of_same' (HL.out _)) | (go_at_call 56; exact Calls.quiet_of_same' (HC.out _))))
    go_wp2_with fail
    go_ret3
    exact ⟨rfl, (Quiet.refl w).drewN _⟩
  · have hvv : (I64 z != I64 (lastW B (BitVec.ofNat 64 n) (BitVec.ofNat 64 x))) = true := by rw [bne_iff_ne]; exact fun h => hzl (I64_inj h)
    clear hno hr hB hA ht hzl
    generalize I64 (lastW B (BitVec.ofNat 64 n) (BitVec.ofNat 64 x)) = U at *
    generalize I64 z = V at *
    go_enter Tryd.func47, Tryd.ntmps47
    go_wp2_with fail
    refine HR.out.mono ?_
    rintro e w1 ⟨rfl, rfl⟩
    go_wp2_with fail
    go_quiet ((go_at_call 46; exact Calls.quiet_of_same' (HL.out _)))
    go_wp2_with fail
    go_ret3
    exact ⟨rfl, (Quiet.refl w).drewN _⟩

end Go.Proofs.YtmmkncocgjgapaaDoor.Crc

/- The walk of the reference's Get of chapter 8. -/
namespace Go.Proofs.YtmmkncocgjgapaaDoor.Crc
open Go.RowKit

theorem same_at (l m : List (BitVec 64)) (a b : Option Addr) (na nb ca cb : Nat) (w : World) (ha : Row w a (words l)) (hb : Row w b (words m)) (hla : l.length = na) (hmb : m.length = nb) (hl : na < 1000000) (hm : nb < 1000000) :
    Calls Tryd.prog 20 #[.slice a na ca, .slice b nb cb] w fun e w' => e = .returned (.bool (sameW l m)) ∧ Quiet w w' := by
  subst hla; subst hmb
  exact same_any l m a b ca cb w ha hb hl hm

def RefusedB (w : World) (e : Ending) (w' : World) : Prop := e = .returned (.tuple #[.slice none 0 0, .int .u64 0, .int .i64 6]) ∧ Below w.heap.size w w'

end Go.Proofs.YtmmkncocgjgapaaDoor.Crc

/- The plain law of sealed blocks: a block that differs in half a word, or is asked at another address, is not sealed. No condition. -/
namespace Go.Proofs.YtmmkncocgjgapaaDoor.Crc
open Go.RowKit

theorem sealed_parts {B : List (BitVec 64)} {z X : BitVec 64} (h : IsSealed (B ++ [z]) X) : ∃ n, n + 2 ≤ B.length + 1 ∧ z = lastW B (BitVec.ofNat 64 n) X := by
  obtain ⟨p, tag, hp, he⟩ := h
  unfold sealW at he
  obtain ⟨h1, h2⟩ := List.append_inj' he rfl
  simp only [List.length_append, List.length_singleton] at hp
  refine ⟨p.length, hp, ?_⟩
  injection h2 with h2
  rw [h2, ← h1]

theorem shl_low (a : BitVec 64) : (a <<< 32).setWidth 32 = 0#32 := by
  apply BitVec.eq_of_toNat_eq
  rw [BitVec.toNat_setWidth, BitVec.toNat_shiftLeft, Nat.shiftLeft_eq]
  simp
theorem up_low (s : BitVec 32) : (s.setWidth 64).setWidth 32 = s := by
  apply BitVec.eq_of_toNat_eq
  have := s.isLt
  rw [BitVec.toNat_setWidth, BitVec.toNat_setWidth]
  omega
theorem low_last (B : List (BitVec 64)) (N X : BitVec 64) : (lastW B N X).setWidth 32 = next (next (sum B) (N + 1#64)) X := by
  unfold lastW
  rw [BitVec.setWidth_or, shl_low, up_low, BitVec.zero_or]

theorem next_inj (s t : BitVec 32) (x : BitVec 64) (h : next s x = next t x) : s = t := (fold_diff [x] s t).1 h

theorem next_word (s : BitVec 32) (x y : BitVec 64) (hx : x.toNat < 4294967296) (hy : y.toNat < 4294967296) (h : next s x = next s y) : x = y := by
  have h1 := next_diff s s x y
  rw [h, BitVec.xor_self, BitVec.xor_self] at h1
  have h2 : x ^^^ y = spread (x.setWidth 32 ^^^ y.setWidth 32) false := by
    unfold spread
    rw [if_neg (by decide)]
    apply BitVec.eq_of_toNat_eq
    rw [BitVec.toNat_xor, BitVec.toNat_setWidth, BitVec.toNat_xor, BitVec.toNat_setWidth, BitVec.toNat_setWidth, Nat.mod_eq_of_lt hx, Nat.mod_eq_of_lt hy]
    have := Nat.xor_lt_two_pow (n := 32) (x := x.toNat) (y := y.toNat) hx hy
    rw [Nat.mod_eq_of_lt (by omega)]
  rw [h2] at h1
  have h3 := spread_zero _ false h1.symm
  have h4 := BitVec.xor_eq_zero_iff.1 h3
  apply BitVec.eq_of_toNat_eq
  have h5 := congrArg BitVec.toNat h4
  rw [BitVec.toNat_setWidth, BitVec.toNat_setWidth] at h5
  omega

theorem ofNat_succ_toNat {n : Nat} (h : n < 1000000) : (BitVec.ofNat 64 n + 1#64).toNat = n + 1 := by
  rw [BitVec.toNat_add, BitVec.toNat_ofNat]
  simp
  omega

theorem spread_eq_zero {d : BitVec 32} {high : Bool} (h : spread d high = 0#64) : d = 0#32 := by
  refine spread_zero d high ?_
  rw [h, byteN_word0]
  exact bitN_zero _

theorem top_xor (z : BitVec 64) (d : BitVec 32) : I64 (z ^^^ spread d false) / 4294967296 = I64 z / 4294967296 := by
  unfold I64 spread
  rw [if_neg (by decide), BitVec.toNat_xor, BitVec.toNat_setWidth]
  have hd := d.isLt
  have h1 : (z.toNat ^^^ d.toNat % 2 ^ 64) / 4294967296 = z.toNat / 4294967296 := by
    rw [show 4294967296 = 2 ^ 32 from rfl, ← Nat.shiftRight_eq_div_pow, Nat.shiftRight_xor_distrib, Nat.shiftRight_eq_div_pow, Nat.shiftRight_eq_div_pow, Nat.mod_eq_of_lt (a := d.toNat) (by omega), Nat.div_eq_of_lt (a := d.toNat) (by omega), Nat.xor_zero]
  omega

theorem low_xor_high (z : BitVec 64) (d : BitVec 32) : (z ^^^ spread d true).setWidth 32 = z.setWidth 32 := by
  unfold spread
  rw [if_pos rfl, BitVec.setWidth_xor, shl_low, BitVec.xor_zero]

theorem tells_back (B : List (BitVec 64)) (n : Nat) (X : BitVec 64) (hn : n < 1000) (hB : B.length < 1000) (k : Nat) (hk : k < (B ++ [lastW B (BitVec.ofNat 64 n) X]).length) (d : BitVec 32) (high : Bool)
    (h : IsSealed ((B ++ [lastW B (BitVec.ofNat 64 n) X]).set k ((B ++ [lastW B (BitVec.ofNat 64 n) X])[k] ^^^ spread d high)) X) : d = 0#32 := by
  by_cases hkB : k < B.length
  · rw [List.set_append_left _ _ hkB, List.getElem_append_left hkB] at h
    obtain ⟨m, hm, he⟩ := sealed_parts h
    simp only [List.length_set] at hm
    have t1 := last_top B n X (by omega)
    rw [he, last_top _ m X (by omega)] at t1
    obtain rfl : m = n := by omega
    have h1 := congrArg (BitVec.setWidth 32) he
    rw [low_last, low_last] at h1
    have h2 := next_inj _ _ _ (next_inj _ _ _ h1)
    exact (tells B k hkB d high).1 h2.symm
  · obtain rfl : k = B.length := by simp at hk; omega
    rw [List.set_append_right _ _ (by omega), List.getElem_append_right (by omega)] at h
    simp only [Nat.sub_self, List.set_cons_zero, List.getElem_cons_zero] at h
    obtain ⟨m, hm, he⟩ := sealed_parts h
    have hmn : m = n := by
      cases high
      · have t1 := top_xor (lastW B (BitVec.ofNat 64 n) X) d
        rw [he, last_top _ m X (by omega), last_top _ n X (by omega)] at t1
        omega
      · have h1 := congrArg (BitVec.setWidth 32) he
        rw [low_xor_high, low_last, low_last] at h1
        have h2 := next_inj _ _ _ h1
        have h3 := next_word _ _ _ (by rw [ofNat_succ_toNat (by omega)]; omega) (by rw [ofNat_succ_toNat (by omega)]; omega) h2
        have h4 := congrArg BitVec.toNat h3
        rw [ofNat_succ_toNat (by omega), ofNat_succ_toNat (by omega)] at h4
        omega
    subst hmn
    refine spread_eq_zero (high := high) ?_
    have h5 : lastW B (BitVec.ofNat 64 m) X ^^^ (lastW B (BitVec.ofNat 64 m) X ^^^ spread d high) = 0#64 := by rw [he, BitVec.xor_self]
    rw [← BitVec.xor_assoc, BitVec.xor_self, BitVec.zero_xor] at h5
    exact h5

theorem sealed_else (p : List (BitVec 64)) (size : Nat) (tag X Y : BitVec 64) (hp : p.length + 2 ≤ size) (hs : size < 1000) (hX : X.toNat < 4294967296) (hY : Y.toNat < 4294967296) (h : IsSealed (sealW p size tag X) Y) : X = Y := by
  unfold sealW at h
  have hB := bodyW_length (tag := tag) hp
  obtain ⟨m, hm, he⟩ := sealed_parts h
  have t1 := last_top (bodyW p size tag) p.length X (by omega)
  rw [he, last_top _ m Y (by omega)] at t1
  obtain rfl : m = p.length := by omega
  have h1 := congrArg (BitVec.setWidth 32) he
  rw [low_last, low_last] at h1
  exact next_word _ _ _ hX hY h1

theorem sealed_self (p : List (BitVec 64)) (size : Nat) (tag X : BitVec 64) (hp : p.length + 2 ≤ size) : IsSealed (sealW p size tag X) X :=
  ⟨p, tag, by rw [sealW_length hp]; exact hp, by rw [sealW_length hp]⟩

theorem zeros_none (n : Nat) (hn : n < 1000) (X : BitVec 64) : ¬ IsSealed (List.replicate (n + 1) 0#64) X := by
  intro h
  rw [List.replicate_succ'] at h
  obtain ⟨m, hm, he⟩ := sealed_parts h
  simp at hm
  have := last_top (List.replicate n 0#64) m X (by omega)
  rw [← he] at this
  simp [I64] at this
  omega

end Go.Proofs.YtmmkncocgjgapaaDoor.Crc

/- How structs of three and five fields, and slices of bools, are read. No condition. -/
namespace Go.Proofs.YtmmkncocgjgapaaDoor
open Go.RowKit

theorem opens_struct3 {H : Type} {enc : TypeId × Value → H} {P : Program} {t : TypeId} {f0 f1 f2 : Field} {A B C : Type} {R : Rd A} {S : Rd B} {T : Rd C} {m0 m1 m2 n0 : Nat} (ht : P.underlying t = some (.struct #[f0, f1, f2])) (hc : P.cellsOf t = m0 + n0) (s0 : n0 = m1 + m2)
    (h0 : P.cellsOf f0.type = m0) (o0 : f0.offset = 0) (r0 : Opens enc P f0.type R) (h1 : P.cellsOf f1.type = m1) (o1 : f1.offset = m0) (r1 : Opens enc P f1.type S) (h2 : P.cellsOf f2.type = m2) (o2 : f2.offset = m0 + m1) (r2 : Opens enc P f2.type T) :
    Opens enc P t (rdPair m0 n0 R (rdPair m1 m2 S T)) := fun w _ cs _ h => by
  obtain ⟨xs, n, _, rfl, hl, hlen, hf⟩ := DataW.trod_struct ht h
  match xs, hlen with
  | [y0, y1, y2], _ =>
    have a0 := hf 0 f0 rfl
    have a1 := hf 1 f1 rfl
    have a2 := hf 2 f2 rfl
    simp only [List.getElem?_cons_zero, List.getElem?_cons_succ] at a0 a1 a2
    rw [o0, h0, List.drop_zero] at a0
    rw [o1, h1] at a1
    rw [o2, h2, List.take_of_length_le (by rw [List.length_drop]; omega)] at a2
    obtain ⟨d0, e0⟩ := r0 _ _ _ _ a0
    obtain ⟨d1, e1⟩ := r1 _ _ _ _ a1
    obtain ⟨d2, e2⟩ := r2 _ _ _ _ a2
    exact ⟨(d0, d1, d2), hl.trans hc, e0, by rw [List.length_drop]; omega, e1, by rw [List.drop_drop]; exact e2⟩

theorem opens_struct5 {H : Type} {enc : TypeId × Value → H} {P : Program} {t : TypeId} {f0 f1 f2 f3 f4 : Field} {A B C D E : Type} {R : Rd A} {S : Rd B} {T : Rd C} {U : Rd D} {V : Rd E} {m0 m1 m2 m3 m4 n0 n1 n2 : Nat} (ht : P.underlying t = some (.struct #[f0, f1, f2, f3, f4])) (hc : P.cellsOf t = m0 + n0)
    (s0 : n0 = m1 + n1) (s1 : n1 = m2 + n2) (s2 : n2 = m3 + m4)
    (h0 : P.cellsOf f0.type = m0) (o0 : f0.offset = 0) (r0 : Opens enc P f0.type R) (h1 : P.cellsOf f1.type = m1) (o1 : f1.offset = m0) (r1 : Opens enc P f1.type S) (h2 : P.cellsOf f2.type = m2) (o2 : f2.offset = m0 + m1) (r2 : Opens enc P f2.type T)
    (h3 : P.cellsOf f3.type = m3) (o3 : f3.offset = m0 + m1 + m2) (r3 : Opens enc P f3.type U) (h4 : P.cellsOf f4.type = m4) (o4 : f4.offset = m0 + m1 + m2 + m3) (r4 : Opens enc P f4.type V) :
    Opens enc P t (rdPair m0 n0 R (rdPair m1 n1 S (rdPair m2 n2 T (rdPair m3 m4 U V)))) := fun w _ cs _ h => by
  obtain ⟨xs, n, _, rfl, hl, hlen, hf⟩ := DataW.trod_struct ht h
  match xs, hlen with
  | [y0, y1, y2, y3, y4], _ =>
    have a0 := hf 0 f0 rfl
    have a1 := hf 1 f1 rfl
    have a2 := hf 2 f2 rfl
    have a3 := hf 3 f3 rfl
    have a4 := hf 4 f4 rfl
    simp only [List.getElem?_cons_zero, List.getElem?_cons_succ] at a0 a1 a2 a3 a4
    rw [o0, h0, List.drop_zero] at a0
    rw [o1, h1] at a1
    rw [o2, h2] at a2
    rw [o3, h3] at a3
    rw [o4, h4, List.take_of_length_le (by rw [List.length_drop]; omega)] at a4
    obtain ⟨d0, e0⟩ := r0 _ _ _ _ a0
    obtain ⟨d1, e1⟩ := r1 _ _ _ _ a1
    obtain ⟨d2, e2⟩ := r2 _ _ _ _ a2
    obtain ⟨d3, e3⟩ := r3 _ _ _ _ a3
    obtain ⟨d4, e4⟩ := r4 _ _ _ _ a4
    exact ⟨(d0, d1, d2, d3, d4), hl.trans hc, e0, by rw [List.length_drop]; omega, e1, by rw [List.length_drop, List.length_drop]; omega, by rw [List.drop_drop]; exact e2,
      by rw [List.length_drop, List.length_drop, List.length_drop]; omega, by have := e3; simp only [List.drop_drop, Nat.add_assoc] at this ⊢; exact this, by have := e4; simp only [List.drop_drop, Nat.add_assoc] at this ⊢; exact this⟩

theorem okWide_struct {P : Program} {w : World} {r : Reach} {base : Nat} {t : TypeId} {v : Value} {fs : Array Field} (ht : P.underlying t = some (.struct fs)) (h : Value.okWide P w r base t v) : ∃ cs, v = .agg cs ∧ cs.size = P.cellsOf t := by
  simp only [Value.okWide, ht] at h
  obtain ⟨cs, h1, h2, _⟩ := h
  exact ⟨cs, h1, h2⟩

/-- A slice of bools. -/
theorem rdSlice_bools {w : World} {cs : List Value} {l : List Bool} (h : rdSlice 1 rdBool w cs l) :
    ∃ a n c, cs = [.slice a n c] ∧ l.length = n ∧ n ≤ c ∧ c ≤ maxLen ∧ Row w a (l.map Value.bool) := by
  obtain ⟨a, n, c, rfl, hl, hn, hc, _, hr⟩ := h
  refine ⟨a, n, c, rfl, hl, hn, hc, fun i hi => ?_⟩
  rw [List.length_map] at hi
  obtain ⟨x, es, hx, _, hj, hes⟩ := hr i hi
  refine ⟨x, hx, ?_⟩
  have := hj 0 (by omega)
  rw [hes, Nat.mul_one] at this
  rw [show (x.add i).add 0 = x.add i from by simp [Addr.add]] at this
  rw [this]
  simp [hi]

/-- A struct of an int, an int, a word, a bool and a slice of bools. -/
abbrev rdOp5 : Rd (Int × Int × Int × Bool × List Bool) := rdPair 1 4 (rdInt .i64) (rdPair 1 3 (rdInt .i64) (rdPair 1 2 (rdInt .u64) (rdPair 1 1 rdBool (rdSlice 1 rdBool))))
theorem op5_cells {w : World} {cs : List Value} {d : Int × Int × Int × Bool × List Bool} (h : rdOp5 w cs d) :
    ∃ a n c, cs = [.int .i64 d.1, .int .i64 d.2.1, .int .u64 d.2.2.1, .bool d.2.2.2.1, .slice a n c] ∧ d.2.2.2.2.length = n ∧ n ≤ c ∧ c ≤ maxLen ∧ Row w a (d.2.2.2.2.map Value.bool) ∧ (Lit.int .i64 d.1).wf = true ∧ (Lit.int .i64 d.2.1).wf = true ∧ (Lit.int .u64 d.2.2.1).wf = true := by
  obtain ⟨h0, ⟨e0, w0⟩, h1, ⟨e1, w1⟩, h2, ⟨e2, w2⟩, h3, e3, e4⟩ := h
  obtain ⟨a, n, c, e4, q1, q2, q3, q4⟩ := rdSlice_bools e4
  match cs, h0 with
  | [c0, c1, c2, c3, c4], _ =>
    simp [rdBool] at e0 e1 e2 e3 e4
    subst e0; subst e1; subst e2; subst e3; subst e4
    exact ⟨a, n, c, rfl, q1, q2, q3, q4, w0, w1, w2⟩

end Go.Proofs.YtmmkncocgjgapaaDoor

/- A manifest's entries, in plain words and in memory. -/
namespace Go.Proofs.YtmmkncocgjgapaaDoor.Mf
open Go.RowKit

structure Ent where
  name : ByteArray
  f : Int
  b : Int
  w : Int
  c : Int
def ecells (e : Ent) : List Value := [.string e.name, .int .i64 e.f, .int .i64 e.b, .int .i64 e.w, .int .i64 e.c]
def flatM (l : List Ent) : List Value := l.flatMap ecells
theorem flatM_length (l : List Ent) : (flatM l).length = l.length * 5 := by
  induction l with
  | nil => rfl
  | cons e l ih => simp only [flatM, List.flatMap_cons, List.length_append, List.length_cons] at ih ⊢; rw [ih]; simp [ecells]; omega
theorem flatM_append (a b : List Ent) : flatM (a ++ b) = flatM a ++ flatM b := by simp [flatM]
theorem flatM_get (l : List Ent) : ∀ (k : Nat) (h : k < l.length) (j : Nat), j < 5 → (flatM l)[k * 5 + j]? = (ecells l[k])[j]? := by
  induction l with
  | nil => intro k h; simp at h
  | cons e l ih =>
    intro k h j hj
    have he : (ecells e).length = 5 := rfl
    show (ecells e ++ flatM l)[k * 5 + j]? = _
    rcases k with _ | k
    · rw [List.getElem?_append_left (by omega)]
      simp
    · rw [List.getElem?_append_right (by omega), he, show (k + 1) * 5 + j - 5 = k * 5 + j from by omega]
      exact ih k (by simpa using h) j hj
theorem flatM_one (l : List Ent) : ∀ u ∈ flatM l, u.oneCell' = true := by
  intro u hu
  unfold flatM at hu
  obtain ⟨e, _, h⟩ := List.mem_flatMap.1 hu
  simp [ecells] at h
  rcases h with rfl | rfl | rfl | rfl | rfl <;> rfl
/-- The cells of an entry. -/
theorem ent_at {w : World} {a : Option Addr} {l : List Ent} (h : Row w a (flatM l)) {k : Nat} (hk : k < l.length) :
    ∃ b o, a = some ⟨b, o, none⟩ ∧ b < w.heap.size ∧ w.cell? ⟨b, o + k * 5, none⟩ = some (.string l[k].name) ∧ w.cell? ⟨b, o + k * 5 + 1, none⟩ = some (.int .i64 l[k].f) ∧ w.cell? ⟨b, o + k * 5 + 2, none⟩ = some (.int .i64 l[k].b) ∧ w.cell? ⟨b, o + k * 5 + 3, none⟩ = some (.int .i64 l[k].w) ∧ w.cell? ⟨b, o + k * 5 + 4, none⟩ = some (.int .i64 l[k].c) := by
  have hl := flatM_length l
  obtain ⟨b, o, e, hc, _⟩ := h.at_ (i := k * 5) (by omega)
  have key : ∀ j, j < 5 → w.cell? ⟨b, o + k * 5 + j, none⟩ = (ecells l[k])[j]? := fun j hj => by
    obtain ⟨b', o', e', hc', _⟩ := h.at_ (i := k * 5 + j) (by omega)
    rw [e] at e'
    injection e' with e'
    injection e' with e1 e2
    subst e1 e2
    rw [Nat.add_assoc, hc']
    have := flatM_get l k hk j hj
    rw [← this]
    simp
  refine ⟨b, o, e, ?_, key 0 (by omega), key 1 (by omega), key 2 (by omega), key 3 (by omega), key 4 (by omega)⟩
  exact (cell_lt (key 0 (by omega))).1

/-- The bytes of a name that may be. -/
def okB (c : UInt8) : Bool := (97 ≤ c.toNat && c.toNat ≤ 122) || (48 ≤ c.toNat && c.toNat ≤ 57)
def okName (s : List UInt8) : Bool := decide (1 ≤ s.length) && decide (s.length ≤ 8) && s.all okB
def okNum (x : Int) : Bool := decide (0 ≤ x) && decide (x ≤ 1099511627776)
def okEnt (e : Ent) : Bool := okName e.name.data.toList && okNum e.f && okNum e.b && okNum e.w && okNum e.c
/-- The order: an entry stands behind the one ahead of it. -/
def okOrd (l : List Ent) : Nat → Bool
  | 0 => true
  | j + 1 => match l[j]?, l[j + 1]? with
    | some p, some e => Op.bytesLess p.name.toList e.name.toList
    | _, _ => true
def okAt (l : List Ent) (j : Nat) : Bool := (match l[j]? with | some e => okEnt e | none => true) && okOrd l j
def formedM (l : List Ent) : Bool := decide (l.length ≤ 12 ∧ ∀ j, j < l.length → okAt l j = true)
theorem formed_bad {l : List Ent} {k : Nat} (hk : k < l.length) (h : okAt l k = false) : formedM l = false := by
  unfold formedM
  rw [decide_eq_false_iff_not]
  intro h2
  rw [h2.2 k hk] at h
  cases h
theorem okAt_ent {l : List Ent} {k : Nat} (hk : k < l.length) (h : okEnt l[k] = false) : okAt l k = false := by
  unfold okAt
  rw [List.getElem?_eq_getElem hk]
  simp [h]
theorem okAt_first {l : List Ent} (hk : 0 < l.length) (h : okEnt l[0] = true) : okAt l 0 = true := by
  unfold okAt
  rw [List.getElem?_eq_getElem hk]
  simp [h, okOrd]
theorem okAt_next {l : List Ent} {j : Nat} (hk : j + 1 < l.length) (h : okEnt l[j + 1] = true) : okAt l (j + 1) = Op.bytesLess l[j].name.toList l[j + 1].name.toList := by
  have ho : okOrd l (j + 1) = Op.bytesLess l[j].name.toList l[j + 1].name.toList := by
    show (match l[j]?, l[j + 1]? with | some p, some e => Op.bytesLess p.name.toList e.name.toList | _, _ => true) = _
    rw [List.getElem?_eq_getElem hk, List.getElem?_eq_getElem (show j < l.length by omega)]
  unfold okAt
  rw [ho, List.getElem?_eq_getElem hk]
  simp [h]
/-- The letters that a name is trimmed by. -/
def letters : List UInt8 := [97, 98, 99, 100, 101, 102, 103, 104, 105, 106, 107, 108, 109, 110, 111, 112, 113, 114, 115, 116, 117, 118, 119, 120, 121, 122, 48, 49, 50, 51, 52, 53, 54, 55, 56, 57]
theorem letters_ok (c : UInt8) : letters.contains c = okB c := by
  have h : ∀ n : Fin 256, letters.contains (UInt8.ofNat n.1) = okB (UInt8.ofNat n.1) := by decide +kernel
  have := h ⟨c.toNat, c.toNat_lt⟩
  simpa using this
theorem drop_nil {l : List UInt8} (h : l.dropWhile okB = []) : ∀ x ∈ l, okB x = true := by
  induction l with
  | nil => intro x hx; cases hx
  | cons y l ih =>
    intro x hx
    rw [List.dropWhile_cons] at h
    split at h
    · rename_i hy
      rcases List.mem_cons.1 hx with rfl | hx
      · exact hy
      · exact ih h x hx
    · cases h
theorem drop_head {l : List UInt8} {y : UInt8} {t : List UInt8} (h : l.dropWhile okB = y :: t) : okB y = false := by
  induction l with
  | nil => cases h
  | cons z l ih =>
    rw [List.dropWhile_cons] at h
    split at h
    · exact ih h
    · rename_i hz
      injection h with h1 h2
      subst h1
      simpa using hz
theorem all_drop {l : List UInt8} (h : ∀ x ∈ l, okB x = true) : l.dropWhile okB = [] := by
  induction l with
  | nil => rfl
  | cons z l ih =>
    rw [List.dropWhile_cons, if_pos (h z (List.mem_cons_self ..))]
    exact ih (fun x hx => h x (List.mem_cons_of_mem _ hx))
theorem trim_empty (s : List UInt8) : (Lib.trimS s letters = []) ↔ s.all okB = true := by
  have hf : (fun c => letters.contains c) = okB := funext letters_ok
  unfold Lib.trimS Lib.trimLeftS Lib.trimRightS
  rw [hf]
  constructor
  · intro h
    have h1 := drop_nil h
    have h2 : s.reverse.dropWhile okB = [] := by
      cases hd : s.reverse.dropWhile okB with
      | nil => rfl
      | cons y t =>
        have hy := drop_head hd
        have := h1 y (by rw [hd]; simp)
        rw [this] at hy
        cases hy
    rw [List.all_eq_true]
    intro c hc
    exact drop_nil h2 c (by simpa using hc)
  · intro h
    rw [List.all_eq_true] at h
    have h1 : s.reverse.dropWhile okB = [] := all_drop (fun c hc => h c (by simpa using hc))
    rw [h1]
    rfl

/-- Two names are in one of three ways. -/
theorem less_tri : ∀ (a b : List UInt8), (!Op.bytesLess a b) = (Op.bytesLess b a || b == a) := by
  intro a
  induction a with
  | nil => intro b; cases b <;> simp [Op.bytesLess]
  | cons x a ih =>
    intro b
    cases b with
    | nil => simp [Op.bytesLess]
    | cons y b =>
      have hi := ih b
      rw [Op.bytesLess, Op.bytesLess]
      by_cases h1 : x < y
      · have h2 : ¬ y < x := fun h => absurd h1 (UInt8.lt_asymm h)
        have h3 : (y == x) = false := by rw [beq_eq_false_iff_ne]; intro h; subst h; exact absurd h1 (UInt8.lt_irrefl _)
        have h4 : (y :: b == x :: a) = false := by rw [beq_eq_false_iff_ne]; intro h; injection h with h _; subst h; exact absurd h1 (UInt8.lt_irrefl _)
        rw [h4, h3]
        simp [h1, h2]
      · by_cases h2 : y < x
        · have h3 : (x == y) = false := by rw [beq_eq_false_iff_ne]; intro h; subst h; exact absurd h2 (UInt8.lt_irrefl _)
          rw [h3]
          simp [h1, h2]
        · have h3 : x = y := UInt8.le_antisymm (UInt8.not_lt.1 h2) (UInt8.not_lt.1 h1)
          subst h3
          have h4 : (x :: b == x :: a) = (b == a) := by simp
          rw [h4]
          simp [h1]
          simpa using hi

end Go.Proofs.YtmmkncocgjgapaaDoor.Mf

/- The walks of the manifest's small functions. -/
namespace Go.Proofs.YtmmkncocgjgapaaDoor.Mf
open Go.RowKit

theorem okNum_yes {x : Int} (h0 : ¬ x < 0) (h1 : ¬ 1099511627776 < x) : okNum x = true := by unfold okNum; simp; omega
theorem okNum_no {x : Int} (h : x < 0 ∨ 1099511627776 < x) : okNum x = false := by unfold okNum; simp; omega
theorem all_succ {l : List Int} {k : Nat} (hk : k < l.length) (h : (l.take k).all okNum = true) (hx : okNum l[k] = true) : (l.take (k + 1)).all okNum = true := by
  rw [List.take_succ_eq_append_getElem hk, List.all_append, h]
  simp [hx]
theorem all_bad {l : List Int} {k : Nat} (hk : k < l.length) (hx : okNum l[k] = false) : l.all okNum = false := by
  rw [List.all_eq_false]
  exact ⟨l[k], List.getElem_mem hk, by simp [hx]⟩
def NumLoop (l : List Int) (w : World) (iv : Value) (wr : World) : Prop := ∃ k : Nat, iv = .int .i64 (k : Int) ∧ k ≤ l.length ∧ (l.take k).all okNum = true ∧ w = wr
set_option maxRecDepth 100000 in
theorem numbers_any (l : List Int) (a : Option Addr) (n c : Nat) (w : World) (hr : Row w a (l.map (Value.int .i64))) (hn : l.length = n) (hl : n < 1000) : Calls Tryd.prog 24 #[.slice a n c] w (fun e w' => e = .returned (.bool (l.all okNum)) ∧ w = w') := by
  subst hn
  go_enter Tryd.func24, Tryd.ntmps24
  go_wp2_with fail
  go_loopw [7] (fun iv wr => NumLoop l w iv wr) (fun iv _ => l.length - (intOf iv).toNat)
  case atStart => exact ⟨0, rfl, Nat.zero_le _, rfl, rfl⟩
  case round =>
    obtain ⟨k, rfl, hk, ha, rfl⟩ := hrel
    have HA := Lib.hid ha
    clear ha
    by_cases hlt : k < l.length
    · have hlt2 : (k : Int) < (l.length : Int) := by omega
      have i0 : (0 : Int) ≤ (k : Int) := by omega
      obtain ⟨b, o, rfl, hc, _⟩ := hr.at_ (i := k) (by rw [List.length_map]; exact hlt)
      rw [List.getElem_map] at hc
      have hs := all_succ hlt HA.out
      have hb := all_bad hlt
      have HS := Lib.hid hs
      have HBD := Lib.hid hb
      have HM := Lib.hid (And.intro hk hlt)
      clear hs hb hr hk
      generalize l[k] = x at *
      clear hlt
      by_cases h0 : x < 0
      · go_wp2_with fail
        go_ret
        exact ⟨by rw [HBD.out (okNum_no (.inl h0))]; rfl, rfl⟩
      · by_cases h1 : 1099511627776 < x
        · go_wp2_with fail
          go_ret
          exact ⟨by rw [HBD.out (okNum_no (.inr h1))]; rfl, rfl⟩
        · go_wp2_with fail
          go_roundw
          case rel => exact ⟨k + 1, by go_num, HM.out.2, HS.out (okNum_yes h0 h1), rfl⟩
          case measure => have := HM.out.2; simp [intOf]; omega
    · have hlt2 : ¬ (k : Int) < (l.length : Int) := by omega
      have hall : l.all okNum = true := by have := HA.out; rw [List.take_of_length_le (by omega)] at this; exact this
      have HL := Lib.hid hall
      clear hall hlt hk
      go_wp2_with fail
      go_ret
      exact ⟨by rw [HL.out]; rfl, rfl⟩

theorem small_any (x : Int) (w : World) : Calls Tryd.prog 26 #[.int .i64 x] w (fun e w' => e = .returned (.bool (okNum x)) ∧ w = w') := by
  by_cases h0 : 0 ≤ x
  · by_cases h1 : x ≤ 1099511627776
    · rw [okNum_yes (by omega) (by omega)]
      go_enter Tryd.func26, Tryd.ntmps26
      go_wp2_with fail
      go_ret
      exact ⟨by first | rfl | simp [h1], rfl⟩
    · rw [okNum_no (.inr (by omega))]
      go_enter Tryd.func26, Tryd.ntmps26
      go_wp2_with fail
      go_ret
      exact ⟨by first | rfl | simp [h1], rfl⟩
  · rw [okNum_no (.inl (by omega))]
    go_enter Tryd.func26, Tryd.ntmps26
    go_wp2_with fail
    go_ret
    exact ⟨by first | rfl | simp, rfl⟩

def slotN (n : Nat) : Nat := (59 + n) / (n - 2)
theorem slot_no (n : Int) (w : World) (h : n < 8 ∨ 256 < n) : Calls Tryd.prog 12 #[.int .i64 n] w (fun e w' => e = .returned (.int .i64 0) ∧ w = w') := by
  by_cases h8 : n < 8
  · go_enter Tryd.func12, Tryd.ntmps12
    go_wp2_with fail
    go_ret
    exact ⟨rfl, rfl⟩
  · have h2 : 256 < n := by omega
    clear h
    go_enter Tryd.func12, Tryd.ntmps12
    go_wp2_with fail
    go_ret
    exact ⟨rfl, rfl⟩
theorem slot_ok (n : Nat) (w : World) (h8 : 8 ≤ n) (h2 : n ≤ 256) : Calls Tryd.prog 12 #[.int .i64 (n : Int)] w (fun e w' => e = .returned (.int .i64 (slotN n : Int)) ∧ w = w') := by
  obtain ⟨x, hx⟩ : ∃ x : Int, x = (n : Int) - 2 := ⟨_, rfl⟩
  obtain ⟨y, hy⟩ : ∃ y : Int, y = (n : Int) + 59 := ⟨_, rfl⟩
  have e0 : ¬ (n : Int) < 8 := by omega
  have e1 : ¬ (256 : Int) < (n : Int) := by omega
  have e2 : IntKind.i64.wrap (62 + (n : Int)) = 62 + (n : Int) := by rw [IntKind.wrap_i64]; omega
  have e3 : IntKind.i64.wrap (62 + (n : Int) - 3) = y := by rw [IntKind.wrap_i64]; omega
  have e4 : IntKind.i64.wrap ((n : Int) - 2) = x := by rw [IntKind.wrap_i64]; omega
  have e5 : x ≠ 0 := by omega
  have e6 : y.tdiv x = (slotN n : Int) := by
    rw [Int.tdiv_eq_ediv_of_nonneg (by omega), hx, hy]
    unfold slotN
    rw [Int.natCast_ediv]
    congr 1 <;> omega
  have hsl : slotN n ≤ 11 := by
    unfold slotN
    rw [Nat.div_le_iff_le_mul_add_pred (by omega)]
    omega
  have e7 : IntKind.i64.wrap (slotN n : Int) = (slotN n : Int) := by rw [IntKind.wrap_i64]; omega
  clear hx hy hsl h8 h2
  go_enter Tryd.func12, Tryd.ntmps12
  go_wp2_with fail
  go_ret
  exact ⟨rfl, rfl⟩
theorem slotN_bd {n : Nat} (h8 : 8 ≤ n) (h2 : n ≤ 256) : slotN n ≤ 11 ∧ 1 ≤ slotN n ∧ 62 ≤ slotN n * (n - 2) ∧ ∀ k, k < slotN n → k * (n - 2) < 62 := by
  have hd := Nat.div_add_mod (59 + n) (n - 2)
  have hm := Nat.mod_lt (59 + n) (show n - 2 > 0 by omega)
  have hq : slotN n = (59 + n) / (n - 2) := rfl
  rw [← hq, Nat.mul_comm] at hd
  refine ⟨?_, ?_, by omega, fun k hk => ?_⟩
  · rw [hq, Nat.div_le_iff_le_mul_add_pred (by omega)]
    omega
  · rw [hq, Nat.le_div_iff_mul_le (by omega)]
    omega
  · have : (k + 1) * (n - 2) ≤ slotN n * (n - 2) := Nat.mul_le_mul_right _ hk
    rw [Nat.add_mul] at this
    omega
theorem refslot_no (n : Int) (w : World) (h : n < 8 ∨ 256 < n) : Calls Tryd.prog 13 #[.int .i64 n] w (fun e w' => e = .returned (.int .i64 0) ∧ w = w') := by
  by_cases h8 : n < 8
  · go_enter Tryd.func13, Tryd.ntmps13
    go_wp2_with fail
    go_ret
    exact ⟨rfl, rfl⟩
  · have h2 : 256 < n := by omega
    clear h
    go_enter Tryd.func13, Tryd.ntmps13
    go_wp2_with fail
    go_ret
    exact ⟨rfl, rfl⟩
def SlotLoop (n : Nat) (w : World) (iv : Value) (wr : World) : Prop := ∃ k : Nat, iv = .int .i64 (k : Int) ∧ k ≤ slotN n ∧ w = wr
set_option maxRecDepth 100000 in
theorem refslot_ok (n : Nat) (w : World) (h8 : 8 ≤ n) (h2 : n ≤ 256) : Calls Tryd.prog 13 #[.int .i64 (n : Int)] w (fun e w' => e = .returned (.int .i64 (slotN n : Int)) ∧ w = w') := by
  obtain ⟨b1, b2, b3, b4⟩ := slotN_bd h8 h2
  have e0 : ¬ (n : Int) < 8 := by omega
  have e1 : ¬ (256 : Int) < (n : Int) := by omega
  obtain ⟨x, hx⟩ : ∃ x : Nat, x = n - 2 := ⟨_, rfl⟩
  have e4 : IntKind.i64.wrap ((n : Int) - 2) = (x : Int) := by rw [IntKind.wrap_i64]; omega
  rw [← hx] at b3 b4
  have HB4 := Lib.hid b4
  have hx254 : x ≤ 254 := by omega
  clear hx b4
  go_enter Tryd.func13, Tryd.ntmps13
  go_wp2_with fail
  go_loopw [3] (fun iv wr => SlotLoop n w iv wr) (fun iv _ => slotN n - (intOf iv).toNat)
  case atStart => exact ⟨0, rfl, Nat.zero_le _, rfl⟩
  case round =>
    obtain ⟨k, rfl, hk, rfl⟩ := hrel
    have hkx : k * x ≤ 11 * 254 := Nat.mul_le_mul (by omega) hx254
    have e5 : IntKind.i64.wrap ((k : Int) * (x : Int)) = ((k * x : Nat) : Int) := by rw [IntKind.wrap_i64]; rw [← Int.natCast_mul]; omega
    by_cases hlt : k < slotN n
    · have hq := HB4.out k hlt
      have hq2 : ((k * x : Nat) : Int) < 62 := by have : k * x < 62 := hq; omega
      have hk11 : k ≤ 10 := by omega
      generalize hkx2 : ((k * x : Nat) : Int) = y at *
      have HM := Lib.hid (And.intro hk hlt)
      clear hq hkx hkx2 hk hlt b3
      go_wp2_with fail
      go_roundw
      case rel => exact ⟨k + 1, by go_num, HM.out.2, rfl⟩
      case measure => have := HM.out.2; simp [intOf]; omega
    · obtain rfl : k = slotN n := by omega
      have hq2 : ¬ ((slotN n * x : Nat) : Int) < 62 := by omega
      generalize hkx2 : ((slotN n * x : Nat) : Int) = y at *
      clear hkx hkx2 b3 hlt
      go_wp2_with fail
      go_ret
      exact ⟨rfl, rfl⟩

end Go.Proofs.YtmmkncocgjgapaaDoor.Mf

/- The walks of what chapter 9's laws ask of entries. -/
namespace Go.Proofs.YtmmkncocgjgapaaDoor.Mf
open Go.RowKit

theorem below_dn {B : Nat} {w w' : World} (h : Below B w w') (n : Nat) : Below B w (w'.drewN n) := ⟨h.os, h.tape, h.output, h.size, h.block⟩
def FewLoop (l : List Ent) (w : World) (iv : Value) (wr : World) : Prop := ∃ k : Nat, iv = .int .i64 (k : Int) ∧ k ≤ l.length ∧ k ≤ 30 ∧ (∀ j (hj : j < l.length), j < k → l[j].name.size ≤ 1000) ∧ w = wr
def FewC (l : List Ent) (w : World) (e : Ending) (w' : World) : Prop := ∃ b, e = .returned (.bool b) ∧ (b = true → l.length ≤ 20 ∧ ∀ j (hj : j < l.length), l[j].name.size ≤ 1000) ∧ w = w'
set_option maxRecDepth 100000 in
theorem few_any (l : List Ent) (a : Option Addr) (n c : Nat) (w : World) (hr : Row w a (flatM l)) (hn : l.length = n) (hl : n < 4611686018427387904) (hsz : ∀ j (hj : j < l.length), l[j].name.size ≤ maxLen) :
    Calls Tryd.prog 8 #[.slice a n c] w (FewC l w) := by
  subst hn
  go_enter Tryd.func8, Tryd.ntmps8
  go_wp2_with fail
  go_loopw [3] (fun iv wr => FewLoop l w iv wr) (fun iv _ => l.length - (intOf iv).toNat)
  case atStart => exact ⟨0, rfl, Nat.zero_le _, Nat.zero_le _, fun j _ h => absurd h (Nat.not_lt_zero _), rfl⟩
  case round =>
    obtain ⟨k, rfl, hk, hk30, hall, rfl⟩ := hrel
    have HALL := Lib.hid hall
    clear hall
    by_cases hlt : k < l.length
    · have hlt2 : (k : Int) < (l.length : Int) := by omega
      by_cases h30 : k < 30
      · have h302 : (k : Int) < 30 := by omega
        have i0 : (0 : Int) ≤ (k : Int) := by omega
        obtain ⟨b, o, rfl, hbl, e0, e1, e2, e3, e4⟩ := ent_at hr hlt
        clear hbl e1 e2 e3 e4
        have hs := hsz k hlt
        have HM := Lib.hid (And.intro hk (And.intro hlt h30))
        have HS := Lib.hid (show ∀ (_ : l[k].name.size ≤ 1000), ∀ j (hj : j < l.length), j < k + 1 → l[j].name.size ≤ 1000 from fun h j hj hj2 => by
          by_cases e : j = k
          · subst e; exact h
          · exact HALL.out j hj (by omega))
        generalize l[k].name = s at *
        clear hr hk hlt h30
        by_cases hbig : s.size ≤ 1000
        · have hb2 : ¬ (1000 : Int) < (s.size : Int) := by omega
          have HB := Lib.hid hbig
          clear hbig
          go_wp2_with fail
          go_roundw
          case rel => exact ⟨k + 1, by go_num, HM.out.2.1, HM.out.2.2, HS.out HB.out, rfl⟩
          case measure => have := HM.out.2; simp [intOf]; omega
        · have hb2 : (1000 : Int) < (s.size : Int) := by omega
          clear hbig
          go_wp2_with fail
          go_ret
          exact ⟨false, rfl, (fun h => by cases h), rfl⟩
      · have h302 : ¬ (k : Int) < 30 := by omega
        have hl20 : ¬ (l.length : Int) ≤ 20 := by omega
        clear hlt h30 hk hk30
        go_wp2_with fail
        go_ret
        exact ⟨_, rfl, (fun h => by first | (simp at h; omega) | (simp at h)), rfl⟩
    · have hlt2 : ¬ (k : Int) < (l.length : Int) := by omega
      have HF := Lib.hid (show ∀ j (hj : j < l.length), l[j].name.size ≤ 1000 from fun j hj => HALL.out j hj (by omega))
      clear hlt hk hk30
      go_wp2_with fail
      go_ret
      exact ⟨_, rfl, fun h => ⟨by first | (simp at h; omega) | omega, HF.out⟩, rfl⟩

theorem el_ref : Elem Tryd.prog 26 57 5 48 := elem_of (z := .agg #[.string ⟨#[]⟩, .int .i64 0, .int .i64 0, .int .i64 0, .int .i64 0]) Tryd.underlying26 (by kernel_rfl) rfl (by omega)
def PlainLoop (l : List Ent) (w : World) (v iv : Value) (wr : World) : Prop := ∃ k : Nat, iv = .int .i64 (k : Int) ∧ k ≤ l.length ∧ wr.ownsRow w.heap.size 57 5 v k (flatM (l.take k)) ∧ Below w.heap.size w wr
set_option maxRecDepth 100000 in
set_option maxHeartbeats 1000000 in
theorem plain_any (l : List Ent) (a : Option Addr) (n c : Nat) (w : World) (hr : Row w a (flatM l)) (hn : l.length = n) (hl : n < 1000000) :
    Calls Tryd.prog 11 #[.slice a n c] w (fun e w' => ∃ v, e = .returned v ∧ w'.ownsRow w.heap.size 57 5 v n (flatM l) ∧ Below w.heap.size w w') := by
  subst hn
  go_enter Tryd.func11, Tryd.ntmps11
  go_wp2_with fail
  go_loopw [3, 4] (fun v iv wr => PlainLoop l w v iv wr) (fun _ iv _ => l.length - (intOf iv).toNat)
  case atStart => exact ⟨0, rfl, Nat.zero_le _, World.ownsRow_nil _ _ _ _, Below.refl _ _⟩
  case round =>
    obtain ⟨k, rfl, hk, hown, hb⟩ := hrel
    have HB := Lib.hid hb
    have HO := Lib.hid hown
    have hz := hb.size
    by_cases hlt : k < l.length
    · have hlt2 : (k : Int) < (l.length : Int) := by omega
      have i0 : (0 : Int) ≤ (k : Int) := by omega
      obtain ⟨b, o, rfl, hbl, e0, e1, e2, e3, e4⟩ := ent_at (hr.below hb) hlt
      have HTS := Lib.hid (show flatM (l.take (k + 1)) = flatM (l.take k) ++ ecells l[k] from by
        rw [List.take_succ_eq_append_getElem hlt, flatM_append]
        simp [flatM])
      have HM := Lib.hid (And.intro hk hlt)
      generalize l[k] = p at *
      obtain ⟨s, f, bb, ww, cc⟩ := p
      simp only at e0 e1 e2 e3 e4
      unfold ecells at HTS
      simp only at HTS
      clear hr hown hb hk hlt
      go_wp2_with (at_builtin; go_must (refine wpList_append rfl (.tmp 11) (.tmp 16) _ rfl el_ref w.heap.size _ _ _ rfl (HO.out.alloc _) (some ⟨_, 0, none⟩) 1 1 [.string s, .int .i64 f, .int .i64 bb, .int .i64 ww, .int .i64 cc] rfl rfl (Row.new _ _ _ _) (by intro u hu; simp at hu; rcases hu with rfl | rfl | rfl | rfl | rfl <;> rfl) (by unfold maxLen; omega) (by omega) (by simp; omega) ?_))
      intro v2 w2 hown2 hg2 _ hb2
      rw [← HTS.out] at hown2
      have HO2 := Lib.hid hown2
      have HB2 := Lib.hid ((HB.out.alloc HB.out.size _).trans hb2)
      clear hown2 hg2 hb2 e0 e1 e2 e3 e4
      go_wp2_with fail
      go_roundw
      case rel => exact ⟨k + 1, by go_num, HM.out.2, HO2.out, HB2.out⟩
      case measure => have := HM.out.2; simp [intOf]; omega
    · obtain rfl : l.length = k := by omega
      have hlt2 : ¬ (l.length : Int) < (l.length : Int) := by omega
      have HO2 := Lib.hid (show wr.ownsRow w.heap.size 57 5 _ l.length (flatM l) from by have := HO.out; rw [List.take_of_length_le (Nat.le_refl _)] at this; exact this)
      clear hown hb hk hlt
      go_wp2_with fail
      go_ret
      exact ⟨_, rfl, HO2.out, HB.out⟩

/-- Two entries compared. -/
theorem eq_ent (s s' : ByteArray) (f f' b b' x x' c c' : Int) (w : World) : (Op.equalIn 10000 57 (.agg #[.string s, .int .i64 f, .int .i64 b, .int .i64 x, .int .i64 c]) (.agg #[.string s', .int .i64 f', .int .i64 b', .int .i64 x', .int .i64 c'])).run Tryd.prog w = .ok ((s.toList == s'.toList) && ((f == f') && ((b == b') && ((x == x') && (c == c'))))) w := by
  rw [show (10000 : Nat) = 9998 + 1 + 1 from rfl, run_equalIn_struct w (9998 + 1) 57 _ _ (by kernel_rfl) (by kernel_rfl)]
  have hi := fun (w : World) (a b : Int) => run_equalIn_int (P := Tryd.prog) w 9998 3 .i64 .i64 a b Tryd.underlying3
  have hs := fun (w : World) (a b : ByteArray) => run_equalIn_string (P := Tryd.prog) w 9998 9 a b Tryd.underlying9
  have ag1 : ∀ w, (isAgg 3).run Tryd.prog w = .ok false w := fun w => by kernel_rfl
  have ag2 : ∀ w, (isAgg 9).run Tryd.prog w = .ok false w := fun w => by kernel_rfl
  have hf : (Tryd.prog.fieldsOf 57).toList = [{ name := "Name", type := 9, offset := 0, embedded := false, tag := "", pkgPath := "", byteOffset := 0 }, { name := "First", type := 3, offset := 1, embedded := false, tag := "", pkgPath := "", byteOffset := 16 }, { name := "Blocks", type := 3, offset := 2, embedded := false, tag := "", pkgPath := "", byteOffset := 24 }, { name := "Width", type := 3, offset := 3, embedded := false, tag := "", pkgPath := "", byteOffset := 32 }, { name := "Count", type := 3, offset := 4, embedded := false, tag := "", pkgPath := "", byteOffset := 40 }] := by kernel_rfl
  rw [hf]
  clear hf
  cases h0 : s.toList == s'.toList <;> cases h1 : f == f' <;> cases h2 : b == b' <;> cases h3 : x == x' <;> cases h4 : c == c' <;> simp [Op.eqFields, part, hi, hs, ag1, ag2, h0, h1, h2, h3, h4]

/-- Two lists of entries of the law's: alike, if they are the same. -/
def SameC (l m : List Ent) (w : World) (e : Ending) (w' : World) : Prop := ∃ b, e = .returned (.bool b) ∧ (l = m → b = true) ∧ Below w.heap.size w w'
def SmLoop (l m : List Ent) (w : World) (iv : Value) (wr : World) : Prop := ∃ k : Nat, iv = .int .i64 (k : Int) ∧ k ≤ l.length ∧ Below w.heap.size w wr
set_option maxRecDepth 100000 in
set_option maxHeartbeats 1000000 in
theorem same_any (l m : List Ent) (a b : Option Addr) (n nm c d : Nat) (w : World) (hl : Row w a (flatM l)) (hm : Row w b (flatM m)) (hn : l.length = n) (hnm : m.length = nm) (hb1 : n < 1000000) (hb2 : nm < 1000000) :
    Calls Tryd.prog 17 #[.slice a n c, .slice b nm d] w (SameC l m w) := by
  subst hn
  subst hnm
  by_cases hne : l.length = m.length
  · have hne2 : ((l.length : Int) == (m.length : Int)) = true := by simp [hne]
    rw [hne] at hb1 ⊢
    go_enter Tryd.func17, Tryd.ntmps17
    go_wp2_with fail
    go_loopw [5] (fun iv wr => SmLoop l m w iv wr) (fun iv _ => m.length - (intOf iv).toNat)
    case atStart => exact ⟨0, rfl, Nat.zero_le _, Below.refl _ _⟩
    case round =>
      obtain ⟨k, rfl, hk, hb⟩ := hrel
      have HB := Lib.hid hb
      by_cases hlt : k < m.length
      · have hlt2 : (k : Int) < (m.length : Int) := by omega
        have i0 : (0 : Int) ≤ (k : Int) := by omega
        have hkl : k < l.length := by omega
        obtain ⟨b1, o1, rfl, hbl1, e0, e1, e2, e3, e4⟩ := ent_at (hl.below hb) hkl
        obtain ⟨b2, o2, rfl, hbl2, f0, f1, f2, f3, f4⟩ := ent_at (hm.below hb) hlt
        have HM := Lib.hid (And.intro hne (And.intro hk hlt))
        have HEQ := Lib.hid (show l = m → l[k] = m[k] from fun h => by subst h; rfl)
        generalize l[k] = p at *
        generalize m[k] = q at *
        obtain ⟨s, f, bb, ww, cc⟩ := p
        obtain ⟨s', f', bb', ww', cc'⟩ := q
        simp only at e0 e1 e2 e3 e4 f0 f1 f2 f3 f4
        clear hl hm hb hk hlt hkl hne
        obtain ⟨x0, hx0⟩ : ∃ x0, (s.toList == s'.toList) = x0 := ⟨_, rfl⟩
        obtain ⟨x1, hx1⟩ : ∃ x1, (f == f') = x1 := ⟨_, rfl⟩
        obtain ⟨x2, hx2⟩ : ∃ x2, (bb == bb') = x2 := ⟨_, rfl⟩
        obtain ⟨x3, hx3⟩ : ∃ x3, (ww == ww') = x3 := ⟨_, rfl⟩
        obtain ⟨x4, hx4⟩ : ∃ x4, (cc == cc') = x4 := ⟨_, rfl⟩
        have heq := eq_ent s s' f f' bb bb' ww ww' cc cc'
        go_upto_region 6 with (fail)
        go_quiet (fail)
        obtain ⟨B, hB⟩ : ∃ B, B = (!x0 || (!x1 || (!x2 || (!x3 || !x4)))) := ⟨_, rfl⟩
        have HBB := Lib.hid (show B = true → ¬ l = m from fun h hlm => by
          have he := HEQ.out hlm
          simp only [Ent.mk.injEq] at he
          obtain ⟨q0, q1, q2, q3, q4⟩ := he
          subst q0 q1 q2 q3 q4
          rw [hB, ← hx0, ← hx1, ← hx2, ← hx3, ← hx4] at h
          simp at h)
        rw [← hB]
        have HBQ := Lib.hid (below_dn HB.out nq)
        clear hx0 hx1 hx2 hx3 hx4 heq hB e0 e1 e2 e3 e4 f0 f1 f2 f3 f4
        generalize wr.drewN nq = w5 at *
        cases B with
        | true =>
          go_wp2_with fail
          go_ret
          exact ⟨false, rfl, fun h => absurd h (HBB.out trivial), HBQ.out⟩
        | false =>
          go_wp2_with fail
          go_roundw
          case rel => exact ⟨k + 1, by go_num, by have := HM.out; omega, HBQ.out⟩
          case measure => have := HM.out.2; simp [intOf]; omega
      · have hlt2 : ¬ (k : Int) < (m.length : Int) := by omega
        clear hl hm hb hk hlt hne
        go_wp2_with fail
        go_ret
        exact ⟨true, rfl, fun _ => rfl, HB.out⟩
  · have hne2 : ((l.length : Int) == (m.length : Int)) = false := by simp; omega
    have HNE := Lib.hid hne
    clear hne
    go_enter Tryd.func17, Tryd.ntmps17
    go_wp2_with fail
    go_ret
    exact ⟨false, rfl, fun h => absurd (congrArg List.length h) HNE.out, Below.refl _ _⟩

end Go.Proofs.YtmmkncocgjgapaaDoor.Mf

/- A contract of the library laid at this dump (written by the kit's own tool). -/
namespace Go.Proofs.YtmmkncocgjgapaaDoor
open Go.Shelf Go.RowKit
def trimL_ren : Go.Shelf.Ren := ⟨fun | 160 => 23 | 232 => 39 | 231 => 38 | 227 => 40 | 234 => 42 | 233 => 41 | 236 => 44 | 235 => 43 | 228 => 50 | 271 => 53 | 151 => 52 | 197 => 51 | 120 => 60 | 152 => 59 | 260 => 58 | 137 => 62 | 119 => 63 | 224 => 64 | 225 => 65 | 217 => 66 | 266 => 67 | n => n, fun | 9 => 9 | 4 => 4 | 3 => 3 | 5 => 5 | 117 => 83 | 116 => 82 | 0 => 0 | 124 => 86 | 21 => 21 | 105 => 95 | 46 => 87 | 119 => 106 | 139 => 109 | 138 => 108 | n => n, fun | 3 => 0 | 4 => 1 | n => n⟩
theorem trimL : Go.Proofs.Lays.n160 Tryd.prog trimL_ren := {
  mixed := by kernel_rfl
  f119 := Tryd.func63.trans (congrArg some (by kernel_rfl))
  f120 := Tryd.func60.trans (congrArg some (by kernel_rfl))
  f137 := Tryd.func62.trans (congrArg some (by kernel_rfl))
  f151 := Tryd.func52.trans (congrArg some (by kernel_rfl))
  f152 := Tryd.func59.trans (congrArg some (by kernel_rfl))
  f160 := Tryd.func23.trans (congrArg some (by kernel_rfl))
  f197 := Tryd.func51.trans (congrArg some (by kernel_rfl))
  f217 := Tryd.func66.trans (congrArg some (by kernel_rfl))
  f224 := Tryd.func64.trans (congrArg some (by kernel_rfl))
  f225 := Tryd.func65.trans (congrArg some (by kernel_rfl))
  f227 := Tryd.func40.trans (congrArg some (by kernel_rfl))
  f228 := Tryd.func50.trans (congrArg some (by kernel_rfl))
  f231 := Tryd.func38.trans (congrArg some (by kernel_rfl))
  f232 := Tryd.func39.trans (congrArg some (by kernel_rfl))
  f233 := Tryd.func41.trans (congrArg some (by kernel_rfl))
  f234 := Tryd.func42.trans (congrArg some (by kernel_rfl))
  f235 := Tryd.func43.trans (congrArg some (by kernel_rfl))
  f236 := Tryd.func44.trans (congrArg some (by kernel_rfl))
  f260 := Tryd.func58.trans (congrArg some (by kernel_rfl))
  f266 := Tryd.func67.trans (congrArg some (by kernel_rfl))
  f271 := Tryd.func53.trans (congrArg some (by kernel_rfl))
  t0 := Tryd.underlying0
  a0 := Tryd.isAgg0
  z0 := Tryd.sizeOf0
  v0 := Tryd.zeroValue0
  t3 := Tryd.underlying3
  a3 := Tryd.isAgg3
  z3 := Tryd.sizeOf3
  v3 := Tryd.zeroValue3
  t4 := Tryd.underlying4
  a4 := Tryd.isAgg4
  z4 := Tryd.sizeOf4
  v4 := Tryd.zeroValue4
  t5 := Tryd.underlying5
  a5 := Tryd.isAgg5
  z5 := Tryd.sizeOf5
  v5 := Tryd.zeroValue5
  t9 := Tryd.underlying9
  a9 := Tryd.isAgg9
  z9 := Tryd.sizeOf9
  v9 := Tryd.zeroValue9
  t21 := Tryd.underlying21
  a21 := Tryd.isAgg21
  z21 := Tryd.sizeOf21
  v21 := Tryd.zeroValue21
  t46 := Tryd.underlying87
  a46 := Tryd.isAgg87
  z46 := Tryd.sizeOf87
  v46 := Tryd.zeroValue87
  t105 := Tryd.underlying95
  a105 := Tryd.isAgg95
  z105 := Tryd.sizeOf95
  v105 := Tryd.zeroValue95
  t116 := Tryd.underlying82
  a116 := Tryd.isAgg82
  z116 := Tryd.sizeOf82
  t117 := Tryd.underlying83
  a117 := Tryd.isAgg83
  z117 := Tryd.sizeOf83
  v117 := Tryd.zeroValue83
  t119 := Tryd.underlying106
  a119 := Tryd.isAgg106
  z119 := Tryd.sizeOf106
  t124 := Tryd.underlying86
  a124 := Tryd.isAgg86
  z124 := Tryd.sizeOf86
  v124 := Tryd.zeroValue86
  t138 := Tryd.underlying108
  a138 := Tryd.isAgg108
  z138 := Tryd.sizeOf108
  v138 := Tryd.zeroValue108
  t139 := Tryd.underlying109
  a139 := Tryd.isAgg109
  z139 := Tryd.sizeOf109
  v139 := Tryd.zeroValue109
  g3 := by kernel_rfl
  g4 := by kernel_rfl }
end Go.Proofs.YtmmkncocgjgapaaDoor

/- The walks of Formed, the manifest's and the reference's. -/
namespace Go.Proofs.YtmmkncocgjgapaaDoor.Mf
open Go.RowKit

theorem all_succB {l : List UInt8} {k : Nat} (hk : k < l.length) (h : (l.take k).all okB = true) (hx : okB l[k] = true) : (l.take (k + 1)).all okB = true := by
  rw [List.take_succ_eq_append_getElem hk, List.all_append, h]
  simp [hx]
theorem all_badB {l : List UInt8} {k : Nat} (hk : k < l.length) (hx : okB l[k] = false) : l.all okB = false := by
  rw [List.all_eq_false]
  exact ⟨l[k], List.getElem_mem hk, by simp [hx]⟩
def NameLoop (s : ByteArray) (w : World) (iv : Value) (wr : World) : Prop := ∃ k : Nat, iv = .int .i64 (k : Int) ∧ k ≤ s.data.toList.length ∧ (s.data.toList.take k).all okB = true ∧ w = wr
set_option maxRecDepth 100000 in
set_option maxHeartbeats 1000000 in
theorem name_any (s : ByteArray) (w : World) (hs : s.size ≤ 4611686018427387904) : Calls Tryd.prog 25 #[.string s] w (fun e w' => e = .returned (.bool (okName s.data.toList)) ∧ w = w') := by
  go_enter Tryd.func25, Tryd.ntmps25
  go_wp2_with fail
  go_loopw [3] (fun iv wr => NameLoop s w iv wr) (fun iv _ => s.data.toList.length - (intOf iv).toNat)
  case atStart => exact ⟨0, rfl, Nat.zero_le _, rfl, rfl⟩
  case round =>
    obtain ⟨k, rfl, hk, ha, rfl⟩ := hrel
    have HA := Lib.hid ha
    clear ha
    have hsz : s.data.toList.length = s.size := by rw [Array.length_toList]; rfl
    by_cases hlt : k < s.size
    · have hlt2 : (k : Int) < (s.size : Int) := by omega
      have i0 : (0 : Int) ≤ (k : Int) := by omega
      have hkk : k < s.data.toList.length := by omega
      have hs := all_succB hkk HA.out
      have hb := all_badB hkk
      have ex : s.data.toList[k] = s[k]'hlt := by simp; rfl
      rw [ex] at hs hb
      have HS := Lib.hid hs
      have HBD := Lib.hid hb
      have HM := Lib.hid (And.intro hk hkk)
      have hx : okB (s[k]'hlt) = decide ((97 ≤ (s[k]'hlt).toNat ∧ (s[k]'hlt).toNat ≤ 122) ∨ (48 ≤ (s[k]'hlt).toNat ∧ (s[k]'hlt).toNat ≤ 57)) := by unfold okB; simp only [Bool.decide_or, Bool.decide_and]
      have HX := Lib.hid hx
      clear hx hs hb ex hk hkk
      by_cases c1 : ((s[k]'hlt).toNat : Int) < 97
      · by_cases c2 : ((s[k]'hlt).toNat : Int) < 48
        · have HN := Lib.hid (HBD.out (by rw [HX.out]; simp; omega))
          go_wp2_with fail
          go_ret
          exact ⟨by unfold okName; rw [HN.out]; simp, rfl⟩
        · by_cases c3 : 57 < ((s[k]'hlt).toNat : Int)
          · have HN := Lib.hid (HBD.out (by rw [HX.out]; simp; omega))
            go_wp2_with fail
            go_ret
            exact ⟨by unfold okName; rw [HN.out]; simp, rfl⟩
          · go_wp2_with fail
            go_roundw
            case rel => exact ⟨k + 1, by go_num, HM.out.2, HS.out (by rw [HX.out]; simp; omega), rfl⟩
            case measure => have := HM.out.2; simp [intOf]; omega
      · by_cases c2 : 122 < ((s[k]'hlt).toNat : Int)
        · have c3 : 57 < ((s[k]'hlt).toNat : Int) := by omega
          have c4 : ¬ ((s[k]'hlt).toNat : Int) < 48 := by omega
          have HN := Lib.hid (HBD.out (by rw [HX.out]; simp; omega))
          go_wp2_with fail
          go_ret
          exact ⟨by unfold okName; rw [HN.out]; simp, rfl⟩
        · go_wp2_with fail
          go_roundw
          case rel => exact ⟨k + 1, by go_num, HM.out.2, HS.out (by rw [HX.out]; simp; omega), rfl⟩
          case measure => have := HM.out.2; simp [intOf]; omega
    · have hlt2 : ¬ (k : Int) < (s.size : Int) := by omega
      have hall : s.data.toList.all okB = true := by have := HA.out; rw [List.take_of_length_le (by omega)] at this; exact this
      have HL := Lib.hid hall
      have HZ := Lib.hid hsz
      clear hall hlt hk hsz
      by_cases c1 : (1 : Int) ≤ (s.size : Int)
      · by_cases c2 : (s.size : Int) ≤ 8
        · have HN := Lib.hid (show okName s.data.toList = true from by unfold okName; rw [HL.out, HZ.out]; simp; omega)
          go_wp2_with fail
          go_ret
          exact ⟨by rw [HN.out]; first | rfl | (simp; done) | (simp; omega), rfl⟩
        · have HN := Lib.hid (show okName s.data.toList = false from by unfold okName; rw [HL.out, HZ.out]; simp; omega)
          go_wp2_with fail
          go_ret
          exact ⟨by rw [HN.out]; first | rfl | (simp; done) | (simp; omega), rfl⟩
      · have HN := Lib.hid (show okName s.data.toList = false from by unfold okName; rw [HL.out, HZ.out]; simp; omega)
        go_wp2_with fail
        go_ret
        exact ⟨by rw [HN.out]; first | rfl | (simp; omega), rfl⟩

end Go.Proofs.YtmmkncocgjgapaaDoor.Mf
