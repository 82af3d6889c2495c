/- Texts of mine, packed: DoSync, DoAny, CrcPlain, CrcWalks, CrcSum, CrcTell, Open, Words, Clone64, Seal, SealPut, Same, SealRef, SealPuts, SealGet, SealGet2, SealGet3. -/
import Derived.Test.YtmmkncocgjgapaaK1
import Derived.Below
import Derived.Test.YtmmkncocgjgapaaRows
import Derived.WalkKit
import Derived.WalkSpells
import Derived.WalkLawsBesides
import Derived.ProofKit
import Derived.OpenShut
import Derived.ShutString
import Derived.ChangeOld
import Derived.Deep.QuietTactic
import Derived.BigQuiet
import Derived.StillTailTactics
import Derived.Lib.LazyBuf
import Derived.Laws.CopyOwn
import Derived.Deep.RegionHeld3
set_option linter.unusedVariables false

/- The walk of Sync of a device. -/
namespace Go.Proofs.Ytmmkncocgjgapaa.Dev
open Go.RowKit

/-- Writes laid over blocks, in their order. -/
def over (f : Int → Option (List Value)) (l : List (Int × List Value)) : Int → Option (List Value) := l.foldl (fun f p => upd f p.1 p.2) f
theorem over_snoc (f : Int → Option (List Value)) (l : List (Int × List Value)) (p : Int × List Value) : over f (l ++ [p]) = upd (over f l) p.1 p.2 := by
  unfold over
  rw [List.foldl_append]
  rfl
def Dv.synced (D : Dv) (k : Nat) : Dv := { D with lasts := over D.lasts (D.pend.take k) }
def Dv.sync (D : Dv) : Dv := { D with lasts := over D.lasts D.pend, pend := [] }

theorem over_fit {D : Dv} (h : Fit D) : ∀ (l : List (Int × List Value)), (∀ p ∈ l, p ∈ D.pend) → ∀ f : Int → Option (List Value), (∀ k ws, f k = some ws → ws.length = D.size) → ∀ k ws, over f l k = some ws → ws.length = D.size := by
  intro l
  induction l with
  | nil => intro _ f hf k ws hk; exact hf k ws hk
  | cons p l ih =>
    intro hl f hf k ws hk
    refine ih (fun q hq => hl q (by simp [hq])) (upd f p.1 p.2) (fun j xs hj => ?_) k ws hk
    unfold upd at hj
    split at hj
    · cases hj; exact h.pend p (hl p (by simp))
    · exact hf j xs hj
theorem synced_nums {D : Dv} (h : Nums D) (k : Nat) : Nums (D.synced k) :=
  ⟨h.fuse, h.fault, h.acts, ⟨h.fit.size, h.fit.blocks, h.fit.now, over_fit h.fit _ (fun p hp => List.mem_of_mem_take hp) _ h.fit.lasts, h.fit.pend, h.fit.len⟩⟩
theorem sync_nums {D : Dv} (h : Nums D) : Nums D.sync :=
  ⟨h.fuse, h.fault, h.acts, ⟨h.fit.size, h.fit.blocks, h.fit.now, over_fit h.fit _ (fun p hp => hp) _ h.fit.lasts, (fun p hp => by simp [Dv.sync] at hp), Nat.zero_le _⟩⟩

section
variable {w : World} {a rl rn : Nat} {O : Nat → Prop} {pv : Value} {D : Dv}

theorem pend_form {w : World} {O : Nat → Prop} {pv : Value} {l : List (Int × List Value)} (h : Pend w O pv l) : ∃ p c, pv = .slice p l.length c := by
  obtain ⟨pr, h1, _⟩ := h
  rcases h1.2 with ⟨rfl, h0⟩ | ⟨g, cap, cur, rfl, _⟩
  · exact ⟨none, 0, by rw [h0]⟩
  · exact ⟨_, cap, rfl⟩

/-- The write number k, as it lies in the list. -/
theorem pend_at {w : World} {O : Nat → Prop} {p : Option Addr} {c : Nat} {l : List (Int × List Value)} (h : Pend w O (.slice p l.length c) l) (k : Nat) (hk : k < l.length) :
    ∃ g v, p = some ⟨g, 0, none⟩ ∧ w.cell? ⟨g, k * 2, none⟩ = some (.int .i64 l[k].1) ∧ w.cell? ⟨g, k * 2 + 1, none⟩ = some v ∧ HeldV w O v l[k].2 := by
  obtain ⟨pr, h1, h2, h3⟩ := h
  obtain ⟨g, cap, e, _⟩ := World.ownsRow.form h1 (by omega)
  cases e
  obtain ⟨q1, q2⟩ := pcells_get pr k (by omega)
  obtain ⟨h4, h5⟩ := h3 k (by omega) hk
  refine ⟨g, pr[k].2, rfl, ?_, ?_, h5⟩
  · rw [h1.cellAt (k * 2) (by omega), q1, h4]
  · rw [h1.cellAt (k * 2 + 1) (by omega), q2]

def SyncLoop (w1 : World) (O : Nat → Prop) (a rl rn : Nat) (pv : Value) (D : Dv) (iv : Value) (wr : World) : Prop :=
  ∃ k : Nat, iv = .int .i64 (k : Int) ∧ k ≤ D.pend.length ∧ At wr O a rl rn pv (D.synced k) ∧ Chg (fun q => q = rl) w1 wr

theorem chg_drew {S : Nat → Prop} {w w' : World} (h : Chg S w.drew w') : Chg S w w' := ⟨h.os, h.tape, h.output, h.size, h.block⟩

theorem sync_close {W w3 : World} {k : Nat} {q : Int × List Value} {v : Value} {kv : List (Int × Value)} (A : At W O a rl rn pv (D.synced k)) (hk : ∀ j, OptHeld W O (look kv j) ((D.synced k).lasts j)) (hv : HeldV W O v q.2)
    (hm : IsMap (Value.int .i64) W rl kv) (hm3 : IsMap (Value.int .i64) w3 rl (put_ kv q.1 v)) (hc : Chg (fun k => k = rl) W w3) (hs : over D.lasts (D.pend.take (k + 1)) = upd (over D.lasts (D.pend.take k)) q.1 q.2) (hn : Nums D) : At w3 O a rl rn pv (D.synced (k + 1)) := by
  have hS : ∀ g cs, O g → Blk W g 23 cs → ¬ g = rl := fun g cs _ hg e => A.lasts.ne_blk hg e
  have hr : ∃ es c, W.heap[rl]? = some (.map es c) := by obtain ⟨es, c, h, _⟩ := hm; exact ⟨es, c, h⟩
  refine ⟨A.box.chg hc (A.lasts.ne_blk A.box), A.ne, ?_, A.now.chg hc (Ne.symm A.ne) hS, A.pend.chg hc (fun g hg => (A.pend_ne hg).2.1) hS, ?_, A.pout⟩
  · show DMap w3 O rl (over D.lasts (D.pend.take (k + 1)))
    rw [hs]
    exact DMap.put hk q.1 v q.2 hv hm3 hc hr
  · exact synced_nums hn _

theorem sync_end {w1 w' : World} (A : At w' O a rl rn pv (D.synced D.pend.length)) (hn : Nums D) (hc : Chg (fun k => k = rl) w1 w') :
    At (w'.setCell ⟨a, 4, none⟩ (.slice none 0 0)) O a rl rn (.slice none 0 0) D.sync ∧ Chg (Foot a rl rn pv) w1 (w'.setCell ⟨a, 4, none⟩ (.slice none 0 0)) := by
  have hc6 : Chg (fun k => k = a) w' (w'.setCell ⟨a, 4, none⟩ (.slice none 0 0)) := (Chg.refl _ w').setCell _ _ (fun _ => rfl)
  have hS : ∀ g cs, O g → Blk w' g 23 cs → ¬ g = a := fun g cs _ hg e => hg.ne_ A.box (by decide) e
  refine ⟨⟨A.box.set_ 4 (.slice none 0 0), A.ne, ?_, A.now.chg hc6 (Ne.symm (A.now.ne_blk A.box)) hS, Pend.nil _ _, sync_nums hn, fun g hg => by simp [Value.ownBlock] at hg⟩, (hc.mono (fun _ _ h => .inr (.inl h))).trans hc6 (fun _ _ h => .inl h)⟩
  have h2 : D.sync.lasts = (D.synced D.pend.length).lasts := by unfold Dv.sync Dv.synced; rw [List.take_length]
  rw [h2]
  exact A.lasts.chg hc6 (Ne.symm (A.lasts.ne_blk A.box)) hS

def Synced (w : World) (O : Nat → Prop) (a rl rn : Nat) (pv : Value) (D : Dv) (e : Ending) (w' : World) : Prop :=
  e = .returned (.int .i64 0) ∧ At w' O a rl rn (.slice none 0 0) D ∧ Chg (Foot a rl rn pv) w w'

end

end Go.Proofs.Ytmmkncocgjgapaa.Dev

/- Read, Write and Sync of a device in one word each, whatever fuse, fault or power say. -/
namespace Go.Proofs.Ytmmkncocgjgapaa.Dev
open Go.RowKit

/-- Read, Write, Sync: the error, and the device behind it. -/
def Dv.rd (D : Dv) (i : Int) : Int × Dv := if D.bars i D.size = 0 then D.act else (D.bars i D.size, D)
def Dv.wr (D : Dv) (i : Int) (ws : List Value) : Int × Dv := if D.bars i ws.length = 0 then (if D.act.1 = 0 then (0, D.act.2.put i ws) else D.act) else (D.bars i ws.length, D)
def Dv.sy (D : Dv) : Int × Dv := if D.down = true then (8, D) else if D.act.1 = 0 then (0, D.act.2.sync) else D.act

theorem act_er (D : Dv) : D.act.1 = 0 ∨ D.act.1 = 6 ∨ D.act.1 = 8 := by
  unfold Dv.act
  split
  · exact .inr (.inr rfl)
  · split
    · exact .inr (.inl rfl)
    · exact .inl rfl
theorem bars_er (D : Dv) (i : Int) (n : Nat) : D.bars i n = 0 ∨ D.bars i n = 1 ∨ D.bars i n = 8 := by
  unfold Dv.bars
  split
  · exact .inr (.inr rfl)
  · split
    · exact .inr (.inl rfl)
    · exact .inl rfl
/-- What an act leaves as it is. -/
structure Kin (D E : Dv) : Prop where
  size : E.size = D.size
  blocks : E.blocks = D.blocks
  acts : E.acts ≤ D.acts + 1
theorem act_kin (D : Dv) : Kin D D.act.2 := by
  obtain ⟨_, _, _, h1, h2, h3⟩ := D.act_same
  exact ⟨h1, h2, h3⟩
theorem rd_kin (D : Dv) (i : Int) : Kin D (D.rd i).2 := by
  unfold Dv.rd
  split
  · exact act_kin D
  · exact ⟨rfl, rfl, Nat.le_succ _⟩
theorem wr_kin (D : Dv) (i : Int) (ws : List Value) : Kin D (D.wr i ws).2 := by
  unfold Dv.wr
  split
  · split
    · exact ⟨(act_kin D).1, (act_kin D).2, (act_kin D).3⟩
    · exact act_kin D
  · exact ⟨rfl, rfl, Nat.le_succ _⟩
theorem rd_now (D : Dv) (i : Int) : (D.rd i).2.now = D.now := by
  unfold Dv.rd
  split
  · exact D.act_same.2.1
  · rfl
theorem wr_ok {D : Dv} {i : Int} {ws : List Value} (h : (D.wr i ws).1 = 0) : D.bars i ws.length = 0 ∧ D.act.1 = 0 ∧ (D.wr i ws).2 = D.act.2.put i ws := by
  unfold Dv.wr at h ⊢
  split at h
  · rename_i hb
    rw [if_pos hb]
    split at h
    · rename_i ha
      rw [if_pos ha]
      exact ⟨hb, ha, rfl⟩
    · rename_i ha
      exact absurd h ha
  · rename_i hb
    exact absurd h hb
theorem wr_now (D : Dv) (i : Int) (ws : List Value) : (D.wr i ws).2.now = if (D.wr i ws).1 = 0 then upd D.now i ws else D.now := by
  split
  · rename_i h
    rw [(wr_ok h).2.2]
    unfold Dv.put
    simp only
    rw [D.act_same.2.1]
  · rename_i h
    unfold Dv.wr at h ⊢
    split
    · rename_i hb
      rw [if_pos hb] at h
      split
      · rename_i ha
        rw [if_pos ha] at h
        exact absurd rfl h
      · exact D.act_same.2.1
    · rfl

section
variable {w : World} {a rl rn : Nat} {O : Nat → Prop} {pv : Value} {D : Dv}

def RdOk (w : World) (O : Nat → Prop) (a rl rn : Nat) (pv : Value) (D : Dv) (i : Int) (e : Ending) (w' : World) : Prop :=
  ∃ g c, e = .returned (.tuple #[.slice (some ⟨g, 0, none⟩) D.size c, .int .i64 0]) ∧ w'.ownsRow w.heap.size 23 1 (.slice (some ⟨g, 0, none⟩) D.size c) D.size (D.words i) ∧ w.heap.size ≤ g ∧
    At w' O a rl rn pv (D.rd i).2 ∧ Chg (fun k => k = a) w w'
def RdErr (w : World) (O : Nat → Prop) (a rl rn : Nat) (pv : Value) (D : Dv) (i : Int) (e : Ending) (w' : World) : Prop :=
  e = .returned (.tuple #[.slice none 0 0, .int .i64 (D.rd i).1]) ∧ At w' O a rl rn pv (D.rd i).2 ∧ Chg (fun k => k = a) w w'

theorem rd_ok {i : Int} (h : At w O a rl rn pv D) (hr : (D.rd i).1 = 0) (hac : D.acts + 1 < 1099511627776) :
    Calls Try.prog 56 #[.pointer (some ⟨a, 0, none⟩), .int .i64 i] w (RdOk w O a rl rn pv D i) := by
  unfold RdOk
  unfold Dv.rd at hr ⊢
  split at hr
  · rename_i hb
    rw [if_pos hb]
    refine (read_got i h hb hr (by omega)).mono ?_
    rintro e w' ⟨g, c, rfl, ho, hg, hbx, hc⟩
    exact ⟨g, c, rfl, ho, hg, h.acted hc hbx (by omega), hc⟩
  · rename_i hb
    exact absurd hr hb
theorem rd_err {i : Int} (h : At w O a rl rn pv D) (hr : (D.rd i).1 ≠ 0) (hac : D.acts + 1 < 1099511627776) :
    Calls Try.prog 56 #[.pointer (some ⟨a, 0, none⟩), .int .i64 i] w (RdErr w O a rl rn pv D i) := by
  unfold RdErr
  unfold Dv.rd at hr ⊢
  split at hr
  · rename_i hb
    rw [if_pos hb]
    refine (read_failed i h.box h.nums hb hr).mono ?_
    rintro e w' ⟨rfl, hbx, hc⟩
    exact ⟨rfl, h.acted hc hbx (by omega), hc⟩
  · rename_i hb
    rw [if_neg hb]
    refine (read_barred i h.box hb).mono ?_
    rintro e w' ⟨rfl, rfl⟩
    exact ⟨rfl, h, Chg.refl _ _⟩

def WrTold (w : World) (O : Nat → Prop) (a rl rn : Nat) (pv : Value) (D : Dv) (i : Int) (ws : List Value) (e : Ending) (w' : World) : Prop :=
  e = .returned (.int .i64 (D.wr i ws).1) ∧ (∃ pv', At w' O a rl rn pv' (D.wr i ws).2) ∧ Chg (Foot a rl rn pv) w w'
theorem wr_any {i : Int} {l : Option Addr} {n c : Nat} {ws : List Value} (h : At w O a rl rn pv D) (hn : ws.length = n) (hac : D.acts + 1 < 1099511627776) (hr : Row w l ws) (h1c : ∀ u ∈ ws, u.oneCell' = true) (hO : ∀ g, w.heap.size ≤ g → O g) (hla : ∀ x, l = some x → x.block ≠ a) (hn2 : n ≤ 9223372036854775807) :
    Calls Try.prog 14 #[.pointer (some ⟨a, 0, none⟩), .int .i64 i, .slice l n c] w (WrTold w O a rl rn pv D i ws) := by
  subst hn
  unfold WrTold Dv.wr
  by_cases hb : D.bars i ws.length = 0
  · rw [if_pos hb]
    by_cases ha : D.act.1 = 0
    · rw [if_pos ha]
      exact write_put i l c ws h hb ha hac hr h1c hO hla
    · rw [if_neg ha]
      refine (write_failed i l ws.length c h.box h.nums hb ha).mono ?_
      rintro e w' ⟨rfl, hbx, hc⟩
      exact ⟨rfl, ⟨pv, h.acted hc hbx (by omega)⟩, hc.mono (fun _ _ h => .inl h)⟩
  · rw [if_neg hb]
    refine (write_barred i l ws.length c h.box hn2 hb).mono ?_
    rintro e w' ⟨rfl, rfl⟩
    exact ⟨rfl, ⟨pv, h⟩, Chg.refl _ _⟩

def SyTold (w : World) (O : Nat → Prop) (a rl rn : Nat) (pv : Value) (D : Dv) (e : Ending) (w' : World) : Prop :=
  e = .returned (.int .i64 D.sy.1) ∧ (∃ pv', At w' O a rl rn pv' D.sy.2) ∧ Chg (Foot a rl rn pv) w w'
end

end Go.Proofs.Ytmmkncocgjgapaa.Dev

/- The plain law of the sums of words: what chapter 2 computes, over bit vectors, with no program in sight. No condition. -/
namespace Go.Proofs.Ytmmkncocgjgapaa.Crc

def half (s : BitVec 32) : BitVec 32 := s >>> 1

/-- One turn of the register. -/
def bit (s : BitVec 32) : BitVec 32 := half s ^^^ (3988292384#32 &&& -(s &&& 1#32))

def bitN : Nat → BitVec 32 → BitVec 32
  | 0, s => s
  | n + 1, s => bit (bitN n s)

/-- The low byte of a word, and what is left of it. -/
def low (x : BitVec 64) : BitVec 32 := (x &&& 255#64).setWidth 32
def rest (x : BitVec 64) : BitVec 64 := x >>> 8

/-- The state behind k bytes of a word: the register and what is left of the word. -/
def byteN : Nat → BitVec 32 → BitVec 64 → BitVec 32 × BitVec 64
  | 0, s, x => (s, x)
  | n + 1, s, x => (bitN 8 ((byteN n s x).1 ^^^ low (byteN n s x).2), rest (byteN n s x).2)

def next (sum : BitVec 32) (x : BitVec 64) : BitVec 32 := ~~~ (byteN 8 (~~~ sum) x).1

def sum (l : List (BitVec 64)) : BitVec 32 := l.foldl next 0#32

end Go.Proofs.Ytmmkncocgjgapaa.Crc

/- The walks of crc.Next: it computes what the plain text says. No condition. -/
namespace Go.Proofs.Ytmmkncocgjgapaa.Crc
open Go.RowKit

def I32 (b : BitVec 32) : Int := b.toNat
def I64 (b : BitVec 64) : Int := b.toNat
theorem I32_lt (b : BitVec 32) : 0 ≤ I32 b ∧ I32 b < 4294967296 := by have := b.isLt; unfold I32; omega
theorem I64_lt (b : BitVec 64) : 0 ≤ I64 b ∧ I64 b < 18446744073709551616 := by have := b.isLt; unfold I64; omega

theorem bits32 (op : BitVec 32 → BitVec 32 → BitVec 32) (a b : Int) (s t : BitVec 32) (ha : a = I32 s) (hb : b = I32 t) :
    IntKind.u32.wrap (op (BitVec.ofInt 32 a) (BitVec.ofInt 32 b)).toNat = I32 (op s t) := by
  subst ha; subst hb
  have := (op s t).isLt
  rw [IntKind.wrap_u32']
  unfold I32
  rw [BitVec.ofInt_natCast, BitVec.ofInt_natCast, BitVec.ofNat_toNat, BitVec.ofNat_toNat, BitVec.setWidth_eq, BitVec.setWidth_eq]
  omega

@[go_sem] theorem xor32 (s t : BitVec 32) : bits BinOp.xor IntKind.u32 (I32 s) (I32 t) = I32 (s ^^^ t) :=
  bits32 (· ^^^ ·) _ _ s t rfl rfl
@[go_sem] theorem not32 (s : BitVec 32) : bits BinOp.xor IntKind.u32 IntKind.u32.max (I32 s) = I32 (~~~s) := by
  rw [show ~~~s = 4294967295#32 ^^^ s from (by rw [← BitVec.allOnes_xor]; rfl)]
  exact bits32 (· ^^^ ·) _ _ 4294967295#32 s rfl rfl
@[go_sem] theorem and1 (s : BitVec 32) : bits BinOp.and IntKind.u32 (I32 s) 1 = I32 (s &&& 1#32) :=
  bits32 (· &&& ·) _ _ s 1#32 rfl rfl
@[go_sem] theorem poly32 (s : BitVec 32) : bits BinOp.and IntKind.u32 3988292384 (I32 s) = I32 (3988292384#32 &&& s) :=
  bits32 (· &&& ·) _ _ 3988292384#32 s rfl rfl
@[go_sem] theorem neg32 (s : BitVec 32) : -I32 s % 4294967296 = I32 (-s) := by
  unfold I32
  rw [BitVec.toNat_neg]
  have := s.isLt
  omega
@[go_sem] theorem half32 (s : BitVec 32) : I32 s / 2 = I32 (half s) := by
  unfold I32 half
  rw [BitVec.toNat_ushiftRight, Nat.shiftRight_eq_div_pow]
  omega
@[go_sem] theorem low8 (x : BitVec 64) : bits BinOp.and IntKind.u64 (I64 x) 255 % 4294967296 = I32 (low x) := by
  have h : bits BinOp.and IntKind.u64 (I64 x) 255 = I64 (x &&& 255#64) := by
    show IntKind.u64.wrap ((BitVec.ofInt 64 (I64 x)) &&& (BitVec.ofInt 64 255)).toNat = _
    rw [IntKind.wrap_u64]
    unfold I64
    rw [BitVec.ofInt_natCast, BitVec.ofNat_toNat, BitVec.setWidth_eq]
    have := (x &&& 255#64).isLt
    show ((x &&& 255#64).toNat : Int) % _ = _
    omega
  rw [h]
  unfold I64 I32 low
  rw [BitVec.toNat_setWidth]
  omega
@[go_sem] theorem shr8 (x : BitVec 64) : I64 x / 256 = I64 (rest x) := by
  unfold I64 rest
  rw [BitVec.toNat_ushiftRight, Nat.shiftRight_eq_div_pow]
  omega

set_option maxRecDepth 100000 in
set_option maxHeartbeats 400000 in
theorem next_any (s : BitVec 32) (x : BitVec 64) (w : World) :
    Calls Try.prog 76 #[.int .u32 (I32 s), .int .u64 (I64 x)] w fun e w' => e = .returned (.int .u32 (I32 (next s x))) ∧ w = w' := by
  go_enter Try.func76, Try.ntmps76
  go_wp2
  go_loop [1, 5, 8] (fun x1 s1 i => ∃ k : Nat, k ≤ 8 ∧ i = .int .i64 k ∧ s1 = .int .u32 (I32 (byteN k (~~~s) x).1) ∧ x1 = .int .u64 (I64 (byteN k (~~~s) x).2)) (fun _ _ i => 8 - (intOf i).toNat)
  case atStart => exact ⟨0, by omega, rfl, rfl, rfl⟩
  case round =>
    obtain ⟨k, hk, rfl, rfl, rfl⟩ := hrel
    by_cases hlt : (k : Int) < 8
    · go_wp2
      go_loop [5, 17] (fun s2 i => ∃ j : Nat, j ≤ 8 ∧ i = .int .i64 j ∧ s2 = .int .u32 (I32 (bitN j ((byteN k (~~~s) x).1 ^^^ low (byteN k (~~~s) x).2)))) (fun _ i => 8 - (intOf i).toNat)
      case atStart => exact ⟨0, by omega, rfl, rfl⟩
      case round =>
        obtain ⟨j, hj, rfl, rfl⟩ := hrel
        by_cases hjl : (j : Int) < 8
        · go_wp2
          go_round
          case rel => exact ⟨j + 1, by omega, by go_num, rfl⟩
          case measure => simp [intOf]; omega
        · obtain rfl : j = 8 := by omega
          go_wp2
          go_round
          case rel => exact ⟨k + 1, by omega, by go_num, rfl, rfl⟩
          case measure => simp [intOf]; omega
    · obtain rfl : k = 8 := by omega
      go_wp2
      go_ret
      exact ⟨rfl, rfl⟩

end Go.Proofs.Ytmmkncocgjgapaa.Crc

/- The walks of crc.Sum and of the reference's Sum: each computes what the plain text says, of every slice shorter than 2^62 words. -/
namespace Go.Proofs.Ytmmkncocgjgapaa.Crc
open Go.RowKit

def words (l : List (BitVec 64)) : List Value := l.map fun x => .int .u64 (I64 x)
theorem words_length (l : List (BitVec 64)) : (words l).length = l.length := by simp [words]

theorem words_get (l : List (BitVec 64)) (k : Nat) (h : k < l.length) : (words l)[k]? = some (.int .u64 (I64 l[k])) := by simp [words, h]
theorem sum_take (l : List (BitVec 64)) (k : Nat) (h : k < l.length) : next (sum (l.take k)) l[k] = sum (l.take (k + 1)) := by
  unfold sum
  rw [List.take_succ_eq_append_getElem h, List.foldl_append]
  rfl

set_option maxRecDepth 100000 in
set_option maxHeartbeats 400000 in
theorem sum_any (l : List (BitVec 64)) (a : Option Addr) (c : Nat) (w : World) (hr : Row w a (words l)) (hl : l.length < 4611686018427387904) :
    Calls Try.prog 77 #[.slice a l.length c] w fun e w' => e = .returned (.int .u32 (I32 (sum l))) ∧ w = w' := by
  go_enter Try.func77, Try.ntmps77
  go_wp2
  go_loop [3, 8] (fun s i => ∃ k : Nat, k ≤ l.length ∧ i = .int .i64 k ∧ s = .int .u32 (I32 (sum (l.take k)))) (fun _ i => l.length - (intOf i).toNat)
  case atStart => exact ⟨0, by omega, rfl, rfl⟩
  case round =>
    obtain ⟨k, hk, rfl, rfl⟩ := hrel
    by_cases hlt : (k : Int) < l.length
    · have hlt' : k < l.length := by omega
      obtain ⟨b, off, rfl, hc, -⟩ := hr.at_ (i := k) (by rw [words_length]; exact hlt')
      have hc' : w.cell? ⟨b, off + k, none⟩ = some (.int .u64 (I64 l[k])) := by rw [hc]; simp [words]
      have hs := Lib.hid (sum_take l k hlt')
      clear hc hr
      go_wp2_with (go_at_call 76; refine (next_any _ _ _).mono ?_; rintro e w' ⟨rfl, rfl⟩)
      go_round
      case rel => exact ⟨k + 1, by omega, by go_num, by rw [hs.out]⟩
      case measure => simp [intOf]; omega
    · obtain rfl : k = l.length := by omega
      go_wp2
      go_ret
      exact ⟨rfl, rfl⟩


@[go_sem] theorem xpoly (s : BitVec 32) : bits BinOp.xor IntKind.u32 (I32 s) 3988292384 = I32 (s ^^^ 3988292384#32) :=
  bits32 (· ^^^ ·) _ _ s 3988292384#32 rfl rfl
@[go_sem] theorem low8' (x : BitVec 64) : I64 x % 256 = I32 (low x) := by
  unfold I64 I32 low
  have : (x &&& 255#64).toNat = x.toNat % 256 := by rw [BitVec.toNat_and]; exact Nat.and_two_pow_sub_one_eq_mod x.toNat 8
  rw [BitVec.toNat_setWidth, this]
  omega

@[go_sem] theorem low8m (x : BitVec 64) : I32 (low x) % 4294967296 = I32 (low x) := by
  have := I32_lt (low x)
  omega

theorem odd_cases (s : BitVec 32) : s &&& 1#32 = 1#32 ∧ I32 s % 2 = 1 ∨ s &&& 1#32 = 0#32 ∧ I32 s % 2 = 0 := by
  have h : (s &&& 1#32).toNat = s.toNat % 2 := by rw [BitVec.toNat_and]; exact Nat.and_two_pow_sub_one_eq_mod s.toNat 1
  unfold I32
  rcases Nat.mod_two_eq_zero_or_one s.toNat with h0 | h1
  · exact .inr ⟨BitVec.eq_of_toNat_eq (by rw [h, h0]; rfl), by omega⟩
  · exact .inl ⟨BitVec.eq_of_toNat_eq (by rw [h, h1]; rfl), by omega⟩
theorem bit_odd (s : BitVec 32) (h : (I32 s % 2 == 1) = true) : half s ^^^ 3988292384#32 = bit s := by
  rcases odd_cases s with ⟨h1, _⟩ | ⟨_, h2⟩
  · unfold bit
    rw [h1]
    congr 1
  · rw [h2] at h; cases h
theorem bit_even (s : BitVec 32) (h : (I32 s % 2 == 1) = false) : half s = bit s := by
  rcases odd_cases s with ⟨_, h2⟩ | ⟨h1, _⟩
  · rw [h2] at h; cases h
  · unfold bit
    rw [h1]
    have : 3988292384#32 &&& -0#32 = 0#32 := by decide
    rw [this, BitVec.xor_zero]
@[go_sem] theorem neg_top (s : BitVec 32) : (4294967295 - I32 (~~~s)) % 4294967296 = I32 s := by
  unfold I32
  have := s.isLt
  rw [BitVec.toNat_not]
  omega

theorem sum_at (l : List (BitVec 64)) (a : Option Addr) (n c : Nat) (w : World) (hn : l.length = n) (hr : Row w a (words l)) (hl : n < 4611686018427387904) :
    Calls Try.prog 77 #[.slice a n c] w fun e w' => e = .returned (.int .u32 (I32 (sum l))) ∧ w = w' := by
  subst hn
  exact sum_any l a c w hr hl

end Go.Proofs.Ytmmkncocgjgapaa.Crc

/- The plain law of the sums: they are linear over exclusive or, and a word one half of which is turned turns the sum. No condition. -/
namespace Go.Proofs.Ytmmkncocgjgapaa.Crc

theorem and_xor {n : Nat} (a b c : BitVec n) : (a ^^^ b) &&& c = (a &&& c) ^^^ (b &&& c) := by
  apply BitVec.eq_of_getLsbD_eq
  intro i hi
  simp only [BitVec.getLsbD_and, BitVec.getLsbD_xor]
  cases a.getLsbD i <;> cases b.getLsbD i <;> cases c.getLsbD i <;> rfl
theorem half_xor (a b : BitVec 32) : half (a ^^^ b) = half a ^^^ half b := BitVec.ushiftRight_xor_distrib a b 1
theorem neg1_cases (a : BitVec 32) : a &&& 1#32 = 0#32 ∨ a &&& 1#32 = 1#32 := by
  have h : (a &&& 1#32).toNat = a.toNat % 2 := by rw [BitVec.toNat_and]; exact Nat.and_two_pow_sub_one_eq_mod a.toNat 1
  rcases Nat.mod_two_eq_zero_or_one a.toNat with h0 | h1
  · exact .inl (BitVec.eq_of_toNat_eq (by rw [h, h0]; rfl))
  · exact .inr (BitVec.eq_of_toNat_eq (by rw [h, h1]; rfl))
theorem bit_xor (a b : BitVec 32) : bit (a ^^^ b) = bit a ^^^ bit b := by
  unfold bit
  have h : (a ^^^ b) &&& 1#32 = (a &&& 1#32) ^^^ (b &&& 1#32) := and_xor a b 1#32
  rw [half_xor, h]
  have e : ∀ x y : BitVec 32, (x = 0#32 ∨ x = 1#32) → (y = 0#32 ∨ y = 1#32) → 3988292384#32 &&& -(x ^^^ y) = (3988292384#32 &&& -x) ^^^ (3988292384#32 &&& -y) := by
    rintro x y (rfl | rfl) (rfl | rfl) <;> decide
  rw [e _ _ (neg1_cases a) (neg1_cases b)]
  ac_rfl
theorem bit_zero : bit 0#32 = 0#32 := by decide
theorem bitN_xor (n : Nat) (a b : BitVec 32) : bitN n (a ^^^ b) = bitN n a ^^^ bitN n b := by
  induction n with
  | zero => rfl
  | succ n ih => simp only [bitN, ih, bit_xor]
theorem bitN_zero (n : Nat) : bitN n 0#32 = 0#32 := by
  induction n with
  | zero => rfl
  | succ n ih => simp only [bitN, ih, bit_zero]
theorem bitN_add (m n : Nat) (a : BitVec 32) : bitN (m + n) a = bitN n (bitN m a) := by
  induction n with
  | zero => rfl
  | succ n ih => rw [← Nat.add_assoc]; simp only [bitN, ih]

/-- One turn is one to one. -/
theorem bit_eq_zero (a : BitVec 32) (h : bit a = 0#32) : a = 0#32 := by
  have top : (half a).getLsbD 31 = false := by
    unfold half
    rw [BitVec.getLsbD_ushiftRight]
    exact BitVec.getLsbD_of_ge _ _ (by omega)
  rcases neg1_cases a with h0 | h1
  · unfold bit at h
    rw [h0] at h
    have hz : 3988292384#32 &&& -0#32 = 0#32 := by decide
    rw [hz, BitVec.xor_zero] at h
    have h2 := congrArg BitVec.toNat h
    have h3 := congrArg BitVec.toNat h0
    unfold half at h2
    rw [BitVec.toNat_ushiftRight, Nat.shiftRight_eq_div_pow] at h2
    have h4 : (a &&& 1#32).toNat = a.toNat % 2 := by rw [BitVec.toNat_and]; exact Nat.and_two_pow_sub_one_eq_mod a.toNat 1
    rw [h4] at h3
    apply BitVec.eq_of_toNat_eq
    simp at h2 h3 ⊢
    omega
  · exfalso
    have h2 : (bit a).getLsbD 31 = true := by
      unfold bit
      rw [BitVec.getLsbD_xor, top, h1]
      decide
    rw [h] at h2
    simp at h2
theorem bitN_eq_zero (n : Nat) (a : BitVec 32) (h : bitN n a = 0#32) : a = 0#32 := by
  induction n with
  | zero => exact h
  | succ n ih => exact ih (bit_eq_zero _ h)

theorem low_xor (a b : BitVec 64) : low (a ^^^ b) = low a ^^^ low b := by
  unfold low
  rw [and_xor, BitVec.setWidth_xor]
theorem rest_xor (a b : BitVec 64) : rest (a ^^^ b) = rest a ^^^ rest b := BitVec.ushiftRight_xor_distrib a b 8

theorem byteN_xor (n : Nat) (s t : BitVec 32) (x y : BitVec 64) :
    (byteN n (s ^^^ t) (x ^^^ y)).1 = (byteN n s x).1 ^^^ (byteN n t y).1 ∧ (byteN n (s ^^^ t) (x ^^^ y)).2 = (byteN n s x).2 ^^^ (byteN n t y).2 := by
  induction n with
  | zero => exact ⟨rfl, rfl⟩
  | succ n ih =>
    simp only [byteN]
    rw [ih.1, ih.2, low_xor, rest_xor]
    refine ⟨?_, rfl⟩
    rw [← bitN_xor]
    congr 1
    ac_rfl

theorem byteN_add (m n : Nat) (s : BitVec 32) (x : BitVec 64) : byteN (m + n) s x = byteN n (byteN m s x).1 (byteN m s x).2 := by
  induction n with
  | zero => rfl
  | succ n ih => rw [← Nat.add_assoc]; simp only [byteN, ih]

theorem low_zero : low 0#64 = 0#32 := by decide
theorem rest_zero : rest 0#64 = 0#64 := by decide
theorem byteN_word0 (n : Nat) (s : BitVec 32) : byteN n s 0#64 = (bitN (8 * n) s, 0#64) := by
  induction n with
  | zero => rfl
  | succ n ih =>
    simp only [byteN, ih, low_zero, rest_zero, BitVec.xor_zero]
    rw [show 8 * (n + 1) = 8 * n + 8 from rfl, bitN_add]

theorem bit_even' (a : BitVec 32) (h : a.getLsbD 0 = false) : bit a = half a := by
  have h0 : a &&& 1#32 = 0#32 := by
    rcases neg1_cases a with h0 | h1
    · exact h0
    · exfalso
      have := congrArg (fun x => BitVec.getLsbD x 0) h1
      simp only [BitVec.getLsbD_and, h] at this
      cases this
  unfold bit
  rw [h0]
  have : 3988292384#32 &&& -0#32 = 0#32 := by decide
  rw [this, BitVec.xor_zero]

/-- Zeros alone in the low bits: they are shifted out. -/
theorem bitN_shift (n : Nat) (u : BitVec 32) (h : ∀ i, i < n → u.getLsbD i = false) : bitN n u = u >>> n := by
  induction n with
  | zero => simp [bitN]
  | succ n ih =>
    simp only [bitN]
    rw [ih (fun i hi => h i (by omega)), bit_even']
    · unfold half
      apply BitVec.eq_of_getLsbD_eq
      intro i hi
      simp only [BitVec.getLsbD_ushiftRight]
      congr 1
      omega
    · rw [BitVec.getLsbD_ushiftRight]
      exact h n (by omega)

def tr (x : BitVec 64) : BitVec 32 := x.setWidth 32
def up (u : BitVec 32) : BitVec 32 := u &&& 4294967040#32

theorem bits_255 (i : Nat) (hi : i < 32) : (4294967040#32).getLsbD i = decide (8 ≤ i) ∧ (255#64).getLsbD i = decide (i < 8) := by
  have h : ∀ j : Fin 32, (4294967040#32).getLsbD j.1 = decide (8 ≤ j.1) ∧ (255#64).getLsbD j.1 = decide (j.1 < 8) := by decide
  exact h ⟨i, hi⟩
theorem tr_split (x : BitVec 64) : low x = tr x ^^^ up (tr x) := by
  apply BitVec.eq_of_getLsbD_eq
  intro i hi
  have h := bits_255 i hi
  simp only [low, tr, up, BitVec.getLsbD_xor, BitVec.getLsbD_and, BitVec.getLsbD_setWidth, h.1, h.2, hi, decide_true, Bool.true_and]
  by_cases h8 : i < 8
  · have h9 : ¬ 8 ≤ i := by omega
    simp [h8, h9]
  · have h9 : 8 ≤ i := by omega
    simp [h8, h9]
theorem up_shift (u : BitVec 32) : bitN 8 (up u) = u >>> 8 := by
  rw [bitN_shift]
  · apply BitVec.eq_of_getLsbD_eq
    intro i hi
    simp only [up, BitVec.getLsbD_ushiftRight, BitVec.getLsbD_and]
    by_cases h : 8 + i < 32
    · rw [(bits_255 (8 + i) h).1]; simp
    · rw [BitVec.getLsbD_of_ge _ _ (by omega)]; rfl
  · intro i hi
    simp only [up, BitVec.getLsbD_and]
    rw [(bits_255 i (by omega)).1]
    have : ¬ 8 ≤ i := by omega
    simp [this]
theorem tr_rest (x : BitVec 64) (h : x.toNat < 4294967296) : tr (rest x) = tr x >>> 8 ∧ (rest x).toNat < 4294967296 := by
  have e : (rest x).toNat = x.toNat / 256 := by unfold rest; rw [BitVec.toNat_ushiftRight, Nat.shiftRight_eq_div_pow]
  refine ⟨BitVec.eq_of_toNat_eq ?_, by omega⟩
  unfold tr
  rw [BitVec.toNat_ushiftRight, Nat.shiftRight_eq_div_pow, BitVec.toNat_setWidth, BitVec.toNat_setWidth, e]
  omega

theorem byteN_low (n : Nat) (s : BitVec 32) (x : BitVec 64) (h : x.toNat < 4294967296) :
    (byteN n s x).1 ^^^ tr (byteN n s x).2 = bitN (8 * n) (s ^^^ tr x) ∧ (byteN n s x).2.toNat < 4294967296 ∧ (byteN n s x).2.toNat = x.toNat / 256 ^ n := by
  induction n with
  | zero => exact ⟨rfl, h, by simp [byteN]⟩
  | succ n ih =>
    obtain ⟨h1, h2, h3⟩ := ih
    have e : (rest (byteN n s x).2).toNat = (byteN n s x).2.toNat / 256 := by unfold rest; rw [BitVec.toNat_ushiftRight, Nat.shiftRight_eq_div_pow]
    simp only [byteN]
    refine ⟨?_, (tr_rest _ h2).2, by rw [e, h3, Nat.div_div_eq_div_mul, ← Nat.pow_succ]⟩
    rw [(tr_rest _ h2).1, tr_split, ← BitVec.xor_assoc, h1, bitN_xor, up_shift, BitVec.xor_assoc, BitVec.xor_self, BitVec.xor_zero, ← bitN_add]
    rfl

/-- One half of a word. -/
def spread (d : BitVec 32) (high : Bool) : BitVec 64 := if high then d.setWidth 64 <<< 32 else d.setWidth 64

theorem byte8_low (d : BitVec 32) : (byteN 8 0#32 (d.setWidth 64)).1 = bitN 64 d := by
  have hd : (d.setWidth 64).toNat < 4294967296 := by rw [BitVec.toNat_setWidth]; have := d.isLt; omega
  obtain ⟨h1, h2, h3⟩ := byteN_low 8 0#32 (d.setWidth 64) hd
  have h4 : (byteN 8 0#32 (d.setWidth 64)).2 = 0#64 := by
    apply BitVec.eq_of_toNat_eq
    rw [h3]
    exact Nat.div_eq_of_lt (by omega)
  have h5 : tr (d.setWidth 64) = d := by
    apply BitVec.eq_of_toNat_eq
    unfold tr
    rw [BitVec.toNat_setWidth, BitVec.toNat_setWidth]
    have := d.isLt
    omega
  rw [h4, h5] at h1
  simpa [tr] using h1

theorem byte8_high (d : BitVec 32) : (byteN 8 0#32 (d.setWidth 64 <<< 32)).1 = bitN 32 d := by
  have hx : (d.setWidth 64 <<< 32).toNat = d.toNat * 4294967296 := by
    have := d.isLt
    rw [BitVec.toNat_shiftLeft, BitVec.toNat_setWidth, Nat.shiftLeft_eq]
    omega
  have h4 : ∀ n m, n + m = 4 → (byteN n 0#32 (d.setWidth 64 <<< 32)).1 = 0#32 ∧ (byteN n 0#32 (d.setWidth 64 <<< 32)).2.toNat = d.toNat * 256 ^ m := by
    intro n
    induction n with
    | zero => intro m hm; obtain rfl : m = 4 := by omega
              exact ⟨rfl, hx⟩
    | succ n ih =>
      intro m hm
      obtain ⟨h1, h2⟩ := ih (m + 1) (by omega)
      rw [Nat.pow_succ, ← Nat.mul_assoc] at h2
      generalize hB : byteN n 0#32 (d.setWidth 64 <<< 32) = B at h1 h2
      have hl : low B.2 = 0#32 := by
        apply BitVec.eq_of_toNat_eq
        unfold low
        have : (B.2 &&& 255#64).toNat = B.2.toNat % 256 := by rw [BitVec.toNat_and]; exact Nat.and_two_pow_sub_one_eq_mod _ 8
        rw [BitVec.toNat_setWidth, this, h2, Nat.mul_mod_left]
        rfl
      have hr : (rest B.2).toNat = d.toNat * 256 ^ m := by
        unfold rest
        rw [BitVec.toNat_ushiftRight, Nat.shiftRight_eq_div_pow, h2]
        exact Nat.mul_div_cancel _ (by omega)
      simp only [byteN, hB]
      exact ⟨by rw [h1, hl, BitVec.xor_zero, bitN_zero], hr⟩
  obtain ⟨a, b⟩ := h4 4 0 (by omega)
  rw [Nat.pow_zero, Nat.mul_one] at b
  rw [show (8 : Nat) = 4 + 4 from rfl, byteN_add, a]
  have hd := d.isLt
  obtain ⟨h1, h2, h3⟩ := byteN_low 4 0#32 (byteN 4 0#32 (d.setWidth 64 <<< 32)).2 (by rw [b]; omega)
  have h5 : (byteN 4 0#32 (byteN 4 0#32 (d.setWidth 64 <<< 32)).2).2 = 0#64 := by
    apply BitVec.eq_of_toNat_eq
    rw [h3, b]
    exact Nat.div_eq_of_lt (by omega)
  have h6 : tr (byteN 4 0#32 (d.setWidth 64 <<< 32)).2 = d := by
    apply BitVec.eq_of_toNat_eq
    unfold tr
    rw [BitVec.toNat_setWidth, b]
    omega
  rw [h5, h6] at h1
  simpa [tr] using h1

theorem spread_zero (d : BitVec 32) (high : Bool) (h : (byteN 8 0#32 (spread d high)).1 = 0#32) : d = 0#32 := by
  unfold spread at h
  cases high
  · rw [if_neg (by decide), byte8_low] at h; exact bitN_eq_zero _ _ h
  · rw [if_pos rfl, byte8_high] at h; exact bitN_eq_zero _ _ h

theorem next_diff (s t : BitVec 32) (x y : BitVec 64) : next s x ^^^ next t y = (byteN 8 (s ^^^ t) (x ^^^ y)).1 := by
  have h : ∀ a b : BitVec 32, ~~~a ^^^ ~~~b = a ^^^ b := by
    intro a b
    apply BitVec.eq_of_getLsbD_eq
    intro i hi
    simp only [BitVec.getLsbD_xor, BitVec.getLsbD_not, hi, decide_true, Bool.true_and]
    cases a.getLsbD i <;> cases b.getLsbD i <;> rfl
  unfold next
  rw [h, ← (byteN_xor 8 _ _ _ _).1, h]

/-- The same words behind: a difference stays one. -/
theorem fold_diff (l : List (BitVec 64)) (s t : BitVec 32) : l.foldl next s = l.foldl next t ↔ s = t := by
  induction l generalizing s t with
  | nil => rfl
  | cons x l ih =>
    rw [List.foldl_cons, List.foldl_cons, ih]
    refine ⟨fun h => ?_, fun h => by rw [h]⟩
    have h1 := next_diff s t x x
    rw [h, BitVec.xor_self, BitVec.xor_self, byteN_word0] at h1
    have h2 := bitN_eq_zero _ _ h1.symm
    exact BitVec.xor_eq_zero_iff.1 h2

theorem tells (l : List (BitVec 64)) (k : Nat) (hk : k < l.length) (d : BitVec 32) (high : Bool) : sum (l.set k (l[k] ^^^ spread d high)) = sum l ↔ d = 0#32 := by
  have e1 : l.set k (l[k] ^^^ spread d high) = l.take k ++ (l[k] ^^^ spread d high) :: l.drop (k + 1) := by
    rw [List.set_eq_take_append_cons_drop, if_pos hk]
  have e2 : l = l.take k ++ l[k] :: l.drop (k + 1) := by
    rw [List.getElem_cons_drop, List.take_append_drop]
  unfold sum
  rw [e1]
  conv => lhs; rhs; rw [e2]
  rw [List.foldl_append, List.foldl_append, List.foldl_cons, List.foldl_cons, fold_diff]
  generalize List.foldl next 0#32 (l.take k) = s
  refine ⟨fun h => ?_, fun h => ?_⟩
  · have h1 := next_diff s s (l[k] ^^^ spread d high) l[k]
    rw [h, BitVec.xor_self, BitVec.xor_self, BitVec.xor_comm l[k], BitVec.xor_assoc, BitVec.xor_self, BitVec.xor_zero] at h1
    exact spread_zero d high h1.symm
  · have : spread d high = 0#64 := by subst h; cases high <;> decide
    rw [this, BitVec.xor_zero]

/-- Four lists of as many words, laid over one another to nothing. -/
theorem turns (a b c : List (BitVec 64)) (hb : b.length = a.length) (hc : c.length = a.length) :
    sum a ^^^ sum b ^^^ sum c ^^^ sum (List.zipWith (· ^^^ ·) (List.zipWith (· ^^^ ·) a b) c) = 0#32 := by
  have key : ∀ (a b c : List (BitVec 64)) (s t u v : BitVec 32), b.length = a.length → c.length = a.length → s ^^^ t ^^^ u ^^^ v = 0#32 →
      a.foldl next s ^^^ b.foldl next t ^^^ c.foldl next u ^^^ (List.zipWith (· ^^^ ·) (List.zipWith (· ^^^ ·) a b) c).foldl next v = 0#32 := by
    intro a
    induction a with
    | nil =>
      intro b c s t u v hb hc h
      obtain rfl := List.eq_nil_of_length_eq_zero hb
      obtain rfl := List.eq_nil_of_length_eq_zero hc
      exact h
    | cons x a ih =>
      intro b c s t u v hb hc h
      match b, c, hb, hc with
      | y :: b, z :: c, hb, hc =>
        simp only [List.zipWith_cons_cons, List.foldl_cons]
        refine ih b c _ _ _ _ (by simpa using hb) (by simpa using hc) ?_
        have h1 := next_diff s t x y
        have h2 := next_diff u v z (x ^^^ y ^^^ z)
        have h3 : u ^^^ v = s ^^^ t := by
          have h4 : (s ^^^ t) ^^^ (u ^^^ v) = 0#32 := by rw [← BitVec.xor_assoc]; exact h
          exact (BitVec.xor_eq_zero_iff.1 h4).symm
        have h5 : z ^^^ (x ^^^ y ^^^ z) = x ^^^ y := by rw [BitVec.xor_comm z, BitVec.xor_assoc, BitVec.xor_self, BitVec.xor_zero]
        rw [h3, h5] at h2
        rw [BitVec.xor_assoc, h1, h2, BitVec.xor_self]
  exact key a b c 0#32 0#32 0#32 0#32 hb hc (by decide)

end Go.Proofs.Ytmmkncocgjgapaa.Crc

/- How an argument that came in is read: for each kind of type a relation between its cells and plain data, and that the form's own reading gives it. No condition. -/
namespace Go.Proofs.Ytmmkncocgjgapaa
open Go.RowKit

abbrev Rd (D : Type) := World → List Value → D → Prop

def rdInt (k : IntKind) : Rd Int := fun _ cs n => cs = [.int k n] ∧ (Lit.int k n).wf = true
def rdBool : Rd Bool := fun _ cs b => cs = [.bool b]
def rdStr : Rd ByteArray := fun _ cs s => cs = [.string s] ∧ s.size ≤ maxLen
/-- A slice whose elements have 'size' cells each. -/
def rdSlice {D : Type} (size : Nat) (R : Rd D) : Rd (List D) := fun w cs l =>
  ∃ a n c, cs = [.slice a n c] ∧ l.length = n ∧ n ≤ c ∧ c ≤ maxLen ∧ (a = none → c = 0) ∧
    ∀ i (hi : i < l.length), ∃ x es, a = some x ∧ es.length = size ∧ (∀ j, j < size → w.cell? ((x.add (i * size)).add j) = es[j]?) ∧ R w es l[i]
def rdArr {D : Type} (n size : Nat) (R : Rd D) : Rd (List D) := fun w cs l =>
  cs.length = n * size ∧ l.length = n ∧ ∀ i (hi : i < l.length), R w ((cs.drop (i * size)).take size) l[i]
def rdPair {A B : Type} (m n : Nat) (R : Rd A) (S : Rd B) : Rd (A × B) := fun w cs d =>
  cs.length = m + n ∧ R w (cs.take m) d.1 ∧ S w (cs.drop m) d.2

def Opens {H : Type} (enc : TypeId × Value → H) (P : Program) (t : TypeId) {D : Type} (R : Rd D) : Prop :=
  ∀ w fuel cs y, DataW.trod enc P w 0 (fun _ => true) true fuel t cs = some y → ∃ d, R w cs d

section
variable {H : Type} {enc : TypeId × Value → H} {P : Program} {t : TypeId}

theorem opens_int {k : IntKind} (ht : P.underlying t = some (.int k)) : Opens enc P t (rdInt k) := fun _ _ _ _ h => by
  obtain ⟨n, hc, _, hw⟩ := DataW.trod_int ht h
  exact ⟨n, hc, hw⟩
theorem opens_bool (ht : P.underlying t = some .bool) : Opens enc P t rdBool := fun _ _ _ _ h => by
  obtain ⟨n, hc, _⟩ := DataW.trod_bool ht h
  exact ⟨n, hc⟩
theorem opens_str (ht : P.underlying t = some .string) : Opens enc P t rdStr := fun _ _ _ _ h => by
  obtain ⟨n, hc, _, hw⟩ := DataW.trod_string ht h
  exact ⟨n, hc, hw⟩

theorem list_of {D : Type} (n : Nat) (Q : Nat → D → Prop) (h : ∀ i, i < n → ∃ d, Q i d) : ∃ l : List D, l.length = n ∧ ∀ i (hi : i < l.length), Q i l[i] := by
  induction n with
  | zero => exact ⟨[], rfl, fun i hi => absurd hi (by simp)⟩
  | succ n ih =>
    obtain ⟨l, hl, hq⟩ := ih (fun i hi => h i (by omega))
    obtain ⟨d, hd⟩ := h n (by omega)
    refine ⟨l ++ [d], by simp [hl], fun i hi => ?_⟩
    by_cases hlt : i < l.length
    · rw [List.getElem_append_left hlt]; exact hq i hlt
    · have : i = n := by simp at hi; omega
      subst this
      rw [List.getElem_append_right (by omega)]
      simpa using hd

theorem cells_some {w : World} {a : Addr} {n : Nat} {cs : List Value} (h : w.cells? 0 a n = some cs) : cs.length = n ∧ ∀ j, j < n → w.cell? (a.add j) = cs[j]? := by
  unfold World.cells? at h
  rw [if_pos (Nat.zero_le _)] at h
  exact ⟨by simpa using mapM_some_length h, fun j hj => mapM_some_get h j j (by simp [hj])⟩

theorem opens_slice {e : TypeId} {D : Type} {R : Rd D} {size : Nat} (ht : P.underlying t = some (.slice e)) (hs : P.cellsOf e = size) (hr : Opens enc P e R) : Opens enc P t (rdSlice size R) := fun w _ _ _ h => by
  rcases DataW.trod_slice ht h with ⟨hc, _⟩ | ⟨a, len, cap, elems, rest, n, _, rfl, _, _, hl, hm, hlen, hel, _⟩
  · exact ⟨[], none, 0, 0, hc, rfl, Nat.le_refl _, by unfold maxLen; omega, fun _ => rfl, fun i hi => absurd hi (by simp)⟩
  · obtain ⟨l, hll, hq⟩ := list_of len (fun i d => ∃ es, es.length = size ∧ (∀ j, j < size → w.cell? ((a.add (i * size)).add j) = es[j]?) ∧ R w es d) (fun i hi => by
      have := hel i hi
      rw [List.getElem?_eq_getElem (by omega), hs] at this
      cases hc : w.cells? 0 (a.add (i * size)) size with
      | none => rw [hc] at this; cases this
      | some cs =>
        rw [hc] at this
        obtain ⟨d, hd⟩ := hr _ _ _ _ this
        exact ⟨d, cs, (cells_some hc).1, (cells_some hc).2, hd⟩)
    exact ⟨l, some a, len, cap, rfl, hll, hl, hm, (fun h => by cases h), fun i hi => by
      obtain ⟨es, h1, h2, h3⟩ := hq i hi
      exact ⟨a, es, rfl, h1, h2, h3⟩⟩

theorem opens_arr {e : TypeId} {D : Type} {R : Rd D} {n size : Nat} (ht : P.underlying t = some (.array n e)) (hs : P.cellsOf e = size) (ht' : P.cellsOf t = n * size) (hr : Opens enc P e R) : Opens enc P t (rdArr n size R) := fun w _ cs _ h => by
  obtain ⟨xs, m, _, _, hl, hlen, hel⟩ := DataW.trod_array ht h
  obtain ⟨l, hll, hq⟩ := list_of n (fun i d => R w ((cs.drop (i * size)).take size) d) (fun i hi => by
    have := hel i hi
    rw [List.getElem?_eq_getElem (by omega), hs] at this
    exact hr _ _ _ _ this)
  exact ⟨l, hl.trans ht', hll, hq⟩
end

theorem opens_struct2 {H : Type} {enc : TypeId × Value → H} {P : Program} {t : TypeId} {f0 f1 : Field} {A B : Type} {R : Rd A} {S : Rd B} {m n : Nat} (ht : P.underlying t = some (.struct #[f0, f1])) (hc : P.cellsOf t = m + n)
    (h0 : P.cellsOf f0.type = m) (o0 : f0.offset = 0) (r0 : Opens enc P f0.type R) (h1 : P.cellsOf f1.type = n) (o1 : f1.offset = m) (r1 : Opens enc P f1.type S) : Opens enc P t (rdPair m n R S) := fun w _ cs _ h => by
  obtain ⟨y0, y1, k, _, hl, a0, a1⟩ := ChangeShapes.trod_struct2 ht h
  rw [o0, h0, List.drop_zero] at a0
  rw [o1, h1, List.take_of_length_le (by rw [List.length_drop]; omega)] at a1
  obtain ⟨d0, e0⟩ := r0 _ _ _ _ a0
  obtain ⟨d1, e1⟩ := r1 _ _ _ _ a1
  exact ⟨(d0, d1), hl.trans hc, e0, e1⟩

/-- A slice of pairs of integers. -/
theorem rdSlice_pairs {k1 k2 : IntKind} {w : World} {a : Option Addr} {n c : Nat} {l : List (Int × Int)} (h : rdSlice 2 (rdPair 1 1 (rdInt k1) (rdInt k2)) w [.slice a n c] l) :
    l.length = n ∧ n ≤ c ∧ c ≤ maxLen ∧ (∀ i (hi : i < l.length), ∃ b off, a = some ⟨b, off, none⟩ ∧ w.cell? ⟨b, off + i * 2, none⟩ = some (.int k1 l[i].1) ∧ w.cell? ⟨b, off + i * 2 + 1, none⟩ = some (.int k2 l[i].2) ∧ b < w.heap.size) ∧
      ∀ x ∈ l, (Lit.int k1 x.1).wf = true ∧ (Lit.int k2 x.2).wf = true := by
  obtain ⟨a', n', c', e, hl, hn, hc, _, hr⟩ := h
  simp only [List.cons.injEq, Value.slice.injEq, and_true] at e
  obtain ⟨rfl, rfl, rfl⟩ := e
  have key : ∀ i (hi : i < l.length), ∃ x es, a = some x ∧ (∀ j, j < 2 → w.cell? ((x.add (i * 2)).add j) = es[j]?) ∧ es = [.int k1 l[i].1, .int k2 l[i].2] ∧ (Lit.int k1 l[i].1).wf = true ∧ (Lit.int k2 l[i].2).wf = true := by
    intro i hi
    obtain ⟨x, es, hx, hes, hj, he1, ⟨he2, w1⟩, he3, w2⟩ := hr i hi
    refine ⟨x, es, hx, hj, ?_, w1, w2⟩
    match es, hes with
    | [e0, e1], _ =>
      simp at he2 he3
      rw [he2, he3]
  refine ⟨hl, hn, hc, fun i hi => ?_, fun x hx => ?_⟩
  · obtain ⟨x, es, rfl, hj, rfl, _⟩ := key i hi
    obtain ⟨x0, es0, hx0, hj0, rfl, _⟩ := key 0 (by omega)
    injection hx0 with hx0
    subst hx0
    obtain ⟨b, off, spot⟩ := x
    have h0 := hj0 0 (by omega)
    rw [show ((⟨b, off, spot⟩ : Addr).add (0 * 2)).add 0 = ⟨b, off, spot⟩ from by simp [Addr.add]] at h0
    have hs := (cell_lt h0).2
    simp only at hs
    subst hs
    have a0 := hj 0 (by omega)
    have a1 := hj 1 (by omega)
    rw [add_none, add_none] at a0 a1
    refine ⟨b, off, rfl, by simpa using a0, by simpa using a1, (cell_lt h0).1⟩
  · obtain ⟨i, hi, rfl⟩ := List.getElem_of_mem hx
    obtain ⟨_, _, _, _, _, w1, w2⟩ := key i hi
    exact ⟨w1, w2⟩

/-- A slice of integers, as the walk of a law is told of it. -/
theorem rdSlice_ints {k : IntKind} {w : World} {a : Option Addr} {n c : Nat} {l : List Int} (h : rdSlice 1 (rdInt k) w [.slice a n c] l) :
    l.length = n ∧ n ≤ c ∧ c ≤ maxLen ∧ Row w a (l.map (Value.int k)) ∧ ∀ x ∈ l, (Lit.int k x).wf = true := by
  obtain ⟨a', n', c', e, hl, hn, hc, _, hr⟩ := h
  simp only [List.cons.injEq, Value.slice.injEq, and_true] at e
  obtain ⟨rfl, rfl, rfl⟩ := e
  refine ⟨hl, hn, hc, fun i hi => ?_, fun x hx => ?_⟩
  · rw [List.length_map] at hi
    obtain ⟨x, es, hx, _, hj, hes, _⟩ := hr i hi
    refine ⟨x, hx, ?_⟩
    have := hj 0 (by omega)
    rw [hes, Nat.mul_one] at this
    rw [show (x.add i).add 0 = x.add i from by simp [Addr.add]] at this
    rw [this]
    simp [hi]
  · obtain ⟨i, hi, rfl⟩ := List.getElem_of_mem hx
    obtain ⟨_, _, _, _, _, _, hw⟩ := hr i hi
    exact hw

theorem rdSlice_nil {D : Type} {size : Nat} {R : Rd D} {w : World} {a : Option Addr} {n c : Nat} {l : List D} (h : rdSlice size R w [.slice a n c] l) : a = none → n = 0 ∧ c = 0 := by
  obtain ⟨a', n', c', e, hl, hn, hc, h0, _⟩ := h
  simp only [List.cons.injEq, Value.slice.injEq, and_true] at e
  obtain ⟨rfl, rfl, rfl⟩ := e
  intro h
  have := h0 h
  omega

theorem rdArr2_ints {k : IntKind} {w : World} {cs : Array Value} {l : List Int} (h : rdArr 2 1 (rdInt k) w cs.toList l) :
    ∃ d e, cs = #[.int k d, .int k e] ∧ (Lit.int k d).wf = true ∧ (Lit.int k e).wf = true ∧ l = [d, e] := by
  obtain ⟨hc, hl, hr⟩ := h
  obtain ⟨cs⟩ := cs
  match cs, l, hc, hl with
  | [c0, c1], [d, e], _, _ =>
    have h0 := hr 0 (by simp)
    have h1 := hr 1 (by simp)
    simp only [rdInt, Nat.zero_mul, List.drop_zero, List.take_succ_cons, List.take_zero, List.cons.injEq, and_true, List.getElem_cons_zero, Nat.one_mul, List.drop_succ_cons, List.getElem_cons_succ] at h0 h1
    obtain ⟨rfl, w0⟩ := h0
    obtain ⟨rfl, w1⟩ := h1
    exact ⟨d, e, rfl, w0, w1, rfl⟩

theorem okWide_agg {P : Program} {w : World} {r : Reach} {base : Nat} {t : TypeId} {v : Value} {n : Nat} {e : TypeId} (ht : P.underlying t = some (.array n e)) (h : Value.okWide P w r base t v) : ∃ cs, v = .agg cs ∧ cs.size = P.cellsOf t := by
  simp only [Value.okWide, ht] at h
  obtain ⟨cs, h1, h2, _⟩ := h
  exact ⟨cs, h1, h2⟩

theorem u_bounds {x : Int} : ((Lit.int .u32 x).wf = true → 0 ≤ x ∧ x < 4294967296) ∧ ((Lit.int .u16 x).wf = true → 0 ≤ x ∧ x < 65536) ∧ ((Lit.int .u8 x).wf = true → 0 ≤ x ∧ x < 256) ∧ ((Lit.int .u64 x).wf = true → 0 ≤ x ∧ x < 18446744073709551616) ∧
    ((Lit.int .i64 x).wf = true → -9223372036854775808 ≤ x ∧ x < 9223372036854775808) := by
  simp only [Lit.wf, Bool.and_eq_true, decide_eq_true_eq, IntKind.min, IntKind.max, IntKind.signed, IntKind.bits]
  refine ⟨?_, ?_, ?_, ?_, ?_⟩ <;> (simp; omega)

end Go.Proofs.Ytmmkncocgjgapaa

/- Rows of words: what a slice of []uint64 reads as, and appends to it. -/
namespace Go.Proofs.Ytmmkncocgjgapaa.Crc
open Go.RowKit

theorem I64_ofInt {x : Int} (h : (Lit.int .u64 x).wf = true) : I64 (BitVec.ofInt 64 x) = x := by
  simp only [Lit.wf, Bool.and_eq_true, IntKind.min, IntKind.max, IntKind.signed, IntKind.bits] at h
  unfold I64
  rw [BitVec.toNat_ofInt]
  simp at h
  omega

theorem words_of {l : List Int} (h : ∀ x ∈ l, (Lit.int .u64 x).wf = true) : words (l.map (BitVec.ofInt 64)) = l.map (Value.int .u64) := by
  unfold words
  rw [List.map_map]
  apply List.map_congr_left
  intro x hx
  show Value.int .u64 (I64 (BitVec.ofInt 64 x)) = _
  rw [I64_ofInt (h x hx)]

theorem words_row {w : World} {a : Option Addr} {n c : Nat} {l : List Int} (h : rdSlice 1 (rdInt .u64) w [.slice a n c] l) : ∃ m : List (BitVec 64), m.length = n ∧ Row w a (words m) := by
  obtain ⟨h1, _, _, h2, h3⟩ := rdSlice_ints h
  exact ⟨l.map (BitVec.ofInt 64), by simpa using h1, by rw [words_of h3]; exact h2⟩

set_option maxRecDepth 100000 in

theorem el_u64 : Elem Try.prog 39 23 1 8 := elem_of (z := .int .u64 0) Try.underlying39 (by kernel_rfl) rfl (by decide)

theorem words_one (m : List (BitVec 64)) : ∀ u ∈ words m, u.oneCell' = true := by
  intro u hu
  simp only [words, List.mem_map] at hu
  obtain ⟨_, _, rfl⟩ := hu
  rfl


end Go.Proofs.Ytmmkncocgjgapaa.Crc

/- The walk of slices.Clone at []uint64: the same words in memory of the call's own. -/
namespace Go.Proofs.Ytmmkncocgjgapaa
open Go.RowKit Crc


@[go_sem] theorem nil_u64 (w : World) (a : Option Addr) (n c : Nat) : (binOp .eql 39 (.slice a n c) (.slice none 0 0)).run Try.prog w = .ok (.bool a.isNone) w :=
  Lib.run_eql_slice_nil (P := Try.prog) w 39 23 a n c 0 0 Try.underlying39

set_option maxRecDepth 100000 in
set_option maxHeartbeats 400000 in
theorem clone_u64 (a : Option Addr) (n c : Nat) (xs : List Value) (w : World) (hr : Row w a xs) (hn : xs.length = n) (h1 : ∀ u ∈ xs, u.oneCell' = true) (hm : n ≤ 1099511627776) (h0 : a = none → n = 0 ∧ c = 0) :
    Calls Try.prog 44 #[.slice a n c] w (RetOwn w.heap.size 23 1 n xs w) := by
  cases a with
  | none =>
    obtain ⟨rfl, rfl⟩ := h0 rfl
    obtain rfl := List.eq_nil_of_length_eq_zero hn
    go_enter Try.func44, Try.ntmps44
    go_wp2_with fail
    go_ret
    exact ⟨_, rfl, World.ownsRow_nil _ _ _ _, Below.refl _ _⟩
  | some ad =>
    go_enter Try.func44, Try.ntmps44
    go_wp2_with (at_builtin; go_must (refine wpList_append rfl (.tmp 5) (.tmp 6) _ rfl el_u64 w.heap.size _ 0 [] rfl (World.ownsRow_made w #[] 0 (Nat.le_refl _) (by decide) rfl) (some ad) n c xs rfl (by omega) (hr.below ((Below.refl _ _).alloc (Nat.le_refl _) _)) h1 (by unfold maxLen; omega) (by omega) (by simp) ?_))
    intro v w1 hown _ _ hb
    go_wp2_with fail
    go_ret
    exact ⟨_, rfl, hown, ((Below.refl _ _).alloc (Nat.le_refl _) _).trans hb⟩

end Go.Proofs.Ytmmkncocgjgapaa

/- The last word of a sealed block, and what is right. -/
namespace Go.Proofs.Ytmmkncocgjgapaa.Crc
open Go.RowKit

/-- The last word: n payload words, the words ahead of it, the address. -/
def lastW (l : List (BitVec 64)) (n x : BitVec 64) : BitVec 64 := ((n + 1#64) <<< 32) ||| (next (next (sum l) (n + 1#64)) x).setWidth 64

set_option maxRecDepth 100000 in
theorem right_any (size address : Int) (w : World) :
    Calls Try.prog 66 #[.int .i64 size, .int .i64 address] w fun e w' => e = .returned (.bool (decide (8 ≤ size ∧ size ≤ 256 ∧ 0 ≤ address))) ∧ w = w' := by
  by_cases h1 : 8 ≤ size
  all_goals (by_cases h2 : size ≤ 256)
  all_goals (by_cases h3 : 0 ≤ address)
  all_goals
    go_enter Try.func66, Try.ntmps66
    go_wp2_with fail
    go_ret
    simp [h1, h2, h3]

theorem I64_ofNat {x : Nat} (h : x < 18446744073709551616) : I64 (BitVec.ofNat 64 x) = (x : Int) := by
  show ((BitVec.ofNat 64 x).toNat : Int) = _
  rw [BitVec.toNat_ofNat, Nat.mod_eq_of_lt (by omega)]
theorem I64_succ {x : Nat} (h : x + 1 < 18446744073709551616) : I64 (BitVec.ofNat 64 x + 1#64) = (x : Int) + 1 := by
  have : BitVec.ofNat 64 x + 1#64 = BitVec.ofNat 64 (x + 1) := by
    apply BitVec.eq_of_toNat_eq
    simp
  rw [this, I64_ofNat h]
  omega

theorem bits64 (op : BitVec 64 → BitVec 64 → BitVec 64) (a b : Int) (s t : BitVec 64) (ha : a = I64 s) (hb : b = I64 t) :
    IntKind.u64.wrap (op (BitVec.ofInt 64 a) (BitVec.ofInt 64 b)).toNat = I64 (op s t) := by
  subst ha; subst hb
  have := (op s t).isLt
  rw [IntKind.wrap_u64]
  unfold I64
  rw [BitVec.ofInt_natCast, BitVec.ofInt_natCast, BitVec.ofNat_toNat, BitVec.ofNat_toNat, BitVec.setWidth_eq, BitVec.setWidth_eq]
  omega

theorem u64_wrap_id {x : Int} (h : 0 ≤ x) (h2 : x < 18446744073709551616) : IntKind.u64.wrap x = x := by
  rw [show IntKind.u64.wrap x = x % 18446744073709551616 from rfl]
  omega
theorem or_word (n : Nat) (s : BitVec 32) (hn : n < 1000000) : bits BinOp.or IntKind.u64 (((n : Int) + 1) * 4294967296) (IntKind.u64.wrap (I32 s)) = I64 (((BitVec.ofNat 64 n + 1#64) <<< 32) ||| s.setWidth 64) := by
  refine bits64 (· ||| ·) _ _ _ _ ?_ ?_
  · have h : BitVec.ofNat 64 n + 1#64 = BitVec.ofNat 64 (n + 1) := by
      apply BitVec.eq_of_toNat_eq
      simp
    rw [h]
    unfold I64
    rw [BitVec.toNat_shiftLeft, BitVec.toNat_ofNat, Nat.shiftLeft_eq, Nat.mod_eq_of_lt (a := n + 1) (by omega), Nat.mod_eq_of_lt (by omega)]
    omega
  · have hs := s.isLt
    rw [u64_wrap_id (by unfold I32; omega) (by unfold I32; omega)]
    unfold I32 I64
    rw [BitVec.toNat_setWidth, Nat.mod_eq_of_lt (by omega)]

set_option maxRecDepth 100000 in
theorem last_any (l : List (BitVec 64)) (z : BitVec 64) (n x : Nat) (a : Option Addr) (c : Nat) (w : World) (hr : Row w a (words (l ++ [z]))) (hcap : l.length + 1 ≤ c) (hl : l.length < 1000000) (hn : n < 1000000) (hx : x < 9223372036854775808) :
    Calls Try.prog 67 #[.slice a (l.length + 1) c, .int .i64 (n : Int), .int .i64 (x : Int)] w fun e w' => e = .returned (.int .u64 (I64 (lastW l (BitVec.ofNat 64 n) (BitVec.ofNat 64 x)))) ∧ w = w' := by
  have e1 : (l.length : Int) ≤ c := by omega
  have e2 : IntKind.i64.wrap ((l.length : Int) + 1 - 1) = (l.length : Int) := by rw [IntKind.wrap_i64]; omega
  have e3 : IntKind.i64.wrap ((n : Int) + 1) = (n : Int) + 1 := by rw [IntKind.wrap_i64]; omega
  have hr2 : Row w a (words l) := by
    have := hr.take l.length
    simpa [words, List.take_append] using this
  have hn1 : I64 (BitVec.ofNat 64 n + 1#64) = (n : Int) + 1 := I64_succ (by omega)
  have hx1 : I64 (BitVec.ofNat 64 x) = (x : Int) := I64_ofNat (by omega)
  have HN := next_any (sum l) (BitVec.ofNat 64 n + 1#64) w
  rw [hn1] at HN
  have HX := next_any (next (sum l) (BitVec.ofNat 64 n + 1#64)) (BitVec.ofNat 64 x) w
  rw [hx1] at HX
  clear hn1 hx1
  go_enter Try.func67, Try.ntmps67
  go_wp2_with fail
  refine (sum_at l a _ _ _ rfl hr2 (by omega)).mono ?_
  rintro e w1 ⟨rfl, rfl⟩
  go_wp2_with fail
  refine HN.mono ?_
  rintro e w1 ⟨rfl, rfl⟩
  go_wp2_with fail
  refine HX.mono ?_
  rintro e w1 ⟨rfl, rfl⟩
  go_wp2_with fail
  go_ret
  refine ⟨?_, rfl⟩
  show Ending.returned (.int .u64 (bits BinOp.or IntKind.u64 (((n : Int) + 1) * 4294967296) (IntKind.u64.wrap (I32 (next (next (sum l) (BitVec.ofNat 64 n + 1#64)) (BitVec.ofNat 64 x)))))) = _
  rw [or_word n _ hn]
  rfl

end Go.Proofs.Ytmmkncocgjgapaa.Crc

/- The walk of seal.Put: the sealed block lies in memory of the call's own, or the call refuses. -/
namespace Go.Proofs.Ytmmkncocgjgapaa.Crc
open Go.RowKit

/-- The words ahead of the last one: the payload, zeros, the tag. -/
def bodyW (p : List (BitVec 64)) (size : Nat) (tag : BitVec 64) : List (BitVec 64) := p ++ List.replicate (size - 2 - p.length) 0#64 ++ [tag]
theorem bodyW_length {p : List (BitVec 64)} {size : Nat} {tag : BitVec 64} (h : p.length + 2 ≤ size) : (bodyW p size tag).length + 1 = size := by
  simp [bodyW]; omega
/-- A sealed block. -/
def sealW (p : List (BitVec 64)) (size : Nat) (tag x : BitVec 64) : List (BitVec 64) :=
  bodyW p size tag ++ [lastW (bodyW p size tag) (BitVec.ofNat 64 p.length) x]
theorem sealW_length {p : List (BitVec 64)} {size : Nat} {tag x : BitVec 64} (h : p.length + 2 ≤ size) : (sealW p size tag x).length = size := by
  have := bodyW_length (tag := tag) h
  simp [sealW]; omega

def zeroCells (n : Nat) : List Value := List.replicate n (.int .u64 0)
theorem zeroCells_length (n : Nat) : (zeroCells n).length = n := by simp [zeroCells]

theorem put_cells (p : List (BitVec 64)) (size : Nat) (tag : BitVec 64) (h : p.length + 2 ≤ size) :
    (splice (zeroCells size) 0 (words p)).toArray.setIfInBounds (size - 2) (.int .u64 (I64 tag)) = (words (bodyW p size tag ++ [0#64])).toArray := by
  apply Array.toList_inj.1
  simp only [Array.toList_setIfInBounds]
  have h1 : splice (zeroCells size) 0 (words p) = words p ++ zeroCells (size - 2 - p.length) ++ [.int .u64 0] ++ [.int .u64 0] := by
    have e : size = p.length + ((size - 2 - p.length) + (1 + 1)) := by omega
    have hz : zeroCells size = zeroCells p.length ++ (zeroCells (size - 2 - p.length) ++ ([.int .u64 0] ++ [.int .u64 0])) := by
      unfold zeroCells
      conv => lhs; rw [e]
      rw [← List.replicate_append_replicate, ← List.replicate_append_replicate, ← List.replicate_append_replicate]
      rfl
    unfold splice
    rw [hz, words_length, List.take_zero, Nat.zero_add, List.drop_append_of_le_length (by rw [zeroCells_length]; omega), List.drop_of_length_le (by rw [zeroCells_length]; omega)]
    simp
  have h2 : (words p ++ zeroCells (size - 2 - p.length)).length = size - 2 := by
    rw [List.length_append, words_length, zeroCells_length]; omega
  rw [h1]
  have h3 : words (bodyW p size tag ++ [0#64]) = words p ++ zeroCells (size - 2 - p.length) ++ [.int .u64 (I64 tag)] ++ [.int .u64 0] := by
    simp only [bodyW, words, zeroCells, List.map_append, List.map_replicate, List.map_cons, List.map_nil]
    rfl
  rw [h3]
  generalize words p ++ zeroCells (size - 2 - p.length) = A at *
  rw [← h2]
  simp

theorem put_last (l : List (BitVec 64)) (size : Nat) (h : l.length + 1 = size) (y z : BitVec 64) :
    (words (l ++ [y])).toArray.setIfInBounds (size - 1) (.int .u64 (I64 z)) = (words (l ++ [z])).toArray := by
  apply Array.toList_inj.1
  subst h
  simp [words]

theorem last_at (l : List (BitVec 64)) (z : BitVec 64) (m n x : Nat) (a : Option Addr) (c : Nat) (w : World) (hr : Row w a (words (l ++ [z]))) (hm : l.length + 1 = m) (hcap : m ≤ c) (hl : m < 1000000) (hn : n < 1000000) (hx : x < 9223372036854775808) :
    Calls Try.prog 67 #[.slice a m c, .int .i64 (n : Int), .int .i64 (x : Int)] w fun e w' => e = .returned (.int .u64 (I64 (lastW l (BitVec.ofNat 64 n) (BitVec.ofNat 64 x)))) ∧ w = w' := by
  subst hm
  exact last_any l z n x a c w hr hcap (by omega) hn hx

set_option maxRecDepth 100000 in
theorem put_ok (p : List (BitVec 64)) (size x : Nat) (tag : BitVec 64) (a : Option Addr) (c : Nat) (w : World) (hr : Row w a (words p)) (h8 : 8 ≤ size) (h256 : size ≤ 256) (hp : p.length + 2 ≤ size) (hx : x < 9223372036854775808) :
    Calls Try.prog 60 #[.int .i64 (size : Int), .int .i64 (x : Int), .int .u64 (I64 tag), .slice a p.length c] w fun e w' =>
      e = .returned (.tuple #[.slice (some ⟨w.heap.size, 0, none⟩) size size, .int .i64 0]) ∧ Blk w' w.heap.size 23 (words (sealW p size tag (BitVec.ofNat 64 x))).toArray ∧ Below w.heap.size w w' := by
  have hR := right_any size x w
  rw [show decide (8 ≤ (size : Int) ∧ (size : Int) ≤ 256 ∧ 0 ≤ (x : Int)) = true from by simp; omega] at hR
  have HR := Lib.hid hR
  have hm := run_make_of (P := Try.prog) (t := 39) (e := 23) (bytes := 8) (z := .int .u64 0) Try.underlying39 (by kernel_rfl) rfl .i64 .i64 size (by omega) (by omega) w
  have hp2 : decide ((size : Int) - 2 < (p.length : Int)) = false := by simp; omega
  have hp3 : (0 : Int) ≤ (size : Int) - 2 := by omega
  clear hR
  go_enter Try.func60, Try.ntmps60
  go_wp2_with fail
  refine HR.out.mono ?_
  rintro e w1 ⟨rfl, rfl⟩
  have hcz : (zeroCells size).toArray = same size (.int .u64 0) := by
    apply Array.toList_inj.1
    rw [same_list]
    rfl
  have HB0 : (w.alloc (.cells (same size (.int .u64 0)) 23)).heap[w.heap.size]? = some (.cells (zeroCells size).toArray 23 (0, 0)) := by
    rw [hcz]; exact Blk.new w _ _
  have HBW := Lib.hid HB0
  clear HB0 hcz
  have hra := hr.below ((Below.refl w.heap.size w).alloc (Nat.le_refl _) (.cells (same size (.int .u64 0)) 23))
  go_wp2_with (with_reducible refine wpList_copy_splice (o := ⟨some 26, _, _, _, _, _⟩) ?h1 (.tmp 24) (.tmp 25) 39 39 ?h2 23 Try.underlying39 ?h3 (some ⟨w.heap.size, 0, none⟩) a size size p.length c ?h4 ?h5 w.heap.size 0 (zeroCells size) 23 HBW.out (words p) ?c1 ?c2 ?c3 (words_one p) w.heap.size w ?c4 (Nat.le_refl _) ?_)
  case h1 => rfl
  case h2 => rfl
  case h3 => kernel_rfl
  case h4 => rfl
  case h5 => rfl
  case c1 => rw [words_length]; exact (Nat.min_eq_left (by omega)).symm
  case c2 =>
    intro hpos
    obtain ⟨b, o, rfl, _⟩ := hra.at_ hpos
    refine ⟨_, rfl, fun j v hj => ?_⟩
    have hj2 := hj
    rw [List.getElem?_eq_some_iff] at hj2
    obtain ⟨hj2, rfl⟩ := hj2
    obtain ⟨b', o', e, hc, _⟩ := hra.at_ hj2
    cases e
    rw [add_none, hc]
  case c3 => rw [words_length, zeroCells_length]; omega
  case c4 => exact (Below.refl w.heap.size w).alloc (Nat.le_refl _) _
  intro w2 HG2 hb2
  have B2 : Blk w2 w.heap.size 23 (splice (zeroCells size) 0 (words p)).toArray := HG2.out
  have hcells := put_cells p size tag hp
  have hl2 : (splice (zeroCells size) 0 (words p)).toArray.size = size := by
    rw [List.size_toArray, length_splice _ _ _ (by rw [words_length, zeroCells_length]; omega), zeroCells_length]
  generalize (splice (zeroCells size) 0 (words p)).toArray = cs at *
  obtain ⟨v2, e2⟩ := B2.some_ (i := size - 2) (by omega)
  have f2 := B2.frozen (size - 2)
  have B3 := B2.set_ (size - 2) (.int .u64 (I64 tag))
  rw [hcells] at B3
  have hb3 := hb2.setCell (p := ⟨w.heap.size, size - 2, none⟩) (Nat.le_refl _) (.int .u64 (I64 tag))
  have HL := Lib.hid (bodyW_length (tag := tag) hp)
  have r3 := Row.of_blk B3
  have E3 := Lib.hid (put_last (bodyW p size tag) size HL.out 0#64 (lastW (bodyW p size tag) (BitVec.ofNat 64 p.length) (BitVec.ofNat 64 x)))
  clear hcells hl2
  clear HG2 hm hra hr HR
  go_wp2_with fail
  clear e2 f2
  generalize w2.setCell ⟨w.heap.size, size - 2, none⟩ (.int .u64 (I64 tag)) = w3 at *
  refine (last_at (bodyW p size tag) 0#64 size p.length x _ _ _ r3 HL.out (Nat.le_refl _) (by omega) (by omega) hx).mono ?_
  rintro e w4 ⟨rfl, rfl⟩
  obtain ⟨v3, e3⟩ := B3.some_ (i := size - 1) (by have := HL.out; simp [words]; omega)
  have f3 := B3.frozen (size - 1)
  have B4 := B3.set_ (size - 1) (.int .u64 (I64 (lastW (bodyW p size tag) (BitVec.ofNat 64 p.length) (BitVec.ofNat 64 x))))
  have hb4 := hb3.setCell (p := ⟨w.heap.size, size - 1, none⟩) (Nat.le_refl _) (.int .u64 (I64 (lastW (bodyW p size tag) (BitVec.ofNat 64 p.length) (BitVec.ofNat 64 x))))
  rw [E3.out] at B4
  clear B3 hb3 r3
  go_wp2_with fail
  go_ret2
  exact ⟨rfl, B4, hb4⟩

end Go.Proofs.Ytmmkncocgjgapaa.Crc

/- Two lists of words: the same? -/
namespace Go.Proofs.Ytmmkncocgjgapaa.Crc
open Go.RowKit

def Quiet (w w' : World) : Prop := ∃ d, w' = w.drewN d
theorem Quiet.refl (w : World) : Quiet w w := ⟨0, rfl⟩
theorem Quiet.drewN {w w' : World} (h : Quiet w w') (n : Nat) : Quiet w (w'.drewN n) := by
  obtain ⟨d, rfl⟩ := h
  exact ⟨d + n, by simp⟩

def sameW (l m : List (BitVec 64)) : Bool := decide (l = m)
def SameLoop (w : World) (n : Nat) (l m : List (BitVec 64)) (iv : Value) (wr : World) : Prop := ∃ k : Nat, iv = .int .i64 (k : Int) ∧ k ≤ n ∧ l.take k = m.take k ∧ Quiet w wr

theorem words_at {w : World} {a : Option Addr} {l : List (BitVec 64)} (h : Row w a (words l)) {k : Nat} (hk : k < l.length) : ∃ b o, a = some ⟨b, o, none⟩ ∧ w.cell? ⟨b, o + k, none⟩ = some (.int .u64 (I64 l[k])) := by
  obtain ⟨b, o, e, hc, _⟩ := h.at_ (i := k) (by simpa [words] using hk)
  refine ⟨b, o, e, ?_⟩
  rw [hc]
  simp [words]

theorem I64_inj {x y : BitVec 64} (h : I64 x = I64 y) : x = y := by
  apply BitVec.eq_of_toNat_eq
  unfold I64 at h
  omega

end Go.Proofs.Ytmmkncocgjgapaa.Crc

/- The walks of seal.Put where it refuses, and of the reference's Put. -/
namespace Go.Proofs.Ytmmkncocgjgapaa.Crc
open Go.RowKit

/-- What Put asks. -/
def PutFits (size address : Int) (n : Nat) : Prop := 8 ≤ size ∧ size ≤ 256 ∧ 0 ≤ address ∧ (n : Int) + 2 ≤ size

set_option maxRecDepth 100000 in
theorem put_no (size address : Int) (tag : Int) (a : Option Addr) (n c : Nat) (w : World) (h : ¬ PutFits size address n) (hn : n ≤ 9223372036854775807) :
    Calls Try.prog 60 #[.int .i64 size, .int .i64 address, .int .u64 tag, .slice a n c] w fun e w' =>
      e = .returned (.tuple #[.slice none 0 0, .int .i64 1]) ∧ w = w' := by
  unfold PutFits at h
  by_cases hr : 8 ≤ size ∧ size ≤ 256 ∧ 0 ≤ address
  · have hR := right_any size address w
    rw [show decide (8 ≤ size ∧ size ≤ 256 ∧ 0 ≤ address) = true from by simpa using hr] at hR
    have HR := Lib.hid hR
    have h2 : size - 2 < (n : Int) := by omega
    obtain ⟨h8, h256, h0⟩ := hr
    clear hR h
    go_enter Try.func60, Try.ntmps60
    go_wp2_with fail
    refine HR.out.mono ?_
    rintro e w1 ⟨rfl, rfl⟩
    go_wp2_with fail
    go_ret2
    exact ⟨rfl, rfl⟩
  · have hR := right_any size address w
    rw [show decide (8 ≤ size ∧ size ≤ 256 ∧ 0 ≤ address) = false from by simpa using hr] at hR
    have HR := Lib.hid hR
    clear hR h hr
    go_enter Try.func60, Try.ntmps60
    go_wp2_with fail
    refine HR.out.mono ?_
    rintro e w1 ⟨rfl, rfl⟩
    go_wp2_with fail
    go_ret2
    exact ⟨rfl, rfl⟩

def lenV : Value → Nat
  | .slice _ n _ => n
  | _ => 0

/-- The reference's loop: zeros behind the payload. -/
def FillLoop (w : World) (p : List (BitVec 64)) (size : Nat) (v : Value) (wr : World) : Prop :=
  ∃ k, p.length + k + 2 ≤ size ∧ wr.ownsRow w.heap.size 23 1 v (p.length + k) (words (p ++ List.replicate k 0#64)) ∧ Below w.heap.size w wr

def RefPut (w : World) (size : Nat) (l : List (BitVec 64)) (e : Ending) (w' : World) : Prop :=
  ∃ v, e = .returned (.tuple #[v, .int .i64 0]) ∧ w'.ownsRow w.heap.size 23 1 v size (words l) ∧ Below w.heap.size w w'

theorem words_append (a b : List (BitVec 64)) : words (a ++ b) = words a ++ words b := by simp [words]

theorem add_word (n : Nat) (s : BitVec 32) (hn : n < 1000000) : ((n : Int) + 1) * 4294967296 + I32 s = I64 (((BitVec.ofNat 64 n + 1#64) <<< 32) ||| s.setWidth 64) := by
  have h : BitVec.ofNat 64 n + 1#64 = BitVec.ofNat 64 (n + 1) := by
    apply BitVec.eq_of_toNat_eq
    simp
  have hs := s.isLt
  rw [h]
  unfold I64 I32
  rw [BitVec.toNat_or, BitVec.toNat_shiftLeft, BitVec.toNat_ofNat, BitVec.toNat_setWidth, Nat.shiftLeft_eq, Nat.mod_eq_of_lt (a := n + 1) (by omega), Nat.mod_eq_of_lt (a := s.toNat) (by omega), Nat.mod_eq_of_lt (by omega)]
  have := Nat.two_pow_add_eq_or_of_lt (i := 32) (b := s.toNat) (by omega) (n + 1)
  rw [Nat.mul_comm, ← this]
  omega

end Go.Proofs.Ytmmkncocgjgapaa.Crc

/- The walk of the law SealPuts. -/
namespace Go.Proofs.Ytmmkncocgjgapaa.Crc
open Go.RowKit

theorem awake_last : lastW (bodyW [] 8 5#64) 0#64 0#64 = 5528736187#64 := by decide +kernel

theorem u64_of {x : Int} (h : (Lit.int .u64 x).wf = true) : ∃ b : BitVec 64, x = I64 b := ⟨BitVec.ofInt 64 x, (I64_ofInt h).symm⟩

theorem below_d {B : Nat} {w w' : World} (h : Below B w w') (n : Nat) : Below B w (w'.drewN n) := h.trans ⟨rfl, rfl, rfl, Nat.le_refl _, fun _ _ => rfl⟩

end Go.Proofs.Ytmmkncocgjgapaa.Crc

/- The walk of seal.Get: a block is opened as what it is, or refused. -/
namespace Go.Proofs.Ytmmkncocgjgapaa.Crc
open Go.RowKit

theorem nonzero_any (x : BitVec 64) (w : World) :
    Calls Try.prog 69 #[.int .u64 (I64 x)] w fun e w' => e = .returned (.bool (I64 x != 0)) ∧ w = w' := by
  go_enter Try.func69, Try.ntmps69
  go_wp2_with fail
  go_ret
  exact ⟨rfl, rfl⟩

def zeroW (l : List (BitVec 64)) : Bool := l.all (· == 0#64)
theorem I64_zero (x : BitVec 64) : I64 x = 0 ↔ x = 0#64 := by
  constructor
  · intro h
    exact I64_inj h
  · rintro rfl
    rfl
theorem zeroW_succ (l : List (BitVec 64)) (k : Nat) (h : k < l.length) : zeroW (l.take (k + 1)) = (zeroW (l.take k) && (l[k] == 0#64)) := by
  unfold zeroW
  rw [List.take_succ_eq_append_getElem h, List.all_append]
  simp
theorem zeroW_at (l : List (BitVec 64)) (k : Nat) (h : k < l.length) : l[k] ≠ 0#64 → zeroW l = false := by
  intro hx
  unfold zeroW
  rw [List.all_eq_false]
  exact ⟨_, List.getElem_mem h, by simpa using hx⟩
def FindLoop (n : Nat) (l : List (BitVec 64)) (iv : Value) : Prop := ∃ k : Nat, iv = .int .i64 (k : Int) ∧ k ≤ n ∧ zeroW (l.take k) = true

/-- The index of the first word that is not zero. -/
def FirstOne (l : List (BitVec 64)) (w : World) (e : Ending) (w' : World) : Prop :=
  ∃ i : Int, e = .returned (.int .i64 i) ∧ (zeroW l = true → i = -1) ∧ (zeroW l = false → 0 ≤ i) ∧ w = w'

set_option maxRecDepth 100000 in
theorem index_any (l : List (BitVec 64)) (a : Option Addr) (n c : Nat) (w : World) (hr : Row w a (words l)) (hn : l.length = n) (hl : n < 1000000) :
    Calls Try.prog 78 #[.slice a n c, .func (.func 69) #[] #[]] w (FirstOne l w) := by
  subst hn
  go_enter Try.func78, Try.ntmps78
  go_wp2_with fail
  go_loop [8] (fun iv => FindLoop l.length l iv) (fun iv => l.length - (intOf iv).toNat)
  case atStart => exact ⟨0, rfl, by omega, rfl⟩
  case round =>
    obtain ⟨k, rfl, hk, hz⟩ := hrel
    by_cases hlt : (k : Int) < l.length
    · have hkl : k < l.length := by omega
      obtain ⟨b, o, rfl, hc⟩ := words_at hr hkl
      have ht := zeroW_succ l k hkl
      have hnz := zeroW_at l k hkl
      generalize l[k] = x at *
      have HT := Lib.hid ht
      have HNZ := Lib.hid hnz
      have HZ := Lib.hid hz
      clear ht hnz hz hr
      by_cases hx : x = 0#64
      · have hxe : (I64 x != 0) = false := by rw [hx]; rfl
        clear hx
        go_wp2_with fail
        refine (nonzero_any x _).mono ?_
        rintro e w' ⟨rfl, rfl⟩
        rw [hxe]
        go_wp2_with fail
        go_round
        case rel => exact ⟨k + 1, by go_num, by omega, by rw [HT.out, HZ.out]; simpa [I64_zero] using hxe⟩
        case measure => simp [intOf]; omega
      · have hxe : (I64 x != 0) = true := by rw [bne_iff_ne]; exact fun h => hx ((I64_zero x).1 h)
        have hall := HNZ.out hx
        have HALL := Lib.hid hall
        clear hx hall
        go_wp2_with fail
        refine (nonzero_any x _).mono ?_
        rintro e w' ⟨rfl, rfl⟩
        rw [hxe]
        go_wp2_with fail
        go_ret
        exact ⟨(k : Int), rfl, fun h => (by rw [HALL.out] at h; cases h), fun _ => by omega, rfl⟩
    · have hz2 : zeroW l = true := by rw [List.take_of_length_le (by omega)] at hz; exact hz
      have HZ := Lib.hid hz2
      clear hz hz2
      go_wp2_with fail
      go_ret
      exact ⟨-1, rfl, fun _ => rfl, fun h => (by rw [HZ.out] at h; cases h), rfl⟩

set_option maxRecDepth 100000 in
theorem contains_any (l : List (BitVec 64)) (a : Option Addr) (n c : Nat) (w : World) (hr : Row w a (words l)) (hn : l.length = n) (hl : n < 1000000) :
    Calls Try.prog 68 #[.slice a n c, .func (.func 69) #[] #[]] w fun e w' => e = .returned (.bool (!zeroW l)) ∧ w = w' := by
  have HI := Lib.hid (index_any l a n c w hr hn hl)
  clear hr
  go_enter Try.func68, Try.ntmps68
  go_wp2_with fail
  refine HI.out.mono ?_
  rintro e w' ⟨i, rfl, h1, h2, rfl⟩
  cases hz : zeroW l
  · have h3 := h2 hz
    clear h1 h2
    have HZ := Lib.hid hz
    clear hz
    go_wp2_with fail
    go_ret
    exact ⟨congrArg (fun b => Ending.returned (.bool (!b))) HZ.out.symm, rfl⟩
  · obtain rfl := h1 hz
    have HZ := Lib.hid hz
    clear h1 h2 hz
    go_wp2_with fail
    go_ret
    exact ⟨congrArg (fun b => Ending.returned (.bool (!b))) HZ.out.symm, rfl⟩

end Go.Proofs.Ytmmkncocgjgapaa.Crc

/- The walk of seal.Get: a block is opened as what it is, or refused. -/
namespace Go.Proofs.Ytmmkncocgjgapaa.Crc
open Go.RowKit

def GotOk (w : World) (p : List (BitVec 64)) (tag : BitVec 64) (e : Ending) (w' : World) : Prop :=
  ∃ a c, e = .returned (.tuple #[.slice a p.length c, .int .u64 (I64 tag), .int .i64 0]) ∧ Row w' a (words p) ∧ Below w.heap.size w w'

theorem last_top (B : List (BitVec 64)) (n : Nat) (X : BitVec 64) (hn : n < 1000000) : I64 (lastW B (BitVec.ofNat 64 n) X) / 4294967296 = (n : Int) + 1 := by
  have := add_word n (next (next (sum B) (BitVec.ofNat 64 n + 1#64)) X) hn
  have h2 := I32_lt (next (next (sum B) (BitVec.ofNat 64 n + 1#64)) X)
  unfold lastW
  omega

theorem zeroW_replicate (n : Nat) : zeroW (List.replicate n 0#64) = true := by
  unfold zeroW
  simp

set_option maxRecDepth 100000 in
set_option maxHeartbeats 800000 in
theorem get_yes (p : List (BitVec 64)) (size x : Nat) (tag : BitVec 64) (a : Option Addr) (c : Nat) (w : World) (hr : Row w a (words (sealW p size tag (BitVec.ofNat 64 x)))) (h8 : 8 ≤ size) (h256 : size ≤ 256) (hp : p.length + 2 ≤ size) (hx : x < 9223372036854775808) (hc : size ≤ c) (hc2 : c ≤ maxLen) :
    Calls Try.prog 57 #[.slice a size c, .int .i64 (x : Int)] w (GotOk w p tag) := by
  unfold maxLen at hc2
  have hB := bodyW_length (tag := tag) hp
  have hlen := sealW_length (tag := tag) (x := BitVec.ofNat 64 x) hp
  obtain ⟨b, o, rfl, c1⟩ := words_at hr (k := size - 1) (by omega)
  obtain ⟨b', o', e, c2⟩ := words_at hr (k := size - 2) (by omega)
  cases e
  have g1 : (sealW p size tag (BitVec.ofNat 64 x))[size - 1]'(by omega) = lastW (bodyW p size tag) (BitVec.ofNat 64 p.length) (BitVec.ofNat 64 x) := by
    unfold sealW
    rw [List.getElem_append_right (by omega)]
    simp
  have g2 : (sealW p size tag (BitVec.ofNat 64 x))[size - 2]'(by omega) = tag := by
    unfold sealW
    rw [List.getElem_append_left (by omega)]
    unfold bodyW
    rw [List.getElem_append_right (by simp; omega)]
    simp
  rw [g1] at c1
  rw [g2] at c2
  have hq := last_top (bodyW p size tag) p.length (BitVec.ofNat 64 x) (by omega)
  have hrl : Row w (some ⟨b, o, none⟩) (words (bodyW p size tag ++ [lastW (bodyW p size tag) (BitVec.ofNat 64 p.length) (BitVec.ofNat 64 x)])) := hr
  have HL := Lib.hid (fun d => last_at (bodyW p size tag) _ size p.length x (some ⟨b, o, none⟩) c (w.drewN d) hrl hB hc (by omega) (by omega) hx)
  have hrz : Row w (some ⟨b, o + p.length, none⟩) (words (List.replicate (size - 2 - p.length) 0#64)) := by
    have h1 := (hr.drop p.length).take (size - 2 - p.length)
    have h2 : ((words (sealW p size tag (BitVec.ofNat 64 x))).drop p.length).take (size - 2 - p.length) = words (List.replicate (size - 2 - p.length) 0#64) := by
      unfold words sealW bodyW
      rw [← List.map_drop, ← List.map_take, List.append_assoc, List.append_assoc, List.drop_append_of_le_length (by omega), List.drop_of_length_le (Nat.le_refl _), List.nil_append, List.take_append_of_le_length (by simp), List.take_of_length_le (by simp)]
    rw [h2] at h1
    exact h1
  have HC := Lib.hid (fun d => contains_any (List.replicate (size - 2 - p.length) 0#64) (some ⟨b, o + p.length, none⟩) (size - 2 - p.length) (c - p.length) (w.drewN d) hrz (by simp) (by omega))
  rw [show (!zeroW (List.replicate (size - 2 - p.length) 0#64)) = false from by rw [zeroW_replicate]; rfl] at HC
  have hrp : Row w (some ⟨b, o, none⟩) (words p) := by
    have h1 := hr.take p.length
    have h2 : (words (sealW p size tag (BitVec.ofNat 64 x))).take p.length = words p := by
      unfold words sealW bodyW
      rw [← List.map_take, List.append_assoc, List.append_assoc, List.take_append_of_le_length (by omega), List.take_of_length_le (Nat.le_refl _)]
    rw [h2] at h1
    exact h1
  have hR := right_any size x w
  rw [show decide (8 ≤ (size : Int) ∧ (size : Int) ≤ 256 ∧ 0 ≤ (x : Int)) = true from by simp; omega] at hR
  have HR := Lib.hid hR
  have hg1 : decide ((size : Int) - 2 < (p.length : Int)) = false := by simp; omega
  have hg2 : decide ((p.length : Int) < 0) = false := by simp
  have hvb := I64_lt (lastW (bodyW p size tag) (BitVec.ofNat 64 p.length) (BitVec.ofNat 64 x))
  clear hR g1 g2 hrl hrz hB hlen hr
  generalize I64 (lastW (bodyW p size tag) (BitVec.ofNat 64 p.length) (BitVec.ofNat 64 x)) = V at *
  have hvv : (V != V) = false := by simp
  have b1 : (p.length : Int) ≤ c := by omega
  have b2 : (size : Int) - 2 ≤ c := by omega
  have b3 : (0 : Int) ≤ (size : Int) - 2 := by omega
  have b4 : (p.length : Int) ≤ (size : Int) - 2 := by omega
  go_enter Try.func57, Try.ntmps57
  go_wp2_with fail
  refine HR.out.mono ?_
  rintro e w1 ⟨rfl, rfl⟩
  go_wp2_with fail
  go_quiet ((first | (go_at_call 67; exact Calls.quiet_of_same' (HL.out _)) | (go_at_call 68; exact Calls.quiet_of_same' (HC.out _))))
  go_wp2_with fail
  have b5 : (size : Int) - 2 < (size : Int) := by omega
  have b6 : IntKind.i64.wrap ((size : Int) - 2) = (size : Int) - 2 := by rw [IntKind.wrap_i64]; omega
  have b7 : ((size : Int) - 2).toNat = size - 2 := by omega
  have b8 : (2 : Int) ≤ (size : Int) := by omega
  clear HL HC HR c1 hq hvb hvv hg1 hg2
  go_region_held3 (fun w' => w'.cell? ⟨b, o + (size - 2), none⟩ = some (.int .u64 (I64 tag)))
    (first | go_keep | (rw [hb1.cell (by have := (cell_lt c2).1; simpa using this)]; assumption))
    ((go_at_call 44; refine (clone_u64 (some ⟨b, o, none⟩) p.length c (words p) _ (by exact hrp) (words_length p) (words_one p) (by omega) (by simp)).mono ?_; rintro e w1 ⟨v1, rfl, own1, hb1⟩))
  all_goals
    obtain ⟨a1, c1, rfl, hr1, -⟩ := own_slice own1
    go_wp2_with fail
    go_ret3
    exact ⟨a1, c1, rfl, hr1, (below_d (Below.refl w.heap.size w) _).trans hb1⟩

end Go.Proofs.Ytmmkncocgjgapaa.Crc

/- The walk of seal.Get where the block is refused. -/
namespace Go.Proofs.Ytmmkncocgjgapaa.Crc
open Go.RowKit

set_option maxRecDepth 100000 in
theorem get_arg (size : Nat) (address : Int) (a : Option Addr) (c : Nat) (w : World) (h : ¬ (8 ≤ size ∧ size ≤ 256 ∧ 0 ≤ address)) (hs : size ≤ 9223372036854775807) :
    Calls Try.prog 57 #[.slice a size c, .int .i64 address] w fun e w' => e = .returned (.tuple #[.slice none 0 0, .int .u64 0, .int .i64 1]) ∧ w = w' := by
  have hR := right_any size address w
  rw [show decide (8 ≤ (size : Int) ∧ (size : Int) ≤ 256 ∧ 0 ≤ address) = false from by simp; omega] at hR
  have HR := Lib.hid hR
  clear hR h
  go_enter Try.func57, Try.ntmps57
  go_wp2_with fail
  refine HR.out.mono ?_
  rintro e w1 ⟨rfl, rfl⟩
  go_wp2_with fail
  go_ret3
  exact ⟨rfl, rfl⟩

def Refused (w : World) (e : Ending) (w' : World) : Prop := e = .returned (.tuple #[.slice none 0 0, .int .u64 0, .int .i64 6]) ∧ Quiet w w'

/-- The block is sealed at this address. -/
def IsSealed (l : List (BitVec 64)) (X : BitVec 64) : Prop := ∃ p tag, p.length + 2 ≤ l.length ∧ l = sealW p l.length tag X

theorem top_lt (z : BitVec 64) : 0 ≤ I64 z / 4294967296 ∧ I64 z / 4294967296 < 4294967296 := by
  have := I64_lt z
  omega

theorem parts (B : List (BitVec 64)) (n size : Nat) (hB : B.length + 1 = size) (hn : n + 2 ≤ size) : ∃ tag, B = B.take n ++ (B.drop n).take (size - 2 - n) ++ [tag] := by
  have h0 : size - 2 < B.length := by omega
  refine ⟨B[size - 2], ?_⟩
  have h1 : B = B.take (size - 2) ++ B.drop (size - 2) := (List.take_append_drop _ _).symm
  have h2 : B.drop (size - 2) = [B[size - 2]] := by
    rw [List.drop_eq_getElem_cons h0, List.drop_eq_nil_of_le (by omega)]
  have h3 : B.take (size - 2) = B.take n ++ (B.drop n).take (size - 2 - n) := by
    rw [← List.take_add, show n + (size - 2 - n) = size - 2 from by omega]
  rw [h2, h3] at h1
  exact h1

theorem zeroW_eq (l : List (BitVec 64)) (h : zeroW l = true) : l = List.replicate l.length 0#64 := by
  apply List.eq_replicate_iff.2
  refine ⟨rfl, fun b hb => ?_⟩
  unfold zeroW at h
  rw [List.all_eq_true] at h
  simpa using h b hb

theorem is_sealed (B : List (BitVec 64)) (z X : BitVec 64) (n size : Nat) (hB : B.length + 1 = size) (hn : n + 2 ≤ size) (hz : z = lastW B (BitVec.ofNat 64 n) X) (h0 : zeroW ((B.drop n).take (size - 2 - n)) = true) : IsSealed (B ++ [z]) X := by
  obtain ⟨tag, ht⟩ := parts B n size hB hn
  have hl : (B ++ [z]).length = size := by simp; omega
  have hp : (B.take n).length = n := by simp; omega
  have hm : ((B.drop n).take (size - 2 - n)).length = size - 2 - n := by simp; omega
  have hb : B = bodyW (B.take n) size tag := by
    unfold bodyW
    have := zeroW_eq _ h0
    rw [hm] at this
    rw [hp, ← this]
    exact ht
  refine ⟨B.take n, tag, by rw [hl, hp]; omega, ?_⟩
  rw [hl]
  unfold sealW
  rw [hp, ← hb, ← hz]

set_option maxRecDepth 100000 in
set_option maxHeartbeats 800000 in
theorem get_fault (B : List (BitVec 64)) (z : BitVec 64) (size x : Nat) (a : Option Addr) (c : Nat) (w : World) (hr : Row w a (words (B ++ [z]))) (hB : B.length + 1 = size) (h8 : 8 ≤ size) (h256 : size ≤ 256) (hx : x < 9223372036854775808) (hc : size ≤ c) (hc2 : c ≤ maxLen)
    (hno : ¬ IsSealed (B ++ [z]) (BitVec.ofNat 64 x)) :
    Calls Try.prog 57 #[.slice a size c, .int .i64 (x : Int)] w (Refused w) := by
  unfold maxLen at hc2
  obtain ⟨b, o, rfl, c1⟩ := words_at hr (k := size - 1) (by simp; omega)
  have g1 : (B ++ [z])[size - 1]'(by simp; omega) = z := by
    rw [List.getElem_append_right (by omega)]
    simp
  rw [g1] at c1
  have hR := right_any size x w
  rw [show decide (8 ≤ (size : Int) ∧ (size : Int) ≤ 256 ∧ 0 ≤ (x : Int)) = true from by simp; omega] at hR
  have HR := Lib.hid hR
  have hvb := I64_lt z
  have ht := top_lt z
  have HB := Lib.hid hB
  clear hR g1
  by_cases hA : I64 z / 4294967296 - 1 < 0
  · have hq : I64 z / 4294967296 = 0 := by omega
    clear hno hr hB hA ht
    generalize I64 z = V at *
    go_enter Try.func57, Try.ntmps57
    go_wp2_with fail
    refine HR.out.mono ?_
    rintro e w1 ⟨rfl, rfl⟩
    go_wp2_with fail
    go_quiet (fail)
    go_wp2_with fail
    go_ret3
    exact ⟨rfl, (Quiet.refl w).drewN _⟩
  obtain ⟨n, hn⟩ : ∃ n : Nat, I64 z / 4294967296 = (n : Int) + 1 := ⟨(I64 z / 4294967296 - 1).toNat, by omega⟩
  by_cases hA2 : size < n + 2
  · have hg1 : decide ((size : Int) - 2 < (n : Int)) = true := by simp; omega
    have hg2 : decide ((n : Int) < 0) = false := by simp
    have hnb : (n : Int) < 4294967296 := by omega
    clear hno hr hB hA ht
    generalize I64 z = V at *
    go_enter Try.func57, Try.ntmps57
    go_wp2_with fail
    refine HR.out.mono ?_
    rintro e w1 ⟨rfl, rfl⟩
    go_wp2_with fail
    go_quiet (fail)
    go_wp2_with fail
    go_ret3
    exact ⟨rfl, (Quiet.refl w).drewN _⟩
  have hg1 : decide ((size : Int) - 2 < (n : Int)) = false := by simp; omega
  have hg2 : decide ((n : Int) < 0) = false := by simp
  have hnb : (n : Int) < 4294967296 := by omega
  have HL := Lib.hid (fun d => last_at B z size n x (some ⟨b, o, none⟩) c (w.drewN d) hr hB hc (by omega) (by omega) hx)
  by_cases hzl : z = lastW B (BitVec.ofNat 64 n) (BitVec.ofNat 64 x)
  · have h0 : zeroW ((B.drop n).take (size - 2 - n)) = false := by
      cases h : zeroW ((B.drop n).take (size - 2 - n))
      · rfl
      · exact absurd (is_sealed B z _ n size hB (by omega) hzl h) hno
    have hrz : Row w (some ⟨b, o + n, none⟩) (words ((B.drop n).take (size - 2 - n))) := by
      have h1 := (hr.drop n).take (size - 2 - n)
      have h2 : ((words (B ++ [z])).drop n).take (size - 2 - n) = words ((B.drop n).take (size - 2 - n)) := by
        unfold words
        rw [← List.map_drop, ← List.map_take, List.drop_append_of_le_length (by omega), List.take_append_of_le_length (by simp; omega)]
      rw [h2] at h1
      exact h1
    have HC := Lib.hid (fun d => contains_any _ (some ⟨b, o + n, none⟩) (size - 2 - n) (c - n) (w.drewN d) hrz (by simp; omega) (by omega))
    rw [h0] at HC
    rw [← hzl] at HL
    have hvv : (I64 z != I64 z) = false := by simp
    have b1 : (n : Int) ≤ c := by omega
    have b2 : (size : Int) - 2 ≤ c := by omega
    have b3 : (0 : Int) ≤ (size : Int) - 2 := by omega
    have b4 : (n : Int) ≤ (size : Int) - 2 := by omega
    clear hno hr hB hA ht h0 hrz hzl
    generalize I64 z = V at *
    go_enter Try.func57, Try.ntmps57
    go_wp2_with fail
    refine HR.out.mono ?_
    rintro e w1 ⟨rfl, rfl⟩
    go_wp2_with fail
    go_quiet ((first | (go_at_call 67; exact Calls.quiet_of_same' (HL.out _)) | (go_at_call 68; exact Calls.quiet_of_same' (HC.out _))))
    go_wp2_with fail
    go_ret3
    exact ⟨rfl, (Quiet.refl w).drewN _⟩
  · have hvv : (I64 z != I64 (lastW B (BitVec.ofNat 64 n) (BitVec.ofNat 64 x))) = true := by rw [bne_iff_ne]; exact fun h => hzl (I64_inj h)
    clear hno hr hB hA ht hzl
    generalize I64 (lastW B (BitVec.ofNat 64 n) (BitVec.ofNat 64 x)) = U at *
    generalize I64 z = V at *
    go_enter Try.func57, Try.ntmps57
    go_wp2_with fail
    refine HR.out.mono ?_
    rintro e w1 ⟨rfl, rfl⟩
    go_wp2_with fail
    go_quiet ((go_at_call 67; exact Calls.quiet_of_same' (HL.out _)))
    go_wp2_with fail
    go_ret3
    exact ⟨rfl, (Quiet.refl w).drewN _⟩

end Go.Proofs.Ytmmkncocgjgapaa.Crc
