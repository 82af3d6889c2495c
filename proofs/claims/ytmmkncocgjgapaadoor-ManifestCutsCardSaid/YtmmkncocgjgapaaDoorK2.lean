/- Texts of mine, packed: DoSync, DoCrash, DoAny, CrcPlain, CrcWalks, CrcSum, CrcTell, Open, Words, Clone64, Seal. -/
import Derived.Test.YtmmkncocgjgapaaDoorK1
import Derived.Deep.RegionHeld3
import Derived.Below
import Derived.Test.YtmmkncocgjgapaaDoorRows
import Derived.WalkKit
import Derived.WalkSpells
import Derived.WalkLawsBesides
import Derived.ProofKit
import Derived.OpenShut
import Derived.ShutString
import Derived.ChangeOld
import Derived.Deep.QuietTactic
import Derived.BigQuiet
import Derived.StillTailTactics
import Derived.Lib.LazyBuf
set_option linter.unusedVariables false

/- The walk of Sync of a device. -/
namespace Go.Proofs.YtmmkncocgjgapaaDoor.Dev
open Go.RowKit

/-- Writes laid over blocks, in their order. -/
def over (f : Int → Option (List Value)) (l : List (Int × List Value)) : Int → Option (List Value) := l.foldl (fun f p => upd f p.1 p.2) f
theorem over_snoc (f : Int → Option (List Value)) (l : List (Int × List Value)) (p : Int × List Value) : over f (l ++ [p]) = upd (over f l) p.1 p.2 := by
  unfold over
  rw [List.foldl_append]
  rfl
def Dv.synced (D : Dv) (k : Nat) : Dv := { D with lasts := over D.lasts (D.pend.take k) }
def Dv.sync (D : Dv) : Dv := { D with lasts := over D.lasts D.pend, pend := [] }

theorem over_fit {D : Dv} (h : Fit D) : ∀ (l : List (Int × List Value)), (∀ p ∈ l, p ∈ D.pend) → ∀ f : Int → Option (List Value), (∀ k ws, f k = some ws → ws.length = D.size) → ∀ k ws, over f l k = some ws → ws.length = D.size := by
  intro l
  induction l with
  | nil => intro _ f hf k ws hk; exact hf k ws hk
  | cons p l ih =>
    intro hl f hf k ws hk
    refine ih (fun q hq => hl q (by simp [hq])) (upd f p.1 p.2) (fun j xs hj => ?_) k ws hk
    unfold upd at hj
    split at hj
    · cases hj; exact h.pend p (hl p (by simp))
    · exact hf j xs hj
theorem synced_nums {D : Dv} (h : Nums D) (k : Nat) : Nums (D.synced k) :=
  ⟨h.fuse, h.fault, h.acts, ⟨h.fit.size, h.fit.blocks, h.fit.now, over_fit h.fit _ (fun p hp => List.mem_of_mem_take hp) _ h.fit.lasts, h.fit.pend, h.fit.len⟩⟩
theorem sync_nums {D : Dv} (h : Nums D) : Nums D.sync :=
  ⟨h.fuse, h.fault, h.acts, ⟨h.fit.size, h.fit.blocks, h.fit.now, over_fit h.fit _ (fun p hp => hp) _ h.fit.lasts, (fun p hp => by simp [Dv.sync] at hp), Nat.zero_le _⟩⟩

section
variable {w : World} {a rl rn : Nat} {O : Nat → Prop} {pv : Value} {D : Dv}

set_option maxRecDepth 100000 in
theorem sync_down (h : Box w a D rl rn pv) (hd : D.down = true) :
    Calls Tryd.prog 32 #[.pointer (some ⟨a, 0, none⟩)] w fun e w' => e = .returned (.int .i64 8) ∧ w = w' := by
  have HD := down_any h
  rw [hd] at HD
  have HD2 := Lib.hid HD
  clear HD hd
  go_enter Tryd.func32, Tryd.ntmps32
  go_wp2_with fail
  refine HD2.out.mono ?_
  rintro e w1 ⟨rfl, rfl⟩
  go_wp2_with fail
  go_ret
  exact ⟨rfl, rfl⟩

set_option maxRecDepth 100000 in
theorem sync_failed (h : Box w a D rl rn pv) (hn : Nums D) (hd : D.down = false) (hf : D.act.1 ≠ 0) :
    Calls Tryd.prog 32 #[.pointer (some ⟨a, 0, none⟩)] w (Acted w a D rl rn pv) := by
  have HD := down_any h
  rw [hd] at HD
  have HD2 := Lib.hid HD
  have HA := Lib.hid (act_any h hn)
  have hne : (D.act.1 != 0) = true := by simpa using hf
  clear HD hd hf
  go_enter Tryd.func32, Tryd.ntmps32
  go_wp2_with fail
  refine HD2.out.mono ?_
  rintro e w1 ⟨rfl, rfl⟩
  go_wp2_with fail
  refine HA.out.mono ?_
  rintro e w1 ⟨rfl, h4, h5⟩
  go_wp2_with fail
  go_ret
  exact ⟨rfl, h4, h5⟩

theorem pend_form {w : World} {O : Nat → Prop} {pv : Value} {l : List (Int × List Value)} (h : Pend w O pv l) : ∃ p c, pv = .slice p l.length c := by
  obtain ⟨pr, h1, _⟩ := h
  rcases h1.2 with ⟨rfl, h0⟩ | ⟨g, cap, cur, rfl, _⟩
  · exact ⟨none, 0, by rw [h0]⟩
  · exact ⟨_, cap, rfl⟩

/-- The write number k, as it lies in the list. -/
theorem pend_at {w : World} {O : Nat → Prop} {p : Option Addr} {c : Nat} {l : List (Int × List Value)} (h : Pend w O (.slice p l.length c) l) (k : Nat) (hk : k < l.length) :
    ∃ g v, p = some ⟨g, 0, none⟩ ∧ w.cell? ⟨g, k * 2, none⟩ = some (.int .i64 l[k].1) ∧ w.cell? ⟨g, k * 2 + 1, none⟩ = some v ∧ HeldV w O v l[k].2 := by
  obtain ⟨pr, h1, h2, h3⟩ := h
  obtain ⟨g, cap, e, _⟩ := World.ownsRow.form h1 (by omega)
  cases e
  obtain ⟨q1, q2⟩ := pcells_get pr k (by omega)
  obtain ⟨h4, h5⟩ := h3 k (by omega) hk
  refine ⟨g, pr[k].2, rfl, ?_, ?_, h5⟩
  · rw [h1.cellAt (k * 2) (by omega), q1, h4]
  · rw [h1.cellAt (k * 2 + 1) (by omega), q2]

def SyncLoop (w1 : World) (O : Nat → Prop) (a rl rn : Nat) (pv : Value) (D : Dv) (iv : Value) (wr : World) : Prop :=
  ∃ k : Nat, iv = .int .i64 (k : Int) ∧ k ≤ D.pend.length ∧ At wr O a rl rn pv (D.synced k) ∧ Chg (fun q => q = rl) w1 wr

theorem chg_drew {S : Nat → Prop} {w w' : World} (h : Chg S w.drew w') : Chg S w w' := ⟨h.os, h.tape, h.output, h.size, h.block⟩

theorem sync_close {W w3 : World} {k : Nat} {q : Int × List Value} {v : Value} {kv : List (Int × Value)} (A : At W O a rl rn pv (D.synced k)) (hk : ∀ j, OptHeld W O (look kv j) ((D.synced k).lasts j)) (hv : HeldV W O v q.2)
    (hm : IsMap (Value.int .i64) W rl kv) (hm3 : IsMap (Value.int .i64) w3 rl (put_ kv q.1 v)) (hc : Chg (fun k => k = rl) W w3) (hs : over D.lasts (D.pend.take (k + 1)) = upd (over D.lasts (D.pend.take k)) q.1 q.2) (hn : Nums D) : At w3 O a rl rn pv (D.synced (k + 1)) := by
  have hS : ∀ g cs, O g → Blk W g 35 cs → ¬ g = rl := fun g cs _ hg e => A.lasts.ne_blk hg e
  have hr : ∃ es c, W.heap[rl]? = some (.map es c) := by obtain ⟨es, c, h, _⟩ := hm; exact ⟨es, c, h⟩
  refine ⟨A.box.chg hc (A.lasts.ne_blk A.box), A.ne, ?_, A.now.chg hc (Ne.symm A.ne) hS, A.pend.chg hc (fun g hg => (A.pend_ne hg).2.1) hS, ?_, A.pout⟩
  · show DMap w3 O rl (over D.lasts (D.pend.take (k + 1)))
    rw [hs]
    exact DMap.put hk q.1 v q.2 hv hm3 hc hr
  · exact synced_nums hn _

theorem sync_end {w1 w' : World} (A : At w' O a rl rn pv (D.synced D.pend.length)) (hn : Nums D) (hc : Chg (fun k => k = rl) w1 w') :
    At (w'.setCell ⟨a, 4, none⟩ (.slice none 0 0)) O a rl rn (.slice none 0 0) D.sync ∧ Chg (Foot a rl rn pv) w1 (w'.setCell ⟨a, 4, none⟩ (.slice none 0 0)) := by
  have hc6 : Chg (fun k => k = a) w' (w'.setCell ⟨a, 4, none⟩ (.slice none 0 0)) := (Chg.refl _ w').setCell _ _ (fun _ => rfl)
  have hS : ∀ g cs, O g → Blk w' g 35 cs → ¬ g = a := fun g cs _ hg e => hg.ne_ A.box (by decide) e
  refine ⟨⟨A.box.set_ 4 (.slice none 0 0), A.ne, ?_, A.now.chg hc6 (Ne.symm (A.now.ne_blk A.box)) hS, Pend.nil _ _, sync_nums hn, fun g hg => by simp [Value.ownBlock] at hg⟩, (hc.mono (fun _ _ h => .inr (.inl h))).trans hc6 (fun _ _ h => .inl h)⟩
  have h2 : D.sync.lasts = (D.synced D.pend.length).lasts := by unfold Dv.sync Dv.synced; rw [List.take_length]
  rw [h2]
  exact A.lasts.chg hc6 (Ne.symm (A.lasts.ne_blk A.box)) hS

def Synced (w : World) (O : Nat → Prop) (a rl rn : Nat) (pv : Value) (D : Dv) (e : Ending) (w' : World) : Prop :=
  e = .returned (.int .i64 0) ∧ At w' O a rl rn (.slice none 0 0) D ∧ Chg (Foot a rl rn pv) w w'

set_option maxRecDepth 100000 in
set_option maxHeartbeats 400000 in
theorem sync_done (h : At w O a rl rn pv D) (hd : D.down = false) (hf : D.act.1 = 0) (hac : D.acts + 1 < 1099511627776) :
    Calls Tryd.prog 32 #[.pointer (some ⟨a, 0, none⟩)] w (Synced w O a rl rn pv D.act.2.sync) := by
  have HD := down_any h.box
  rw [hd] at HD
  have HD2 := Lib.hid HD
  have HA := Lib.hid (act_any h.box h.nums)
  have hne : (D.act.1 != 0) = false := by simpa using hf
  have H := Lib.hid h
  clear HD hd hf h
  go_enter Tryd.func32, Tryd.ntmps32
  go_wp2_with fail
  refine HD2.out.mono ?_
  rintro e w1 ⟨rfl, rfl⟩
  go_wp2_with fail
  refine HA.out.mono ?_
  rintro e w1 ⟨rfl, hbx, hc1⟩
  have A1 := H.out.acted hc1 hbx (by omega)
  obtain ⟨p, c, rfl⟩ := pend_form A1.pend
  have k4 : w1.cell? ⟨a, 4, none⟩ = some (.slice p D.act.2.pend.length c) := A1.box.cell 4
  have hlen : D.act.2.pend.length ≤ D.acts + 1 := by have := A1.nums.fit.len; have := D.act_same.2.2.2.2.2; omega
  have HC1 := Lib.hid hc1
  clear hc1 hbx HA HD2
  generalize D.act.2 = E at *
  go_wp2_with fail
  go_loopw [18] (fun iv wr => SyncLoop w1 O a rl rn (.slice p E.pend.length c) E iv wr) (fun iv _ => E.pend.length - (intOf iv).toNat)
  case atStart => exact ⟨0, rfl, by omega, A1, Chg.refl _ _⟩
  case round =>
    obtain ⟨k, rfl, hk, Ak, hck⟩ := hrel
    clear k4
    by_cases hlt : (k : Int) < E.pend.length
    · have hkl : k < E.pend.length := by omega
      obtain ⟨g, v, rfl, d1, d2, hv⟩ := pend_at Ak.pend k hkl
      have hsn := over_snoc E.lasts (E.pend.take k) E.pend[k]
      rw [← List.take_succ_eq_append_getElem hkl] at hsn
      have hvl : ∃ va vc, v = .slice va E.pend[k].2.length vc := by
        rcases hv.1.2 with ⟨rfl, h0⟩ | ⟨g', cap, cur, rfl, _⟩
        · exact ⟨none, 0, by rw [h0]⟩
        · exact ⟨_, cap, rfl⟩
      have k2 : wr.cell? ⟨a, 2, none⟩ = some (.map (some rl)) := Ak.box.cell 2
      have hA := Lib.hid Ak
      have HSN := Lib.hid hsn
      have HV := Lib.hid hv
      have HCK := Lib.hid hck
      obtain ⟨va, vc, rfl⟩ := hvl
      obtain ⟨kv, hm, hkv⟩ := Ak.lasts
      have HKV := Lib.hid hkv
      have hAl := Ak.box.lt
      clear hsn hv hkv Ak hck
      go_wp2_with fail
      have hcW : Chg (fun q => q = rl) w1 (wr.alloc (.cells #[.int .i64 E.pend[k].1, .slice va E.pend[k].2.length vc] 77)) := HCK.out.alloc _
      have bW : Below wr.heap.size wr (wr.alloc (.cells #[.int .i64 E.pend[k].1, .slice va E.pend[k].2.length vc] 77)) := (Below.refl _ _).alloc (Nat.le_refl _) _
      have BW := Blk.new wr 77 #[.int .i64 E.pend[k].1, .slice va E.pend[k].2.length vc]
      have m0 := BW.cell 0
      have m1 := BW.cell 1
      have AW := hA.out.below bW
      have m2 := AW.box.cell 2
      have hmW := hm.alloc (.cells #[.int .i64 E.pend[k].1, .slice va E.pend[k].2.length vc] 77)
      have hkW : ∀ j, OptHeld (wr.alloc (.cells #[.int .i64 E.pend[k].1, .slice va E.pend[k].2.length vc] 77)) O (look kv j) ((E.synced k).lasts j) := fun j => (HKV.out j).chg (Chg.of_below' (S := fun _ => False) bW) (fun _ _ _ _ h => h)
      have hvW := HV.out.chg (Chg.of_below' (S := fun _ => False) bW) (fun _ _ _ _ h => h)
      simp only [dcells] at m2
      generalize wr.alloc (.cells #[.int .i64 E.pend[k].1, .slice va E.pend[k].2.length vc] 77) = W at *
      have HAW := Lib.hid AW
      have HKW := Lib.hid hkW
      have HVW := Lib.hid hvW
      have HCW := Lib.hid hcW
      clear AW hkW hvW hcW bW BW hm HKV HV k2 d1 d2 hA HCK
      go_still_tail 8, (by kernel_rfl)
      change wpList _ _ _ _ _ W.drew
      have hm2 := hmW.drew
      go_wp2_with (at_mapUpdate; go_must (refine wpList_put rfl _ _ _ _ rfl (mk := Value.int .i64) Tryd.underlying60 (plain_int Tryd.underlying3) rl kv rfl hm2 E.pend[k].1 rfl _ rfl (finds_int Tryd.underlying3 _ _) ?_))
      intro w3 hm3 hc3
      have hc4 := chg_drew hc3
      have A3 := sync_close HAW.out HKW.out HVW.out hmW hm3 hc4 HSN.out A1.nums
      have hc5 := HCW.out.trans hc4 (fun _ _ h => h)
      have HA3 := Lib.hid A3
      have HC5 := Lib.hid hc5
      clear A1 A3 hc5 hc4 hc3 hm3 hm2 hmW m0 m1 m2
      go_wp2_with fail
      go_roundw
      case rel => exact ⟨k + 1, by go_num, by omega, HA3.out, HC5.out⟩
      case measure => simp [intOf]; omega
    · obtain rfl : k = E.pend.length := by omega
      have z4 := Ak.box.frozen 4
      have k5 : wr.cell? ⟨a, 4, none⟩ = some (.slice p E.pend.length c) := Ak.box.cell 4
      have HAK := Lib.hid Ak
      have HN := Lib.hid A1.nums
      clear Ak A1
      go_wp2_with fail
      go_ret
      obtain ⟨q1, q2⟩ := sync_end HAK.out HN.out hck
      exact ⟨rfl, q1, (HC1.out.mono (fun _ _ h => .inl h)).trans q2 (fun _ _ h => h)⟩
end

end Go.Proofs.YtmmkncocgjgapaaDoor.Dev

/- The walk of maps.Clone, and of Crash of a device. -/
namespace Go.Proofs.YtmmkncocgjgapaaDoor.Dev
open Go.RowKit

def Cloned (w : World) (kv : List (Int × Value)) (e : Ending) (w' : World) : Prop :=
  e = .returned (.map (some w.heap.size)) ∧ IsMap (Value.int .i64) w' w.heap.size kv ∧ Below w.heap.size w w' ∧ w'.heap.size = w.heap.size + 1

set_option maxRecDepth 100000 in
set_option maxHeartbeats 400000 in
theorem clone_map (r : Nat) (kv : List (Int × Value)) (w : World) (hm : IsMap (Value.int .i64) w r kv) :
    Calls Tryd.prog 37 #[.map (some r)] w (Cloned w kv) := by
  obtain ⟨es, clock, hb, he⟩ := hm
  have hq := fun w => run_eql_map_nil_sl (P := Tryd.prog) w 60 _ _ (some r) Tryd.underlying60
  have HE := Lib.hid he
  clear he
  go_enter Tryd.func37, Tryd.ntmps37
  go_wp2_with fail
  rw [run_callFunc_extern Tryd.func49 (by kernel_rfl) (by kernel_rfl) (by kernel_rfl) (e := Extern.MapsClone.clone) (by kernel_rfl), run_maps_clone_sl w 60 hb]
  simp only [Result.andThen]
  rw [Oper.upon_value]
  go_wp2_with fail
  rw [run_typeAssert_map_sl _ 60 20 _ _ _ Tryd.underlying60]
  simp only [Result.andThen]
  rw [Oper.upon_value]
  go_wp2_with fail
  go_ret
  exact ⟨rfl, ⟨es, clock, heap_alloc_new w _, HE.out⟩, (Below.refl _ _).alloc (Nat.le_refl _) _, by simp⟩

def kept (D : Dv) (keep : List Bool) : Nat → (Int → Option (List Value))
  | 0 => D.lasts
  | k + 1 => match D.pend[k]? with
    | some p => if keep.getD k false = true then upd (kept D keep k) p.1 p.2 else kept D keep k
    | none => kept D keep k
def Dv.crash (D : Dv) (keep : List Bool) : Dv :=
  { size := D.size, blocks := D.blocks, lasts := kept D keep D.pend.length, now := kept D keep D.pend.length, pend := [], fuse := -1, fault := -1, down := false, acts := D.acts }

theorem crash_nil (b : Option Addr) (n c : Nat) (w : World) :
    Calls Tryd.prog 22 #[.pointer none, .slice b n c] w fun e w' => e = .returned (.pointer none) ∧ w = w' := by
  go_enter Tryd.func22, Tryd.ntmps22
  go_wp2_with fail
  go_ret
  exact ⟨rfl, rfl⟩

def cellV (w : World) (p : Addr) : Value := (w.cell? p).getD undef
theorem cellV_of {w : World} {p : Addr} {v : Value} (h : w.cell? p = some v) : w.cell? p = some (cellV w p) := by
  unfold cellV
  rw [h]
  rfl
theorem cellV_set {w : World} {p q : Addr} {v : Value} (h : w.cell? p = some v) (y : Value) : (w.setCell q y).cell? p = some (cellV (w.setCell q y) p) := by
  by_cases e : q = p
  · subst e; exact cellV_of (World.cell?_setCell_same w q y h)
  · exact cellV_of ((World.cell?_setCell_other w q p y e).trans h)

theorem below_undrew {B : Nat} {w w' : World} (h : Below B w.drew w') : Below B w w' := ⟨h.os, h.tape, h.output, h.size, h.block⟩

section
variable {w : World} {a rl rn : Nat} {O : Nat → Prop} {pv : Value} {D : Dv}

def Crashed (w : World) (O : Nat → Prop) (a rl rn : Nat) (pv : Value) (D : Dv) (keep : List Bool) (e : Ending) (w' : World) : Prop :=
  ∃ x rl' rn', e = .returned (.pointer (some ⟨x, 0, none⟩)) ∧ At w' O x rl' rn' (.slice none 0 0) (D.crash keep) ∧ Box w' a D.blow rl rn pv ∧ Chg (fun k => k = a) w w' ∧ w.heap.size ≤ x ∧ w.heap.size ≤ rl' ∧ w.heap.size ≤ rn'

/-- The new device on the way. -/
def Dv.wake (D : Dv) (f : Int → Option (List Value)) : Dv := { fresh D.size D.blocks with lasts := f, acts := D.acts }

theorem wake_nums {D : Dv} (h : Nums D) {f : Int → Option (List Value)} (hf : ∀ k ws, f k = some ws → ws.length = D.size) : Nums (D.wake f) :=
  ⟨by unfold NumOk Dv.wake fresh; simp, by unfold NumOk Dv.wake fresh; simp, h.acts, ⟨h.fit.size, h.fit.blocks, (fun _ _ h => by cases h), hf, (fun _ h => by cases h), Nat.zero_le _⟩⟩

theorem kept_fit {D : Dv} (h : Fit D) (keep : List Bool) : ∀ n k ws, kept D keep n k = some ws → ws.length = D.size := by
  intro n
  induction n with
  | zero => exact h.lasts
  | succ n ih =>
    intro k ws hk
    cases hp : D.pend[n]? with
    | none =>
      simp only [kept, hp] at hk
      exact ih k ws hk
    | some p =>
      simp only [kept, hp] at hk
      by_cases hq : keep.getD n false = true
      · rw [if_pos hq] at hk
        unfold upd at hk
        by_cases hj : k = p.1
        · rw [if_pos hj] at hk
          cases hk
          exact h.pend p (List.mem_of_getElem? hp)
        · rw [if_neg hj] at hk
          exact ih k ws hk
      · rw [if_neg hq] at hk
        exact ih k ws hk

theorem crash_mid {w2 w3 : World} {x r1 : Nat} {kv : List (Int × Value)} (A2 : At w2 O a rl rn pv D.blow) (X2 : At w2 O x r1 (r1 + 1) (.slice none 0 0) (fresh D.size D.blocks)) (hkv : ∀ k, OptHeld w2 O (look kv k) (D.lasts k))
    (hm3 : IsMap (Value.int .i64) w3 w2.heap.size kv) (hb3 : Below w2.heap.size w2 w3) (hn : Nums D) (hxa : x ≠ a) (hpx : ∀ g, pv.ownBlock = some g → g ≠ x) :
    At ((w3.setCell ⟨x, 2, none⟩ (.map (some w2.heap.size))).setCell ⟨x, 8, none⟩ (.int .i64 (D.acts : Int))) O x w2.heap.size (r1 + 1) (.slice none 0 0) (D.wake D.lasts) ∧
    At ((w3.setCell ⟨x, 2, none⟩ (.map (some w2.heap.size))).setCell ⟨x, 8, none⟩ (.int .i64 (D.acts : Int))) O a rl rn pv D.blow ∧
    Chg (fun k => k = x) w2 ((w3.setCell ⟨x, 2, none⟩ (.map (some w2.heap.size))).setCell ⟨x, 8, none⟩ (.int .i64 (D.acts : Int))) := by
  have A3 := A2.below hb3
  have X3 := X2.below hb3
  have hc : Chg (fun k => k = x) w3 ((w3.setCell ⟨x, 2, none⟩ (.map (some w2.heap.size))).setCell ⟨x, 8, none⟩ (.int .i64 (D.acts : Int))) := ((Chg.refl (fun k => k = x) w3).setCell ⟨x, 2, none⟩ (.map (some w2.heap.size)) (fun _ => rfl)).setCell ⟨x, 8, none⟩ (.int .i64 (D.acts : Int)) (fun _ => rfl)
  have hS : ∀ g cs, O g → Blk w3 g 35 cs → ¬ g = x := fun g cs _ hg e => hg.ne_ X3.box (by decide) e
  have B4 := (X3.box.set_ 2 (.map (some w2.heap.size))).set_ 8 (.int .i64 (D.acts : Int))
  have hlt := X2.now.lt
  have hxl := X2.box.lt
  have M3 : DMap w3 O w2.heap.size D.lasts := ⟨kv, hm3, fun k => (hkv k).chg (Chg.of_below' (S := fun _ => False) hb3) (fun _ _ _ _ h => h)⟩
  refine ⟨⟨B4, by omega, M3.chg hc (by omega) hS, X3.now.chg hc (Ne.symm (X3.now.ne_blk X3.box)) hS, Pend.nil _ _, wake_nums hn hn.fit.lasts, fun g hg => by simp [Value.ownBlock] at hg⟩, A3.chg hc (Ne.symm hxa) (Ne.symm (A3.lasts.ne_blk X3.box)) (Ne.symm (A3.now.ne_blk X3.box)) hpx hS, (Chg.of_below' hb3).trans hc (fun _ _ h => h)⟩

theorem row_chg {S : Nat → Prop} {w w' : World} {a : Option Addr} {xs : List Value} (h : Row w a xs) (hc : Chg S w w') (hS : ∀ k, k < w.heap.size → ¬ S k) : Row w' a xs := by
  intro i hi
  obtain ⟨b, off, rfl, h1, h2⟩ := h.at_ hi
  refine ⟨_, rfl, ?_⟩
  rw [add_none, List.getElem?_eq_getElem hi]
  exact hc.cell h1 (hS b h2)

def CrashLoop (w4 : World) (O : Nat → Prop) (a rl rn : Nat) (pv : Value) (D : Dv) (keep : List Bool) (x r3 rn' : Nat) (iv : Value) (wr : World) : Prop :=
  ∃ k : Nat, iv = .int .i64 (k : Int) ∧ k ≤ D.pend.length ∧ At wr O x r3 rn' (.slice none 0 0) (D.wake (kept D keep k)) ∧ At wr O a rl rn pv D.blow ∧ Chg (fun q => q = r3) w4 wr

theorem kept_yes {keep : List Bool} {k : Nat} (h : k < D.pend.length) (hq : keep.getD k false = true) : kept D keep (k + 1) = upd (kept D keep k) D.pend[k].1 D.pend[k].2 := by
  simp only [kept, List.getElem?_eq_getElem h]
  rw [if_pos hq]
theorem kept_no {keep : List Bool} {k : Nat} (h : k < D.pend.length) (hq : keep.getD k false = false) : kept D keep (k + 1) = kept D keep k := by
  simp only [kept, List.getElem?_eq_getElem h]
  rw [if_neg (by rw [hq]; decide)]

theorem wake_put {W w3 : World} {x r3 rn' : Nat} {f : Int → Option (List Value)} {q : Int × List Value} {v : Value} {kv : List (Int × Value)} (X : At W O x r3 rn' (.slice none 0 0) (D.wake f)) (A : At W O a rl rn pv D.blow) (hk : ∀ j, OptHeld W O (look kv j) (f j)) (hv : HeldV W O v q.2)
    (hm : IsMap (Value.int .i64) W r3 kv) (hm3 : IsMap (Value.int .i64) w3 r3 (put_ kv q.1 v)) (hc : Chg (fun k => k = r3) W w3) (hn : Nums (D.wake (upd f q.1 q.2))) (hl : rl ≠ r3) (hr : rn ≠ r3) :
    At w3 O x r3 rn' (.slice none 0 0) (D.wake (upd f q.1 q.2)) ∧ At w3 O a rl rn pv D.blow := by
  have hS : ∀ g cs, O g → Blk W g 35 cs → ¬ g = r3 := fun g cs _ hg e => X.lasts.ne_blk hg e
  have hex : ∃ es c, W.heap[r3]? = some (.map es c) := by obtain ⟨es, c, h, _⟩ := hm; exact ⟨es, c, h⟩
  refine ⟨⟨X.box.chg hc (X.lasts.ne_blk X.box), X.ne, DMap.put hk q.1 v q.2 hv hm3 hc hex, X.now.chg hc (Ne.symm X.ne) hS, Pend.nil _ _, hn, fun g hg => by simp [Value.ownBlock] at hg⟩, A.chg hc (X.lasts.ne_blk A.box) hl hr (fun g hg e => ?_) hS⟩
  obtain ⟨pr, h1, _⟩ := A.pend
  exact hm.ne_own h1 (e ▸ hg)

theorem crash_end {wr w6 : World} {x r3 rn' : Nat} {keep : List Bool} {kv : List (Int × Value)} (X : At wr O x r3 rn' (.slice none 0 0) (D.wake (kept D keep D.pend.length))) (hk : ∀ j, OptHeld wr O (look kv j) (kept D keep D.pend.length j))
    (hm : IsMap (Value.int .i64) w6 wr.heap.size kv) (hb : Below wr.heap.size wr w6) (hn : Nums D) (A : At wr O a rl rn pv D.blow) (hxa : x ≠ a) :
    At (w6.setCell ⟨x, 3, none⟩ (.map (some wr.heap.size))) O x r3 wr.heap.size (.slice none 0 0) (D.crash keep) ∧ Box (w6.setCell ⟨x, 3, none⟩ (.map (some wr.heap.size))) a D.blow rl rn pv ∧ Chg (fun k => k = x) wr (w6.setCell ⟨x, 3, none⟩ (.map (some wr.heap.size))) := by
  have X6 := X.below hb
  have hc : Chg (fun k => k = x) w6 (w6.setCell ⟨x, 3, none⟩ (.map (some wr.heap.size))) := (Chg.refl (fun k => k = x) w6).setCell ⟨x, 3, none⟩ (.map (some wr.heap.size)) (fun _ => rfl)
  have hS : ∀ g cs, O g → Blk w6 g 35 cs → ¬ g = x := fun g cs _ hg e => hg.ne_ X6.box (by decide) e
  have hl := X.lasts.lt
  have hxl := X.box.lt
  have M : DMap w6 O wr.heap.size (kept D keep D.pend.length) := ⟨kv, hm, fun k => (hk k).chg (Chg.of_below' (S := fun _ => False) hb) (fun _ _ _ _ h => h)⟩
  have hf := kept_fit hn.fit keep D.pend.length
  refine ⟨⟨X6.box.set_ 3 (.map (some wr.heap.size)), by omega, X6.lasts.chg hc (Ne.symm (X6.lasts.ne_blk X6.box)) hS, M.chg hc (by omega) hS, Pend.nil _ _, ⟨by unfold NumOk Dv.crash; simp, by unfold NumOk Dv.crash; simp, hn.acts, ⟨hn.fit.size, hn.fit.blocks, hf, hf, (fun _ h => by cases h), Nat.zero_le _⟩⟩, fun g hg => by simp [Value.ownBlock] at hg⟩, ?_, (Chg.of_below' hb).trans hc (fun _ _ h => h)⟩
  exact (A.below hb).box.chg hc (Ne.symm hxa)

set_option maxRecDepth 100000 in
set_option maxHeartbeats 1000000 in
theorem crash_any (h : At w O a rl rn pv D) (keep : List Bool) (b : Option Addr) (n c : Nat) (hr : Row w b (keep.map Value.bool)) (hn : keep.length = n) (hnn : n < 1099511627776) (hba : ∀ x, b = some x → 0 < keep.length → x.block ≠ a) (hpl : D.pend.length < 1099511627776) :
    Calls Tryd.prog 22 #[.pointer (some ⟨a, 0, none⟩), .slice b n c] w (Crashed w O a rl rn pv D keep) := by
  obtain ⟨z1, z2⟩ := h.nums.fit.size
  have z3 := h.nums.fit.blocks
  have HNEW := Lib.hid (fun w => new_ok D.size D.blocks w z1 z2 z3)
  have k7 : w.cell? ⟨a, 7, none⟩ = some (.bool D.down) := h.box.cell 7
  have f7 := h.box.frozen 7
  have B1 := h.box.set_ 7 (.bool true)
  have B2 : Box (w.setCell ⟨a, 7, none⟩ (.bool true)) a D.blow rl rn pv := B1
  have hc1 : Chg (fun k => k = a) w (w.setCell ⟨a, 7, none⟩ (.bool true)) := (Chg.refl _ w).setCell _ _ (fun _ => rfl)
  have hS1 : ∀ g cs, O g → Blk w g 35 cs → ¬ g = a := fun g cs _ hg e => hg.ne_ h.box (by decide) e
  have A1 : At (w.setCell ⟨a, 7, none⟩ (.bool true)) O a rl rn pv D.blow := h.of_box hc1 B2 rfl rfl rfl ⟨h.nums.fuse, h.nums.fault, h.nums.acts, ⟨h.nums.fit.1, h.nums.fit.2, h.nums.fit.3, h.nums.fit.4, h.nums.fit.5, h.nums.fit.6⟩⟩
  have hr1 : Row (w.setCell ⟨a, 7, none⟩ (.bool true)) b (keep.map Value.bool) := by
    rcases Nat.eq_zero_or_pos keep.length with h0 | h0
    · rw [List.eq_nil_of_length_eq_zero h0]
      exact Row.nil _ _
    · exact hr.chg hc1 (fun x hx => hba x hx h0)
  have HC1 := Lib.hid hc1
  have HN := Lib.hid hn
  have HDN := Lib.hid h.nums
  clear B1 B2 hc1 hS1 hn h hr
  go_enter Tryd.func22, Tryd.ntmps22
  go_wp2_with fail
  generalize w.setCell ⟨a, 7, none⟩ (.bool true) = w1 at *
  have c0 : w1.cell? ⟨a, 0, none⟩ = some (.int .i64 (D.size : Int)) := A1.box.cell 0
  have c1 : w1.cell? ⟨a, 1, none⟩ = some (.int .i64 (D.blocks : Int)) := A1.box.cell 1
  have HA1 := Lib.hid A1
  have HR1 := Lib.hid hr1
  clear k7 f7 A1 hr1
  go_region_held3 (fun w' => w'.cell? ⟨a, 0, none⟩ = some (.int .i64 (D.size : Int)) ∧ w'.cell? ⟨a, 1, none⟩ = some (.int .i64 (D.blocks : Int)))
    (first | go_keep | (have hal := HA1.out.box.lt; refine ⟨?_, ?_⟩ <;> (rw [hb2.cell (by simpa using hal)]; assumption)))
    ((go_at_call 14; refine (HNEW.out _).mono ?_; rintro e w2 ⟨rfl, hA2, hb2, hs2⟩))
  have hb2' : Below w1.heap.size w1 w2 := below_undrew hb2
  have hx2 := hA2 O
  rw [show w1.drew.heap.size = w1.heap.size from rfl] at hx2 hs2
  have A2 := HA1.out.below hb2'
  have hz1 := HC1.out.size
  have hax : a < w1.heap.size := HA1.out.box.lt
  obtain ⟨x, hx⟩ : ∃ x, x = w1.heap.size + 2 := ⟨_, rfl⟩
  obtain ⟨r1, hr1⟩ : ∃ r1, r1 = w1.heap.size := ⟨_, rfl⟩
  rw [← hx, ← hr1] at hx2
  rw [← hx]
  have hxl : w.heap.size ≤ x ∧ x ≠ a ∧ w.heap.size ≤ r1 := by omega
  have hx1 : w1.heap.size ≤ x ∧ w.heap.size ≤ w1.heap.size := by omega
  have hbl := A2.box.lt
  have HB2 := Lib.hid hb2'
  have HX2 := Lib.hid hx2
  have HA2 := Lib.hid A2
  obtain ⟨kv, hm, hkv⟩ := A2.lasts
  have HKV := Lib.hid hkv
  have k2 : w2.cell? ⟨a, 2, none⟩ = some (.map (some rl)) := A2.box.cell 2
  have k8 : w2.cell? ⟨a, 8, none⟩ = some (.int .i64 (D.acts : Int)) := A2.box.cell 8
  have x2 : w2.cell? ⟨x, 2, none⟩ = some (.map (some r1)) := hx2.box.cell 2
  have x8 : w2.cell? ⟨x, 8, none⟩ = some (.int .i64 0) := hx2.box.cell 8
  have y2 := hx2.box.frozen 2
  have y8 := hx2.box.frozen 8
  have hxs := hx2.box.lt
  clear hA2 hb2 hs2 hb2' hx2 A2 hkv c0 c1 hx hr1 HNEW hz1 hax
  go_wp2_with fail
  have na : ∀ i j : Nat, (⟨x, i, none⟩ : Addr) ≠ ⟨a, j, none⟩ := fun i j e => hxl.2.1 (by injection e)
  have q2 : w2.drew.cell? ⟨x, 2, none⟩ = some (cellV w2.drew ⟨x, 2, none⟩) := cellV_of (v := .map (some r1)) x2
  have q8 : w2.drew.cell? ⟨x, 8, none⟩ = some (cellV w2.drew ⟨x, 8, none⟩) := cellV_of (v := .int .i64 0) x8
  go_region_held3 (fun w' => w'.cell? ⟨a, 2, none⟩ = some (.map (some rl)) ∧ w'.cell? ⟨a, 8, none⟩ = some (.int .i64 (D.acts : Int)) ∧ w'.cell? ⟨x, 2, none⟩ = some (cellV w' ⟨x, 2, none⟩) ∧ w'.cell? ⟨x, 8, none⟩ = some (cellV w' ⟨x, 8, none⟩) ∧ w'.frozen? ⟨x, 2, none⟩ = false ∧ w'.frozen? ⟨x, 8, none⟩ = false)
    (((try go_split_ands); (try dsimp only); (repeat' apply And.intro) <;> first | assumption | exact q2 | exact q8 | exact (World.cell?_setCell_other _ _ _ _ (na _ _)).trans (by assumption) | (rw [World.frozen?_setCell]; assumption) | exact cellV_set (by assumption) _ | (rw [hb3.cell (by simpa using hbl)]; assumption) | exact cellV_of (by rw [hb3.cell (by simpa using hxs)]; assumption) | (rw [hb3.frozen (by simpa using hxs)]; assumption) | go_keep))
    ((go_at_call 37; refine (clone_map rl kv _ (by exact hm)).mono ?_; rintro e w3 ⟨rfl, hm3, hb3, hs3⟩))
  have hpx : ∀ g, pv.ownBlock = some g → g ≠ x := by
    rintro g hg rfl
    obtain ⟨pr, h1, _⟩ := HA2.out.pend
    exact own_ne_blk h1 HX2.out.box (by decide) hg
  obtain ⟨X4, A4, hc4⟩ := crash_mid HA2.out HX2.out HKV.out hm3 (below_undrew hb3) ⟨HA2.out.nums.fuse, HA2.out.nums.fault, HA2.out.nums.acts, ⟨HA2.out.nums.fit.1, HA2.out.nums.fit.2, HA2.out.nums.fit.3, HA2.out.nums.fit.4, HA2.out.nums.fit.5, HA2.out.nums.fit.6⟩⟩ hxl.2.1 hpx
  have hc14 : Chg (fun k => k = x) w1 ((w3.setCell ⟨x, 2, none⟩ (.map (some w2.heap.size))).setCell ⟨x, 8, none⟩ (.int .i64 (D.acts : Int))) := (Chg.of_below' HB2.out).trans hc4 (fun _ _ h => h)
  have hzz : w.heap.size ≤ w2.heap.size := by have := HB2.out.size; omega
  have hrr : x < w2.heap.size := HX2.out.box.lt
  have hne : rl ≠ w2.heap.size ∧ rn ≠ w2.heap.size := by have := HA2.out.lasts.lt; have := HA2.out.now.lt; omega
  have HNE := Lib.hid hne
  clear hne
  generalize (w3.setCell ⟨x, 2, none⟩ (.map (some w2.heap.size))).setCell ⟨x, 8, none⟩ (.int .i64 (D.acts : Int)) = w4 at *
  generalize w2.heap.size = r3 at *
  obtain ⟨p, pc, rfl⟩ := pend_form A4.pend
  have k4 : w4.cell? ⟨a, 4, none⟩ = some (.slice p D.pend.length pc) := A4.box.cell 4
  have HX4 := Lib.hid X4
  have HA4 := Lib.hid A4
  have HC14 := Lib.hid hc14
  clear hm3 hb3 hs3 q2 q8 x2 x8 y2 y8 k2 k8 HKV hm HA2 HX2 HB2 hxs hbl X4 A4 hc4 hc14 HA1 hpx
  go_wp2_with fail
  go_loopw [46] (fun iv wr => CrashLoop w4 O a rl rn (.slice p D.pend.length pc) D keep x r3 (r1 + 1) iv wr) (fun iv _ => D.pend.length - (intOf iv).toNat)
  case atStart => exact ⟨0, rfl, by omega, HX4.out, HA4.out, Chg.refl _ _⟩
  case round =>
    obtain ⟨k, rfl, hk, Xk, Ak, hck⟩ := hrel
    clear k4
    by_cases hlt : (k : Int) < D.pend.length
    · have hkl : k < D.pend.length := by omega
      obtain ⟨g, v, rfl, d1, d2, hv⟩ := pend_at Ak.pend k hkl
      have hvl : ∃ va vc, v = .slice va D.pend[k].2.length vc := by
        rcases hv.1.2 with ⟨rfl, h0⟩ | ⟨g', cap, cur, rfl, _⟩
        · exact ⟨none, 0, by rw [h0]⟩
        · exact ⟨_, cap, rfl⟩
      have k2 : wr.cell? ⟨x, 2, none⟩ = some (.map (some r3)) := Xk.box.cell 2
      have hHV := Lib.hid hv
      have HCK := Lib.hid hck
      have HAk := Lib.hid Ak
      have HXk := Lib.hid Xk
      have hxl2 := Xk.box.lt
      have hrk := row_chg HR1.out ((HC14.out.mono (S' := fun k => k = x ∨ k = r3) (fun _ _ e => .inl e)).trans hck (fun _ _ e => .inr e)) (fun j hj e => by omega)
      obtain ⟨va, vc, rfl⟩ := hvl
      obtain ⟨kv, hm, hkv⟩ := Xk.lasts
      have HKV := Lib.hid hkv
      have HRK := Lib.hid hrk
      clear hv hkv Ak Xk hck hrk
      by_cases hkn : k < keep.length
      · have hn2 : (k : Int) < (n : Int) := by have := HN.out; omega
        obtain ⟨kb, ko, rfl, hkc, hkbl⟩ := HRK.out.at_ (i := k) (by rw [List.length_map]; exact hkn)
        rw [List.getElem_map] at hkc
        have hgd : keep.getD k false = keep[k] := by rw [List.getD_eq_getElem?_getD, List.getElem?_eq_getElem hkn]; rfl
        have bW : Below wr.heap.size wr (wr.alloc (.cells #[.int .i64 D.pend[k].1, .slice va D.pend[k].2.length vc] 77)) := (Below.refl _ _).alloc (Nat.le_refl _) _
        have HBW := Lib.hid bW
        clear bW
        cases hq : keep[k]
        · rw [hq] at hgd hkc
          have hkk := kept_no (D := D) (keep := keep) hkl hgd
          have HKK := Lib.hid hkk
          clear hkk hgd hq
          go_wp2_with fail
          go_roundw
          case rel => exact ⟨k + 1, by go_num, by omega, HKK.out ▸ HXk.out.below HBW.out, HAk.out.below HBW.out, HCK.out.alloc _⟩
          case measure => simp [intOf]; omega
        · rw [hq] at hgd hkc
          have hkk := kept_yes (D := D) (keep := keep) hkl hgd
          have HKK := Lib.hid hkk
          clear hkk hgd hq
          go_wp2_with fail
          have hcW : Chg (fun q => q = r3) w4 (wr.alloc (.cells #[.int .i64 D.pend[k].1, .slice va D.pend[k].2.length vc] 77)) := HCK.out.alloc _
          have BW := Blk.new wr 77 #[.int .i64 D.pend[k].1, .slice va D.pend[k].2.length vc]
          have m0 := BW.cell 0
          have m1 := BW.cell 1
          have AW := HAk.out.below HBW.out
          have XW := HXk.out.below HBW.out
          have m2 := XW.box.cell 2
          have hmW := hm.alloc (.cells #[.int .i64 D.pend[k].1, .slice va D.pend[k].2.length vc] 77)
          have hkW : ∀ j, OptHeld (wr.alloc (.cells #[.int .i64 D.pend[k].1, .slice va D.pend[k].2.length vc] 77)) O (look kv j) (kept D keep k j) := fun j => (HKV.out j).chg (Chg.of_below' (S := fun _ => False) HBW.out) (fun _ _ _ _ h => h)
          have hvW := hHV.out.chg (Chg.of_below' (S := fun _ => False) HBW.out) (fun _ _ _ _ h => h)
          simp only [dcells] at m2
          generalize wr.alloc (.cells #[.int .i64 D.pend[k].1, .slice va D.pend[k].2.length vc] 77) = W at *
          have HAW := Lib.hid AW
          have HXW := Lib.hid XW
          have HKW := Lib.hid hkW
          have HVW := Lib.hid hvW
          have HCW := Lib.hid hcW
          clear AW XW hkW hvW hcW HBW BW hm HKV hHV k2 d1 d2 HAk HXk HCK hkc HRK
          go_still_tail 8, (by kernel_rfl)
          change wpList _ _ _ _ _ W.drew
          have hm2 := hmW.drew
          go_wp2_with (at_mapUpdate; go_must (refine wpList_put rfl _ _ _ _ rfl (mk := Value.int .i64) Tryd.underlying60 (plain_int Tryd.underlying3) r3 kv rfl hm2 D.pend[k].1 rfl _ rfl (finds_int Tryd.underlying3 _ _) ?_))
          intro w5 hm3 hc3
          have hc4 := chg_drew hc3
          have hnn2 : Nums (D.wake (upd (kept D keep k) D.pend[k].1 D.pend[k].2)) := by rw [← HKK.out]; exact wake_nums HDN.out (kept_fit HDN.out.fit keep _)
          have A3 := wake_put HXW.out HAW.out HKW.out HVW.out hmW hm3 hc4 hnn2 HNE.out.1 HNE.out.2
          rw [← HKK.out] at A3
          have hc5 := HCW.out.trans hc4 (fun _ _ h => h)
          have HA3 := Lib.hid A3
          have HC5 := Lib.hid hc5
          clear A3 hc5 hc4 hc3 hm3 hm2 hmW m0 m1 m2 hnn2
          go_wp2_with fail
          go_roundw
          case rel => exact ⟨k + 1, by go_num, by omega, HA3.out.1, HA3.out.2, HC5.out⟩
          case measure => simp [intOf]; omega
      · have hn2 : (n : Int) ≤ (k : Int) := by have := HN.out; omega
        have hkk := kept_no (D := D) (keep := keep) hkl (by rw [List.getD_eq_getElem?_getD, List.getElem?_eq_none (by omega)]; rfl)
        have HKK := Lib.hid hkk
        clear hkk
        have bW : Below wr.heap.size wr (wr.alloc (.cells #[.int .i64 D.pend[k].1, .slice va D.pend[k].2.length vc] 77)) := (Below.refl _ _).alloc (Nat.le_refl _) _
        have HBW := Lib.hid bW
        clear bW
        go_wp2_with fail
        go_roundw
        case rel => exact ⟨k + 1, by go_num, by omega, HKK.out ▸ HXk.out.below HBW.out, HAk.out.below HBW.out, HCK.out.alloc _⟩
        case measure => simp [intOf]; omega
    · obtain rfl : k = D.pend.length := by omega
      have k2 : wr.cell? ⟨x, 2, none⟩ = some (.map (some r3)) := Xk.box.cell 2
      have k3 := Xk.box.some_ (i := 3) (by simp [dcells])
      obtain ⟨v3, k3⟩ := k3
      have z3' := Xk.box.frozen 3
      have hxs := Xk.box.lt
      obtain ⟨kv, hm, hkv⟩ := Xk.lasts
      have HKV := Lib.hid hkv
      have HAk := Lib.hid Ak
      have HXk := Lib.hid Xk
      have HCK := Lib.hid hck
      clear hkv Ak Xk hck
      go_wp2_with fail
      refine (clone_map r3 kv _ hm).mono ?_
      rintro e w6 ⟨rfl, hm6, hb6, hs6⟩
      have k5 : w6.cell? ⟨x, 3, none⟩ = some v3 := by rw [hb6.cell hxs, k3]
      have z5 : w6.frozen? ⟨x, 3, none⟩ = false := by rw [hb6.frozen hxs, z3']
      obtain ⟨q1, q2, q3⟩ := crash_end HXk.out HKV.out hm6 hb6 HDN.out HAk.out hxl.2.1
      have Q1 := Lib.hid q1
      have Q2 := Lib.hid q2
      have Q3 := Lib.hid q3
      have hzr : w.heap.size ≤ wr.heap.size := by have := HCK.out.size; have := HC14.out.size; omega
      clear q1 q2 q3 k2 k3 hm hm6 hb6 hs6 HKV
      go_wp2_with fail
      go_ret
      refine ⟨x, r3, _, rfl, Q1.out, Q2.out, ?_, hxl.1, by omega, hzr⟩
      have c1 := (HC14.out.mono (S' := fun k => k = x ∨ k = r3) (fun _ _ e => .inl e)).trans HCK.out (fun _ _ e => .inr e)
      have c2 := c1.trans Q3.out (fun _ _ e => .inl e)
      exact HC1.out.trans (c2.mono (S' := fun k => k = a ∨ w1.heap.size ≤ k) (fun k _ e => .inr (by omega))) (fun k hk e => by omega)
end

end Go.Proofs.YtmmkncocgjgapaaDoor.Dev

/- Read, Write and Sync of a device in one word each, whatever fuse, fault or power say. -/
namespace Go.Proofs.YtmmkncocgjgapaaDoor.Dev
open Go.RowKit

/-- Read, Write, Sync: the error, and the device behind it. -/
def Dv.rd (D : Dv) (i : Int) : Int × Dv := if D.bars i D.size = 0 then D.act else (D.bars i D.size, D)
def Dv.wr (D : Dv) (i : Int) (ws : List Value) : Int × Dv := if D.bars i ws.length = 0 then (if D.act.1 = 0 then (0, D.act.2.put i ws) else D.act) else (D.bars i ws.length, D)
def Dv.sy (D : Dv) : Int × Dv := if D.down = true then (8, D) else if D.act.1 = 0 then (0, D.act.2.sync) else D.act

theorem act_er (D : Dv) : D.act.1 = 0 ∨ D.act.1 = 6 ∨ D.act.1 = 8 := by
  unfold Dv.act
  split
  · exact .inr (.inr rfl)
  · split
    · exact .inr (.inl rfl)
    · exact .inl rfl
theorem bars_er (D : Dv) (i : Int) (n : Nat) : D.bars i n = 0 ∨ D.bars i n = 1 ∨ D.bars i n = 8 := by
  unfold Dv.bars
  split
  · exact .inr (.inr rfl)
  · split
    · exact .inr (.inl rfl)
    · exact .inl rfl
/-- What an act leaves as it is. -/
structure Kin (D E : Dv) : Prop where
  size : E.size = D.size
  blocks : E.blocks = D.blocks
  acts : E.acts ≤ D.acts + 1
theorem act_kin (D : Dv) : Kin D D.act.2 := by
  obtain ⟨_, _, _, h1, h2, h3⟩ := D.act_same
  exact ⟨h1, h2, h3⟩
theorem rd_kin (D : Dv) (i : Int) : Kin D (D.rd i).2 := by
  unfold Dv.rd
  split
  · exact act_kin D
  · exact ⟨rfl, rfl, Nat.le_succ _⟩
theorem wr_kin (D : Dv) (i : Int) (ws : List Value) : Kin D (D.wr i ws).2 := by
  unfold Dv.wr
  split
  · split
    · exact ⟨(act_kin D).1, (act_kin D).2, (act_kin D).3⟩
    · exact act_kin D
  · exact ⟨rfl, rfl, Nat.le_succ _⟩
theorem rd_now (D : Dv) (i : Int) : (D.rd i).2.now = D.now := by
  unfold Dv.rd
  split
  · exact D.act_same.2.1
  · rfl
theorem wr_ok {D : Dv} {i : Int} {ws : List Value} (h : (D.wr i ws).1 = 0) : D.bars i ws.length = 0 ∧ D.act.1 = 0 ∧ (D.wr i ws).2 = D.act.2.put i ws := by
  unfold Dv.wr at h ⊢
  split at h
  · rename_i hb
    rw [if_pos hb]
    split at h
    · rename_i ha
      rw [if_pos ha]
      exact ⟨hb, ha, rfl⟩
    · rename_i ha
      exact absurd h ha
  · rename_i hb
    exact absurd h hb
theorem wr_now (D : Dv) (i : Int) (ws : List Value) : (D.wr i ws).2.now = if (D.wr i ws).1 = 0 then upd D.now i ws else D.now := by
  split
  · rename_i h
    rw [(wr_ok h).2.2]
    unfold Dv.put
    simp only
    rw [D.act_same.2.1]
  · rename_i h
    unfold Dv.wr at h ⊢
    split
    · rename_i hb
      rw [if_pos hb] at h
      split
      · rename_i ha
        rw [if_pos ha] at h
        exact absurd rfl h
      · exact D.act_same.2.1
    · rfl

section
variable {w : World} {a rl rn : Nat} {O : Nat → Prop} {pv : Value} {D : Dv}

def RdOk (w : World) (O : Nat → Prop) (a rl rn : Nat) (pv : Value) (D : Dv) (i : Int) (e : Ending) (w' : World) : Prop :=
  ∃ g c, e = .returned (.tuple #[.slice (some ⟨g, 0, none⟩) D.size c, .int .i64 0]) ∧ w'.ownsRow w.heap.size 35 1 (.slice (some ⟨g, 0, none⟩) D.size c) D.size (D.words i) ∧ w.heap.size ≤ g ∧
    At w' O a rl rn pv (D.rd i).2 ∧ Chg (fun k => k = a) w w'
def RdErr (w : World) (O : Nat → Prop) (a rl rn : Nat) (pv : Value) (D : Dv) (i : Int) (e : Ending) (w' : World) : Prop :=
  e = .returned (.tuple #[.slice none 0 0, .int .i64 (D.rd i).1]) ∧ At w' O a rl rn pv (D.rd i).2 ∧ Chg (fun k => k = a) w w'

theorem rd_ok {i : Int} (h : At w O a rl rn pv D) (hr : (D.rd i).1 = 0) (hac : D.acts + 1 < 1099511627776) :
    Calls Tryd.prog 19 #[.pointer (some ⟨a, 0, none⟩), .int .i64 i] w (RdOk w O a rl rn pv D i) := by
  unfold RdOk
  unfold Dv.rd at hr ⊢
  split at hr
  · rename_i hb
    rw [if_pos hb]
    refine (read_got i h hb hr (by omega)).mono ?_
    rintro e w' ⟨g, c, rfl, ho, hg, hbx, hc⟩
    exact ⟨g, c, rfl, ho, hg, h.acted hc hbx (by omega), hc⟩
  · rename_i hb
    exact absurd hr hb
theorem rd_err {i : Int} (h : At w O a rl rn pv D) (hr : (D.rd i).1 ≠ 0) (hac : D.acts + 1 < 1099511627776) :
    Calls Tryd.prog 19 #[.pointer (some ⟨a, 0, none⟩), .int .i64 i] w (RdErr w O a rl rn pv D i) := by
  unfold RdErr
  unfold Dv.rd at hr ⊢
  split at hr
  · rename_i hb
    rw [if_pos hb]
    refine (read_failed i h.box h.nums hb hr).mono ?_
    rintro e w' ⟨rfl, hbx, hc⟩
    exact ⟨rfl, h.acted hc hbx (by omega), hc⟩
  · rename_i hb
    rw [if_neg hb]
    refine (read_barred i h.box hb).mono ?_
    rintro e w' ⟨rfl, rfl⟩
    exact ⟨rfl, h, Chg.refl _ _⟩

def WrTold (w : World) (O : Nat → Prop) (a rl rn : Nat) (pv : Value) (D : Dv) (i : Int) (ws : List Value) (e : Ending) (w' : World) : Prop :=
  e = .returned (.int .i64 (D.wr i ws).1) ∧ (∃ pv', At w' O a rl rn pv' (D.wr i ws).2) ∧ Chg (Foot a rl rn pv) w w'
theorem wr_any {i : Int} {l : Option Addr} {n c : Nat} {ws : List Value} (h : At w O a rl rn pv D) (hn : ws.length = n) (hac : D.acts + 1 < 1099511627776) (hr : Row w l ws) (h1c : ∀ u ∈ ws, u.oneCell' = true) (hO : ∀ g, w.heap.size ≤ g → O g) (hla : ∀ x, l = some x → x.block ≠ a) (hn2 : n ≤ 9223372036854775807) :
    Calls Tryd.prog 18 #[.pointer (some ⟨a, 0, none⟩), .int .i64 i, .slice l n c] w (WrTold w O a rl rn pv D i ws) := by
  subst hn
  unfold WrTold Dv.wr
  by_cases hb : D.bars i ws.length = 0
  · rw [if_pos hb]
    by_cases ha : D.act.1 = 0
    · rw [if_pos ha]
      exact write_put i l c ws h hb ha hac hr h1c hO hla
    · rw [if_neg ha]
      refine (write_failed i l ws.length c h.box h.nums hb ha).mono ?_
      rintro e w' ⟨rfl, hbx, hc⟩
      exact ⟨rfl, ⟨pv, h.acted hc hbx (by omega)⟩, hc.mono (fun _ _ h => .inl h)⟩
  · rw [if_neg hb]
    refine (write_barred i l ws.length c h.box hn2 hb).mono ?_
    rintro e w' ⟨rfl, rfl⟩
    exact ⟨rfl, ⟨pv, h⟩, Chg.refl _ _⟩

def SyTold (w : World) (O : Nat → Prop) (a rl rn : Nat) (pv : Value) (D : Dv) (e : Ending) (w' : World) : Prop :=
  e = .returned (.int .i64 D.sy.1) ∧ (∃ pv', At w' O a rl rn pv' D.sy.2) ∧ Chg (Foot a rl rn pv) w w'
theorem sy_any (h : At w O a rl rn pv D) (hac : D.acts + 1 < 1099511627776) :
    Calls Tryd.prog 32 #[.pointer (some ⟨a, 0, none⟩)] w (SyTold w O a rl rn pv D) := by
  unfold SyTold Dv.sy
  by_cases hd : D.down = true
  · rw [if_pos hd]
    refine (sync_down h.box hd).mono ?_
    rintro e w' ⟨rfl, rfl⟩
    exact ⟨rfl, ⟨pv, h⟩, Chg.refl _ _⟩
  · rw [if_neg hd]
    have hd' : D.down = false := by simpa using hd
    by_cases ha : D.act.1 = 0
    · rw [if_pos ha]
      refine (sync_done h hd' ha hac).mono ?_
      rintro e w' ⟨rfl, hA, hc⟩
      exact ⟨rfl, ⟨_, hA⟩, hc⟩
    · rw [if_neg ha]
      refine (sync_failed h.box h.nums hd' ha).mono ?_
      rintro e w' ⟨rfl, hbx, hc⟩
      exact ⟨rfl, ⟨pv, h.acted hc hbx (by omega)⟩, hc.mono (fun _ _ h => .inl h)⟩
end

end Go.Proofs.YtmmkncocgjgapaaDoor.Dev

/- The plain law of the sums of words: what chapter 2 computes, over bit vectors, with no program in sight. No condition. -/
namespace Go.Proofs.YtmmkncocgjgapaaDoor.Crc

def half (s : BitVec 32) : BitVec 32 := s >>> 1

/-- One turn of the register. -/
def bit (s : BitVec 32) : BitVec 32 := half s ^^^ (3988292384#32 &&& -(s &&& 1#32))

def bitN : Nat → BitVec 32 → BitVec 32
  | 0, s => s
  | n + 1, s => bit (bitN n s)

/-- The low byte of a word, and what is left of it. -/
def low (x : BitVec 64) : BitVec 32 := (x &&& 255#64).setWidth 32
def rest (x : BitVec 64) : BitVec 64 := x >>> 8

/-- The state behind k bytes of a word: the register and what is left of the word. -/
def byteN : Nat → BitVec 32 → BitVec 64 → BitVec 32 × BitVec 64
  | 0, s, x => (s, x)
  | n + 1, s, x => (bitN 8 ((byteN n s x).1 ^^^ low (byteN n s x).2), rest (byteN n s x).2)

def next (sum : BitVec 32) (x : BitVec 64) : BitVec 32 := ~~~ (byteN 8 (~~~ sum) x).1

def sum (l : List (BitVec 64)) : BitVec 32 := l.foldl next 0#32

end Go.Proofs.YtmmkncocgjgapaaDoor.Crc

/- The walks of crc.Next: it computes what the plain text says. No condition. -/
namespace Go.Proofs.YtmmkncocgjgapaaDoor.Crc
open Go.RowKit

def I32 (b : BitVec 32) : Int := b.toNat
def I64 (b : BitVec 64) : Int := b.toNat
theorem I32_lt (b : BitVec 32) : 0 ≤ I32 b ∧ I32 b < 4294967296 := by have := b.isLt; unfold I32; omega
theorem I64_lt (b : BitVec 64) : 0 ≤ I64 b ∧ I64 b < 18446744073709551616 := by have := b.isLt; unfold I64; omega

theorem bits32 (op : BitVec 32 → BitVec 32 → BitVec 32) (a b : Int) (s t : BitVec 32) (ha : a = I32 s) (hb : b = I32 t) :
    IntKind.u32.wrap (op (BitVec.ofInt 32 a) (BitVec.ofInt 32 b)).toNat = I32 (op s t) := by
  subst ha; subst hb
  have := (op s t).isLt
  rw [IntKind.wrap_u32']
  unfold I32
  rw [BitVec.ofInt_natCast, BitVec.ofInt_natCast, BitVec.ofNat_toNat, BitVec.ofNat_toNat, BitVec.setWidth_eq, BitVec.setWidth_eq]
  omega

@[go_sem] theorem xor32 (s t : BitVec 32) : bits BinOp.xor IntKind.u32 (I32 s) (I32 t) = I32 (s ^^^ t) :=
  bits32 (· ^^^ ·) _ _ s t rfl rfl
@[go_sem] theorem not32 (s : BitVec 32) : bits BinOp.xor IntKind.u32 IntKind.u32.max (I32 s) = I32 (~~~s) := by
  rw [show ~~~s = 4294967295#32 ^^^ s from (by rw [← BitVec.allOnes_xor]; rfl)]
  exact bits32 (· ^^^ ·) _ _ 4294967295#32 s rfl rfl
@[go_sem] theorem and1 (s : BitVec 32) : bits BinOp.and IntKind.u32 (I32 s) 1 = I32 (s &&& 1#32) :=
  bits32 (· &&& ·) _ _ s 1#32 rfl rfl
@[go_sem] theorem poly32 (s : BitVec 32) : bits BinOp.and IntKind.u32 3988292384 (I32 s) = I32 (3988292384#32 &&& s) :=
  bits32 (· &&& ·) _ _ 3988292384#32 s rfl rfl
@[go_sem] theorem neg32 (s : BitVec 32) : -I32 s % 4294967296 = I32 (-s) := by
  unfold I32
  rw [BitVec.toNat_neg]
  have := s.isLt
  omega
@[go_sem] theorem half32 (s : BitVec 32) : I32 s / 2 = I32 (half s) := by
  unfold I32 half
  rw [BitVec.toNat_ushiftRight, Nat.shiftRight_eq_div_pow]
  omega
@[go_sem] theorem low8 (x : BitVec 64) : bits BinOp.and IntKind.u64 (I64 x) 255 % 4294967296 = I32 (low x) := by
  have h : bits BinOp.and IntKind.u64 (I64 x) 255 = I64 (x &&& 255#64) := by
    show IntKind.u64.wrap ((BitVec.ofInt 64 (I64 x)) &&& (BitVec.ofInt 64 255)).toNat = _
    rw [IntKind.wrap_u64]
    unfold I64
    rw [BitVec.ofInt_natCast, BitVec.ofNat_toNat, BitVec.setWidth_eq]
    have := (x &&& 255#64).isLt
    show ((x &&& 255#64).toNat : Int) % _ = _
    omega
  rw [h]
  unfold I64 I32 low
  rw [BitVec.toNat_setWidth]
  omega
@[go_sem] theorem shr8 (x : BitVec 64) : I64 x / 256 = I64 (rest x) := by
  unfold I64 rest
  rw [BitVec.toNat_ushiftRight, Nat.shiftRight_eq_div_pow]
  omega

set_option maxRecDepth 100000 in
set_option maxHeartbeats 400000 in
theorem next_any (s : BitVec 32) (x : BitVec 64) (w : World) :
    Calls Tryd.prog 54 #[.int .u32 (I32 s), .int .u64 (I64 x)] w fun e w' => e = .returned (.int .u32 (I32 (next s x))) ∧ w = w' := by
  go_enter Tryd.func54, Tryd.ntmps54
  go_wp2
  go_loop [1, 5, 8] (fun x1 s1 i => ∃ k : Nat, k ≤ 8 ∧ i = .int .i64 k ∧ s1 = .int .u32 (I32 (byteN k (~~~s) x).1) ∧ x1 = .int .u64 (I64 (byteN k (~~~s) x).2)) (fun _ _ i => 8 - (intOf i).toNat)
  case atStart => exact ⟨0, by omega, rfl, rfl, rfl⟩
  case round =>
    obtain ⟨k, hk, rfl, rfl, rfl⟩ := hrel
    by_cases hlt : (k : Int) < 8
    · go_wp2
      go_loop [5, 17] (fun s2 i => ∃ j : Nat, j ≤ 8 ∧ i = .int .i64 j ∧ s2 = .int .u32 (I32 (bitN j ((byteN k (~~~s) x).1 ^^^ low (byteN k (~~~s) x).2)))) (fun _ i => 8 - (intOf i).toNat)
      case atStart => exact ⟨0, by omega, rfl, rfl⟩
      case round =>
        obtain ⟨j, hj, rfl, rfl⟩ := hrel
        by_cases hjl : (j : Int) < 8
        · go_wp2
          go_round
          case rel => exact ⟨j + 1, by omega, by go_num, rfl⟩
          case measure => simp [intOf]; omega
        · obtain rfl : j = 8 := by omega
          go_wp2
          go_round
          case rel => exact ⟨k + 1, by omega, by go_num, rfl, rfl⟩
          case measure => simp [intOf]; omega
    · obtain rfl : k = 8 := by omega
      go_wp2
      go_ret
      exact ⟨rfl, rfl⟩

end Go.Proofs.YtmmkncocgjgapaaDoor.Crc

/- The walks of crc.Sum and of the reference's Sum: each computes what the plain text says, of every slice shorter than 2^62 words. -/
namespace Go.Proofs.YtmmkncocgjgapaaDoor.Crc
open Go.RowKit

def words (l : List (BitVec 64)) : List Value := l.map fun x => .int .u64 (I64 x)
theorem words_length (l : List (BitVec 64)) : (words l).length = l.length := by simp [words]

theorem words_get (l : List (BitVec 64)) (k : Nat) (h : k < l.length) : (words l)[k]? = some (.int .u64 (I64 l[k])) := by simp [words, h]
theorem sum_take (l : List (BitVec 64)) (k : Nat) (h : k < l.length) : next (sum (l.take k)) l[k] = sum (l.take (k + 1)) := by
  unfold sum
  rw [List.take_succ_eq_append_getElem h, List.foldl_append]
  rfl

set_option maxRecDepth 100000 in
set_option maxHeartbeats 400000 in
theorem sum_any (l : List (BitVec 64)) (a : Option Addr) (c : Nat) (w : World) (hr : Row w a (words l)) (hl : l.length < 4611686018427387904) :
    Calls Tryd.prog 55 #[.slice a l.length c] w fun e w' => e = .returned (.int .u32 (I32 (sum l))) ∧ w = w' := by
  go_enter Tryd.func55, Tryd.ntmps55
  go_wp2
  go_loop [3, 8] (fun s i => ∃ k : Nat, k ≤ l.length ∧ i = .int .i64 k ∧ s = .int .u32 (I32 (sum (l.take k)))) (fun _ i => l.length - (intOf i).toNat)
  case atStart => exact ⟨0, by omega, rfl, rfl⟩
  case round =>
    obtain ⟨k, hk, rfl, rfl⟩ := hrel
    by_cases hlt : (k : Int) < l.length
    · have hlt' : k < l.length := by omega
      obtain ⟨b, off, rfl, hc, -⟩ := hr.at_ (i := k) (by rw [words_length]; exact hlt')
      have hc' : w.cell? ⟨b, off + k, none⟩ = some (.int .u64 (I64 l[k])) := by rw [hc]; simp [words]
      have hs := Lib.hid (sum_take l k hlt')
      clear hc hr
      go_wp2_with (go_at_call 54; refine (next_any _ _ _).mono ?_; rintro e w' ⟨rfl, rfl⟩)
      go_round
      case rel => exact ⟨k + 1, by omega, by go_num, by rw [hs.out]⟩
      case measure => simp [intOf]; omega
    · obtain rfl : k = l.length := by omega
      go_wp2
      go_ret
      exact ⟨rfl, rfl⟩


@[go_sem] theorem xpoly (s : BitVec 32) : bits BinOp.xor IntKind.u32 (I32 s) 3988292384 = I32 (s ^^^ 3988292384#32) :=
  bits32 (· ^^^ ·) _ _ s 3988292384#32 rfl rfl
@[go_sem] theorem low8' (x : BitVec 64) : I64 x % 256 = I32 (low x) := by
  unfold I64 I32 low
  have : (x &&& 255#64).toNat = x.toNat % 256 := by rw [BitVec.toNat_and]; exact Nat.and_two_pow_sub_one_eq_mod x.toNat 8
  rw [BitVec.toNat_setWidth, this]
  omega

@[go_sem] theorem low8m (x : BitVec 64) : I32 (low x) % 4294967296 = I32 (low x) := by
  have := I32_lt (low x)
  omega

theorem odd_cases (s : BitVec 32) : s &&& 1#32 = 1#32 ∧ I32 s % 2 = 1 ∨ s &&& 1#32 = 0#32 ∧ I32 s % 2 = 0 := by
  have h : (s &&& 1#32).toNat = s.toNat % 2 := by rw [BitVec.toNat_and]; exact Nat.and_two_pow_sub_one_eq_mod s.toNat 1
  unfold I32
  rcases Nat.mod_two_eq_zero_or_one s.toNat with h0 | h1
  · exact .inr ⟨BitVec.eq_of_toNat_eq (by rw [h, h0]; rfl), by omega⟩
  · exact .inl ⟨BitVec.eq_of_toNat_eq (by rw [h, h1]; rfl), by omega⟩
theorem bit_odd (s : BitVec 32) (h : (I32 s % 2 == 1) = true) : half s ^^^ 3988292384#32 = bit s := by
  rcases odd_cases s with ⟨h1, _⟩ | ⟨_, h2⟩
  · unfold bit
    rw [h1]
    congr 1
  · rw [h2] at h; cases h
theorem bit_even (s : BitVec 32) (h : (I32 s % 2 == 1) = false) : half s = bit s := by
  rcases odd_cases s with ⟨_, h2⟩ | ⟨h1, _⟩
  · rw [h2] at h; cases h
  · unfold bit
    rw [h1]
    have : 3988292384#32 &&& -0#32 = 0#32 := by decide
    rw [this, BitVec.xor_zero]
@[go_sem] theorem neg_top (s : BitVec 32) : (4294967295 - I32 (~~~s)) % 4294967296 = I32 s := by
  unfold I32
  have := s.isLt
  rw [BitVec.toNat_not]
  omega

theorem sum_at (l : List (BitVec 64)) (a : Option Addr) (n c : Nat) (w : World) (hn : l.length = n) (hr : Row w a (words l)) (hl : n < 4611686018427387904) :
    Calls Tryd.prog 55 #[.slice a n c] w fun e w' => e = .returned (.int .u32 (I32 (sum l))) ∧ w = w' := by
  subst hn
  exact sum_any l a c w hr hl

end Go.Proofs.YtmmkncocgjgapaaDoor.Crc

/- The plain law of the sums: they are linear over exclusive or, and a word one half of which is turned turns the sum. No condition. -/
namespace Go.Proofs.YtmmkncocgjgapaaDoor.Crc

theorem and_xor {n : Nat} (a b c : BitVec n) : (a ^^^ b) &&& c = (a &&& c) ^^^ (b &&& c) := by
  apply BitVec.eq_of_getLsbD_eq
  intro i hi
  simp only [BitVec.getLsbD_and, BitVec.getLsbD_xor]
  cases a.getLsbD i <;> cases b.getLsbD i <;> cases c.getLsbD i <;> rfl
theorem half_xor (a b : BitVec 32) : half (a ^^^ b) = half a ^^^ half b := BitVec.ushiftRight_xor_distrib a b 1
theorem neg1_cases (a : BitVec 32) : a &&& 1#32 = 0#32 ∨ a &&& 1#32 = 1#32 := by
  have h : (a &&& 1#32).toNat = a.toNat % 2 := by rw [BitVec.toNat_and]; exact Nat.and_two_pow_sub_one_eq_mod a.toNat 1
  rcases Nat.mod_two_eq_zero_or_one a.toNat with h0 | h1
  · exact .inl (BitVec.eq_of_toNat_eq (by rw [h, h0]; rfl))
  · exact .inr (BitVec.eq_of_toNat_eq (by rw [h, h1]; rfl))
theorem bit_xor (a b : BitVec 32) : bit (a ^^^ b) = bit a ^^^ bit b := by
  unfold bit
  have h : (a ^^^ b) &&& 1#32 = (a &&& 1#32) ^^^ (b &&& 1#32) := and_xor a b 1#32
  rw [half_xor, h]
  have e : ∀ x y : BitVec 32, (x = 0#32 ∨ x = 1#32) → (y = 0#32 ∨ y = 1#32) → 3988292384#32 &&& -(x ^^^ y) = (3988292384#32 &&& -x) ^^^ (3988292384#32 &&& -y) := by
    rintro x y (rfl | rfl) (rfl | rfl) <;> decide
  rw [e _ _ (neg1_cases a) (neg1_cases b)]
  ac_rfl
theorem bit_zero : bit 0#32 = 0#32 := by decide
theorem bitN_xor (n : Nat) (a b : BitVec 32) : bitN n (a ^^^ b) = bitN n a ^^^ bitN n b := by
  induction n with
  | zero => rfl
  | succ n ih => simp only [bitN, ih, bit_xor]
theorem bitN_zero (n : Nat) : bitN n 0#32 = 0#32 := by
  induction n with
  | zero => rfl
  | succ n ih => simp only [bitN, ih, bit_zero]
theorem bitN_add (m n : Nat) (a : BitVec 32) : bitN (m + n) a = bitN n (bitN m a) := by
  induction n with
  | zero => rfl
  | succ n ih => rw [← Nat.add_assoc]; simp only [bitN, ih]

/-- One turn is one to one. -/
theorem bit_eq_zero (a : BitVec 32) (h : bit a = 0#32) : a = 0#32 := by
  have top : (half a).getLsbD 31 = false := by
    unfold half
    rw [BitVec.getLsbD_ushiftRight]
    exact BitVec.getLsbD_of_ge _ _ (by omega)
  rcases neg1_cases a with h0 | h1
  · unfold bit at h
    rw [h0] at h
    have hz : 3988292384#32 &&& -0#32 = 0#32 := by decide
    rw [hz, BitVec.xor_zero] at h
    have h2 := congrArg BitVec.toNat h
    have h3 := congrArg BitVec.toNat h0
    unfold half at h2
    rw [BitVec.toNat_ushiftRight, Nat.shiftRight_eq_div_pow] at h2
    have h4 : (a &&& 1#32).toNat = a.toNat % 2 := by rw [BitVec.toNat_and]; exact Nat.and_two_pow_sub_one_eq_mod a.toNat 1
    rw [h4] at h3
    apply BitVec.eq_of_toNat_eq
    simp at h2 h3 ⊢
    omega
  · exfalso
    have h2 : (bit a).getLsbD 31 = true := by
      unfold bit
      rw [BitVec.getLsbD_xor, top, h1]
      decide
    rw [h] at h2
    simp at h2
theorem bitN_eq_zero (n : Nat) (a : BitVec 32) (h : bitN n a = 0#32) : a = 0#32 := by
  induction n with
  | zero => exact h
  | succ n ih => exact ih (bit_eq_zero _ h)

theorem low_xor (a b : BitVec 64) : low (a ^^^ b) = low a ^^^ low b := by
  unfold low
  rw [and_xor, BitVec.setWidth_xor]
theorem rest_xor (a b : BitVec 64) : rest (a ^^^ b) = rest a ^^^ rest b := BitVec.ushiftRight_xor_distrib a b 8

theorem byteN_xor (n : Nat) (s t : BitVec 32) (x y : BitVec 64) :
    (byteN n (s ^^^ t) (x ^^^ y)).1 = (byteN n s x).1 ^^^ (byteN n t y).1 ∧ (byteN n (s ^^^ t) (x ^^^ y)).2 = (byteN n s x).2 ^^^ (byteN n t y).2 := by
  induction n with
  | zero => exact ⟨rfl, rfl⟩
  | succ n ih =>
    simp only [byteN]
    rw [ih.1, ih.2, low_xor, rest_xor]
    refine ⟨?_, rfl⟩
    rw [← bitN_xor]
    congr 1
    ac_rfl

theorem byteN_add (m n : Nat) (s : BitVec 32) (x : BitVec 64) : byteN (m + n) s x = byteN n (byteN m s x).1 (byteN m s x).2 := by
  induction n with
  | zero => rfl
  | succ n ih => rw [← Nat.add_assoc]; simp only [byteN, ih]

theorem low_zero : low 0#64 = 0#32 := by decide
theorem rest_zero : rest 0#64 = 0#64 := by decide
theorem byteN_word0 (n : Nat) (s : BitVec 32) : byteN n s 0#64 = (bitN (8 * n) s, 0#64) := by
  induction n with
  | zero => rfl
  | succ n ih =>
    simp only [byteN, ih, low_zero, rest_zero, BitVec.xor_zero]
    rw [show 8 * (n + 1) = 8 * n + 8 from rfl, bitN_add]

theorem bit_even' (a : BitVec 32) (h : a.getLsbD 0 = false) : bit a = half a := by
  have h0 : a &&& 1#32 = 0#32 := by
    rcases neg1_cases a with h0 | h1
    · exact h0
    · exfalso
      have := congrArg (fun x => BitVec.getLsbD x 0) h1
      simp only [BitVec.getLsbD_and, h] at this
      cases this
  unfold bit
  rw [h0]
  have : 3988292384#32 &&& -0#32 = 0#32 := by decide
  rw [this, BitVec.xor_zero]

/-- Zeros alone in the low bits: they are shifted out. -/
theorem bitN_shift (n : Nat) (u : BitVec 32) (h : ∀ i, i < n → u.getLsbD i = false) : bitN n u = u >>> n := by
  induction n with
  | zero => simp [bitN]
  | succ n ih =>
    simp only [bitN]
    rw [ih (fun i hi => h i (by omega)), bit_even']
    · unfold half
      apply BitVec.eq_of_getLsbD_eq
      intro i hi
      simp only [BitVec.getLsbD_ushiftRight]
      congr 1
      omega
    · rw [BitVec.getLsbD_ushiftRight]
      exact h n (by omega)

def tr (x : BitVec 64) : BitVec 32 := x.setWidth 32
def up (u : BitVec 32) : BitVec 32 := u &&& 4294967040#32

theorem bits_255 (i : Nat) (hi : i < 32) : (4294967040#32).getLsbD i = decide (8 ≤ i) ∧ (255#64).getLsbD i = decide (i < 8) := by
  have h : ∀ j : Fin 32, (4294967040#32).getLsbD j.1 = decide (8 ≤ j.1) ∧ (255#64).getLsbD j.1 = decide (j.1 < 8) := by decide
  exact h ⟨i, hi⟩
theorem tr_split (x : BitVec 64) : low x = tr x ^^^ up (tr x) := by
  apply BitVec.eq_of_getLsbD_eq
  intro i hi
  have h := bits_255 i hi
  simp only [low, tr, up, BitVec.getLsbD_xor, BitVec.getLsbD_and, BitVec.getLsbD_setWidth, h.1, h.2, hi, decide_true, Bool.true_and]
  by_cases h8 : i < 8
  · have h9 : ¬ 8 ≤ i := by omega
    simp [h8, h9]
  · have h9 : 8 ≤ i := by omega
    simp [h8, h9]
theorem up_shift (u : BitVec 32) : bitN 8 (up u) = u >>> 8 := by
  rw [bitN_shift]
  · apply BitVec.eq_of_getLsbD_eq
    intro i hi
    simp only [up, BitVec.getLsbD_ushiftRight, BitVec.getLsbD_and]
    by_cases h : 8 + i < 32
    · rw [(bits_255 (8 + i) h).1]; simp
    · rw [BitVec.getLsbD_of_ge _ _ (by omega)]; rfl
  · intro i hi
    simp only [up, BitVec.getLsbD_and]
    rw [(bits_255 i (by omega)).1]
    have : ¬ 8 ≤ i := by omega
    simp [this]
theorem tr_rest (x : BitVec 64) (h : x.toNat < 4294967296) : tr (rest x) = tr x >>> 8 ∧ (rest x).toNat < 4294967296 := by
  have e : (rest x).toNat = x.toNat / 256 := by unfold rest; rw [BitVec.toNat_ushiftRight, Nat.shiftRight_eq_div_pow]
  refine ⟨BitVec.eq_of_toNat_eq ?_, by omega⟩
  unfold tr
  rw [BitVec.toNat_ushiftRight, Nat.shiftRight_eq_div_pow, BitVec.toNat_setWidth, BitVec.toNat_setWidth, e]
  omega

theorem byteN_low (n : Nat) (s : BitVec 32) (x : BitVec 64) (h : x.toNat < 4294967296) :
    (byteN n s x).1 ^^^ tr (byteN n s x).2 = bitN (8 * n) (s ^^^ tr x) ∧ (byteN n s x).2.toNat < 4294967296 ∧ (byteN n s x).2.toNat = x.toNat / 256 ^ n := by
  induction n with
  | zero => exact ⟨rfl, h, by simp [byteN]⟩
  | succ n ih =>
    obtain ⟨h1, h2, h3⟩ := ih
    have e : (rest (byteN n s x).2).toNat = (byteN n s x).2.toNat / 256 := by unfold rest; rw [BitVec.toNat_ushiftRight, Nat.shiftRight_eq_div_pow]
    simp only [byteN]
    refine ⟨?_, (tr_rest _ h2).2, by rw [e, h3, Nat.div_div_eq_div_mul, ← Nat.pow_succ]⟩
    rw [(tr_rest _ h2).1, tr_split, ← BitVec.xor_assoc, h1, bitN_xor, up_shift, BitVec.xor_assoc, BitVec.xor_self, BitVec.xor_zero, ← bitN_add]
    rfl

/-- One half of a word. -/
def spread (d : BitVec 32) (high : Bool) : BitVec 64 := if high then d.setWidth 64 <<< 32 else d.setWidth 64

theorem byte8_low (d : BitVec 32) : (byteN 8 0#32 (d.setWidth 64)).1 = bitN 64 d := by
  have hd : (d.setWidth 64).toNat < 4294967296 := by rw [BitVec.toNat_setWidth]; have := d.isLt; omega
  obtain ⟨h1, h2, h3⟩ := byteN_low 8 0#32 (d.setWidth 64) hd
  have h4 : (byteN 8 0#32 (d.setWidth 64)).2 = 0#64 := by
    apply BitVec.eq_of_toNat_eq
    rw [h3]
    exact Nat.div_eq_of_lt (by omega)
  have h5 : tr (d.setWidth 64) = d := by
    apply BitVec.eq_of_toNat_eq
    unfold tr
    rw [BitVec.toNat_setWidth, BitVec.toNat_setWidth]
    have := d.isLt
    omega
  rw [h4, h5] at h1
  simpa [tr] using h1

theorem byte8_high (d : BitVec 32) : (byteN 8 0#32 (d.setWidth 64 <<< 32)).1 = bitN 32 d := by
  have hx : (d.setWidth 64 <<< 32).toNat = d.toNat * 4294967296 := by
    have := d.isLt
    rw [BitVec.toNat_shiftLeft, BitVec.toNat_setWidth, Nat.shiftLeft_eq]
    omega
  have h4 : ∀ n m, n + m = 4 → (byteN n 0#32 (d.setWidth 64 <<< 32)).1 = 0#32 ∧ (byteN n 0#32 (d.setWidth 64 <<< 32)).2.toNat = d.toNat * 256 ^ m := by
    intro n
    induction n with
    | zero => intro m hm; obtain rfl : m = 4 := by omega
              exact ⟨rfl, hx⟩
    | succ n ih =>
      intro m hm
      obtain ⟨h1, h2⟩ := ih (m + 1) (by omega)
      rw [Nat.pow_succ, ← Nat.mul_assoc] at h2
      generalize hB : byteN n 0#32 (d.setWidth 64 <<< 32) = B at h1 h2
      have hl : low B.2 = 0#32 := by
        apply BitVec.eq_of_toNat_eq
        unfold low
        have : (B.2 &&& 255#64).toNat = B.2.toNat % 256 := by rw [BitVec.toNat_and]; exact Nat.and_two_pow_sub_one_eq_mod _ 8
        rw [BitVec.toNat_setWidth, this, h2, Nat.mul_mod_left]
        rfl
      have hr : (rest B.2).toNat = d.toNat * 256 ^ m := by
        unfold rest
        rw [BitVec.toNat_ushiftRight, Nat.shiftRight_eq_div_pow, h2]
        exact Nat.mul_div_cancel _ (by omega)
      simp only [byteN, hB]
      exact ⟨by rw [h1, hl, BitVec.xor_zero, bitN_zero], hr⟩
  obtain ⟨a, b⟩ := h4 4 0 (by omega)
  rw [Nat.pow_zero, Nat.mul_one] at b
  rw [show (8 : Nat) = 4 + 4 from rfl, byteN_add, a]
  have hd := d.isLt
  obtain ⟨h1, h2, h3⟩ := byteN_low 4 0#32 (byteN 4 0#32 (d.setWidth 64 <<< 32)).2 (by rw [b]; omega)
  have h5 : (byteN 4 0#32 (byteN 4 0#32 (d.setWidth 64 <<< 32)).2).2 = 0#64 := by
    apply BitVec.eq_of_toNat_eq
    rw [h3, b]
    exact Nat.div_eq_of_lt (by omega)
  have h6 : tr (byteN 4 0#32 (d.setWidth 64 <<< 32)).2 = d := by
    apply BitVec.eq_of_toNat_eq
    unfold tr
    rw [BitVec.toNat_setWidth, b]
    omega
  rw [h5, h6] at h1
  simpa [tr] using h1

theorem spread_zero (d : BitVec 32) (high : Bool) (h : (byteN 8 0#32 (spread d high)).1 = 0#32) : d = 0#32 := by
  unfold spread at h
  cases high
  · rw [if_neg (by decide), byte8_low] at h; exact bitN_eq_zero _ _ h
  · rw [if_pos rfl, byte8_high] at h; exact bitN_eq_zero _ _ h

theorem next_diff (s t : BitVec 32) (x y : BitVec 64) : next s x ^^^ next t y = (byteN 8 (s ^^^ t) (x ^^^ y)).1 := by
  have h : ∀ a b : BitVec 32, ~~~a ^^^ ~~~b = a ^^^ b := by
    intro a b
    apply BitVec.eq_of_getLsbD_eq
    intro i hi
    simp only [BitVec.getLsbD_xor, BitVec.getLsbD_not, hi, decide_true, Bool.true_and]
    cases a.getLsbD i <;> cases b.getLsbD i <;> rfl
  unfold next
  rw [h, ← (byteN_xor 8 _ _ _ _).1, h]

/-- The same words behind: a difference stays one. -/
theorem fold_diff (l : List (BitVec 64)) (s t : BitVec 32) : l.foldl next s = l.foldl next t ↔ s = t := by
  induction l generalizing s t with
  | nil => rfl
  | cons x l ih =>
    rw [List.foldl_cons, List.foldl_cons, ih]
    refine ⟨fun h => ?_, fun h => by rw [h]⟩
    have h1 := next_diff s t x x
    rw [h, BitVec.xor_self, BitVec.xor_self, byteN_word0] at h1
    have h2 := bitN_eq_zero _ _ h1.symm
    exact BitVec.xor_eq_zero_iff.1 h2

theorem tells (l : List (BitVec 64)) (k : Nat) (hk : k < l.length) (d : BitVec 32) (high : Bool) : sum (l.set k (l[k] ^^^ spread d high)) = sum l ↔ d = 0#32 := by
  have e1 : l.set k (l[k] ^^^ spread d high) = l.take k ++ (l[k] ^^^ spread d high) :: l.drop (k + 1) := by
    rw [List.set_eq_take_append_cons_drop, if_pos hk]
  have e2 : l = l.take k ++ l[k] :: l.drop (k + 1) := by
    rw [List.getElem_cons_drop, List.take_append_drop]
  unfold sum
  rw [e1]
  conv => lhs; rhs; rw [e2]
  rw [List.foldl_append, List.foldl_append, List.foldl_cons, List.foldl_cons, fold_diff]
  generalize List.foldl next 0#32 (l.take k) = s
  refine ⟨fun h => ?_, fun h => ?_⟩
  · have h1 := next_diff s s (l[k] ^^^ spread d high) l[k]
    rw [h, BitVec.xor_self, BitVec.xor_self, BitVec.xor_comm l[k], BitVec.xor_assoc, BitVec.xor_self, BitVec.xor_zero] at h1
    exact spread_zero d high h1.symm
  · have : spread d high = 0#64 := by subst h; cases high <;> decide
    rw [this, BitVec.xor_zero]

/-- Four lists of as many words, laid over one another to nothing. -/
theorem turns (a b c : List (BitVec 64)) (hb : b.length = a.length) (hc : c.length = a.length) :
    sum a ^^^ sum b ^^^ sum c ^^^ sum (List.zipWith (· ^^^ ·) (List.zipWith (· ^^^ ·) a b) c) = 0#32 := by
  have key : ∀ (a b c : List (BitVec 64)) (s t u v : BitVec 32), b.length = a.length → c.length = a.length → s ^^^ t ^^^ u ^^^ v = 0#32 →
      a.foldl next s ^^^ b.foldl next t ^^^ c.foldl next u ^^^ (List.zipWith (· ^^^ ·) (List.zipWith (· ^^^ ·) a b) c).foldl next v = 0#32 := by
    intro a
    induction a with
    | nil =>
      intro b c s t u v hb hc h
      obtain rfl := List.eq_nil_of_length_eq_zero hb
      obtain rfl := List.eq_nil_of_length_eq_zero hc
      exact h
    | cons x a ih =>
      intro b c s t u v hb hc h
      match b, c, hb, hc with
      | y :: b, z :: c, hb, hc =>
        simp only [List.zipWith_cons_cons, List.foldl_cons]
        refine ih b c _ _ _ _ (by simpa using hb) (by simpa using hc) ?_
        have h1 := next_diff s t x y
        have h2 := next_diff u v z (x ^^^ y ^^^ z)
        have h3 : u ^^^ v = s ^^^ t := by
          have h4 : (s ^^^ t) ^^^ (u ^^^ v) = 0#32 := by rw [← BitVec.xor_assoc]; exact h
          exact (BitVec.xor_eq_zero_iff.1 h4).symm
        have h5 : z ^^^ (x ^^^ y ^^^ z) = x ^^^ y := by rw [BitVec.xor_comm z, BitVec.xor_assoc, BitVec.xor_self, BitVec.xor_zero]
        rw [h3, h5] at h2
        rw [BitVec.xor_assoc, h1, h2, BitVec.xor_self]
  exact key a b c 0#32 0#32 0#32 0#32 hb hc (by decide)

end Go.Proofs.YtmmkncocgjgapaaDoor.Crc

/- How an argument that came in is read: for each kind of type a relation between its cells and plain data, and that the form's own reading gives it. No condition. -/
namespace Go.Proofs.YtmmkncocgjgapaaDoor
open Go.RowKit

abbrev Rd (D : Type) := World → List Value → D → Prop

def rdInt (k : IntKind) : Rd Int := fun _ cs n => cs = [.int k n] ∧ (Lit.int k n).wf = true
def rdBool : Rd Bool := fun _ cs b => cs = [.bool b]
def rdStr : Rd ByteArray := fun _ cs s => cs = [.string s] ∧ s.size ≤ maxLen
/-- A slice whose elements have 'size' cells each. -/
def rdSlice {D : Type} (size : Nat) (R : Rd D) : Rd (List D) := fun w cs l =>
  ∃ a n c, cs = [.slice a n c] ∧ l.length = n ∧ n ≤ c ∧ c ≤ maxLen ∧ (a = none → c = 0) ∧
    ∀ i (hi : i < l.length), ∃ x es, a = some x ∧ es.length = size ∧ (∀ j, j < size → w.cell? ((x.add (i * size)).add j) = es[j]?) ∧ R w es l[i]
def rdArr {D : Type} (n size : Nat) (R : Rd D) : Rd (List D) := fun w cs l =>
  cs.length = n * size ∧ l.length = n ∧ ∀ i (hi : i < l.length), R w ((cs.drop (i * size)).take size) l[i]
def rdPair {A B : Type} (m n : Nat) (R : Rd A) (S : Rd B) : Rd (A × B) := fun w cs d =>
  cs.length = m + n ∧ R w (cs.take m) d.1 ∧ S w (cs.drop m) d.2

def Opens {H : Type} (enc : TypeId × Value → H) (P : Program) (t : TypeId) {D : Type} (R : Rd D) : Prop :=
  ∀ w fuel cs y, DataW.trod enc P w 0 (fun _ => true) true fuel t cs = some y → ∃ d, R w cs d

section
variable {H : Type} {enc : TypeId × Value → H} {P : Program} {t : TypeId}

theorem opens_int {k : IntKind} (ht : P.underlying t = some (.int k)) : Opens enc P t (rdInt k) := fun _ _ _ _ h => by
  obtain ⟨n, hc, _, hw⟩ := DataW.trod_int ht h
  exact ⟨n, hc, hw⟩
theorem opens_bool (ht : P.underlying t = some .bool) : Opens enc P t rdBool := fun _ _ _ _ h => by
  obtain ⟨n, hc, _⟩ := DataW.trod_bool ht h
  exact ⟨n, hc⟩
theorem opens_str (ht : P.underlying t = some .string) : Opens enc P t rdStr := fun _ _ _ _ h => by
  obtain ⟨n, hc, _, hw⟩ := DataW.trod_string ht h
  exact ⟨n, hc, hw⟩

theorem list_of {D : Type} (n : Nat) (Q : Nat → D → Prop) (h : ∀ i, i < n → ∃ d, Q i d) : ∃ l : List D, l.length = n ∧ ∀ i (hi : i < l.length), Q i l[i] := by
  induction n with
  | zero => exact ⟨[], rfl, fun i hi => absurd hi (by simp)⟩
  | succ n ih =>
    obtain ⟨l, hl, hq⟩ := ih (fun i hi => h i (by omega))
    obtain ⟨d, hd⟩ := h n (by omega)
    refine ⟨l ++ [d], by simp [hl], fun i hi => ?_⟩
    by_cases hlt : i < l.length
    · rw [List.getElem_append_left hlt]; exact hq i hlt
    · have : i = n := by simp at hi; omega
      subst this
      rw [List.getElem_append_right (by omega)]
      simpa using hd

theorem cells_some {w : World} {a : Addr} {n : Nat} {cs : List Value} (h : w.cells? 0 a n = some cs) : cs.length = n ∧ ∀ j, j < n → w.cell? (a.add j) = cs[j]? := by
  unfold World.cells? at h
  rw [if_pos (Nat.zero_le _)] at h
  exact ⟨by simpa using mapM_some_length h, fun j hj => mapM_some_get h j j (by simp [hj])⟩

theorem opens_slice {e : TypeId} {D : Type} {R : Rd D} {size : Nat} (ht : P.underlying t = some (.slice e)) (hs : P.cellsOf e = size) (hr : Opens enc P e R) : Opens enc P t (rdSlice size R) := fun w _ _ _ h => by
  rcases DataW.trod_slice ht h with ⟨hc, _⟩ | ⟨a, len, cap, elems, rest, n, _, rfl, _, _, hl, hm, hlen, hel, _⟩
  · exact ⟨[], none, 0, 0, hc, rfl, Nat.le_refl _, by unfold maxLen; omega, fun _ => rfl, fun i hi => absurd hi (by simp)⟩
  · obtain ⟨l, hll, hq⟩ := list_of len (fun i d => ∃ es, es.length = size ∧ (∀ j, j < size → w.cell? ((a.add (i * size)).add j) = es[j]?) ∧ R w es d) (fun i hi => by
      have := hel i hi
      rw [List.getElem?_eq_getElem (by omega), hs] at this
      cases hc : w.cells? 0 (a.add (i * size)) size with
      | none => rw [hc] at this; cases this
      | some cs =>
        rw [hc] at this
        obtain ⟨d, hd⟩ := hr _ _ _ _ this
        exact ⟨d, cs, (cells_some hc).1, (cells_some hc).2, hd⟩)
    exact ⟨l, some a, len, cap, rfl, hll, hl, hm, (fun h => by cases h), fun i hi => by
      obtain ⟨es, h1, h2, h3⟩ := hq i hi
      exact ⟨a, es, rfl, h1, h2, h3⟩⟩

theorem opens_arr {e : TypeId} {D : Type} {R : Rd D} {n size : Nat} (ht : P.underlying t = some (.array n e)) (hs : P.cellsOf e = size) (ht' : P.cellsOf t = n * size) (hr : Opens enc P e R) : Opens enc P t (rdArr n size R) := fun w _ cs _ h => by
  obtain ⟨xs, m, _, _, hl, hlen, hel⟩ := DataW.trod_array ht h
  obtain ⟨l, hll, hq⟩ := list_of n (fun i d => R w ((cs.drop (i * size)).take size) d) (fun i hi => by
    have := hel i hi
    rw [List.getElem?_eq_getElem (by omega), hs] at this
    exact hr _ _ _ _ this)
  exact ⟨l, hl.trans ht', hll, hq⟩
end

theorem opens_struct2 {H : Type} {enc : TypeId × Value → H} {P : Program} {t : TypeId} {f0 f1 : Field} {A B : Type} {R : Rd A} {S : Rd B} {m n : Nat} (ht : P.underlying t = some (.struct #[f0, f1])) (hc : P.cellsOf t = m + n)
    (h0 : P.cellsOf f0.type = m) (o0 : f0.offset = 0) (r0 : Opens enc P f0.type R) (h1 : P.cellsOf f1.type = n) (o1 : f1.offset = m) (r1 : Opens enc P f1.type S) : Opens enc P t (rdPair m n R S) := fun w _ cs _ h => by
  obtain ⟨y0, y1, k, _, hl, a0, a1⟩ := ChangeShapes.trod_struct2 ht h
  rw [o0, h0, List.drop_zero] at a0
  rw [o1, h1, List.take_of_length_le (by rw [List.length_drop]; omega)] at a1
  obtain ⟨d0, e0⟩ := r0 _ _ _ _ a0
  obtain ⟨d1, e1⟩ := r1 _ _ _ _ a1
  exact ⟨(d0, d1), hl.trans hc, e0, e1⟩

/-- A slice of pairs of integers. -/
theorem rdSlice_pairs {k1 k2 : IntKind} {w : World} {a : Option Addr} {n c : Nat} {l : List (Int × Int)} (h : rdSlice 2 (rdPair 1 1 (rdInt k1) (rdInt k2)) w [.slice a n c] l) :
    l.length = n ∧ n ≤ c ∧ c ≤ maxLen ∧ (∀ i (hi : i < l.length), ∃ b off, a = some ⟨b, off, none⟩ ∧ w.cell? ⟨b, off + i * 2, none⟩ = some (.int k1 l[i].1) ∧ w.cell? ⟨b, off + i * 2 + 1, none⟩ = some (.int k2 l[i].2) ∧ b < w.heap.size) ∧
      ∀ x ∈ l, (Lit.int k1 x.1).wf = true ∧ (Lit.int k2 x.2).wf = true := by
  obtain ⟨a', n', c', e, hl, hn, hc, _, hr⟩ := h
  simp only [List.cons.injEq, Value.slice.injEq, and_true] at e
  obtain ⟨rfl, rfl, rfl⟩ := e
  have key : ∀ i (hi : i < l.length), ∃ x es, a = some x ∧ (∀ j, j < 2 → w.cell? ((x.add (i * 2)).add j) = es[j]?) ∧ es = [.int k1 l[i].1, .int k2 l[i].2] ∧ (Lit.int k1 l[i].1).wf = true ∧ (Lit.int k2 l[i].2).wf = true := by
    intro i hi
    obtain ⟨x, es, hx, hes, hj, he1, ⟨he2, w1⟩, he3, w2⟩ := hr i hi
    refine ⟨x, es, hx, hj, ?_, w1, w2⟩
    match es, hes with
    | [e0, e1], _ =>
      simp at he2 he3
      rw [he2, he3]
  refine ⟨hl, hn, hc, fun i hi => ?_, fun x hx => ?_⟩
  · obtain ⟨x, es, rfl, hj, rfl, _⟩ := key i hi
    obtain ⟨x0, es0, hx0, hj0, rfl, _⟩ := key 0 (by omega)
    injection hx0 with hx0
    subst hx0
    obtain ⟨b, off, spot⟩ := x
    have h0 := hj0 0 (by omega)
    rw [show ((⟨b, off, spot⟩ : Addr).add (0 * 2)).add 0 = ⟨b, off, spot⟩ from by simp [Addr.add]] at h0
    have hs := (cell_lt h0).2
    simp only at hs
    subst hs
    have a0 := hj 0 (by omega)
    have a1 := hj 1 (by omega)
    rw [add_none, add_none] at a0 a1
    refine ⟨b, off, rfl, by simpa using a0, by simpa using a1, (cell_lt h0).1⟩
  · obtain ⟨i, hi, rfl⟩ := List.getElem_of_mem hx
    obtain ⟨_, _, _, _, _, w1, w2⟩ := key i hi
    exact ⟨w1, w2⟩

/-- A slice of integers, as the walk of a law is told of it. -/
theorem rdSlice_ints {k : IntKind} {w : World} {a : Option Addr} {n c : Nat} {l : List Int} (h : rdSlice 1 (rdInt k) w [.slice a n c] l) :
    l.length = n ∧ n ≤ c ∧ c ≤ maxLen ∧ Row w a (l.map (Value.int k)) ∧ ∀ x ∈ l, (Lit.int k x).wf = true := by
  obtain ⟨a', n', c', e, hl, hn, hc, _, hr⟩ := h
  simp only [List.cons.injEq, Value.slice.injEq, and_true] at e
  obtain ⟨rfl, rfl, rfl⟩ := e
  refine ⟨hl, hn, hc, fun i hi => ?_, fun x hx => ?_⟩
  · rw [List.length_map] at hi
    obtain ⟨x, es, hx, _, hj, hes, _⟩ := hr i hi
    refine ⟨x, hx, ?_⟩
    have := hj 0 (by omega)
    rw [hes, Nat.mul_one] at this
    rw [show (x.add i).add 0 = x.add i from by simp [Addr.add]] at this
    rw [this]
    simp [hi]
  · obtain ⟨i, hi, rfl⟩ := List.getElem_of_mem hx
    obtain ⟨_, _, _, _, _, _, hw⟩ := hr i hi
    exact hw

theorem rdSlice_nil {D : Type} {size : Nat} {R : Rd D} {w : World} {a : Option Addr} {n c : Nat} {l : List D} (h : rdSlice size R w [.slice a n c] l) : a = none → n = 0 ∧ c = 0 := by
  obtain ⟨a', n', c', e, hl, hn, hc, h0, _⟩ := h
  simp only [List.cons.injEq, Value.slice.injEq, and_true] at e
  obtain ⟨rfl, rfl, rfl⟩ := e
  intro h
  have := h0 h
  omega

theorem rdArr2_ints {k : IntKind} {w : World} {cs : Array Value} {l : List Int} (h : rdArr 2 1 (rdInt k) w cs.toList l) :
    ∃ d e, cs = #[.int k d, .int k e] ∧ (Lit.int k d).wf = true ∧ (Lit.int k e).wf = true ∧ l = [d, e] := by
  obtain ⟨hc, hl, hr⟩ := h
  obtain ⟨cs⟩ := cs
  match cs, l, hc, hl with
  | [c0, c1], [d, e], _, _ =>
    have h0 := hr 0 (by simp)
    have h1 := hr 1 (by simp)
    simp only [rdInt, Nat.zero_mul, List.drop_zero, List.take_succ_cons, List.take_zero, List.cons.injEq, and_true, List.getElem_cons_zero, Nat.one_mul, List.drop_succ_cons, List.getElem_cons_succ] at h0 h1
    obtain ⟨rfl, w0⟩ := h0
    obtain ⟨rfl, w1⟩ := h1
    exact ⟨d, e, rfl, w0, w1, rfl⟩

theorem okWide_agg {P : Program} {w : World} {r : Reach} {base : Nat} {t : TypeId} {v : Value} {n : Nat} {e : TypeId} (ht : P.underlying t = some (.array n e)) (h : Value.okWide P w r base t v) : ∃ cs, v = .agg cs ∧ cs.size = P.cellsOf t := by
  simp only [Value.okWide, ht] at h
  obtain ⟨cs, h1, h2, _⟩ := h
  exact ⟨cs, h1, h2⟩

theorem u_bounds {x : Int} : ((Lit.int .u32 x).wf = true → 0 ≤ x ∧ x < 4294967296) ∧ ((Lit.int .u16 x).wf = true → 0 ≤ x ∧ x < 65536) ∧ ((Lit.int .u8 x).wf = true → 0 ≤ x ∧ x < 256) ∧ ((Lit.int .u64 x).wf = true → 0 ≤ x ∧ x < 18446744073709551616) ∧
    ((Lit.int .i64 x).wf = true → -9223372036854775808 ≤ x ∧ x < 9223372036854775808) := by
  simp only [Lit.wf, Bool.and_eq_true, decide_eq_true_eq, IntKind.min, IntKind.max, IntKind.signed, IntKind.bits]
  refine ⟨?_, ?_, ?_, ?_, ?_⟩ <;> (simp; omega)

end Go.Proofs.YtmmkncocgjgapaaDoor

/- Rows of words: what a slice of []uint64 reads as, and appends to it. -/
namespace Go.Proofs.YtmmkncocgjgapaaDoor.Crc
open Go.RowKit

theorem I64_ofInt {x : Int} (h : (Lit.int .u64 x).wf = true) : I64 (BitVec.ofInt 64 x) = x := by
  simp only [Lit.wf, Bool.and_eq_true, IntKind.min, IntKind.max, IntKind.signed, IntKind.bits] at h
  unfold I64
  rw [BitVec.toNat_ofInt]
  simp at h
  omega

theorem words_of {l : List Int} (h : ∀ x ∈ l, (Lit.int .u64 x).wf = true) : words (l.map (BitVec.ofInt 64)) = l.map (Value.int .u64) := by
  unfold words
  rw [List.map_map]
  apply List.map_congr_left
  intro x hx
  show Value.int .u64 (I64 (BitVec.ofInt 64 x)) = _
  rw [I64_ofInt (h x hx)]

theorem words_row {w : World} {a : Option Addr} {n c : Nat} {l : List Int} (h : rdSlice 1 (rdInt .u64) w [.slice a n c] l) : ∃ m : List (BitVec 64), m.length = n ∧ Row w a (words m) := by
  obtain ⟨h1, _, _, h2, h3⟩ := rdSlice_ints h
  exact ⟨l.map (BitVec.ofInt 64), by simpa using h1, by rw [words_of h3]; exact h2⟩

set_option maxRecDepth 100000 in

theorem el_u64 : Elem Tryd.prog 40 35 1 8 := elem_of (z := .int .u64 0) Tryd.underlying40 (by kernel_rfl) rfl (by decide)

theorem words_one (m : List (BitVec 64)) : ∀ u ∈ words m, u.oneCell' = true := by
  intro u hu
  simp only [words, List.mem_map] at hu
  obtain ⟨_, _, rfl⟩ := hu
  rfl


end Go.Proofs.YtmmkncocgjgapaaDoor.Crc

/- The walk of slices.Clone at []uint64: the same words in memory of the call's own. -/
namespace Go.Proofs.YtmmkncocgjgapaaDoor
open Go.RowKit Crc


@[go_sem] theorem nil_u64 (w : World) (a : Option Addr) (n c : Nat) : (binOp .eql 40 (.slice a n c) (.slice none 0 0)).run Tryd.prog w = .ok (.bool a.isNone) w :=
  Lib.run_eql_slice_nil (P := Tryd.prog) w 40 35 a n c 0 0 Tryd.underlying40

set_option maxRecDepth 100000 in
set_option maxHeartbeats 400000 in
theorem clone_u64 (a : Option Addr) (n c : Nat) (xs : List Value) (w : World) (hr : Row w a xs) (hn : xs.length = n) (h1 : ∀ u ∈ xs, u.oneCell' = true) (hm : n ≤ 1099511627776) (h0 : a = none → n = 0 ∧ c = 0) :
    Calls Tryd.prog 36 #[.slice a n c] w (RetOwn w.heap.size 35 1 n xs w) := by
  cases a with
  | none =>
    obtain ⟨rfl, rfl⟩ := h0 rfl
    obtain rfl := List.eq_nil_of_length_eq_zero hn
    go_enter Tryd.func36, Tryd.ntmps36
    go_wp2_with fail
    go_ret
    exact ⟨_, rfl, World.ownsRow_nil _ _ _ _, Below.refl _ _⟩
  | some ad =>
    go_enter Tryd.func36, Tryd.ntmps36
    go_wp2_with (at_builtin; go_must (refine wpList_append rfl (.tmp 5) (.tmp 6) _ rfl el_u64 w.heap.size _ 0 [] rfl (World.ownsRow_made w #[] 0 (Nat.le_refl _) (by decide) rfl) (some ad) n c xs rfl (by omega) (hr.below ((Below.refl _ _).alloc (Nat.le_refl _) _)) h1 (by unfold maxLen; omega) (by omega) (by simp) ?_))
    intro v w1 hown _ _ hb
    go_wp2_with fail
    go_ret
    exact ⟨_, rfl, hown, ((Below.refl _ _).alloc (Nat.le_refl _) _).trans hb⟩

end Go.Proofs.YtmmkncocgjgapaaDoor

/- The last word of a sealed block, and what is right. -/
namespace Go.Proofs.YtmmkncocgjgapaaDoor.Crc
open Go.RowKit

/-- The last word: n payload words, the words ahead of it, the address. -/
def lastW (l : List (BitVec 64)) (n x : BitVec 64) : BitVec 64 := ((n + 1#64) <<< 32) ||| (next (next (sum l) (n + 1#64)) x).setWidth 64

set_option maxRecDepth 100000 in
theorem right_any (size address : Int) (w : World) :
    Calls Tryd.prog 45 #[.int .i64 size, .int .i64 address] w fun e w' => e = .returned (.bool (decide (8 ≤ size ∧ size ≤ 256 ∧ 0 ≤ address))) ∧ w = w' := by
  by_cases h1 : 8 ≤ size
  all_goals (by_cases h2 : size ≤ 256)
  all_goals (by_cases h3 : 0 ≤ address)
  all_goals
    go_enter Tryd.func45, Tryd.ntmps45
    go_wp2_with fail
    go_ret
    simp [h1, h2, h3]

theorem I64_ofNat {x : Nat} (h : x < 18446744073709551616) : I64 (BitVec.ofNat 64 x) = (x : Int) := by
  show ((BitVec.ofNat 64 x).toNat : Int) = _
  rw [BitVec.toNat_ofNat, Nat.mod_eq_of_lt (by omega)]
theorem I64_succ {x : Nat} (h : x + 1 < 18446744073709551616) : I64 (BitVec.ofNat 64 x + 1#64) = (x : Int) + 1 := by
  have : BitVec.ofNat 64 x + 1#64 = BitVec.ofNat 64 (x + 1) := by
    apply BitVec.eq_of_toNat_eq
    simp
  rw [this, I64_ofNat h]
  omega

theorem bits64 (op : BitVec 64 → BitVec 64 → BitVec 64) (a b : Int) (s t : BitVec 64) (ha : a = I64 s) (hb : b = I64 t) :
    IntKind.u64.wrap (op (BitVec.ofInt 64 a) (BitVec.ofInt 64 b)).toNat = I64 (op s t) := by
  subst ha; subst hb
  have := (op s t).isLt
  rw [IntKind.wrap_u64]
  unfold I64
  rw [BitVec.ofInt_natCast, BitVec.ofInt_natCast, BitVec.ofNat_toNat, BitVec.ofNat_toNat, BitVec.setWidth_eq, BitVec.setWidth_eq]
  omega

theorem u64_wrap_id {x : Int} (h : 0 ≤ x) (h2 : x < 18446744073709551616) : IntKind.u64.wrap x = x := by
  rw [show IntKind.u64.wrap x = x % 18446744073709551616 from rfl]
  omega
theorem or_word (n : Nat) (s : BitVec 32) (hn : n < 1000000) : bits BinOp.or IntKind.u64 (((n : Int) + 1) * 4294967296) (IntKind.u64.wrap (I32 s)) = I64 (((BitVec.ofNat 64 n + 1#64) <<< 32) ||| s.setWidth 64) := by
  refine bits64 (· ||| ·) _ _ _ _ ?_ ?_
  · have h : BitVec.ofNat 64 n + 1#64 = BitVec.ofNat 64 (n + 1) := by
      apply BitVec.eq_of_toNat_eq
      simp
    rw [h]
    unfold I64
    rw [BitVec.toNat_shiftLeft, BitVec.toNat_ofNat, Nat.shiftLeft_eq, Nat.mod_eq_of_lt (a := n + 1) (by omega), Nat.mod_eq_of_lt (by omega)]
    omega
  · have hs := s.isLt
    rw [u64_wrap_id (by unfold I32; omega) (by unfold I32; omega)]
    unfold I32 I64
    rw [BitVec.toNat_setWidth, Nat.mod_eq_of_lt (by omega)]

set_option maxRecDepth 100000 in
theorem last_any (l : List (BitVec 64)) (z : BitVec 64) (n x : Nat) (a : Option Addr) (c : Nat) (w : World) (hr : Row w a (words (l ++ [z]))) (hcap : l.length + 1 ≤ c) (hl : l.length < 1000000) (hn : n < 1000000) (hx : x < 9223372036854775808) :
    Calls Tryd.prog 46 #[.slice a (l.length + 1) c, .int .i64 (n : Int), .int .i64 (x : Int)] w fun e w' => e = .returned (.int .u64 (I64 (lastW l (BitVec.ofNat 64 n) (BitVec.ofNat 64 x)))) ∧ w = w' := by
  have e1 : (l.length : Int) ≤ c := by omega
  have e2 : IntKind.i64.wrap ((l.length : Int) + 1 - 1) = (l.length : Int) := by rw [IntKind.wrap_i64]; omega
  have e3 : IntKind.i64.wrap ((n : Int) + 1) = (n : Int) + 1 := by rw [IntKind.wrap_i64]; omega
  have hr2 : Row w a (words l) := by
    have := hr.take l.length
    simpa [words, List.take_append] using this
  have hn1 : I64 (BitVec.ofNat 64 n + 1#64) = (n : Int) + 1 := I64_succ (by omega)
  have hx1 : I64 (BitVec.ofNat 64 x) = (x : Int) := I64_ofNat (by omega)
  have HN := next_any (sum l) (BitVec.ofNat 64 n + 1#64) w
  rw [hn1] at HN
  have HX := next_any (next (sum l) (BitVec.ofNat 64 n + 1#64)) (BitVec.ofNat 64 x) w
  rw [hx1] at HX
  clear hn1 hx1
  go_enter Tryd.func46, Tryd.ntmps46
  go_wp2_with fail
  refine (sum_at l a _ _ _ rfl hr2 (by omega)).mono ?_
  rintro e w1 ⟨rfl, rfl⟩
  go_wp2_with fail
  refine HN.mono ?_
  rintro e w1 ⟨rfl, rfl⟩
  go_wp2_with fail
  refine HX.mono ?_
  rintro e w1 ⟨rfl, rfl⟩
  go_wp2_with fail
  go_ret
  refine ⟨?_, rfl⟩
  show Ending.returned (.int .u64 (bits BinOp.or IntKind.u64 (((n : Int) + 1) * 4294967296) (IntKind.u64.wrap (I32 (next (next (sum l) (BitVec.ofNat 64 n + 1#64)) (BitVec.ofNat 64 x)))))) = _
  rw [or_word n _ hn]
  rfl

end Go.Proofs.YtmmkncocgjgapaaDoor.Crc
