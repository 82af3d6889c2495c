/- The walk of Sync of a device. -/
import Derived.Test.YtodjibhnmibedaaDevRw
set_option linter.unusedVariables false
namespace Go.Proofs.Ytodjibhnmibedaa.Dev
open Go.RowKit

/-- Writes laid over blocks, in their order. -/
def over (f : Int → Option (List Value)) (l : List (Int × List Value)) : Int → Option (List Value) := l.foldl (fun f p => upd f p.1 p.2) f
theorem over_snoc (f : Int → Option (List Value)) (l : List (Int × List Value)) (p : Int × List Value) : over f (l ++ [p]) = upd (over f l) p.1 p.2 := by
  unfold over
  rw [List.foldl_append]
  rfl
def Dv.synced (D : Dv) (k : Nat) : Dv := { D with lasts := over D.lasts (D.pend.take k) }
def Dv.sync (D : Dv) : Dv := { D with lasts := over D.lasts D.pend, pend := [] }

theorem over_fit {D : Dv} (h : Fit D) : ∀ (l : List (Int × List Value)), (∀ p ∈ l, p ∈ D.pend) → ∀ f : Int → Option (List Value), (∀ k ws, f k = some ws → ws.length = D.size) → ∀ k ws, over f l k = some ws → ws.length = D.size := by
  intro l
  induction l with
  | nil => intro _ f hf k ws hk; exact hf k ws hk
  | cons p l ih =>
    intro hl f hf k ws hk
    refine ih (fun q hq => hl q (by simp [hq])) (upd f p.1 p.2) (fun j xs hj => ?_) k ws hk
    unfold upd at hj
    split at hj
    · cases hj; exact h.pend p (hl p (by simp))
    · exact hf j xs hj
theorem synced_nums {D : Dv} (h : Nums D) (k : Nat) : Nums (D.synced k) :=
  ⟨h.fuse, h.fault, h.acts, ⟨h.fit.size, h.fit.blocks, h.fit.now, over_fit h.fit _ (fun p hp => List.mem_of_mem_take hp) _ h.fit.lasts, h.fit.pend, h.fit.len⟩⟩
theorem sync_nums {D : Dv} (h : Nums D) : Nums D.sync :=
  ⟨h.fuse, h.fault, h.acts, ⟨h.fit.size, h.fit.blocks, h.fit.now, over_fit h.fit _ (fun p hp => hp) _ h.fit.lasts, (fun p hp => by simp [Dv.sync] at hp), Nat.zero_le _⟩⟩

section
variable {w : World} {a rl rn base : Nat} {pv : Value} {D : Dv}

set_option maxRecDepth 100000 in
theorem sync_down (h : Box w a D rl rn pv) (hd : D.down = true) :
    Calls Try.prog 18 #[.pointer (some ⟨a, 0, none⟩)] w fun e w' => e = .returned (.int .i64 8) ∧ w = w' := by
  have HD := down_any h
  rw [hd] at HD
  have HD2 := Lib.hid HD
  clear HD hd
  go_enter Try.func18, Try.ntmps18
  go_wp2_with fail
  refine HD2.out.mono ?_
  rintro e w1 ⟨rfl, rfl⟩
  go_wp2_with fail
  go_ret
  exact ⟨rfl, rfl⟩

set_option maxRecDepth 100000 in
theorem sync_failed (h : Box w a D rl rn pv) (hn : Nums D) (hd : D.down = false) (hf : D.act.1 ≠ 0) :
    Calls Try.prog 18 #[.pointer (some ⟨a, 0, none⟩)] w (Acted w a D rl rn pv) := by
  have HD := down_any h
  rw [hd] at HD
  have HD2 := Lib.hid HD
  have HA := Lib.hid (act_any h hn)
  have hne : (D.act.1 != 0) = true := by simpa using hf
  clear HD hd hf
  go_enter Try.func18, Try.ntmps18
  go_wp2_with fail
  refine HD2.out.mono ?_
  rintro e w1 ⟨rfl, rfl⟩
  go_wp2_with fail
  refine HA.out.mono ?_
  rintro e w1 ⟨rfl, h4, h5⟩
  go_wp2_with fail
  go_ret
  exact ⟨rfl, h4, h5⟩

theorem pend_form {w : World} {base : Nat} {pv : Value} {l : List (Int × List Value)} (h : Pend w base pv l) : ∃ p c, pv = .slice p l.length c := by
  obtain ⟨pr, h1, _⟩ := h
  rcases h1.2 with ⟨rfl, h0⟩ | ⟨g, cap, cur, rfl, _⟩
  · exact ⟨none, 0, by rw [h0]⟩
  · exact ⟨_, cap, rfl⟩

/-- The write number k, as it lies in the list. -/
theorem pend_at {w : World} {base : Nat} {p : Option Addr} {c : Nat} {l : List (Int × List Value)} (h : Pend w base (.slice p l.length c) l) (k : Nat) (hk : k < l.length) :
    ∃ g v, p = some ⟨g, 0, none⟩ ∧ w.cell? ⟨g, k * 2, none⟩ = some (.int .i64 l[k].1) ∧ w.cell? ⟨g, k * 2 + 1, none⟩ = some v ∧ HeldV w base v l[k].2 := by
  obtain ⟨pr, h1, h2, h3⟩ := h
  obtain ⟨g, cap, e, _⟩ := World.ownsRow.form h1 (by omega)
  cases e
  obtain ⟨q1, q2⟩ := pcells_get pr k (by omega)
  obtain ⟨h4, h5⟩ := h3 k (by omega) hk
  refine ⟨g, pr[k].2, rfl, ?_, ?_, h5⟩
  · rw [h1.cellAt (k * 2) (by omega), q1, h4]
  · rw [h1.cellAt (k * 2 + 1) (by omega), q2]

def SyncLoop (w1 : World) (base a rl rn : Nat) (pv : Value) (D : Dv) (iv : Value) (wr : World) : Prop :=
  ∃ k : Nat, iv = .int .i64 (k : Int) ∧ k ≤ D.pend.length ∧ At wr base a rl rn pv (D.synced k) ∧ Chg (fun q => q = rl) w1 wr

theorem chg_drew {S : Nat → Prop} {w w' : World} (h : Chg S w.drew w') : Chg S w w' := ⟨h.os, h.tape, h.output, h.size, h.block⟩

theorem sync_close {W w3 : World} {k : Nat} {q : Int × List Value} {v : Value} {kv : List (Int × Value)} (A : At W base a rl rn pv (D.synced k)) (hk : ∀ j, OptHeld W base (look kv j) ((D.synced k).lasts j)) (hv : HeldV W base v q.2)
    (hm : IsMap (Value.int .i64) W rl kv) (hm3 : IsMap (Value.int .i64) w3 rl (put_ kv q.1 v)) (hc : Chg (fun k => k = rl) W w3) (hs : over D.lasts (D.pend.take (k + 1)) = upd (over D.lasts (D.pend.take k)) q.1 q.2) (hn : Nums D) : At w3 base a rl rn pv (D.synced (k + 1)) := by
  have hS : ∀ g cs, base ≤ g → Blk W g 22 cs → ¬ g = rl := fun g cs _ hg e => A.lasts.ne_blk hg e
  have hr : ∃ es c, W.heap[rl]? = some (.map es c) := by obtain ⟨es, c, h, _⟩ := hm; exact ⟨es, c, h⟩
  refine ⟨A.box.chg hc (A.lasts.ne_blk A.box), A.ne, ?_, A.now.chg hc (Ne.symm A.ne) hS, A.pend.chg hc (fun g hg => (A.pend_ne hg).2.1) hS, ?_⟩
  · show DMap w3 base rl (over D.lasts (D.pend.take (k + 1)))
    rw [hs]
    exact DMap.put hk q.1 v q.2 hv hm3 hc hr
  · exact synced_nums hn _

theorem sync_end {w1 w' : World} (A : At w' base a rl rn pv (D.synced D.pend.length)) (hn : Nums D) (hc : Chg (fun k => k = rl) w1 w') :
    At (w'.setCell ⟨a, 4, none⟩ (.slice none 0 0)) base a rl rn (.slice none 0 0) D.sync ∧ Chg (Foot a rl rn pv) w1 (w'.setCell ⟨a, 4, none⟩ (.slice none 0 0)) := by
  have hc6 : Chg (fun k => k = a) w' (w'.setCell ⟨a, 4, none⟩ (.slice none 0 0)) := (Chg.refl _ w').setCell _ _ (fun _ => rfl)
  have hS : ∀ g cs, base ≤ g → Blk w' g 22 cs → ¬ g = a := fun g cs _ hg e => hg.ne_ A.box (by decide) e
  refine ⟨⟨A.box.set_ 4 (.slice none 0 0), A.ne, ?_, A.now.chg hc6 (Ne.symm (A.now.ne_blk A.box)) hS, Pend.nil _ _, sync_nums hn⟩, (hc.mono (fun _ _ h => .inr (.inl h))).trans hc6 (fun _ _ h => .inl h)⟩
  have h2 : D.sync.lasts = (D.synced D.pend.length).lasts := by unfold Dv.sync Dv.synced; rw [List.take_length]
  rw [h2]
  exact A.lasts.chg hc6 (Ne.symm (A.lasts.ne_blk A.box)) hS

def Synced (w : World) (base a rl rn : Nat) (pv : Value) (D : Dv) (e : Ending) (w' : World) : Prop :=
  e = .returned (.int .i64 0) ∧ At w' base a rl rn (.slice none 0 0) D ∧ Chg (Foot a rl rn pv) w w'

set_option maxRecDepth 100000 in
set_option maxHeartbeats 400000 in
theorem sync_done (h : At w base a rl rn pv D) (hd : D.down = false) (hf : D.act.1 = 0) (hac : D.acts + 1 < 1099511627776) :
    Calls Try.prog 18 #[.pointer (some ⟨a, 0, none⟩)] w (Synced w base a rl rn pv D.act.2.sync) := by
  have HD := down_any h.box
  rw [hd] at HD
  have HD2 := Lib.hid HD
  have HA := Lib.hid (act_any h.box h.nums)
  have hne : (D.act.1 != 0) = false := by simpa using hf
  have H := Lib.hid h
  clear HD hd hf h
  go_enter Try.func18, Try.ntmps18
  go_wp2_with fail
  refine HD2.out.mono ?_
  rintro e w1 ⟨rfl, rfl⟩
  go_wp2_with fail
  refine HA.out.mono ?_
  rintro e w1 ⟨rfl, hbx, hc1⟩
  have A1 := H.out.acted hc1 hbx (by omega)
  obtain ⟨p, c, rfl⟩ := pend_form A1.pend
  have k4 : w1.cell? ⟨a, 4, none⟩ = some (.slice p D.act.2.pend.length c) := A1.box.cell 4
  have hlen : D.act.2.pend.length ≤ D.acts + 1 := by have := A1.nums.fit.len; have := D.act_same.2.2.2.2.2; omega
  have HC1 := Lib.hid hc1
  clear hc1 hbx HA HD2
  generalize D.act.2 = E at *
  go_wp2_with fail
  go_loopw [18] (fun iv wr => SyncLoop w1 base a rl rn (.slice p E.pend.length c) E iv wr) (fun iv _ => E.pend.length - (intOf iv).toNat)
  case atStart => exact ⟨0, rfl, by omega, A1, Chg.refl _ _⟩
  case round =>
    obtain ⟨k, rfl, hk, Ak, hck⟩ := hrel
    clear k4
    by_cases hlt : (k : Int) < E.pend.length
    · have hkl : k < E.pend.length := by omega
      obtain ⟨g, v, rfl, d1, d2, hv⟩ := pend_at Ak.pend k hkl
      have hsn := over_snoc E.lasts (E.pend.take k) E.pend[k]
      rw [← List.take_succ_eq_append_getElem hkl] at hsn
      have hvl : ∃ va vc, v = .slice va E.pend[k].2.length vc := by
        rcases hv.1.2 with ⟨rfl, h0⟩ | ⟨g', cap, cur, rfl, _⟩
        · exact ⟨none, 0, by rw [h0]⟩
        · exact ⟨_, cap, rfl⟩
      have k2 : wr.cell? ⟨a, 2, none⟩ = some (.map (some rl)) := Ak.box.cell 2
      have hA := Lib.hid Ak
      have HSN := Lib.hid hsn
      have HV := Lib.hid hv
      have HCK := Lib.hid hck
      obtain ⟨va, vc, rfl⟩ := hvl
      obtain ⟨kv, hm, hkv⟩ := Ak.lasts
      have HKV := Lib.hid hkv
      have hAl := Ak.box.lt
      clear hsn hv hkv Ak hck
      go_wp2_with fail
      have hcW : Chg (fun q => q = rl) w1 (wr.alloc (.cells #[.int .i64 E.pend[k].1, .slice va E.pend[k].2.length vc] 84)) := HCK.out.alloc _
      have bW : Below wr.heap.size wr (wr.alloc (.cells #[.int .i64 E.pend[k].1, .slice va E.pend[k].2.length vc] 84)) := (Below.refl _ _).alloc (Nat.le_refl _) _
      have BW := Blk.new wr 84 #[.int .i64 E.pend[k].1, .slice va E.pend[k].2.length vc]
      have m0 := BW.cell 0
      have m1 := BW.cell 1
      have AW := hA.out.below bW
      have m2 := AW.box.cell 2
      have hmW := hm.alloc (.cells #[.int .i64 E.pend[k].1, .slice va E.pend[k].2.length vc] 84)
      have hkW : ∀ j, OptHeld (wr.alloc (.cells #[.int .i64 E.pend[k].1, .slice va E.pend[k].2.length vc] 84)) base (look kv j) ((E.synced k).lasts j) := fun j => (HKV.out j).chg (Chg.of_below' (S := fun _ => False) bW) (fun _ _ _ _ h => h)
      have hvW := HV.out.chg (Chg.of_below' (S := fun _ => False) bW) (fun _ _ _ _ h => h)
      simp only [dcells] at m2
      generalize wr.alloc (.cells #[.int .i64 E.pend[k].1, .slice va E.pend[k].2.length vc] 84) = W at *
      have HAW := Lib.hid AW
      have HKW := Lib.hid hkW
      have HVW := Lib.hid hvW
      have HCW := Lib.hid hcW
      clear AW hkW hvW hcW bW BW hm HKV HV k2 d1 d2 hA HCK
      go_still_tail 8, (by kernel_rfl)
      change wpList _ _ _ _ _ W.drew
      have hm2 := hmW.drew
      go_wp2_with (at_mapUpdate; go_must (refine wpList_put rfl _ _ _ _ rfl (mk := Value.int .i64) Try.underlying78 (plain_int Try.underlying3) rl kv rfl hm2 E.pend[k].1 rfl _ rfl (finds_int Try.underlying3 _ _) ?_))
      intro w3 hm3 hc3
      have hc4 := chg_drew hc3
      have A3 := sync_close HAW.out HKW.out HVW.out hmW hm3 hc4 HSN.out A1.nums
      have hc5 := HCW.out.trans hc4 (fun _ _ h => h)
      have HA3 := Lib.hid A3
      have HC5 := Lib.hid hc5
      clear A1 A3 hc5 hc4 hc3 hm3 hm2 hmW m0 m1 m2
      go_wp2_with fail
      go_roundw
      case rel => exact ⟨k + 1, by go_num, by omega, HA3.out, HC5.out⟩
      case measure => simp [intOf]; omega
    · obtain rfl : k = E.pend.length := by omega
      have z4 := Ak.box.frozen 4
      have k5 : wr.cell? ⟨a, 4, none⟩ = some (.slice p E.pend.length c) := Ak.box.cell 4
      have HAK := Lib.hid Ak
      have HN := Lib.hid A1.nums
      clear Ak A1
      go_wp2_with fail
      go_ret
      obtain ⟨q1, q2⟩ := sync_end HAK.out HN.out hck
      exact ⟨rfl, q1, (HC1.out.mono (fun _ _ h => .inl h)).trans q2 (fun _ _ h => h)⟩
end

end Go.Proofs.Ytodjibhnmibedaa.Dev
