/- Texts of mine, packed: Arena, Arena2, SpMem, SpRow, SpIns, SpIns2, SpRep, SpRep2. -/
import Derived.Test.YtmmkncocgjgapaaK1
import Derived.Test.YtmmkncocgjgapaaRows
import Derived.StillTailTactics
import Derived.Deep.QuietTactic
import Derived.BigQuiet
import Derived.Laws.CopyOwn
import Derived.Laws.Externs
import Derived.Lib.AppendZerosOnto
import Derived.Lib.Overlaps
import Derived.Deep.RegionLaw
set_option linter.unusedVariables false

/- The walks of the arena: what it grants, releases and tells, over plain data. Rooms of at most 2^40 words. -/
namespace Go.Proofs.Ytmmkncocgjgapaa.Arena
open Go.RowKit

/-- An arena: its room, what is used, the peak, and which grants stand (the block of each, how many words). -/
structure Ar where
  room : Nat
  used : Nat
  peak : Nat
  st : List (Nat × Nat)

def Ar.kv (A : Ar) : List (Nat × Value) := A.st.map fun p => (p.1, Value.int .i64 (p.2 : Int))
def Ar.ok (A : Ar) : Prop := A.used = (A.st.map (·.2)).sum ∧ A.used ≤ A.peak ∧ A.peak ≤ A.room ∧ (A.st.map (·.1)).Nodup ∧ A.room ≤ 1099511627776

abbrev TA : TypeId := 115
abbrev TB : TypeId := 112

/-- Block a is an arena's struct, block r its map. -/
structure At (w : World) (a r : Nat) (A : Ar) : Prop where
  blk : Blk w a 115 #[.int .i64 (A.room : Int), .int .i64 (A.used : Int), .int .i64 (A.peak : Int), .map (some r)]
  map : IsMap ptrKey w r A.kv
  bufs : ∀ p ∈ A.st, ∃ cs, Blk w p.1 112 cs
  ok : A.ok

theorem At.chg {w w' : World} {a r : Nat} {A : Ar} {S : Nat → Prop} (h : At w a r A) (hc : Chg S w w') (ha : ¬ S a) (hr : ¬ S r) (hb : ∀ p ∈ A.st, S p.1 → ∃ cs, Blk w' p.1 112 cs) : At w' a r A :=
  ⟨h.blk.chg hc ha, h.map.chg hc hr, fun p hp => by
    by_cases hs : S p.1
    · exact hb p hp hs
    · obtain ⟨cs, h1⟩ := h.bufs p hp
      exact ⟨cs, h1.chg hc hs⟩, h.ok⟩

theorem At.drewN {w : World} {a r : Nat} {A : Ar} (h : At w a r A) (n : Nat) : At (w.drewN n) a r A := ⟨h.blk, h.map, h.bufs, h.ok⟩
theorem At.cells {w : World} {a r : Nat} {A : Ar} (h : At w a r A) :
    w.cell? ⟨a, 0, none⟩ = some (.int .i64 (A.room : Int)) ∧ w.cell? ⟨a, 1, none⟩ = some (.int .i64 (A.used : Int)) ∧ w.cell? ⟨a, 2, none⟩ = some (.int .i64 (A.peak : Int)) ∧ w.cell? ⟨a, 3, none⟩ = some (.map (some r)) ∧
      (∀ i, w.frozen? ⟨a, i, none⟩ = false) ∧ a < w.heap.size ∧ r < w.heap.size ∧ a ≠ r :=
  ⟨h.blk.cell 0, h.blk.cell 1, h.blk.cell 2, h.blk.cell 3, fun i => h.blk.frozen i, h.blk.lt, h.map.lt, h.map.ne_blk h.blk⟩

theorem IntKind_sum (a b : Nat) (h : a + b ≤ 9223372036854775807) : IntKind.i64.wrap ((a : Int) + b) = (a : Int) + b := by rw [IntKind.wrap_i64]; omega

theorem max_nat (a b : Nat) : max (a : Int) (b : Int) = ((max a b : Nat) : Int) := by omega

set_option maxRecDepth 100000 in
set_option maxHeartbeats 400000 in
theorem new_any (room : Int) (w : World) (hr : room ≤ 1099511627776) (hr2 : -9223372036854775808 ≤ room) :
    Calls Try.prog 39 #[.int .i64 room] w fun e w' =>
      e = .returned (.pointer (some ⟨w.heap.size + 1, 0, none⟩)) ∧ At w' (w.heap.size + 1) w.heap.size ⟨room.toNat, 0, 0, []⟩ ∧ Below w.heap.size w w' := by
  have hmm := @run_makeMap Try.prog
  go_enter Try.func39, Try.ntmps39
  have hblk : ∀ (n : Int), n = (room.toNat : Int) → At ((w.alloc (.map #[] 0)).alloc (.cells #[.int .i64 n, .int .i64 0, .int .i64 0, .map (some w.heap.size)] 115)) (w.heap.size + 1) w.heap.size ⟨room.toNat, 0, 0, []⟩ := by
    rintro n rfl
    have hs : (w.alloc (.map #[] 0)).heap.size = w.heap.size + 1 := by simp
    refine ⟨?_, ?_, fun p hp => by simp at hp, rfl, Nat.le_refl _, Nat.zero_le _, List.nodup_nil, by show room.toNat ≤ _; omega⟩
    · have := Blk.new (w.alloc (.map #[] 0)) 115 #[.int .i64 (room.toNat : Int), .int .i64 0, .int .i64 0, .map (some w.heap.size)]
      rw [hs] at this
      exact this
    · exact (IsMap.new ptrKey w).alloc _
  have Hblk := Lib.hid hblk
  clear hblk
  go_wp2
  all_goals
    go_ret
    exact ⟨rfl, Hblk.out _ (by omega), ((Below.refl _ _).alloc (Nat.le_refl _) _).alloc (by simp) _⟩

/-- A grant. -/
def Ar.grant (A : Ar) (n b : Nat) : Ar := ⟨A.room, A.used + n, max A.peak (A.used + n), A.st ++ [(b, n)]⟩

/-- What a grant comes to. -/
def Granted (a r : Nat) (A : Ar) (n : Nat) (w : World) (e : Ending) (w' : World) : Prop :=
  ∃ b d, e = .returned (.tuple #[.pointer (some ⟨b, 0, none⟩), .int .i64 0]) ∧ At w' a r (A.grant n b) ∧ Blk w' b 112 #[.slice (some ⟨d, 0, none⟩) n n] ∧
    Blk w' d 23 (Array.replicate n (.int .u64 0)) ∧ w.heap.size ≤ b ∧ w.heap.size ≤ d ∧ b ≠ d ∧ Chg (fun k => k = a ∨ k = r) w w'

theorem At.new_key {w : World} {a r : Nat} {A : Ar} (h : At w a r A) {b : Nat} (hb : w.heap.size ≤ b) : b ∉ A.st.map (·.1) := by
  intro hm
  obtain ⟨p, hp, rfl⟩ := List.mem_map.1 hm
  obtain ⟨cs, hc⟩ := h.bufs p hp
  have := hc.lt
  omega

theorem locate_none {κ : Type} [DecidableEq κ] (k : κ) : ∀ (l : List (κ × Value)) (i : Nat), k ∉ l.map (·.1) → locate k l i = none := by
  intro l
  induction l with
  | nil => intro i _; rfl
  | cons p l ih =>
    intro i h
    rw [List.map_cons, List.mem_cons, not_or] at h
    unfold locate
    rw [if_neg (fun e => h.1 e.symm), ih _ h.2]

theorem kv_keys (A : Ar) : A.kv.map (·.1) = A.st.map (·.1) := by
  unfold Ar.kv
  rw [List.map_map]
  rfl

theorem sum_snoc (l : List Nat) (n : Nat) : (l ++ [n]).sum = l.sum + n := by simp

theorem grant_okA {A : Ar} (h : A.ok) {n b : Nat} (hn : n ≤ A.room - A.used) (hb : b ∉ A.st.map (·.1)) : (A.grant n b).ok := by
  obtain ⟨h1, h2, h3, h4, h5⟩ := h
  refine ⟨?_, ?_, ?_, ?_, h5⟩
  · show A.used + n = ((A.st ++ [(b, n)]).map (·.2)).sum
    rw [List.map_append, List.map_cons, List.map_nil, sum_snoc, ← h1]
  · exact Nat.le_max_right _ _
  · show max A.peak (A.used + n) ≤ A.room
    omega
  · show ((A.st ++ [(b, n)]).map (·.1)).Nodup
    rw [List.map_append, List.map_cons, List.map_nil, List.nodup_append]
    refine ⟨h4, by simp, ?_⟩
    intro x hx y hy
    simp at hy
    subst hy
    intro e
    subst e
    exact hb hx

theorem grant_close {a r : Nat} {A : Ar} {n : Nat} {w W w2 w3 : World} {X : Int} (hA1 : At W a r A) (hW : Chg (fun k => k = a ∨ k = r) w W) (hn : n ≤ A.room - A.used)
    (hm3 : IsMap ptrKey w3 r (put_ A.kv (W.heap.size + 1) (.int .i64 (n : Int))))
    (hg2 : Chg (fun k => k = r) ((W.alloc (.cells (same n (.int .u64 0)) 23)).alloc (.cells #[.slice (some ⟨W.heap.size, 0, none⟩) n n] 112)) w2)
    (hbl3 : Blk w3 a 115 (#[.int .i64 (A.room : Int), .int .i64 (A.used : Int), .int .i64 (A.peak : Int), .map (some r)].setIfInBounds 1 (.int .i64 ((A.used : Int) + n))))
    (hg3 : Chg (fun k => k = a) w2 w3) (hX : X = ((max A.peak (A.used + n) : Nat) : Int)) :
    Granted a r A n w (.returned (.tuple #[.pointer (some ⟨W.heap.size + 1, 0, none⟩), .int .i64 0])) (w3.drew.setCell ⟨a, 2, none⟩ (.int .i64 X)) := by
  obtain ⟨-, -, -, -, -, la, lr, lar⟩ := hA1.cells
  subst hX
  have hs1 : (W.alloc (.cells (same n (.int .u64 0)) 23)).heap.size = W.heap.size + 1 := by simp
  have hkey := hA1.new_key (b := W.heap.size + 1) (by omega)
  have hg4 : Chg (fun k => k = a) w3 (w3.drew.setCell ⟨a, 2, none⟩ (.int .i64 ((max A.peak (A.used + n) : Nat) : Int))) := ((Chg.refl _ w3).drew).setCell _ _ (fun _ => rfl)
  have hg : Chg (fun k => k = a) w2 (w3.drew.setCell ⟨a, 2, none⟩ (.int .i64 ((max A.peak (A.used + n) : Nat) : Int))) := hg3.trans hg4 (fun _ _ h => h)
  have hb4 : Blk (w3.drew.setCell ⟨a, 2, none⟩ (.int .i64 ((max A.peak (A.used + n) : Nat) : Int))) a 115 #[.int .i64 (A.room : Int), .int .i64 ((A.used + n : Nat) : Int), .int .i64 ((max A.peak (A.used + n) : Nat) : Int), .map (some r)] := by
    have := hbl3.drew.set_ 2 (.int .i64 ((max A.peak (A.used + n) : Nat) : Int))
    simpa using this
  have old : ∀ {g : Nat} {t : TypeId} {cs : Array Value}, Blk ((W.alloc (.cells (same n (.int .u64 0)) 23)).alloc (.cells #[.slice (some ⟨W.heap.size, 0, none⟩) n n] 112)) g t cs → g ≠ a → g ≠ r →
      Blk (w3.drew.setCell ⟨a, 2, none⟩ (.int .i64 ((max A.peak (A.used + n) : Nat) : Int))) g t cs := fun h h1 h2 => (h.chg hg2 h2).chg hg h1
  have hnewb : Blk ((W.alloc (.cells (same n (.int .u64 0)) 23)).alloc (.cells #[.slice (some ⟨W.heap.size, 0, none⟩) n n] 112)) (W.heap.size + 1) 112 #[.slice (some ⟨W.heap.size, 0, none⟩) n n] := by
    have := Blk.new (W.alloc (.cells (same n (.int .u64 0)) 23)) 112 #[.slice (some ⟨W.heap.size, 0, none⟩) n n]
    rwa [hs1] at this
  refine ⟨W.heap.size + 1, W.heap.size, rfl, ⟨hb4, ?_, ?_, grant_okA hA1.ok hn hkey⟩, old hnewb (by omega) (by omega), old ((Blk.new W _ _).alloc _) (by omega) (by omega), by have := hW.size; omega, hW.size, by omega, ?_⟩
  · have h1 := hm3.chg hg4 (Ne.symm lar)
    have h2 : put_ A.kv (W.heap.size + 1) (.int .i64 (n : Int)) = (A.grant n (W.heap.size + 1)).kv := by
      unfold put_
      rw [locate_none _ _ _ (by rw [kv_keys]; exact hkey)]
      simp [Ar.kv, Ar.grant]
    rwa [h2] at h1
  · intro p hp
    rcases List.mem_append.1 hp with hp | hp
    · obtain ⟨cs, hc⟩ := hA1.bufs p hp
      have hl := hc.lt
      exact ⟨cs, old ((hc.alloc _).alloc _) (hc.ne_ hA1.blk (by decide)) (hA1.map.ne_blk hc)⟩
    · simp at hp
      subst hp
      exact ⟨_, old hnewb (by show W.heap.size + 1 ≠ a; omega) (by show W.heap.size + 1 ≠ r; omega)⟩
  · have h1 := (hg2.mono (S' := fun k => k = a ∨ k = r) (fun _ _ h => .inr h)).trans hg (fun _ _ h => .inl h)
    exact hW.trans ((((Chg.refl (fun k => k = a ∨ k = r) W).alloc _).alloc _).trans h1 (fun _ _ h => h)) (fun _ _ h => h)

theorem kv_blk {w : World} {a r : Nat} {A : Ar} (h : At w a r A) : ∀ p ∈ A.kv, ∃ t cs, Blk w p.1 t cs := by
  intro p hp
  obtain ⟨q, hq, rfl⟩ := List.mem_map.1 hp
  obtain ⟨cs, hc⟩ := h.bufs q hq
  exact ⟨_, cs, hc⟩

set_option maxRecDepth 100000 in
set_option maxHeartbeats 400000 in
theorem grant_ok (a r : Nat) (A : Ar) (n : Nat) (w : World) (hA : At w a r A) (hn : n ≤ A.room - A.used) :
    Calls Try.prog 46 #[.pointer (some ⟨a, 0, none⟩), .int .i64 (n : Int)] w (Granted a r A n w) := by
  obtain ⟨ok1, ok2, ok3, ok4, ok5⟩ := hA.ok
  have Ok1 := Lib.hid ok1
  clear ok1 ok4
  obtain ⟨c0, c1, c2, c3, cf, la, lr, lar⟩ := hA.cells
  have hle : ¬ ((A.room : Int) - A.used < n) := by omega
  have hmk := fun W => run_make_of (P := Try.prog) (bytes := 8) (z := .int .u64 0) Try.underlying39 (by kernel_rfl) rfl .i64 .i64 n (by omega) (by omega) W
  go_enter Try.func46, Try.ntmps46
  go_wp2_with fail
  go_quiet (fail)
  have hA1 := hA.drewN nq
  have hW := (Chg.refl (fun k => k = a ∨ k = r) w).drewN nq
  have hWs : w.heap.size ≤ (w.drewN nq).heap.size := Nat.le_refl _
  clear c0 c1 c2 c3 cf la lr hA
  generalize w.drewN nq = W at *
  obtain ⟨c0, c1, c2, c3, cf, la, lr, -⟩ := hA1.cells
  go_wp2_with (at_mapUpdate; go_must (refine wpList_put rfl _ _ _ _ rfl (mk := ptrKey) Try.underlying113 (plain_ptr Try.underlying106) r A.kv rfl ?hm (W.heap.size + 1) rfl _ rfl ?hf ?_))
  case hm => exact (hA1.map.alloc _).alloc _
  case hf =>
    refine finds_ptr Try.underlying106 (j := Try.t112) rfl (by decide) _ _ ?_ ?_
    · have := Blk.new (W.alloc (.cells (same n (.int .u64 0)) 23)) 112 #[.slice (some ⟨W.heap.size, 0, none⟩) n n]
      rw [show (W.alloc (.cells (same n (.int .u64 0)) 23)).heap.size = W.heap.size + 1 from by simp] at this
      exact ⟨_, _, this⟩
    · intro p hp
      obtain ⟨t, cs, hc⟩ := kv_blk hA1 p hp
      exact ⟨t, cs, (hc.alloc _).alloc _⟩
  intro w2 hm2 hg2
  have hbl2 := ((hA1.blk.alloc (.cells (same n (.int .u64 0)) 23)).alloc (.cells #[.slice (some ⟨W.heap.size, 0, none⟩) n n] 112)).chg hg2 lar
  have d1 : w2.cell? ⟨a, 1, none⟩ = some (.int .i64 (A.used : Int)) := hbl2.cell 1
  have d2 : w2.cell? ⟨a, 2, none⟩ = some (.int .i64 (A.peak : Int)) := hbl2.cell 2
  have d0 := hbl2.frozen 1
  have dn := IntKind_sum A.used n (by omega)
  go_wp2_with fail
  have hbl3 := hbl2.set_ 1 (.int .i64 ((A.used : Int) + n))
  have hg3 := (Chg.refl (fun k => k = a) w2).setCell ⟨a, 1, none⟩ (.int .i64 ((A.used : Int) + n)) (fun _ => rfl)
  have hm3 := hm2.chg ((Chg.refl (fun k => k = a) w2).setCell ⟨a, 1, none⟩ (.int .i64 ((A.used : Int) + n)) (fun _ => rfl)) (Ne.symm lar)
  clear d0 d1 d2
  generalize w2.setCell ⟨a, 1, none⟩ (.int .i64 ((A.used : Int) + n)) = w3 at *
  have d1 : w3.cell? ⟨a, 1, none⟩ = some (.int .i64 ((A.used : Int) + n)) := hbl3.cell 1
  have d2 : w3.cell? ⟨a, 2, none⟩ = some (.int .i64 (A.peak : Int)) := hbl3.cell 2
  have d0 := hbl3.frozen 2
  go_still_tail 12, (by kernel_rfl)
  go_wp2_with fail
  all_goals
    go_ret2
    refine grant_close hA1 hW hn hm3 hg2 hbl3 hg3 ?_
    omega

end Go.Proofs.Ytmmkncocgjgapaa.Arena

/- The walks of the arena, more: what is refused, what is released, what it tells. Rooms of at most 2^40 words. -/
namespace Go.Proofs.Ytmmkncocgjgapaa.Arena
open Go.RowKit

/-- Nothing has turned but the count of draws. -/
def Quiet (w w' : World) : Prop := ∃ d, w' = w.drewN d
theorem Quiet.refl (w : World) : Quiet w w := ⟨0, rfl⟩
theorem Quiet.chg {w w' : World} (h : Quiet w w') (S : Nat → Prop) : Chg S w w' := by
  obtain ⟨d, rfl⟩ := h
  exact (Chg.refl S w).drewN d
theorem At.quiet {w w' : World} {a r : Nat} {A : Ar} (h : At w a r A) (hq : Quiet w w') : At w' a r A := by
  obtain ⟨d, rfl⟩ := hq
  exact h.drewN d

set_option maxRecDepth 100000 in
set_option maxHeartbeats 400000 in
theorem grant_neg (a r : Nat) (A : Ar) (n : Int) (w : World) (hn : n < 0) :
    Calls Try.prog 46 #[.pointer (some ⟨a, 0, none⟩), .int .i64 n] w fun e w' => e = .returned (.tuple #[.pointer none, .int .i64 1]) ∧ w = w' := by
  go_enter Try.func46, Try.ntmps46
  go_wp2_with fail
  go_ret2
  exact ⟨rfl, rfl⟩

set_option maxRecDepth 100000 in
set_option maxHeartbeats 400000 in
theorem grant_room (a r : Nat) (A : Ar) (n : Int) (w : World) (hA : At w a r A) (hn : (A.room : Int) - A.used < n) :
    Calls Try.prog 46 #[.pointer (some ⟨a, 0, none⟩), .int .i64 n] w fun e w' => e = .returned (.tuple #[.pointer none, .int .i64 7]) ∧ Quiet w w' := by
  obtain ⟨ok1, ok2, ok3, ok4, ok5⟩ := hA.ok
  clear ok1 ok4
  obtain ⟨c0, c1, c2, c3, cf, la, lr, lar⟩ := hA.cells
  go_enter Try.func46, Try.ntmps46
  go_wp2_with fail
  go_quiet (fail)
  go_wp2_with fail
  go_ret2
  exact ⟨rfl, _, rfl⟩

set_option maxRecDepth 100000 in
set_option maxHeartbeats 400000 in
theorem used_any (a r : Nat) (A : Ar) (w : World) (hA : At w a r A) :
    Calls Try.prog 19 #[.pointer (some ⟨a, 0, none⟩)] w fun e w' => e = .returned (.int .i64 (A.used : Int)) ∧ w = w' := by
  obtain ⟨c0, c1, c2, c3, cf, la, lr, lar⟩ := hA.cells
  go_enter Try.func19, Try.ntmps19
  go_wp2_with fail
  go_ret
  exact ⟨rfl, rfl⟩

set_option maxRecDepth 100000 in
set_option maxHeartbeats 400000 in
theorem peak_any (a r : Nat) (A : Ar) (w : World) (hA : At w a r A) :
    Calls Try.prog 35 #[.pointer (some ⟨a, 0, none⟩)] w fun e w' => e = .returned (.int .i64 (A.peak : Int)) ∧ w = w' := by
  obtain ⟨c0, c1, c2, c3, cf, la, lr, lar⟩ := hA.cells
  go_enter Try.func35, Try.ntmps35
  go_wp2_with fail
  go_ret
  exact ⟨rfl, rfl⟩

/-- A grant let go. -/
def Ar.release (A : Ar) (b n : Nat) : Ar := ⟨A.room, A.used - n, A.peak, A.st.filter fun p => p.1 ≠ b⟩

theorem locate_key {κ : Type} [DecidableEq κ] {k : κ} {v : Value} : ∀ {l : List (κ × Value)} {i : Nat}, (l.map (·.1)).Nodup → (k, v) ∈ l → ∃ j, locate k l i = some (i + j, v) ∧ l.eraseIdx j = l.filter (fun p => p.1 ≠ k) := by
  intro l
  induction l with
  | nil => intro i _ h; cases h
  | cons p l ih =>
    intro i hn h
    rw [List.map_cons, List.nodup_cons] at hn
    unfold locate
    by_cases hp : p.1 = k
    · rw [if_pos hp]
      have hpv : p = (k, v) := by
        rcases List.mem_cons.1 h with h | h
        · exact h.symm
        · exact absurd (List.mem_map.2 ⟨_, h, rfl⟩) (by rw [← hp] at *; exact hn.1)
      refine ⟨0, by rw [hpv]; rfl, ?_⟩
      have hf : l.filter (fun p => p.1 ≠ k) = l := by
        rw [List.filter_eq_self]
        intro q hq
        have : q.1 ≠ k := fun e => hn.1 (by rw [hp, ← e]; exact List.mem_map.2 ⟨q, hq, rfl⟩)
        simp [this]
      simp [hp]
      simpa using hf.symm
    · rw [if_neg hp]
      have h' : (k, v) ∈ l := by
        rcases List.mem_cons.1 h with h | h
        · exact absurd (by rw [← h]) hp
        · exact h
      obtain ⟨j, hj, he⟩ := ih (i := i + 1) hn.2 h'
      refine ⟨j + 1, by rw [hj]; congr 2; omega, ?_⟩
      simp only [List.eraseIdx_cons_succ, he]
      simp [hp]

theorem sum_filter {b n : Nat} : ∀ {l : List (Nat × Nat)}, (l.map (·.1)).Nodup → (b, n) ∈ l → (l.map (·.2)).sum = ((l.filter fun p => p.1 ≠ b).map (·.2)).sum + n := by
  intro l
  induction l with
  | nil => intro _ h; cases h
  | cons p l ih =>
    intro hn h
    rw [List.map_cons, List.nodup_cons] at hn
    by_cases hp : p.1 = b
    · have hpv : p = (b, n) := by
        rcases List.mem_cons.1 h with h | h
        · exact h.symm
        · exact absurd (List.mem_map.2 ⟨_, h, rfl⟩) (by rw [← hp] at *; exact hn.1)
      have hf : l.filter (fun p => p.1 ≠ b) = l := by
        rw [List.filter_eq_self]
        intro q hq
        have : q.1 ≠ b := fun e => hn.1 (by rw [hp, ← e]; exact List.mem_map.2 ⟨q, hq, rfl⟩)
        simp [this]
      rw [List.filter_cons_of_neg (by simp [hp]), hf, hpv]
      simp
      omega
    · have h' : (b, n) ∈ l := by
        rcases List.mem_cons.1 h with h | h
        · exact absurd (by rw [← h]) hp
        · exact h
      rw [List.filter_cons_of_pos (by simp [hp]), List.map_cons, List.map_cons, List.sum_cons, List.sum_cons, ih hn.2 h']
      omega

theorem release_okA {A : Ar} (h : A.ok) {n b : Nat} (hb : (b, n) ∈ A.st) : (A.release b n).ok ∧ n ≤ A.used := by
  obtain ⟨h1, h2, h3, h4, h5⟩ := h
  have hs := sum_filter h4 hb
  have hn : n ≤ A.used := by omega
  refine ⟨⟨?_, ?_, h3, ?_, h5⟩, hn⟩
  · show A.used - n = ((A.st.filter fun p => p.1 ≠ b).map (·.2)).sum
    omega
  · show A.used - n ≤ A.peak
    omega
  · exact List.Nodup.sublist (List.Sublist.map _ (List.filter_sublist)) h4

theorem kv_release {A : Ar} (h : A.ok) {n b : Nat} (hb : (b, n) ∈ A.st) : drop_ A.kv b = (A.release b n).kv ∧ look A.kv b = some (.int .i64 (n : Int)) := by
  have hm : (b, Value.int .i64 (n : Int)) ∈ A.kv := List.mem_map.2 ⟨_, hb, rfl⟩
  obtain ⟨j, hj, he⟩ := locate_key (i := 0) (by rw [kv_keys]; exact h.2.2.2.1) hm
  constructor
  · unfold drop_
    rw [hj]
    simp only [Nat.zero_add]
    rw [he]
    unfold Ar.kv Ar.release
    rw [List.filter_map]
    rfl
  · rw [← locate_map A.kv 0, hj]
    rfl

theorem kv_none {A : Ar} {b : Nat} (hb : b ∉ A.st.map (·.1)) : look A.kv b = none := by
  rw [← locate_map A.kv 0, locate_none _ _ _ (by rw [kv_keys]; exact hb)]
  rfl

def Released (a r b : Nat) (A : Ar) (n : Nat) (w : World) (e : Ending) (w' : World) : Prop :=
  e = .returned (.bool true) ∧ At w' a r (A.release b n) ∧ Blk w' b 112 #[.slice none 0 0] ∧ Chg (fun k => k = a ∨ k = r ∨ k = b) w w'

theorem zero_int (w : World) : (zeroValue 3).run Try.prog w = .ok (.int .i64 0) w := by kernel_rfl

set_option maxRecDepth 100000 in
set_option maxHeartbeats 400000 in
theorem release_no (a r b : Nat) (A : Ar) (w : World) (hA : At w a r A) (hb : ∃ cs, Blk w b 112 cs) (hn : b ∉ A.st.map (·.1)) :
    Calls Try.prog 50 #[.pointer (some ⟨a, 0, none⟩), .pointer (some ⟨b, 0, none⟩)] w fun e w' => e = .returned (.bool false) ∧ w = w' := by
  obtain ⟨cs, hcs⟩ := hb
  have hl := kv_none hn
  obtain ⟨c0, c1, c2, c3, cf, la, lr, lar⟩ := hA.cells
  go_enter Try.func50, Try.ntmps50
  go_wp2_with (at_lookup; go_must (refine wpList_look rfl _ _ _ _ rfl (mk := ptrKey) Try.underlying113 (plain_ptr Try.underlying106) r A.kv rfl hA.map b rfl (finds_ptr Try.underlying106 (j := Try.t112) rfl (by decide) _ _ ⟨_, _, hcs⟩ (kv_blk hA)) (zero_int _) ?_))
  go_wp2_with fail
  go_ret
  exact ⟨rfl, rfl⟩

set_option maxRecDepth 100000 in
set_option maxHeartbeats 400000 in
theorem release_nil (a : Nat) (w : World) :
    Calls Try.prog 50 #[.pointer (some ⟨a, 0, none⟩), .pointer none] w fun e w' => e = .returned (.bool false) ∧ w = w' := by
  go_enter Try.func50, Try.ntmps50
  go_wp2_with fail
  go_ret
  exact ⟨rfl, rfl⟩

theorem release_close {a r b : Nat} {A : Ar} {n : Nat} {w w2 : World} {v : Value} (hA : At w a r A) (hb : (b, n) ∈ A.st) (hcs : Blk w b 112 #[v]) (hm2 : IsMap ptrKey w2 r (A.release b n).kv) (hg2 : Chg (fun k => k = r) w w2) :
    Released a r b A n w (.returned (.bool true)) ((w2.setCell ⟨a, 1, none⟩ (.int .i64 ((A.used : Int) - n))).setCell ⟨b, 0, none⟩ (.slice none 0 0)) := by
  obtain ⟨hok, hnu⟩ := release_okA hA.ok hb
  obtain ⟨-, -, -, -, -, la, lr, lar⟩ := hA.cells
  have hba : b ≠ a := hcs.ne_ hA.blk (by decide)
  have hbr : b ≠ r := hA.map.ne_blk hcs
  have hbl2 := hA.blk.chg hg2 lar
  have hcs2 := hcs.chg hg2 hbr
  have hg3 : Chg (fun k => k = a ∨ k = b) w2 ((w2.setCell ⟨a, 1, none⟩ (.int .i64 ((A.used : Int) - n))).setCell ⟨b, 0, none⟩ (.slice none 0 0)) :=
    ((Chg.refl _ w2).setCell ⟨a, 1, none⟩ _ (fun _ => .inl rfl)).setCell ⟨b, 0, none⟩ _ (fun _ => .inr rfl)
  have hB : Blk ((w2.setCell ⟨a, 1, none⟩ (.int .i64 ((A.used : Int) - n))).setCell ⟨b, 0, none⟩ (.slice none 0 0)) b 112 #[.slice none 0 0] := by
    have := (hcs2.far (p := ⟨a, 1, none⟩) hba (.int .i64 ((A.used : Int) - n))).set_ 0 (.slice none 0 0)
    simpa using this
  refine ⟨rfl, ⟨?_, hm2.chg hg3 (by rintro (h | h) <;> omega), ?_, hok⟩, hB, ?_⟩
  · have := ((hbl2.set_ 1 (.int .i64 ((A.used : Int) - n))).far (p := ⟨b, 0, none⟩) (Ne.symm hba) (.slice none 0 0))
    have e : ((A.used : Int) - n) = ((A.used - n : Nat) : Int) := by omega
    rw [e] at this ⊢
    simpa [Ar.release] using this
  · intro p hp
    by_cases hpb : p.1 = b
    · rw [hpb]; exact ⟨_, hB⟩
    · obtain ⟨cs, hc⟩ := hA.bufs p ((List.mem_filter.1 hp).1)
      exact ⟨cs, (hc.chg hg2 (hA.map.ne_blk hc)).chg hg3 (by rintro (h | h); exact (hc.ne_ hA.blk (by decide)) h; exact hpb h)⟩
  · exact (hg2.mono (fun _ _ h => .inr (.inl h))).trans hg3 (fun _ _ h => h.elim .inl (fun h => .inr (.inr h)))

set_option maxRecDepth 100000 in
set_option maxHeartbeats 400000 in
theorem release_ok (a r b : Nat) (A : Ar) (n : Nat) (w : World) (hA : At w a r A) (hb : (b, n) ∈ A.st) (v : Value) (hcs : Blk w b 112 #[v]) :
    Calls Try.prog 50 #[.pointer (some ⟨a, 0, none⟩), .pointer (some ⟨b, 0, none⟩)] w (Released a r b A n w) := by
  obtain ⟨hl2, hl⟩ := kv_release hA.ok hb
  obtain ⟨hok, hnu⟩ := release_okA hA.ok hb
  obtain ⟨ok1, ok2, ok3, ok4, ok5⟩ := hA.ok
  clear ok1 ok4
  obtain ⟨c0, c1, c2, c3, cf, la, lr, lar⟩ := hA.cells
  have hba : b ≠ a := hcs.ne_ hA.blk (by decide)
  have hbr : b ≠ r := hA.map.ne_blk hcs
  have Hl2 := Lib.hid hl2
  clear hl2
  go_enter Try.func50, Try.ntmps50
  go_wp2_with (first
    | (at_lookup; go_must (refine wpList_look rfl _ _ _ _ rfl (mk := ptrKey) Try.underlying113 (plain_ptr Try.underlying106) r A.kv rfl hA.map b rfl (finds_ptr Try.underlying106 (j := Try.t112) rfl (by decide) _ _ ⟨_, _, hcs⟩ (kv_blk hA)) (zero_int _) ?_))
    | (at_delete; go_must (refine wpList_drop rfl _ _ _ _ rfl (mk := ptrKey) Try.underlying113 (plain_ptr Try.underlying106) r A.kv rfl hA.map b rfl (finds_ptr Try.underlying106 (j := Try.t112) rfl (by decide) _ _ ⟨_, _, hcs⟩ (kv_blk hA)) ?_)))
  rw [Hl2.out]
  intro w2 hm2 hg2
  have hbl2 := hA.blk.chg hg2 lar
  have hcs2 := hcs.chg hg2 hbr
  have d1 : w2.cell? ⟨a, 1, none⟩ = some (.int .i64 (A.used : Int)) := hbl2.cell 1
  have d0 := hbl2.frozen 1
  have d2 : w2.cell? ⟨b, 0, none⟩ = some v := hcs2.cell 0
  have d3 := hcs2.frozen 0
  have hab : a ≠ b := Ne.symm hba
  clear c0 c1 c2 c3 cf
  go_wp2_with fail
  go_ret
  exact release_close hA hb hcs hm2 hg2

end Go.Proofs.Ytmmkncocgjgapaa.Arena

/- Words for a row of structs that is known whole: copy, clear and append, as they turn it. No condition. -/
namespace Go.Proofs.Ytmmkncocgjgapaa
open Go.RowKit

theorem chg_setRow {w : World} {g : Nat} (cs : Array Value) : Chg (fun k => k = g) w (w.setRow g cs) :=
  ⟨rfl, rfl, rfl, by simp [World.setRow], fun k _ hk => setRow_other w g k cs hk⟩
theorem Blk.setRow {w : World} {g : Nat} {t : TypeId} {cur : Array Value} (h : Blk w g t cur) (cs : Array Value) : Blk (w.setRow g cs) g t cs := setRow_heap w g cur cs t (0, 0) h

section
variable {P : Program} {w : World}

/-- copy(d, s): d in a row that is known whole, s whatever. -/
theorem run_copy_at (dT sT ty elem : TypeId) (size : Nat) (dp sp : Option Addr) (dLen dCap sLen sCap : Nat) (g o : Nat) (cur : List Value) (t : TypeId) (cs : List Value)
    (hu : P.underlying dT = some (.slice elem)) (hs : (P.info? elem).map (·.size) = some size) (hg : Blk w g t cur.toArray) (hn : cs.length = Nat.min sLen dLen * size)
    (hpos : 0 < cs.length → dp = some ⟨g, o, none⟩ ∧ ∃ ad, sp = some ad ∧ ∀ j v, cs[j]? = some v → w.cell? (ad.add j) = some v)
    (hfit : o + cs.length ≤ cur.length) (h1 : ∀ v ∈ cs, v.oneCell' = true) :
    ∃ w', (Builtin.copy_ #[dT, sT] ty #[.slice dp dLen dCap, .slice sp sLen sCap]).run P w = .ok (goInt (Nat.min sLen dLen)) w' ∧ Blk w' g t (splice cur o cs).toArray ∧ Chg (fun k => k = g) w w' ∧ w'.heap.size = w.heap.size := by
  cases hq : P.info? elem with
  | none => simp [hq] at hs
  | some i =>
    have hi : i.size = size := by simpa [hq] using hs
    by_cases h0 : cs.length = 0
    · obtain rfl : cs = [] := List.eq_nil_of_length_eq_zero h0
      refine ⟨w, ?_, by simpa [splice] using hg, Chg.refl _ _, rfl⟩
      have hz : Nat.min sLen dLen * size = 0 := by simpa using hn.symm
      have hl : ∀ ad : Addr, (loadCells ad 0).run P w = .ok #[] w := fun ad => by simpa using run_loadCells_list (P := P) w ad [] (by intro j v h; cases h)
      cases sp <;> cases dp <;> simp [Builtin.copy_, run_underlying hu, Builtin.lenOf, Builtin.firstCells, sizeOf, typeInfo, hq, hi, hz, hl, storeCells]
    · obtain ⟨rfl, a, rfl, hsrc⟩ := hpos (by omega)
      have hl := run_loadCells_list (P := P) w a cs hsrc
      have hst := run_storeCells_at P g o t cs 0 cur.toArray w hg (by simpa using hfit) h1
      refine ⟨w.setRow g (splice cur o cs).toArray, ?_, Blk.setRow hg _, chg_setRow _, by simp [World.setRow]⟩
      simp [Builtin.copy_, run_underlying hu, Builtin.lenOf, Builtin.firstCells, sizeOf, typeInfo, hq, hi, ← hn, hl, hst, splice]

/-- clear(d), d in a row that is known whole. -/
theorem run_clear_at (dT ty elem : TypeId) (size : Nat) (z : Value) (dp : Option Addr) (n c : Nat) (g o : Nat) (cur : List Value) (t : TypeId)
    (hu : P.underlying dT = some (.slice elem)) (hv : ∀ w, (zeroValue elem).run P w = .ok z w) (hz : z.cells.size = size) (hz1 : ∀ v ∈ z.cells, v.oneCell' = true) (hg : Blk w g t cur.toArray)
    (hpos : 0 < n → dp = some ⟨g, o, none⟩) (hfit : o + n * size ≤ cur.length) :
    ∃ w' zs, (Builtin.clear_ #[dT] ty #[.slice dp n c]).run P w = .ok (.tuple #[]) w' ∧ zs.length = n * size ∧ Blk w' g t (splice cur o zs).toArray ∧ Chg (fun k => k = g) w w' ∧ w'.heap.size = w.heap.size := by
  by_cases h0 : n = 0
  · subst h0
    refine ⟨w, [], ?_, by simp, by simpa [splice] using hg, Chg.refl _ _, rfl⟩
    cases dp <;> simp [Builtin.clear_, run_underlying hu]
  · have hd := hpos (by omega)
    subst hd
    obtain ⟨m, rfl⟩ : ∃ m, n = m + 1 := ⟨n - 1, by omega⟩
    have hlen : (Builtin.zeroCells z.cells (m + 1)).toList.length = (m + 1) * size := by rw [Array.length_toList, size_zeroCells, hz]
    have hone : ∀ v ∈ (Builtin.zeroCells z.cells (m + 1)).toList, v.oneCell' = true := by
      intro v hv
      rw [Array.mem_toList_iff] at hv
      unfold Builtin.zeroCells at hv
      rw [Array.mem_map] at hv
      obtain ⟨i, hi, rfl⟩ := hv
      rw [Array.mem_range] at hi
      have hpos : 0 < z.cells.size := by
        rcases Nat.eq_zero_or_pos z.cells.size with h | h
        · rw [h] at hi; omega
        · exact h
      have hlt : i % z.cells.size < z.cells.size := Nat.mod_lt _ hpos
      rw [getElem!_pos z.cells _ hlt]
      exact hz1 _ (Array.getElem_mem hlt)
    obtain ⟨zs, hzs⟩ : ∃ zs, (Builtin.zeroCells z.cells (m + 1)).toList = zs := ⟨_, rfl⟩
    rw [hzs] at hlen hone
    have hst := run_storeCells_at P g o t zs 0 cur.toArray w hg (by rw [hlen]; simpa using hfit) hone
    refine ⟨w.setRow g (splice cur o zs).toArray, zs, ?_, hlen, Blk.setRow hg _, chg_setRow _, by simp [World.setRow]⟩
    simp [Builtin.clear_, run_underlying hu, hv, hzs, hst, splice]

/-- append within the room of a row that is known whole. -/
theorem run_append_at (t ty e : TypeId) (size : Nat) (n cap : Nat) (g : Nat) (cur : List Value) (A : Option Addr) (m c : Nat) (news : List Value)
    (hu : P.underlying t = some (.slice e)) (hs : (P.info? e).map (·.size) = some size) (hg : Blk w g e cur.toArray) (hl : news.length = m * size) (hr : Row w A news) (h1 : ∀ u ∈ news, u.oneCell' = true)
    (hroom : n + m ≤ cap) (hfit : n * size + news.length ≤ cur.length) (hsz : 0 < size) :
    ∃ w', (Builtin.append_ #[t, t] ty #[.slice (some ⟨g, 0, none⟩) n cap, .slice A m c]).run P w = .ok (.slice (some ⟨g, 0, none⟩) (n + m) cap) w' ∧ Blk w' g e (splice cur (n * size) news).toArray ∧ Chg (fun k => k = g) w w' ∧ w'.heap.size = w.heap.size := by
  cases hq : P.info? e with
  | none => simp [hq] at hs
  | some i =>
    have hi : i.size = size := by simpa [hq] using hs
    cases A with
    | none =>
      have h0 : news.length = 0 := by
        rcases Nat.eq_zero_or_pos news.length with h | h
        · exact h
        · obtain ⟨x, hx, _⟩ := hr 0 h; cases hx
      obtain rfl : news = [] := List.eq_nil_of_length_eq_zero h0
      have hm : m = 0 := by
        rcases Nat.eq_zero_or_pos m with h | h
        · exact h
        · have := Nat.mul_pos h hsz; simp at hl; omega
      subst hm
      refine ⟨w, ?_, by simpa [splice] using hg, Chg.refl _ _, rfl⟩
      have hn : n ≤ cap := by omega
      simp [Builtin.append_, run_underlying hu, sizeOf, typeInfo, hq, Builtin.lenOf, Builtin.firstCells, hn, storeCells]
    | some a =>
      have hrun := run_append_room (P := P) w t ty e i hu hq g n cap cur.toArray hg a m c news (by rw [hi]; exact hl) (fun j u hj => by
        obtain ⟨hlt, rfl⟩ := List.getElem?_eq_some_iff.1 hj
        obtain ⟨x, hx, hc⟩ := hr j hlt
        injection hx with hx
        subst hx
        rw [hc, List.getElem?_eq_getElem hlt]) h1 hroom (by rw [hi]; simpa using hfit)
      refine ⟨_, hrun, ?_, chg_setRow _, by simp [World.setRow]⟩
      rw [hi]
      simpa [splice] using Blk.setRow hg _

/-- append of k zeros past the room of a row (gc's 'append(s[:i], make(S, k)...)'): a new row. -/
theorem run_append_zeros (t tn ty e : TypeId) (k kn : IntKind) (size bytes : Nat) (z : Value) (n cap : Nat) (sp : Option Addr) (m : Nat) (xs : List Value)
    (hu : P.underlying t = some (.slice e)) (htn : P.underlying tn = some (.int kn)) (hinf : (P.info? e).map (fun i => (i.zero, i.size, i.bytes)) = some (some z, size, bytes)) (hz : z.cells.size = size) (hsz : 0 < size)
    (hx : xs.length = n * size) (hr : Row w sp xs) (hno : ¬ n + m ≤ cap) (h63 : n + m ≤ maxLen) (hbytes : (n + m) * bytes ≤ 140737488355328) (hcap : cap ≤ 4611686018427387904) (hm : 0 < m) :
    ∃ w' C rest, (Builtin.append_ #[t, tn] ty #[.slice sp n cap, .int k (m : Int)]).run P w = .ok (.slice (some ⟨w.heap.size, 0, none⟩) (n + m) C) w' ∧ n + m ≤ C ∧ C ≤ maxLen ∧
      Blk w' w.heap.size e (xs ++ rest).toArray ∧ (xs ++ rest).length = C * size ∧ Below w.heap.size w w' ∧ w'.heap.size = w.heap.size + 1 := by
  obtain ⟨i, h1, h2, h3, h4⟩ := info_parts hinf
  have hl := run_loadCells_list (P := P) w.drew
  have hold : (Builtin.firstCells i.size n (.slice sp n cap)).run P w.drew = .ok xs.toArray w.drew := by
    cases sp with
    | none =>
      have h0 : xs = [] := by
        rcases xs with _ | ⟨x, r⟩
        · rfl
        · obtain ⟨y, hy, _⟩ := hr 0 (by simp); cases hy
      subst h0
      simp [Builtin.firstCells]
    | some a =>
      have := hl a xs (fun j u hj => by
        obtain ⟨hlt, rfl⟩ := List.getElem?_eq_some_iff.1 hj
        obtain ⟨x, hx, hc⟩ := hr j hlt
        injection hx with hx
        subst hx
        show w.cell? (a.add j) = _
        rw [hc, List.getElem?_eq_getElem hlt])
      simp [Builtin.firstCells, h3, ← hx, this]
  have hb : n * bytes ≤ (n + m) * bytes := Nat.mul_le_mul_right _ (by omega)
  have hb2 : m * bytes ≤ (n + m) * bytes := Nat.mul_le_mul_right _ (by omega)
  have hfit := growslice_fits (need := n + m) (old := cap) (bytes := bytes) (by omega) hbytes
  have hrun := Lib.run_append_grow_zeros (P := P) w t tn ty e i z k kn hu htn h1 h2 sp n cap xs hold m hm (by omega) (by omega) (by unfold maxLen at h63; omega) (by rw [h4]; omega) (by rw [h4]; exact hfit)
  have hge := grownCap_ge w (n + m) cap e
  have hle := grownCap_le_maxLen w (n + m) cap e h63
  refine ⟨_, _, (Builtin.zeroCells z.cells m ++ Builtin.zeroCells z.cells (grownCap w (n + m) cap e - (n + m))).toList, hrun, hge, hle, ?_, ?_, (Below.refl _ _).drew.alloc (Nat.le_refl _) _, by simp⟩
  · have h := Blk.new w.drew e (xs.toArray ++ Builtin.zeroCells z.cells m ++ Builtin.zeroCells z.cells (grownCap w (n + m) cap e - (n + m)))
    have e1 : (xs ++ (Builtin.zeroCells z.cells m ++ Builtin.zeroCells z.cells (grownCap w (n + m) cap e - (n + m))).toList).toArray = xs.toArray ++ Builtin.zeroCells z.cells m ++ Builtin.zeroCells z.cells (grownCap w (n + m) cap e - (n + m)) := by
      apply Array.ext'
      simp
    rw [e1]
    exact h
  · simp only [List.length_append, Array.length_toList, Array.size_append, size_zeroCells, hz, hx]
    rw [← Nat.add_mul, ← Nat.add_mul]
    congr 1
    omega
end

end Go.Proofs.Ytmmkncocgjgapaa

/- The laws of SpMem for the walk, and rows of extents. No condition. -/
namespace Go.Proofs.Ytmmkncocgjgapaa
open Go.RowKit

section
variable {P : Program} {w : World} {ops : Array Oper} {rest : List Oper} {o : Oper} {a : Act} {K : Act → World → Prop} {Q : Exit → Act → World → Prop}

theorem wp_copy_at (d s : Operand) (dT sT : TypeId) (ho : o.op = .call { callee := .builtin .copy, args := #[d, s], argTypes := #[dT, sT] }) (elem : TypeId) (size : Nat)
    (hu : P.underlying dT = some (.slice elem)) (hs : (P.info? elem).map (·.size) = some size) (dp sp : Option Addr) (dLen dCap sLen sCap : Nat) (hd : a.eval d = .slice dp dLen dCap) (hx : a.eval s = .slice sp sLen sCap)
    (g off : Nat) (cur : List Value) (t : TypeId) (hg : Blk w g t cur.toArray) (cs : List Value) (hn : cs.length = Nat.min sLen dLen * size)
    (hpos : 0 < cs.length → dp = some ⟨g, off, none⟩ ∧ ∃ ad, sp = some ad ∧ ∀ j v, cs[j]? = some v → w.cell? (ad.add j) = some v)
    (hfit : off + cs.length ≤ cur.length) (h1 : ∀ v ∈ cs, v.oneCell' = true)
    (h : ∀ w', Hid (Blk w' g t (splice cur off cs).toArray) → Hid (Chg (fun k => k = g) w w') → K (a.put o.dst (goInt (Nat.min sLen dLen))) w') : o.wp P a w K Q := by
  obtain ⟨w', hrun, h2, h3, -⟩ := run_copy_at (ty := o.type) dT sT elem size dp sp dLen dCap sLen sCap g off cur t cs hu hs hg hn hpos hfit h1
  unfold Oper.wp execOp
  simp only [ho, resolve, invoke, builtin, Sem.run_bind, Sem.run_pure, Result.andThen_ok, List.map_toArray, List.map_cons, List.map_nil, hd, hx, hrun]
  exact h w' h2 h3
theorem wpList_copy_at (hgd : o.guard = none) (d s : Operand) (dT sT : TypeId) (ho : o.op = .call { callee := .builtin .copy, args := #[d, s], argTypes := #[dT, sT] }) (elem : TypeId) (size : Nat)
    (hu : P.underlying dT = some (.slice elem)) (hs : (P.info? elem).map (·.size) = some size) (dp sp : Option Addr) (dLen dCap sLen sCap : Nat) (hd : a.eval d = .slice dp dLen dCap) (hx : a.eval s = .slice sp sLen sCap)
    (g off : Nat) (cur : List Value) (t : TypeId) (hg : Blk w g t cur.toArray) (cs : List Value) (hn : cs.length = Nat.min sLen dLen * size)
    (hpos : 0 < cs.length → dp = some ⟨g, off, none⟩ ∧ ∃ ad, sp = some ad ∧ ∀ j v, cs[j]? = some v → w.cell? (ad.add j) = some v)
    (hfit : off + cs.length ≤ cur.length) (h1 : ∀ v ∈ cs, v.oneCell' = true)
    (h : ∀ w', Hid (Blk w' g t (splice cur off cs).toArray) → Hid (Chg (fun k => k = g) w w') → wpList P ops Q rest (a.put o.dst (goInt (Nat.min sLen dLen))) w') : wpList P ops Q (o :: rest) a w :=
  wpList_plain hgd fun _ hK => wp_copy_at d s dT sT ho elem size hu hs dp sp dLen dCap sLen sCap hd hx g off cur t hg cs hn hpos hfit h1 fun w' h2 h3 => hK _ _ (h w' h2 h3)
theorem step_copy_at {E : Prop} (hgd : o.guard = none) (d s : Operand) (dT sT : TypeId) (ho : o.op = .call { callee := .builtin .copy, args := #[d, s], argTypes := #[dT, sT] }) (elem : TypeId) (size : Nat)
    (hu : P.underlying dT = some (.slice elem)) (hs : (P.info? elem).map (·.size) = some size) (dp sp : Option Addr) (dLen dCap sLen sCap : Nat) (hd : a.eval d = .slice dp dLen dCap) (hx : a.eval s = .slice sp sLen sCap)
    (g off : Nat) (cur : List Value) (t : TypeId) (hg : Blk w g t cur.toArray) (cs : List Value) (hn : cs.length = Nat.min sLen dLen * size)
    (hpos : 0 < cs.length → dp = some ⟨g, off, none⟩ ∧ ∃ ad, sp = some ad ∧ ∀ j v, cs[j]? = some v → w.cell? (ad.add j) = some v)
    (hfit : off + cs.length ≤ cur.length) (h1 : ∀ v ∈ cs, v.oneCell' = true)
    (h : ∀ w', Hid (Blk w' g t (splice cur off cs).toArray) → Hid (Chg (fun k => k = g) w w') → K (a.put o.dst (goInt (Nat.min sLen dLen))) w') : if Region.wanted o (yielded ops a.tmps) = true then Oper.wp P o a w K Q else E := by
  have hw : Region.wanted o (yielded ops a.tmps) = true := by simp [Region.wanted, hgd]
  rw [if_pos hw]
  exact wp_copy_at d s dT sT ho elem size hu hs dp sp dLen dCap sLen sCap hd hx g off cur t hg cs hn hpos hfit h1 h

theorem wpList_clear_at (hgd : o.guard = none) (d : Operand) (dT : TypeId) (ho : o.op = .call { callee := .builtin .clear, args := #[d], argTypes := #[dT] }) (elem : TypeId) (size : Nat) (z : Value)
    (hu : P.underlying dT = some (.slice elem)) (hv : ∀ w, (zeroValue elem).run P w = .ok z w) (hz : z.cells.size = size) (hz1 : ∀ v ∈ z.cells, v.oneCell' = true)
    (dp : Option Addr) (n c : Nat) (hd : a.eval d = .slice dp n c) (g off : Nat) (cur : List Value) (t : TypeId) (hg : Blk w g t cur.toArray) (hpos : 0 < n → dp = some ⟨g, off, none⟩) (hfit : off + n * size ≤ cur.length)
    (h : ∀ w' zs, Hid (zs.length = n * size) → Hid (Blk w' g t (splice cur off zs).toArray) → Hid (Chg (fun k => k = g) w w') → wpList P ops Q rest (a.put o.dst (.tuple #[])) w') : wpList P ops Q (o :: rest) a w := by
  refine wpList_plain hgd fun _ hK => ?_
  obtain ⟨w', zs, hrun, h1, h2, h3, -⟩ := run_clear_at (ty := o.type) dT elem size z dp n c g off cur t hu hv hz hz1 hg hpos hfit
  unfold Oper.wp execOp
  simp only [ho, resolve, invoke, builtin, Sem.run_bind, Sem.run_pure, Result.andThen_ok, List.map_toArray, List.map_cons, List.map_nil, hd, hrun]
  exact hK _ _ (h w' zs h1 h2 h3)

theorem wpList_append_at (hgd : o.guard = none) (s x : Operand) (t : TypeId) (ho : o.op = .call { callee := .builtin .append, args := #[s, x], argTypes := #[t, t] }) (e : TypeId) (size : Nat)
    (hu : P.underlying t = some (.slice e)) (hs : (P.info? e).map (·.size) = some size) (n cap : Nat) (g : Nat) (cur : List Value) (hd : a.eval s = .slice (some ⟨g, 0, none⟩) n cap) (hg : Blk w g e cur.toArray)
    (A : Option Addr) (m c : Nat) (news : List Value) (hx : a.eval x = .slice A m c) (hl : news.length = m * size) (hr : Row w A news) (h1 : ∀ u ∈ news, u.oneCell' = true)
    (hroom : n + m ≤ cap) (hfit : n * size + news.length ≤ cur.length) (hsz : 0 < size)
    (h : ∀ w', Hid (Blk w' g e (splice cur (n * size) news).toArray) → Hid (Chg (fun k => k = g) w w') → wpList P ops Q rest (a.put o.dst (.slice (some ⟨g, 0, none⟩) (n + m) cap)) w') : wpList P ops Q (o :: rest) a w := by
  refine wpList_plain hgd fun _ hK => ?_
  obtain ⟨w', hrun, h2, h3, -⟩ := run_append_at (ty := o.type) t e size n cap g cur A m c news hu hs hg hl hr h1 hroom hfit hsz
  unfold Oper.wp execOp
  simp only [ho, resolve, invoke, builtin, Sem.run_bind, Sem.run_pure, Result.andThen_ok, List.map_toArray, List.map_cons, List.map_nil, hd, hx, hrun]
  exact hK _ _ (h w' h2 h3)

theorem wpList_append_zeros (hgd : o.guard = none) (s x : Operand) (t tn : TypeId) (ho : o.op = .call { callee := .builtin .append, args := #[s, x], argTypes := #[t, tn] }) (e : TypeId) (k kn : IntKind) (size bytes : Nat) (z : Value)
    (hu : P.underlying t = some (.slice e)) (htn : P.underlying tn = some (.int kn)) (hinf : (P.info? e).map (fun i => (i.zero, i.size, i.bytes)) = some (some z, size, bytes)) (hz : z.cells.size = size) (hsz : 0 < size)
    (n cap : Nat) (sp : Option Addr) (m : Nat) (xs : List Value) (hd : a.eval s = .slice sp n cap) (hq : a.eval x = .int k (m : Int))
    (hx : xs.length = n * size) (hr : Row w sp xs) (hno : ¬ n + m ≤ cap) (h63 : n + m ≤ maxLen) (hbytes : (n + m) * bytes ≤ 140737488355328) (hcap : cap ≤ 4611686018427387904) (hm : 0 < m) (tot : Nat) (htot : n + m = tot)
    (h : ∀ w' C S, Hid (tot ≤ C ∧ C ≤ maxLen) → Hid (S.length = C * size) → Hid (∃ r, S = xs ++ r) → Hid (Blk w' w.heap.size e S.toArray) → Hid (Below w.heap.size w w') → wpList P ops Q rest (a.put o.dst (.slice (some ⟨w.heap.size, 0, none⟩) tot C)) w') : wpList P ops Q (o :: rest) a w := by
  subst htot
  refine wpList_plain hgd fun _ hK => ?_
  obtain ⟨w', C, r, hrun, c1, c2, h2, h3, h4, -⟩ := run_append_zeros (ty := o.type) t tn e k kn size bytes z n cap sp m xs hu htn hinf hz hsz hx hr hno h63 hbytes hcap hm
  unfold Oper.wp execOp
  simp only [ho, resolve, invoke, builtin, Sem.run_bind, Sem.run_pure, Result.andThen_ok, List.map_toArray, List.map_cons, List.map_nil, hd, hq, hrun]
  exact hK _ _ (h w' C (xs ++ r) ⟨c1, c2⟩ h3 ⟨r, rfl⟩ h2 h4)
end

namespace Sp
abbrev Ext : Type := Nat × Nat
/-- Extents, as cells. -/
def flatX (l : List Ext) : List Value := l.flatMap fun e => [.int .i64 (e.1 : Int), .int .i64 (e.2 : Int)]
theorem flatX_nil : flatX [] = [] := rfl
theorem flatX_cons (e : Ext) (l : List Ext) : flatX (e :: l) = .int .i64 (e.1 : Int) :: .int .i64 (e.2 : Int) :: flatX l := rfl
theorem flatX_append (l m : List Ext) : flatX (l ++ m) = flatX l ++ flatX m := by simp [flatX]
theorem flatX_length (l : List Ext) : (flatX l).length = l.length * 2 := by
  induction l with
  | nil => rfl
  | cons e l ih => rw [flatX_cons]; simp [ih]; omega
theorem flatX_take (l : List Ext) (k : Nat) : (flatX l).take (k * 2) = flatX (l.take k) := by
  induction k generalizing l with
  | zero => simp [flatX_nil]
  | succ k ih =>
    cases l with
    | nil => simp [flatX_nil]
    | cons e l =>
      rw [List.take_succ_cons, flatX_cons, flatX_cons, show (k + 1) * 2 = k * 2 + 1 + 1 by omega, List.take_succ_cons, List.take_succ_cons, ih]
theorem flatX_drop (l : List Ext) (k : Nat) : (flatX l).drop (k * 2) = flatX (l.drop k) := by
  induction k generalizing l with
  | zero => simp
  | succ k ih =>
    cases l with
    | nil => simp [flatX_nil]
    | cons e l =>
      rw [List.drop_succ_cons, flatX_cons, show (k + 1) * 2 = k * 2 + 1 + 1 by omega, List.drop_succ_cons, List.drop_succ_cons, ih]
theorem flatX_get (l : List Ext) (k : Nat) (h : k < l.length) : (flatX l)[k * 2]? = some (.int .i64 (l[k].1 : Int)) ∧ (flatX l)[k * 2 + 1]? = some (.int .i64 (l[k].2 : Int)) := by
  induction l generalizing k with
  | nil => exact absurd h (by simp)
  | cons e l ih =>
    cases k with
    | zero => exact ⟨rfl, rfl⟩
    | succ k =>
      have := ih k (by simpa using h)
      rw [flatX_cons, show (k + 1) * 2 = k * 2 + 1 + 1 by omega]
      exact this
theorem flatX_one (l : List Ext) : ∀ v ∈ flatX l, v.oneCell' = true := by
  intro v hv
  simp only [flatX, List.mem_flatMap] at hv
  obtain ⟨e, _, he⟩ := hv
  simp at he
  rcases he with rfl | rfl <;> rfl

theorem el_ext : Elem Try.prog 125 128 2 16 := elem_of (z := .agg #[.int .i64 0, .int .i64 0]) Try.underlying125 (by kernel_rfl) rfl (by omega)
theorem info_ext : (Try.prog.info? 128).map (fun i => (i.zero, i.size, i.bytes)) = some (some (.agg #[.int .i64 0, .int .i64 0]), 2, 16) := by kernel_rfl
theorem size_ext : (Try.prog.info? 128).map (·.size) = some 2 := by kernel_rfl
theorem zero_ext (w : World) : (zeroValue 128).run Try.prog w = .ok (.agg #[.int .i64 0, .int .i64 0]) w := by kernel_rfl

/-- A row of extents of the call's own: n of them, in the block g of room cap. -/
structure XBlk (w : World) (g cap : Nat) (l : List Ext) (rest : List Value) : Prop where
  blk : Blk w g 128 (flatX l ++ rest).toArray
  len : l.length * 2 + rest.length = cap * 2
  cap : cap ≤ maxLen
theorem XBlk.own {w : World} {g cap base : Nat} {l : List Ext} {rest : List Value} (h : XBlk w g cap l rest) (hb : base ≤ g) : w.ownsRow base 128 2 (.slice (some ⟨g, 0, none⟩) l.length cap) l.length (flatX l) := by
  refine ⟨flatX_length l, .inr ⟨g, cap, _, rfl, hb, h.blk, ?_, h.cap, ?_, ?_⟩⟩
  · have := h.len; omega
  · have := h.len
    simp [flatX_length]
    omega
  · rw [← flatX_length]
    simp
theorem XBlk.of_own {w : World} {base n : Nat} {v : Value} {l : List Ext} (h : w.ownsRow base 128 2 v n (flatX l)) :
    l.length = n ∧ ((v = .slice none 0 0 ∧ l = []) ∨ ∃ g cap rest, v = .slice (some ⟨g, 0, none⟩) n cap ∧ base ≤ g ∧ g < w.heap.size ∧ XBlk w g cap l rest) := by
  have hl : l.length = n := by have := h.1; rw [flatX_length] at this; omega
  refine ⟨hl, ?_⟩
  rcases h.2 with ⟨rfl, h0⟩ | ⟨g, cap, cur, rfl, hb, hh, h1, h2, h3, h4⟩
  · subst h0
    exact .inl ⟨rfl, List.eq_nil_of_length_eq_zero hl⟩
  · refine .inr ⟨g, cap, cur.toList.drop (n * 2), rfl, hb, Blk.lt (t := 128) (cs := cur) hh, ?_, ?_, h2⟩
    · rw [← h4, List.take_append_drop]
      exact hh
    · have hc : cur.toList.length = cap * 2 := by simpa using h3
      rw [List.length_drop, hc, hl]
      omega

end Sp
end Go.Proofs.Ytmmkncocgjgapaa

/- The walk of slices.Insert at extents, one element. -/
namespace Go.Proofs.Ytmmkncocgjgapaa.Sp
open Go.RowKit

theorem overlaps_apart {w : World} {b1 b2 : Nat} {c1 c2 : Array Value} (h1 : Blk w b1 128 c1) (h2 : Blk w b2 128 c2) (hne : b1 ≠ b2) (hk : c2.size ≠ 0) (o1 o2 la ca lb cb : Nat) :
    (callFunc 73 #[.slice (some ⟨b1, o1, none⟩) la ca, .slice (some ⟨b2, o2, none⟩) lb cb]).run Try.prog w = .ok (.value (.bool false)) w := by
  have s1 : w.shape? b1 = some (128, c1.size) := by unfold World.shape?; rw [show w.heap[b1]? = _ from h1]
  have s2 : w.shape? b2 = some (128, c2.size) := by unfold World.shape?; rw [show w.heap[b2]? = _ from h2]
  rw [run_callFunc_extern (f := 73) (fn := Try.f73) Try.func73 (by kernel_rfl) (by kernel_rfl) (by kernel_rfl) (e := Extern.SlicesOverlaps.overlaps #[125, 125] #[4]) (by kernel_rfl),
    Lib.run_overlaps_apart w 125 4 128 Try.underlying125 2 (fun w => by kernel_rfl) ⟨b1, o1, none⟩ ⟨b2, o2, none⟩ la ca lb cb hne 128 128 _ _ s1 s2 hk (h1.frozen _) (h1.frozen _)]
  rfl

/-- What a turned row of extents is told as. -/
def RowTold (W : World) (base : Nat) (own : Option Nat) (L : List Ext) (e : Ending) (w' : World) : Prop :=
  ∃ a k c, e = .returned (.slice a k c) ∧ w'.ownsRow base 128 2 (.slice a k c) k (flatX L) ∧ Chg (fun k => some k = own) W w' ∧ ((Value.slice a k c).ownBlock = own ∨ ∃ q, (Value.slice a k c).ownBlock = some q ∧ W.heap.size ≤ q)

theorem splice_after {P r X : List Value} {a : Nat} (h : a = P.length) : splice (P ++ r) a X = P ++ (X ++ r.drop X.length) := by
  subst h
  unfold splice
  rw [List.take_left, ← List.drop_drop, List.drop_left]
theorem splice_two {P r X Y : List Value} {a b : Nat} (h : a = P.length) (hb : b = a + X.length) : splice (splice (P ++ r) a X) b Y = P ++ (X ++ (Y ++ r.drop (X.length + Y.length))) := by
  rw [splice_after h, ← List.append_assoc, splice_after (by simp; omega), List.drop_drop, List.append_assoc]
theorem splice_up {S X Y : List Value} {a b : Nat} (hb : b = a + Y.length) (hl : b ≤ S.length) : splice (splice S b X) a Y = S.take a ++ (Y ++ (X ++ S.drop (b + X.length))) := by
  have h1 : splice S b X = S.take a ++ ((S.drop a).take Y.length ++ (X ++ S.drop (b + X.length))) := by
    unfold splice
    rw [hb, List.take_add, List.append_assoc]
  rw [h1, splice_after (by simp; omega)]
  congr 2
  rw [List.drop_append_of_le_length (by simp; omega), List.drop_eq_nil_of_le (by simp; omega), List.nil_append]
theorem row_src {w : World} {a : Option Addr} {xs : List Value} (h : Row w a xs) (hp : 0 < xs.length) : ∃ ad, a = some ad ∧ ∀ j v, xs[j]? = some v → w.cell? (ad.add j) = some v := by
  obtain ⟨x, hx, _⟩ := h 0 hp
  refine ⟨x, hx, fun j v hj => ?_⟩
  obtain ⟨hlt, rfl⟩ := List.getElem?_eq_some_iff.1 hj
  obtain ⟨y, hy, hc⟩ := h j hlt
  rw [hx] at hy
  injection hy with hy
  subst hy
  rw [hc, List.getElem?_eq_getElem hlt]
/-- A part of a row, read from its place on. -/
theorem XBlk.row {w : World} {g cap : Nat} {L : List Ext} {rest : List Value} (h : XBlk w g cap L rest) (i j : Nat) (hj : j ≤ L.length) : Row w (some ⟨g, i * 2, none⟩) (flatX ((L.take j).drop i)) := by
  have h1 := (Row.of_blk h.blk).take (j * 2)
  have ht : ((flatX L ++ rest).toArray.toList).take (j * 2) = flatX (L.take j) := by
    rw [List.take_append_of_le_length (by rw [flatX_length]; omega), flatX_take]
  rw [ht] at h1
  have h2 := h1.drop (i * 2)
  rwa [flatX_drop, Nat.zero_add] at h2
theorem XBlk.chg {w w' : World} {g cap : Nat} {L : List Ext} {rest : List Value} {S : Nat → Prop} (h : XBlk w g cap L rest) (hc : Chg S w w') (hg : ¬ S g) : XBlk w' g cap L rest := ⟨h.blk.chg hc hg, h.len, h.cap⟩
theorem XBlk.below {w w' : World} {g cap : Nat} {L : List Ext} {rest : List Value} (h : XBlk w g cap L rest) (hb : Below w.heap.size w w') : XBlk w' g cap L rest := ⟨h.blk.below hb h.blk.lt, h.len, h.cap⟩
theorem RowTold.mk' {W w' : World} {base g cap : Nat} {own : Option Nat} {L : List Ext} {rest : List Value} {n : Nat} (h : XBlk w' g cap L rest) (hb : base ≤ g) (hn : n = L.length) (hf : some g = own ∨ W.heap.size ≤ g) (hc : Chg (fun k => some k = own) W w') : RowTold W base own L (.returned (.slice (some ⟨g, 0, none⟩) n cap)) w' := by
  subst hn
  exact ⟨_, _, _, rfl, h.own hb, hc, hf.elim (fun e => .inl e) (fun e => .inr ⟨g, rfl, e⟩)⟩

set_option maxRecDepth 100000 in
set_option maxHeartbeats 1000000 in
theorem insert_grow (L : List Ext) (x : Ext) (i g cap vb base : Nat) (rest : List Value) (w : World) (hX : XBlk w g cap L rest) (hB : Blk w vb 128 #[.int .i64 (x.1 : Int), .int .i64 (x.2 : Int)]) (hne : g ≠ vb)
    (hi : i < L.length) (hL : L.length ≤ 1000000) (hcap : cap ≤ L.length) (hc : L.length ≤ cap) (hb : base ≤ w.heap.size) :
    Calls Try.prog 72 #[.slice (some ⟨g, 0, none⟩) L.length cap, .int .i64 (i : Int), .slice (some ⟨vb, 0, none⟩) 1 1] w (RowTold w base (some g) (L.take i ++ x :: L.drop i)) := by
  obtain ⟨n, hn⟩ : ∃ n, L.length = n := ⟨_, rfl⟩
  rw [hn] at hi hL hcap hc ⊢
  have hnot : ¬ (i : Int) = n := by omega
  have hnot2 : ((i : Int) == n) = false := by simp; omega
  have HX := Lib.hid hX
  have HB := Lib.hid hB
  have HN := Lib.hid hn
  have HR := Lib.hid (hX.row 0 i (by omega))
  have hne1 : ¬ cap = i := by omega
  have hgl := hX.blk.lt
  clear hX hB hn
  go_enter Try.func72, Try.ntmps72
  go_wp2_with (at_builtin; go_must (refine wpList_append_zeros rfl (.tmp 34) (.tmp 39) _ 3 rfl 128 .i64 .i64 2 16 _ Try.underlying125 Try.underlying3 info_ext rfl (by omega) i cap (some ⟨g, 0, none⟩) (n + 1 - i) (flatX (L.take i)) rfl (congrArg (Value.int .i64) (show (n : Int) + 1 - i = ((n + 1 - i : Nat) : Int) by omega)) (by rw [flatX_length, List.length_take, HN.out]; omega) HR.out (by omega) (by unfold maxLen; omega) (by omega) (by omega) (by omega) (n + 1) (by omega) ?_))
  intro w1 C S1 hC HS1L HS1 hB1 hb1
  have hCn : n + 1 ≤ C := hC.out.1
  have q2 : ¬ (C = i) := by omega
  have hb1z := hb1.out.size
  have HB1 := Lib.hid (HB.out.below hb1.out HB.out.lt)
  have RV : Hid (Row w1 (some ⟨vb, 0, none⟩) (flatX [x])) := Lib.hid (Row.of_blk HB1.out)
  have HX1 := Lib.hid (HX.out.below hb1.out)
  go_wp2_with (with_reducible refine wpList_copy_at (o := ⟨some 45, _, _, _, _, _⟩) rfl (.tmp 43) (.tmp 44) 125 125 ?h2 128 2 Try.underlying125 size_ext (some ⟨w.heap.size, i * 2, none⟩) (some ⟨vb, 0, none⟩) (n + 1 - i) (C - i) 1 1 ?h4 ?h5 w.heap.size (i * 2) S1 128 hB1.out (flatX [x]) ?c1 (fun h => ⟨rfl, row_src RV.out h⟩) ?c3 (flatX_one _) ?_)
  case h2 => rfl
  case h4 => rfl
  case h5 => rfl
  case c1 => rw [flatX_length, show Nat.min 1 (n + 1 - i) = 1 from Nat.min_eq_left (by omega)]; rfl
  case c3 => rw [HS1L.out, flatX_length, List.length_singleton]; omega
  intro w2 hB2 hc2
  have q3 : ¬ (C = i + 1) := by omega
  have RL := Lib.hid ((HX1.out.chg hc2.out (by omega)).row i n (by have := HN.out; omega))
  go_wp2_with fail
  have s1 : IntKind.i64.wrap ((i : Int) + 1) = (i : Int) + 1 := by rw [IntKind.wrap_i64]; omega
  have s2 : (0 : Int) ≤ (i : Int) + 1 := by omega
  have s3 : (i : Int) + 1 ≤ (n : Int) + 1 := by omega
  have s4 : ((i : Int) + 1).toNat = i + 1 := by omega
  have s5 : (0 : Int) ≤ (i : Int) := by omega
  have s6 : (i : Int) ≤ (n : Int) := by omega
  have s7 : n + 1 - (i + 1) = n - i := by omega
  go_region_law (refine step_copy_at rfl (.tmp 50) (.tmp 53) 125 125 (by rfl) 128 2 Try.underlying125 size_ext (some ⟨w.heap.size, (i + 1) * 2, none⟩) (some ⟨g, i * 2, none⟩) (n - i) (C - (i + 1)) (n - i) (cap - i) (by simp [Act.eval, Act.put]) (by simp [Act.eval, Act.put]) w.heap.size ((i + 1) * 2) (splice S1 (i * 2) (flatX [x])) 128 hB2.out (flatX ((L.take n).drop i)) (by rw [flatX_length, List.length_drop, List.length_take, HN.out, Nat.min_self, show Nat.min (n - i) (n - i) = n - i from Nat.min_self _]) (fun h => ⟨rfl, row_src RL.out h⟩) (by rw [length_splice _ _ _ (by rw [HS1L.out, flatX_length, List.length_singleton]; omega), HS1L.out, flatX_length, List.length_drop, List.length_take, HN.out, Nat.min_self]; omega) (flatX_one _) ?_; intro w3 hB3 hc3)
  all_goals
    obtain ⟨r, hr⟩ := HS1.out
    have hX3 : XBlk w3 w.heap.size C (L.take i ++ x :: L.drop i) (r.drop ((flatX [x]).length + (flatX ((L.take n).drop i)).length)) := by
      have hSL := HS1L.out
      have hdr : (L.take n).drop i = L.drop i := by rw [List.take_of_length_le (by rw [HN.out]; exact Nat.le_refl _)]
      rw [hr, List.length_append, flatX_length, List.length_take, HN.out] at hSL
      refine ⟨?_, ?_, hC.out.2⟩
      · have h := hB3.out
        rw [hr, splice_two (by rw [flatX_length, List.length_take, HN.out]; omega) (by rw [flatX_length, List.length_singleton]; omega), ← List.append_assoc, ← List.append_assoc, ← flatX_append, ← flatX_append] at h
        rw [hdr] at h ⊢
        rw [List.append_assoc] at h
        simpa using h
      · rw [hdr, List.length_append, List.length_cons, List.length_take, List.length_drop, HN.out, List.length_drop, flatX_length, flatX_length, List.length_singleton, List.length_drop, HN.out]
        omega
    go_wp2_with fail
    go_ret
    refine RowTold.mk' hX3 hb (by rw [List.length_append, List.length_cons, List.length_take, List.length_drop, HN.out]; omega) (.inr (Nat.le_refl _)) ?_
    exact (((Chg.of_below' hb1.out).trans hc2.out (fun k hk e => by omega)).drew.trans hc3.out (fun k hk e => by omega))

end Go.Proofs.Ytmmkncocgjgapaa.Sp

/- The walk of slices.Insert at extents, one element: in place, and at the end. -/
namespace Go.Proofs.Ytmmkncocgjgapaa.Sp
open Go.RowKit

set_option maxRecDepth 100000 in
set_option maxHeartbeats 1000000 in
theorem insert_room (L : List Ext) (x : Ext) (i g cap vb base : Nat) (rest : List Value) (w : World) (hX : XBlk w g cap L rest) (hB : Blk w vb 128 #[.int .i64 (x.1 : Int), .int .i64 (x.2 : Int)]) (hne : g ≠ vb)
    (hi : i < L.length) (hL : L.length ≤ 1000000) (hc : L.length + 1 ≤ cap) (hb : base ≤ g) :
    Calls Try.prog 72 #[.slice (some ⟨g, 0, none⟩) L.length cap, .int .i64 (i : Int), .slice (some ⟨vb, 0, none⟩) 1 1] w (RowTold w base (some g) (L.take i ++ x :: L.drop i)) := by
  obtain ⟨n, hn⟩ : ∃ n, L.length = n := ⟨_, rfl⟩
  rw [hn] at hi hL hc ⊢
  have hmax : cap ≤ 9223372036854775807 := by have := hX.cap; unfold maxLen at this; omega
  have hnot : ¬ (i : Int) = n := by omega
  have hnot2 : ((i : Int) == n) = false := by simp; omega
  have hno : ¬ ((cap : Int) < (n : Int) + 1) := by omega
  have HX := Lib.hid hX
  have HB := Lib.hid hB
  have HN := Lib.hid hn
  have hne1 : ¬ cap = i := by omega
  have hne2 : ¬ cap = i + 1 := by omega
  have hov := overlaps_apart hB hX.blk (fun e => hne e.symm) (by rw [List.size_toArray, List.length_append, flatX_length]; have := hX.len; omega) 0 ((i + 1) * 2) 1 1 (n - i) (cap - (i + 1))
  have hgl := hX.blk.lt
  have HLEN := Lib.hid (show (flatX L ++ rest).length = cap * 2 by rw [List.length_append, flatX_length]; exact hX.len)
  obtain ⟨S, hS⟩ : ∃ S, S = flatX L ++ rest := ⟨_, rfl⟩
  have hblk := hX.blk
  rw [← hS] at HLEN hblk
  have HBK := Lib.hid hblk
  have HS := Lib.hid hS
  clear hX hB hn hblk hS
  have s1 : IntKind.i64.wrap ((i : Int) + 1) = (i : Int) + 1 := by rw [IntKind.wrap_i64]; omega
  have s2 : (0 : Int) ≤ (i : Int) + 1 := by omega
  have s3 : (i : Int) + 1 ≤ (n : Int) + 1 := by omega
  have s4 : ((i : Int) + 1).toNat = i + 1 := by omega
  have s5 : (0 : Int) ≤ (i : Int) := by omega
  have s6 : (i : Int) ≤ (n : Int) := by omega
  have s7 : n + 1 - (i + 1) = n - i := by omega
  have s8 : (i : Int) ≤ (n : Int) + 1 := by omega
  go_enter Try.func72, Try.ntmps72
  go_wp2_with fail
  have RL := Lib.hid (HX.out.row i n (by have := HN.out; omega))
  go_region_law (refine step_copy_at rfl (.tmp 73) (.tmp 76) 125 125 (by rfl) 128 2 Try.underlying125 size_ext (some ⟨g, (i + 1) * 2, none⟩) (some ⟨g, i * 2, none⟩) (n - i) (cap - (i + 1)) (n + 1 - i) (cap - i) (by simp [Act.eval, Act.put]) (by simp [Act.eval, Act.put]) g ((i + 1) * 2) S 128 HBK.out (flatX ((L.take n).drop i)) (by rw [flatX_length, List.length_drop, List.length_take, HN.out, Nat.min_self, show Nat.min (n + 1 - i) (n - i) = n - i from Nat.min_eq_right (by omega)]) (fun h => ⟨rfl, row_src RL.out h⟩) (by rw [HLEN.out, flatX_length, List.length_drop, List.length_take, HN.out, Nat.min_self]; omega) (flatX_one _) ?_; intro w3 hB3 hc3)
  have RV : Hid (Row w3 (some ⟨vb, 0, none⟩) (flatX [x])) := Lib.hid (Row.of_blk (HB.out.drew.chg hc3.out (fun e => hne e.symm)))
  go_wp2_with (with_reducible refine wpList_copy_at (o := ⟨some 82, _, _, _, _, _⟩) rfl (.tmp 80) (.tmp 81) 125 125 ?h2 128 2 Try.underlying125 size_ext (some ⟨g, i * 2, none⟩) (some ⟨vb, 0, none⟩) (n + 1 - i) (cap - i) 1 1 ?h4 ?h5 g (i * 2) _ 128 hB3.out (flatX [x]) ?c1 (fun h => ⟨rfl, row_src RV.out h⟩) ?c3 (flatX_one _) ?_)
  case h2 => rfl
  case h4 => rfl
  case h5 => rfl
  case c1 => rw [flatX_length, show Nat.min 1 (n + 1 - i) = 1 from Nat.min_eq_left (by omega)]; rfl
  case c3 => rw [length_splice _ _ _ (by rw [HLEN.out, flatX_length, List.length_drop, List.length_take, HN.out, Nat.min_self]; omega), HLEN.out, flatX_length, List.length_singleton]; omega
  intro w4 hB4 hc4
  have hX4 : XBlk w4 g cap (L.take i ++ x :: L.drop i) (S.drop ((i + 1) * 2 + (flatX ((L.take n).drop i)).length)) := by
    have hSL := HLEN.out
    have hdr : (L.take n).drop i = L.drop i := by rw [List.take_of_length_le (by rw [HN.out]; exact Nat.le_refl _)]
    have htk : S.take (i * 2) = flatX (L.take i) := by
      rw [HS.out, List.take_append_of_le_length (by rw [flatX_length, HN.out]; omega), flatX_take]
    refine ⟨?_, ?_, HX.out.cap⟩
    · have h := hB4.out
      rw [splice_up (by rw [flatX_length, List.length_singleton]; omega) (by rw [hSL]; omega), htk, ← List.append_assoc, ← List.append_assoc, ← flatX_append, ← flatX_append] at h
      rw [hdr] at h ⊢
      rw [List.append_assoc] at h
      simpa using h
    · rw [hdr, List.length_append, List.length_cons, List.length_take, List.length_drop, HN.out, List.length_drop, flatX_length, List.length_drop, HN.out, hSL]
      omega
  go_wp2_with fail
  go_ret
  refine RowTold.mk' hX4 hb (by rw [List.length_append, List.length_cons, List.length_take, List.length_drop, HN.out]; omega) (.inl rfl) ?_
  exact (((Chg.refl (fun k => some k = some g) w).drew.trans hc3.out (fun k hk e => by rw [e])).trans hc4.out (fun k hk e => by rw [e]))

theorem row_old {w : World} {a : Option Addr} {xs : List Value} (h : Row w a xs) (hp : 0 < xs.length) : ∃ g off, a = some ⟨g, off, none⟩ ∧ g < w.heap.size := by
  obtain ⟨b, off, h1, _, h2⟩ := h.at_ hp
  exact ⟨b, off, h1, h2⟩

set_option maxRecDepth 100000 in
set_option maxHeartbeats 1000000 in
theorem insert_end (L : List Ext) (x : Ext) (v : Value) (vb base n : Nat) (w : World) (hown : w.ownsRow base 128 2 v n (flatX L)) (hB : Blk w vb 128 #[.int .i64 (x.1 : Int), .int .i64 (x.2 : Int)])
    (hL : L.length ≤ 1000000) (hb : base ≤ w.heap.size) :
    Calls Try.prog 72 #[v, .int .i64 (n : Int), .slice (some ⟨vb, 0, none⟩) 1 1] w (RowTold w base v.ownBlock (L ++ [x])) := by
  obtain ⟨hn, hv⟩ := XBlk.of_own hown
  have hsz : ∃ a c, v = .slice a n c ∧ n ≤ c ∧ c ≤ 9223372036854775807 := by
    rcases hv with ⟨rfl, rfl⟩ | ⟨g, cap, rest, rfl, _, _, h⟩
    · simp at hn
      subst hn
      exact ⟨none, 0, rfl, by omega, by omega⟩
    · have h1 := h.len
      have h2 := h.cap
      unfold maxLen at h2
      exact ⟨_, cap, rfl, by omega, by omega⟩
  obtain ⟨a, c, rfl, hnc, hcm⟩ := hsz
  have RV : Hid (Row w (some ⟨vb, 0, none⟩) (flatX [x])) := Lib.hid (Row.of_blk hB)
  have HO := Lib.hid hown
  have HN := Lib.hid hn
  have e1 : ((n : Int) == n) = true := by simp
  have hn6 : n ≤ 1000000 := by omega
  clear hv hown hB hn
  have hcase : n = c ∨ ¬ c = n := by omega
  rcases hcase with rfl | hcn
  all_goals
    go_enter Try.func72, Try.ntmps72
    go_wp2_with (at_builtin; go_must (refine wpList_append rfl (.tmp 23) (.tmp 24) _ rfl el_ext base _ _ _ rfl HO.out _ 1 1 (flatX [x]) rfl rfl RV.out (flatX_one _) (by unfold maxLen; omega) (by omega) hb ?_))
    rw [← flatX_append]
    intro v2 w2 hown2 hg2 hf2 _
    obtain ⟨h1, h2⟩ := XBlk.of_own hown2
    have hv2 : ∃ a2 c2, v2 = .slice a2 (n + 1) c2 := by
      rcases h2 with ⟨-, h⟩ | ⟨g, cap, rest, rfl, _⟩
      · simp at h
      · exact ⟨_, _, rfl⟩
    obtain ⟨a2, c2, rfl⟩ := hv2
    have HO2 := Lib.hid hown2
    have HF2 := Lib.hid hf2
    have H1 := Lib.hid h1
    clear hown2 h1 h2 hf2
    go_wp2_with fail
    go_ret
    exact ⟨a2, n + 1, c2, rfl, HO2.out, Chg.of_grown hg2, HF2.out.elim .inl (fun e => .inr ⟨_, e, Nat.le_refl _⟩)⟩

end Go.Proofs.Ytmmkncocgjgapaa.Sp

/- The walk of slices.Replace at extents. -/
namespace Go.Proofs.Ytmmkncocgjgapaa.Sp
open Go.RowKit

theorem insert_any (L : List Ext) (x : Ext) (v : Value) (vb base n i : Nat) (w : World) (hown : w.ownsRow base 128 2 v n (flatX L)) (hB : Blk w vb 128 #[.int .i64 (x.1 : Int), .int .i64 (x.2 : Int)]) (hne : v.ownBlock ≠ some vb)
    (hL : L.length ≤ 1000000) (hb : base ≤ w.heap.size) (hi : i ≤ L.length) :
    Calls Try.prog 72 #[v, .int .i64 (i : Int), .slice (some ⟨vb, 0, none⟩) 1 1] w (RowTold w base v.ownBlock (L.take i ++ x :: L.drop i)) := by
  by_cases hin : i = L.length
  · have hn := (XBlk.of_own hown).1
    have h := insert_end L x v vb base n w hown hB hL hb
    rw [← hn, ← hin] at h
    rw [List.take_of_length_le (by omega), List.drop_eq_nil_of_le (by omega)]
    exact h
  · obtain ⟨hn, hv⟩ := XBlk.of_own hown
    rcases hv with ⟨rfl, rfl⟩ | ⟨g, cap, rest, rfl, hbg, _, hX⟩
    · simp at hin; simp at hi; omega
    · have hgv : g ≠ vb := fun e => hne (by rw [e]; rfl)
      have hlen := hX.len
      subst hn
      by_cases hroom : L.length + 1 ≤ cap
      · exact insert_room L x i g cap vb base rest w hX hB hgv (by omega) hL hroom hbg
      · exact insert_grow L x i g cap vb base rest w hX hB hgv (by omega) hL (by omega) (by omega) hb

set_option maxRecDepth 100000 in
set_option maxHeartbeats 1000000 in
/-- Nothing is replaced by one extent. -/
theorem replace_insert (L : List Ext) (x : Ext) (a : Option Addr) (c vb base n i : Nat) (w : World) (hown : w.ownsRow base 128 2 (.slice a n c) n (flatX L)) (hB : Blk w vb 128 #[.int .i64 (x.1 : Int), .int .i64 (x.2 : Int)]) (hne : (Value.slice a n c).ownBlock ≠ some vb)
    (hL : L.length ≤ 1000000) (hb : base ≤ w.heap.size) (hi : i ≤ n) (hnc : n ≤ c) (hcm : c ≤ 9223372036854775807) :
    Calls Try.prog 64 #[.slice a n c, .int .i64 (i : Int), .int .i64 (i : Int), .slice (some ⟨vb, 0, none⟩) 1 1] w (RowTold w base (Value.slice a n c).ownBlock (L.take i ++ x :: L.drop i)) := by
  have hn := (XBlk.of_own hown).1
  have HI := Lib.hid (insert_any L x _ vb base n i w hown hB hne hL hb (by omega))
  have e1 : ((i : Int) == i) = true := by simp
  have hn6 : n ≤ 1000000 := by omega
  have hcase : i = c ∨ ¬ c = i := by omega
  clear hown hB hn
  rcases hcase with rfl | hci
  all_goals
    go_enter Try.func64, Try.ntmps64
    go_wp2_with fail
    refine HI.out.mono ?_
    rintro e w1 ⟨a1, k1, c1, rfl, hown1, hc1, hf1⟩
    have HF := Lib.hid hf1
    have HO := Lib.hid hown1
    have HC := Lib.hid hc1
    clear hown1 hc1 hf1
    go_wp2_with fail
    go_ret
    exact ⟨a1, k1, c1, rfl, HO.out, HC.out, HF.out⟩

theorem zero_one : ∀ v ∈ (Value.agg #[.int .i64 0, .int .i64 0]).cells, v.oneCell' = true := by
  intro v hv
  have h : v ∈ #[Value.int .i64 0, Value.int .i64 0] := hv
  simp at h
  subst h
  rfl
theorem XBlk.spliced {w w' : World} {g cap k : Nat} {L : List Ext} {rest cur zs : List Value} (h : XBlk w g cap L rest) (hw : Blk w g 128 cur.toArray) (h2 : Blk w' g 128 (splice cur k zs).toArray) (hk : k = L.length * 2) (hz : zs.length ≤ rest.length) :
    XBlk w' g cap L (zs ++ rest.drop zs.length) := by
  have e : cur = flatX L ++ rest := by
    have := (Blk.inj hw h.blk).2
    simpa using this
  have hl := h.len
  refine ⟨?_, ?_, h.cap⟩
  · rw [e, splice_after (by rw [flatX_length]; exact hk)] at h2
    exact h2
  · rw [List.length_append, List.length_drop]
    omega

set_option maxRecDepth 100000 in
set_option maxHeartbeats 2000000 in
/-- The end is replaced, within the room. -/
theorem replace_end (L V : List Ext) (i g cap base m vc : Nat) (va : Option Addr) (rest : List Value) (w : World) (hX : XBlk w g cap L rest) (hV : Row w va (flatX V)) (hm : V.length = m)
    (hi : i < L.length) (hL : L.length ≤ 1000000) (hm6 : m ≤ 2) (hroom : i + m ≤ cap) (hc : L.length ≤ cap) (hb : base ≤ g) :
    Calls Try.prog 64 #[.slice (some ⟨g, 0, none⟩) L.length cap, .int .i64 (i : Int), .int .i64 (L.length : Int), .slice va m vc] w (RowTold w base (some g) (L.take i ++ V)) := by
  obtain ⟨n, hn⟩ : ∃ n, L.length = n := ⟨_, rfl⟩
  rw [hn] at hi hL hc ⊢
  have hmax : cap ≤ 9223372036854775807 := by have := hX.cap; unfold maxLen at this; omega
  have hnot : ¬ (i : Int) = n := by omega
  have hnot2 : ((i : Int) == n) = false := by simp; omega
  have e1 : ((n : Int) == n) = true := by simp
  have HX := Lib.hid hX
  have HN := Lib.hid hn
  have HV := Lib.hid hV
  have HM := Lib.hid hm
  have hne1 : ¬ cap = i := by omega
  have HLEN := Lib.hid (show (flatX L ++ rest).length = cap * 2 by rw [List.length_append, flatX_length]; exact hX.len)
  obtain ⟨S, hS⟩ : ∃ S, S = flatX L ++ rest := ⟨_, rfl⟩
  have hblk := hX.blk
  rw [← hS] at HLEN hblk
  have HBK := Lib.hid hblk
  have HS := Lib.hid hS
  clear hX hn hblk hS hV hm
  have hpl : ∀ w1, Hid (Blk w1 g 128 (splice S (i * 2) (flatX V)).toArray) → XBlk w1 g cap (L.take i ++ V) (S.drop (i * 2 + m * 2)) := fun w1 hB1 => by
    have hSL := HLEN.out
    have htk : S.take (i * 2) = flatX (L.take i) := by
      rw [HS.out, List.take_append_of_le_length (by rw [flatX_length, HN.out]; omega), flatX_take]
    refine ⟨?_, ?_, HX.out.cap⟩
    · have h := hB1.out
      unfold splice at h
      rw [htk, ← List.append_assoc, ← flatX_append, flatX_length, HM.out] at h
      exact h
    · rw [List.length_append, List.length_take, HN.out, HM.out, List.length_drop, hSL]
      omega
  have HPL := Lib.hid hpl
  clear hpl
  have hlt : i + m < n ∨ ¬ (i + m < n) := by omega
  rcases hlt with hlt | hlt
  · have hlt2 : (i : Int) + m < n := by omega
    have hne2 : ¬ cap = i + m := by omega
    go_enter Try.func64, Try.ntmps64
    go_wp2_with (at_builtin; go_must (refine wpList_append_at rfl (.tmp 32) (.tmp 33) _ rfl 128 2 Try.underlying125 size_ext i cap g S rfl HBK.out va m vc (flatX V) rfl (by rw [flatX_length, HM.out]) HV.out (flatX_one _) (by omega) (by rw [flatX_length, HM.out, HLEN.out]; omega) (by omega) ?_))
    intro w1 hB1 hc1
    go_wp2_with (with_reducible refine wpList_clear_at (o := ⟨none, _, _, _, _, _⟩) rfl (.tmp 43) 125 ?h2 128 2 (.agg #[.int .i64 0, .int .i64 0]) Try.underlying125 zero_ext rfl ?h3 (some ⟨g, (i + m) * 2, none⟩) (n - (i + m)) (cap - (i + m)) ?h4 g ((i + m) * 2) (splice S (i * 2) (flatX V)) 128 hB1.out (fun _ => rfl) ?c3 ?_)
    case h2 => rfl
    case h3 => exact zero_one
    case h4 => rfl
    case c3 => rw [length_splice _ _ _ (by rw [HLEN.out, flatX_length, HM.out]; omega), HLEN.out]; omega
    intro w2 zs hz hB2 hc2
    have hX1 := HPL.out w1 hB1
    have hX2 := hX1.spliced hB1.out hB2.out (by rw [List.length_append, List.length_take, HN.out, HM.out, Nat.min_eq_left (by omega)]) (by rw [hz.out, List.length_drop, HLEN.out]; omega)
    go_wp2_with fail
    go_ret
    refine RowTold.mk' hX2 hb (by rw [List.length_append, List.length_take, HN.out, HM.out]; omega) (.inl rfl) ?_
    exact ((hc1.out.trans hc2.out (fun k hk e => e)).mono (fun k _ e => by rw [e]))
  · have hlt2 : ¬ ((i : Int) + m < n) := by omega
    go_enter Try.func64, Try.ntmps64
    go_wp2_with (at_builtin; go_must (refine wpList_append_at rfl (.tmp 32) (.tmp 33) _ rfl 128 2 Try.underlying125 size_ext i cap g S rfl HBK.out va m vc (flatX V) rfl (by rw [flatX_length, HM.out]) HV.out (flatX_one _) (by omega) (by rw [flatX_length, HM.out, HLEN.out]; omega) (by omega) ?_))
    intro w1 hB1 hc1
    have hX1 := HPL.out w1 hB1
    go_wp2_with fail
    go_ret
    refine RowTold.mk' hX1 hb (by rw [List.length_append, List.length_take, HN.out, HM.out]; omega) (.inl rfl) ?_
    exact hc1.out.mono (fun k _ e => by rw [e])

end Go.Proofs.Ytmmkncocgjgapaa.Sp

/- The walk of slices.Replace at extents: within the row. -/
namespace Go.Proofs.Ytmmkncocgjgapaa.Sp
open Go.RowKit

theorem XBlk.cut {w : World} {g cap : Nat} {L : List Ext} {rest : List Value} (h : XBlk w g cap L rest) (i : Nat) : XBlk w g cap (L.take i) (flatX (L.drop i) ++ rest) := by
  refine ⟨?_, ?_, h.cap⟩
  · rw [← List.append_assoc, ← flatX_append, List.take_append_drop]
    exact h.blk
  · have := h.len
    rw [List.length_append, flatX_length, List.length_take, List.length_drop]
    omega

set_option maxRecDepth 100000 in
set_option maxHeartbeats 1000000 in
/-- The end is replaced, past the room. -/
theorem replace_end_grow (L V : List Ext) (i g cap base m vc : Nat) (va : Option Addr) (rest : List Value) (w : World) (hX : XBlk w g cap L rest) (hV : Row w va (flatX V)) (hm : V.length = m)
    (hi : i < L.length) (hL : L.length ≤ 1000000) (hm6 : m ≤ 2) (hroom : ¬ i + m ≤ cap) (hc : L.length ≤ cap) (hb : base ≤ g) (hbw : base ≤ w.heap.size) :
    Calls Try.prog 64 #[.slice (some ⟨g, 0, none⟩) L.length cap, .int .i64 (i : Int), .int .i64 (L.length : Int), .slice va m vc] w (RowTold w base (some g) (L.take i ++ V)) := by
  obtain ⟨n, hn⟩ : ∃ n, L.length = n := ⟨_, rfl⟩
  have hO := (hX.cut i).own hb
  rw [List.length_take, Nat.min_eq_left (by omega)] at hO
  rw [hn] at hi hL hc ⊢
  have hmax : cap ≤ 9223372036854775807 := by have := hX.cap; unfold maxLen at this; omega
  have hnot : ¬ (i : Int) = n := by omega
  have hnot2 : ((i : Int) == n) = false := by simp; omega
  have e1 : ((n : Int) == n) = true := by simp
  have HO := Lib.hid hO
  have HV := Lib.hid hV
  have HM := Lib.hid hm
  have hne1 : ¬ cap = i := by omega
  have hlt2 : ¬ ((i : Int) + m < n) := by omega
  clear hX hn hV hm hO
  go_enter Try.func64, Try.ntmps64
  go_wp2_with (at_builtin; go_must (refine wpList_append rfl (.tmp 32) (.tmp 33) _ rfl el_ext base _ _ _ rfl HO.out va m vc (flatX V) rfl (by rw [flatX_length, HM.out]) HV.out (flatX_one _) (by unfold maxLen; omega) (by omega) hbw ?_))
  rw [← flatX_append]
  intro v2 w2 hown2 hg2 hf2 _
  obtain ⟨h1, h2⟩ := XBlk.of_own hown2
  have hv2 : ∃ a2 c2, v2 = .slice a2 (i + m) c2 := by
    rcases h2 with ⟨rfl, h⟩ | ⟨g, cap, rest, rfl, _⟩
    · rw [h] at h1
      simp at h1
      exact ⟨none, 0, by rw [← h1]⟩
    · exact ⟨_, _, rfl⟩
  obtain ⟨a2, c2, rfl⟩ := hv2
  have HO2 := Lib.hid hown2
  have HG2 := Lib.hid hg2
  have HF2 := Lib.hid hf2
  clear hown2 h1 h2 hg2 hf2
  go_wp2_with fail
  go_ret
  exact ⟨a2, i + m, c2, rfl, HO2.out, Chg.of_grown HG2.out, HF2.out.elim .inl (fun e => .inr ⟨_, e, Nat.le_refl _⟩)⟩

theorem take_S {L : List Ext} {rest S : List Value} (hS : S = flatX L ++ rest) (i : Nat) (hi : i ≤ L.length) : S.take (i * 2) = flatX (L.take i) := by
  rw [hS, List.take_append_of_le_length (by rw [flatX_length]; omega), flatX_take]

set_option maxRecDepth 100000 in
set_option maxHeartbeats 2000000 in
/-- Within the row, by as many or fewer. -/
theorem replace_fewer (L V : List Ext) (i j g cap base m vc : Nat) (va : Option Addr) (rest : List Value) (w : World) (hX : XBlk w g cap L rest) (hV : Row w va (flatX V)) (hm : V.length = m) (hva : ∀ x, va = some x → x.block ≠ g)
    (hij : i < j) (hj : j < L.length) (hL : L.length ≤ 1000000) (hmij : i + m ≤ j) (hc : L.length ≤ cap) (hb : base ≤ g) :
    Calls Try.prog 64 #[.slice (some ⟨g, 0, none⟩) L.length cap, .int .i64 (i : Int), .int .i64 (j : Int), .slice va m vc] w (RowTold w base (some g) (L.take i ++ (V ++ L.drop j))) := by
  obtain ⟨n, hn⟩ : ∃ n, L.length = n := ⟨_, rfl⟩
  rw [hn] at hj hL hc ⊢
  have hmax : cap ≤ 9223372036854775807 := by have := hX.cap; unfold maxLen at this; omega
  have hnot2 : ((i : Int) == j) = false := by simp; omega
  have hnot3 : ((j : Int) == n) = false := by simp; omega
  have HX := Lib.hid hX
  have HN := Lib.hid hn
  have HV := Lib.hid hV
  have HM := Lib.hid hm
  have HVA := Lib.hid hva
  have hne1 : ¬ cap = i := by omega
  have hne2 : ¬ cap = i + m := by omega
  have hne3 : ¬ cap = j := by omega
  have HLEN := Lib.hid (show (flatX L ++ rest).length = cap * 2 by rw [List.length_append, flatX_length]; exact hX.len)
  obtain ⟨S, hS⟩ : ∃ S, S = flatX L ++ rest := ⟨_, rfl⟩
  have hblk := hX.blk
  rw [← hS] at HLEN hblk
  have HBK := Lib.hid hblk
  have HS := Lib.hid hS
  have hle1 : (i : Int) + m ≤ j := by omega
  have s0 : ((n - j : Nat) : Int) = (n : Int) - j := by omega
  have s1 : IntKind.i64.wrap ((i : Int) + m) = (i : Int) + m := by rw [IntKind.wrap_i64]; omega
  have s2 : IntKind.i64.wrap ((i : Int) + m + ((n - j : Nat) : Int)) = (i : Int) + m + ((n - j : Nat) : Int) := by rw [IntKind.wrap_i64]; omega
  have s4 : ((i : Int) + m).toNat = i + m := by omega
  have s5 : (0 : Int) ≤ (i : Int) := by omega
  have s6 : (i : Int) ≤ (n : Int) := by omega
  have s7 : (0 : Int) ≤ (j : Int) := by omega
  have s8 : (j : Int) ≤ (n : Int) := by omega
  have s9 : (0 : Int) ≤ (i : Int) + m := by omega
  have t1 : ¬ ((cap : Int) < (i : Int) + m + ((n : Int) - j)) := by omega
  have t2 : (i : Int) + m ≤ (i : Int) + m + ((n : Int) - j) := by omega
  have t3 : (i : Int) + m + ((n : Int) - j) ≤ (n : Int) := by omega
  have t4 : (0 : Int) ≤ (i : Int) + m + ((n : Int) - j) := by omega
  have t5 : ((i : Int) + m + ((n : Int) - j)).toNat = i + m + (n - j) := by omega
  have hct : (cap = i + m + (n - j)) = True ∨ (cap = i + m + (n - j)) = False := by
    by_cases h : cap = i + m + (n - j)
    · exact .inl (eq_true h)
    · exact .inr (eq_false h)
  clear hX hn hblk hS hV hm hva
  go_enter Try.func64, Try.ntmps64
  go_wp2_with fail
  go_quiet (fail)
  go_wp2_with (with_reducible refine wpList_copy_at (o := ⟨some 97, _, _, _, _, _⟩) rfl (.tmp 95) (.tmp 96) 125 125 ?h2 128 2 Try.underlying125 size_ext (some ⟨g, i * 2, none⟩) va (i + m + (n - j) - i) (cap - i) m vc ?h4 ?h5 g (i * 2) S 128 (HBK.out.drewN _) (flatX V) ?c1 (fun h => ⟨rfl, row_src (HV.out.drewN _) h⟩) ?c3 (flatX_one _) ?_)
  case h2 => rfl
  case h4 => rfl
  case h5 => rfl
  case c1 => rw [flatX_length, HM.out, show Nat.min m (i + m + (n - j) - i) = m from Nat.min_eq_left (by omega)]
  case c3 => rw [HLEN.out, flatX_length, HM.out]; omega
  intro w1 hB1 hc1
  go_wp2_with fail
  have hdrop : S.drop (j * 2) = flatX (L.drop j) ++ rest := by rw [HS.out, List.drop_append_of_le_length (by rw [flatX_length, HN.out]; omega), flatX_drop]
  have htake := take_S HS.out i (by rw [HN.out]; omega)
  have hS1 : splice S (i * 2) (flatX V) = flatX (L.take i) ++ (flatX V ++ S.drop (i * 2 + (flatX V).length)) := by unfold splice; rw [htake]
  have hrow : Row w1 (some ⟨g, j * 2, none⟩) (flatX (L.drop j)) := by
    have h := (Row.of_blk hB1.out).drop (j * 2)
    rw [Nat.zero_add] at h
    have e : (splice S (i * 2) (flatX V)).toArray.toList.drop (j * 2) = flatX (L.drop j) ++ rest := by
      show (splice S (i * 2) (flatX V)).drop (j * 2) = _
      unfold splice
      rw [List.drop_append, List.drop_append, List.drop_drop, flatX_length, HM.out, List.length_take, HLEN.out, Nat.min_eq_left (by omega), List.drop_eq_nil_of_le (by rw [List.length_take, HLEN.out]; omega), List.nil_append,
        List.drop_eq_nil_of_le (by rw [flatX_length, HM.out]; omega), List.nil_append, show i * 2 + m * 2 + (j * 2 - i * 2 - m * 2) = j * 2 by omega, hdrop]
    rw [e] at h
    have h2 := h.take (flatX (L.drop j)).length
    rwa [List.take_left] at h2
  have HROW := Lib.hid hrow
  have HDR := Lib.hid hdrop
  have HTK := Lib.hid htake
  have HS1 := Lib.hid hS1
  clear hrow hdrop htake hS1
  go_region_law (refine step_copy_at rfl (.tmp 103) (.tmp 106) 125 125 (by rfl) 128 2 Try.underlying125 size_ext (some ⟨g, (i + m) * 2, none⟩) (some ⟨g, j * 2, none⟩) (i + m + (n - j) - (i + m)) (cap - (i + m)) (n - j) (cap - j) (by simp [Act.eval, Act.put]) (by simp [Act.eval, Act.put]) g ((i + m) * 2) (splice S (i * 2) (flatX V)) 128 hB1.out (flatX (L.drop j)) (by rw [flatX_length, List.length_drop, HN.out, show Nat.min (n - j) (i + m + (n - j) - (i + m)) = n - j from Nat.min_eq_left (by omega)]) (fun h => ⟨rfl, row_src HROW.out h⟩) (by rw [length_splice _ _ _ (by rw [HLEN.out, flatX_length, HM.out]; omega), HLEN.out, flatX_length, List.length_drop, HN.out]; omega) (flatX_one _) ?_; intro w3 hB3 hc3)
  have hX3 : XBlk w3 g cap (L.take i ++ (V ++ L.drop j)) ((S.drop (i * 2)).drop ((flatX V).length + (flatX (L.drop j)).length)) := by
    have h := hB3.out
    have e : S = flatX (L.take i) ++ S.drop (i * 2) := by rw [← HTK.out, List.take_append_drop]
    rw [e, splice_two (by rw [flatX_length, List.length_take, HN.out]; omega) (by rw [flatX_length, HM.out]; omega), ← List.append_assoc (flatX V), ← List.append_assoc (flatX (List.take i L)), ← flatX_append, ← flatX_append] at h
    refine ⟨h, ?_, HX.out.cap⟩
    rw [List.length_append, List.length_append, List.length_take, List.length_drop, HN.out, HM.out, List.length_drop, List.length_drop, HLEN.out, flatX_length, flatX_length, HM.out, List.length_drop, HN.out]
    omega
  have HX3 := Lib.hid hX3
  clear hX3
  rcases hct with hct | hct
  · go_wp2_with (with_reducible refine wpList_clear_at (o := ⟨none, _, _, _, _, _⟩) rfl (.tmp 110) 125 ?h2a 128 2 (.agg #[.int .i64 0, .int .i64 0]) Try.underlying125 zero_ext rfl ?h3a (some ⟨g, 0, none⟩) (n - (i + m + (n - j))) (cap - (i + m + (n - j))) ?h4a g ((i + m + (n - j)) * 2) _ 128 hB3.out (fun h => absurd h (by have := of_eq_true hct; omega)) ?c3a ?_)
    case h2a => rfl
    case h3a => exact zero_one
    case h4a => rfl
    case c3a =>
      rw [length_splice _ _ _ (by rw [length_splice _ _ _ (by rw [HLEN.out, flatX_length, HM.out]; omega), HLEN.out, flatX_length, List.length_drop, HN.out]; omega), length_splice _ _ _ (by rw [HLEN.out, flatX_length, HM.out]; omega), HLEN.out]
      omega
    intro w4 zs hz hB4 hc4
    have hX4 := HX3.out.spliced hB3.out hB4.out (by rw [List.length_append, List.length_append, List.length_take, List.length_drop, HN.out, HM.out, Nat.min_eq_left (by omega)]; omega) (by rw [hz.out, List.length_drop, List.length_drop, HLEN.out, flatX_length, flatX_length, HM.out, List.length_drop, HN.out]; omega)
    go_wp2_with fail
    go_ret
    refine RowTold.mk' hX4 hb (by rw [List.length_append, List.length_append, List.length_take, List.length_drop, HN.out, HM.out, Nat.min_eq_left (by omega)]; omega) (.inl rfl) ?_
    exact ((((Chg.refl (fun k => some k = some g) w).drewN _).trans hc1.out (fun k hk e => by rw [e])).drew.trans hc3.out (fun k hk e => by rw [e])).trans hc4.out (fun k hk e => by rw [e])
  · go_wp2_with (with_reducible refine wpList_clear_at (o := ⟨none, _, _, _, _, _⟩) rfl (.tmp 110) 125 ?h2b 128 2 (.agg #[.int .i64 0, .int .i64 0]) Try.underlying125 zero_ext rfl ?h3b (some ⟨g, (i + m + (n - j)) * 2, none⟩) (n - (i + m + (n - j))) (cap - (i + m + (n - j))) ?h4b g ((i + m + (n - j)) * 2) _ 128 hB3.out (fun _ => rfl) ?c3b ?_)
    case h2b => rfl
    case h3b => exact zero_one
    case h4b => rfl
    case c3b =>
      rw [length_splice _ _ _ (by rw [length_splice _ _ _ (by rw [HLEN.out, flatX_length, HM.out]; omega), HLEN.out, flatX_length, List.length_drop, HN.out]; omega), length_splice _ _ _ (by rw [HLEN.out, flatX_length, HM.out]; omega), HLEN.out]
      omega
    intro w4 zs hz hB4 hc4
    have hX4 := HX3.out.spliced hB3.out hB4.out (by rw [List.length_append, List.length_append, List.length_take, List.length_drop, HN.out, HM.out, Nat.min_eq_left (by omega)]; omega) (by rw [hz.out, List.length_drop, List.length_drop, HLEN.out, flatX_length, flatX_length, HM.out, List.length_drop, HN.out]; omega)
    go_wp2_with fail
    go_ret
    refine RowTold.mk' hX4 hb (by rw [List.length_append, List.length_append, List.length_take, List.length_drop, HN.out, HM.out, Nat.min_eq_left (by omega)]; omega) (.inl rfl) ?_
    exact ((((Chg.refl (fun k => some k = some g) w).drewN _).trans hc1.out (fun k hk e => by rw [e])).drew.trans hc3.out (fun k hk e => by rw [e])).trans hc4.out (fun k hk e => by rw [e])

end Go.Proofs.Ytmmkncocgjgapaa.Sp
