/- The walks of the arena: what it grants, releases and tells, over plain data. Rooms of at most 2^40 words. -/
import Derived.Test.YtoodkfjldflbeaaHeap
import Derived.Test.YtoodkfjldflbeaaRows
import Derived.StillTailTactics
import Derived.Deep.QuietTactic
import Derived.BigQuiet
set_option linter.unusedVariables false
namespace Go.Proofs.Ytoodkfjldflbeaa.Arena
open Go.RowKit

/-- An arena: its room, what is used, the peak, and which grants stand (the block of each, how many words). -/
structure Ar where
  room : Nat
  used : Nat
  peak : Nat
  st : List (Nat × Nat)

def Ar.kv (A : Ar) : List (Nat × Value) := A.st.map fun p => (p.1, Value.int .i64 (p.2 : Int))
def Ar.ok (A : Ar) : Prop := A.used = (A.st.map (·.2)).sum ∧ A.used ≤ A.peak ∧ A.peak ≤ A.room ∧ (A.st.map (·.1)).Nodup ∧ A.room ≤ 1099511627776

abbrev TA : TypeId := 71
abbrev TB : TypeId := 43

/-- Block a is an arena's struct, block r its map. -/
structure At (w : World) (a r : Nat) (A : Ar) : Prop where
  blk : Blk w a 71 #[.int .i64 (A.room : Int), .int .i64 (A.used : Int), .int .i64 (A.peak : Int), .map (some r)]
  map : IsMap ptrKey w r A.kv
  bufs : ∀ p ∈ A.st, ∃ cs, Blk w p.1 43 cs
  ok : A.ok

theorem At.chg {w w' : World} {a r : Nat} {A : Ar} {S : Nat → Prop} (h : At w a r A) (hc : Chg S w w') (ha : ¬ S a) (hr : ¬ S r) (hb : ∀ p ∈ A.st, S p.1 → ∃ cs, Blk w' p.1 43 cs) : At w' a r A :=
  ⟨h.blk.chg hc ha, h.map.chg hc hr, fun p hp => by
    by_cases hs : S p.1
    · exact hb p hp hs
    · obtain ⟨cs, h1⟩ := h.bufs p hp
      exact ⟨cs, h1.chg hc hs⟩, h.ok⟩

theorem At.drewN {w : World} {a r : Nat} {A : Ar} (h : At w a r A) (n : Nat) : At (w.drewN n) a r A := ⟨h.blk, h.map, h.bufs, h.ok⟩
theorem At.cells {w : World} {a r : Nat} {A : Ar} (h : At w a r A) :
    w.cell? ⟨a, 0, none⟩ = some (.int .i64 (A.room : Int)) ∧ w.cell? ⟨a, 1, none⟩ = some (.int .i64 (A.used : Int)) ∧ w.cell? ⟨a, 2, none⟩ = some (.int .i64 (A.peak : Int)) ∧ w.cell? ⟨a, 3, none⟩ = some (.map (some r)) ∧
      (∀ i, w.frozen? ⟨a, i, none⟩ = false) ∧ a < w.heap.size ∧ r < w.heap.size ∧ a ≠ r :=
  ⟨h.blk.cell 0, h.blk.cell 1, h.blk.cell 2, h.blk.cell 3, fun i => h.blk.frozen i, h.blk.lt, h.map.lt, h.map.ne_blk h.blk⟩

theorem IntKind_sum (a b : Nat) (h : a + b ≤ 9223372036854775807) : IntKind.i64.wrap ((a : Int) + b) = (a : Int) + b := by rw [IntKind.wrap_i64]; omega

theorem max_nat (a b : Nat) : max (a : Int) (b : Int) = ((max a b : Nat) : Int) := by omega

set_option maxRecDepth 100000 in
set_option maxHeartbeats 400000 in
theorem new_any (room : Int) (w : World) (hr : room ≤ 1099511627776) (hr2 : -9223372036854775808 ≤ room) :
    Calls Try.prog 13 #[.int .i64 room] w fun e w' =>
      e = .returned (.pointer (some ⟨w.heap.size + 1, 0, none⟩)) ∧ At w' (w.heap.size + 1) w.heap.size ⟨room.toNat, 0, 0, []⟩ ∧ Below w.heap.size w w' := by
  have hmm := @run_makeMap Try.prog
  go_enter Try.func13, Try.ntmps13
  have hblk : ∀ (n : Int), n = (room.toNat : Int) → At ((w.alloc (.map #[] 0)).alloc (.cells #[.int .i64 n, .int .i64 0, .int .i64 0, .map (some w.heap.size)] 71)) (w.heap.size + 1) w.heap.size ⟨room.toNat, 0, 0, []⟩ := by
    rintro n rfl
    have hs : (w.alloc (.map #[] 0)).heap.size = w.heap.size + 1 := by simp
    refine ⟨?_, ?_, fun p hp => by simp at hp, rfl, Nat.le_refl _, Nat.zero_le _, List.nodup_nil, by show room.toNat ≤ _; omega⟩
    · have := Blk.new (w.alloc (.map #[] 0)) 71 #[.int .i64 (room.toNat : Int), .int .i64 0, .int .i64 0, .map (some w.heap.size)]
      rw [hs] at this
      exact this
    · exact (IsMap.new ptrKey w).alloc _
  have Hblk := Lib.hid hblk
  clear hblk
  go_wp2
  all_goals
    go_ret
    exact ⟨rfl, Hblk.out _ (by omega), ((Below.refl _ _).alloc (Nat.le_refl _) _).alloc (by simp) _⟩

/-- A grant. -/
def Ar.grant (A : Ar) (n b : Nat) : Ar := ⟨A.room, A.used + n, max A.peak (A.used + n), A.st ++ [(b, n)]⟩

/-- What a grant comes to. -/
def Granted (a r : Nat) (A : Ar) (n : Nat) (w : World) (e : Ending) (w' : World) : Prop :=
  ∃ b d, e = .returned (.tuple #[.pointer (some ⟨b, 0, none⟩), .int .i64 0]) ∧ At w' a r (A.grant n b) ∧ Blk w' b 43 #[.slice (some ⟨d, 0, none⟩) n n] ∧
    Blk w' d 33 (Array.replicate n (.int .u64 0)) ∧ w.heap.size ≤ b ∧ w.heap.size ≤ d ∧ b ≠ d ∧ Chg (fun k => k = a ∨ k = r) w w'

theorem At.new_key {w : World} {a r : Nat} {A : Ar} (h : At w a r A) {b : Nat} (hb : w.heap.size ≤ b) : b ∉ A.st.map (·.1) := by
  intro hm
  obtain ⟨p, hp, rfl⟩ := List.mem_map.1 hm
  obtain ⟨cs, hc⟩ := h.bufs p hp
  have := hc.lt
  omega

theorem locate_none {κ : Type} [DecidableEq κ] (k : κ) : ∀ (l : List (κ × Value)) (i : Nat), k ∉ l.map (·.1) → locate k l i = none := by
  intro l
  induction l with
  | nil => intro i _; rfl
  | cons p l ih =>
    intro i h
    rw [List.map_cons, List.mem_cons, not_or] at h
    unfold locate
    rw [if_neg (fun e => h.1 e.symm), ih _ h.2]

theorem kv_keys (A : Ar) : A.kv.map (·.1) = A.st.map (·.1) := by
  unfold Ar.kv
  rw [List.map_map]
  rfl

theorem sum_snoc (l : List Nat) (n : Nat) : (l ++ [n]).sum = l.sum + n := by simp

theorem grant_okA {A : Ar} (h : A.ok) {n b : Nat} (hn : n ≤ A.room - A.used) (hb : b ∉ A.st.map (·.1)) : (A.grant n b).ok := by
  obtain ⟨h1, h2, h3, h4, h5⟩ := h
  refine ⟨?_, ?_, ?_, ?_, h5⟩
  · show A.used + n = ((A.st ++ [(b, n)]).map (·.2)).sum
    rw [List.map_append, List.map_cons, List.map_nil, sum_snoc, ← h1]
  · exact Nat.le_max_right _ _
  · show max A.peak (A.used + n) ≤ A.room
    omega
  · show ((A.st ++ [(b, n)]).map (·.1)).Nodup
    rw [List.map_append, List.map_cons, List.map_nil, List.nodup_append]
    refine ⟨h4, by simp, ?_⟩
    intro x hx y hy
    simp at hy
    subst hy
    intro e
    subst e
    exact hb hx

theorem grant_close {a r : Nat} {A : Ar} {n : Nat} {w W w2 w3 : World} {X : Int} (hA1 : At W a r A) (hW : Chg (fun k => k = a ∨ k = r) w W) (hn : n ≤ A.room - A.used)
    (hm3 : IsMap ptrKey w3 r (put_ A.kv (W.heap.size + 1) (.int .i64 (n : Int))))
    (hg2 : Chg (fun k => k = r) ((W.alloc (.cells (same n (.int .u64 0)) 33)).alloc (.cells #[.slice (some ⟨W.heap.size, 0, none⟩) n n] 43)) w2)
    (hbl3 : Blk w3 a 71 (#[.int .i64 (A.room : Int), .int .i64 (A.used : Int), .int .i64 (A.peak : Int), .map (some r)].setIfInBounds 1 (.int .i64 ((A.used : Int) + n))))
    (hg3 : Chg (fun k => k = a) w2 w3) (hX : X = ((max A.peak (A.used + n) : Nat) : Int)) :
    Granted a r A n w (.returned (.tuple #[.pointer (some ⟨W.heap.size + 1, 0, none⟩), .int .i64 0])) (w3.drew.setCell ⟨a, 2, none⟩ (.int .i64 X)) := by
  obtain ⟨-, -, -, -, -, la, lr, lar⟩ := hA1.cells
  subst hX
  have hs1 : (W.alloc (.cells (same n (.int .u64 0)) 33)).heap.size = W.heap.size + 1 := by simp
  have hkey := hA1.new_key (b := W.heap.size + 1) (by omega)
  have hg4 : Chg (fun k => k = a) w3 (w3.drew.setCell ⟨a, 2, none⟩ (.int .i64 ((max A.peak (A.used + n) : Nat) : Int))) := ((Chg.refl _ w3).drew).setCell _ _ (fun _ => rfl)
  have hg : Chg (fun k => k = a) w2 (w3.drew.setCell ⟨a, 2, none⟩ (.int .i64 ((max A.peak (A.used + n) : Nat) : Int))) := hg3.trans hg4 (fun _ _ h => h)
  have hb4 : Blk (w3.drew.setCell ⟨a, 2, none⟩ (.int .i64 ((max A.peak (A.used + n) : Nat) : Int))) a 71 #[.int .i64 (A.room : Int), .int .i64 ((A.used + n : Nat) : Int), .int .i64 ((max A.peak (A.used + n) : Nat) : Int), .map (some r)] := by
    have := hbl3.drew.set_ 2 (.int .i64 ((max A.peak (A.used + n) : Nat) : Int))
    simpa using this
  have old : ∀ {g : Nat} {t : TypeId} {cs : Array Value}, Blk ((W.alloc (.cells (same n (.int .u64 0)) 33)).alloc (.cells #[.slice (some ⟨W.heap.size, 0, none⟩) n n] 43)) g t cs → g ≠ a → g ≠ r →
      Blk (w3.drew.setCell ⟨a, 2, none⟩ (.int .i64 ((max A.peak (A.used + n) : Nat) : Int))) g t cs := fun h h1 h2 => (h.chg hg2 h2).chg hg h1
  have hnewb : Blk ((W.alloc (.cells (same n (.int .u64 0)) 33)).alloc (.cells #[.slice (some ⟨W.heap.size, 0, none⟩) n n] 43)) (W.heap.size + 1) 43 #[.slice (some ⟨W.heap.size, 0, none⟩) n n] := by
    have := Blk.new (W.alloc (.cells (same n (.int .u64 0)) 33)) 43 #[.slice (some ⟨W.heap.size, 0, none⟩) n n]
    rwa [hs1] at this
  refine ⟨W.heap.size + 1, W.heap.size, rfl, ⟨hb4, ?_, ?_, grant_okA hA1.ok hn hkey⟩, old hnewb (by omega) (by omega), old ((Blk.new W _ _).alloc _) (by omega) (by omega), by have := hW.size; omega, hW.size, by omega, ?_⟩
  · have h1 := hm3.chg hg4 (Ne.symm lar)
    have h2 : put_ A.kv (W.heap.size + 1) (.int .i64 (n : Int)) = (A.grant n (W.heap.size + 1)).kv := by
      unfold put_
      rw [locate_none _ _ _ (by rw [kv_keys]; exact hkey)]
      simp [Ar.kv, Ar.grant]
    rwa [h2] at h1
  · intro p hp
    rcases List.mem_append.1 hp with hp | hp
    · obtain ⟨cs, hc⟩ := hA1.bufs p hp
      have hl := hc.lt
      exact ⟨cs, old ((hc.alloc _).alloc _) (hc.ne_ hA1.blk (by decide)) (hA1.map.ne_blk hc)⟩
    · simp at hp
      subst hp
      exact ⟨_, old hnewb (by show W.heap.size + 1 ≠ a; omega) (by show W.heap.size + 1 ≠ r; omega)⟩
  · have h1 := (hg2.mono (S' := fun k => k = a ∨ k = r) (fun _ _ h => .inr h)).trans hg (fun _ _ h => .inl h)
    exact hW.trans ((((Chg.refl (fun k => k = a ∨ k = r) W).alloc _).alloc _).trans h1 (fun _ _ h => h)) (fun _ _ h => h)

theorem kv_blk {w : World} {a r : Nat} {A : Ar} (h : At w a r A) : ∀ p ∈ A.kv, ∃ t cs, Blk w p.1 t cs := by
  intro p hp
  obtain ⟨q, hq, rfl⟩ := List.mem_map.1 hp
  obtain ⟨cs, hc⟩ := h.bufs q hq
  exact ⟨_, cs, hc⟩

set_option maxRecDepth 100000 in
set_option maxHeartbeats 400000 in
theorem grant_ok (a r : Nat) (A : Ar) (n : Nat) (w : World) (hA : At w a r A) (hn : n ≤ A.room - A.used) :
    Calls Try.prog 16 #[.pointer (some ⟨a, 0, none⟩), .int .i64 (n : Int)] w (Granted a r A n w) := by
  obtain ⟨ok1, ok2, ok3, ok4, ok5⟩ := hA.ok
  have Ok1 := Lib.hid ok1
  clear ok1 ok4
  obtain ⟨c0, c1, c2, c3, cf, la, lr, lar⟩ := hA.cells
  have hle : ¬ ((A.room : Int) - A.used < n) := by omega
  have hmk := fun W => run_make_of (P := Try.prog) (bytes := 8) (z := .int .u64 0) Try.underlying34 (by kernel_rfl) rfl .i64 .i64 n (by omega) (by omega) W
  go_enter Try.func16, Try.ntmps16
  go_wp2_with fail
  go_quiet (fail)
  have hA1 := hA.drewN nq
  have hW := (Chg.refl (fun k => k = a ∨ k = r) w).drewN nq
  have hWs : w.heap.size ≤ (w.drewN nq).heap.size := Nat.le_refl _
  clear c0 c1 c2 c3 cf la lr hA
  generalize w.drewN nq = W at *
  obtain ⟨c0, c1, c2, c3, cf, la, lr, -⟩ := hA1.cells
  go_wp2_with (at_mapUpdate; go_must (refine wpList_put rfl _ _ _ _ rfl (mk := ptrKey) Try.underlying69 (plain_ptr Try.underlying27) r A.kv rfl ?hm (W.heap.size + 1) rfl _ rfl ?hf ?_))
  case hm => exact (hA1.map.alloc _).alloc _
  case hf =>
    refine finds_ptr Try.underlying27 (j := Try.t43) rfl (by decide) _ _ ?_ ?_
    · have := Blk.new (W.alloc (.cells (same n (.int .u64 0)) 33)) 43 #[.slice (some ⟨W.heap.size, 0, none⟩) n n]
      rw [show (W.alloc (.cells (same n (.int .u64 0)) 33)).heap.size = W.heap.size + 1 from by simp] at this
      exact ⟨_, _, this⟩
    · intro p hp
      obtain ⟨t, cs, hc⟩ := kv_blk hA1 p hp
      exact ⟨t, cs, (hc.alloc _).alloc _⟩
  intro w2 hm2 hg2
  have hbl2 := ((hA1.blk.alloc (.cells (same n (.int .u64 0)) 33)).alloc (.cells #[.slice (some ⟨W.heap.size, 0, none⟩) n n] 43)).chg hg2 lar
  have d1 : w2.cell? ⟨a, 1, none⟩ = some (.int .i64 (A.used : Int)) := hbl2.cell 1
  have d2 : w2.cell? ⟨a, 2, none⟩ = some (.int .i64 (A.peak : Int)) := hbl2.cell 2
  have d0 := hbl2.frozen 1
  have dn := IntKind_sum A.used n (by omega)
  go_wp2_with fail
  have hbl3 := hbl2.set_ 1 (.int .i64 ((A.used : Int) + n))
  have hg3 := (Chg.refl (fun k => k = a) w2).setCell ⟨a, 1, none⟩ (.int .i64 ((A.used : Int) + n)) (fun _ => rfl)
  have hm3 := hm2.chg ((Chg.refl (fun k => k = a) w2).setCell ⟨a, 1, none⟩ (.int .i64 ((A.used : Int) + n)) (fun _ => rfl)) (Ne.symm lar)
  clear d0 d1 d2
  generalize w2.setCell ⟨a, 1, none⟩ (.int .i64 ((A.used : Int) + n)) = w3 at *
  have d1 : w3.cell? ⟨a, 1, none⟩ = some (.int .i64 ((A.used : Int) + n)) := hbl3.cell 1
  have d2 : w3.cell? ⟨a, 2, none⟩ = some (.int .i64 (A.peak : Int)) := hbl3.cell 2
  have d0 := hbl3.frozen 2
  go_still_tail 12, (by kernel_rfl)
  go_wp2_with fail
  all_goals
    go_ret2
    refine grant_close hA1 hW hn hm3 hg2 hbl3 hg3 ?_
    omega

end Go.Proofs.Ytoodkfjldflbeaa.Arena
