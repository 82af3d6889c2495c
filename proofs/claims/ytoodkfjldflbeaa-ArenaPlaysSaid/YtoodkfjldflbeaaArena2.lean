/- The walks of the arena, more: what is refused, what is released, what it tells. Rooms of at most 2^40 words. -/
import Derived.Test.YtoodkfjldflbeaaArena
set_option linter.unusedVariables false
namespace Go.Proofs.Ytoodkfjldflbeaa.Arena
open Go.RowKit

/-- Nothing has turned but the count of draws. -/
def Quiet (w w' : World) : Prop := ∃ d, w' = w.drewN d
theorem Quiet.refl (w : World) : Quiet w w := ⟨0, rfl⟩
theorem Quiet.chg {w w' : World} (h : Quiet w w') (S : Nat → Prop) : Chg S w w' := by
  obtain ⟨d, rfl⟩ := h
  exact (Chg.refl S w).drewN d
theorem At.quiet {w w' : World} {a r : Nat} {A : Ar} (h : At w a r A) (hq : Quiet w w') : At w' a r A := by
  obtain ⟨d, rfl⟩ := hq
  exact h.drewN d

set_option maxRecDepth 100000 in
set_option maxHeartbeats 400000 in
theorem grant_neg (a r : Nat) (A : Ar) (n : Int) (w : World) (hn : n < 0) :
    Calls Try.prog 16 #[.pointer (some ⟨a, 0, none⟩), .int .i64 n] w fun e w' => e = .returned (.tuple #[.pointer none, .int .i64 1]) ∧ w = w' := by
  go_enter Try.func16, Try.ntmps16
  go_wp2_with fail
  go_ret2
  exact ⟨rfl, rfl⟩

set_option maxRecDepth 100000 in
set_option maxHeartbeats 400000 in
theorem grant_room (a r : Nat) (A : Ar) (n : Int) (w : World) (hA : At w a r A) (hn : (A.room : Int) - A.used < n) :
    Calls Try.prog 16 #[.pointer (some ⟨a, 0, none⟩), .int .i64 n] w fun e w' => e = .returned (.tuple #[.pointer none, .int .i64 7]) ∧ Quiet w w' := by
  obtain ⟨ok1, ok2, ok3, ok4, ok5⟩ := hA.ok
  clear ok1 ok4
  obtain ⟨c0, c1, c2, c3, cf, la, lr, lar⟩ := hA.cells
  go_enter Try.func16, Try.ntmps16
  go_wp2_with fail
  go_quiet (fail)
  go_wp2_with fail
  go_ret2
  exact ⟨rfl, _, rfl⟩

set_option maxRecDepth 100000 in
set_option maxHeartbeats 400000 in
theorem room_any (a r : Nat) (A : Ar) (w : World) (hA : At w a r A) :
    Calls Try.prog 28 #[.pointer (some ⟨a, 0, none⟩)] w fun e w' => e = .returned (.int .i64 (A.room : Int)) ∧ w = w' := by
  obtain ⟨c0, c1, c2, c3, cf, la, lr, lar⟩ := hA.cells
  go_enter Try.func28, Try.ntmps28
  go_wp2_with fail
  go_ret
  exact ⟨rfl, rfl⟩

set_option maxRecDepth 100000 in
set_option maxHeartbeats 400000 in
theorem used_any (a r : Nat) (A : Ar) (w : World) (hA : At w a r A) :
    Calls Try.prog 26 #[.pointer (some ⟨a, 0, none⟩)] w fun e w' => e = .returned (.int .i64 (A.used : Int)) ∧ w = w' := by
  obtain ⟨c0, c1, c2, c3, cf, la, lr, lar⟩ := hA.cells
  go_enter Try.func26, Try.ntmps26
  go_wp2_with fail
  go_ret
  exact ⟨rfl, rfl⟩

set_option maxRecDepth 100000 in
set_option maxHeartbeats 400000 in
theorem peak_any (a r : Nat) (A : Ar) (w : World) (hA : At w a r A) :
    Calls Try.prog 15 #[.pointer (some ⟨a, 0, none⟩)] w fun e w' => e = .returned (.int .i64 (A.peak : Int)) ∧ w = w' := by
  obtain ⟨c0, c1, c2, c3, cf, la, lr, lar⟩ := hA.cells
  go_enter Try.func15, Try.ntmps15
  go_wp2_with fail
  go_ret
  exact ⟨rfl, rfl⟩

set_option maxRecDepth 100000 in
set_option maxHeartbeats 400000 in
theorem left_any (a r : Nat) (A : Ar) (w : World) (hA : At w a r A) :
    Calls Try.prog 14 #[.pointer (some ⟨a, 0, none⟩)] w fun e w' => e = .returned (.int .i64 ((A.room : Int) - A.used)) ∧ w = w' := by
  obtain ⟨ok1, ok2, ok3, ok4, ok5⟩ := hA.ok
  clear ok1 ok4
  go_enter Try.func14, Try.ntmps14
  go_wp2_with fail
  refine (room_any a r A w hA).mono ?_
  rintro e w1 ⟨rfl, rfl⟩
  go_wp2_with fail
  refine (used_any a r A w hA).mono ?_
  rintro e w1 ⟨rfl, rfl⟩
  go_wp2_with fail
  go_ret
  exact ⟨rfl, rfl⟩

/-- A grant let go. -/
def Ar.release (A : Ar) (b n : Nat) : Ar := ⟨A.room, A.used - n, A.peak, A.st.filter fun p => p.1 ≠ b⟩

theorem locate_key {κ : Type} [DecidableEq κ] {k : κ} {v : Value} : ∀ {l : List (κ × Value)} {i : Nat}, (l.map (·.1)).Nodup → (k, v) ∈ l → ∃ j, locate k l i = some (i + j, v) ∧ l.eraseIdx j = l.filter (fun p => p.1 ≠ k) := by
  intro l
  induction l with
  | nil => intro i _ h; cases h
  | cons p l ih =>
    intro i hn h
    rw [List.map_cons, List.nodup_cons] at hn
    unfold locate
    by_cases hp : p.1 = k
    · rw [if_pos hp]
      have hpv : p = (k, v) := by
        rcases List.mem_cons.1 h with h | h
        · exact h.symm
        · exact absurd (List.mem_map.2 ⟨_, h, rfl⟩) (by rw [← hp] at *; exact hn.1)
      refine ⟨0, by rw [hpv]; rfl, ?_⟩
      have hf : l.filter (fun p => p.1 ≠ k) = l := by
        rw [List.filter_eq_self]
        intro q hq
        have : q.1 ≠ k := fun e => hn.1 (by rw [hp, ← e]; exact List.mem_map.2 ⟨q, hq, rfl⟩)
        simp [this]
      simp [hp]
      simpa using hf.symm
    · rw [if_neg hp]
      have h' : (k, v) ∈ l := by
        rcases List.mem_cons.1 h with h | h
        · exact absurd (by rw [← h]) hp
        · exact h
      obtain ⟨j, hj, he⟩ := ih (i := i + 1) hn.2 h'
      refine ⟨j + 1, by rw [hj]; congr 2; omega, ?_⟩
      simp only [List.eraseIdx_cons_succ, he]
      simp [hp]

theorem sum_filter {b n : Nat} : ∀ {l : List (Nat × Nat)}, (l.map (·.1)).Nodup → (b, n) ∈ l → (l.map (·.2)).sum = ((l.filter fun p => p.1 ≠ b).map (·.2)).sum + n := by
  intro l
  induction l with
  | nil => intro _ h; cases h
  | cons p l ih =>
    intro hn h
    rw [List.map_cons, List.nodup_cons] at hn
    by_cases hp : p.1 = b
    · have hpv : p = (b, n) := by
        rcases List.mem_cons.1 h with h | h
        · exact h.symm
        · exact absurd (List.mem_map.2 ⟨_, h, rfl⟩) (by rw [← hp] at *; exact hn.1)
      have hf : l.filter (fun p => p.1 ≠ b) = l := by
        rw [List.filter_eq_self]
        intro q hq
        have : q.1 ≠ b := fun e => hn.1 (by rw [hp, ← e]; exact List.mem_map.2 ⟨q, hq, rfl⟩)
        simp [this]
      rw [List.filter_cons_of_neg (by simp [hp]), hf, hpv]
      simp
      omega
    · have h' : (b, n) ∈ l := by
        rcases List.mem_cons.1 h with h | h
        · exact absurd (by rw [← h]) hp
        · exact h
      rw [List.filter_cons_of_pos (by simp [hp]), List.map_cons, List.map_cons, List.sum_cons, List.sum_cons, ih hn.2 h']
      omega

theorem release_okA {A : Ar} (h : A.ok) {n b : Nat} (hb : (b, n) ∈ A.st) : (A.release b n).ok ∧ n ≤ A.used := by
  obtain ⟨h1, h2, h3, h4, h5⟩ := h
  have hs := sum_filter h4 hb
  have hn : n ≤ A.used := by omega
  refine ⟨⟨?_, ?_, h3, ?_, h5⟩, hn⟩
  · show A.used - n = ((A.st.filter fun p => p.1 ≠ b).map (·.2)).sum
    omega
  · show A.used - n ≤ A.peak
    omega
  · exact List.Nodup.sublist (List.Sublist.map _ (List.filter_sublist)) h4

theorem kv_release {A : Ar} (h : A.ok) {n b : Nat} (hb : (b, n) ∈ A.st) : drop_ A.kv b = (A.release b n).kv ∧ look A.kv b = some (.int .i64 (n : Int)) := by
  have hm : (b, Value.int .i64 (n : Int)) ∈ A.kv := List.mem_map.2 ⟨_, hb, rfl⟩
  obtain ⟨j, hj, he⟩ := locate_key (i := 0) (by rw [kv_keys]; exact h.2.2.2.1) hm
  constructor
  · unfold drop_
    rw [hj]
    simp only [Nat.zero_add]
    rw [he]
    unfold Ar.kv Ar.release
    rw [List.filter_map]
    rfl
  · rw [← locate_map A.kv 0, hj]
    rfl

theorem kv_none {A : Ar} {b : Nat} (hb : b ∉ A.st.map (·.1)) : look A.kv b = none := by
  rw [← locate_map A.kv 0, locate_none _ _ _ (by rw [kv_keys]; exact hb)]
  rfl

def Released (a r b : Nat) (A : Ar) (n : Nat) (w : World) (e : Ending) (w' : World) : Prop :=
  e = .returned (.bool true) ∧ At w' a r (A.release b n) ∧ Blk w' b 43 #[.slice none 0 0] ∧ Chg (fun k => k = a ∨ k = r ∨ k = b) w w'

theorem zero_int (w : World) : (zeroValue 3).run Try.prog w = .ok (.int .i64 0) w := by kernel_rfl

set_option maxRecDepth 100000 in
set_option maxHeartbeats 400000 in
theorem release_no (a r b : Nat) (A : Ar) (w : World) (hA : At w a r A) (hb : ∃ cs, Blk w b 43 cs) (hn : b ∉ A.st.map (·.1)) :
    Calls Try.prog 22 #[.pointer (some ⟨a, 0, none⟩), .pointer (some ⟨b, 0, none⟩)] w fun e w' => e = .returned (.bool false) ∧ w = w' := by
  obtain ⟨cs, hcs⟩ := hb
  have hl := kv_none hn
  obtain ⟨c0, c1, c2, c3, cf, la, lr, lar⟩ := hA.cells
  go_enter Try.func22, Try.ntmps22
  go_wp2_with (at_lookup; go_must (refine wpList_look rfl _ _ _ _ rfl (mk := ptrKey) Try.underlying69 (plain_ptr Try.underlying27) r A.kv rfl hA.map b rfl (finds_ptr Try.underlying27 (j := Try.t43) rfl (by decide) _ _ ⟨_, _, hcs⟩ (kv_blk hA)) (zero_int _) ?_))
  go_wp2_with fail
  go_ret
  exact ⟨rfl, rfl⟩

set_option maxRecDepth 100000 in
set_option maxHeartbeats 400000 in
theorem release_nil (a : Nat) (w : World) :
    Calls Try.prog 22 #[.pointer (some ⟨a, 0, none⟩), .pointer none] w fun e w' => e = .returned (.bool false) ∧ w = w' := by
  go_enter Try.func22, Try.ntmps22
  go_wp2_with fail
  go_ret
  exact ⟨rfl, rfl⟩

theorem release_close {a r b : Nat} {A : Ar} {n : Nat} {w w2 : World} {v : Value} (hA : At w a r A) (hb : (b, n) ∈ A.st) (hcs : Blk w b 43 #[v]) (hm2 : IsMap ptrKey w2 r (A.release b n).kv) (hg2 : Chg (fun k => k = r) w w2) :
    Released a r b A n w (.returned (.bool true)) ((w2.setCell ⟨a, 1, none⟩ (.int .i64 ((A.used : Int) - n))).setCell ⟨b, 0, none⟩ (.slice none 0 0)) := by
  obtain ⟨hok, hnu⟩ := release_okA hA.ok hb
  obtain ⟨-, -, -, -, -, la, lr, lar⟩ := hA.cells
  have hba : b ≠ a := hcs.ne_ hA.blk (by decide)
  have hbr : b ≠ r := hA.map.ne_blk hcs
  have hbl2 := hA.blk.chg hg2 lar
  have hcs2 := hcs.chg hg2 hbr
  have hg3 : Chg (fun k => k = a ∨ k = b) w2 ((w2.setCell ⟨a, 1, none⟩ (.int .i64 ((A.used : Int) - n))).setCell ⟨b, 0, none⟩ (.slice none 0 0)) :=
    ((Chg.refl _ w2).setCell ⟨a, 1, none⟩ _ (fun _ => .inl rfl)).setCell ⟨b, 0, none⟩ _ (fun _ => .inr rfl)
  have hB : Blk ((w2.setCell ⟨a, 1, none⟩ (.int .i64 ((A.used : Int) - n))).setCell ⟨b, 0, none⟩ (.slice none 0 0)) b 43 #[.slice none 0 0] := by
    have := (hcs2.far (p := ⟨a, 1, none⟩) hba (.int .i64 ((A.used : Int) - n))).set_ 0 (.slice none 0 0)
    simpa using this
  refine ⟨rfl, ⟨?_, hm2.chg hg3 (by rintro (h | h) <;> omega), ?_, hok⟩, hB, ?_⟩
  · have := ((hbl2.set_ 1 (.int .i64 ((A.used : Int) - n))).far (p := ⟨b, 0, none⟩) (Ne.symm hba) (.slice none 0 0))
    have e : ((A.used : Int) - n) = ((A.used - n : Nat) : Int) := by omega
    rw [e] at this ⊢
    simpa [Ar.release] using this
  · intro p hp
    by_cases hpb : p.1 = b
    · rw [hpb]; exact ⟨_, hB⟩
    · obtain ⟨cs, hc⟩ := hA.bufs p ((List.mem_filter.1 hp).1)
      exact ⟨cs, (hc.chg hg2 (hA.map.ne_blk hc)).chg hg3 (by rintro (h | h); exact (hc.ne_ hA.blk (by decide)) h; exact hpb h)⟩
  · exact (hg2.mono (fun _ _ h => .inr (.inl h))).trans hg3 (fun _ _ h => h.elim .inl (fun h => .inr (.inr h)))

set_option maxRecDepth 100000 in
set_option maxHeartbeats 400000 in
theorem release_ok (a r b : Nat) (A : Ar) (n : Nat) (w : World) (hA : At w a r A) (hb : (b, n) ∈ A.st) (v : Value) (hcs : Blk w b 43 #[v]) :
    Calls Try.prog 22 #[.pointer (some ⟨a, 0, none⟩), .pointer (some ⟨b, 0, none⟩)] w (Released a r b A n w) := by
  obtain ⟨hl2, hl⟩ := kv_release hA.ok hb
  obtain ⟨hok, hnu⟩ := release_okA hA.ok hb
  obtain ⟨ok1, ok2, ok3, ok4, ok5⟩ := hA.ok
  clear ok1 ok4
  obtain ⟨c0, c1, c2, c3, cf, la, lr, lar⟩ := hA.cells
  have hba : b ≠ a := hcs.ne_ hA.blk (by decide)
  have hbr : b ≠ r := hA.map.ne_blk hcs
  have Hl2 := Lib.hid hl2
  clear hl2
  go_enter Try.func22, Try.ntmps22
  go_wp2_with (first
    | (at_lookup; go_must (refine wpList_look rfl _ _ _ _ rfl (mk := ptrKey) Try.underlying69 (plain_ptr Try.underlying27) r A.kv rfl hA.map b rfl (finds_ptr Try.underlying27 (j := Try.t43) rfl (by decide) _ _ ⟨_, _, hcs⟩ (kv_blk hA)) (zero_int _) ?_))
    | (at_delete; go_must (refine wpList_drop rfl _ _ _ _ rfl (mk := ptrKey) Try.underlying69 (plain_ptr Try.underlying27) r A.kv rfl hA.map b rfl (finds_ptr Try.underlying27 (j := Try.t43) rfl (by decide) _ _ ⟨_, _, hcs⟩ (kv_blk hA)) ?_)))
  rw [Hl2.out]
  intro w2 hm2 hg2
  have hbl2 := hA.blk.chg hg2 lar
  have hcs2 := hcs.chg hg2 hbr
  have d1 : w2.cell? ⟨a, 1, none⟩ = some (.int .i64 (A.used : Int)) := hbl2.cell 1
  have d0 := hbl2.frozen 1
  have d2 : w2.cell? ⟨b, 0, none⟩ = some v := hcs2.cell 0
  have d3 := hcs2.frozen 0
  have hab : a ≠ b := Ne.symm hba
  clear c0 c1 c2 c3 cf
  go_wp2_with fail
  go_ret
  exact release_close hA hb hcs hm2 hg2

end Go.Proofs.Ytoodkfjldflbeaa.Arena
