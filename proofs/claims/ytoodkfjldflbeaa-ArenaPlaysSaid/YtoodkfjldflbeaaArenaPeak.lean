/- The walk of the law ArenaPeak: it returns true and writes nothing that was there, of every input. -/
import Derived.Test.YtoodkfjldflbeaaArenaFits
import Derived.Deep.DeepCutAuto
set_option linter.unusedVariables false
namespace Go.Proofs.Ytoodkfjldflbeaa.Arena
open Go.RowKit

theorem el_buf : Elem Try.prog 40 27 1 8 := elem_of (z := .pointer none) Try.underlying40 (by kernel_rfl) rfl (by decide)

/-- An arena, and the slice of all that were granted. -/
structure PkRel (w : World) (a r : Nat) (A : Ar) (G : List Nat) (v : Value) (wx : World) : Prop where
  at_ : At wx a r A
  bel : Below w.heap.size w wx
  own : wx.ownsRow w.heap.size 27 1 v G.length (G.map ptrKey)
  buf : ∀ g ∈ G, w.heap.size ≤ g ∧ ∃ u, Blk wx g 43 #[u]
  sub : ∀ p ∈ A.st, p.1 ∈ G

theorem PkRel.quiet {w : World} {a r : Nat} {A : Ar} {G : List Nat} {v : Value} {wx wy : World} (h : PkRel w a r A G v wx) (hq : Quiet wx wy) : PkRel w a r A G v wy := by
  obtain ⟨d, rfl⟩ := hq
  exact ⟨h.at_.drewN d, below_drewN h.bel d, h.own, h.buf, h.sub⟩

/-- Behind a grant, and the append. -/
theorem PkRel.granted {w : World} {a r : Nat} {A : Ar} {G : List Nat} {v v' : Value} {wx wy wz : World} {n b d : Nat} (h : PkRel w a r A G v wx) (hz : w.heap.size ≤ a ∧ w.heap.size ≤ r)
    (hA : At wy a r (A.grant n b)) (hB : Blk wy b 43 #[.slice (some ⟨d, 0, none⟩) n n]) (h1 : wx.heap.size ≤ b) (hg : Chg (fun k => k = a ∨ k = r) wx wy)
    (hown : wz.ownsRow w.heap.size 27 1 v' (G.length + 1) (G.map ptrKey ++ [ptrKey b])) (hgr : Chg (fun k => some k = v.ownBlock) wy wz) (hbl : Below w.heap.size wy wz) : PkRel w a r (A.grant n b) (G ++ [b]) v' wz := by
  obtain ⟨-, -, -, -, -, la, lr, lar⟩ := h.at_.cells
  have hbel := h.bel
  have hsz := hbel.size
  have hown2 : wy.ownsRow w.heap.size 27 1 v G.length (G.map ptrKey) := own_chg h.own hg (by
    intro g hg' hs
    rcases hs with rfl | rfl
    · exact own_ne_blk h.own h.at_.blk (by decide) hg'
    · exact h.at_.map.ne_own h.own hg')
  have keep : ∀ {g : Nat} {t : TypeId} {cs : Array Value}, Blk wy g t cs → 27 ≠ t → Blk wz g t cs := fun hb hne => hb.chg hgr (fun e => own_ne_blk hown2 hb hne e.symm)
  refine ⟨⟨keep hA.blk (by decide), hA.map.chg hgr (fun e => hA.map.ne_own hown2 e.symm), ?_, hA.ok⟩, hbel.trans ((hg.below_of hsz (fun k hk => by omega)).trans hbl), by simpa using hown, ?_, ?_⟩
  · intro p hp
    obtain ⟨cs, hc⟩ := hA.bufs p hp
    exact ⟨cs, keep hc (by decide)⟩
  · intro g hg'
    rcases List.mem_append.1 hg' with hg' | hg'
    · obtain ⟨l1, u, hu⟩ := h.buf g hg'
      have hga : g ≠ a := hu.ne_ h.at_.blk (by decide)
      have hgr' : g ≠ r := h.at_.map.ne_blk hu
      exact ⟨l1, u, keep (hu.chg hg (by rintro (e | e) <;> contradiction)) (by decide)⟩
    · simp at hg'
      subst hg'
      exact ⟨by omega, _, keep hB (by decide)⟩
  · intro p hp
    rcases List.mem_append.1 hp with hp | hp
    · exact List.mem_append.2 (.inl (h.sub p hp))
    · simp at hp
      subst hp
      simp

/-- Behind a release. -/
theorem PkRel.released {w : World} {a r : Nat} {A : Ar} {G : List Nat} {v : Value} {wx wy : World} {n b : Nat} (h : PkRel w a r A G v wx) (hz : w.heap.size ≤ a ∧ w.heap.size ≤ r) (hb : b ∈ G)
    (hA : At wy a r (A.release b n)) (hB : Blk wy b 43 #[.slice none 0 0]) (hg : Chg (fun k => k = a ∨ k = r ∨ k = b) wx wy) : PkRel w a r (A.release b n) G v wy := by
  obtain ⟨-, -, -, -, -, la, lr, lar⟩ := h.at_.cells
  obtain ⟨lb, u, hu⟩ := h.buf b hb
  refine ⟨hA, h.bel.trans (hg.below_of h.bel.size (fun k hk => by omega)), ?_, ?_, ?_⟩
  · refine own_chg h.own hg (fun g hg' hs => ?_)
    rcases hs with rfl | rfl | rfl
    · exact own_ne_blk h.own h.at_.blk (by decide) hg'
    · exact h.at_.map.ne_own h.own hg'
    · exact own_ne_blk h.own hu (by decide) hg'
  · intro g hg'
    obtain ⟨l1, u1, hu1⟩ := h.buf g hg'
    by_cases hgb : g = b
    · subst hgb; exact ⟨l1, _, hB⟩
    · have hga : g ≠ a := hu1.ne_ h.at_.blk (by decide)
      have hgr' : g ≠ r := h.at_.map.ne_blk hu1
      exact ⟨l1, u1, hu1.chg hg (by rintro (e | e | e) <;> contradiction)⟩
  · intro p hp
    exact h.sub p (List.mem_filter.1 hp).1

/-- A release of one that was granted, be it released already or not. -/
theorem release_any {w : World} {a r : Nat} {A : Ar} {G : List Nat} {v : Value} {wx : World} (h : PkRel w a r A G v wx) (hz : w.heap.size ≤ a ∧ w.heap.size ≤ r) (b : Nat) (hb : b ∈ G) :
    Calls Try.prog 22 #[.pointer (some ⟨a, 0, none⟩), .pointer (some ⟨b, 0, none⟩)] wx fun e w' =>
      ∃ A' t, e = .returned (.bool t) ∧ PkRel w a r A' G v w' ∧ A'.peak = A.peak ∧ A'.room = A.room ∧ b ∉ A'.st.map (·.1) ∧ (∀ p ∈ A'.st, p ∈ A.st) := by
  obtain ⟨lb, u, hu⟩ := h.buf b hb
  by_cases hm : b ∈ A.st.map (·.1)
  · obtain ⟨p, hp, hpb⟩ := List.mem_map.1 hm
    obtain ⟨b', n⟩ := p
    simp only at hpb
    subst hpb
    refine (release_ok a r b' A n wx h.at_ hp u hu).mono ?_
    rintro e w' ⟨rfl, hA, hB, hg⟩
    refine ⟨_, true, rfl, h.released hz hb hA hB hg, rfl, rfl, ?_, fun p hp => (List.mem_filter.1 hp).1⟩
    intro hm
    obtain ⟨q, hq, hqb⟩ := List.mem_map.1 hm
    have := (List.mem_filter.1 hq).2
    simp at this
    exact this hqb
  · refine (release_no a r b A wx h.at_ ⟨_, hu⟩ hm).mono ?_
    rintro e w' ⟨rfl, rfl⟩
    exact ⟨A, false, rfl, h, rfl, rfl, hm, fun p hp => hp⟩

theorem u64_nonneg (x : Int) : 0 ≤ IntKind.u64.wrap x := by
  rw [show IntKind.u64.wrap x = x % 18446744073709551616 from rfl]
  omega
theorem wrap64_nat {q : Nat} (h : (q : Int) < 9223372036854775808) : wrap64 (q : Int) = (q : Int) := by
  unfold wrap64
  omega
theorem tmod_nat {x : Int} {m : Nat} (h : 0 < m) : ∃ q : Nat, (IntKind.u64.wrap x).tmod (m : Int) = (q : Int) ∧ q < m := by
  have h0 : 0 ≤ IntKind.u64.wrap x := u64_nonneg x
  generalize IntKind.u64.wrap x = y at *
  rw [Int.tmod_eq_emod_of_nonneg h0]
  have h1 := Int.emod_nonneg y (show (m : Int) ≠ 0 by omega)
  have h2 := Int.emod_lt_of_pos y (show (0 : Int) < m by omega)
  exact ⟨(y % (m : Int)).toNat, by omega, by omega⟩

def PeakLoop (w : World) (a r : Nat) (v pv iv : Value) (wr : World) : Prop :=
  ∃ (k : Nat) (A : Ar) (G : List Nat), iv = .int .i64 (k : Int) ∧ pv = .int .i64 (A.peak : Int) ∧ k ≤ 60 ∧ G.length ≤ k ∧ PkRel w a r A G v wr
def PeakCut (w : World) (a r k : Nat) (A : Ar) (v : Value) (wr : World) : Prop :=
  ∃ (A' : Ar) (G : List Nat), A.peak ≤ A'.peak ∧ A'.room = A.room ∧ G.length ≤ k + 1 ∧ PkRel w a r A' G v wr

def PeakLoop2 (w : World) (a r : Nat) (v : Value) (pk : Nat) (G : List Nat) (iv : Value) (wr : World) : Prop :=
  ∃ (k : Nat) (A : Ar), iv = .int .i64 (k : Int) ∧ k ≤ G.length ∧ PkRel w a r A G v wr ∧ A.peak = pk ∧ ∀ p ∈ A.st, p.1 ∉ G.take k

set_option maxRecDepth 100000 in
set_option maxHeartbeats 800000 in
theorem peak_law (room : Int) (hrl : -9223372036854775808 ≤ room) (hr : room ≤ 100000) (l : List (Int × Int)) (s : Option Addr) (n c : Nat) (w : World) (h : rdSlice 2 (rdPair 1 1 (rdInt .i64) (rdInt .i64)) w [.slice s n c] l) (hn2 : n ≤ 60) :
    Calls Try.prog 7 #[.int .i64 room, .slice s n c] w fun e w' => e = .returned (.bool true) ∧ Below w.heap.size w w' := by
  obtain ⟨hn, _, _, hs, hwf⟩ := rdSlice_pairs h
  go_enter Try.func7, Try.ntmps7
  go_wp2_with fail
  refine (awake_any _).mono ?_
  rintro e w1 ⟨rfl, hb1⟩
  go_wp2_with fail
  refine (new_any room _ (by omega) hrl).mono ?_
  rintro e w2 ⟨rfl, hA, hb2⟩
  have hb3 := hb1.trans (hb2.mono hb1.size)
  have hz1 := hb1.size
  obtain ⟨a, ha⟩ : ∃ a, a = w1.heap.size + 1 := ⟨_, rfl⟩
  obtain ⟨r, hr'⟩ : ∃ r, r = w1.heap.size := ⟨_, rfl⟩
  have hab : w.heap.size ≤ a ∧ w.heap.size ≤ r := by omega
  rw [← ha, ← hr'] at hA
  rw [← ha]
  clear ha hr' hz1 hb2
  go_wp2_with fail
  go_loopw [6, 7, 8] (fun v pv iv wr => PeakLoop w a r v pv iv wr) (fun _ _ iv _ => n - (intOf iv).toNat)
  case atStart => exact ⟨0, _, [], rfl, rfl, by omega, by simp, hA, hb3, World.ownsRow_nil _ _ _ _, fun g hg => by simp at hg, fun p hp => by simp at hp⟩
  case round =>
    obtain ⟨k, A, G, rfl, rfl, hk, hG, hP⟩ := hrel
    by_cases hlt : (k : Int) < n
    · obtain ⟨b1, o1, rfl, hc1, hc2, l1⟩ := hs k (by omega)
      have hd1 : ∀ W, Below w.heap.size w W → W.cell? ⟨b1, o1 + k * 2, none⟩ = some (.int .i64 (l[k]'(by omega)).1) := fun W hW => by rw [hW.cell l1, hc1]
      have hd2 : ∀ W, Below w.heap.size w W → W.cell? ⟨b1, o1 + k * 2 + 1, none⟩ = some (.int .i64 (l[k]'(by omega)).2) := fun W hW => by rw [hW.cell l1, hc2]
      have hx := u_bounds.2.2.2.2 (hwf (l[k]'(by omega)) (List.getElem_mem _)).2
      clear hc1 hc2
      generalize l[k]'(by omega) = x at *
      obtain ⟨kind, x⟩ := x
      have e1 := hd1 wr hP.bel
      have e2 := hd2 wr hP.bel
      go_upto_if 37 with fail
      obtain ⟨ok1, ok2, ok3, ok4, ok5⟩ := hP.at_.ok
      clear ok1 ok4
      go_cut [6] (fun v wx => PeakCut w a r k A v wx)
      case first =>
        by_cases hkind : kind = 1
        · have hkb : (kind == 1) = true := by rw [hkind]; rfl
          clear hkind
          rcases Int.lt_or_le x 0 with hx0 | hx0
          · go_wp2_with (go_at_call 16; refine (grant_neg a r A x _ hx0).mono ?_; rintro e w3 ⟨rfl, rfl⟩)
            go_meet
            exact ⟨A, G, Nat.le_refl _, rfl, by omega, hP⟩
          rcases Int.lt_or_le ((A.room : Int) - A.used) x with hxr | hxr
          · go_wp2_with (go_at_call 16; refine (grant_room a r A x _ hP.at_ hxr).mono ?_; rintro e w3 ⟨rfl, hq⟩)
            go_meet
            exact ⟨A, G, Nat.le_refl _, rfl, by omega, hP.quiet hq⟩
          · obtain ⟨y, rfl⟩ := Int.eq_ofNat_of_zero_le hx0
            go_wp2_with fail
            refine (grant_ok a r A y _ hP.at_ (by omega)).mono ?_
            rintro e w3 ⟨gb, gd, rfl, HA, hB, hD, g1, g2, g3, hg⟩
            have hown3 : w3.ownsRow w.heap.size 27 1 u6 G.length (G.map ptrKey) := own_chg hP.own hg (by
              rintro g hg' (rfl | rfl)
              · exact own_ne_blk hP.own hP.at_.blk (by decide) hg'
              · exact hP.at_.map.ne_own hP.own hg')
            have hz := hP.bel.size
            have hz3 := hg.size
            go_wp2_with (at_builtin; go_must (refine wpList_append rfl (.tmp 50) (.tmp 52) _ rfl el_buf w.heap.size _ _ _ rfl (hown3.alloc _) _ 1 1 [ptrKey gb] rfl rfl (Row.new w3 _ _ _) (by intro u hu; simp at hu; subst hu; rfl) (by unfold maxLen; omega) (by omega) (by simp; omega) ?_))
            intro v4 w4 hown4 hg4 _ hb4
            go_wp2_with fail
            go_meet
            exact ⟨A.grant y gb, G ++ [gb], by show A.peak ≤ max A.peak _; omega, rfl, by simp; omega, hP.granted hab HA hB g1 hg hown4 (((Chg.refl _ w3).alloc _).trans (Chg.of_grown hg4) (fun _ _ h => h)) (((Below.refl w.heap.size w3).alloc (by omega) _).trans hb4)⟩
        · have hkb : (kind == 1) = false := by rw [beq_eq_false_iff_ne]; exact hkind
          clear hkind
          by_cases hG0 : 0 < G.length
          · obtain ⟨q, hq, hqG⟩ := tmod_nat (x := x) hG0
            have hq2 : wrap64 (q : Int) = (q : Int) := wrap64_nat (by omega)
            obtain ⟨g, cap, rfl, -, -⟩ := World.ownsRow.form hP.own hG0
            have hcell : wr.cell? ⟨g, q, none⟩ = some (.pointer (some ⟨G[q], 0, none⟩)) := by
              rw [hP.own.cellAt q (by simpa using hqG)]
              simp [ptrKey, hqG]
            go_wp2_with fail
            refine (release_any hP hab _ (List.getElem_mem _)).mono ?_
            rintro e w3 ⟨A', t, rfl, hP', hpk, hrm, -, -⟩
            go_wp2_with fail
            go_meet
            exact ⟨A', G, by omega, hrm, by omega, hP'⟩
          · have hG1 : G = [] := List.eq_nil_of_length_eq_zero (by omega)
            subst hG1
            obtain ⟨as1, cs, rfl, -⟩ := own_slice hP.own
            go_wp2_with fail
            go_meet
            exact ⟨A, [], Nat.le_refl _, rfl, by simp, hP⟩
      case rest =>
        obtain ⟨A', G', hp1, hp2, hp3, hP'⟩ := hcut
        obtain ⟨ok1, ok2, ok3, ok4, ok5⟩ := hP'.at_.ok
        clear ok1 ok4 hP hp2
        have hQ := hP'.at_
        have t1 : ((A'.peak : Int) < A.peak) = False := by simp; omega
        have u1 : IntKind.i64.wrap ((A'.used : Int) + (A'.room - A'.used)) = A'.room := by rw [IntKind.wrap_i64]; omega
        have u2 : ((A'.room : Int) != A'.room) = false := by rw [bne_eq_false_iff_eq]
        go_wp2_with (first | (go_at_call 14; refine (left_any _ _ _ _ hQ).mono ?_; rintro e w3 ⟨rfl, rfl⟩) | (go_at_call 15; refine (peak_any _ _ _ _ hQ).mono ?_; rintro e w3 ⟨rfl, rfl⟩) | (go_at_call 28; refine (room_any _ _ _ _ hQ).mono ?_; rintro e w3 ⟨rfl, rfl⟩) | (go_at_call 26; refine (used_any _ _ _ _ hQ).mono ?_; rintro e w3 ⟨rfl, rfl⟩))
        go_roundw
        case rel => exact ⟨k + 1, A', G', by go_num, rfl, by omega, by omega, hP'⟩
        case measure => simp [intOf]; omega
    · go_wp2_with fail
      have hGl : (G.length : Int) ≤ 60 := by omega
      have hown := hP.own
      go_loopw [11] (fun iv wr => PeakLoop2 w a r u6 A.peak G iv wr) (fun iv _ => G.length - (intOf iv).toNat)
      case atStart => exact ⟨0, A, rfl, by simp, hP, rfl, fun p hp => by simp⟩
      case round =>
        obtain ⟨k2, A2, rfl, hk2, hP2, hpk, hno⟩ := hrel
        by_cases hlt2 : (k2 : Int) < G.length
        · obtain ⟨g, cap, rfl, -, -⟩ := World.ownsRow.form hP2.own (by omega)
          have hk3 : k2 < G.length := by omega
          have hcell : wr.cell? ⟨g, k2, none⟩ = some (.pointer (some ⟨G[k2], 0, none⟩)) := by
            rw [hP2.own.cellAt k2 (by omega)]
            simp [ptrKey, hk3]
          go_wp2_with fail
          refine (release_any hP2 hab _ (List.getElem_mem _)).mono ?_
          rintro e w3 ⟨A3, t, rfl, hP3, hpk3, hrm3, hn3, hs3⟩
          go_wp2_with fail
          go_roundw
          case rel =>
            refine ⟨k2 + 1, A3, by go_num, by omega, hP3, by omega, ?_⟩
            intro p hp hm
            rw [List.take_add_one, List.getElem?_eq_getElem hk3] at hm
            rcases List.mem_append.1 hm with hm | hm
            · exact hno p (hs3 p hp) hm
            · simp at hm
              exact hn3 (List.mem_map.2 ⟨p, hp, hm⟩)
          case measure => simp [intOf]; omega
        · have hk4 : G.take k2 = G := List.take_of_length_le (by omega)
          have hst : A2.st = [] := by
            match hst : A2.st with
            | [] => rfl
            | p :: ps => exact absurd (hP2.sub p (by rw [hst]; simp)) (hk4 ▸ hno p (by rw [hst]; simp))
          have hu0 : A2.used = 0 := by rw [hP2.at_.ok.1, hst]; rfl
          have hQ := hP2.at_
          clear hst hk4 hno
          obtain ⟨as1, cs, rfl, -⟩ := own_slice hP2.own
          obtain ⟨room2, used2, peak2, st2⟩ := A2
          simp only at hu0 hpk
          subst hu0 hpk
          go_wp2_with (first | (go_at_call 15; refine (peak_any _ _ _ _ hQ).mono ?_; rintro e w3 ⟨rfl, rfl⟩) | (go_at_call 26; refine (used_any _ _ _ _ hQ).mono ?_; rintro e w3 ⟨rfl, rfl⟩))
          go_ret
          exact ⟨by simp, hP2.bel⟩

set_option maxRecDepth 100000 in
theorem peak_odd (room : Int) (s : Option Addr) (n c : Nat) (w : World) (hn : n ≤ 9223372036854775807) (h : ¬ (n ≤ 60 ∧ room ≤ 100000)) :
    Calls Try.prog 7 #[.int .i64 room, .slice s n c] w fun e w' => e = .returned (.bool true) ∧ Below w.heap.size w w' := by
  by_cases h1 : (60 : Int) < n
  all_goals (by_cases h2 : (100000 : Int) < room)
  all_goals first | (exfalso; omega) | skip
  all_goals
    clear h
    go_enter Try.func7, Try.ntmps7
    go_wp2_with fail
    refine (awake_any _).mono ?_
    rintro e1 w1 ⟨rfl, hb1⟩
    go_wp2_with fail
    refine (awake_any _).mono ?_
    rintro e2 w2 ⟨rfl, hb2⟩
    go_wp2_with fail
    go_ret
    exact ⟨rfl, hb1.trans (hb2.mono hb1.size)⟩

theorem ArenaPeak_walk {w : World} (room : Int) (hr : (Lit.int .i64 room).wf = true) (s : Option Addr) (n c : Nat) (l : List (Int × Int)) (h : rdSlice 2 (rdPair 1 1 (rdInt .i64) (rdInt .i64)) w [.slice s n c] l) :
    Calls Try.prog 7 #[.int .i64 room, .slice s n c] w fun e w' => e = .returned (.bool true) ∧ Below w.heap.size w w' := by
  have h3 : n ≤ 9223372036854775807 := by
    obtain ⟨_, h2, h3, _⟩ := rdSlice_pairs h
    unfold maxLen at h3
    omega
  have := u_bounds.2.2.2.2 hr
  by_cases hg : n ≤ 60 ∧ room ≤ 100000
  · exact peak_law room (by omega) hg.2 l s n c w h hg.1
  · exact peak_odd room s n c w h3 hg

end Go.Proofs.Ytoodkfjldflbeaa.Arena
