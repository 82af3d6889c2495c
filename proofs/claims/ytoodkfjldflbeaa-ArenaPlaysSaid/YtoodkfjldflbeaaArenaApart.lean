/- The walk of the law ArenaApart. -/
import Derived.Test.YtoodkfjldflbeaaArenaClear
set_option linter.unusedVariables false
namespace Go.Proofs.Ytoodkfjldflbeaa.Arena
open Go.RowKit

/-- The grant number j: released, or each of its words is j + 1. -/
def Held (w wx : World) (g j : Nat) : Prop :=
  Blk wx g 43 #[.slice none 0 0] ∨ ∃ d n, n ≤ 99 ∧ Blk wx g 43 #[.slice (some ⟨d, 0, none⟩) n n] ∧ Blk wx d 33 (Array.replicate n (.int .u64 ((j : Int) + 1)))

theorem Held.chg {w wx wy : World} {g j : Nat} {S : Nat → Prop} (h : Held w wx g j) (hc : Chg S wx wy) (hg : ¬ S g) (hd : ∀ d cs, Blk wx d 33 cs → ¬ S d) : Held w wy g j := by
  rcases h with h | ⟨d, n, h1, h2, h3⟩
  · exact .inl (h.chg hc hg)
  · exact .inr ⟨d, n, h1, h2.chg hc hg, h3.chg hc (hd d _ h3)⟩

structure ApRel (w : World) (a r : Nat) (A : Ar) (G : List Nat) (v : Value) (wx : World) : Prop where
  pk : PkRel w a r A G v wx
  held : ∀ j (hj : j < G.length), Held w wx G[j] j
  room : A.room = 10000
  used : A.used ≤ 99 * G.length

theorem release_apart {w : World} {a r : Nat} {A : Ar} {G : List Nat} {v : Value} {wx : World} (h : ApRel w a r A G v wx) (hz : w.heap.size ≤ a ∧ w.heap.size ≤ r) (q : Nat) (hq : q < G.length) :
    Calls Try.prog 22 #[.pointer (some ⟨a, 0, none⟩), .pointer (some ⟨G[q], 0, none⟩)] wx fun e w' => ∃ A' t, e = .returned (.bool t) ∧ ApRel w a r A' G v w' := by
  have hb := List.getElem_mem hq
  generalize G[q] = b at *
  obtain ⟨lb, u, hu⟩ := h.pk.buf b hb
  by_cases hm : b ∈ A.st.map (·.1)
  · obtain ⟨p, hp, hpb⟩ := List.mem_map.1 hm
    obtain ⟨b', n⟩ := p
    simp only at hpb
    subst hpb
    refine (release_ok a r b' A n wx h.pk.at_ hp u hu).mono ?_
    rintro e w' ⟨rfl, hA, hB, hg⟩
    refine ⟨_, true, rfl, h.pk.released hz hb hA hB hg, fun j hj => ?_, h.room, by show A.used - n ≤ _; have := h.used; omega⟩
    by_cases hjb : G[j] = b'
    · exact .inl (hjb ▸ hB)
    · obtain ⟨_, u1, hu1⟩ := h.pk.buf _ (List.getElem_mem hj)
      refine (h.held j hj).chg hg ?_ ?_
      · rintro (e | e | e)
        · exact hu1.ne_ h.pk.at_.blk (by decide) e
        · exact h.pk.at_.map.ne_blk hu1 e
        · exact hjb e
      · rintro d cs hd (e | e | e)
        · exact hd.ne_ h.pk.at_.blk (by decide) e
        · exact h.pk.at_.map.ne_blk hd e
        · exact hd.ne_ hu (by decide) e
  · refine (release_no a r b A wx h.pk.at_ ⟨_, hu⟩ hm).mono ?_
    rintro e w' ⟨rfl, rfl⟩
    exact ⟨A, false, rfl, h⟩

theorem tmod_pos {y : Int} {m : Nat} (h0 : 0 ≤ y) (h : 0 < m) : ∃ q : Nat, y.tmod (m : Int) = (q : Int) ∧ q < m := by
  rw [Int.tmod_eq_emod_of_nonneg h0]
  have h1 := Int.emod_nonneg y (show (m : Int) ≠ 0 by omega)
  have h2 := Int.emod_lt_of_pos y (show (0 : Int) < m by omega)
  exact ⟨(y % (m : Int)).toNat, by omega, by omega⟩

def ApLoop (w : World) (a r : Nat) (v iv : Value) (wr : World) : Prop :=
  ∃ (k : Nat) (A : Ar) (G : List Nat), iv = .int .i64 (k : Int) ∧ G.length = k ∧ k ≤ 20 ∧ ApRel w a r A G v wr

def ScLoop (w : World) (a r : Nat) (A : Ar) (G : List Nat) (v iv : Value) (wr : World) : Prop :=
  ∃ i : Nat, iv = .int .i64 (i : Int) ∧ i ≤ G.length ∧ ApRel w a r A G v wr
def In0Loop (w : World) (n : Nat) (iv : Value) (wr : World) : Prop := ∃ k : Nat, iv = .int .i64 (k : Int) ∧ k ≤ n ∧ wr = w

def WrLoop (gd y : Nat) (X : Value) (w : World) (iv : Value) (wr : World) : Prop :=
  ∃ (j : Nat) (cs : Array Value), iv = .int .i64 (j : Int) ∧ j ≤ y ∧ Chg (fun x => x = gd) w wr ∧ Blk wr gd 33 cs ∧ cs.size = y ∧ ∀ i, i < j → cs[i]? = some X

theorem u64_nat {k : Nat} (h : (k : Int) < 18446744073709551616) : IntKind.u64.wrap (k : Int) = (k : Int) := by
  rw [show IntKind.u64.wrap (k : Int) = (k : Int) % 18446744073709551616 from rfl]
  omega

set_option maxRecDepth 100000 in
set_option maxHeartbeats 800000 in
theorem apart_law (l l2 : List Int) (s : Option Addr) (n c : Nat) (s2 : Option Addr) (n2 c2 : Nat) (w : World) (h : rdSlice 1 (rdInt .u8) w [.slice s n c] l) (h' : rdSlice 1 (rdInt .u8) w [.slice s2 n2 c2] l2) (hn20 : n ≤ 20) (hn2 : n2 ≤ 20) :
    Calls Try.prog 5 #[.slice s n c, .slice s2 n2 c2] w fun e w' => e = .returned (.bool true) ∧ Below w.heap.size w w' := by
  obtain ⟨hn, _, _, hs, hl⟩ := rdSlice_ints h
  obtain ⟨hn', _, _, hs', hl'⟩ := rdSlice_ints h'
  go_enter Try.func5, Try.ntmps5
  go_wp2_with fail
  refine (awake_any _).mono ?_
  rintro e w1 ⟨rfl, hb1⟩
  go_wp2_with fail
  refine (new_any 10000 _ (by omega) (by omega)).mono ?_
  rintro e w2 ⟨rfl, hA, hb2⟩
  have hb3 := hb1.trans (hb2.mono hb1.size)
  have hz1 := hb1.size
  obtain ⟨a, ha⟩ : ∃ a, a = w1.heap.size + 1 := ⟨_, rfl⟩
  obtain ⟨r, hr'⟩ : ∃ r, r = w1.heap.size := ⟨_, rfl⟩
  have hab : w.heap.size ≤ a ∧ w.heap.size ≤ r := by omega
  rw [← ha, ← hr'] at hA
  rw [← ha]
  clear ha hr' hz1 hb2
  go_wp2_with fail
  go_loopw [6, 7] (fun v iv wr => ApLoop w a r v iv wr) (fun _ iv _ => n - (intOf iv).toNat)
  case atStart => exact ⟨0, _, [], rfl, rfl, by omega, ⟨⟨hA, hb3, World.ownsRow_nil _ _ _ _, fun g hg => by simp at hg, fun p hp => by simp at hp⟩, fun j hj => by simp at hj, rfl, by simp⟩⟩
  case round =>
    obtain ⟨k, A, G, rfl, hG, hk, hP, hheld, hroom, hused⟩ := hrel
    by_cases hlt : (k : Int) < n
    · obtain ⟨b1, o1, rfl, hc1, l1⟩ := hs.at_ (i := k) (by rw [List.length_map]; omega)
      have hd1 : ∀ W, Below w.heap.size w W → W.cell? ⟨b1, o1 + k, none⟩ = some (.int .u8 (l[k]'(by omega))) := fun W hW => by rw [hW.cell l1, hc1]; simp
      have hx := u_bounds.2.2.1 (hl (l[k]'(by omega)) (List.getElem_mem _))
      clear hc1
      generalize l[k]'(by omega) = x at *
      have hd := hd1 wr hP.bel
      obtain ⟨ok1, ok2, ok3, ok4, ok5⟩ := hP.at_.ok
      clear ok1 ok4
      obtain ⟨y, hy, hy100⟩ : ∃ y : Nat, (x.tmod 100) = (y : Int) ∧ y ≤ 99 := ⟨(x % 100).toNat, by rw [Int.tmod_eq_emod_of_nonneg (by omega)]; omega, by omega⟩
      have hy2 : IntKind.i64.wrap (y : Int) = (y : Int) := by rw [IntKind.wrap_i64]; omega
      have HH := Lib.hid hheld
      have HG := Lib.hid hG
      clear hheld hs hl hG hx h h'
      go_wp2_with fail
      refine (grant_ok a r A y _ hP.at_ (by have := HG.out; omega)).mono ?_
      rintro e w3 ⟨gb, gd, rfl, HA, hB, hD, g1, g2, g3, hg⟩
      have hb4 : Below w.heap.size w w3 := hP.bel.trans (hg.below_of hP.bel.size (fun k hk => by omega))
      have hd3 := hd1 w3 hb4
      go_wp2_with fail
      refine (clear_ok gb gd y _ hB hD (by omega)).mono ?_
      rintro e w4 ⟨rfl, hq4⟩
      have hB4 := hq4.blk hB
      have hD4 := hq4.blk hD
      have hg4 : Chg (fun k => k = a ∨ k = r) wr w4 := hg.trans (hq4.chg (fun _ => False)) (fun _ _ h => h.elim)
      have HA4 := HA.quiet hq4
      clear hB hD hg HA hq4 hd3 hb4
      have hne : gb ≠ gd := hB4.ne_ hD4 (by decide)
      have hw1 : IntKind.u64.wrap (k : Int) = (k : Int) := u64_nat (by omega)
      have hw2 : IntKind.u64.wrap ((k : Int) + 1) = (k : Int) + 1 := u64_nat (k := k + 1) (by omega)
      go_wp2_with fail
      go_loopw [10] (fun iv wr => WrLoop gd y (.int .u64 ((k : Int) + 1)) w4 iv wr) (fun iv _ => y - (intOf iv).toNat)
      case atStart => exact ⟨0, _, rfl, by omega, Chg.refl _ _, hD4, by simp, fun i hi => by omega⟩
      case round =>
        obtain ⟨j, cs, rfl, hj, hcg, hbk, hsz, hcs⟩ := hrel
        have e1 : wr.cell? ⟨gb, 0, none⟩ = some (.slice (some ⟨gd, 0, none⟩) y y) := by rw [(hB4.chg hcg hne).cell 0]; rfl
        by_cases hlt2 : (j : Int) < y
        · have e2 : wr.cell? ⟨gd, j, none⟩ = some (cs[j]'(by omega)) := by rw [hbk.cell j, Array.getElem?_eq_getElem]
          have e3 := hbk.frozen j
          go_wp2_with fail
          go_roundw
          case rel =>
            refine ⟨j + 1, _, by go_num, by omega, hcg.setCell _ _ (fun _ => rfl), hbk.set_ j _, by simp [hsz], ?_⟩
            intro i hi
            by_cases hij : i = j
            · subst hij; rw [Array.getElem?_setIfInBounds_self_of_lt (by omega)]
            · rw [Array.getElem?_setIfInBounds_ne (by omega)]; exact hcs i (by omega)
          case measure => simp [intOf]; omega
        · have hcs' : cs = Array.replicate y (.int .u64 ((k : Int) + 1)) := by
            apply Array.ext_getElem?
            intro i
            rw [Array.getElem?_replicate]
            split
            · exact hcs i (by omega)
            · rw [Array.getElem?_eq_none (by omega)]
          subst hcs'
          have hg5 := hg4.trans (S := fun k => k = a ∨ k = r) hcg (fun k hk e => by omega)
          have hB5 := hB4.chg hcg hne
          have HA5 := HA4.chg hcg (HA4.blk.ne_ hD4 (by decide)) (fun e => HA4.map.ne_blk hD4 e.symm) (fun p hp e => by obtain ⟨cs, hc⟩ := HA4.bufs p hp; exact absurd e (hc.ne_ hD4 (by decide)))
          have hown5 := own_chg hP.own hg5 (by
            rintro g hg' (rfl | rfl)
            · exact own_ne_blk hP.own hP.at_.blk (by decide) hg'
            · exact hP.at_.map.ne_own hP.own hg')
          have hz0 := hP.bel.size
          have hz5 := hg5.size
          have hheld5 : ∀ j (hj : j < G.length), Held w wr G[j] j := fun j hj => (HH.out j hj).chg hg5 (by
            obtain ⟨_, u, hu⟩ := hP.buf _ (List.getElem_mem hj)
            rintro (e | e)
            · exact hu.ne_ hP.at_.blk (by decide) e
            · exact hP.at_.map.ne_blk hu e) (by
            rintro d cs hd (e | e)
            · exact hd.ne_ hP.at_.blk (by decide) e
            · exact hP.at_.map.ne_blk hd e)
          have hHnew : Held w wr gb k := .inr ⟨gd, y, hy100, hB5, hbk⟩
          have HH5 := Lib.hid hheld5
          have HN := Lib.hid hHnew
          clear HH HA4 hB4 hD4 hcg hg4 hcs hj hsz hd hheld5 hHnew
          go_wp2_with (at_builtin; go_must (refine wpList_append rfl (.tmp 75) (.tmp 77) _ rfl el_buf w.heap.size _ _ _ rfl (hown5.alloc _) _ 1 1 [ptrKey gb] rfl rfl (Row.new wr _ _ _) (by intro u hu; simp at hu; subst hu; rfl) (by have := HG.out; unfold maxLen; omega) (by have := HG.out; omega) (by simp; omega) ?_))
          intro v6 w6 hown6 hg6 _ hb6
          have hc6 := ((Chg.refl (fun k => some k = u6.ownBlock) wr).alloc (.cells #[ptrKey gb] 27 (0, 0))).trans (Chg.of_grown hg6) (fun _ _ h => h)
          have hP6 := hP.granted hab HA5 hB5 g1 hg5 hown6 hc6 (((Below.refl w.heap.size wr).alloc (by omega) _).trans hb6)
          have keep : ∀ {g : Nat} {t : TypeId} {cs : Array Value}, Blk wr g t cs → 27 ≠ t → some g ≠ u6.ownBlock := fun hb hne e => own_ne_blk hown5 hb hne e.symm
          have held6 : ∀ j (hj : j < (G ++ [gb]).length), Held w w6 (G ++ [gb])[j] j := by
            intro j hj
            have aux : ∀ g, (∃ u, Blk wr g 43 #[u]) → Held w wr g j → Held w w6 g j := fun g ⟨u, hu⟩ h => h.chg hc6 (keep hu (by decide)) (fun d cs hd => keep hd (by decide))
            rw [List.length_append, List.length_singleton] at hj
            by_cases hjG : j < G.length
            · rw [List.getElem_append_left hjG]
              obtain ⟨_, u, hu⟩ := hP.buf _ (List.getElem_mem hjG)
              refine aux _ ⟨u, hu.chg hg5 ?_⟩ (HH5.out j hjG)
              rintro (e | e)
              · exact hu.ne_ hP.at_.blk (by decide) e
              · exact hP.at_.map.ne_blk hu e
            · have hjk : j = k := by have := HG.out; omega
              subst hjk
              rw [List.getElem_append_right (by omega)]
              simp only [HG.out, Nat.sub_self, List.getElem_cons_zero]
              exact aux _ ⟨_, hB5⟩ HN.out
          have hR6 : ApRel w a r (A.grant y gb) (G ++ [gb]) v6 w6 := ⟨hP6, held6, hroom, by show A.used + y ≤ _; simp; omega⟩
          clear keep hP6 held6 HH5 HN hc6 hown6 hg6 hb6 hown5 HA5 hB5 hg5 hbk
          have hk6 : (G ++ [gb]).length = k + 1 := by have := HG.out; simp; omega
          clear HG hused hP ok2 ok3 ok5 hroom
          generalize A.grant y gb = A6 at *
          generalize G ++ [gb] = G6 at *
          have HK := Lib.hid hk6
          have hk7 : (G6.length : Int) ≤ 21 := by omega
          clear hk6
          by_cases hk2 : (k : Int) < n2
          · obtain ⟨b2, o2, rfl, hc2, l3⟩ := hs'.at_ (i := k) (by rw [List.length_map]; omega)
            have hd2 : w6.cell? ⟨b2, o2 + k, none⟩ = some (.int .u8 (l2[k]'(by omega))) := by rw [hR6.pk.bel.cell l3, hc2]; simp
            have hz := u_bounds.2.2.1 (hl' (l2[k]'(by omega)) (List.getElem_mem _))
            clear hc2
            generalize l2[k]'(by omega) = z at *
            by_cases hz3 : z.tmod 3 = 0
            · have hz4 : (z.tmod 3 == 0) = true := by rw [hz3]; rfl
              obtain ⟨g, cap, rfl, -, -⟩ := World.ownsRow.form hR6.pk.own (by have := HK.out; omega)
              obtain ⟨q, hq, hqG⟩ := tmod_pos hz.1 (show 0 < G6.length by have := HK.out; omega)
              have hzw : IntKind.i64.wrap z = z := by rw [IntKind.wrap_i64]; omega
              have hcell : w6.cell? ⟨g, q, none⟩ = some (.pointer (some ⟨G6[q], 0, none⟩)) := by
                rw [hR6.pk.own.cellAt q (by simpa using hqG)]
                simp [ptrKey, hqG]
              clear hz3 hz
              go_wp2_with fail
              refine (release_apart hR6 hab q hqG).mono ?_
              rintro e w7 ⟨A7, t, rfl, hR7⟩
              go_wp2_with fail
              go_roundw
              case rel => exact ⟨k + 1, A7, G6, by go_num, HK.out, by omega, hR7⟩
              case measure => simp [intOf]; omega
            · have hz4 : (z.tmod 3 == 0) = false := by rw [beq_eq_false_iff_ne]; exact hz3
              clear hz3 hz
              go_wp2_with fail
              go_roundw
              case rel => exact ⟨k + 1, A6, G6, by go_num, HK.out, by omega, hR6⟩
              case measure => simp [intOf]; omega
          · go_wp2_with fail
            go_roundw
            case rel => exact ⟨k + 1, A6, G6, by go_num, HK.out, by omega, hR6⟩
            case measure => simp [intOf]; omega
    · go_wp2_with fail
      have hR : ApRel w a r A G u6 wr := ⟨hP, hheld, hroom, hused⟩
      have hGl : (G.length : Int) ≤ 20 := by omega
      clear hP hheld hroom hused hs hs' hl hl' h h' hG hlt hA
      go_loopw [11] (fun iv wr => ScLoop w a r A G u6 iv wr) (fun iv _ => G.length - (intOf iv).toNat)
      case atStart => exact ⟨0, rfl, by omega, hR⟩
      case round =>
        clear hR
        obtain ⟨i, rfl, hi, hR⟩ := hrel
        by_cases hlt2 : (i : Int) < G.length
        · have hiG : i < G.length := by omega
          obtain ⟨g, cap, rfl, -, -⟩ := World.ownsRow.form hR.pk.own (by omega)
          have hcell : wr.cell? ⟨g, i, none⟩ = some (.pointer (some ⟨G[i], 0, none⟩)) := by
            rw [hR.pk.own.cellAt i (by simpa using hiG)]
            simp [ptrKey, hiG]
          have hw1 : IntKind.u64.wrap (i : Int) = (i : Int) := u64_nat (by omega)
          have hw2 : IntKind.u64.wrap ((i : Int) + 1) = (i : Int) + 1 := u64_nat (k := i + 1) (by omega)
          rcases hR.held i hiG with hh | ⟨d, m, hm, hh, hD⟩
          · have e1 : wr.cell? ⟨G[i], 0, none⟩ = some (.slice none 0 0) := by rw [hh.cell 0]; rfl
            go_wp2_with fail
            go_loopw [12] (fun iv wr2 => In0Loop wr 0 iv wr2) (fun iv _ => 0)
            case atStart => exact ⟨0, rfl, by omega, rfl⟩
            case round =>
              obtain ⟨j, rfl, hj, rfl⟩ := hrel
              obtain rfl : j = 0 := by omega
              go_wp2_with fail
              go_roundw
              case rel => exact ⟨i + 1, by go_num, by omega, hR⟩
              case measure => simp [intOf]; omega
          · have e1 : wr.cell? ⟨G[i], 0, none⟩ = some (.slice (some ⟨d, 0, none⟩) m m) := by rw [hh.cell 0]; rfl
            go_wp2_with fail
            go_loopw [12] (fun iv wr2 => In0Loop wr m iv wr2) (fun iv _ => m - (intOf iv).toNat)
            case atStart => exact ⟨0, rfl, by omega, rfl⟩
            case round =>
              obtain ⟨j, rfl, hj, rfl⟩ := hrel
              by_cases hlt3 : (j : Int) < m
              · have e2 : wr.cell? ⟨d, j, none⟩ = some (.int .u64 ((i : Int) + 1)) := by rw [hD.cell j, Array.getElem?_replicate, if_pos (by omega)]
                go_wp2_with fail
                go_roundw
                case rel => exact ⟨j + 1, by go_num, by omega, rfl⟩
                case measure => simp [intOf]; omega
              · go_wp2_with fail
                go_roundw
                case rel => exact ⟨i + 1, by go_num, by omega, hR⟩
                case measure => simp [intOf]; omega
        · obtain ⟨as1, cs, rfl, -⟩ := own_slice hR.pk.own
          go_wp2_with fail
          go_ret
          exact ⟨rfl, hR.pk.bel⟩

set_option maxRecDepth 100000 in
theorem apart_odd (s : Option Addr) (n c : Nat) (s2 : Option Addr) (n2 c2 : Nat) (w : World) (hn : n ≤ 9223372036854775807) (hn' : n2 ≤ 9223372036854775807) (h : ¬ (n ≤ 20 ∧ n2 ≤ 20)) :
    Calls Try.prog 5 #[.slice s n c, .slice s2 n2 c2] w fun e w' => e = .returned (.bool true) ∧ Below w.heap.size w w' := by
  by_cases h1 : (20 : Int) < n
  all_goals (by_cases h2 : (20 : Int) < n2)
  all_goals first | (exfalso; omega) | skip
  all_goals
    clear h
    go_enter Try.func5, Try.ntmps5
    go_wp2_with fail
    refine (awake_any _).mono ?_
    rintro e1 w1 ⟨rfl, hb1⟩
    go_wp2_with fail
    refine (awake_any _).mono ?_
    rintro e2 w2 ⟨rfl, hb2⟩
    go_wp2_with fail
    go_ret
    exact ⟨rfl, hb1.trans (hb2.mono hb1.size)⟩

theorem ArenaApart_walk {w : World} (s : Option Addr) (n c : Nat) (l : List Int) (h : rdSlice 1 (rdInt .u8) w [.slice s n c] l) (s2 : Option Addr) (n2 c2 : Nat) (l2 : List Int) (h' : rdSlice 1 (rdInt .u8) w [.slice s2 n2 c2] l2) :
    Calls Try.prog 5 #[.slice s n c, .slice s2 n2 c2] w fun e w' => e = .returned (.bool true) ∧ Below w.heap.size w w' := by
  have h3 : n ≤ 9223372036854775807 := by
    obtain ⟨_, h2, h3, _⟩ := rdSlice_ints h
    unfold maxLen at h3
    omega
  have h4 : n2 ≤ 9223372036854775807 := by
    obtain ⟨_, h2, h3, _⟩ := rdSlice_ints h'
    unfold maxLen at h3
    omega
  by_cases hg : n ≤ 20 ∧ n2 ≤ 20
  · exact apart_law l l2 s n c s2 n2 c2 w h h' hg.1 hg.2
  · exact apart_odd s n c s2 n2 c2 w h3 h4 hg

end Go.Proofs.Ytoodkfjldflbeaa.Arena
