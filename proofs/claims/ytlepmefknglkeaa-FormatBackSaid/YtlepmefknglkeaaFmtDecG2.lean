/- The walk of format.Decode: its refusals ahead of the rows, and all of it. -/
import Derived.Test.YtlepmefknglkeaaFmtDecG
set_option linter.unusedVariables false
namespace Go.Proofs.Ytlepmefknglkeaa.Gr
open Go.RowKit Var

set_option maxRecDepth 100000 in
set_option maxHeartbeats 1000000 in
theorem decode_magic (a : Option Addr) (n c : Nat) (b : List Nat) (w : World) (hn : n < 1000000000) (hr : Row w a (byts b)) (hl : b.length = n) (hb : b = [] ∨ b.head? ≠ some 71) :
    Calls Try.prog 34 #[.slice a n c] w (DecTold 0 [] 0 3 w) := by
  have h1 := below_new w (.cells #[.int .i64 0, .slice none 0 0] 24)
  have B1 := Lib.hid (Blk.new w 24 #[.int .i64 0, .slice none 0 0])
  have H2 := Lib.hid h1
  rcases Nat.eq_zero_or_pos n with h0 | h0
  · subst h0
    clear hb hr hl h1
    go_enter Try.func34, Try.ntmps34
    go_wp2_with fail
    (try simp only [Exit.inBlock, Exit.then])
    generalize w.alloc (.cells #[.int .i64 0, .slice none 0 0] 24) = W at *
    have r0 : W.cell? ⟨w.heap.size, 0, none⟩ = some (.int .i64 0) := B1.out.cell 0
    have r1 : W.cell? ⟨w.heap.size, 1, none⟩ = some (.slice none 0 0) := B1.out.cell 1
    refine bodyPost_ret (by simp [results, Try.results34, go_sem, r0, r1]; try rfl) rfl ?_
    exact ⟨none, 0, 0, rfl, fun i hi => absurd hi (by simp), rfl, H2.out⟩
  · obtain ⟨x, hx, hx71⟩ : ∃ x, b[0]? = some x ∧ x ≠ 71 := by
      cases b with
      | nil => simp at hl; omega
      | cons x t =>
        refine ⟨x, rfl, fun e => ?_⟩
        subst e
        simp at hb
    obtain ⟨g, off, rfl, e1, hg⟩ := hr.at_ (i := 0) (by rw [byts_length]; omega)
    have e2 : (byts b)[0]'(by rw [byts_length]; omega) = .int .u8 (x : Int) := by
      obtain ⟨h7, h8⟩ := List.getElem?_eq_some_iff.1 hx
      simp [byts, h8]
    rw [e2, Nat.add_zero] at e1
    have hne : ((x : Int) != 71) = true := by rw [bne_iff_ne]; omega
    have hn0 : (0 : Int) < n := by omega
    have hn1 : ¬ (n : Int) = 0 := by omega
    have hn2 : ((n : Int) == 0) = false := by simp; omega
    clear hb hr hl e2 hx h1
    go_enter Try.func34, Try.ntmps34
    go_wp2_with fail
    (try simp only [Exit.inBlock, Exit.then])
    generalize w.alloc (.cells #[.int .i64 0, .slice none 0 0] 24) = W at *
    have r0 : W.cell? ⟨w.heap.size, 0, none⟩ = some (.int .i64 0) := B1.out.cell 0
    have r1 : W.cell? ⟨w.heap.size, 1, none⟩ = some (.slice none 0 0) := B1.out.cell 1
    refine bodyPost_ret (by simp [results, Try.results34, go_sem, r0, r1]; try rfl) rfl ?_
    exact ⟨none, 0, 0, rfl, fun i hi => absurd hi (by simp), rfl, H2.out⟩

def Still1 (v : Value) (w : World) (vv : Value) (wr : World) : Prop := v = vv ∧ w = wr

/-- The first number, or the second one, is none. -/
theorem fail_facts {w W w1 : World} {R : Nat} {a : Option Addr} {n c : Nat} {b : List Nat} {p : Int} {fail : Bool} {N : Int} (hS : Blk W w.heap.size 24 #[.int .i64 0, .slice none 0 0]) (hW : Below w.heap.size w W) (hR : R = w.heap.size + 1)
    (hr : Row w a (byts b)) (hl : b.length = n) (h1 : Rdr w1 R a n c b p fail) (h2 : Chg (fun j => j = R) W w1) :
    Rdr (w1.alloc (.cells #[.int .i64 N, .slice none 0 0] 24)) R a n c b p fail ∧ Blk (w1.alloc (.cells #[.int .i64 N, .slice none 0 0] 24)) w1.heap.size 24 #[.int .i64 N, .slice none 0 0] ∧
      Blk (w1.alloc (.cells #[.int .i64 N, .slice none 0 0] 24)) w.heap.size 24 #[.int .i64 0, .slice none 0 0] ∧ Below w.heap.size w (w1.alloc (.cells #[.int .i64 N, .slice none 0 0] 24)) := by
  have hb : Below w.heap.size w (w1.alloc (.cells #[.int .i64 N, .slice none 0 0] 24)) := (hW.trans (h2.below_of hW.size (fun k hk e => by omega))).alloc (Nat.le_trans hW.size h2.size) _
  exact ⟨⟨h1.blk.alloc _, hr.below hb, hl⟩, Blk.new _ _ _, (hS.chg h2 (by omega)).alloc _, hb⟩

set_option maxRecDepth 100000 in
set_option maxHeartbeats 1000000 in
theorem decode_first (a : Option Addr) (n c : Nat) (b : List Nat) (w : World) (hn : n < 1000000000) (hr : Row w a (byts b)) (hl : b.length = n) (h256 : ∀ x ∈ b, x < 256) (hb : b.head? = some 71) (hf : (num b 1 1073741824).2.2 = true) :
    Calls Try.prog 34 #[.slice a n c] w (DecTold 0 [] (num b 1 1073741824).2.1 3 w) := by
  have h1 := below_new w (.cells #[.int .i64 0, .slice none 0 0] 24)
  have h2 := h1.trans ((below_new (w.alloc (.cells #[.int .i64 0, .slice none 0 0] 24)) (.cells #[.slice a n c, .int .i64 1, .bool false] 62)).mono h1.size)
  have B1 := Lib.hid ((Blk.new w 24 #[.int .i64 0, .slice none 0 0]).alloc (.cells #[.slice a n c, .int .i64 1, .bool false] 62))
  have B2 := Blk.new (w.alloc (.cells #[.int .i64 0, .slice none 0 0] 24)) 62 #[.slice a n c, .int .i64 1, .bool false]
  rw [show (w.alloc (.cells #[.int .i64 0, .slice none 0 0] 24)).heap.size = w.heap.size + 1 by simp] at B2
  have HB2 := Lib.hid (⟨B2, hr.below h2, hl⟩ : Rdr _ _ a n c b 1 false)
  have H2 := Lib.hid h2
  have HR := Lib.hid hr
  have N1 := take_num (w.heap.size + 1) a n c b 1 1073741824 _ h256 hn (by omega) HB2.out
  rw [show ((1073741824 : Nat) : Int) = 1073741824 from rfl, hf, num_zero hf] at N1
  have HN := Lib.hid N1
  generalize (num b 1 1073741824).2.1 = p at *
  obtain ⟨g, off, rfl, e1, hg, hlb⟩ := head_cell hr hb
  have hn1 : ¬ (n : Int) = 0 := by omega
  have hn2 : ((n : Int) == 0) = false := by simp; omega
  have hn0 : (0 : Int) < n := by omega
  clear h1 h2 B2 N1 hr hb hf HB2
  go_enter Try.func34, Try.ntmps34
  go_wp2_with fail
  generalize (w.alloc (.cells #[.int .i64 0, .slice none 0 0] 24)).alloc (.cells #[.slice (some ⟨g, off, none⟩) n c, .int .i64 1, .bool false] 62) = W at *
  refine HN.out.mono ?_
  rintro e w1 ⟨rfl, hr1, hc1⟩
  obtain ⟨f1, f2, f3, f4⟩ := fail_facts (N := 0) B1.out H2.out rfl HR.out hl hr1 hc1
  have F1 := Lib.hid f1
  have F3 := Lib.hid f3
  have F4 := Lib.hid f4
  obtain ⟨-, d1, d2, -⟩ := f1.cells
  have c0 := f2.cell 0
  have r0 := f3.cell 0
  have r1 := f3.cell 1
  have q0 := f3.frozen 0
  have q1 := f3.frozen 1
  have hT := Lib.hid (take_failed (w.heap.size + 1) (some ⟨g, off, none⟩) n c b p 0 _ f1)
  have hlt := f1.blk.lt
  clear f1 f2 f3 f4 hr1 hc1 HN B1 H2 HR
  go_wp2_with fail
  generalize w1.alloc (.cells #[.int .i64 0, .slice none 0 0] 24) = W2 at *
  generalize w1.heap.size = G at *
  refine hT.out.mono ?_
  rintro e w2 ⟨rfl, rfl⟩
  go_wp2_with fail
  go_loopw [9] (fun uv wr => Still1 (.int .i64 0) W2 uv wr) (fun _ _ => 0)
  case atStart => exact ⟨rfl, rfl⟩
  case round =>
    obtain ⟨rfl, rfl⟩ := hrel
    go_wp2_with fail
    go_region
    go_wp2_with fail
    obtain ⟨_, r2, r3⟩ := res_cells F3.out (.int .i64 0) (.slice none 0 0)
    (try simp only [Exit.inBlock, Exit.then])
    refine bodyPost_ret (by simp [results, Try.results34, go_sem, r2, r3]; try rfl) rfl ?_
    exact dec_none_drew p F3.out F4.out (Nat.le_refl _)

set_option maxRecDepth 100000 in
set_option maxHeartbeats 2000000 in
theorem decode_second (a : Option Addr) (n c : Nat) (b : List Nat) (w : World) (N : Nat) (p1 p : Int) (hn : n < 1000000000) (hr : Row w a (byts b)) (hl : b.length = n) (h256 : ∀ x ∈ b, x < 256) (hb : b.head? = some 71) (hf : num b 1 1073741824 = ((N : Int), p1, false))
    (hf2 : num b p1 (if N = 0 then 0 else 1073741824) = (0, p, true)) :
    Calls Try.prog 34 #[.slice a n c] w (DecTold 0 [] p 3 w) := by
  have h1 := below_new w (.cells #[.int .i64 0, .slice none 0 0] 24)
  have h2 := h1.trans ((below_new (w.alloc (.cells #[.int .i64 0, .slice none 0 0] 24)) (.cells #[.slice a n c, .int .i64 1, .bool false] 62)).mono h1.size)
  have B1 := Lib.hid ((Blk.new w 24 #[.int .i64 0, .slice none 0 0]).alloc (.cells #[.slice a n c, .int .i64 1, .bool false] 62))
  have B2 := Blk.new (w.alloc (.cells #[.int .i64 0, .slice none 0 0] 24)) 62 #[.slice a n c, .int .i64 1, .bool false]
  rw [show (w.alloc (.cells #[.int .i64 0, .slice none 0 0] 24)).heap.size = w.heap.size + 1 by simp] at B2
  have HB2 := Lib.hid (⟨B2, hr.below h2, hl⟩ : Rdr _ _ a n c b 1 false)
  have H2 := Lib.hid h2
  have HR := Lib.hid hr
  have N1 := take_num (w.heap.size + 1) a n c b 1 1073741824 _ h256 hn (by omega) HB2.out
  rw [show ((1073741824 : Nat) : Int) = 1073741824 from rfl, hf] at N1
  have HN := Lib.hid N1
  have hp1 := num_end b 1 1073741824 (by rw [hf])
  rw [hf] at hp1
  simp only at hp1
  obtain ⟨g, off, rfl, e1, hg, hlb⟩ := head_cell hr hb
  have hn1 : ¬ (n : Int) = 0 := by omega
  have hn2 : ((n : Int) == 0) = false := by simp; omega
  have hn0 : (0 : Int) < n := by omega
  have hcase : ∃ mo : Nat, mo ≤ 1073741824 ∧ num b p1 (mo : Int) = (0, p, true) ∧ (((N : Int) == 0) = true ∧ mo = 0 ∨ ((N : Int) == 0) = false ∧ mo = 1073741824) := by
    by_cases h0 : N = 0
    · rw [if_pos h0] at hf2
      exact ⟨0, by omega, hf2, .inl ⟨by simp [h0], rfl⟩⟩
    · rw [if_neg h0] at hf2
      exact ⟨1073741824, by omega, hf2, .inr ⟨by simp [h0], rfl⟩⟩
  clear h1 h2 B2 N1 hr hb hf HB2 hf2
  go_enter Try.func34, Try.ntmps34
  go_wp2_with fail
  generalize (w.alloc (.cells #[.int .i64 0, .slice none 0 0] 24)).alloc (.cells #[.slice (some ⟨g, off, none⟩) n c, .int .i64 1, .bool false] 62) = W at *
  refine HN.out.mono ?_
  rintro e w1 ⟨rfl, hr1, hc1⟩
  obtain ⟨f1, f2, f3, f4⟩ := fail_facts (N := (N : Int)) B1.out H2.out rfl HR.out hl hr1 hc1
  have F1 := Lib.hid f1
  have F2 := Lib.hid f2
  have F3 := Lib.hid f3
  have F4 := Lib.hid f4
  have c0 := f2.cell 0
  have hlt := f1.blk.lt
  have hz := hc1.size
  have hz2 := H2.out.size
  have hRz := F1.out.blk.lt
  have hGne : ¬ w1.heap.size = w.heap.size + 1 := by
    have := (f2.ne_ f1.blk (by decide))
    omega
  clear f1 f2 f3 f4 hr1 hc1 HN B1 H2
  obtain ⟨mo, hmo, hnum, hk⟩ := hcase
  have T2 := take_num (w.heap.size + 1) (some ⟨g, off, none⟩) n c b p1 mo _ h256 hn hmo F1.out
  rw [hnum] at T2
  have HT := Lib.hid T2
  clear T2 hnum
  rcases hk with ⟨x1, rfl⟩ | ⟨x1, rfl⟩
  all_goals
    go_wp2_with fail
    generalize w1.alloc (.cells #[.int .i64 (N : Int), .slice none 0 0] 24) = W2 at *
    generalize w1.heap.size = G at *
    refine HT.out.mono ?_
    rintro e w2 ⟨rfl, hr2, hc2⟩
    have g3 := F3.out.chg hc2 (show ¬ w.heap.size = w.heap.size + 1 by omega)
    have g4 : Below w.heap.size w w2 := F4.out.trans (hc2.below_of F4.out.size (fun k hk e => by omega))
    have g2 := (F2.out.chg hc2 hGne).cell 0
    obtain ⟨-, d1, d2, -⟩ := hr2.cells
    have r0 := g3.cell 0
    have r1 := g3.cell 1
    have q0 := g3.frozen 0
    have q1 := g3.frozen 1
    have G3 := Lib.hid g3
    have G4 := Lib.hid g4
    clear c0 g3 g4 hr2 hc2 HT F1 F2 F3 F4
    go_wp2_with fail
    go_loopw [9] (fun uv wr => Still1 (.int .i64 0) w2 uv wr) (fun _ _ => 0)
    case atStart => exact ⟨rfl, rfl⟩
    case round =>
      obtain ⟨rfl, rfl⟩ := hrel
      go_wp2_with fail
      all_goals
        go_region
        go_wp2_with fail
        obtain ⟨_, r2, r3⟩ := res_cells G3.out (.int .i64 0) (.slice none 0 0)
        (try simp only [Exit.inBlock, Exit.then])
        refine bodyPost_ret (by simp [results, Try.results34, go_sem, r2, r3]; try rfl) rfl ?_
        exact dec_none_drew p G3.out G4.out (Nat.le_refl _)

theorem decG_eq {b : List Nat} {N M : Nat} {p1 p2 : Int} (hb : b.head? = some 71) (hN : num b 1 1073741824 = ((N : Int), p1, false)) (hM : num b p1 (if N = 0 then 0 else 1073741824) = ((M : Int), p2, false)) :
    dec b = decEnd b N (decRows b N M N 0 [] p2) := by
  have h0 : (if N = 0 then (0 : Int) else 1073741824) = most0 N := by unfold most0; by_cases h : N = 0 <;> simp [h]
  rw [h0] at hM
  have hr : restOf b = decRows b N M N 0 [] p2 := by
    unfold restOf
    rw [hN]
    simp only
    rw [hM, Int.toNat_natCast]
  rw [dec_rest hb (by rw [hN]) (by rw [hN]; simp only; rw [hM]), hr, hN]
  rfl

/-- What both answer, of all bytes. -/
theorem dec_cases (P : Int × List E2 × Int × Int → Prop) (b : List Nat)
    (h1 : (b = [] ∨ b.head? ≠ some 71) → P (0, [], 0, 3))
    (h2 : b.head? = some 71 → (num b 1 1073741824).2.2 = true → P (0, [], (num b 1 1073741824).2.1, 3))
    (h3 : ∀ (N : Nat) (p1 p : Int), b.head? = some 71 → num b 1 1073741824 = ((N : Int), p1, false) → num b p1 (if N = 0 then 0 else 1073741824) = (0, p, true) → P (0, [], p, 3))
    (h4 : ∀ (N M : Nat) (p1 p2 : Int), b.head? = some 71 → num b 1 1073741824 = ((N : Int), p1, false) → num b p1 (if N = 0 then 0 else 1073741824) = ((M : Int), p2, false) → P (decEnd b N (decRows b N M N 0 [] p2))) : P (dec b) := by
  rcases dec_ways b with g1 | ⟨g1, g2⟩ | ⟨g1, g2, g3⟩ | ⟨g1, g2, g3⟩
  · rw [dec_magic g1]; exact h1 g1
  · rw [dec_first g1 g2]; exact h2 g1 g2
  all_goals
    have hend := num_end b 1 _ g2
    obtain ⟨⟨x, p1, f⟩, hq⟩ : ∃ q, num b 1 1073741824 = q := ⟨_, rfl⟩
    rw [hq] at g2 g3 hend
    simp only at g2 g3 hend
    subst g2
    obtain ⟨N, rfl⟩ := Int.eq_ofNat_of_zero_le hend.1
    have h0 : (if N = 0 then (0 : Int) else 1073741824) = most0 N := by unfold most0; by_cases h : N = 0 <;> simp [h]
  · rw [dec_second g1 (by rw [hq]) (by rw [hq]; exact g3), hq]
    refine h3 N p1 _ g1 hq ?_
    rw [h0]
    exact Prod.ext (num_zero g3) (Prod.ext rfl g3)
  · have hend2 := num_end b p1 _ g3
    obtain ⟨⟨y, p2, f2⟩, hq2⟩ : ∃ q, num b p1 (most0 N) = q := ⟨_, rfl⟩
    rw [hq2] at g3 hend2
    simp only at g3 hend2
    subst g3
    obtain ⟨M, rfl⟩ := Int.eq_ofNat_of_zero_le hend2.1
    rw [← h0] at hq2
    rw [decG_eq g1 hq hq2]
    exact h4 N M p1 p2 g1 hq hq2

theorem decode_told (a : Option Addr) (n c : Nat) (b : List Nat) (w : World) (hn : n < 1000000000) (hr : Row w a (byts b)) (hl : b.length = n) (h256 : ∀ x ∈ b, x < 256) :
    Calls Try.prog 34 #[.slice a n c] w (DecTold (dec b).1 (dec b).2.1 (dec b).2.2.1 (dec b).2.2.2 w) :=
  dec_cases (fun d => Calls Try.prog 34 #[.slice a n c] w (DecTold d.1 d.2.1 d.2.2.1 d.2.2.2 w)) b
    (fun h => decode_magic a n c b w hn hr hl h)
    (fun h h2 => decode_first a n c b w hn hr hl h256 h h2)
    (fun N p1 p h h1 h2 => decode_second a n c b w N p1 p hn hr hl h256 h h1 h2)
    (fun N M p1 p2 h h1 h2 => decode_rest a n c b w N M p1 p2 hn hr hl h256 h h1 h2)
theorem rdecode_told (a : Option Addr) (n c : Nat) (b : List Nat) (w : World) (hn : n < 1000000000) (hr : Row w a (byts b)) (hl : b.length = n) (h256 : ∀ x ∈ b, x < 256) :
    Calls Try.prog 35 #[.slice a n c] w (DecTold (dec b).1 (dec b).2.1 (dec b).2.2.1 (dec b).2.2.2 w) :=
  dec_cases (fun d => Calls Try.prog 35 #[.slice a n c] w (DecTold d.1 d.2.1 d.2.2.1 d.2.2.2 w)) b
    (fun h => rdecode_magic a n c b w hn hr hl h)
    (fun h h2 => rdecode_first a n c b w hn hr hl h256 h h2)
    (fun N p1 p h h1 h2 => by
      have := rdecode_second a n c b w hn hr hl h256 h (by rw [h1]) (by rw [h1]; simp only; have h3 : (if (N : Int) = 0 then (0 : Int) else 1073741824) = if N = 0 then 0 else 1073741824 := by by_cases h : N = 0 <;> simp [h]
                                                                        rw [h3, h2])
      rw [h1] at this
      simp only at this
      rw [show (if (N : Int) = 0 then (0 : Int) else 1073741824) = if N = 0 then 0 else 1073741824 by by_cases h : N = 0 <;> simp [h], h2] at this
      exact this)
    (fun N M p1 p2 h h1 h2 => rdecode_rest a n c b w N M p1 p2 hn hr hl h256 h h1 h2)

end Go.Proofs.Ytlepmefknglkeaa.Gr
