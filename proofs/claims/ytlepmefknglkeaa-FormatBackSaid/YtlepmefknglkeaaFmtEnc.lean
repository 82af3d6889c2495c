/- The walk of format.Encode. -/
import Derived.Test.YtlepmefknglkeaaFmtEnc1
set_option linter.unusedVariables false
namespace Go.Proofs.Ytlepmefknglkeaa.Gr
open Go.RowKit Var

theorem own_room {w : World} {base : Nat} {e : TypeId} {size n m c : Nat} {a : Option Addr} {xs : List Value} (h : w.ownsRow base e size (.slice a m c) n xs) : m ≤ c := by
  rcases h.2 with ⟨hv, h0⟩ | ⟨g, cap, cur, hv, _, _, h1, _⟩
  · injection hv with _ h1 h2; omega
  · injection hv with _ h2 h3; omega
def EncTold (bs : List Nat) (er : Int) (w : World) (e : Ending) (w' : World) : Prop :=
  ∃ a m c, e = .returned (.tuple #[.slice a m c, .int .i64 er]) ∧ Row w' a (byts bs) ∧ bs.length = m ∧ Below w.heap.size w w'

/-- .. and its room. -/
def EncTold2 (bs : List Nat) (er : Int) (w : World) (e : Ending) (w' : World) : Prop :=
  ∃ a m c, e = .returned (.tuple #[.slice a m c, .int .i64 er]) ∧ Row w' a (byts bs) ∧ bs.length = m ∧ Below w.heap.size w w' ∧ m ≤ c
/-- Edges never lie in a graph's own block. -/
theorem ERow.set_graph {w : World} {a : Option Addr} {l : List E2} {b : Nat} {t : TypeId} {x : Value} {a' : Option Addr} {m c : Nat} (h : ERow w a l) (hB : Blk w b t #[x, .slice a' m c]) (u v : Value) :
    ERow ((w.setCell ⟨b, 0, none⟩ u).setCell ⟨b, 1, none⟩ v) a l := by
  intro i hi
  obtain ⟨g, off, e, h1, h2, h3⟩ := h i hi
  have hne : g ≠ b := by
    rintro rfl
    rw [hB.cell] at h2
    rcases (by omega : off + i * 2 + 1 = 1 ∨ 2 ≤ off + i * 2 + 1) with hk | hk
    · rw [hk] at h2
      simp at h2
    · rw [Array.getElem?_eq_none (by simpa using hk)] at h2
      cases h2
  have hch := ((Chg.refl (fun j => j = b) w).setCell ⟨b, 0, none⟩ u (fun _ => rfl)).setCell ⟨b, 1, none⟩ v (fun _ => rfl)
  exact ⟨g, off, e, hch.cell h1 hne, hch.cell h2 hne, Nat.lt_of_lt_of_le h3 hch.size⟩

def EFin (base : Nat) (W : World) (q : Nat) (v : Value) (bs : List Nat) (W5 : World) : Prop :=
  Blk W5 q 38 #[v] ∧ W5.ownsRow base 5 1 v bs.length (byts bs) ∧ Below base W W5 ∧ base ≤ q
theorem efin_new {base : Nat} {W w4 : World} (hbase : base = W.heap.size) {b n : Nat} {v : Value} {bs : List Nat} (h : w4.ownsRow b 5 1 v n (byts bs)) (hb : W.heap.size ≤ b) (hn : n = bs.length) (hw : Below W.heap.size W w4) :
    EFin base W w4.heap.size v bs (w4.alloc (.cells #[v] 38)) := by
  subst hn
  subst hbase
  exact ⟨Blk.new w4 _ _, (own_mono h hb).alloc _, hw.alloc hw.size _, hw.size⟩
theorem efin_set {base : Nat} {W w4 : World} (hbase : base = W.heap.size) {b n q : Nat} {v u : Value} {bs : List Nat} (h : w4.ownsRow b 5 1 v n (byts bs)) (hb : W.heap.size ≤ b) (hn : n = bs.length) (hw : Below W.heap.size W w4) (hB : Blk w4 q 38 #[u]) (hq : W.heap.size ≤ q) :
    EFin base W q v bs (w4.setCell ⟨q, 0, none⟩ v) := by
  subst hn
  subst hbase
  exact ⟨by simpa using hB.set_ 0 v, own_chg (S := fun k => k = q) (own_mono h hb) ((Chg.refl _ w4).setCell ⟨q, 0, none⟩ v (fun _ => rfl)) (fun g hg e => own_ne_blk h hB (by decide) (e ▸ hg)), hw.setCell hq _, hq⟩

def EncLoop (N : Nat) (V : List E2) (base : Nat) (W : World) (q : Nat) (kv uv : Value) (wr : World) : Prop :=
  ∃ (u : Nat) (v : Value), uv = .int .i64 (u : Int) ∧ kv = .int .i64 (pre V (u : Int) : Int) ∧ u ≤ N ∧ EFin base W q v (headB N V.length ++ body V u) wr
def CntLoop (V : List E2) (u : Nat) (w0 : World) (nv : Value) (wr : World) : Prop :=
  ∃ j : Nat, nv = .int .i64 (j : Int) ∧ j ≤ pre V ((u : Int) + 1) - pre V u ∧ w0 = wr
def RowLoop (N : Nat) (V : List E2) (u : Nat) (base : Nat) (W : World) (q : Nat) (lv iv : Value) (wr : World) : Prop :=
  ∃ (i : Nat) (v : Value), iv = .int .i64 (i : Int) ∧ i ≤ pre V ((u : Int) + 1) - pre V u ∧ lv = .int .i64 (lastOf u ((rowU V u).take i)) ∧
    EFin base W q v (headB N V.length ++ body V u ++ put (pre V ((u : Int) + 1) - pre V u) ++ dl u ((rowU V u).take i)) wr

theorem EFin.alloc {base : Nat} {W w : World} {q : Nat} {v : Value} {bs : List Nat} (h : EFin base W q v bs w) (hb : base ≤ w.heap.size) (o : Obj) : EFin base W q v bs (w.alloc o) :=
  ⟨h.1.alloc o, h.2.1.alloc o, h.2.2.1.alloc hb o, h.2.2.2⟩
theorem below_new' (w : World) (o : Obj) : Below w.heap.size w (w.alloc o) := (Below.refl _ _).alloc (Nat.le_refl _) _

set_option maxRecDepth 100000 in
set_option maxHeartbeats 8000000 in
theorem encode_ok2 (N : Nat) (l : List E2) (a : Option Addr) (m c : Nat) (w : World) (hr : ERow w a l) (hm : l.length = m) (hmm : m ≤ 9223372036854775807) (hf : formed N l = true) :
    Calls Try.prog 31 #[.agg #[.int .i64 (N : Int), .slice a m c]] w (EncTold2 (encB (ordL l) N) 0 w) := by
  subst hm
  have h0 : Below w.heap.size w (w.alloc (.cells #[.int .i64 (N : Int), .slice a l.length c] 24)) := (Below.refl w.heap.size w).alloc (Nat.le_refl _) _
  have O1 := Lib.hid (order_ok2 N l a l.length c _ (hr.below h0) rfl hmm hf)
  have B0 := Lib.hid (Blk.new w 24 #[.int .i64 (N : Int), .slice a l.length c])
  have H0 := Lib.hid h0
  have F := fine_ord hf
  have FN := Lib.hid F
  have s1 := F.small
  have s2 := F.len
  have hvl := ordL_length l
  generalize ordL l = V at *
  clear h0 hr hf F
  go_enter Try.func31, Try.ntmps31
  go_wp2_with fail
  generalize w.alloc (.cells #[.int .i64 (N : Int), .slice a l.length c] 24) = W0 at *
  refine O1.out.mono ?_
  rintro e w1 ⟨a1, m1, d1, rfl, hr1, hl1, hb1, hcap⟩
  obtain rfl : l.length = m1 := by omega
  have B1 := B0.out.below hb1 B0.out.lt
  have k0 := B1.frozen 0
  have k1 := B1.frozen 1
  have c0 : w1.cell? ⟨w.heap.size, 0, none⟩ = some (.int .i64 (N : Int)) := B1.cell 0
  have c1 : w1.cell? ⟨w.heap.size, 1, none⟩ = some (.slice a l.length c) := B1.cell 1
  have hl1 := B1.lt
  have hBx := (B1.set_ 0 (.int .i64 (N : Int))).set_ 1 (.slice a1 l.length d1)
  have hRx : ERow ((w1.setCell ⟨w.heap.size, 0, none⟩ (.int .i64 (N : Int))).setCell ⟨w.heap.size, 1, none⟩ (.slice a1 l.length d1)) a1 V := hr1.set_graph B1 _ _
  have H2 := Lib.hid ((((H0.out.trans (hb1.mono H0.out.size)).setCell (show w.heap.size ≤ w.heap.size from Nat.le_refl _) (.int .i64 (N : Int)) : Below w.heap.size w (w1.setCell ⟨w.heap.size, 0, none⟩ (.int .i64 (N : Int))))).setCell (show w.heap.size ≤ w.heap.size from Nat.le_refl _) (.slice a1 l.length d1) : Below w.heap.size w ((w1.setCell ⟨w.heap.size, 0, none⟩ (.int .i64 (N : Int))).setCell ⟨w.heap.size, 1, none⟩ (.slice a1 l.length d1)))
  go_wp2_with fail
  generalize (w1.setCell ⟨w.heap.size, 0, none⟩ (.int .i64 (N : Int))).setCell ⟨w.heap.size, 1, none⟩ (.slice a1 l.length d1) = W at *
  have B2 := Lib.hid (show Blk W w.heap.size 24 #[.int .i64 (N : Int), .slice a1 l.length d1] by simpa using hBx)
  have R2 := Lib.hid hRx
  clear hBx hRx k0 k1 c0 c1 hl1 B1 hb1 O1 B0 H0 hr1
  have c0 : W.cell? ⟨w.heap.size, 0, none⟩ = some (.int .i64 (N : Int)) := B2.out.cell 0
  have c1 : W.cell? ⟨w.heap.size, 1, none⟩ = some (.slice a1 l.length d1) := B2.out.cell 1
  have hgl := B2.out.lt
  have hNw : IntKind.u64.wrap (N : Int) = (N : Int) := by simp [IntKind.wrap, IntKind.bits, IntKind.signed]; omega
  have hMw : IntKind.u64.wrap (l.length : Int) = (l.length : Int) := by simp [IntKind.wrap, IntKind.bits, IntKind.signed]; omega
  have hp1 := put_len10 N (by omega)
  have hp2 := put_len10 l.length (by omega)
  have P1 := Lib.hid (fun W' g (h : Row W' (some ⟨g, 0, none⟩) (byts [71])) => put_any [71] N (some ⟨g, 0, none⟩) 1 1 W' h rfl (by omega) (fun h => by cases h) (by omega))
  have P2 := Lib.hid (fun W' a2 d2 (h : Row W' a2 (byts ([71] ++ put N))) (h0 : a2 = none → False) => put_any ([71] ++ put N) l.length a2 (1 + (put N).length) d2 W' h (by simp; omega) (by omega) (fun h => (h0 h).elim) (by omega))
  have cells := Lib.hid (fun W' (h : Below W.heap.size W W') => (⟨(B2.out.below h hgl).cell 0, (B2.out.below h hgl).cell 1⟩ : W'.cell? ⟨w.heap.size, 0, none⟩ = some (.int .i64 (N : Int)) ∧ W'.cell? ⟨w.heap.size, 1, none⟩ = some (.slice a1 l.length d1)))
  have rA : ∀ o1, Row ((W.alloc (.cells #[.int .u8 71] 5)).alloc o1).drew (some ⟨W.heap.size, 0, none⟩) (byts [71]) := fun o1 => (Row.new W #[.int .u8 71] 5 (0, 0)).below ((Below.refl _ _).alloc (Nat.le_refl _) _).drew
  have rB : ∀ o1, Row ((W.alloc o1).alloc (.cells #[.int .u8 71] 5)).drew (some ⟨W.heap.size + 1, 0, none⟩) (byts [71]) := fun o1 => by
    have h := Row.new (W.alloc o1) #[.int .u8 71] 5 (0, 0)
    rw [show (W.alloc o1).heap.size = W.heap.size + 1 by simp] at h
    exact h
  have rC : Row (W.alloc (.cells #[.int .u8 71] 5)).drew (some ⟨W.heap.size, 0, none⟩) (byts [71]) := Row.new W #[.int .u8 71] 5 (0, 0)
  have RA := Lib.hid rA
  have RB := Lib.hid rB
  have RC := Lib.hid rC
  have bA : ∀ o1 o2, Below W.heap.size W ((W.alloc o1).alloc o2).drew := fun o1 o2 => (((Below.refl W.heap.size W).alloc (Nat.le_refl _) o1).alloc (by simp) o2).drew
  have bC : ∀ o1, Below W.heap.size W (W.alloc o1).drew := fun o1 => ((Below.refl W.heap.size W).alloc (Nat.le_refl _) o1).drew
  have BA := Lib.hid bA
  have BC := Lib.hid bC
  clear rA rB rC bA bC
  obtain ⟨base, hbase⟩ : ∃ b, b = W.heap.size := ⟨_, rfl⟩
  have HBASE := Lib.hid hbase
  clear hbase
  have KB := Lib.hid (show ∀ o, Blk ((W.alloc (.cells #[.slice none 0 0] 38)).alloc o).drew W.heap.size 38 #[.slice none 0 0] from fun o => (Blk.new W _ _).alloc o)
  have KC := Lib.hid (show ∀ o, Blk ((W.alloc o).alloc (.cells #[.slice none 0 0] 38)).drew (W.heap.size + 1) 38 #[.slice none 0 0] from fun o => by
    have h := Blk.new (W.alloc o) 38 #[.slice none 0 0]
    rw [show (W.alloc o).heap.size = W.heap.size + 1 by simp] at h
    exact h)
  generalize hpN : put N = pN at *
  generalize hpM : put l.length = pM at *
  have HPN := Lib.hid hpN
  have HPM := Lib.hid hpM
  clear hpN hpM
  go_region_held3 (fun w' => w'.cell? ⟨w.heap.size, 0, none⟩ = some (.int .i64 (N : Int)) ∧ w'.cell? ⟨w.heap.size, 1, none⟩ = some (.slice a1 l.length d1))
    (first | (go_keep; done) | (refine cells.out _ ?_; first | with_reducible exact HW4.out | with_reducible exact HW3.out | with_reducible exact HW4.out.alloc HW4.out.size _ | with_reducible exact HW3.out.alloc HW3.out.size _ | ((with_reducible refine HW4.out.setCell ?_ _); have := HW3.out.size; simp only; omega)))
    ((first | (go_at_call 45; (fail_if_success (clear hb3)); refine (P1.out _ _ (by first | with_reducible exact RC.out | with_reducible exact RA.out _ | with_reducible exact RB.out _)).mono ?_; rintro e w3 ⟨v3, rfl, hown3, hb3⟩; obtain ⟨a3, c3, rfl, hr3, -, -, -⟩ := own_slice hown3; have HW3 := Lib.hid (show Below W.heap.size W w3 by first | with_reducible exact (BC.out _).trans (hb3.mono (BC.out _).size) | with_reducible exact (BA.out _ _).trans (hb3.mono (BA.out _ _).size)); (try with_reducible have q3 := (KB.out _).below hb3 (KB.out _).lt); (try with_reducible have q3 := (KC.out _).below hb3 (KC.out _).lt); have HZ3 := Lib.hid (show ∀ o, W.heap.size ≤ (w3.alloc o).heap.size from fun o => by have := HW3.out.size; simp; omega); have h3n : a3 = none → False := (by rintro rfl; obtain ⟨x, hx, _⟩ := hr3 0 (by simp [byts]); cases hx)) | (go_at_call 45; have hh := HW3; refine (P2.out _ a3 c3 (by first | with_reducible exact hr3 | with_reducible exact hr3.below (below_new' w3 _)) h3n).mono ?_; rintro e w4 ⟨v4, rfl, hown4, hb4⟩; obtain ⟨a4, c4, rfl, -, -, -, -⟩ := own_slice hown4; (try with_reducible have q4 := (Blk.new w3 38 #[.slice none 0 0]).below hb4 (Blk.new w3 38 #[.slice none 0 0]).lt); (try have q4 := q3.below hb4 q3.lt); (try have d4 : _ = some (Value.slice none 0 0) := q4.cell 0); (try have f4 := q4.frozen 0); have HW4 := Lib.hid (show Below W.heap.size W w4 by first | with_reducible exact HW3.out.trans (hb4.mono HW3.out.size) | with_reducible exact (HW3.out.alloc HW3.out.size _).trans (hb4.mono (HZ3.out _))))))
  all_goals first
    | (have E5 := efin_set (bs := [71] ++ pN ++ pM) HBASE.out hown4 (by first | exact HW3.out.size | (have := HW3.out.size; simp; omega)) (by simp; omega) HW4.out q4 (by first | exact Nat.le_refl _ | omega | exact HW3.out.size); first | (have hq9 : EFin base W w3.heap.size _ _ _ := (by with_reducible exact E5); clear hq9; generalize w4.setCell ⟨w3.heap.size, 0, none⟩ (.slice a4 (1 + pN.length + pM.length) c4) = W5 at *; generalize w3.heap.size = q at E5 ⊢) | (have hq9 : EFin base W (W.heap.size + 1) _ _ _ := (by with_reducible exact E5); clear hq9; generalize w4.setCell ⟨W.heap.size + 1, 0, none⟩ (.slice a4 (1 + pN.length + pM.length) c4) = W5 at *; generalize W.heap.size + 1 = q at E5 ⊢) | (have hq9 : EFin base W W.heap.size _ _ _ := (by with_reducible exact E5); clear hq9; generalize w4.setCell ⟨W.heap.size, 0, none⟩ (.slice a4 (1 + pN.length + pM.length) c4) = W5 at *; generalize W.heap.size = q at E5 ⊢))
    | (have E5 := efin_new (bs := [71] ++ pN ++ pM) HBASE.out hown4 (by first | exact HW3.out.size | (have := HW3.out.size; simp; omega)) (by simp; omega) HW4.out; generalize w4.alloc (.cells #[.slice a4 (1 + pN.length + pM.length) c4] 38) = W5 at *; generalize w4.heap.size = q at E5 ⊢)
  all_goals
    have E6 : EFin base W q (.slice a4 (1 + pN.length + pM.length) c4) (headB N V.length ++ body V 0) W5 := by
      unfold headB body
      rw [HPN.out, hvl, HPM.out]
      simpa using E5
    have HE6 := Lib.hid E6
    (try clear q3)
    (try clear q4)
    (try clear d4)
    (try clear f4)
    clear E5 E6 hown3 hb3 hr3 h3n HZ3 HW3 HW4 hown4 hb4 cells P1 P2 RA RB RC BA BC KB KC c0 c1 hNw hMw hp1 hp2
    have hpz : pre V 0 = 0 := pre_zero (fun e he => (FN.out.ok e he).1)
    have HPZ := Lib.hid hpz
    clear hpz
    have ctx := Lib.hid (fun W' (h : Below base W W') => (⟨(B2.out.below h (by rw [HBASE.out]; exact hgl)).cell 0, (B2.out.below h (by rw [HBASE.out]; exact hgl)).cell 1, R2.out.below (HBASE.out ▸ h)⟩ : W'.cell? ⟨w.heap.size, 0, none⟩ = some (.int .i64 (N : Int)) ∧ W'.cell? ⟨w.heap.size, 1, none⟩ = some (.slice a1 l.length d1) ∧ ERow W' a1 V))
    obtain ⟨c0, c1, hR5⟩ := ctx.out W5 HE6.out.2.2.1
    have R5 := Lib.hid hR5
    clear hR5
    go_wp2_with fail
    go_loopw [7, 34] (fun kv uv wr => EncLoop N V base W q kv uv wr) (fun _ uv _ => N - (intOf uv).toNat)
    case atStart => exact ⟨0, _, rfl, by rw [show ((0 : Nat) : Int) = 0 from rfl, HPZ.out]; rfl, by omega, HE6.out⟩
    case round =>
      obtain ⟨u, v, rfl, rfl, hu, hE⟩ := hrel
      have hE' := hE
      obtain ⟨hB, ho, hb, hq⟩ := hE'
      obtain ⟨c0, c1, hR⟩ := ctx.out wr hb
      obtain ⟨av, cv, rfl, -, -, -, -⟩ := own_slice ho
      have HR := Lib.hid hR
      have HE := Lib.hid hE
      have HU := Lib.hid hu
      have hqw := hB.lt
      clear hE hB ho hb hR hu
      have hp01 := pre_mono (V := V) (show (u : Int) ≤ (u : Int) + 1 by omega)
      have hp1l := pre_le V ((u : Int) + 1)
      generalize hP0 : pre V (u : Int) = P0 at *
      generalize hP1 : pre V ((u : Int) + 1) = P1 at *
      have HP0 := Lib.hid hP0
      have HP1 := Lib.hid hP1
      clear hP0 hP1
      obtain ⟨cn, rfl⟩ : ∃ cn, P1 = P0 + cn := ⟨P1 - P0, by omega⟩
      by_cases hlt : (u : Int) < N
      · have hu0 : (0 : Int) ≤ (u : Int) := by omega
        go_wp2_with fail
        go_loopw [9] (fun nv wr' => CntLoop V u wr nv wr') (fun nv _ => cn - (intOf nv).toNat)
        case atStart => exact ⟨0, rfl, by omega, rfl⟩
        case round =>
          obtain ⟨j, rfl, hj, rfl⟩ := hrel
          rw [HP0.out, HP1.out] at hj
          have t1 : IntKind.i64.wrap ((P0 : Int) + j) = (P0 : Int) + j := by rw [IntKind.wrap_i64]; omega
          have t2 : ((P0 : Int) + j).toNat = P0 + j := by omega
          have t3 : (0 : Int) ≤ (P0 : Int) + j := by omega
          by_cases hjn : j < cn
          · have hi : P0 + j < V.length := by omega
            obtain ⟨b1, o1, rfl, e1, e2, _⟩ := HR.out (P0 + j) hi
            have hat := (FN.out.at_ (u := u) hi).2 (by rw [HP0.out, HP1.out]; omega)
            rw [hat] at e1
            have t4 : (P0 : Int) + j < l.length := by omega
            clear hat e2 hi
            go_wp2_with fail
            go_roundw
            case rel => exact ⟨j + 1, by go_num, by rw [HP0.out, HP1.out]; omega, rfl⟩
            case measure => simp [intOf]; omega
          · obtain rfl : j = cn := by omega
            have hbl : (headB N V.length ++ body V u).length ≤ 100000000000 := by
              have h1 := head_len (N := N) (M := V.length) (by omega) (by omega)
              have h2 := body_len FN.out u HU.out
              have h3 := FN.out.small
              have h4 := FN.out.len
              have h5 := pre_le V (u : Int)
              rw [List.length_append]
              omega
            have C1 := Lib.hid (enc1_any j q base _ (headB N V.length ++ body V u) wr (by omega) (by omega) HE.out.1 HE.out.2.1 HE.out.2.2.2 (by have := HE.out.2.2.1.size; rw [HBASE.out]; exact this))
            by_cases hi : P0 + j < V.length
            · obtain ⟨b1, o1, rfl, e1, e2, _⟩ := HR.out (P0 + j) hi
              have hat : ¬ V[P0 + j].1 = (u : Int) := fun h => by
                have := (FN.out.at_ (u := u) hi).1 h
                rw [HP0.out, HP1.out] at this
                omega
              have t4 : (P0 : Int) + j < l.length := by omega
              generalize V[P0 + j] = pp at *
              obtain ⟨pu, pv⟩ := pp
              simp only at e1 hat
              clear e2 hi
              go_wp2_with fail
              refine C1.out.mono ?_
              rintro e w6 ⟨rfl, v6, hB6, ho6, hb6, -⟩
              obtain ⟨a6, c6, rfl, -, -, -, -⟩ := own_slice ho6
              have HE6 := Lib.hid (show EFin base W q (.slice a6 (headB N V.length ++ body V u ++ put j).length c6) (headB N V.length ++ body V u ++ put j) w6 from ⟨hB6, ho6, HE.out.2.2.1.trans hb6, HE.out.2.2.2⟩)
              clear c0 c1 e1 hat
              obtain ⟨c0, c1, hR6⟩ := ctx.out w6 HE6.out.2.2.1
              have HR6 := Lib.hid hR6
              clear hB6 ho6 hb6 hR6 C1
              have t5 : (P0 : Int) ≤ (P0 : Int) + j := by omega
              have t6 : (P0 : Int) + j ≤ d1 := by omega
              have t7 : (0 : Int) ≤ (P0 : Int) := by omega
              have HCN := Lib.hid (show pre V ((u : Int) + 1) - pre V (u : Int) = j by rw [HP0.out, HP1.out]; omega)
              have HBL := Lib.hid hbl
              clear hbl
              go_wp2_with fail
              go_loopw [10, 70] (fun lv iv wr => RowLoop N V u base W q lv iv wr) (fun _ iv _ => j - (intOf iv).toNat)
              case atStart => exact ⟨0, _, rfl, by omega, rfl, by rw [HCN.out]; simpa [dl] using HE6.out⟩
              case round =>
                obtain ⟨i, v7, rfl, hi, rfl, hE7⟩ := hrel
                rw [HCN.out] at hi hE7
                obtain ⟨a7, c7, rfl, -, -, -, -⟩ := own_slice hE7.2.1
                obtain ⟨c0, c1, hR7⟩ := ctx.out wr hE7.2.2.1
                have hz7 : base ≤ wr.heap.size := by have := hE7.2.2.1.size; rw [HBASE.out]; exact this
                have HE7 := Lib.hid hE7
                have HR7 := Lib.hid hR7
                clear hE7 hR7
                by_cases hij : (i : Int) < j
                · have hix : pre V (u : Int) + i < V.length := by rw [HP0.out]; omega
                  have hic : i < pre V ((u : Int) + 1) - pre V (u : Int) := by rw [HCN.out]; omega
                  have hll := last_le FN.out hic hix
                  have htk := rowU_take hic hix
                  have hok := FN.out.ok _ (List.getElem_mem hix)
                  obtain ⟨b2, o2, heq, e1, e2, _⟩ := HR7.out (pre V (u : Int) + i) hix
                  cases heq
                  generalize V[pre V (u : Int) + i] = pe at *
                  obtain ⟨ex, ey⟩ := pe
                  simp only at e1 e2 hll hok
                  rw [HP0.out] at e1 e2
                  rw [show o1 + (P0 + i) * 2 = o1 + P0 * 2 + i * 2 by omega] at e1 e2
                  have hbl7 : (headB N V.length ++ body V u ++ put j ++ dl u ((rowU V u).take i)).length ≤ 1000000000000 := by
                    have h1 := dl_take_len FN.out u i (by omega) (by rw [rowU_length]; omega)
                    have h2 := put_len10 j (by omega)
                    rw [HCN.out] at h1
                    have h3 := HBL.out
                    rw [List.length_append, List.length_append]
                    omega
                  have hdl := dl_snoc (u : Int) ((rowU V u).take i) (ex, ey)
                  have hls := lastOf_snoc (u : Int) ((rowU V u).take i) (ex, ey)
                  rw [← htk] at hdl hls
                  generalize lastOf (u : Int) ((rowU V u).take i) = L at *
                  have HDL := Lib.hid hdl
                  have HLS := Lib.hid hls
                  have hsm := FN.out.small
                  obtain ⟨xn, hxn⟩ : ∃ xn : Nat, (ey - L).toNat = xn := ⟨_, rfl⟩
                  have HXN := Lib.hid hxn
                  have r1 : IntKind.i64.wrap (ey - L) = (xn : Int) := by rw [IntKind.wrap_i64]; omega
                  have r2 : (0 : Int) ≤ (i : Int) := by omega
                  have C7 := Lib.hid (enc1_any xn q base _ _ (wr.alloc (.cells #[.int .i64 ex, .int .i64 ey] 36)) (by omega) hbl7 (HE7.out.1.alloc _) (HE7.out.2.1.alloc _) HE7.out.2.2.2 (by simp; omega))
                  clear hll htk hok hbl7 hdl hls hxn hsm hix hic
                  go_wp2_with fail
                  refine C7.out.mono ?_
                  rintro e w8 ⟨rfl, v8, hB8, ho8, hb8, hc8⟩
                  have HE8 := Lib.hid (show EFin base W q v8 (headB N V.length ++ body V u ++ put j ++ dl u ((rowU V u).take i) ++ put xn) w8 from ⟨hB8, ho8, (HE7.out.2.2.1.alloc hz7 _).trans hb8, HE7.out.2.2.2⟩)
                  have bx := (Blk.new wr 36 #[.int .i64 ex, .int .i64 ey])
                  have hdx : w8.cell? ⟨wr.heap.size, 1, none⟩ = some (.int .i64 ey) := hc8.cell (bx.cell 1) (by
                    rintro (h9 | h9)
                    · have := HE7.out.1.lt
                      simp only at h9
                      omega
                    · have := (HE7.out.2.1.lt _ h9.symm).2
                      simp only at this
                      omega)
                  clear hB8 ho8 hb8 bx C7 hc8
                  go_wp2_with fail
                  go_roundw
                  case rel => exact ⟨i + 1, v8, by go_num, by rw [HCN.out]; omega, by rw [HLS.out], by rw [HCN.out, HDL.out, HXN.out, ← List.append_assoc]; exact HE8.out⟩
                  case measure => simp [intOf]; omega
                · obtain rfl : i = j := by omega
                  have hrw : (rowU V u).take i = rowU V u := List.take_of_length_le (by rw [rowU_length, HCN.out]; exact Nat.le_refl _)
                  have HRW := Lib.hid hrw
                  have HU1 := Lib.hid (show ((u + 1 : Nat) : Int) = (u : Int) + 1 by omega)
                  clear hrw
                  go_wp2_with fail
                  go_roundw
                  case rel => exact ⟨u + 1, _, by go_num, by rw [HU1.out, HP1.out]; go_num, by omega, by rw [body_succ, encU, HCN.out, ← List.append_assoc, ← List.append_assoc, ← HRW.out]; exact HE7.out⟩
                  case measure => simp [intOf]; omega
            · have t4 : ¬ (P0 : Int) + j < l.length := by omega
              go_wp2_with fail
              rcases Nat.eq_zero_or_pos j with hv0 | hv0
              · by_cases hd : d1 = P0
                · subst hd
                  refine C1.out.mono ?_
                  rintro e w6 ⟨rfl, v6, hB6, ho6, hb6, -⟩
                  obtain ⟨a6, c6, rfl, -, -, -, -⟩ := own_slice ho6
                  have HE6 := Lib.hid (show EFin base W q (.slice a6 (headB N V.length ++ body V u ++ put j).length c6) (headB N V.length ++ body V u ++ put j) w6 from ⟨hB6, ho6, HE.out.2.2.1.trans hb6, HE.out.2.2.2⟩)
                  clear c0 c1
                  obtain ⟨c0, c1, hR6⟩ := ctx.out w6 HE6.out.2.2.1
                  have HR6 := Lib.hid hR6
                  clear hB6 ho6 hb6 hR6 C1
                  have t5 : (d1 : Int) ≤ (d1 : Int) + j := by omega
                  have t6 : (d1 : Int) + j ≤ d1 := by omega
                  have t7 : (0 : Int) ≤ (d1 : Int) := by omega
                  have HCN := Lib.hid (show pre V ((u : Int) + 1) - pre V (u : Int) = j by rw [HP0.out, HP1.out]; omega)
                  have HBL := Lib.hid hbl
                  clear hbl
                  go_wp2_with fail
                  go_loopw [10, 70] (fun lv iv wr => RowLoop N V u base W q lv iv wr) (fun _ iv _ => j - (intOf iv).toNat)
                  case atStart => exact ⟨0, _, rfl, by omega, rfl, by rw [HCN.out]; simpa [dl] using HE6.out⟩
                  case round =>
                    obtain ⟨i, v7, rfl, hi, rfl, hE7⟩ := hrel
                    rw [HCN.out] at hi hE7
                    obtain ⟨a7, c7, rfl, -, -, -, -⟩ := own_slice hE7.2.1
                    obtain ⟨c0, c1, hR7⟩ := ctx.out wr hE7.2.2.1
                    have hz7 : base ≤ wr.heap.size := by have := hE7.2.2.1.size; rw [HBASE.out]; exact this
                    have HE7 := Lib.hid hE7
                    have HR7 := Lib.hid hR7
                    clear hE7 hR7
                    by_cases hij : (i : Int) < j
                    · exact absurd hij (by omega)
                    · obtain rfl : i = j := by omega
                      have hrw : (rowU V u).take i = rowU V u := List.take_of_length_le (by rw [rowU_length, HCN.out]; exact Nat.le_refl _)
                      have HRW := Lib.hid hrw
                      have HU1 := Lib.hid (show ((u + 1 : Nat) : Int) = (u : Int) + 1 by omega)
                      clear hrw
                      go_wp2_with fail
                      go_roundw
                      case rel => exact ⟨u + 1, _, by go_num, by rw [HU1.out, HP1.out]; go_num, by omega, by rw [body_succ, encU, HCN.out, ← List.append_assoc, ← List.append_assoc, ← HRW.out]; exact HE7.out⟩
                      case measure => simp [intOf]; omega
                · have hd' := hd
                  refine C1.out.mono ?_
                  rintro e w6 ⟨rfl, v6, hB6, ho6, hb6, -⟩
                  obtain ⟨a6, c6, rfl, -, -, -, -⟩ := own_slice ho6
                  have HE6 := Lib.hid (show EFin base W q (.slice a6 (headB N V.length ++ body V u ++ put j).length c6) (headB N V.length ++ body V u ++ put j) w6 from ⟨hB6, ho6, HE.out.2.2.1.trans hb6, HE.out.2.2.2⟩)
                  clear c0 c1
                  obtain ⟨c0, c1, hR6⟩ := ctx.out w6 HE6.out.2.2.1
                  have HR6 := Lib.hid hR6
                  clear hB6 ho6 hb6 hR6 C1
                  have t5 : (P0 : Int) ≤ (P0 : Int) + j := by omega
                  have t6 : (P0 : Int) + j ≤ d1 := by omega
                  have t7 : (0 : Int) ≤ (P0 : Int) := by omega
                  have HCN := Lib.hid (show pre V ((u : Int) + 1) - pre V (u : Int) = j by rw [HP0.out, HP1.out]; omega)
                  have HBL := Lib.hid hbl
                  clear hbl
                  go_wp2_with fail
                  go_loopw [10, 70] (fun lv iv wr => RowLoop N V u base W q lv iv wr) (fun _ iv _ => j - (intOf iv).toNat)
                  case atStart => exact ⟨0, _, rfl, by omega, rfl, by rw [HCN.out]; simpa [dl] using HE6.out⟩
                  case round =>
                    obtain ⟨i, v7, rfl, hi, rfl, hE7⟩ := hrel
                    rw [HCN.out] at hi hE7
                    obtain ⟨a7, c7, rfl, -, -, -, -⟩ := own_slice hE7.2.1
                    obtain ⟨c0, c1, hR7⟩ := ctx.out wr hE7.2.2.1
                    have hz7 : base ≤ wr.heap.size := by have := hE7.2.2.1.size; rw [HBASE.out]; exact this
                    have HE7 := Lib.hid hE7
                    have HR7 := Lib.hid hR7
                    clear hE7 hR7
                    by_cases hij : (i : Int) < j
                    · exact absurd hij (by omega)
                    · obtain rfl : i = j := by omega
                      have hrw : (rowU V u).take i = rowU V u := List.take_of_length_le (by rw [rowU_length, HCN.out]; exact Nat.le_refl _)
                      have HRW := Lib.hid hrw
                      have HU1 := Lib.hid (show ((u + 1 : Nat) : Int) = (u : Int) + 1 by omega)
                      clear hrw
                      go_wp2_with fail
                      go_roundw
                      case rel => exact ⟨u + 1, _, by go_num, by rw [HU1.out, HP1.out]; go_num, by omega, by rw [body_succ, encU, HCN.out, ← List.append_assoc, ← List.append_assoc, ← HRW.out]; exact HE7.out⟩
                      case measure => simp [intOf]; omega
              · have hpl : P0 < V.length := by omega
                obtain ⟨b1, o1, rfl, -, -, -⟩ := HR.out P0 hpl
                have hd : ¬ d1 = P0 := by omega
                clear hpl
                refine C1.out.mono ?_
                rintro e w6 ⟨rfl, v6, hB6, ho6, hb6, -⟩
                obtain ⟨a6, c6, rfl, -, -, -, -⟩ := own_slice ho6
                have HE6 := Lib.hid (show EFin base W q (.slice a6 (headB N V.length ++ body V u ++ put j).length c6) (headB N V.length ++ body V u ++ put j) w6 from ⟨hB6, ho6, HE.out.2.2.1.trans hb6, HE.out.2.2.2⟩)
                clear c0 c1
                obtain ⟨c0, c1, hR6⟩ := ctx.out w6 HE6.out.2.2.1
                have HR6 := Lib.hid hR6
                clear hB6 ho6 hb6 hR6 C1
                have t5 : (P0 : Int) ≤ (P0 : Int) + j := by omega
                have t6 : (P0 : Int) + j ≤ d1 := by omega
                have t7 : (0 : Int) ≤ (P0 : Int) := by omega
                have HCN := Lib.hid (show pre V ((u : Int) + 1) - pre V (u : Int) = j by rw [HP0.out, HP1.out]; omega)
                have HBL := Lib.hid hbl
                clear hbl
                go_wp2_with fail
                go_loopw [10, 70] (fun lv iv wr => RowLoop N V u base W q lv iv wr) (fun _ iv _ => j - (intOf iv).toNat)
                case atStart => exact ⟨0, _, rfl, by omega, rfl, by rw [HCN.out]; simpa [dl] using HE6.out⟩
                case round =>
                  obtain ⟨i, v7, rfl, hi, rfl, hE7⟩ := hrel
                  rw [HCN.out] at hi hE7
                  obtain ⟨a7, c7, rfl, -, -, -, -⟩ := own_slice hE7.2.1
                  obtain ⟨c0, c1, hR7⟩ := ctx.out wr hE7.2.2.1
                  have hz7 : base ≤ wr.heap.size := by have := hE7.2.2.1.size; rw [HBASE.out]; exact this
                  have HE7 := Lib.hid hE7
                  have HR7 := Lib.hid hR7
                  clear hE7 hR7
                  by_cases hij : (i : Int) < j
                  · have hix : pre V (u : Int) + i < V.length := by rw [HP0.out]; omega
                    have hic : i < pre V ((u : Int) + 1) - pre V (u : Int) := by rw [HCN.out]; omega
                    have hll := last_le FN.out hic hix
                    have htk := rowU_take hic hix
                    have hok := FN.out.ok _ (List.getElem_mem hix)
                    obtain ⟨b2, o2, heq, e1, e2, _⟩ := HR7.out (pre V (u : Int) + i) hix
                    cases heq
                    generalize V[pre V (u : Int) + i] = pe at *
                    obtain ⟨ex, ey⟩ := pe
                    simp only at e1 e2 hll hok
                    rw [HP0.out] at e1 e2
                    rw [show o1 + (P0 + i) * 2 = o1 + P0 * 2 + i * 2 by omega] at e1 e2
                    have hbl7 : (headB N V.length ++ body V u ++ put j ++ dl u ((rowU V u).take i)).length ≤ 1000000000000 := by
                      have h1 := dl_take_len FN.out u i (by omega) (by rw [rowU_length]; omega)
                      have h2 := put_len10 j (by omega)
                      rw [HCN.out] at h1
                      have h3 := HBL.out
                      rw [List.length_append, List.length_append]
                      omega
                    have hdl := dl_snoc (u : Int) ((rowU V u).take i) (ex, ey)
                    have hls := lastOf_snoc (u : Int) ((rowU V u).take i) (ex, ey)
                    rw [← htk] at hdl hls
                    generalize lastOf (u : Int) ((rowU V u).take i) = L at *
                    have HDL := Lib.hid hdl
                    have HLS := Lib.hid hls
                    have hsm := FN.out.small
                    obtain ⟨xn, hxn⟩ : ∃ xn : Nat, (ey - L).toNat = xn := ⟨_, rfl⟩
                    have HXN := Lib.hid hxn
                    have r1 : IntKind.i64.wrap (ey - L) = (xn : Int) := by rw [IntKind.wrap_i64]; omega
                    have r2 : (0 : Int) ≤ (i : Int) := by omega
                    have C7 := Lib.hid (enc1_any xn q base _ _ (wr.alloc (.cells #[.int .i64 ex, .int .i64 ey] 36)) (by omega) hbl7 (HE7.out.1.alloc _) (HE7.out.2.1.alloc _) HE7.out.2.2.2 (by simp; omega))
                    clear hll htk hok hbl7 hdl hls hxn hsm hix hic
                    go_wp2_with fail
                    refine C7.out.mono ?_
                    rintro e w8 ⟨rfl, v8, hB8, ho8, hb8, hc8⟩
                    have HE8 := Lib.hid (show EFin base W q v8 (headB N V.length ++ body V u ++ put j ++ dl u ((rowU V u).take i) ++ put xn) w8 from ⟨hB8, ho8, (HE7.out.2.2.1.alloc hz7 _).trans hb8, HE7.out.2.2.2⟩)
                    have bx := (Blk.new wr 36 #[.int .i64 ex, .int .i64 ey])
                    have hdx : w8.cell? ⟨wr.heap.size, 1, none⟩ = some (.int .i64 ey) := hc8.cell (bx.cell 1) (by
                      rintro (h9 | h9)
                      · have := HE7.out.1.lt
                        simp only at h9
                        omega
                      · have := (HE7.out.2.1.lt _ h9.symm).2
                        simp only at this
                        omega)
                    clear hB8 ho8 hb8 bx C7 hc8
                    go_wp2_with fail
                    go_roundw
                    case rel => exact ⟨i + 1, v8, by go_num, by rw [HCN.out]; omega, by rw [HLS.out], by rw [HCN.out, HDL.out, HXN.out, ← List.append_assoc]; exact HE8.out⟩
                    case measure => simp [intOf]; omega
                  · obtain rfl : i = j := by omega
                    have hrw : (rowU V u).take i = rowU V u := List.take_of_length_le (by rw [rowU_length, HCN.out]; exact Nat.le_refl _)
                    have HRW := Lib.hid hrw
                    have HU1 := Lib.hid (show ((u + 1 : Nat) : Int) = (u : Int) + 1 by omega)
                    clear hrw
                    go_wp2_with fail
                    go_roundw
                    case rel => exact ⟨u + 1, _, by go_num, by rw [HU1.out, HP1.out]; go_num, by omega, by rw [body_succ, encU, HCN.out, ← List.append_assoc, ← List.append_assoc, ← HRW.out]; exact HE7.out⟩
                    case measure => simp [intOf]; omega
      · have hun : N = u := by have := HU.out; omega
        subst hun
        have qc : wr.cell? ⟨q, 0, none⟩ = some (.slice av (headB N V.length ++ body V N).length cv) := HE.out.1.cell 0
        have hrow := (Row.of_own HE.out.2.1).1
        have HROW := Lib.hid hrow
        have HMC := Lib.hid (own_room HE.out.2.1)
        have HWW := Lib.hid (H2.out.trans (HE.out.2.2.1.base_le (show w.heap.size ≤ base by rw [HBASE.out]; omega)))
        clear hrow
        go_wp2_with fail
        go_ret2
        exact ⟨_, _, _, rfl, HROW.out, by simp [encB, hvl], HWW.out, by have h9 := HMC.out; simpa [hvl] using h9⟩

theorem encode_ok (N : Nat) (l : List E2) (a : Option Addr) (m c : Nat) (w : World) (hr : ERow w a l) (hm : l.length = m) (hmm : m ≤ 9223372036854775807) (hf : formed N l = true) :
    Calls Try.prog 31 #[.agg #[.int .i64 (N : Int), .slice a m c]] w (EncTold (encB (ordL l) N) 0 w) :=
  (encode_ok2 N l a m c w hr hm hmm hf).mono fun _ _ ⟨a, m, c, h1, h2, h3, h4, _⟩ => ⟨a, m, c, h1, h2, h3, h4⟩

end Go.Proofs.Ytlepmefknglkeaa.Gr
