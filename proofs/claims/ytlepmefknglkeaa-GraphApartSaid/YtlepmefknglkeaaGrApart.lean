/- The law GraphApart. -/
import Derived.Test.YtlepmefknglkeaaGrApartP
import Derived.Test.YtlepmefknglkeaaGrStays
import Derived.Test.YtlepmefknglkeaaReg3
set_option linter.unusedVariables false
namespace Go.Proofs.Ytlepmefknglkeaa.Gr
open Go.RowKit

def SideLoop (N : Int) (A : Nat) (lb : List E2) (W : World) (q : Nat) (iv : Value) (wr : World) : Prop :=
  ∃ (k : Nat) (v : Value), iv = .int .i64 (k : Int) ∧ k ≤ lb.length ∧ Blk wr q 24 #[.int .i64 N, v] ∧ wr.ownsRow W.heap.size 36 2 v k (flatE ((lb.take k).map (shiftE A))) ∧ Chg (fun j => j = q) W wr

theorem below_frozen {B : Nat} {w w' : World} (h : Below B w w') {p : Addr} (hp : p.block < B) : w'.frozen? p = w.frozen? p := by
  unfold World.frozen?
  rw [h.block p.block hp]

def cellG (w : World) (p : Addr) : Value := (w.cell? p).getD undef
theorem cellG_some {w : World} {p : Addr} {x : Value} (h : w.cell? p = some x) : w.cell? p = some (cellG w p) := by unfold cellG; rw [h]; rfl
theorem far_cell {w : World} {p q : Addr} {x u : Value} (h : w.cell? p = some x) (hn : p.block ≠ q.block) : (w.setCell q u).cell? p = some x :=
  ((Chg.refl (fun j => j = q.block) w).setCell q u (fun _ => rfl)).cell h hn
theorem blk_d {w : World} {g : Nat} {t : TypeId} {cs : Array Value} (h : Blk w g t cs) (o : Obj) : Blk (w.alloc o).drew g t cs := h.alloc o
theorem app_facts_d {N : Int} {W wr w2 : World} {q k g cap : Nat} {v : Value} {L : List E2} {e : E2} {o1 : Obj} (hws : W.heap.size = q + 1) (hc : Chg (fun j => j = q) W wr) (hB : Blk wr q 24 #[.int .i64 N, v])
    (ho : wr.ownsRow W.heap.size 36 2 v k (flatE L)) (hown2 : w2.ownsRow W.heap.size 36 2 (.slice (some ⟨g, 0, none⟩) (k + 1) cap) (k + 1) (flatE L ++ flatE [e])) (hg2 : ((wr.alloc o1).drew).grownBy w2 v.ownBlock) :
    q < g ∧ Blk (w2.setCell ⟨q, 1, none⟩ (.slice (some ⟨g, 0, none⟩) (k + 1) cap)) q 24 #[.int .i64 N, .slice (some ⟨g, 0, none⟩) (k + 1) cap] ∧
      (w2.setCell ⟨q, 1, none⟩ (.slice (some ⟨g, 0, none⟩) (k + 1) cap)).ownsRow W.heap.size 36 2 (.slice (some ⟨g, 0, none⟩) (k + 1) cap) (k + 1) (flatE (L ++ [e])) ∧ Chg (fun j => j = q) W (w2.setCell ⟨q, 1, none⟩ (.slice (some ⟨g, 0, none⟩) (k + 1) cap)) := by
  have hc2 : Chg (fun k => some k = v.ownBlock) wr w2 := (((Chg.refl (fun k => some k = v.ownBlock) wr).alloc o1).drew).trans (Chg.of_grown hg2) (fun _ _ h => h)
  have hne : ¬ some q = v.ownBlock := fun e => by
    have := (ho.lt q e.symm).1
    omega
  have hB2 := hB.chg hc2 hne
  have hC2 : Chg (fun j => j = q) W w2 := hc.trans hc2 (fun k hk e => by
    have := (ho.lt k e.symm).1
    omega)
  rw [← flatE_append] at hown2
  have hg := (hown2.lt g rfl).1
  refine ⟨by omega, by simpa using hB2.set_ 1 (.slice (some ⟨g, 0, none⟩) (k + 1) cap), own_chg (S := fun j => j = q) hown2 ((Chg.refl _ w2).setCell ⟨q, 1, none⟩ _ (fun _ => rfl)) (fun j hj e => ?_), hC2.setCell _ _ (fun _ => rfl)⟩
  have h9 : g = j := by simpa [Value.ownBlock] using hj
  omega
theorem own_edges {w : World} {base n : Nat} {v : Value} {l : List E2} (h : w.ownsRow base 36 2 v n (flatE l)) :
    ∃ av cv, v = .slice av n cv ∧ ERow w av l ∧ l.length = n ∧ (∀ x, av = some x → base ≤ x.block) := by
  have hl : l.length = n := by have := h.1; rw [flatE_length] at this; omega
  rcases h.2 with ⟨rfl, h0⟩ | ⟨g, cap, cur, rfl, hb, _⟩
  · subst h0
    exact ⟨none, 0, rfl, fun i hi => by omega, hl, fun x hx => by cases hx⟩
  · exact ⟨_, cap, rfl, (EBlk.of_own h).1.row, hl, fun x hx => by injection hx with hx; subst hx; exact hb⟩
theorem ints_append (l m : List Int) : ints (l ++ m) = ints l ++ ints m := by simp [ints]
theorem own_form {w : World} {base size n : Nat} {e : TypeId} {v : Value} {xs : List Value} (h : w.ownsRow base e size v n xs) (hn : 0 < n) : ∃ g cap, v = .slice (some ⟨g, 0, none⟩) n cap := by
  rcases h.2 with ⟨_, h0⟩ | ⟨g, cap, cur, rfl, _⟩
  · omega
  · exact ⟨g, cap, rfl⟩
theorem fz_alloc {w : World} {p : Addr} (h : w.frozen? p = false) (hp : p.block < w.heap.size) (o : Obj) : (w.alloc o).frozen? p = false := by rw [below_frozen (below_new w o) hp]; exact h

theorem fz_alloc_d {w : World} {p : Addr} (h : w.frozen? p = false) (hp : p.block < w.heap.size) (o : Obj) : (w.alloc o).drew.frozen? p = false := fz_alloc h hp o

theorem cl_alloc_d {w : World} {p : Addr} {x : Value} (h : w.cell? p = some x) (o : Obj) : (w.alloc o).drew.cell? p = some x := by
  have hl := (cell_lt h).1
  have := (below_new w o).cell hl
  show (w.alloc o).cell? p = some x
  rw [this, h]

set_option maxRecDepth 100000 in
set_option maxHeartbeats 2000000 in
theorem GraphApart_walk {w : World} (n m : Int) (la lb : List E2) (a b : Option Addr) (ca cb : Nat) (ha : ERow w a la) (hb : ERow w b lb) (hla : la.length ≤ 9223372036854775807) (hlb : lb.length ≤ 9223372036854775807) :
    Calls Try.prog 6 #[.agg #[.int .i64 n, .slice a la.length ca], .agg #[.int .i64 m, .slice b lb.length cb]] w (Told w true) := by
  have b0 := below_new w (.cells #[.int .i64 n, .slice a la.length ca] 24)
  have hz0 : (w.alloc (.cells #[.int .i64 n, .slice a la.length ca] 24)).heap.size = w.heap.size + 1 := by simp
  have b1 := below_new (w.alloc (.cells #[.int .i64 n, .slice a la.length ca] 24)) (.cells #[.int .i64 m, .slice b lb.length cb] 24)
  have hA0 := (GBox.new n ca ha rfl).below b1
  have hB0 := GBox.new m cb (hb.below b0) rfl
  rw [hz0] at hB0
  have A0 := Lib.hid hA0
  have B0 := Lib.hid hB0
  have H0 := Lib.hid (b0.trans (b1.mono b0.size))
  have hz := H0.out.size
  clear b0 b1 ha hb hA0 hB0 hz0
  go_enter Try.func6, Try.ntmps6
  go_wp2_with fail
  generalize (w.alloc (.cells #[.int .i64 n, .slice a la.length ca] 24)).alloc (.cells #[.int .i64 m, .slice b lb.length cb] 24) = W at *
  refine (awake_any W).mono ?_
  rintro e w1 ⟨rfl, hb⟩
  have A1 := Lib.hid (A0.out.below hb)
  have B1 := Lib.hid (B0.out.below hb)
  have H1 := Lib.hid (H0.out.trans (hb.mono hz))
  replace hz := H1.out.size
  clear hb A0 B0 H0
  obtain ⟨c1, c2, c3⟩ := A1.out.cells
  obtain ⟨x1, x2, x3⟩ := B1.out.cells
  by_cases q1 : (150 : Int) < la.length
  · go_wp2_with fail
    refine (awake_any w1).mono ?_
    rintro e w4 ⟨rfl, hb⟩
    go_wp2_with fail
    go_ret
    exact ⟨rfl, H1.out.trans (hb.mono hz)⟩
  by_cases q2 : (150 : Int) < lb.length
  · go_wp2_with fail
    refine (awake_any w1).mono ?_
    rintro e w4 ⟨rfl, hb⟩
    go_wp2_with fail
    go_ret
    exact ⟨rfl, H1.out.trans (hb.mono hz)⟩
  by_cases q3 : (200 : Int) < n
  · go_wp2_with fail
    refine (awake_any w1).mono ?_
    rintro e w4 ⟨rfl, hb⟩
    go_wp2_with fail
    go_ret
    exact ⟨rfl, H1.out.trans (hb.mono hz)⟩
  by_cases q4 : (200 : Int) < m
  · go_wp2_with fail
    refine (awake_any w1).mono ?_
    rintro e w4 ⟨rfl, hb⟩
    go_wp2_with fail
    go_ret
    exact ⟨rfl, H1.out.trans (hb.mono hz)⟩
  go_wp2_with fail
  refine (formed_any n la a la.length ca w1 A1.out.row rfl (by omega)).mono ?_
  rintro e w2 ⟨rfl, hb⟩
  have A2 := Lib.hid (A1.out.below hb)
  have B2 := Lib.hid (B1.out.below hb)
  have H2 := Lib.hid (H1.out.trans (hb.mono hz))
  replace hz := H2.out.size
  clear c1 c2 c3 x1 x2 x3 hb A1 B1 H1
  obtain ⟨c1, c2, c3⟩ := A2.out.cells
  obtain ⟨x1, x2, x3⟩ := B2.out.cells
  cases hfa : formed n la
  · go_wp2_with fail
    refine (awake_any w2).mono ?_
    rintro e w4 ⟨rfl, hb⟩
    go_wp2_with fail
    go_ret
    exact ⟨rfl, H2.out.trans (hb.mono hz)⟩
  go_wp2_with fail
  refine (formed_any m lb b lb.length cb w2 B2.out.row rfl (by omega)).mono ?_
  rintro e w3 ⟨rfl, hb⟩
  have A3 := Lib.hid (A2.out.below hb)
  have B3 := Lib.hid (B2.out.below hb)
  have H3 := Lib.hid (H2.out.trans (hb.mono hz))
  replace hz := H3.out.size
  clear c1 c2 c3 x1 x2 x3 hb A2 B2 H2
  obtain ⟨c1, c2, c3⟩ := A3.out.cells
  obtain ⟨x1, x2, x3⟩ := B3.out.cells
  cases hfb : formed m lb
  · go_wp2_with fail
    refine (awake_any w3).mono ?_
    rintro e w4 ⟨rfl, hb⟩
    go_wp2_with fail
    go_ret
    exact ⟨rfl, H3.out.trans (hb.mono hz)⟩
  obtain ⟨A, rfl⟩ : ∃ A : Nat, n = (A : Int) := ⟨n.toNat, formed_nat hfa⟩
  obtain ⟨B, rfl⟩ : ∃ B : Nat, m = (B : Int) := ⟨m.toNat, formed_nat hfb⟩
  have FA := Lib.hid hfa
  have FB := Lib.hid hfb
  have hw : IntKind.i64.wrap ((A : Int) + B) = (A : Int) + B := by rw [IntKind.wrap_i64]; omega
  have hB8 := Blk.new w3 24 #[.int .i64 ((A : Int) + B), .slice none 0 0]
  have b8 := below_new w3 (.cells #[.int .i64 ((A : Int) + B), .slice none 0 0] 24)
  have hq8 : (w3.alloc (.cells #[.int .i64 ((A : Int) + B), .slice none 0 0] 24)).heap.size = w3.heap.size + 1 := by simp
  have B8 := Lib.hid b8
  clear hfa hfb b8
  go_wp2_with fail
  generalize w3.alloc (.cells #[.int .i64 ((A : Int) + B), .slice none 0 0] 24) = W8 at *
  clear c1 c2 c3 x1 x2 x3
  go_loopw [6] (fun iv wr => SideLoop ((A : Int) + B) A lb W8 w3.heap.size iv wr) (fun iv _ => lb.length - (intOf iv).toNat)
  case atStart => exact ⟨0, _, rfl, by omega, hB8, World.ownsRow_nil _ _ _ _, Chg.refl _ _⟩
  case round =>
    obtain ⟨k, v, rfl, hk, hB, hown, hc⟩ := hrel
    have hbw : Below w3.heap.size w3 wr := B8.out.trans (hc.below_of (by omega) (fun j hj e => by omega))
    have HW := Lib.hid hbw
    have hwz := hbw.size
    have hlq := hB.lt
    obtain ⟨c1, c2, c3⟩ := (A3.out.below hbw).cells
    obtain ⟨x1, x2, x3⟩ := (B3.out.below hbw).cells
    have HB := Lib.hid hB
    have HO := Lib.hid hown
    have HC := Lib.hid hc
    have HK := Lib.hid hk
    clear hbw hB hown hc hk hB8
    by_cases hlt : (k : Int) < lb.length
    · have k1 : k < lb.length := by omega
      obtain ⟨b1, o1, rfl, e1, e2, hb1⟩ := (B3.out.row.below' HW.out) _ k1
      have hts : (lb.take (k + 1)).map (shiftE A) = (lb.take k).map (shiftE A) ++ [shiftE A lb[k]] := by rw [List.take_succ_eq_append_getElem k1, List.map_append]; rfl
      have hok := (okE_iff _ _).1 (formed_mem FB.out lb[k] (List.getElem_mem k1))
      have HTS := Lib.hid hts
      clear hts
      generalize lb[k] = p at *
      obtain ⟨u, y⟩ := p
      simp only at e1 e2 hok
      have t1 : IntKind.i64.wrap (u + (A : Int)) = u + (A : Int) := by rw [IntKind.wrap_i64]; omega
      have t2 : IntKind.i64.wrap (y + (A : Int)) = y + (A : Int) := by rw [IntKind.wrap_i64]; omega
      have t3 : (0 : Int) ≤ (k : Int) := by omega
      clear hok
      have qc : wr.cell? ⟨w3.heap.size, 1, none⟩ = some v := HB.out.cell 1
      have qf := HB.out.frozen 1
      have hbw1 : b1 < wr.heap.size := by omega
      have hlw : w3.heap.size < W8.heap.size := by omega
      have hl1 : b1 < W8.heap.size := by omega
      have hl2 : w.heap.size < W8.heap.size := by omega
      have hl3 : w.heap.size + 1 < W8.heap.size := by have := B3.out.blk.lt; omega
      have hz8 : W8.heap.size ≤ wr.heap.size := HC.out.size
      have hne : (w3.heap.size = w.heap.size) = False := by simp; omega
      go_wp2_with fail
      have hlt1 : (k : Int) < lb.length := by omega
      have hcv : ∀ o, cellG (wr.alloc o).drew ⟨w3.heap.size, 1, none⟩ = v := fun o => by unfold cellG; rw [cl_alloc_d qc o]; rfl
      have hcv0 : cellG wr.drew ⟨w3.heap.size, 1, none⟩ = v := by unfold cellG; show (wr.cell? _).getD undef = v; rw [qc]; rfl
      have hd1 : b1 ≠ w3.heap.size := by omega
      have hd2 : w.heap.size + 1 ≠ w3.heap.size := by have := B3.out.blk.lt; omega
      have hd3 : w.heap.size ≠ w3.heap.size := by have := B3.out.blk.lt; omega
      refine yg_begin (fun w' => w'.cell? ⟨b1, o1 + k * 2, none⟩ = some (.int .i64 u) ∧ w'.cell? ⟨b1, o1 + k * 2 + 1, none⟩ = some (.int .i64 y) ∧ w'.cell? ⟨w.heap.size + 1, 1, none⟩ = some (.slice (some ⟨b1, o1, none⟩) lb.length cb) ∧ w'.cell? ⟨w.heap.size, 0, none⟩ = some (.int .i64 (A : Int)) ∧ w'.cell? ⟨w3.heap.size, 1, none⟩ = some v) [0, 1, 2, 3, 4, 5, 6, 7, 8, 9, 10, 11, 12, 13, 14, 15, 16, 17, 18, 19, 20] [21, 22, 23, 24] (by kernel_rfl) (by kernel_rfl) (fun _ _ d _ _ h => by cases d <;> exact h) ⟨e1, e2, x2, c1, qc⟩ ?_
      refine yg_read _ (.pointer (some ⟨w3.heap.size, 1, none⟩)) rfl rfl (fun w' hF => by simp [execOp, Act.eval, go_sem]) ?_
      refine yg_read _ (v) rfl rfl (fun w' hF => by obtain ⟨u0, u1, u2, u3, u4⟩ := hF; simp [execOp, Act.eval, go_sem, u4]) ?_
      refine yg_read _ (.pointer (some ⟨w.heap.size + 1, 1, none⟩)) rfl rfl (fun w' hF => by simp [execOp, Act.eval, go_sem]) ?_
      refine yg_read _ (.slice (some ⟨b1, o1, none⟩) lb.length cb) rfl rfl (fun w' hF => by obtain ⟨u0, u1, u2, u3, u4⟩ := hF; simp [execOp, Act.eval, go_sem, u2]) ?_
      refine yg_read _ (.int .i64 (k : Int)) rfl rfl (fun w' hF => by simp [execOp, Act.eval, go_sem]) ?_
      refine yg_read _ (.pointer (some ⟨b1, o1 + k * 2, none⟩)) rfl rfl (fun w' hF => by simp [execOp, Act.eval, go_sem, t3, hlt1]) ?_
      refine yg_read _ (.pointer (some ⟨b1, o1 + k * 2, none⟩)) rfl rfl (fun w' hF => by simp [execOp, Act.eval, go_sem]) ?_
      refine yg_read _ (.int .i64 u) rfl rfl (fun w' hF => by obtain ⟨u0, u1, u2, u3, u4⟩ := hF; simp [execOp, Act.eval, go_sem, u0]) ?_
      refine yg_read _ (.pointer (some ⟨w.heap.size, 0, none⟩)) rfl rfl (fun w' hF => by simp [execOp, Act.eval, go_sem]) ?_
      refine yg_read _ (.int .i64 (A : Int)) rfl rfl (fun w' hF => by obtain ⟨u0, u1, u2, u3, u4⟩ := hF; simp [execOp, Act.eval, go_sem, u3]) ?_
      refine yg_read _ (.int .i64 (u + (A : Int))) rfl rfl (fun w' hF => by simp [execOp, Act.eval, go_sem, t1]) ?_
      refine yg_read _ (.pointer (some ⟨w.heap.size + 1, 1, none⟩)) rfl rfl (fun w' hF => by simp [execOp, Act.eval, go_sem]) ?_
      refine yg_read _ (.slice (some ⟨b1, o1, none⟩) lb.length cb) rfl rfl (fun w' hF => by obtain ⟨u0, u1, u2, u3, u4⟩ := hF; simp [execOp, Act.eval, go_sem, u2]) ?_
      refine yg_read _ (.int .i64 (k : Int)) rfl rfl (fun w' hF => by simp [execOp, Act.eval, go_sem]) ?_
      refine yg_read _ (.pointer (some ⟨b1, o1 + k * 2, none⟩)) rfl rfl (fun w' hF => by simp [execOp, Act.eval, go_sem, t3, hlt1]) ?_
      refine yg_read _ (.pointer (some ⟨b1, o1 + k * 2 + 1, none⟩)) rfl rfl (fun w' hF => by simp [execOp, Act.eval, go_sem]) ?_
      refine yg_read _ (.int .i64 y) rfl rfl (fun w' hF => by obtain ⟨u0, u1, u2, u3, u4⟩ := hF; simp [execOp, Act.eval, go_sem, u1]) ?_
      refine yg_read _ (.pointer (some ⟨w.heap.size, 0, none⟩)) rfl rfl (fun w' hF => by simp [execOp, Act.eval, go_sem]) ?_
      refine yg_read _ (.int .i64 (A : Int)) rfl rfl (fun w' hF => by obtain ⟨u0, u1, u2, u3, u4⟩ := hF; simp [execOp, Act.eval, go_sem, u3]) ?_
      refine yg_read _ (.int .i64 (y + (A : Int))) rfl rfl (fun w' hF => by simp [execOp, Act.eval, go_sem, t2]) ?_
      refine yg_read _ (.agg #[.int .i64 (u + (A : Int)), .int .i64 (y + (A : Int))]) rfl rfl (fun w' hF => by simp [execOp, Act.eval, go_sem]) ?_
      refine yg_end ?_
      refine sf_step _ rfl (fun K8 hK8 => ?_)
      go_simp
      refine hK8.out _ _ (fun _ => ⟨cl_alloc_d e1 _, cl_alloc_d e2 _, cl_alloc_d x2 _, cl_alloc_d c1 _, cl_alloc_d qc _⟩) ?_
      clear hK8 K8
      refine sf_step _ rfl (fun K9 hK9 => ?_)
      refine step_append rfl (.tmp 69) (.tmp 89) _ rfl el_edge W8.heap.size v k _ (by simp [Act.eval]) ((HO.out.alloc _).drew) (some ⟨wr.heap.size, 0, none⟩) 1 1 (flatE [(u + (A : Int), y + (A : Int))]) (by simp [Act.eval]) rfl (Row.new wr.drew _ _ _) (flatE_one _) (by unfold maxLen; omega) (by omega) (by simp; omega) ?_
      intro v2 w2 hown2 hg2 hat2 hb2
      obtain ⟨g2, cap2, rfl⟩ := own_form hown2 (Nat.succ_pos k)
      have F9 := (⟨(hb2.cell hl1).trans (cl_alloc_d e1 _), (hb2.cell hl1).trans (cl_alloc_d e2 _), (hb2.cell hl3).trans (cl_alloc_d x2 _), (hb2.cell hl2).trans (cl_alloc_d c1 _), (hb2.cell hlw).trans (cl_alloc_d qc _)⟩ : w2.cell? ⟨b1, o1 + k * 2, none⟩ = some (.int .i64 u) ∧ w2.cell? ⟨b1, o1 + k * 2 + 1, none⟩ = some (.int .i64 y) ∧ w2.cell? ⟨w.heap.size + 1, 1, none⟩ = some (.slice (some ⟨b1, o1, none⟩) lb.length cb) ∧ w2.cell? ⟨w.heap.size, 0, none⟩ = some (.int .i64 (A : Int)) ∧ w2.cell? ⟨w3.heap.size, 1, none⟩ = some v)
      refine hK9.out _ _ (fun _ => F9) ?_
      clear hK9 K9
      refine sf_step _ rfl (fun K10 hK10 => ?_)
      go_simp
      refine hK10.out _ _ (fun _ => F9) ?_
      clear hK10 K10
      have f9 := F9.2.2.2.2
      have z9 : w2.frozen? ⟨w3.heap.size, 1, none⟩ = false := (below_frozen hb2 hlw).trans (fz_alloc_d qf hlq _)
      refine sf_step _ rfl (fun K11 hK11 => ?_)
      go_simp
      refine hK11.out _ _ (fun h => absurd rfl h) ?_
      clear hK11 K11
      refine sf_end ?_
      clear F9 f9 z9
      have hC3 := app_facts_d hq8 HC.out HB.out HO.out hown2 hg2
      obtain ⟨y1, y2, y3, y4⟩ := hC3
      have HB3 := Lib.hid y2
      have HO3 := Lib.hid y3
      have HC3 := Lib.hid y4
      clear hown2 hg2 hb2 y2 y3 y4 hat2
      go_wp2_with fail
      go_roundw
      case rel => exact ⟨k + 1, _, by go_num, by omega, HB3.out, by rw [HTS.out]; exact HO3.out, HC3.out⟩
      case measure => simp [intOf]; omega
    · obtain rfl : k = lb.length := by have := HK.out; omega
      have hA4 := A3.out.below HW.out
      have hlp := HO.out
      have htl : (lb.take lb.length) = lb := List.take_of_length_le (Nat.le_refl _)
      rw [htl] at hlp
      have HO4 := Lib.hid hlp
      have A4 := Lib.hid hA4
      have HB4 := HB
      have hw8 := HC.out.size
      have qc : wr.cell? ⟨w3.heap.size, 1, none⟩ = some v := HB.out.cell 1
      clear hlp htl hA4 HO HK
      go_wp2_with (at_builtin; go_must (refine wpList_append rfl (.tmp 93) (.tmp 95) _ rfl el_edge W8.heap.size _ _ _ rfl HO4.out _ la.length ca (flatE la) rfl (flatE_length la) A4.out.row.row (flatE_one _) (by unfold maxLen; omega) (by omega) (by omega) ?_))
      intro v2 w2 hown2 hg2 _ hb2
      rw [← flatE_append] at hown2
      obtain ⟨av, cv, rfl, hER, hLN, hBS⟩ := own_edges hown2
      have hc2 := Chg.of_grown hg2
      have hn2 : ∀ p, p < W8.heap.size → ¬ some p = v.ownBlock := fun p hp e => by
        have := (HO4.out.lt p e.symm).1
        omega
      have hB2 := HB4.out.chg hc2 (hn2 _ (by omega))
      have m1 : w2.cell? ⟨w3.heap.size, 1, none⟩ = some v := hB2.cell 1
      have mf := hB2.frozen 1
      have hq : w3.heap.size < wr.heap.size := hlq
      have hch := (Chg.refl (fun j => j = w3.heap.size) w2).setCell ⟨w3.heap.size, 1, none⟩ (.slice av (lb.length + la.length) cv) (fun _ => rfl)
      have hT : GBox (w2.setCell ⟨w3.heap.size, 1, none⟩ (.slice av (lb.length + la.length) cv)) w3.heap.size ((A : Int) + B) av (lb.length + la.length) cv (sideL A la lb) :=
        ⟨by simpa using hB2.set_ 1 (.slice av (lb.length + la.length) cv), Row.erow (hER.row.chg hch (fun x hx => by have := hBS x hx; omega)), hLN⟩
      have hch2 : Below w3.heap.size w3 (w2.setCell ⟨w3.heap.size, 1, none⟩ (.slice av (lb.length + la.length) cv)) := HW.out.trans (((hc2.mono (S' := fun k => some k = v.ownBlock ∨ k = w3.heap.size) (fun _ _ h => .inl h)).trans hch (fun k _ e => .inr e)).below_of (by omega) (fun k hk e => by
        rcases e with e | e
        · exact hn2 k (by omega) e
        · omega))
      have A5 := Lib.hid (A3.out.below hch2)
      have B5 := Lib.hid (B3.out.below hch2)
      have H5 := Lib.hid (H3.out.trans (hch2.mono hz))
      have T5 := Lib.hid hT
      have HFT := Lib.hid (sideL_formed FA.out FB.out (by omega) (by omega) (by omega) (by omega))
      have HDG := Lib.hid (degI_side FA.out FB.out)
      have HOS := Lib.hid (ordL_side FA.out FB.out)
      have d1 := hc2.cell c1 (hn2 _ (by have := A3.out.blk.lt; simp only; omega))
      have d2 := hc2.cell c2 (hn2 _ (by have := A3.out.blk.lt; simp only; omega))
      have hne1 : w.heap.size ≠ w3.heap.size := by have := A3.out.blk.lt; omega
      clear hown2 hg2 hb2 hc2 hn2 hB2 hch hch2 hT hER hBS HB HW HC HO4 A4 HB4 A3 B3 H3 c1 c2 c3 x1 x2 x3 qc B8
      go_wp2_with fail
      generalize w2.setCell ⟨w3.heap.size, 1, none⟩ (.slice av (lb.length + la.length) cv) = w5 at *
      replace hz := H5.out.size
      have HN := Lib.hid (show ((A : Int) + B) = ((A + B : Nat) : Int) by omega)
      clear d1 d2 hne1
      refine (degrees_ok A la a la.length ca w5 A5.out.row rfl hla FA.out).mono ?_
      rintro e w6 ⟨v6, rfl, hown6, hb6⟩
      obtain ⟨a6, d6, rfl, -, -, -, -⟩ := own_slice hown6
      have O6 := Lib.hid hown6
      have C6 := Lib.hid hb6
      have hz6 := hb6.size
      obtain ⟨c1, c2, c3⟩ := (B5.out.below hb6).cells
      clear hb6 hown6
      go_wp2_with fail
      refine (deg_ok B lb b lb.length cb w6 (B5.out.below C6.out).row rfl hlb FB.out).mono ?_
      rintro e w7 ⟨a7, n7, d7, rfl, hr7, hl7, hb⟩
      have O7 := Lib.hid (own_chg O6.out (Chg.of_below' (S := fun _ => False) hb) (fun _ _ h => h))
      have C7 := Lib.hid (C6.out.trans (hb.mono hz6))
      have hz7 := C7.out.size
      have R7 := Lib.hid hr7
      have hdl : (degI B lb).length = B := by simp [degI]
      obtain rfl : B = n7 := by omega
      clear hb hr7 c1 c2 c3 O6 C6 hdl hl7
      obtain ⟨c1, c2, c3⟩ := (T5.out.below C7.out).cells
      go_wp2_with fail
      have D8 := degrees_ok (A + B) (sideL A la lb) av (lb.length + la.length) cv w7 (T5.out.below C7.out).row (sideL_length A la lb) (by omega) (by rw [← HN.out]; exact HFT.out)
      rw [← HN.out] at D8
      refine D8.mono ?_
      clear D8
      rintro e w8 ⟨v8, rfl, hown8, hb⟩
      obtain ⟨a8, d8, rfl, -, -, -, -⟩ := own_slice hown8
      have O8 := Lib.hid (own_chg O7.out (Chg.of_below' (S := fun _ => False) hb) (fun _ _ h => h))
      have Z8 := Lib.hid hown8
      have C8 := Lib.hid (C7.out.trans (hb.mono hz7))
      have hz8' := C8.out.size
      have R8 := Lib.hid (R7.out.below hb)
      have L7 := Lib.hid (fun k hk => (O7.out.lt k hk).2)
      clear hb c1 c2 c3 O7 C7 R7 hown8
      go_wp2_with (at_builtin; go_must (refine wpList_append rfl (.tmp 113) (.tmp 114) _ rfl el_ints w5.heap.size _ _ _ rfl O8.out _ B d7 (ints (degI B lb)) rfl (by rw [ints_len]; simp [degI]) R8.out (by intro u hu; simp [ints] at hu; obtain ⟨_, _, rfl⟩ := hu; rfl) (by unfold maxLen; omega) (by omega) (by omega) ?_))
      intro v9 w9 hown9 hg9 _ hb9
      have hneq : (Value.slice a8 (A + B) d8).ownBlock = none ∨ (Value.slice a8 (A + B) d8).ownBlock ≠ (Value.slice a6 A d6).ownBlock := by
        cases hx : (Value.slice a8 (A + B) d8).ownBlock with
        | none => exact .inl rfl
        | some k =>
          right
          intro e
          have h1 := (Z8.out.lt k hx).1
          have h2 := L7.out k e.symm
          omega
      have Z9 := Z8.out.kept hg9 hneq
      rw [degs_ints, ← ints_append, ← HDG.out] at hown9
      rw [degs_ints] at Z9
      obtain ⟨a9, d9, rfl, hr9, -, -, -⟩ := own_slice hown9
      have X9 := Lib.hid hr9
      have Y9 := Lib.hid (Row.of_own Z9).1
      have A9 := Lib.hid (A5.out.below (C8.out.trans hb9))
      have B9 := Lib.hid (B5.out.below (C8.out.trans hb9))
      have T9 := Lib.hid (T5.out.below (C8.out.trans hb9))
      have H9 := Lib.hid (H5.out.trans ((C8.out.trans hb9).mono hz))
      replace hz := H9.out.size
      have hdl : (degI (A + B) (sideL A la lb)).length = A + B := by simp [degI]
      have HDL := Lib.hid hdl
      generalize degI (A + B) (sideL A la lb) = xs at *
      clear hown9 hg9 hb9 Z9 hneq A5 B5 T5 H5 C8 Z8 O8 R8 L7 hr9 hdl HDG hz6 hz7 hz8'
      obtain ⟨c1, c2, c3⟩ := T9.out.cells
      go_wp2_with fail
      refine (order_ok ((A : Int) + B) (sideL A la lb) av (lb.length + la.length) cv w9 T9.out.row (sideL_length A la lb) (by omega) HFT.out).mono ?_
      rintro e w10 ⟨a10, m10, d10, rfl, hr10, hl10, hb⟩
      obtain rfl : m10 = la.length + lb.length := by rw [← hl10, ordL_length, sideL_length]; omega
      have hb' := hb.trans ((below_new w10 (.cells #[.int .i64 ((A : Int) + B), .slice a10 (la.length + lb.length) d10] 24)).mono hb.size)
      rw [HOS.out] at hr10 hl10
      have P11 := Lib.hid (GBox.new ((A : Int) + B) d10 hr10 hl10)
      have A11 := Lib.hid (A9.out.below hb')
      have B11 := Lib.hid (B9.out.below hb')
      have X11 := Lib.hid (X9.out.below hb')
      have Y11 := Lib.hid (Y9.out.below hb')
      have H11 := Lib.hid (H9.out.trans (hb'.mono hz))
      clear c1 c2 c3
      obtain ⟨c1, c2, c3⟩ := (A9.out.below hb).cells
      clear hb hb' hr10 A9 B9 X9 Y9 H9 T9 HOS HFT hl10 hLN
      go_wp2_with fail
      generalize w10.alloc (.cells #[.int .i64 ((A : Int) + B), .slice a10 (la.length + lb.length) d10] 24) = w11 at *
      generalize w10.heap.size = bO at *
      replace hz := H11.out.size
      refine (order_ok A la a la.length ca w11 A11.out.row rfl hla FA.out).mono ?_
      rintro e w12 ⟨a12, m12, d12, rfl, hr12, hl12, hb⟩
      obtain rfl : m12 = la.length := by rw [← hl12, ordL_length]
      have hb' := hb.trans ((below_new w12 (.cells #[.int .i64 (A : Int), .slice a12 la.length d12] 24)).mono hb.size)
      have Q13 := Lib.hid (GBox.new (A : Int) d12 hr12 hl12)
      have P13 := Lib.hid (P11.out.below hb')
      have A13 := Lib.hid (A11.out.below hb')
      have B13 := Lib.hid (B11.out.below hb')
      have X13 := Lib.hid (X11.out.below hb')
      have Y13 := Lib.hid (Y11.out.below hb')
      have H13 := Lib.hid (H11.out.trans (hb'.mono hz))
      clear c1 c2 c3
      obtain ⟨c1, c2, c3⟩ := (B11.out.below hb).cells
      clear hb hb' hr12 A11 B11 X11 Y11 H11 P11 hl12
      go_wp2_with fail
      generalize w12.alloc (.cells #[.int .i64 (A : Int), .slice a12 la.length d12] 24) = w13 at *
      generalize w12.heap.size = bP at *
      replace hz := H13.out.size
      refine (order_ok B lb b lb.length cb w13 B13.out.row rfl hlb FB.out).mono ?_
      rintro e w14 ⟨a14, m14, d14, rfl, hr14, hl14, hb⟩
      obtain rfl : m14 = lb.length := by rw [← hl14, ordL_length]
      have hb' := hb.trans ((below_new w14 (.cells #[.int .i64 (B : Int), .slice a14 lb.length d14] 24)).mono hb.size)
      have R15 := Lib.hid (GBox.new (B : Int) d14 hr14 hl14)
      have P15 := Lib.hid (P13.out.below hb')
      have Q15 := Lib.hid (Q13.out.below hb')
      have A15 := Lib.hid (A13.out.below hb')
      have X15 := Lib.hid (X13.out.below hb')
      have Y15 := Lib.hid (Y13.out.below hb')
      have H15 := Lib.hid (H13.out.trans (hb'.mono hz))
      clear c1 c2 c3 hb hb' hr14 A13 B13 X13 Y13 H13 P13 Q13 hl14
      go_wp2_with fail
      generalize w14.alloc (.cells #[.int .i64 (B : Int), .slice a14 lb.length d14] 24) = w15 at *
      generalize w14.heap.size = bQ at *
      replace hz := H15.out.size
      have hI := ints_any xs xs a9 a8 (A + B) (A + B) d9 d8 w15 X15.out Y15.out HDL.out HDL.out (by omega) (by omega)
      simp only [decide_true] at hI
      refine hI.mono ?_
      clear hI
      rintro e w16 ⟨rfl, hb⟩
      have R16 := Lib.hid (R15.out.below hb)
      have P16 := Lib.hid (P15.out.below hb)
      have Q16 := Lib.hid (Q15.out.below hb)
      have A16 := Lib.hid (A15.out.below hb)
      have H16 := Lib.hid (H15.out.trans (hb.mono hz))
      clear hb R15 P15 Q15 A15 H15 X15 Y15
      obtain ⟨c1, c2, c3⟩ := P16.out.cells
      obtain ⟨x1, x2, x3⟩ := Q16.out.cells
      obtain ⟨y1, y2, y3⟩ := R16.out.cells
      obtain ⟨z1, z2, z3⟩ := A16.out.cells
      have t0 : IntKind.i64.wrap ((la.length : Int) + lb.length) = (la.length : Int) + lb.length := by rw [IntKind.wrap_i64]; omega
      go_wp2_with fail
      have hla' : (ordL la).length = la.length := ordL_length la
      have hlb' : (ordL lb).length = lb.length := ordL_length lb
      have hokb := formed_mem (formed_ord FB.out)
      have HOKB := Lib.hid hokb
      have HLA := Lib.hid hla'
      have HLB := Lib.hid hlb'
      clear hokb hla' hlb' t0
      generalize ordL la = oa at *
      generalize ordL lb = ob at *
      go_loopw [19] (fun iv wr => ∃ k m : Nat, iv = .int .i64 (k : Int) ∧ k ≤ la.length + lb.length ∧ w16.drewN m = wr) (fun iv _ => la.length + lb.length - (intOf iv).toNat)
      case atStart => exact ⟨0, 0, rfl, by omega, rfl⟩
      case round =>
        obtain ⟨k, m, rfl, hk, rfl⟩ := hrel
        have f1 : (w16.drewN m).cell? ⟨bO, 1, none⟩ = _ := c2
        have f2 : (w16.drewN m).cell? ⟨bP, 1, none⟩ = _ := x2
        have f3 : (w16.drewN m).cell? ⟨bQ, 1, none⟩ = _ := y2
        have f4 : (w16.drewN m).cell? ⟨w.heap.size, 0, none⟩ = _ := z1
        by_cases hlt : (k : Int) < la.length
        · have k1 : k < oa.length := by have := HLA.out; omega
          obtain ⟨b1, o1, rfl, e1, e2, _⟩ := P16.out.row k (by rw [List.length_append]; omega)
          obtain ⟨b2, o2, rfl, e3, e4, _⟩ := Q16.out.row k k1
          rw [List.getElem_append_left k1] at e1 e2
          generalize oa[k] = p at *
          obtain ⟨u, y⟩ := p
          simp only at e1 e2 e3 e4
          have g1 : (w16.drewN m).cell? ⟨b1, o1 + k * 2, none⟩ = _ := e1
          have g2 : (w16.drewN m).cell? ⟨b1, o1 + k * 2 + 1, none⟩ = _ := e2
          have g3 : (w16.drewN m).cell? ⟨b2, o2 + k * 2, none⟩ = _ := e3
          have g4 : (w16.drewN m).cell? ⟨b2, o2 + k * 2 + 1, none⟩ = _ := e4
          have t1 : (0 : Int) ≤ (k : Int) := by omega
          have t2 : (k : Int) < (la.length : Int) + lb.length := by omega
          have t3 : decide ((la.length : Int) ≤ (k : Int)) = false := decide_eq_false (by omega)
          have t4 : decide ((k : Int) < (la.length : Int)) = true := decide_eq_true hlt
          have t5 : decide (la.length ≤ k) = false := decide_eq_false (by omega)
          clear k1
          go_wp2_with fail
          go_quiet (fail)
          go_wp2_with fail
          go_quiet (fail)
          go_wp2_with fail
          go_roundw
          case rel => exact ⟨k + 1, _, by go_num, by omega, rfl⟩
          case measure => simp [intOf]; omega
        · by_cases hlt2 : (k : Int) < (la.length : Int) + lb.length
          · obtain ⟨j, rfl⟩ : ∃ j, k = la.length + j := ⟨k - la.length, by omega⟩
            have k1 : j < ob.length := by have := HLB.out; omega
            obtain ⟨b1, o1, rfl, e1, e2, _⟩ := P16.out.row (la.length + j) (by rw [List.length_append, List.length_map, HLA.out]; omega)
            obtain ⟨b2, o2, rfl, e3, e4, _⟩ := R16.out.row j k1
            have hge : (oa ++ ob.map (shiftE A))[la.length + j]'(by rw [List.length_append, List.length_map, HLA.out]; omega) = shiftE A ob[j] := by
              rw [List.getElem_append_right (by rw [HLA.out]; omega), List.getElem_map]
              congr 2
              rw [HLA.out]; omega
            rw [hge] at e1 e2
            have hok := (okE_iff _ _).1 (HOKB.out ob[j] (List.getElem_mem k1))
            clear hge
            generalize ob[j] = p at *
            obtain ⟨u, y⟩ := p
            simp only [shiftE] at e1 e2 e3 e4 hok
            have s1 : IntKind.i64.wrap (u + (A : Int)) = u + (A : Int) := by rw [IntKind.wrap_i64]; omega
            have s2 : IntKind.i64.wrap (y + (A : Int)) = y + (A : Int) := by rw [IntKind.wrap_i64]; omega
            have g1 : (w16.drewN m).cell? ⟨b1, o1 + (la.length + j) * 2, none⟩ = _ := e1
            have g2 : (w16.drewN m).cell? ⟨b1, o1 + (la.length + j) * 2 + 1, none⟩ = _ := e2
            have g3 : (w16.drewN m).cell? ⟨b2, o2 + j * 2, none⟩ = _ := e3
            have g4 : (w16.drewN m).cell? ⟨b2, o2 + j * 2 + 1, none⟩ = _ := e4
            have t0 : ((la.length + j : Nat) : Int) = (la.length : Int) + j := by omega
            have t1 : (0 : Int) ≤ (la.length : Int) + j := by omega
            have t2 : (la.length : Int) + j < (la.length : Int) + lb.length := by omega
            have t3 : decide ((la.length : Int) ≤ (la.length : Int) + j) = true := decide_eq_true (by omega)
            have t4 : decide ((la.length : Int) + j < (la.length : Int)) = false := decide_eq_false (by omega)
            have t5 : IntKind.i64.wrap ((la.length : Int) + j - la.length) = (j : Int) := by rw [IntKind.wrap_i64]; omega
            have t6 : ((la.length : Int) + j).toNat = la.length + j := by omega
            have t7 : (0 : Int) ≤ (j : Int) := by omega
            have t8 : (j : Int) < lb.length := by omega
            have t9 : (la.length : Int) ≤ (la.length : Int) + j := by omega
            have t10 : ¬ (la.length : Int) + j < (la.length : Int) := by omega
            rw [t0]
            clear hlt hlt2 hok k1 t0
            go_wp2_with fail
            go_quiet (fail)
            go_wp2_with fail
            go_quiet (fail)
            go_wp2_with fail
            go_roundw
            case rel => exact ⟨la.length + j + 1, _, by go_num, by omega, rfl⟩
            case measure => simp [intOf]; omega
          · obtain rfl : k = la.length + lb.length := by omega
            go_wp2_with fail
            go_ret
            exact ⟨rfl, below_d H16.out _⟩

theorem GraphApart_law {w : World} (cs : Array Value) (g : Int × List (Int × Int)) (h : rdGraph w cs.toList g) (cs' : Array Value) (g' : Int × List (Int × Int)) (h' : rdGraph w cs'.toList g') :
    Calls Try.prog 6 #[.agg cs, .agg cs'] w fun e w' => e = .returned (.bool true) ∧ Below w.heap.size w w' := by
  obtain ⟨a, m, c, rfl, h1, h2, h3, _⟩ := graph_open h
  obtain ⟨a', m', c', rfl, h1', h2', h3', _⟩ := graph_open h'
  subst h2
  subst h2'
  exact GraphApart_walk g.1 g'.1 g.2 g'.2 a a' c c' h1 h1' h3 h3'

end Go.Proofs.Ytlepmefknglkeaa.Gr
