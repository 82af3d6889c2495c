/- FilePlays: an Op of either kind; the Ops that came in. -/
import Derived.Test.YtmmkncocgjgapaaZFpW2
import Derived.Test.YtmmkncocgjgapaaZFpW3
import Derived.Test.YtmmkncocgjgapaaZFpW4
import Derived.Test.YtmmkncocgjgapaaZFpR5
import Derived.Test.YtmmkncocgjgapaaZFpR6
import Derived.Test.YtmmkncocgjgapaaZFpR8
set_option linter.unusedVariables false
namespace Go.Proofs.Ytmmkncocgjgapaa.Fp
open Go.RowKit Fl

section
variable {w : World} {O : Nat → Prop} {K : Key} {W : Wk} {S : PS} {mo dw : Ow} {tw : Nat → Option Nat} {st : Nat} {V : Nat → Value}
theorem write_any (h : Full w O K W S mo dw tw st V S.C S.n) (kd k width bound : Int) (t : Tup) (ht : t.length = 5) (hs : S.ws.length ≤ 100 ∧ S.fs.length ≤ 100 ∧ S.rs.length ≤ 100) (hac : W.D.acts ≤ 1000000) (size : Nat) (hz : size = W.D.size) :
    Calls Try.prog 20 #[P st, opv kd k width bound t, .int .i64 (size : Int)] w (ActTold w K W S st) := by
  by_cases h1 : kd = 1
  · subst h1; exact write1 h k width bound t ht hs.1 size hz
  by_cases h2 : kd = 2
  · subst h2; exact write2 h k width bound t ht hs.1 hac size hz
  by_cases h3 : kd = 3
  · subst h3; exact write3 h k width bound t ht hs hac size hz
  by_cases h4 : kd = 4
  · subst h4; exact write4 h k width bound t ht hs hac size hz
  · exact write0 h kd ⟨h1, h2, h3, h4⟩ k width bound t ht hs hac size hz
theorem read_any (h : Full w O K W S mo dw tw st V S.C S.n) (kd k width bound : Int) (t : Tup) (ht : t.length = 5) (hs : S.ws.length ≤ 100 ∧ S.fs.length ≤ 100 ∧ S.rs.length ≤ 100) (hac : W.D.acts ≤ 1000000) :
    Calls Try.prog 21 #[P st, opv kd k width bound t] w (ActTold w K W S st) := by
  by_cases h1 : kd = 5
  · subst h1; exact read5 h k width bound t ht hs hac
  by_cases h2 : kd = 6
  · subst h2; exact read6 h k width bound t ht hs hac
  by_cases h3 : kd = 7
  · subst h3; exact read7 h k width bound t ht hs hac
  by_cases h4 : kd = 8
  · subst h4; exact read8 h k width bound t ht hs hac
  · exact read0 h kd ⟨h1, h2, h3, h4⟩ k width bound t ht hs hac
end
/-- The Ops, as they lie in the law's argument. -/
def OpsAt (w : World) (a : Option Addr) (n : Nat) : Prop := ∀ i, i < n → ∃ (g off : Nat) (kd k width bound : Int) (t : Tup), a = some ⟨g, off, none⟩ ∧ g < w.heap.size ∧ t.length = 5 ∧ ∀ j, j < 9 → w.cell? ⟨g, off + i * 9 + j, none⟩ = (opc kd k width bound t)[j]?
/-- A fresh law's state: nothing yet. -/
theorem fresh_full {w : World} {O : Nat → Prop} {K : Key} {W : Wk} {st : Nat} (hI : WkI w O K W) (hs : Sure W.D ∧ W.D.fault = -1) (hb : W.D.blocks = W.B ∧ W.B ≤ 5000) (hu : W.A.used = 0) (hn : ∀ g, w.heap.size ≤ g → O g) (hst : K.base ≤ st)
    (hB : Blk w st 61 #[P K.wk, .slice none 0 0, .slice none 0 0, .slice none 0 0, .slice none 0 0, .slice none 0 0, .slice none 0 0, .slice none 0 0, .slice none 0 0, .slice none 0 0, .slice none 0 0, .slice none 0 0, .slice none 0 0]) :
    Full w O K W ⟨[], [], []⟩ (fun _ => none) (fun _ => none) (fun _ => none) st (fun _ => .slice none 0 0) (PS.C ⟨[], [], []⟩) (PS.n ⟨[], [], []⟩) := by
  refine ⟨⟨hI, hs, hb, (fun k e hk => by cases hk), (fun j f hj => by cases hj), (fun r e hr => by cases hr), by simp [PS.live, hu], (fun g o hg => by cases hg), hn, (fun b o hb => by cases hb)⟩, ⟨(fun k e hk => by cases hk), (fun g k hg => by cases hg)⟩, hB, fun i h1 h2 => ?_, (fun i j g h1 h2 h3 h4 h5 h6 => by cases h6), hst⟩
  have hc : PS.C ⟨[], [], []⟩ i = [] := by unfold PS.C; split <;> rfl
  have hn : PS.n ⟨[], [], []⟩ i = 0 := by unfold PS.n; split <;> rfl
  rw [hc, hn]
  exact ⟨by simp, .inl ⟨rfl, rfl⟩⟩

section
variable {w : World} {O : Nat → Prop} {K : Key} {W : Wk} {S : PS} {mo dw : Ow} {tw : Nat → Option Nat} {st : Nat} {V : Nat → Value}
theorem Full.bools5 (h : Full w O K W S mo dw tw st V S.C S.n) : ∃ a c, w.cell? ⟨st, 5, none⟩ = some (.slice a S.ws.length c) ∧ ∀ k (hk : k < S.ws.length), ∃ g, a = some ⟨g, 0, none⟩ ∧ w.cell? ⟨g, k, none⟩ = some (.bool (S.ws[k].op)) := by
  obtain ⟨a, c, hv⟩ := h.st.slice (i := 5) (by omega) (by omega)
  refine ⟨a, c, (h.st.blk.cell 5).trans (congrArg some hv), fun k hk => ?_⟩
  obtain ⟨g, c', hv', -⟩ := h.st.form (i := 5) (by omega) (by omega) (by show 0 < S.ws.length; omega)
  rw [hv] at hv'
  injection hv' with e1 e2 e3
  refine ⟨g, e1, (h.st.at_ (i := 5) (by omega) (by omega) (g := g) (m := S.n 5) (c := c) (by rw [hv, e1]) (k := k) (by show k < S.ws.length * 1; omega)).trans ?_⟩
  simp [PS.C, hk]
theorem Full.bools12 (h : Full w O K W S mo dw tw st V S.C S.n) : ∃ a c, w.cell? ⟨st, 12, none⟩ = some (.slice a S.rs.length c) ∧ ∀ k (hk : k < S.rs.length), ∃ g, a = some ⟨g, 0, none⟩ ∧ w.cell? ⟨g, k, none⟩ = some (.bool (S.rs[k].rd)) := by
  obtain ⟨a, c, hv⟩ := h.st.slice (i := 12) (by omega) (by omega)
  refine ⟨a, c, (h.st.blk.cell 12).trans (congrArg some hv), fun k hk => ?_⟩
  obtain ⟨g, c', hv', -⟩ := h.st.form (i := 12) (by omega) (by omega) (by show 0 < S.rs.length; omega)
  rw [hv] at hv'
  injection hv' with e1 e2 e3
  refine ⟨g, e1, (h.st.at_ (i := 12) (by omega) (by omega) (g := g) (m := S.n 12) (c := c) (by rw [hv, e1]) (k := k) (by show k < S.rs.length * 1; omega)).trans ?_⟩
  simp [PS.C, hk]
end
/-- A loop that counts. -/
def CntLoop {α : Type} (l : List α) (p : α → Bool) (base : Nat) (w0 : World) (nv iv : Value) (wr : World) : Prop := ∃ k : Nat, nv = .int .i64 ((base + (l.take k).countP p : Nat) : Int) ∧ iv = .int .i64 (k : Int) ∧ k ≤ l.length ∧ w0 = wr
theorem count_next {α : Type} {l : List α} {p : α → Bool} {k : Nat} (h : k < l.length) : (l.take (k + 1)).countP p = (l.take k).countP p + (if p l[k] then 1 else 0) := by
  rw [List.take_succ_eq_append_getElem h, List.countP_append, List.countP_cons, List.countP_nil]
  omega

theorem fp_place_open {w : World} {cs : Array Value} {p : Int × Int × Int} (h : rdPair 1 2 (rdInt .i64) (rdPair 1 1 (rdInt .i64) (rdInt .i64)) w cs.toList p) : cs = #[.int .i64 p.1, .int .i64 p.2.1, .int .i64 p.2.2] ∧ -9223372036854775808 ≤ p.2.2 := by
  obtain ⟨hl, ⟨h1, _⟩, _, ⟨h2, _⟩, h3, h4⟩ := h
  obtain ⟨cs⟩ := cs
  match cs, hl with
  | [a, b, c], _ =>
    simp at h1 h2 h3
    subst h1 h2 h3
    have := u_bounds.2.2.2.2 h4
    exact ⟨rfl, by omega⟩
/-- An Op's cells, as they are read. -/
abbrev rdOp : Rd (Int × Int × Int × Int × List Int) := rdPair 1 8 (rdInt .i64) (rdPair 1 7 (rdInt .i64) (rdPair 1 6 (rdInt .i64) (rdPair 1 5 (rdInt .i64) (rdArr 5 1 (rdInt .i64)))))
theorem ops_of {w : World} {a : Option Addr} {n c : Nat} {l : List (Int × Int × Int × Int × List Int)} (h : rdSlice 9 rdOp w [.slice a n c] l) : OpsAt w a n := by
  obtain ⟨a', n', c', e, hl, hn, hc, h0, hr⟩ := h
  simp only [List.cons.injEq, Value.slice.injEq, and_true] at e
  obtain ⟨rfl, rfl, rfl⟩ := e
  have h0x : ∀ x, a = some x → 0 < l.length → x.block < w.heap.size ∧ x.spot = none := fun x hx hl0 => by
    obtain ⟨x', es, hx', hes, hj, -⟩ := hr 0 hl0
    rw [hx] at hx'
    injection hx' with hx'
    subst hx'
    have h00 := hj 0 (by omega)
    rw [show (x.add (0 * 9)).add 0 = x from by simp [Addr.add], List.getElem?_eq_getElem (by omega)] at h00
    exact cell_lt h00
  intro i hi
  obtain ⟨x, es, hx, hes, hj, ⟨q0, ⟨q1, -⟩, q2, ⟨q3, -⟩, q4, ⟨q5, -⟩, q6, ⟨q7, -⟩, q8, q9, q10⟩⟩ := hr i (by omega)
  obtain ⟨hs1, hs2⟩ := h0x x hx (by omega)
  obtain ⟨b, off, spot⟩ := x
  simp only at hs1 hs2
  subst hs2
  match es, hes with
  | [v0, v1, v2, v3, v4, v5, v6, v7, v8], _ =>
    simp at q1 q3 q5 q7
    have z0 := q10 0 (by omega)
    have z1 := q10 1 (by omega)
    have z2 := q10 2 (by omega)
    have z3 := q10 3 (by omega)
    have z4 := q10 4 (by omega)
    simp [rdInt] at z0 z1 z2 z3 z4
    obtain ⟨z0, y0⟩ := z0
    obtain ⟨z1, y1⟩ := z1
    obtain ⟨z2, y2⟩ := z2
    obtain ⟨z3, y3⟩ := z3
    obtain ⟨z4, y4⟩ := z4
    have hb : ∀ z : Int, (Lit.int .i64 z).wf = true → (BitVec.ofInt 64 z).toInt = z := fun z hz => by
      have := u_bounds.2.2.2.2 hz
      rw [BitVec.toInt_ofInt]
      exact Int.bmod_eq_of_le (by omega) (by omega)
    refine ⟨b, off, l[i].1, l[i].2.1, l[i].2.2.1, l[i].2.2.2.1, [.ofInt 64 l[i].2.2.2.2[0], .ofInt 64 l[i].2.2.2.2[1], .ofInt 64 l[i].2.2.2.2[2], .ofInt 64 l[i].2.2.2.2[3], .ofInt 64 l[i].2.2.2.2[4]], hx, hs1, rfl, fun j hj9 => ?_⟩
    have := hj j hj9
    rw [add_none, add_none] at this
    rw [this]
    simp only [opc, icells, List.map_cons, List.map_nil, hb _ y0, hb _ y1, hb _ y2, hb _ y3, hb _ y4, q1, q3, q5, q7, z0, z1, z2, z3, z4]
    simp

end Go.Proofs.Ytmmkncocgjgapaa.Fp
