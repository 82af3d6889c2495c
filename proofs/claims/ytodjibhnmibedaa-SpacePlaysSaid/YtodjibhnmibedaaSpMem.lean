/- Words for a row of structs that is known whole: copy, clear and append, as they turn it. No condition. -/
import Derived.Test.YtodjibhnmibedaaRows
import Derived.Test.YtodjibhnmibedaaHeap
import Derived.Laws.CopyOwn
import Derived.Laws.Externs
import Derived.Lib.AppendZerosOnto
import Derived.Lib.Overlaps
set_option linter.unusedVariables false
namespace Go.Proofs.Ytodjibhnmibedaa
open Go.RowKit

theorem chg_setRow {w : World} {g : Nat} (cs : Array Value) : Chg (fun k => k = g) w (w.setRow g cs) :=
  ⟨rfl, rfl, rfl, by simp [World.setRow], fun k _ hk => setRow_other w g k cs hk⟩
theorem Blk.setRow {w : World} {g : Nat} {t : TypeId} {cur : Array Value} (h : Blk w g t cur) (cs : Array Value) : Blk (w.setRow g cs) g t cs := setRow_heap w g cur cs t (0, 0) h

section
variable {P : Program} {w : World}

/-- copy(d, s): d in a row that is known whole, s whatever. -/
theorem run_copy_at (dT sT ty elem : TypeId) (size : Nat) (dp sp : Option Addr) (dLen dCap sLen sCap : Nat) (g o : Nat) (cur : List Value) (t : TypeId) (cs : List Value)
    (hu : P.underlying dT = some (.slice elem)) (hs : (P.info? elem).map (·.size) = some size) (hg : Blk w g t cur.toArray) (hn : cs.length = Nat.min sLen dLen * size)
    (hpos : 0 < cs.length → dp = some ⟨g, o, none⟩ ∧ ∃ ad, sp = some ad ∧ ∀ j v, cs[j]? = some v → w.cell? (ad.add j) = some v)
    (hfit : o + cs.length ≤ cur.length) (h1 : ∀ v ∈ cs, v.oneCell' = true) :
    ∃ w', (Builtin.copy_ #[dT, sT] ty #[.slice dp dLen dCap, .slice sp sLen sCap]).run P w = .ok (goInt (Nat.min sLen dLen)) w' ∧ Blk w' g t (splice cur o cs).toArray ∧ Chg (fun k => k = g) w w' ∧ w'.heap.size = w.heap.size := by
  cases hq : P.info? elem with
  | none => simp [hq] at hs
  | some i =>
    have hi : i.size = size := by simpa [hq] using hs
    by_cases h0 : cs.length = 0
    · obtain rfl : cs = [] := List.eq_nil_of_length_eq_zero h0
      refine ⟨w, ?_, by simpa [splice] using hg, Chg.refl _ _, rfl⟩
      have hz : Nat.min sLen dLen * size = 0 := by simpa using hn.symm
      have hl : ∀ ad : Addr, (loadCells ad 0).run P w = .ok #[] w := fun ad => by simpa using run_loadCells_list (P := P) w ad [] (by intro j v h; cases h)
      cases sp <;> cases dp <;> simp [Builtin.copy_, run_underlying hu, Builtin.lenOf, Builtin.firstCells, sizeOf, typeInfo, hq, hi, hz, hl, storeCells]
    · obtain ⟨rfl, a, rfl, hsrc⟩ := hpos (by omega)
      have hl := run_loadCells_list (P := P) w a cs hsrc
      have hst := run_storeCells_at P g o t cs 0 cur.toArray w hg (by simpa using hfit) h1
      refine ⟨w.setRow g (splice cur o cs).toArray, ?_, Blk.setRow hg _, chg_setRow _, by simp [World.setRow]⟩
      simp [Builtin.copy_, run_underlying hu, Builtin.lenOf, Builtin.firstCells, sizeOf, typeInfo, hq, hi, ← hn, hl, hst, splice]

/-- clear(d), d in a row that is known whole. -/
theorem run_clear_at (dT ty elem : TypeId) (size : Nat) (z : Value) (dp : Option Addr) (n c : Nat) (g o : Nat) (cur : List Value) (t : TypeId)
    (hu : P.underlying dT = some (.slice elem)) (hv : ∀ w, (zeroValue elem).run P w = .ok z w) (hz : z.cells.size = size) (hz1 : ∀ v ∈ z.cells, v.oneCell' = true) (hg : Blk w g t cur.toArray)
    (hpos : 0 < n → dp = some ⟨g, o, none⟩) (hfit : o + n * size ≤ cur.length) :
    ∃ w' zs, (Builtin.clear_ #[dT] ty #[.slice dp n c]).run P w = .ok (.tuple #[]) w' ∧ zs.length = n * size ∧ Blk w' g t (splice cur o zs).toArray ∧ Chg (fun k => k = g) w w' ∧ w'.heap.size = w.heap.size := by
  by_cases h0 : n = 0
  · subst h0
    refine ⟨w, [], ?_, by simp, by simpa [splice] using hg, Chg.refl _ _, rfl⟩
    cases dp <;> simp [Builtin.clear_, run_underlying hu]
  · have hd := hpos (by omega)
    subst hd
    obtain ⟨m, rfl⟩ : ∃ m, n = m + 1 := ⟨n - 1, by omega⟩
    have hlen : (Builtin.zeroCells z.cells (m + 1)).toList.length = (m + 1) * size := by rw [Array.length_toList, size_zeroCells, hz]
    have hone : ∀ v ∈ (Builtin.zeroCells z.cells (m + 1)).toList, v.oneCell' = true := by
      intro v hv
      rw [Array.mem_toList_iff] at hv
      unfold Builtin.zeroCells at hv
      rw [Array.mem_map] at hv
      obtain ⟨i, hi, rfl⟩ := hv
      rw [Array.mem_range] at hi
      have hpos : 0 < z.cells.size := by
        rcases Nat.eq_zero_or_pos z.cells.size with h | h
        · rw [h] at hi; omega
        · exact h
      have hlt : i % z.cells.size < z.cells.size := Nat.mod_lt _ hpos
      rw [getElem!_pos z.cells _ hlt]
      exact hz1 _ (Array.getElem_mem hlt)
    obtain ⟨zs, hzs⟩ : ∃ zs, (Builtin.zeroCells z.cells (m + 1)).toList = zs := ⟨_, rfl⟩
    rw [hzs] at hlen hone
    have hst := run_storeCells_at P g o t zs 0 cur.toArray w hg (by rw [hlen]; simpa using hfit) hone
    refine ⟨w.setRow g (splice cur o zs).toArray, zs, ?_, hlen, Blk.setRow hg _, chg_setRow _, by simp [World.setRow]⟩
    simp [Builtin.clear_, run_underlying hu, hv, hzs, hst, splice]

/-- append within the room of a row that is known whole. -/
theorem run_append_at (t ty e : TypeId) (size : Nat) (n cap : Nat) (g : Nat) (cur : List Value) (A : Option Addr) (m c : Nat) (news : List Value)
    (hu : P.underlying t = some (.slice e)) (hs : (P.info? e).map (·.size) = some size) (hg : Blk w g e cur.toArray) (hl : news.length = m * size) (hr : Row w A news) (h1 : ∀ u ∈ news, u.oneCell' = true)
    (hroom : n + m ≤ cap) (hfit : n * size + news.length ≤ cur.length) (hsz : 0 < size) :
    ∃ w', (Builtin.append_ #[t, t] ty #[.slice (some ⟨g, 0, none⟩) n cap, .slice A m c]).run P w = .ok (.slice (some ⟨g, 0, none⟩) (n + m) cap) w' ∧ Blk w' g e (splice cur (n * size) news).toArray ∧ Chg (fun k => k = g) w w' ∧ w'.heap.size = w.heap.size := by
  cases hq : P.info? e with
  | none => simp [hq] at hs
  | some i =>
    have hi : i.size = size := by simpa [hq] using hs
    cases A with
    | none =>
      have h0 : news.length = 0 := by
        rcases Nat.eq_zero_or_pos news.length with h | h
        · exact h
        · obtain ⟨x, hx, _⟩ := hr 0 h; cases hx
      obtain rfl : news = [] := List.eq_nil_of_length_eq_zero h0
      have hm : m = 0 := by
        rcases Nat.eq_zero_or_pos m with h | h
        · exact h
        · have := Nat.mul_pos h hsz; simp at hl; omega
      subst hm
      refine ⟨w, ?_, by simpa [splice] using hg, Chg.refl _ _, rfl⟩
      have hn : n ≤ cap := by omega
      simp [Builtin.append_, run_underlying hu, sizeOf, typeInfo, hq, Builtin.lenOf, Builtin.firstCells, hn, storeCells]
    | some a =>
      have hrun := run_append_room (P := P) w t ty e i hu hq g n cap cur.toArray hg a m c news (by rw [hi]; exact hl) (fun j u hj => by
        obtain ⟨hlt, rfl⟩ := List.getElem?_eq_some_iff.1 hj
        obtain ⟨x, hx, hc⟩ := hr j hlt
        injection hx with hx
        subst hx
        rw [hc, List.getElem?_eq_getElem hlt]) h1 hroom (by rw [hi]; simpa using hfit)
      refine ⟨_, hrun, ?_, chg_setRow _, by simp [World.setRow]⟩
      rw [hi]
      simpa [splice] using Blk.setRow hg _

/-- append of k zeros past the room of a row (gc's 'append(s[:i], make(S, k)...)'): a new row. -/
theorem run_append_zeros (t tn ty e : TypeId) (k kn : IntKind) (size bytes : Nat) (z : Value) (n cap : Nat) (sp : Option Addr) (m : Nat) (xs : List Value)
    (hu : P.underlying t = some (.slice e)) (htn : P.underlying tn = some (.int kn)) (hinf : (P.info? e).map (fun i => (i.zero, i.size, i.bytes)) = some (some z, size, bytes)) (hz : z.cells.size = size) (hsz : 0 < size)
    (hx : xs.length = n * size) (hr : Row w sp xs) (hno : ¬ n + m ≤ cap) (h63 : n + m ≤ maxLen) (hbytes : (n + m) * bytes ≤ 140737488355328) (hcap : cap ≤ 4611686018427387904) (hm : 0 < m) :
    ∃ w' C rest, (Builtin.append_ #[t, tn] ty #[.slice sp n cap, .int k (m : Int)]).run P w = .ok (.slice (some ⟨w.heap.size, 0, none⟩) (n + m) C) w' ∧ n + m ≤ C ∧ C ≤ maxLen ∧
      Blk w' w.heap.size e (xs ++ rest).toArray ∧ (xs ++ rest).length = C * size ∧ Below w.heap.size w w' ∧ w'.heap.size = w.heap.size + 1 := by
  obtain ⟨i, h1, h2, h3, h4⟩ := info_parts hinf
  have hl := run_loadCells_list (P := P) w.drew
  have hold : (Builtin.firstCells i.size n (.slice sp n cap)).run P w.drew = .ok xs.toArray w.drew := by
    cases sp with
    | none =>
      have h0 : xs = [] := by
        rcases xs with _ | ⟨x, r⟩
        · rfl
        · obtain ⟨y, hy, _⟩ := hr 0 (by simp); cases hy
      subst h0
      simp [Builtin.firstCells]
    | some a =>
      have := hl a xs (fun j u hj => by
        obtain ⟨hlt, rfl⟩ := List.getElem?_eq_some_iff.1 hj
        obtain ⟨x, hx, hc⟩ := hr j hlt
        injection hx with hx
        subst hx
        show w.cell? (a.add j) = _
        rw [hc, List.getElem?_eq_getElem hlt])
      simp [Builtin.firstCells, h3, ← hx, this]
  have hb : n * bytes ≤ (n + m) * bytes := Nat.mul_le_mul_right _ (by omega)
  have hb2 : m * bytes ≤ (n + m) * bytes := Nat.mul_le_mul_right _ (by omega)
  have hfit := growslice_fits (need := n + m) (old := cap) (bytes := bytes) (by omega) hbytes
  have hrun := Lib.run_append_grow_zeros (P := P) w t tn ty e i z k kn hu htn h1 h2 sp n cap xs hold m hm (by omega) (by omega) (by unfold maxLen at h63; omega) (by rw [h4]; omega) (by rw [h4]; exact hfit)
  have hge := grownCap_ge w (n + m) cap e
  have hle := grownCap_le_maxLen w (n + m) cap e h63
  refine ⟨_, _, (Builtin.zeroCells z.cells m ++ Builtin.zeroCells z.cells (grownCap w (n + m) cap e - (n + m))).toList, hrun, hge, hle, ?_, ?_, (Below.refl _ _).drew.alloc (Nat.le_refl _) _, by simp⟩
  · have h := Blk.new w.drew e (xs.toArray ++ Builtin.zeroCells z.cells m ++ Builtin.zeroCells z.cells (grownCap w (n + m) cap e - (n + m)))
    have e1 : (xs ++ (Builtin.zeroCells z.cells m ++ Builtin.zeroCells z.cells (grownCap w (n + m) cap e - (n + m))).toList).toArray = xs.toArray ++ Builtin.zeroCells z.cells m ++ Builtin.zeroCells z.cells (grownCap w (n + m) cap e - (n + m)) := by
      apply Array.ext'
      simp
    rw [e1]
    exact h
  · simp only [List.length_append, Array.length_toList, Array.size_append, size_zeroCells, hz, hx]
    rw [← Nat.add_mul, ← Nat.add_mul]
    congr 1
    omega
end

end Go.Proofs.Ytodjibhnmibedaa
