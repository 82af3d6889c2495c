/- FilePlays: a file's cells in the law's row; readers' rows. -/
import Derived.Test.YtmmkncocgjgapaaZFpRead
import Derived.Test.YtmmkncocgjgapaaZFpW1
set_option linter.unusedVariables false
namespace Go.Proofs.Ytmmkncocgjgapaa.Fp
open Go.RowKit Fl

section
variable {w w' : World} {K : Key} {S : PS} {st : Nat} {V : Nat → Value} {C : Nat → List Value} {n : Nat → Nat} {ob xb : Nat} {oc xc : Array Value} {xt : TypeId}
theorem flat4 {l : List FE} {k : Nat} {f : FE} (h : l[k]? = some f) (j : Nat) (hj : j < 4) : (l.flatMap fun f => (fcells f.first f.blocks f.width f.l.length).toList)[k * 4 + j]? = (fcells f.first f.blocks f.width f.l.length).toList[j]? := by
  induction l generalizing k with
  | nil => cases h
  | cons a l ih =>
    rw [List.flatMap_cons]
    cases k with
    | zero =>
      injection h with h
      subst h
      rw [List.getElem?_append_left (by simp [fcells]; omega)]
      congr 1
      omega
    | succ k =>
      rw [List.getElem?_append_right (by simp [fcells]; omega)]
      have h : l[k]? = some f := h
      rw [← ih h]
      congr 1
      simp [fcells]
      omega
theorem Fx.file (h : Fx K st V C n ob oc xb xt xc w) {kn : Nat} {f : FE} (hC : C 6 = S.C 6) (hn : n 6 = S.fs.length) (hf : S.fs[kn]? = some f) :
    ∃ g c, V 6 = .slice (some ⟨g, 0, none⟩) S.fs.length c ∧ ∀ w', Fx K st V C n ob oc xb xt xc w' → w'.cell? ⟨st, 6, none⟩ = some (.slice (some ⟨g, 0, none⟩) S.fs.length c) ∧
      w'.cell? ⟨g, kn * 4, none⟩ = some (.int .i64 (f.first : Int)) ∧ w'.cell? ⟨g, kn * 4 + 1, none⟩ = some (.int .i64 (f.blocks : Int)) ∧ w'.cell? ⟨g, kn * 4 + 2, none⟩ = some (.int .i64 (f.width : Int)) ∧ w'.cell? ⟨g, kn * 4 + 3, none⟩ = some (.int .i64 (f.l.length : Int)) := by
  obtain ⟨hl, -⟩ := List.getElem?_eq_some_iff.1 hf
  obtain ⟨g, c, v, -⟩ := h.1.form (i := 6) (by omega) (by omega) (by omega)
  rw [hn] at v
  have hat : ∀ w', Fx K st V C n ob oc xb xt xc w' → ∀ j, j < 4 → w'.cell? ⟨g, kn * 4 + j, none⟩ = (fcells f.first f.blocks f.width f.l.length).toList[j]? := fun w' hF j hj => by
    rw [hF.1.at_ (i := 6) (by omega) (by omega) v (k := kn * 4 + j) (by rw [hn]; show kn * 4 + j < S.fs.length * 4; omega), hC]
    exact flat4 hf j hj
  exact ⟨g, c, v, fun w' hF => ⟨(hF.1.blk.cell 6).trans (congrArg some v), hat w' hF 0 (by omega), hat w' hF 1 (by omega), hat w' hF 2 (by omega), hat w' hF 3 (by omega)⟩⟩
theorem flat_same {l : List FE} {k : Nat} {f f2 : FE} (h : l[k]? = some f) (g : FE → List Value) (hg : g f2 = g f) : (l.set k f2).flatMap g = l.flatMap g := by
  rw [List.flatMap_def, List.flatMap_def, map_same h g hg]
theorem fs_rows {kn : Nat} {f : FE} (hk : S.fs[kn]? = some f) (i : Nat) (h1 : 1 ≤ i) (h2 : i ≤ 12) : put_ S.C 8 ((S.C 8).set kn (Value.bool true)) i = (S.setF kn { f with freed := true }).C i ∧ S.n i = (S.setF kn { f with freed := true }).n i := by
  have hi : i = 1 ∨ i = 2 ∨ i = 3 ∨ i = 4 ∨ i = 5 ∨ i = 6 ∨ i = 7 ∨ i = 8 ∨ i = 9 ∨ i = 10 ∨ i = 11 ∨ i = 12 := by omega
  refine ⟨?_, by unfold PS.n PS.setF; split <;> simp⟩
  rcases hi with rfl | rfl | rfl | rfl | rfl | rfl | rfl | rfl | rfl | rfl | rfl | rfl
  · rfl
  · rfl
  · rfl
  · rfl
  · rfl
  · exact (flat_same (f2 := { f with freed := true }) hk (fun f => (fcells f.first f.blocks f.width f.l.length).toList) rfl).symm
  · exact (map_same (y := { f with freed := true }) hk (fun f => f.hv) rfl).symm
  · show (S.fs.map _).set kn (Value.bool true) = (S.fs.set kn _).map _
    rw [map_set_]
  all_goals rfl
theorem rd_rows {kn : Nat} {e : RE} {Y' : Fl.Rd} (hk : S.rs[kn]? = some e) (i : Nat) (h1 : 1 ≤ i) (h2 : i ≤ 12) : put_ S.C 12 ((S.C 12).set kn (Value.bool false)) i = (S.setR kn { e with Y := Y', rd := false }).C i ∧ S.n i = (S.setR kn { e with Y := Y', rd := false }).n i := by
  have hi : i = 1 ∨ i = 2 ∨ i = 3 ∨ i = 4 ∨ i = 5 ∨ i = 6 ∨ i = 7 ∨ i = 8 ∨ i = 9 ∨ i = 10 ∨ i = 11 ∨ i = 12 := by omega
  refine ⟨?_, by unfold PS.n PS.setR; split <;> simp⟩
  rcases hi with rfl | rfl | rfl | rfl | rfl | rfl | rfl | rfl | rfl | rfl | rfl | rfl
  · rfl
  · rfl
  · rfl
  · rfl
  · rfl
  · rfl
  · rfl
  · rfl
  · exact (map_same (y := { e with Y := Y', rd := false }) hk (fun e : RE => P e.y) rfl).symm
  · exact (map_same (y := { e with Y := Y', rd := false }) hk (fun e : RE => Value.int .i64 (e.file : Int)) rfl).symm
  · exact (map_same (y := { e with Y := Y', rd := false }) hk (fun e : RE => Value.int .i64 (e.at_ : Int)) rfl).symm
  · show (S.rs.map _).set kn (Value.bool false) = (S.rs.set kn _).map _
    rw [map_set_]
theorem at_rows {kn : Nat} {e : RE} {Y' : Fl.Rd} (hk : S.rs[kn]? = some e) (i : Nat) (h1 : 1 ≤ i) (h2 : i ≤ 12) : put_ S.C 11 ((S.C 11).set kn (Value.int .i64 ((e.at_ + 1 : Nat) : Int))) i = (S.setR kn { e with Y := Y', at_ := e.at_ + 1 }).C i ∧ S.n i = (S.setR kn { e with Y := Y', at_ := e.at_ + 1 }).n i := by
  have hi : i = 1 ∨ i = 2 ∨ i = 3 ∨ i = 4 ∨ i = 5 ∨ i = 6 ∨ i = 7 ∨ i = 8 ∨ i = 9 ∨ i = 10 ∨ i = 11 ∨ i = 12 := by omega
  refine ⟨?_, by unfold PS.n PS.setR; split <;> simp⟩
  rcases hi with rfl | rfl | rfl | rfl | rfl | rfl | rfl | rfl | rfl | rfl | rfl | rfl
  · rfl
  · rfl
  · rfl
  · rfl
  · rfl
  · rfl
  · rfl
  · rfl
  · exact (map_same (y := { e with Y := Y', at_ := e.at_ + 1 }) hk (fun e : RE => P e.y) rfl).symm
  · exact (map_same (y := { e with Y := Y', at_ := e.at_ + 1 }) hk (fun e : RE => Value.int .i64 (e.file : Int)) rfl).symm
  · show (S.rs.map _).set kn _ = (S.rs.set kn _).map _
    rw [map_set_]
  · exact (map_same (y := { e with Y := Y', at_ := e.at_ + 1 }) hk (fun e : RE => Value.bool e.rd) rfl).symm
end

end Go.Proofs.Ytmmkncocgjgapaa.Fp
