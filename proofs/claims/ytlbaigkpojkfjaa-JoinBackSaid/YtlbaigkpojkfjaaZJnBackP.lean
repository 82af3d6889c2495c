/- What JoinBack's orders cut, in plain words. -/
import Derived.Test.YtlbaigkpojkfjaaZJnJS
set_option linter.unusedVariables false
namespace Go.Proofs.Ytlbaigkpojkfjaa.Fl
open Go.RowKit

def ordO (n : Nat) : List Int := [1, if 2 ≤ n then 2 else 0, if 3 ≤ n then 3 else 0, 0, 0]
def ordP (n : Nat) : List Int := [(n : Int) + 1, 1, if 2 ≤ n then 2 else 0, if 3 ≤ n then 3 else 0, 0]
theorem ord_ok {n : Nat} (h1 : 1 ≤ n) (h3 : n ≤ 3) : cutN (n + 1) (ordO n) = some n ∧ formedO (ordO n) = true ∧ cutN (n + 1) (ordP n) = some (n + 1) ∧ formedO (ordP n) = true := by
  obtain rfl | rfl | rfl : n = 1 ∨ n = 2 ∨ n = 3 := by omega
  all_goals decide
theorem ofInt_toInt (x : BitVec 64) : BitVec.ofInt 64 x.toInt = x := BitVec.ofInt_toInt
theorem cut_back {n : Nat} (h1 : 1 ≤ n) (h3 : n ≤ 3) {t : Tup} (hf : FitsW n [t]) (v : BitVec 64) : cutT (ordO n) (t.set n v) = t := by
  obtain ⟨h5, hz⟩ := hf t (List.mem_singleton.2 rfl)
  match t, h5 with
  | [a, b, c, d, e], _ =>
    obtain rfl | rfl | rfl : n = 1 ∨ n = 2 ∨ n = 3 := by omega
    · simp [Crc.zeroW] at hz
      obtain ⟨rfl, rfl, rfl, rfl⟩ := hz
      simp [cutT, cutO, cgo, ordO, BitVec.ofInt_toInt]
    · simp [Crc.zeroW] at hz
      obtain ⟨rfl, rfl, rfl⟩ := hz
      simp [cutT, cutO, cgo, ordO, BitVec.ofInt_toInt]
    · simp [Crc.zeroW] at hz
      obtain ⟨rfl, rfl⟩ := hz
      simp [cutT, cutO, cgo, ordO, BitVec.ofInt_toInt]
theorem cut_num {n : Nat} (h1 : 1 ≤ n) (h3 : n ≤ 3) {t : Tup} (h5 : t.length = 5) (v : BitVec 64) : (cutT (ordP n) (t.set n v)).getD 0 0#64 = v ∧ (cutT (ordP n) (t.set n v)).getD n 0#64 = t.getD (n - 1) 0#64 ∧ (cutT (ordP n) (t.set n v)).length = 5 := by
  match t, h5 with
  | [a, b, c, d, e], _ =>
    obtain rfl | rfl | rfl : n = 1 ∨ n = 2 ∨ n = 3 := by omega
    all_goals simp [cutT, cutO, cgo, ordP, BitVec.ofInt_toInt]
section
variable {la : List Tup} {n : Nat}
def backX (la : List Tup) (n : Nat) : List Tup := numL la n 5
def backZ (la : List Tup) (n : Nat) : List Tup := (backX la n).map (cutT (ordP n))
def backU (la : List Tup) (n : Nat) : List Tup := made (lkMk (backZ la n) 0 n (n + 1) (backZ la n)) (fun _ => true) (backZ la n).length
theorem backX_at {k : Nat} (hk : k < la.length) : (backX la n).getD k [] = la[k].set n (BitVec.ofInt 64 (5 + (k : Int))) := by
  unfold backX numL
  rw [List.getD_eq_getElem?_getD, List.getElem?_map, List.getElem?_range hk]
  show numT la n 5 k = _
  unfold numT
  congr 1
  simp [hk]
theorem backX_len : (backX la n).length = la.length := numL_len _ _ _
theorem backZ_len : (backZ la n).length = la.length := by unfold backZ; rw [List.length_map, backX_len]
theorem backU_len : (backU la n).length = la.length := by unfold backU; rw [made_all, List.length_map, List.length_range, backZ_len]
theorem backY (h1 : 1 ≤ n) (h3 : n ≤ 3) (hf : FitsW n la) : (backX la n).map (cutT (ordO n)) = la := by
  refine List.ext_getElem (by rw [List.length_map, backX_len]) (fun k hk1 hk2 => ?_)
  rw [List.getElem_map]
  have h := backX_at (n := n) hk2
  rw [List.getD_eq_getElem?_getD, List.getElem?_eq_getElem (by rw [backX_len]; exact hk2)] at h
  rw [show (backX la n)[k]'(by rw [backX_len]; exact hk2) = la[k].set n (BitVec.ofInt 64 (5 + (k : Int))) from h]
  exact cut_back h1 h3 (fun t ht => hf t (by rw [List.mem_singleton.1 ht]; exact List.getElem_mem hk2)) _
theorem backZ_at (h1 : 1 ≤ n) (h3 : n ≤ 3) (hf : FitsW n la) {k : Nat} (hk : k < la.length) : ((backZ la n).getD k []).getD 0 0#64 = BitVec.ofInt 64 (5 + (k : Int)) ∧ ((backZ la n).getD k []).getD n 0#64 = la[k].getD (n - 1) 0#64 ∧ ((backZ la n).getD k []).length = 5 := by
  have h := backX_at (n := n) hk
  have hz : (backZ la n).getD k [] = cutT (ordP n) (la[k].set n (BitVec.ofInt 64 (5 + (k : Int)))) := by
    unfold backZ
    rw [List.getD_eq_getElem?_getD, List.getElem?_map, List.getElem?_eq_getElem (by rw [backX_len]; exact hk)]
    rw [List.getD_eq_getElem?_getD, List.getElem?_eq_getElem (by rw [backX_len]; exact hk)] at h
    show cutT (ordP n) ((backX la n)[k]'(by rw [backX_len]; exact hk)) = _
    rw [show (backX la n)[k]'(by rw [backX_len]; exact hk) = la[k].set n (BitVec.ofInt 64 (5 + (k : Int))) from h]
  rw [hz]
  exact cut_num h1 h3 (hf _ (List.getElem_mem hk)).1 _
theorem toInt_small {k : Nat} (hk : k ≤ 1000) : (BitVec.ofInt 64 (5 + (k : Int))).toInt = 5 + (k : Int) := by
  rw [BitVec.toInt_ofInt]
  exact Int.bmod_eq_of_le (by omega) (by omega)
theorem backZ_key (h1 : 1 ≤ n) (h3 : n ≤ 3) (hf : FitsW n la) (hl : la.length ≤ 200) : ∀ k, k < (backZ la n).length → col ((backZ la n).getD k []) 0 = 5 + k := fun k hk => by
  rw [backZ_len] at hk
  unfold col
  rw [(backZ_at h1 h3 hf hk).1]
  exact toInt_small (by omega)
theorem backU_good (h1 : 1 ≤ n) (h3 : n ≤ 3) (hf : FitsW n la) (hl : la.length ≤ 200) : ¬ ∃ k, k < (backZ la n).length ∧ (looked (backZ la n) 0 n (n + 1) (lkAt (backZ la n) 0 n (n + 1) (backZ la n) k) ((backZ la n).getD k [])).2.2 = false := fun ⟨k, hk, h⟩ => by
  have hkey := backZ_key h1 h3 hf hl
  rw [looked_own hkey hk (lkAt_own hkey k (by omega))] at h
  cases h
theorem backU_at (h1 : 1 ≤ n) (h3 : n ≤ 3) (hf : FitsW n la) (hl : la.length ≤ 200) {k : Nat} (hk : k < la.length) : col ((backU la n).getD k []) 0 = 5 + k ∧ col ((backU la n).getD k []) (n + 1) = col la[k] (n - 1) ∧ ((backU la n).getD k []).length = 5 := by
  have hkey := backZ_key h1 h3 hf hl
  obtain ⟨z0, zn, z5⟩ := backZ_at h1 h3 hf hk
  have hu : (backU la n).getD k [] = ((backZ la n).getD k []).set (n + 1) (((backZ la n).getD k []).getD n 0#64) := by
    unfold backU
    rw [made_all, List.getD_eq_getElem?_getD, List.getElem?_map, List.getElem?_range (by rw [backZ_len]; exact hk)]
    exact lkMk_own hkey (by rw [backZ_len]; exact hk)
  rw [hu]
  refine ⟨?_, ?_, by rw [List.length_set]; exact z5⟩
  · unfold col
    rw [List.getD_eq_getElem?_getD, List.getElem?_set_ne (by omega), ← List.getD_eq_getElem?_getD, z0]
    exact toInt_small (by omega)
  · unfold col
    rw [List.getD_eq_getElem?_getD, List.getElem?_set_self (by omega)]
    show (((backZ la n).getD k []).getD n 0#64).toInt = _
    rw [zn]
end

end Go.Proofs.Ytlbaigkpojkfjaa.Fl
