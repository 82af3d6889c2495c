/- join.Cut of a file that is held. -/
import Derived.Test.YtlbaigkpojkfjaaZJnCut
set_option linter.unusedVariables false
namespace Go.Proofs.Ytlbaigkpojkfjaa.Fl
open Go.RowKit

theorem fgo_true_zero : ∀ (ks : List Int) (sn : List Bool), fgo true sn ks = true → ∀ k ∈ ks, k = 0
  | [], _, _ => fun k hk => by cases hk
  | k :: ks, sn, h => by
    unfold fgo at h
    split at h
    · cases h
    · rename_i hn
      have hk0 : k = 0 := by
        rcases Classical.em (k = 0) with h0 | h0
        · exact h0
        · exact absurd (.inl ⟨rfl, h0⟩) hn
      rw [if_pos hk0] at h
      intro x hx
      rcases List.mem_cons.1 hx with e | hx
      · rw [e]; exact hk0
      · exact fgo_true_zero ks sn h x hx
theorem fgo_range : ∀ (ks : List Int) (b : Bool) (sn : List Bool), fgo b sn ks = true → ∀ k ∈ ks, -5 ≤ k ∧ k ≤ 5
  | [], _, _, _ => fun k hk => by cases hk
  | k :: ks, b, sn, h => by
    unfold fgo at h
    split at h
    · cases h
    · rename_i hn
      have hk : -5 ≤ k ∧ k ≤ 5 := ⟨by rcases Int.lt_or_le k (-5) with h1 | h1; exact absurd (.inr (.inl h1)) hn; exact h1, by rcases Int.lt_or_le 5 k with h1 | h1; exact absurd (.inr (.inr h1)) hn; exact h1⟩
      intro x hx
      rcases List.mem_cons.1 hx with e | hx
      · rw [e]; exact hk
      · split at h
        · exact fgo_range ks _ _ h x hx
        · split at h
          · cases h
          · exact fgo_range ks _ _ h x hx
theorem cgo_zero (t : List Int) (wN : Nat) : ∀ (ks : List Int) (i : Nat) (acc : List Int) (n n' : Nat) (b : Bool) (sn : List Bool), fgo b sn ks = true → wgo wN n ks = some n' → (b = false → n = i) → (∀ j, n ≤ j → acc.getD j 0 = 0) → ∀ j, n' ≤ j → (cgo t i acc ks).getD j 0 = 0
  | [], i, acc, n, n', b, sn, _, hw, _, ha => by
    unfold wgo at hw
    injection hw with hw
    subst hw
    exact ha
  | k :: ks, i, acc, n, n', b, sn, hf, hw, hb, ha => by
    unfold fgo at hf
    unfold wgo at hw
    unfold cgo
    split at hf
    · cases hf
    · rename_i hn
      by_cases hk : k = 0
      · rw [if_pos hk] at hf hw ⊢
        exact cgo_zero t wN ks (i + 1) acc n n' true sn hf hw (fun h => by cases h) ha
      · rw [if_neg hk] at hf hw ⊢
        have hbf : b = false := by
          cases b with
          | false => rfl
          | true => exact absurd (.inl ⟨rfl, hk⟩) hn
        have hni := hb hbf
        split at hf
        · cases hf
        · split at hw
          · refine cgo_zero t wN ks (i + 1) _ (n + 1) n' b _ hf hw (fun _ => by omega) (fun j hj => ?_)
            rw [List.getD_eq_getElem?_getD, List.getElem?_set_ne (by omega), ← List.getD_eq_getElem?_getD]
            exact ha j (by omega)
          · cases hw
theorem wgo_le (wN : Nat) : ∀ (ks : List Int) (n n' : Nat), wgo wN n ks = some n' → n' ≤ n + ks.length
  | [], n, n', h => by
    unfold wgo at h
    injection h with h
    simp; omega
  | k :: ks, n, n', h => by
    unfold wgo at h
    rw [List.length_cons]
    split at h
    · have := wgo_le wN ks n n' h; omega
    · split at h
      · have := wgo_le wN ks (n + 1) n' h; omega
      · cases h
theorem cutT_fits {wN n : Nat} {o : List Int} {t : Tup} (hf : formedO o = true) (hn : cutN wN o = some n) : FitsW n [cutT o t] := fun u hu => by
  rw [List.mem_singleton.1 hu]
  have hlen : (cutT o t).length = 5 := by unfold cutT; rw [List.length_map]; exact cutO_len _ _
  refine ⟨hlen, ?_⟩
  have hz := cgo_zero (t.map BitVec.toInt) wN o 0 [0, 0, 0, 0, 0] 0 n false [false, false, false, false, false, false] hf hn (fun _ => rfl) (fun j _ => by
    rw [List.getD_eq_getElem?_getD]
    match j with
    | 0 => rfl
    | 1 => rfl
    | 2 => rfl
    | 3 => rfl
    | 4 => rfl
    | j + 5 => rfl)
  unfold Crc.zeroW
  rw [List.all_eq_true]
  intro b hb
  obtain ⟨j, hj, rfl⟩ := List.getElem_of_mem hb
  rw [List.getElem_drop]
  have h1 := hz (n + j) (by omega)
  rw [List.length_drop] at hj
  have hl := cutO_len (t.map BitVec.toInt) o
  rw [List.getD_eq_getElem?_getD, List.getElem?_eq_getElem (by show n + j < (cutO _ _).length; omega)] at h1
  simp only [Option.getD_some] at h1
  unfold cutT
  rw [List.getElem_map]
  show (BitVec.ofInt 64 ((cutO (t.map BitVec.toInt) o)[n + j]) == 0) = true
  have h2 : (cutO (t.map BitVec.toInt) o)[n + j]'(by omega) = 0 := h1
  rw [h2]
  rfl

section
variable {w w' : World} {O : Nat → Prop} {K : Key} {W : Wk}
theorem cut_c {first wN c0 a0 : Nat} {l : List Tup} {o0 o1 o2 o3 o4 : Int} (hI : WkI w O K W) (hF : Fine W c0 a0) (hH : Held W first wN l) (hb : ∀ k ∈ [o0, o1, o2, o3, o4], -9223372036854775808 ≤ k ∧ k < 9223372036854775808) (hc : c0 + 200 ≤ 5000) (ha : a0 ≤ 400000000000) (hO : ∀ g, w.heap.size ≤ g → O g) :
    Calls Try.prog 21 #[P K.wk, .agg #[.int .i64 (first : Int), .int .i64 (nB 12 wN l.length : Int), .int .i64 (wN : Int), .int .i64 (l.length : Int)], .agg #[.int .i64 o0, .int .i64 o1, .int .i64 o2, .int .i64 o3, .int .i64 o4]] w (fun e w' =>
      ((cutN wN [o0, o1, o2, o3, o4] = none ∨ formedO [o0, o1, o2, o3, o4] = false ∨ cutN wN [o0, o1, o2, o3, o4] = some 0) ∧ e = .returned (.tuple #[.agg noFile, .int .i64 1]) ∧ Below w.heap.size w w') ∨
      (∃ n, cutN wN [o0, o1, o2, o3, o4] = some n ∧ 0 < n ∧ formedO [o0, o1, o2, o3, o4] = true ∧ EachF w O K W c0 a0 n (l.map (cutT [o0, o1, o2, o3, o4])) JE0 0 (fun _ => False) e w')) := by
  obtain ⟨n1, n5⟩ := hH.wid
  have hfew := hH.few
  have hmd : made (fun k => cutT [o0, o1, o2, o3, o4] (l.getD k [])) (fun _ => true) l.length = l.map (cutT [o0, o1, o2, o3, o4]) := by
    rw [made_all]
    refine List.ext_getElem (by simp) (fun i h1 h2 => ?_)
    have h3 : i < l.length := by simpa using h2
    simp [h3]
  refine (cut_any (bound := l.length) (out := l.map (cutT [o0, o1, o2, o3, o4])) hI n5 hb (fun hfo n hn hpos w1 hb1 => ?_)).mono ?_
  · have hn5 : n ≤ 5 := by have := wgo_le wN _ 0 n hn; simpa using this
    have hm : Rich 45 (.agg #[.int .i64 o0, .int .i64 o1, .int .i64 o2, .int .i64 o3, .int .i64 o4]) K W.L (fun _ => False) 0 (fun k m w _ _ => m = 0 ∧ True) JE0 (fun _ => False) l (fun k => cutT [o0, o1, o2, o3, o4] (l.getD k [])) (fun _ => true) := (cut_maker hfo (fgo_range _ _ _ hfo) (fun t ht => (hH.fits t ht).1)).rich W.L
    have hgo := each_any hm first wN n (hI.below hb1) hF.sure (by rw [hF.B, hF.blocks]; exact Nat.le_refl _) n1 n5 hpos hn5 (by omega) hH.fits (by rw [hF.size]; exact hH.lies) (.inr (by rw [hF.size, hF.blocks]; exact hH.fit)) (by have := hH.fit; omega) (fun j hj => hH.held j (by rw [hF.size] at hj; exact hj)) (by rw [hF.size, hF.used, hF.room]; omega) (Nat.zero_le _) (by have := hF.acts; omega) (fun g hg => hO g (by have := hb1.size; omega)) ⟨rfl, trivial⟩ (fun g hg => hg.elim) (fun k hk _ => cutT_fits hfo hn)
    rw [hF.size, hmd] at hgo
    exact hgo
  · rintro e w' (h | ⟨n, hn, hpos, hfo, h⟩)
    · exact .inl h
    · refine .inr ⟨n, hn, hpos, hfo, ?_⟩
      have hn5 : n ≤ 5 := by have := wgo_le wN _ 0 n hn; simpa using this
      refine fine_each hF hI.inv h hpos hn5 hfew (by simp) ?_ hc
      intro t ht
      obtain ⟨u, _, rfl⟩ := List.mem_map.1 ht
      exact cutT_fits hfo hn _ (List.mem_singleton.2 rfl)
end

end Go.Proofs.Ytlbaigkpojkfjaa.Fl
