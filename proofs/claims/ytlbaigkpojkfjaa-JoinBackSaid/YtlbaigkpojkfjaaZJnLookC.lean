/- join.Look of files that are held. -/
import Derived.Test.YtlbaigkpojkfjaaZJnLookF
set_option linter.unusedVariables false
namespace Go.Proofs.Ytlbaigkpojkfjaa.Fl
open Go.RowKit

theorem set_fits {aw dst wM : Nat} {t : Tup} {x : BitVec 64} (hwM : wM = max aw (dst + 1)) (h5 : t.length = 5) (hz : Crc.zeroW (t.drop aw) = true) : FitsW wM [t.set dst x] ∧ FitsW wM [t] := by
  have hd : Crc.zeroW (t.drop wM) = true := by
    unfold Crc.zeroW at hz ⊢
    rw [List.all_eq_true] at hz ⊢
    intro b hb
    refine hz b (List.mem_of_mem_drop (i := wM - aw) ?_)
    rw [List.drop_drop, show aw + (wM - aw) = wM from by omega]
    exact hb
  refine ⟨fun u hu => ?_, fun u hu => ?_⟩
  · rw [List.mem_singleton.1 hu]
    refine ⟨by rw [List.length_set]; exact h5, ?_⟩
    rw [List.drop_set_of_lt (by omega)]
    exact hd
  · rw [List.mem_singleton.1 hu]
    exact ⟨h5, hd⟩
theorem lkMk_fits {lb la : List Tup} {key val dst aw wM k : Nat} (hwM : wM = max aw (dst + 1)) (hf : FitsW aw la) (hk : k < la.length) : FitsW wM [lkMk lb key val dst la k] := by
  have hg : la.getD k [] = la[k] := by simp [hk]
  obtain ⟨h5, hz⟩ := hf _ (List.getElem_mem hk)
  unfold lkMk looked
  rw [hg]
  split
  · exact (set_fits (x := 0) hwM h5 hz).2
  · simp only
    split
    · exact (set_fits hwM h5 hz).1
    · exact (set_fits (x := 0) hwM h5 hz).2

section
variable {w w' : World} {O : Nat → Prop} {K : Key} {W : Wk}
theorem look_c {fa fb aw bw c0 a0 key val dst wM : Nat} {la l : List Tup} (hI : WkI w O K W) (hF : Fine W c0 a0) (hA : Held W fa aw la) (hB : Held W fb bw l) (hka : key < aw) (hvb : val < bw) (hd5 : dst < 5) (hwM : wM = max aw (dst + 1)) (hc : c0 + 200 ≤ 5000) (ha : a0 ≤ 400000000000) (hO : ∀ g, w.heap.size ≤ g → O g) :
    Calls Try.prog 23 #[P K.wk, .agg #[.int .i64 (fa : Int), .int .i64 (nB 12 aw la.length : Int), .int .i64 (aw : Int), .int .i64 (la.length : Int)], .int .i64 (key : Int), .agg #[.int .i64 (fb : Int), .int .i64 (nB 12 bw l.length : Int), .int .i64 (bw : Int), .int .i64 (l.length : Int)], .int .i64 (val : Int), .int .i64 (dst : Int)] w (EachF w O K W c0 a0 wM (made (lkMk l key val dst la) (fun _ => true) la.length) JE0 0 (fun er => er = 3 ∧ ∃ k, k < la.length ∧ (looked l key val dst (lkAt l key val dst la k) (la.getD k [])).2.2 = false)) := by
  obtain ⟨a1, a5⟩ := hA.wid
  obtain ⟨b1, b5⟩ := hB.wid
  have hfa := hA.few
  have hfb := hB.few
  have hsz := hF.size
  have hwf : ∀ k, k < la.length → FitsW wM [lkMk l key val dst la k] := fun k hk => lkMk_fits hwM hA.fits hk
  refine (lookf_go (wM := wM) (bound := la.length) (out := made (lkMk l key val dst la) (fun _ => true) la.length) (Why := fun er => er = 3 ∧ ∃ k, k < la.length ∧ (looked l key val dst (lkAt l key val dst la k) (la.getD k [])).2.2 = false) hI ⟨hka, by omega⟩ ⟨hvb, by omega⟩ hd5 hwM a5
    ⟨by omega, by omega, by omega, by omega, by rw [hsz]; exact (nB_eq (size := 12) (by omega) a1 a5).symm⟩ ⟨by omega, by omega, by omega, by omega, by rw [hsz]; exact (nB_eq (size := 12) (by omega) b1 b5).symm⟩
    (by rw [hsz, hF.used, hF.room]; omega) hO (fun w1 lb xb b d q1 q2 q3 q4 q5 hI1 hO1 hX hL => ?_)).mono ?_
  · have hlive := hX.live rfl
    have hej : ∀ q, EjL lb xb b d q → q < w1.heap.size := fun q h => by
      rcases h with e | e | e | e
      · rw [e]; exact hL.lt
      · rw [e]; exact hX.blk.lt
      · rw [e]; exact hlive.blk.lt
      · rw [e]; exact hlive.row.lt
    have hm := look_maker (K := K) (n := W.D.size) (lb := lb) (xb := xb) (b := b) (d := d) (key := key) (val := val) (dst := dst) (first := fb) (wN := bw) (l := l) (la := la) W.L (by omega) (by omega) hd5 hB.fits (fun t ht => (hA.fits t ht).1) (by omega) 5000 (.inr (by rw [hsz]; exact hB.fit)) (by have := hB.fit; omega) (fun j hj => hB.held j (by rw [hsz] at hj; exact hj))
    have hgo := each_any (W := { W with A := W.A.grant W.D.size b }) hm fa aw wM hI1 hF.sure (by show W.B ≤ W.D.blocks; rw [hF.B, hF.blocks]; exact Nat.le_refl _) a1 a5 (by omega) (by omega) (by omega) hA.fits (by show Lies W.D _ _ _ _; rw [hsz]; exact hA.lies) (.inr (by show fa + nB W.D.size aw la.length ≤ W.D.blocks; rw [hsz, hF.blocks]; exact hA.fit)) (by have := hA.fit; omega) (fun j hj => hA.held j (by have h2 : j < nB W.D.size aw la.length := hj; rw [hsz] at h2; exact h2)) (by show W.D.size + W.D.size ≤ W.A.room - (W.A.used + W.D.size); rw [hsz, hF.used, hF.room]; omega) (by show W.D.size ≤ W.A.used + W.D.size; omega) (by show W.D.acts ≤ _; have := hF.acts; omega) hO1
      ⟨rfl, hF.blocks, rfl, hej, _, hL, hX, Rd.Has.new b d _ (by show 8 ≤ W.D.size; omega) b1 (by show Lies W.D _ _ (nB W.D.size bw l.length) _; rw [hsz]; exact hB.lies), rfl, rfl, rfl, rfl⟩ hej (fun k hk _ => hwf k hk)
    have hgo' := hgo
    simp only [hsz] at hgo' ⊢
    exact hgo'
  · intro e w' h
    refine fine_each hF hI.inv h (by omega) (by omega) hfa (made_len _ _ _) (made_fits (fun k hk _ => hwf k hk)) hc
end

end Go.Proofs.Ytlbaigkpojkfjaa.Fl
