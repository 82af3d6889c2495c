/- FileApart: three writers side by side. -/
import Derived.Test.YtmmkncocgjgapaaZFlOpen
import Derived.Test.YtmmkncocgjgapaaK11
import Derived.Test.YtmmkncocgjgapaaZReg3
set_option linter.unusedVariables false
namespace Go.Proofs.Ytmmkncocgjgapaa.Fl
open Go.RowKit

section
variable {w w' : World} {O O' : Nat → Prop} {K : Key} {W W' : Wk} {E : Nat → Prop}
theorem BufAt.turn' {buf arr : Nat} {ws : List (BitVec 64)} (h : BufAt w O W buf arr ws) (hI : WkI w O K W) (ht : Turn K E w w') (h1 : ¬ E buf) (h2 : ¬ E arr) (hO : ∀ g, g < w.heap.size → O' g → O g) (hs : W'.D.size = W.D.size) (hst : ∀ p ∈ W.A.st, p.1 = buf → p ∈ W'.A.st) : BufAt w' O' W' buf arr ws := by
  have hb := h.turn (O' := O) (W' := W') hI ht h1 h2 (fun _ h => h) hs hst
  exact ⟨hb.blk, hb.row, hb.len, fun ho => h.out (hO _ h.row.lt ho), hb.st⟩
theorem WrAt.turn' {x : Nat} {X : Wr} (h : WrAt w O K W x X) (hI : WkI w O K W) (ht : Turn K E w w') (h0 : ¬ E x) (h1 : X.closed = false → ¬ E X.buf) (h2 : X.closed = false → ¬ E X.arr) (hO : ∀ g, g < w.heap.size → O' g → O g) (hs : W'.D.size = W.D.size) (hst : ∀ p ∈ W.A.st, p.1 = X.buf → p ∈ W'.A.st) : WrAt w' O' K W' x X :=
  ⟨hI.blk ht h.blk (by decide) (by decide) (by decide) (by decide) (by decide) h0, fun hc => (h.live hc).turn' hI ht (h1 hc) (h2 hc) hO hs hst, h.width, h.bound, h.lies⟩
theorem RdAt.turn' {x : Nat} {X : Rd} (h : RdAt w O K W x X) (hI : WkI w O K W) (ht : Turn K E w w') (h0 : ¬ E x) (h1 : X.closed = false → ¬ E X.buf) (h2 : X.closed = false → ¬ E X.arr) (hO : ∀ g, g < w.heap.size → O' g → O g) (hs : W'.D.size = W.D.size) (hst : ∀ p ∈ W.A.st, p.1 = X.buf → p ∈ W'.A.st) : RdAt w' O' K W' x X :=
  ⟨hI.blk ht h.blk (by decide) (by decide) (by decide) (by decide) (by decide) h0, fun hc => (h.live hc).turn' hI ht (h1 hc) (h2 hc) hO hs hst, h.width, h.count⟩
end

/-- A device of this law. -/
structure Calm9 (D : Dev.Dv) (a : Nat) : Prop where
  sure : Sure D
  fault : D.fault = -1
  size : D.size = 9
  blocks : D.blocks = 900
  acts : D.acts ≤ a
theorem Calm9.goes {D D' : Dev.Dv} {a n : Nat} (h : Calm9 D a) (hg : Goes D D' n) : Calm9 D' (a + n) := ⟨hg.sure h.sure, hg.fault h.fault, hg.size.trans h.size, hg.blocks.trans h.blocks, by rw [hg.acts]; have := h.acts; omega⟩
theorem Calm9.mono {D : Dev.Dv} {a b : Nat} (h : Calm9 D a) (hb : a ≤ b) : Calm9 D b := ⟨h.sure, h.fault, h.size, h.blocks, Nat.le_trans h.acts hb⟩

structure Tri (w : World) (O : Nat → Prop) (K : Key) (W : Wk) (len : Nat) (xs : Nat → Nat) (X : Nat → Wr) (ps : Nat → List Tup) (lo hi : Nat) : Prop where
  at_ : ∀ k, lo ≤ k → k < hi → WrAt w O K W (xs k) (X k)
  cl : ∀ k, lo ≤ k → k < hi → (X k).closed = false
  has : ∀ k, lo ≤ k → k < hi → (X k).Has W.D (ps k)
  wid : ∀ k, lo ≤ k → k < hi → (X k).width = 3 ∧ (X k).bound = len ∧ (X k).blocks = nB 9 3 len ∧ (X k).first = k * nB 9 3 len
  ne : ∀ j k, lo ≤ j → j < hi → lo ≤ k → k < hi → j ≠ k → xs j ≠ xs k ∧ (X j).buf ≠ (X k).buf ∧ (X j).arr ≠ (X k).arr
  low : ∀ k, lo ≤ k → k < hi → K.base ≤ xs k ∧ K.base ≤ (X k).buf ∧ K.base ≤ (X k).arr

section
variable {w w' : World} {O O' : Nat → Prop} {K : Key} {W W' : Wk} {E : Nat → Prop} {len lo hi : Nat} {xs : Nat → Nat} {X : Nat → Wr} {ps : Nat → List Tup}
/-- What is none of the writers' turns. -/
theorem Tri.frame (h : Tri w O K W len xs X ps lo hi) (hI : WkI w O K W) (ht : Turn K E w w') (hE : ∀ k, lo ≤ k → k < hi → ¬ E (xs k) ∧ ¬ E (X k).buf ∧ ¬ E (X k).arr) (hO : ∀ g, g < w.heap.size → O' g → O g) (hs : W'.D.size = W.D.size) (hst : ∀ p ∈ W.A.st, (∃ k, lo ≤ k ∧ k < hi ∧ p.1 = (X k).buf) → p ∈ W'.A.st)
    (hn : ∀ k, lo ≤ k → k < hi → ∀ j, j < (X k).at_ → W'.D.now (((X k).first + j : Nat) : Int) = W.D.now (((X k).first + j : Nat) : Int)) : Tri w' O' K W' len xs X ps lo hi :=
  ⟨fun k h1 h2 => (h.at_ k h1 h2).turn' hI ht (hE k h1 h2).1 (fun _ => (hE k h1 h2).2.1) (fun _ => (hE k h1 h2).2.2) hO hs (fun p hp e => hst p hp ⟨k, h1, h2, e⟩), h.cl, fun k h1 h2 => (h.has k h1 h2).stay hs (hn k h1 h2), h.wid, h.ne, h.low⟩
theorem Tri.below (h : Tri w O K W len xs X ps lo hi) (hI : WkI w O K W) (hb : Below w.heap.size w w') : Tri w' O K W len xs X ps lo hi :=
  h.frame (E := fun _ => False) hI (Turn.below hb) (fun _ _ _ => ⟨fun h => h, fun h => h, fun h => h⟩) (fun _ _ h => h) rfl (fun _ h _ => h) (fun _ _ _ _ _ => rfl)
theorem Tri.sub (h : Tri w O K W len xs X ps lo hi) {lo' hi' : Nat} (h1 : lo ≤ lo') (h2 : hi' ≤ hi) : Tri w O K W len xs X ps lo' hi' :=
  ⟨fun k a b => h.at_ k (by omega) (by omega), fun k a b => h.cl k (by omega) (by omega), fun k a b => h.has k (by omega) (by omega), fun k a b => h.wid k (by omega) (by omega), fun j k a b c d => h.ne j k (by omega) (by omega) (by omega) (by omega), fun k a b => h.low k (by omega) (by omega)⟩
/-- The blocks of one writer are none of another one's. -/
theorem Tri.other (h : Tri w O K W len xs X ps lo hi) {j k : Nat} (j1 : lo ≤ j) (j2 : j < hi) (k1 : lo ≤ k) (k2 : k < hi) (hjk : j ≠ k) : ¬ Own (xs k) (X k) (xs j) ∧ ¬ Own (xs k) (X k) (X j).buf ∧ ¬ Own (xs k) (X k) (X j).arr := by
  obtain ⟨n1, n2, n3⟩ := h.ne j k j1 j2 k1 k2 hjk
  have aj := h.at_ j j1 j2
  have ak := h.at_ k k1 k2
  have bj := aj.live (h.cl j j1 j2)
  have bk := ak.live (h.cl k k1 k2)
  refine ⟨?_, ?_, ?_⟩
  · rintro (e | e | e)
    · exact n1 e
    · exact aj.blk.ne_ bk.blk (by decide) e
    · exact aj.blk.ne_ bk.row (by decide) e
  · rintro (e | e | e)
    · exact bj.blk.ne_ ak.blk (by decide) e
    · exact n2 e
    · exact bj.blk.ne_ bk.row (by decide) e
  · rintro (e | e | e)
    · exact bj.row.ne_ ak.blk (by decide) e
    · exact bj.row.ne_ bk.blk (by decide) e
    · exact n3 e
theorem Tri.at_le (h : Tri w O K W len xs X ps lo hi) (h9 : W.D.size = 9) {k : Nat} (k1 : lo ≤ k) (k2 : k < hi) : (X k).at_ ≤ nB 9 3 len := by
  have hok := (h.has k k1 k2).ok
  obtain ⟨a1, a2, a3, a4⟩ := h.wid k k1 k2
  rw [h9] at hok
  have := hok.at_le' (by omega) (by omega) (by omega)
  omega
/-- Ranges of different writers don't meet. -/
theorem range_ne {n j k a b : Nat} (hjk : j ≠ k) (ha : a < n) (hb : b < n) : j * n + a ≠ k * n + b := by
  intro e
  rcases Nat.lt_or_gt_of_ne hjk with h | h
  · have : (j + 1) * n ≤ k * n := Nat.mul_le_mul_right _ h
    rw [Nat.add_mul] at this
    omega
  · have : (k + 1) * n ≤ j * n := Nat.mul_le_mul_right _ h
    rw [Nat.add_mul] at this
    omega

/-- Writer k goes on. -/
theorem Tri.step (h : Tri w O K W len xs X ps lo hi) (hI : WkI w O K W) (h9 : W.D.size = 9) {k : Nat} (k1 : lo ≤ k) (k2 : k < hi) {Y : Wr} {q : List Tup} (ht : Turn K (Own (xs k) (X k)) w w') (hs : W'.D.size = W.D.size) (hst : ∀ p ∈ W.A.st, p ∈ W'.A.st)
    (hat : WrAt w' O K W' (xs k) Y) (hcl : Y.closed = false) (hhas : Y.Has W'.D q) (hw : Y.width = 3 ∧ Y.bound = len ∧ Y.blocks = nB 9 3 len ∧ Y.first = k * nB 9 3 len) (hbuf : Y.buf = (X k).buf ∧ Y.arr = (X k).arr)
    (hn : ∀ i : Int, (∀ j, (X k).at_ ≤ j → j < Y.at_ → i ≠ (((X k).first + j : Nat) : Int)) → W'.D.now i = W.D.now i) : Tri w' O K W' len xs (fun j => if j = k then Y else X j) (fun j => if j = k then q else ps j) lo hi := by
  have hYat : Y.at_ ≤ nB 9 3 len := by
    have hok := hhas.ok
    rw [hs, h9] at hok
    have := hok.at_le' (by omega) (by omega) (by omega)
    omega
  have hoth : ∀ j, lo ≤ j → j < hi → j ≠ k → WrAt w' O K W' (xs j) (X j) ∧ (X j).Has W'.D (ps j) := fun j j1 j2 hjk => by
    obtain ⟨o1, o2, o3⟩ := h.other j1 j2 k1 k2 hjk
    refine ⟨(h.at_ j j1 j2).turn' hI ht o1 (fun _ => o2) (fun _ => o3) (fun _ _ h => h) hs (fun p hp _ => hst p hp), (h.has j j1 j2).stay hs (fun i hi => hn _ (fun j' _ hj' e => ?_))⟩
    have e' : (X j).first + i = (X k).first + j' := by omega
    rw [(h.wid j j1 j2).2.2.2, (h.wid k k1 k2).2.2.2] at e'
    exact range_ne hjk (by have := h.at_le h9 j1 j2; omega) (by omega) e'
  refine ⟨fun j j1 j2 => ?_, fun j j1 j2 => ?_, fun j j1 j2 => ?_, fun j j1 j2 => ?_, fun i j i1 i2 j1 j2 hij => ?_, fun j j1 j2 => ?_⟩
  · by_cases hjk : j = k
    · subst hjk; simp only [if_pos]; exact hat
    · simp only [if_neg hjk]; exact (hoth j j1 j2 hjk).1
  · by_cases hjk : j = k
    · subst hjk; simp only [if_pos]; exact hcl
    · simp only [if_neg hjk]; exact h.cl j j1 j2
  · by_cases hjk : j = k
    · subst hjk; simp only [if_pos]; exact hhas
    · simp only [if_neg hjk]; exact (hoth j j1 j2 hjk).2
  · by_cases hjk : j = k
    · subst hjk; simp only [if_pos]; exact hw
    · simp only [if_neg hjk]; exact h.wid j j1 j2
  · obtain ⟨n1, n2, n3⟩ := h.ne i j i1 i2 j1 j2 hij
    refine ⟨n1, ?_, ?_⟩
    · by_cases hik : i = k <;> by_cases hjk : j = k <;> simp only [hik, hjk, if_pos, if_true, if_false] <;> simp_all
    · by_cases hik : i = k <;> by_cases hjk : j = k <;> simp only [hik, hjk, if_pos, if_true, if_false] <;> simp_all
  · obtain ⟨n1, n2, n3⟩ := h.low j j1 j2
    refine ⟨n1, ?_, ?_⟩
    · by_cases hjk : j = k
      · subst hjk; simp only [if_pos]; rw [hbuf.1]; exact n2
      · simp only [if_neg hjk]; exact n2
    · by_cases hjk : j = k
      · subst hjk; simp only [if_pos]; rw [hbuf.2]; exact n3
      · simp only [if_neg hjk]; exact n3
/-- One writer more. -/
theorem Tri.more (h : Tri w O K W len xs X ps 0 hi) (hI : WkI w O K W) (ht : Turn K (fun _ => False) w w') {x : Nat} {Y : Wr} (hO : ∀ g, g < w.heap.size → O' g → O g) (hD : W'.D = W.D) (hst : ∀ p ∈ W.A.st, p ∈ W'.A.st)
    (hat : WrAt w' O' K W' x Y) (hcl : Y.closed = false) (hhas : Y.Has W'.D []) (hw : Y.width = 3 ∧ Y.bound = len ∧ Y.blocks = nB 9 3 len ∧ Y.first = hi * nB 9 3 len) (hx : w.heap.size ≤ x) (hb : w.heap.size ≤ Y.buf) (ha : w.heap.size ≤ Y.arr) (hps : ps hi = []) :
    Tri w' O' K W' len (fun j => if j = hi then x else xs j) (fun j => if j = hi then Y else X j) ps 0 (hi + 1) := by
  have hf := h.frame (W' := W') (O' := O') hI ht (fun _ _ _ => ⟨fun h => h, fun h => h, fun h => h⟩) hO (by rw [hD]) (fun p hp _ => hst p hp) (fun _ _ _ _ _ => by rw [hD])
  have hbase : K.base ≤ w.heap.size := by have := hI.out.1; have := hI.box.lt; omega
  have old : ∀ k, k < hi → xs k < w.heap.size ∧ (X k).buf < w.heap.size ∧ (X k).arr < w.heap.size := fun k hk => by
    have a := h.at_ k (Nat.zero_le _) hk
    have b := a.live (h.cl k (Nat.zero_le _) hk)
    exact ⟨a.blk.lt, b.blk.lt, b.row.lt⟩
  refine ⟨fun j j1 j2 => ?_, fun j j1 j2 => ?_, fun j j1 j2 => ?_, fun j j1 j2 => ?_, fun i j i1 i2 j1 j2 hij => ?_, fun j j1 j2 => ?_⟩
  · by_cases hjk : j = hi
    · subst hjk; simp only [if_pos]; exact hat
    · simp only [if_neg hjk]; exact hf.at_ j j1 (by omega)
  · by_cases hjk : j = hi
    · subst hjk; simp only [if_pos]; exact hcl
    · simp only [if_neg hjk]; exact h.cl j j1 (by omega)
  · by_cases hjk : j = hi
    · subst hjk; simp only [if_pos]; rw [hps]; exact hhas
    · simp only [if_neg hjk]; exact hf.has j j1 (by omega)
  · by_cases hjk : j = hi
    · subst hjk; simp only [if_pos]; exact hw
    · simp only [if_neg hjk]; exact h.wid j j1 (by omega)
  · by_cases hik : i = hi
    · have hjk : j ≠ hi := fun e => hij (hik.trans e.symm)
      have := old j (by omega)
      simp only [hik, if_true, if_neg hjk]
      exact ⟨by omega, by omega, by omega⟩
    · by_cases hjk : j = hi
      · have := old i (by omega)
        simp only [hjk, if_true, if_neg hik]
        exact ⟨by omega, by omega, by omega⟩
      · simp only [if_neg hik, if_neg hjk]
        exact h.ne i j (Nat.zero_le _) (by omega) (Nat.zero_le _) (by omega) hij
  · by_cases hjk : j = hi
    · subst hjk; simp only [if_pos]; exact ⟨by omega, by omega, by omega⟩
    · simp only [if_neg hjk]; exact h.low j j1 (by omega)
end

/-- Where the k-th of equal extents is taken. -/
theorem third {L L' : List Sp.Ext} {B n k first : Nat} (hI : Sp.Inv 0 B L) (hf : ∀ b, Sp.Fr L b ↔ k * n ≤ b ∧ b < B) (hB : (k + 1) * n ≤ B) (h : TookN L B n first L') : first = k * n ∧ ∀ b, Sp.Fr L' b ↔ (k + 1) * n ≤ b ∧ b < B := by
  have ht := h.spec hI
  rw [Nat.add_mul, Nat.one_mul] at hB ⊢
  rcases Nat.eq_zero_or_pos n with h0 | h0
  · obtain ⟨e1, e2⟩ := ht.zero h0
    subst h0
    rw [e2]
    exact ⟨by rw [e1, Nat.mul_zero], fun b => by rw [hf b]; simp⟩
  · have hfirst : first = k * n := by
      have h1 : k * n ≤ first := by
        have := (hf first).1 (ht.room first (Nat.le_refl _) (by omega))
        exact this.1
      rcases Nat.eq_or_lt_of_le h1 with h2 | h2
      · exact h2.symm
      · exact absurd (fun b hb1 hb2 => (hf b).2 ⟨hb1, by omega⟩) (ht.least h0 (k * n) h2)
    refine ⟨hfirst, fun b => ?_⟩
    rw [ht.fr b, hf b, hfirst]
    omega

end Go.Proofs.Ytmmkncocgjgapaa.Fl
