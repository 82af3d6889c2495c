/- What is encoded is decoded, and what is decoded is what would be encoded; plainly. -/
import Derived.Test.YtlepmefknglkeaaFmtCutP
set_option linter.unusedVariables false
namespace Go.Proofs.Ytlepmefknglkeaa.Gr
open Var

theorem drop_put {b : List Nat} {p k : Nat} {x r : List Nat} (h : b.drop p = x ++ r) (hk : k = p + x.length) : b.drop k = r := by
  rw [hk, ← List.drop_drop, h, List.drop_left]

theorem num_back {b : List Nat} (hb : ∀ c ∈ b, c < 256) {at_ most : Int} (h0 : 0 ≤ at_) (h : (num b at_ most).2.2 = false) :
    ∃ z : Nat, (num b at_ most).1 = (z : Int) ∧ b.drop at_.toNat = put z ++ b.drop (num b at_ most).2.1.toNat := by
  unfold num at h ⊢
  by_cases h1 : (take b at_).2.2 ≠ 0
  · rw [if_pos h1] at h; cases h
  · rw [if_neg h1] at h ⊢
    by_cases h2 : most < (take b at_).1
    · rw [if_pos h2] at h; cases h
    · rw [if_neg h2]
      simp only
      unfold take at h1 ⊢
      by_cases hr : at_ < 0 ∨ (b.length : Int) < at_
      · rw [if_pos hr] at h1; simp at h1
      · rw [if_neg hr] at h1 ⊢
        simp only at h1 ⊢
        obtain ⟨⟨x, m, e⟩, ht⟩ : ∃ t, tk (b.drop at_.toNat) 0 0 = t := ⟨_, rfl⟩
        rw [ht] at h1 ⊢
        simp only at h1 ⊢
        obtain rfl : e = 0 := by omega
        obtain ⟨z, hz, -, hml, hput, -⟩ := tk_ok _ _ _ _ _ (fun c hc => hb c (List.mem_of_mem_drop hc)) ht
        refine ⟨x, rfl, ?_⟩
        have hzx : z = x := by simp at hz; exact hz.symm
        subst hzx
        rw [Nat.sub_zero] at hput hml
        rw [show (at_ + (m : Int)).toNat = at_.toNat + m by omega, ← List.drop_drop, hput, List.take_append_drop]

theorem row_back {b : List Nat} (hb : ∀ c ∈ b, c < 256) {n u : Int} : ∀ (cnt : Nat) (v p : Int) (es : List E2) (q : Int), 0 ≤ p → p ≤ b.length → v < n → decRow b n u cnt v p = (es, q, false) →
    es.length = cnt ∧ (∀ e ∈ es, e.1 = u ∧ v ≤ e.2 ∧ e.2 < n) ∧ es.Pairwise (fun x y => x.2 ≤ y.2) ∧ b.drop p.toNat = dl v es ++ b.drop q.toNat ∧ p ≤ q ∧ q ≤ b.length := by
  intro cnt
  induction cnt with
  | zero =>
    intro v p es q h0 hp hv h
    simp only [decRow, Prod.mk.injEq] at h
    obtain ⟨rfl, rfl, -⟩ := h
    exact ⟨rfl, fun e he => (by cases he), List.Pairwise.nil, rfl, Int.le_refl _, hp⟩
  | succ c ih =>
    intro v p es q h0 hp hv h
    cases hbad : (num b p (n - 1 - v)).2.2
    · rw [decRow_good hbad] at h
      have hend := num_end b p _ hbad
      have hge := num_ge (most := n - 1 - v) hp
      obtain ⟨z, hz, hdr⟩ := num_back hb h0 hbad
      generalize (num b p (n - 1 - v)).2.1 = p1 at *
      generalize (num b p (n - 1 - v)).1 = d at *
      subst hz
      obtain ⟨⟨fs, q2, f⟩, hR⟩ : ∃ t, decRow b n u c (v + (z : Int)) p1 = t := ⟨_, rfl⟩
      rw [hR] at h
      simp only [Prod.mk.injEq] at h
      obtain ⟨rfl, rfl, rfl⟩ := h
      obtain ⟨h1, h2, h3, h4, h5, h6⟩ := ih _ _ _ _ hend.2.2.1 hend.2.2.2 (by omega) hR
      refine ⟨by simp [h1], ?_, ?_, ?_, by omega, h6⟩
      · intro e he
        rcases List.mem_cons.1 he with rfl | he
        · exact ⟨rfl, by simp only; omega, by simp only; omega⟩
        · have := h2 e he
          exact ⟨this.1, by omega, this.2.2⟩
      · exact List.pairwise_cons.2 ⟨fun e he => (h2 e he).2.1, h3⟩
      · rw [hdr, h4, dl]
        simp only
        rw [show (v + (z : Int) - v).toNat = z by omega, List.append_assoc]
    · rw [decRow_bad hbad] at h
      simp at h

theorem pre_append (A B : List E2) (u : Int) : pre (A ++ B) u = pre A u + pre B u := by simp [pre]
theorem pre_none {A : List E2} {u : Int} (h : ∀ e ∈ A, u ≤ e.1) : pre A u = 0 := by
  unfold pre
  rw [List.length_eq_zero_iff, List.filter_eq_nil_iff]
  intro x hx
  have := h x hx
  simp only [decide_eq_true_eq]
  omega
theorem row_srtd {u : Int} {es : List E2} (h1 : ∀ e ∈ es, e.1 = u) (h2 : es.Pairwise (fun x y => x.2 ≤ y.2)) : Srtd es := by
  refine List.Pairwise.imp_of_mem (R := fun x y : E2 => x.2 ≤ y.2) (fun {x y} hx hy h => ?_) h2
  rw [lessE_not, h1 x hx, h1 y hy]
  omega

theorem rows_back {b : List Nat} (hb : ∀ c ∈ b, c < 256) {N : Nat} {m : Int} : ∀ (j u : Nat) (es : List E2) (p : Int) (V : List E2) (q : Int), 0 ≤ p → p ≤ b.length → u + j = N → (∀ e ∈ es, e.1 < u) → decRows b N m j u es p = (V, q, false) →
    ∃ rest, V = es ++ rest ∧ (∀ e ∈ rest, (u : Int) ≤ e.1 ∧ e.1 ≤ e.2 ∧ e.2 < N) ∧ Srtd rest ∧ (0 < j → (V.length : Int) = m) ∧ b.drop p.toNat = (List.range' u j).flatMap (encU V) ++ b.drop q.toNat := by
  intro j
  induction j with
  | zero =>
    intro u es p V q h0 hp hN hes h
    simp only [decRows, Prod.mk.injEq] at h
    obtain ⟨rfl, rfl, -⟩ := h
    exact ⟨[], by simp, fun e he => (by cases he), List.Pairwise.nil, fun h => absurd h (by omega), by simp⟩
  | succ j ih =>
    intro u es p V q h0 hp hN hes h
    rcases rows_ways b N m j u es p with h1 | ⟨h1, h4⟩ | ⟨h1, h4, h5⟩ | ⟨h1, h4, h5⟩
    · rw [rows_bad1 h1] at h; simp at h
    · rw [rows_bad2 h1 h4] at h; simp at h
    · rw [rows_bad3 h1 h4 h5] at h; simp at h
    · rw [rows_good h1 h4 h5] at h
      have hend := num_end b p _ h1
      obtain ⟨z, hz, hdr⟩ := num_back hb h0 h1
      generalize (num b p (m - es.length)).2.1 = p1 at *
      generalize (num b p (m - es.length)).1 = d at *
      subst hz
      rw [Int.toNat_natCast] at h5 h
      obtain ⟨⟨fs, q2, f⟩, hR⟩ : ∃ t, decRow b N u z u p1 = t := ⟨_, rfl⟩
      rw [hR] at h h5
      simp only at h h5
      subst h5
      obtain ⟨r1, r2, r3, r4, r5, r6⟩ := row_back hb _ _ _ _ _ hend.2.2.1 hend.2.2.2 (by omega) hR
      obtain ⟨rest, hV, s1, s2, s3, s4⟩ := ih (u + 1) (es ++ fs) q2 V q (by omega) r6 (by omega) (fun e he => by
        rcases List.mem_append.1 he with he | he
        · have := hes e he; omega
        · have := (r2 e he).1; omega) h
      refine ⟨fs ++ rest, by rw [hV, List.append_assoc], ?_, ?_, ?_, ?_⟩
      · intro e he
        rcases List.mem_append.1 he with he | he
        · have := r2 e he; omega
        · have := s1 e he; omega
      · refine List.pairwise_append.2 ⟨row_srtd (fun e he => (r2 e he).1) r3, s2, fun x hx y hy => ?_⟩
        have a1 := r2 x hx
        have a2 := s1 y hy
        rw [lessE_not]
        omega
      · intro _
        by_cases hj : j = 0
        · subst hj
          have hz : (z : Int) = m - es.length := by
            rcases Decidable.em ((z : Int) = m - es.length) with e | e
            · exact e
            · exact absurd ⟨rfl, e⟩ h4
          simp only [decRows, Prod.mk.injEq] at h
          rw [← h.1, List.length_append, r1]
          omega
        · exact s3 (by omega)
      · have e1 : pre V (u : Int) = es.length := by
          rw [hV, pre_append, pre_append, pre_all hes, pre_none (fun e he => by have := (r2 e he).1; omega), pre_none (fun e he => by have := s1 e he; omega)]
          omega
        have e2 : pre V ((u : Int) + 1) = es.length + z := by
          rw [hV, pre_append, pre_append, pre_all (fun e he => by have := hes e he; omega), pre_all (fun e he => by have := (r2 e he).1; omega), pre_none (fun e he => by have := s1 e he; omega)]
          omega
        have e3 : rowU V u = fs := by
          unfold rowU
          rw [e1, e2, hV, List.append_assoc, List.drop_left, show es.length + z - es.length = z by omega, ← r1, List.take_left]
        have e4 : encU V u = put z ++ dl u fs := by
          unfold encU
          rw [e1, e2, e3, show es.length + z - es.length = z by omega]
        rw [List.range'_succ, List.flatMap_cons, e4, hdr, r4, s4]
        simp only [List.append_assoc]

/-- What is decoded is the graph in order whose bytes these are. -/
theorem dec_back {b : List Nat} (hb : ∀ c ∈ b, c < 256) (h : (dec b).2.2.2 = 0) :
    ∃ (N : Nat) (V : List E2), dec b = ((N : Int), V, 0, 0) ∧ Fine V N ∧ formed N V = true ∧ ordL V = V ∧ encB V N = b := by
  rcases dec_ways b with h1 | ⟨h1, h2⟩ | ⟨h1, h2, h3⟩ | ⟨h1, h2, h3⟩
  · rw [dec_magic h1] at h; cases h
  · rw [dec_first h1 h2] at h; cases h
  · rw [dec_second h1 h2 h3] at h; cases h
  · have hd := dec_rest h1 h2 h3
    by_cases hf : (restOf b).2.2 = true ∨ (restOf b).2.1 ≠ b.length
    · rw [if_pos hf] at hd; rw [hd] at h; cases h
    · rw [if_neg hf] at hd
      have hq : (restOf b).2.1 = b.length := by
        rcases Decidable.em ((restOf b).2.1 = b.length) with e | e
        · exact e
        · exact absurd (.inr e) hf
      have hff : (restOf b).2.2 = false := by
        cases hx : (restOf b).2.2
        · rfl
        · exact absurd (.inl hx) hf
      have hend := num_end b 1 _ h2
      obtain ⟨N, hz, hdr⟩ := num_back hb (by omega) h2
      have hend2 := num_end b _ _ h3
      obtain ⟨M, hz2, hdr2⟩ := num_back hb hend.2.2.1 h3
      have hR : restOf b = restOf b := rfl
      conv at hR => rhs; unfold restOf
      generalize (num b 1 1073741824).2.1 = p1 at *
      generalize (num b 1 1073741824).1 = n at *
      subst hz
      generalize (num b p1 (most0 N)).2.1 = p2 at *
      generalize (num b p1 (most0 N)).1 = m at *
      subst hz2
      rw [Int.toNat_natCast] at hR
      obtain ⟨⟨V, q, f⟩, ht⟩ : ∃ t, restOf b = t := ⟨_, rfl⟩
      rw [ht] at hR hq hff hd
      simp only at hq hff hd
      subst hq
      subst hff
      obtain ⟨rest, hV, s1, s2, s3, s4⟩ := rows_back hb N 0 [] p2 V b.length hend2.2.2.1 hend2.2.2.2 (by omega) (fun e he => (by cases he)) hR.symm
      rw [List.nil_append] at hV
      subst hV
      have hM : (M : Int) ≤ 1073741824 := by
        have := hend2.2.1
        unfold most0 at this
        split at this <;> omega
      have hlen : V.length = M := by
        by_cases h0 : N = 0
        · subst h0
          have hM0 : (M : Int) ≤ 0 := by
            have := hend2.2.1
            simpa [most0] using this
          simp only [decRows, Prod.mk.injEq] at hR
          rw [hR.1]
          simp only [List.length_nil]
          omega
        · have := s3 (by omega)
          omega
      have hok : ∀ e ∈ V, 0 ≤ e.1 ∧ e.1 ≤ e.2 ∧ e.2 < N := fun e he => by have := s1 e he; omega
      have F : Fine V N := ⟨s2, hok, by have := hend.2.1; omega, by omega⟩
      refine ⟨N, V, hd, F, ?_, ?_, ?_⟩
      · unfold formed small
        simp only [Bool.and_eq_true, decide_eq_true_eq, List.all_eq_true]
        refine ⟨⟨⟨by omega, by have := F.small; omega⟩, F.len⟩, fun e he => ?_⟩
        rw [okE_iff']
        have := hok e he
        omega
      · unfold ordL
        have hid : V.map normE = V.map id := List.map_congr_left (fun e he => normE_of_le (hok e he).2.1)
        rw [hid, List.map_id]
        exact (srt_unique (List.Perm.refl V) s2).symm
      · unfold encB headB body
        rw [hlen, List.range_eq_range']
        rw [Int.toNat_natCast, List.drop_length, List.append_nil] at s4
        rw [← s4, List.append_assoc, List.append_assoc, ← hdr2, ← hdr]
        cases b with
        | nil => cases h1
        | cons x t =>
          obtain rfl : x = 71 := by simpa using h1
          rfl

theorem num_put {b r : List Nat} {p x : Nat} {most : Int} (hp : p ≤ b.length) (h : b.drop p = put x ++ r) (hx : x < 18446744073709551616) (hm : (x : Int) ≤ most) : num b p most = ((x : Int), ((p + (put x).length : Nat) : Int), false) := by
  have ht : take b p = ((x : Int), ((p + (put x).length : Nat) : Int), 0) := by
    unfold take
    rw [if_neg (by omega), Int.toNat_natCast, h, tk_put x r 0 0 (fun h => absurd h (by omega)) (by simpa using hx)]
    simp [size]
  unfold num
  rw [ht, if_neg (by simp), if_neg (by simp only; omega)]
theorem row_enc {b : List Nat} {n u : Int} (hn : n ≤ 1073741824) : ∀ (es : List E2) (v : Int) (p : Nat) (r : List Nat), p ≤ b.length → b.drop p = dl v es ++ r → Asc v es → (∀ e ∈ es, e.1 = u ∧ e.2 < n) →
    decRow b n u es.length v p = (es, ((p + (dl v es).length : Nat) : Int), false) := by
  intro es
  induction es with
  | nil => intro v p r _ _ _ _; rfl
  | cons e es ih =>
    intro v p r hp hd ha hes
    obtain ⟨a1, a2, a3⟩ := ha
    obtain ⟨b1, b2⟩ := hes e (List.mem_cons_self ..)
    rw [dl, List.append_assoc] at hd
    have hq : p + (put (e.2 - v).toNat).length ≤ b.length := by
      have := congrArg List.length hd
      rw [List.length_drop, List.length_append] at this
      omega
    have hnum := num_put (most := n - 1 - v) hp hd (by omega) (by omega)
    rw [List.length_cons, decRow_good (by rw [hnum]), hnum]
    simp only
    rw [show v + (((e.2 - v).toNat : Nat) : Int) = e.2 by omega, ih e.2 _ r hq (drop_put hd rfl) a3 (fun x hx => hes x (List.mem_cons_of_mem _ hx)), dl, List.length_append]
    simp only [Prod.mk.injEq, and_true]
    refine ⟨by rw [← b1], by omega⟩
theorem rows_enc {b : List Nat} {V : List E2} {N : Nat} (F : Fine V N) : ∀ (j u p : Nat) (r : List Nat), p ≤ b.length → u + j = N → b.drop p = (List.range' u j).flatMap (encU V) ++ r →
    decRows b N V.length j u (V.take (pre V u)) p = (V, ((p + ((List.range' u j).flatMap (encU V)).length : Nat) : Int), false) := by
  intro j
  induction j with
  | zero =>
    intro u p r hp hN hd
    obtain rfl : u = N := by omega
    rw [decRows, pre_all (fun e he => by have := F.ok e he; omega), List.take_length]
    simp
  | succ j ih =>
    intro u p r hp hN hd
    have h1 := pre_le V ((u : Int) + 1)
    have h2 := pre_mono (V := V) (show (u : Int) ≤ (u : Int) + 1 by omega)
    have hs := F.small
    have hl := F.len
    have htl : (V.take (pre V (u : Int))).length = pre V (u : Int) := by rw [List.length_take]; omega
    rw [List.range'_succ, List.flatMap_cons, encU] at hd
    simp only [List.append_assoc] at hd
    have hq : p + (put (pre V ((u : Int) + 1) - pre V (u : Int))).length ≤ b.length := by
      have := congrArg List.length hd
      rw [List.length_drop, List.length_append] at this
      omega
    have hd2 := drop_put hd rfl
    have hq2 : p + (put (pre V ((u : Int) + 1) - pre V (u : Int))).length + (dl u (rowU V u)).length ≤ b.length := by
      have := congrArg List.length hd2
      rw [List.length_drop, List.length_append] at this
      omega
    have hd3 := drop_put hd2 rfl
    have hnum := num_put (most := (V.length : Int) - ((V.take (pre V (u : Int))).length : Int)) hp hd (by omega) (by rw [htl]; omega)
    have hrow := row_enc (n := N) (u := u) (by omega) (rowU V u) u _ _ hq hd2 (asc_row F u) (fun e he => ⟨row_first F u e he, by have := F.ok e (rowU_mem e he); omega⟩)
    rw [rowU_length] at hrow
    have hlast : j = 0 → pre V ((u : Int) + 1) = V.length := fun h0 => by
      rw [show ((u : Int) + 1) = (N : Int) by omega]
      exact pre_all (fun e he => by have := F.ok e he; omega)
    rw [rows_good (by rw [hnum]) (by rw [hnum, htl]; simp only; intro h; exact h.2 (by have := hlast h.1; omega)) (by rw [hnum]; simp only; rw [Int.toNat_natCast, hrow]), hnum]
    simp only
    rw [Int.toNat_natCast, hrow]
    simp only
    have hnext : V.take (pre V (u : Int)) ++ rowU V u = V.take (pre V (((u + 1 : Nat)) : Int)) := by
      rw [show (((u + 1 : Nat)) : Int) = (u : Int) + 1 by omega, show pre V ((u : Int) + 1) = pre V (u : Int) + (pre V ((u : Int) + 1) - pre V (u : Int)) by omega, List.take_add]
      rfl
    rw [hnext, ih (u + 1) _ r hq2 (by omega) hd3, List.range'_succ, List.flatMap_cons, encU]
    simp only [List.length_append, Prod.mk.injEq, and_true, true_and]
    omega

/-- What is encoded is decoded as the graph in order. -/
theorem dec_enc {V : List E2} {N : Nat} (F : Fine V N) : dec (encB V N) = ((N : Int), V, 0, 0) := by
  have hs := F.small
  have hl := F.len
  obtain ⟨b, hb⟩ : ∃ b, encB V N = b := ⟨_, rfl⟩
  have hb1 : b = [71] ++ (put N ++ (put V.length ++ (List.range' 0 N).flatMap (encU V))) := by
    rw [← hb]
    unfold encB headB body
    rw [List.range_eq_range']
    simp only [List.append_assoc]
  have hhead : b.head? = some 71 := by rw [hb1]; rfl
  have hd1 : b.drop 1 = put N ++ (put V.length ++ (List.range' 0 N).flatMap (encU V)) := by rw [hb1]; rfl
  have hlen := congrArg List.length hb1
  simp only [List.length_append, List.length_cons, List.length_nil] at hlen
  have hd2 := drop_put hd1 rfl
  have hd3 := drop_put hd2 rfl
  have n1 := num_put (p := 1) (most := 1073741824) (by omega) hd1 (by omega) (by omega)
  rw [show ((1 : Nat) : Int) = 1 from rfl] at n1
  have hM0 : N = 0 → V.length = 0 := fun h0 => by
    cases hV : V with
    | nil => rfl
    | cons e t =>
      have := F.ok e (by rw [hV]; exact List.mem_cons_self ..)
      omega
  have n2 := num_put (p := 1 + (put N).length) (most := most0 N) (by omega) hd2 (by omega) (by
    unfold most0
    split
    · have := hM0 (by omega); omega
    · omega)
  have hr := rows_enc (b := b) F N 0 (1 + (put N).length + (put V.length).length) [] (by omega) (by omega) (by rw [List.append_nil]; exact hd3)
  rw [show (((0 : Nat)) : Int) = 0 from rfl, pre_zero (fun e he => (F.ok e he).1), List.take_zero] at hr
  have hrest : restOf b = (V, (b.length : Int), false) := by
    unfold restOf
    rw [n1]
    simp only
    rw [n2, Int.toNat_natCast]
    simp only
    rw [hr]
    simp only [Prod.mk.injEq, and_true, true_and]
    omega
  rw [hb, dec_rest hhead (by rw [n1]) (by rw [n1]; simp only; rw [n2]), hrest, n1]
  simp

end Go.Proofs.Ytlepmefknglkeaa.Gr
