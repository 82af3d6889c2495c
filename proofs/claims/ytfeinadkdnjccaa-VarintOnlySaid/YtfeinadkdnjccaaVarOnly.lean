/- The walk of the law VarintOnly: it returns true and writes nothing that was there, of every input. -/
import Derived.Test.YtfeinadkdnjccaaVarLaws2
set_option linter.unusedVariables false
namespace Go.Proofs.Ytfeinadkdnjccaa.Var
open Go.RowKit

def strOf (l : List Nat) : ByteArray := Go.strOfNums (l.map fun x : Nat => (x : Int))

theorem conv_any (l : List Nat) (a : Option Addr) (n c : Nat) (w : World) (hr : Row w a (byts l)) (hn : l.length = n) (h0 : 0 < n) :
    (convert 35 9 (.slice a n c)).run Try.prog w = .ok (.string (strOf l)) w := by
  obtain ⟨b, off, rfl, _, _⟩ := hr.at_ (i := 0) (by rw [byts_length]; omega)
  refine run_convert_bytes_arg w 35 5 Try.underlying35 Try.underlying5 b off n c _ (by simpa using hn) (fun i hi => ?_) 9 Try.underlying9
  obtain ⟨b', off', he, hc, _⟩ := hr.at_ (i := i) (by rw [byts_length]; omega)
  injection he with he
  injection he with he1 he2
  subst he1; subst he2
  rw [hc]
  have : i < l.length := by omega
  simp [byts, this]

set_option maxRecDepth 100000 in
set_option maxHeartbeats 400000 in
theorem only_ok (b : List Nat) (hb : ∀ c ∈ b, c < 256) (p : Nat) (a : Option Addr) (n c : Nat) (w : World) (hr : Row w a (byts b)) (hn : b.length = n) (hm : n ≤ 1000) (hc : n ≤ c) (hc2 : c ≤ 9223372036854775807) (hp : p ≤ n)
    (x m : Nat) (ht : tk (b.drop p) 0 0 = (x, m, 0)) :
    Calls Try.prog 11 #[.slice a n c, .int .i64 (p : Int)] w fun e w' => e = .returned (.bool true) ∧ Below w.heap.size w w' := by
  obtain ⟨z, hz, _, hml, hput, _⟩ := tk_ok _ _ _ _ _ (fun c hc => hb c (List.mem_of_mem_drop hc)) ht
  have hzx : z = x := by simp at hz; exact hz.symm
  subst hzx
  rw [Nat.sub_zero] at hml hput
  rw [List.length_drop] at hml
  have hx : z < 18446744073709551616 := by
    have := tk_bound (b.drop p) 0 0 (by omega) (by omega) (fun c hc => hb c (List.mem_of_mem_drop hc))
    rw [ht] at this
    exact this
  have hpl : (put z).length = m := by rw [hput, List.length_take, List.length_drop]; omega
  have hpp := put_pos z
  have Ht := Lib.hid ht
  have Hpl := Lib.hid hpl
  have Hput := Lib.hid hput
  clear ht hz hpl hput
  obtain ⟨bl, off, rfl, _, _⟩ := hr.at_ (i := p) (by rw [byts_length]; have := Hpl.out; omega)
  go_enter Try.func11, Try.ntmps11
  go_wp2_with fail
  refine (awake_any _).mono ?_
  rintro e w1 ⟨rfl, hb1⟩
  go_wp2_with fail
  refine (take_in b hb p _ n c _ (hr.below hb1) hn (by omega) hp).mono ?_
  rw [Ht.out]
  rintro e w2 ⟨rfl, rfl⟩
  go_wp2_with fail
  refine (put_any [] z none 0 0 _ (Row.nil _ _) rfl (by omega) (fun _ => ⟨rfl, rfl⟩) hx).mono ?_
  rw [Hpl.out]
  rintro e w2 ⟨v2, rfl, hown2, hb2⟩
  obtain ⟨a2, c2, rfl, hr2, -⟩ := own_slice hown2
  have hbw2 := hb1.trans (hb2.mono hb1.size)
  have hrow : Row w2 (some ⟨bl, off + p, none⟩) (byts (put z)) := by
    rw [Hput.out]
    unfold byts
    rw [List.map_take, List.map_drop]
    exact ((hr.below hbw2).drop p).take m
  have k1 := fun nq => conv_any (put z) (some ⟨bl, off + p, none⟩) m (c - p) (w2.drewN nq) (hrow.drewN nq) Hpl.out (by have := Hpl.out; omega)
  have k2 := fun nq => conv_any (put z) a2 (0 + m) c2 (w2.drewN nq) (hr2.drewN nq) (by rw [Hpl.out]; omega) (by have := Hpl.out; omega)
  have q0 : (0 : Int) ≤ p := by omega
  have q1 : ((m : Int) == m) = true := by simp
  have q2 : ¬ (c = p) := by have := Hpl.out; omega
  have q3 : IntKind.i64.wrap ((p : Int) + m - p) = m := by rw [IntKind.wrap_i64]; omega
  have q4 : IntKind.i64.wrap (m : Int) = m := by rw [IntKind.wrap_i64]; omega
  rw [Nat.zero_add] at k2
  clear hown2 hb2 hrow hr2 
  go_wp2_with fail
  go_quiet (fail)
  go_wp2_with fail
  go_ret
  exact ⟨by simp, below_drewN hbw2 _⟩

set_option maxRecDepth 100000 in
set_option maxHeartbeats 400000 in
theorem only_err (b : List Nat) (hb : ∀ c ∈ b, c < 256) (at_ : Int) (a : Option Addr) (n c : Nat) (w : World) (hr : Row w a (byts b)) (hn : b.length = n) (hm : n ≤ 1000)
    (y z : Int) (ht : take b at_ = (0, y, z)) (hyz : z = 1 ∧ y = 0 ∨ z = 3 ∧ at_ ≤ y ∧ y ≤ n) :
    Calls Try.prog 11 #[.slice a n c, .int .i64 at_] w fun e w' => e = .returned (.bool true) ∧ Below w.heap.size w w' := by
  have Ht := Lib.hid ht
  clear ht
  rcases hyz with ⟨rfl, rfl⟩ | ⟨rfl, h1, h2⟩
  all_goals
    go_enter Try.func11, Try.ntmps11
    go_wp2_with fail
    refine (awake_any _).mono ?_
    rintro e w1 ⟨rfl, hb1⟩
    go_wp2_with fail
    refine (take_any b hb at_ a n c _ (hr.below hb1) hn (by omega)).mono ?_
    rw [Ht.out]
    rintro e w2 ⟨rfl, rfl⟩
    go_wp2_with fail
    go_ret
    exact ⟨rfl, hb1⟩

theorem only_odd (x : Int) (a : Option Addr) (n c : Nat) (w : World) (hm : ¬ n ≤ 1000) (hl : n ≤ 9223372036854775807) :
    Calls Try.prog 11 #[.slice a n c, .int .i64 x] w fun e w' => e = .returned (.bool true) ∧ Below w.heap.size w w' := by
  go_enter Try.func11, Try.ntmps11
  go_wp2_with fail
  refine (awake_any _).mono ?_
  rintro e w1 ⟨rfl, hb1⟩
  go_wp2_with fail
  refine (awake_any _).mono ?_
  rintro e w2 ⟨rfl, hb2⟩
  go_wp2_with fail
  go_ret
  exact ⟨rfl, hb1.trans (hb2.mono hb1.size)⟩

theorem VarintOnly_walk {w : World} (a : Option Addr) (n c : Nat) (l : List Int) (h : rdSlice 1 (rdInt .u8) w [.slice a n c] l) (x : Int) (hx : (Lit.int .i64 x).wf = true) :
    Calls Try.prog 11 #[.slice a n c, .int .i64 x] w fun e w' => e = .returned (.bool true) ∧ Below w.heap.size w w' := by
  obtain ⟨b, hn, hb, hr, hl, h0⟩ := bytes_of h
  obtain ⟨_, hc1, hc2, _⟩ := rdSlice_ints h
  unfold maxLen at hc2
  by_cases hm : n ≤ 1000
  · by_cases hp : x < 0 ∨ (b.length : Int) < x
    · exact only_err b hb x a n c w hr hn hm 0 1 (by unfold take; rw [if_pos hp]) (.inl ⟨rfl, rfl⟩)
    · obtain ⟨p, rfl⟩ := Int.eq_ofNat_of_zero_le (show 0 ≤ x by omega)
      obtain ⟨⟨y, m, e⟩, ht⟩ : ∃ t, tk (b.drop p) 0 0 = t := ⟨_, rfl⟩
      by_cases he : e = 0
      · subst he
        exact only_ok b hb p a n c w hr hn hm hc1 (by omega) (by omega) y m ht
      · obtain ⟨rfl, rfl, _, h4⟩ := tk_err _ _ _ _ _ _ ht he
        rw [List.length_drop] at h4
        refine only_err b hb p a n c w hr hn hm (p + m) 3 (by unfold take; rw [if_neg hp, Int.toNat_natCast, ht]; rfl) (.inr ⟨rfl, by omega, by omega⟩)
  · exact only_odd x a n c w hm hl

end Go.Proofs.Ytfeinadkdnjccaa.Var
