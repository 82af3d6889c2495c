/- The walk of sort.Search over a space's extents, and of behind. -/
import Derived.Test.YtodjibhnmibedaaSpOps
set_option linter.unusedVariables false
namespace Go.Proofs.Ytodjibhnmibedaa.Sp
open Go.RowKit

def FirstTrue (p : Nat → Bool) (n r : Nat) : Prop := r ≤ n ∧ (∀ k, k < r → p k = false) ∧ (∀ k, r ≤ k → k < n → p k = true)
def SearchLoop (p : Nat → Bool) (n : Nat) (w : World) (iv jv : Value) (wr : World) : Prop :=
  ∃ i j : Nat, iv = .int .i64 (i : Int) ∧ jv = .int .i64 (j : Int) ∧ i ≤ j ∧ j ≤ n ∧ (∀ k, k < i → p k = false) ∧ (∀ k, j ≤ k → k < n → p k = true) ∧ Below w.heap.size w wr
def SearchTold (p : Nat → Bool) (n : Nat) (w : World) (e : Ending) (w' : World) : Prop := ∃ r : Nat, e = .returned (.int .i64 (r : Int)) ∧ FirstTrue p n r ∧ Below w.heap.size w w'

set_option maxRecDepth 100000 in
set_option maxHeartbeats 1000000 in
theorem search_any (p : Nat → Bool) (n : Nat) (b1 b2 : Nat) (w : World) (hn : n ≤ 1000000) (hmono : ∀ a b, a ≤ b → b < n → p a = true → p b = true)
    (C : ∀ k, k < n → ∀ W, Below w.heap.size w W → Calls Try.prog 54 #[.int .i64 (k : Int), .pointer (some ⟨b1, 0, none⟩), .pointer (some ⟨b2, 0, none⟩)] W fun e w' => e = .returned (.bool (p k)) ∧ Below W.heap.size W w') :
    Calls Try.prog 53 #[.int .i64 (n : Int), .func (.func 54) #[] #[.pointer (some ⟨b1, 0, none⟩), .pointer (some ⟨b2, 0, none⟩)]] w (SearchTold p n w) := by
  have HC := Lib.hid C
  have HM := Lib.hid hmono
  clear C hmono
  go_enter Try.func53, Try.ntmps53
  go_wp2_with fail
  go_loopw [5, 6] (fun iv jv wr => SearchLoop p n w iv jv wr) (fun iv jv _ => (intOf jv).toNat - (intOf iv).toNat)
  case atStart => exact ⟨0, n, rfl, rfl, by omega, by omega, fun k h => by omega, fun k h1 h2 => by omega, Below.refl _ _⟩
  case round =>
    obtain ⟨i, j, rfl, rfl, hij, hjn, h1, h2, hb⟩ := hrel
    have H1 := Lib.hid h1
    have H2 := Lib.hid h2
    have HB := Lib.hid hb
    clear h1 h2 hb
    by_cases hlt : (i : Int) < j
    · have t1 : IntKind.u64.wrap ((i : Int) + j) = (i : Int) + j := by simp [IntKind.wrap, IntKind.bits, IntKind.signed]; omega
      have e : (((i + j) / 2 : Nat) : Int) = ((i : Int) + j) / 2 := by omega
      have hC := HC.out ((i + j) / 2) (by omega) wr HB.out
      rw [e] at hC
      have hCC := Lib.hid hC
      have t2 : IntKind.i64.wrap (((i : Int) + j) / 2 + 1) = ((i : Int) + j) / 2 + 1 := by rw [IntKind.wrap_i64]; omega
      clear hC e
      cases hp : p ((i + j) / 2)
      · have HP := Lib.hid hp
        clear hp
        go_wp2_with fail
        refine hCC.out.mono ?_
        rw [HP.out]
        rintro e w1 ⟨rfl, hb1⟩
        have HB1 := Lib.hid (HB.out.trans (hb1.mono HB.out.size))
        clear hb1
        go_wp2_with fail
        go_roundw
        case rel => exact ⟨(i + j) / 2 + 1, j, by congr 1, rfl, by omega, hjn, fun k hk => (by
            by_cases h : p k = true
            · have := HM.out k ((i + j) / 2) (by omega) (by omega) h
              rw [HP.out] at this
              cases this
            · simpa using h), H2.out, HB1.out⟩
        case measure => simp [intOf]; omega
      · have HP := Lib.hid hp
        clear hp
        go_wp2_with fail
        refine hCC.out.mono ?_
        rw [HP.out]
        rintro e w1 ⟨rfl, hb1⟩
        have HB1 := Lib.hid (HB.out.trans (hb1.mono HB.out.size))
        clear hb1
        go_wp2_with fail
        go_roundw
        case rel => exact ⟨i, (i + j) / 2, rfl, by congr 1, by omega, by omega, H1.out, fun k hk hkn => HM.out _ _ hk hkn HP.out, HB1.out⟩
        case measure => simp [intOf]; omega
    · obtain rfl : i = j := by omega
      go_wp2_with fail
      go_ret
      exact ⟨i, rfl, ⟨hjn, H1.out, H2.out⟩, HB.out⟩

/-- The extents lie one behind the other. -/
def Asc (L : List Ext) : Prop := L.Pairwise fun x y => x.1 + x.2 ≤ y.1
theorem endsB_mono {L : List Ext} (h : Asc L) (b : Int) : ∀ x y, x ≤ y → y < L.length → endsB L b x = true → endsB L b y = true := by
  intro x y hxy hy hx
  rcases Nat.eq_or_lt_of_le hxy with rfl | hlt
  · exact hx
  · have := (List.pairwise_iff_getElem.1 h) x y (by omega) hy hlt
    unfold endsB at hx ⊢
    rw [List.getD_eq_getElem?_getD, List.getElem?_eq_getElem (by omega)] at hx
    rw [List.getD_eq_getElem?_getD, List.getElem?_eq_getElem hy]
    simp only [Option.getD_some, decide_eq_true_eq] at hx ⊢
    omega

set_option maxRecDepth 100000 in
set_option maxHeartbeats 1000000 in
theorem behind_any (s F B : Nat) (v : Value) (L : List Ext) (base : Nat) (b : Int) (w : World) (h : SpAt w s F B v L base) (hA : Asc L) :
    Calls Try.prog 45 #[.pointer (some ⟨s, 0, none⟩), .int .i64 b] w (SearchTold (endsB L b) L.length w) := by
  obtain ⟨a, c, rfl, hc1, hc2⟩ := h.slice
  have hs : w.cell? ⟨s, 2, none⟩ = some (.slice a L.length c) := h.blk.cell 2
  have hsl := h.blk.lt
  have hL := h.L_le
  have b1 := (Below.refl w.heap.size w).alloc (Nat.le_refl _) (.cells #[.pointer (some ⟨s, 0, none⟩)] 53)
  have b2 := b1.trans (((Below.refl _ _).alloc (Nat.le_refl _) (.cells #[.int .i64 b] 3)).mono b1.size : Below w.heap.size (w.alloc (.cells #[.pointer (some ⟨s, 0, none⟩)] 53)) _)
  have B2 := Lib.hid b2
  have N1 := Lib.hid ((Blk.new w 53 #[.pointer (some ⟨s, 0, none⟩)]).alloc (.cells #[.int .i64 b] 3))
  have N2 := Blk.new (w.alloc (.cells #[.pointer (some ⟨s, 0, none⟩)] 53)) 3 #[.int .i64 b]
  rw [show (w.alloc (.cells #[.pointer (some ⟨s, 0, none⟩)] 53)).heap.size = w.heap.size + 1 by simp] at N2
  have NN2 := Lib.hid N2
  have HS := Lib.hid h
  have HA := Lib.hid hA
  clear b1 b2 N2 h hA
  go_enter Try.func45, Try.ntmps45
  go_wp2_with fail
  generalize (w.alloc (.cells #[.pointer (some ⟨s, 0, none⟩)] 53)).alloc (.cells #[.int .i64 b] 3) = W at *
  refine (search_any (endsB L b) L.length w.heap.size (w.heap.size + 1) W hL (endsB_mono HA.out b) (fun k hk W' hW' => behind1_any s F B (.slice a L.length c) L base b w.heap.size (w.heap.size + 1) k W' ((HS.out.below B2.out).below hW') (by rw [hW'.cell N1.out.lt, N1.out.cell]; rfl) (by rw [hW'.cell NN2.out.lt, NN2.out.cell]; rfl) hk)).mono ?_
  rintro e w1 ⟨r, rfl, hr, hb⟩
  have HR := Lib.hid hr
  have HB := Lib.hid (B2.out.trans (hb.mono B2.out.size))
  clear hr hb
  go_wp2_with fail
  go_ret
  exact ⟨r, rfl, HR.out, HB.out⟩

end Go.Proofs.Ytodjibhnmibedaa.Sp
