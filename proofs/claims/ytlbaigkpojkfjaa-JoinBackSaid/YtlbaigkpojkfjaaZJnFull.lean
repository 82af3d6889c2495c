/- join.each where the space has no room for what it may make. -/
import Derived.Test.YtlbaigkpojkfjaaK12
set_option linter.unusedVariables false
namespace Go.Proofs.Ytlbaigkpojkfjaa.Fl
open Go.RowKit

section
variable {w w' : World} {O : Nat → Prop} {K : Key} {W : Wk}

set_option maxRecDepth 100000 in
set_option maxHeartbeats 8000000 in
theorem each_full {F : FuncId} {rv : Value} {Ej : Nat → Prop} {gh : Nat} {JE : Nat → World → (Nat → Prop) → Wk → Prop} {Why : Int → Prop} {out : List Tup} (hST : Stays K Ej JE) (first : Int) (n wN wM cN : Nat) (hI : WkI w O K W) (hs : Sure W.D) (h1 : 1 ≤ wN) (h5 : wN ≤ 5) (m1 : 1 ≤ wM) (m5 : wM ≤ 5) (hb : cN ≤ 100000000)
    (hnn : n = nB W.D.size wN cN) (hnone : 0 < nB W.D.size wM cN ∧ ∀ p, ¬ Sp.Room W.L p (nB W.D.size wM cN)) (hn : W.D.size + W.D.size ≤ W.A.room - W.A.used) (hh0 : gh ≤ W.A.used)
    (hO : ∀ g, w.heap.size ≤ g → O g) (hJ : JE gh w O W) (hEj : ∀ g, Ej g → g < w.heap.size) :
    Calls Try.prog 32 #[P K.wk, .agg #[.int .i64 first, .int .i64 (n : Int), .int .i64 (wN : Int), .int .i64 (cN : Int)], .int .i64 (wM : Int), .func (.func F) #[rv] #[]] w (EachC w O K W Ej wM cN out JE gh Why) := by
  obtain ⟨s8, s256⟩ := hI.size
  have hbl1 : Below w.heap.size w (w.alloc (.cells #[.int .i64 first, .int .i64 (n : Int), .int .i64 (wN : Int), .int .i64 (cN : Int)] 29)) := (Below.refl _ _).alloc (Nat.le_refl _) _
  have hbl : Below w.heap.size w ((w.alloc (.cells #[.int .i64 first, .int .i64 (n : Int), .int .i64 (wN : Int), .int .i64 (cN : Int)] 29)).alloc (.cells noFile 29)) := hbl1.alloc (by simp) _
  have hF := (Blk.new w 29 #[.int .i64 first, .int .i64 (n : Int), .int .i64 (wN : Int), .int .i64 (cN : Int)]).alloc (.cells noFile 29)
  have hR := Blk.new (w.alloc (.cells #[.int .i64 first, .int .i64 (n : Int), .int .i64 (wN : Int), .int .i64 (cN : Int)] 29)) 29 noFile
  rw [show (w.alloc (.cells #[.int .i64 first, .int .i64 (n : Int), .int .i64 (wN : Int), .int .i64 (cN : Int)] 29)).heap.size = w.heap.size + 1 from by simp] at hR
  have hblk := nB_eq (size := W.D.size) (wN := wN) (count := cN) s8 h1 h5
  rw [← hnn] at hblk
  have HOP := Lib.hid (open_ok first (n : Int) (wN : Int) (cN : Int) (hI.below hbl) ⟨by omega, by omega, by omega, by omega, hblk.symm⟩ (by omega))
  have HST := Lib.hid hST
  have HI1 := Lib.hid (hI.below hbl)
  have HF1 := Lib.hid hF
  have HR1 := Lib.hid hR
  have HB1 := Lib.hid hbl
  have HJ1 := Lib.hid (hST _ _ _ O O W W (fun _ => False) hJ hI (Turn.below hbl) (fun _ _ h => h) (fun _ _ h => h) rfl (fun _ h _ => h))
  have HS := Lib.hid hs
  have HW := Lib.hid (And.intro hnone (And.intro hn (And.intro hO hEj)))
  have HINV := Lib.hid hI.inv
  have HH0 := Lib.hid hh0
  have HBS : Hid (K.base ≤ w.heap.size) := Lib.hid (by have := hI.out.1; have := hI.box.lt; omega)
  unfold noFile at *
  clear hbl1 hbl hF hR hblk hST hI hs hnone hn hO hJ hEj hnn hh0
  go_enter_defers Try.func32, Try.ntmps32
  go_wp2_with fail
  generalize hw1 : ((w.alloc (.cells #[.int .i64 first, .int .i64 (n : Int), .int .i64 (wN : Int), .int .i64 (cN : Int)] 29)).alloc (.cells #[.int .i64 0, .int .i64 0, .int .i64 0, .int .i64 0] 29)) = w1 at *
  have hs1 : w1.heap.size = w.heap.size + 2 := by rw [← hw1]; simp
  generalize hfb : w.heap.size = fb at *
  have k0 : w1.cell? ⟨fb, 0, none⟩ = some (.int .i64 first) := HF1.out.cell 0
  have k1 : w1.cell? ⟨fb, 1, none⟩ = some (.int .i64 (n : Int)) := HF1.out.cell 1
  have k2 : w1.cell? ⟨fb, 2, none⟩ = some (.int .i64 (wN : Int)) := HF1.out.cell 2
  have k3 : w1.cell? ⟨fb, 3, none⟩ = some (.int .i64 (cN : Int)) := HF1.out.cell 3
  clear hw1
  refine HOP.out.mono ?_
  rintro e w2 ⟨x, b, d, rfl, hI2, hX2, q1, q2, q3, ht2⟩
  have HQ1 := Lib.hid (And.intro q1 (And.intro q2 q3))
  obtain ⟨wnone, wn, wO, wEj⟩ := HW.out
  have hR2 := HI1.out.blk ht2 HR1.out (by decide) (by decide) (by decide) (by decide) (by decide) (fun h => h)
  have hF2 := HI1.out.blk ht2 HF1.out (by decide) (by decide) (by decide) (by decide) (by decide) (fun h => h)
  have hJ2 := HST.out _ w1 w2 _ (but O d) _ { W with A := W.A.grant W.D.size b } _ HJ1.out HI1.out ht2 (fun _ _ h => h) (fun _ _ h => h.1) rfl (fun _ hp _ => List.mem_append_left _ hp)
  have k3' : w2.cell? ⟨fb, 3, none⟩ = some (.int .i64 (cN : Int)) := hF2.cell 3
  have hdl : d < w2.heap.size := (hX2.live rfl).row.lt
  have hO2 : ∀ g, w2.heap.size ≤ g → but O d g := fun g hg => ⟨wO g (by have := ht2.size; omega), by omega⟩
  have hMK := make_any wM cN hI2 m1 m5 (by omega) (by show W.D.size ≤ W.A.room - (W.A.used + W.D.size); omega)
  have hnM := nB_eq (size := W.D.size) (wN := wM) (count := cN) s8 m1 m5
  have HMK := Lib.hid hMK
  have HNM := Lib.hid hnM
  have HI2 := Lib.hid hI2
  have HX2 := Lib.hid hX2
  have HR2 := Lib.hid hR2
  have HJ2 := Lib.hid hJ2
  have HT2 := Lib.hid ht2
  have HO2 := Lib.hid hO2
  clear wnone wn wO wEj hR2 hF2 hJ2 hdl hO2 hMK hnM hI2 hX2 ht2 q1 q2 q3 k0 k1 k2 k3 HOP HI1 HF1 HR1 HJ1
  go_wp2_with fail
  refine HMK.out.mono ?_
  rintro e w3 ⟨b2, d2, p1, p2, ht3, hm⟩
  rw [show ({ W with A := W.A.grant W.D.size b } : Wk).D.size = W.D.size from rfl, HNM.out] at hm
  obtain ⟨q1, q2, q3⟩ := HQ1.out
  have hR3 := HI2.out.blk ht3 HR2.out (by decide) (by decide) (by decide) (by decide) (by decide) (fun h => h)
  have hs2 := HT2.out.size
  have hs3 := ht3.size
  have hrx := HX2.out.blk.lt
  have hBx := HX2.out.live rfl
  have hT3 : Turn K (fun q => fb ≤ q) w w3 := ((Turn.below (by rw [hfb]; exact HB1.out)).trans (HT2.out.mono (fun _ h => h.elim))).trans (ht3.mono (fun _ h => h.elim))
  obtain ⟨wnone, wn, wO, wEj⟩ := HW.out
  rcases hm with ⟨r, er, L', h0, htk, her, rfl, hI3⟩ | ⟨y, fst2, L', htk, hy, rfl, hI3, hY3⟩
  · obtain ⟨_, hsp⟩ := Sp.take_spec HINV.out htk
    have hful : er = 5 ∧ L' = W.L ∧ ∀ p, ¬ Sp.Room W.L p (nB W.D.size wM cN) := by
      rcases hsp with ⟨hh, _⟩ | ⟨m, hm, _, _, hno, _, h5', e⟩ | ⟨_, _, _, _, hh, _⟩
      · omega
      · obtain rfl : nB W.D.size wM cN = m := by omega
        exact ⟨h5', e, hno⟩
      · exact absurd hh her
    obtain ⟨rfl, rfl, hno⟩ := hful
    have hgr := grant_release (n := W.D.size) (HI2.out.st_ne p1)
    rw [show ({ W with A := W.A.grant W.D.size b } : Wk).A = W.A.grant W.D.size b from rfl] at hgr
    have hI3' : WkI w3 (but (but O d) d2) K { W with A := { W.A.grant W.D.size b with peak := max (W.A.grant W.D.size b).peak ((W.A.grant W.D.size b).used + W.D.size) } } := by
      have h := hI3
      simp only at h
      rw [hgr] at h
      exact h
    have hX3 : RdAt w3 (but (but O d) d2) K { W with A := { W.A.grant W.D.size b with peak := max (W.A.grant W.D.size b).peak ((W.A.grant W.D.size b).used + W.D.size) } } x ⟨first, (n : Int), (wN : Int), (cN : Int), b, d, 0, 0, 0, 0, false, zeros W.D.size⟩ := HX2.out.turn' HI2.out ht3 (fun h => h) (fun _ h => h) (fun _ h => h) (fun _ _ h => h.1) rfl (fun p hp _ => hp)
    obtain ⟨hI4, hR4, hT4⟩ := four_store hI3' hR3 (.int .i64 0) (.int .i64 0) (.int .i64 0) (.int .i64 0)
    have hX4 := hX3.turn' (O' := but (but O d) d2) (W' := { W with A := { W.A.grant W.D.size b with peak := max (W.A.grant W.D.size b).peak ((W.A.grant W.D.size b).used + W.D.size) } }) hI3' hT4 (fun e => by rw [e] at hrx; omega) (fun _ e => by have h : b = fb + 1 := e; omega) (fun _ e => by have h : d = fb + 1 := e; omega) (fun _ _ h => h) rfl (fun _ h _ => h)
    have hje3 := HST.out _ w2 w3 _ (but (but O d) d2) _ { W with A := { W.A.grant W.D.size b with peak := max (W.A.grant W.D.size b).peak ((W.A.grant W.D.size b).used + W.D.size) } } _ HJ2.out HI2.out ht3 (fun _ _ h => h) (fun _ _ h => h.1) rfl (fun _ h _ => h)
    have hje4 := HST.out.same hje3 hI3' hT4 (fun g hg e => by have := wEj g hg; omega) (fun _ _ h => h)
    have HJE4 := Lib.hid hje4
    have g0 := hR3.frozen 0
    have g1 := hR3.frozen 1
    have g2 := hR3.frozen 2
    have g3 := hR3.frozen 3
    have p0 : w3.cell? ⟨fb + 1, 0, none⟩ = some (.int .i64 0) := hR3.cell 0
    have p1' : w3.cell? ⟨fb + 1, 1, none⟩ = some (.int .i64 0) := hR3.cell 1
    have p2' : w3.cell? ⟨fb + 1, 2, none⟩ = some (.int .i64 0) := hR3.cell 2
    have p3' : w3.cell? ⟨fb + 1, 3, none⟩ = some (.int .i64 0) := hR3.cell 3
    have hT34 := hT3.trans (hT4.mono (fun q e => by rw [e]; omega))
    have HI4 := Lib.hid hI4
    have HR4 := Lib.hid hR4
    have HX4 := Lib.hid hX4
    have HT4 := Lib.hid hT34
    have HNO := Lib.hid hno
    unfold four at HI4 HR4 HX4 HT4 HJE4
    clear hje3 hje4 hI4 hR4 hX4 hT4 hT34 hno hI3 hI3' hX3 hR3 hgr htk hsp ht3 hT3 hBx wnone wn wO wEj HMK
    go_wp2_with fail
    generalize ((((w3.setCell ⟨fb + 1, 0, none⟩ (.int .i64 0)).setCell ⟨fb + 1, 1, none⟩ (.int .i64 0)).setCell ⟨fb + 1, 2, none⟩ (.int .i64 0)).setCell ⟨fb + 1, 3, none⟩ (.int .i64 0)) = w4 at *
    refine ⟨(fun h => by cases h), _, _, _, _, rfl, rfl, (rclose_d HI4.out HX4.out rfl).mono ?_⟩
    rintro e u' w5 ⟨rfl, rfl, hI5, hX5, ht5⟩
    have hR5 := HI4.out.blk ht5 HR4.out (by decide) (by decide) (by decide) (by decide) (by decide) (fun h => by
      rcases h with e | e | e
      · rw [← e] at hrx; omega
      · have h : fb + 1 = b := e; omega
      · have h : fb + 1 = d := e; omega)
    have s0 : w5.cell? ⟨fb + 1, 0, none⟩ = some (.int .i64 0) := hR5.cell 0
    have s1 : w5.cell? ⟨fb + 1, 1, none⟩ = some (.int .i64 0) := hR5.cell 1
    have s2 : w5.cell? ⟨fb + 1, 2, none⟩ = some (.int .i64 0) := hR5.cell 2
    have s3 : w5.cell? ⟨fb + 1, 3, none⟩ = some (.int .i64 0) := hR5.cell 3
    have hT5 := HT4.out.trans (ht5.mono (fun q e => by
      rcases e with e | e | e
      · rw [e]; omega
      · have h : q = b := e; omega
      · have h : q = d := e; omega))
    refine ⟨.tuple #[.agg #[.int .i64 0, .int .i64 0, .int .i64 0, .int .i64 0], .int .i64 5], by simp [results, Try.results32, go_sem, s0, s1, s2, s3], ?_⟩
    obtain ⟨wnone, wn, wO, wEj⟩ := HW.out
    refine ⟨_, _, ⟨fun g hg => .inr hg, fun g hg h => ?_⟩, hI5.onto, (turn_fresh hT5 (fun _ h => by rw [hfb]; exact h)).mono (fun _ h => h.elim), .inr ⟨5, gh, by decide, rfl, ⟨.inl ⟨rfl, by omega, HNO.out⟩, rfl, rfl, ?_, rfl, rfl, rfl, HS.out, id, fun _ _ => rfl, by show W.D.acts ≤ _; omega⟩, HST.out.rel HJE4.out HI4.out ht5 (fun g hg e => ?_) (onto_cond ht5.size) rfl (fun hg => ?_)⟩⟩
    · rcases h with h | h
      · exact h.1.1
      · have := hT5.size; omega
    · show W.A.used + W.D.size - W.D.size + gh = W.A.used + gh
      omega
    · have h1 := wEj g hg
      rcases e with e | e | e
      · rw [e] at h1; omega
      · have h : g = b := e; omega
      · have h : g = d := e; omega
    · have h1 := wEj _ hg
      have h2 : b < fb := h1
      omega
  · exfalso
    obtain ⟨h0, hno⟩ := wnone
    rcases htk with ⟨h0', _, _⟩ | ⟨_, htk⟩
    · omega
    · obtain ⟨_, hsp⟩ := Sp.take_spec HINV.out htk
      rcases hsp with ⟨hh, _⟩ | ⟨m, hm, _, _, _, _, h5', e⟩ | ⟨m, f, hm, hf, _, _, _, _, hr, _⟩
      · omega
      · cases h5'
      · have hm' : m = nB W.D.size wM cN := by have e : (nB W.D.size wM cN : Int) = m := hm; omega
        rw [hm'] at hr
        exact hno f hr
end

end Go.Proofs.Ytlbaigkpojkfjaa.Fl
