/- Texts of mine, packed: FlList2, SpSum, FlLaid, FlLaw, TupEq, FlRefs, FlAwake. -/
import Derived.Test.YtmmkncocgjgapaaK2
import Derived.Test.YtmmkncocgjgapaaK6
import Derived.Test.YtmmkncocgjgapaaK10
import Derived.Laws.StructEq
set_option linter.unusedVariables false

/- The walk of List: a file's tuples are told. -/
namespace Go.Proofs.Ytmmkncocgjgapaa.Fl
open Go.RowKit

section
variable {w w' : World} {O : Nat → Prop} {K : Key} {W : Wk}

theorem own_blk {w : World} {base n : Nat} {v : Value} {xs : List Value} {e : TypeId} {size : Nat} (ho : w.ownsRow base e size v n xs) {g : Nat} (hg : v.ownBlock = some g) : base ≤ g ∧ ∃ cs, Blk w g e cs := by
  rcases ho.2 with ⟨rfl, _⟩ | ⟨g', cap, cur, rfl, hb, hh, _⟩
  · simp [Value.ownBlock] at hg
  · have : g' = g := by simpa [Value.ownBlock] using hg
    subst this
    exact ⟨hb, cur, hh⟩
/-- A row of tuples lies beside a work. -/
theorem own_tup (hI : WkI w O K W) {E : Nat → Prop} (ht : Turn K E w w') {base n : Nat} {v : Value} {xs : List Value} (ho : w.ownsRow base 45 5 v n xs) (hE : ∀ g cs, Blk w g 45 cs → ¬ E g) : w'.ownsRow base 45 5 v n xs :=
  own_chg ho ht (fun g hg => by
    obtain ⟨_, cs, hb⟩ := own_blk ho hg
    exact hI.keeps ht hb (by decide) (by decide) (by decide) (by decide) (by decide) (hE g cs hb))
theorem aside_tup (hI : WkI w O K W) {base n : Nat} {v : Value} {xs : List Value} (ho : w.ownsRow base 45 5 v n xs) (hc : Chg (fun k => some k = v.ownBlock) w w') : WkI w' O K W ∧ Turn K (fun k => some k = v.ownBlock) w w' := by
  refine ⟨hI.aside hc (fun k hk => ?_), hc.mono (fun k _ hk => .inr (.inr (.inr (.inr (.inr (.inr (.inr (.inr hk))))))))⟩
  obtain ⟨_, cs, hb⟩ := own_blk ho hk.symm
  exact ⟨_, cs, hb, by decide, by decide, by decide, by decide, by decide, by decide, by decide, fun h => absurd h (by decide)⟩
theorem RdAt.below {x : Nat} {X : Rd} (hI : WkI w O K W) (h : RdAt w O K W x X) (hb : Below w.heap.size w w') : RdAt w' O K W x X :=
  h.turn (E := fun _ => False) hI (Turn.below hb) (fun h => h) (fun _ h => h) (fun _ h => h) (fun _ h => h) rfl (fun _ h _ => h)

theorem rclose_closed_d {x : Nat} {cs : Array Value} {u : FrameMode} (h : Blk w x 110 cs) (hc : cs[10]? = some (.bool true)) : CallsD Try.prog 28 #[P x] u w (fun e u' w' => u' = u ∧ e = .returned (.tuple #[]) ∧ w = w') := by
  have c10 : w.cell? ⟨x, 10, none⟩ = some (.bool true) := (h.cell 10).trans hc
  clear h
  go_enter_d Try.func28, Try.ntmps28
  go_wp2_with fail
  go_end0
  exact ⟨rfl, rfl⟩

def rd0 (first blocks width count : Int) (size b d : Nat) : Rd := ⟨first, blocks, width, count, b, d, 0, 0, 0, 0, false, zeros size⟩
def ListYes (Q : Nat → Nat → List Tup → Rd → Dev.Dv → Prop) (w : World) (O : Nat → Prop) (K : Key) (W : Wk) (count : Int) (l : List Tup) (e : Ending) (w' : World) : Prop :=
  ∃ v b d Y D, e = .returned (.tuple #[v, .int .i64 0]) ∧ w'.ownsRow w.heap.size 45 5 v l.length (flatT l) ∧ Q b d l Y D ∧ D.size = W.D.size ∧
    (l.length : Int) = count ∧ (w.heap.size ≤ b ∧ w.heap.size ≤ d) ∧ WkI w' (but O d) K { W with D := D, A := (W.A.grant W.D.size b).release b W.D.size } ∧ Turn K (fun _ => False) w w'
/-- The tuples l come, and then a block that the device doesn't give. -/
def ListErr (Q : Nat → Nat → List Tup → Rd → Dev.Dv → Prop) (w : World) (O : Nat → Prop) (K : Key) (W : Wk) (count : Int) (l : List Tup) (e : Ending) (w' : World) : Prop :=
  ∃ b d Y D, e = .returned (.tuple #[.slice none 0 0, .int .i64 (D.rd (IntKind.i64.wrap (Y.first + (Y.block : Int)))).1]) ∧ Q b d l Y D ∧ D.size = W.D.size ∧
    (l.length : Int) < count ∧ Y.at_ = Y.n ∧ (D.rd (IntKind.i64.wrap (Y.first + (Y.block : Int)))).1 ≠ 0 ∧ (w.heap.size ≤ b ∧ w.heap.size ≤ d) ∧ WkI w' (but O d) K { W with D := (D.rd (IntKind.i64.wrap (Y.first + (Y.block : Int)))).2, A := (W.A.grant W.D.size b).release b W.D.size } ∧ Turn K (fun _ => False) w w'
def ListEnd (count : Int) (n : Nat) (Y : Rd) (D : Dev.Dv) : Prop := (n : Int) = count ∨ ((n : Int) < count ∧ Y.at_ = Y.n ∧ (D.rd (IntKind.i64.wrap (Y.first + (Y.block : Int)))).1 ≠ 0)
def vlen : Value → Nat
  | .slice _ n _ => n
  | _ => 0
def ListLoop (w0 w2 : World) (O : Nat → Prop) (K : Key) (V : Wk) (x : Nat) (X Yf : Rd) (Df : Dev.Dv) (l : List Tup) (ov : Value) (wr : World) : Prop :=
  ∃ (k : Nat) (Y : Rd) (D : Dev.Dv) (a : Option Addr) (c : Nat), ov = .slice a k c ∧ k ≤ l.length ∧ Reads V X (l.take k) Y D ∧ Reads { V with D := D } Y (l.drop k) Yf Df ∧ WkI wr O K { V with D := D } ∧ RdAt wr O K { V with D := D } x Y ∧
    wr.ownsRow w0.heap.size 45 5 ov k (flatT (l.take k)) ∧ Turn K (fun q => w0.heap.size ≤ q) w2 wr
theorem Reads.tup5 {W : Wk} {X Y : Rd} {D : Dev.Dv} {l : List Tup} (h : Reads W X l Y D) (ho : X.Ok W.D.size) (hw : X.ws.length = W.D.size) (h1 : 1 ≤ X.width) (h5 : X.width ≤ 5) (h8 : 8 ≤ W.D.size) (hc : ((X.told + l.length : Nat) : Int) ≤ X.count) : ∀ t ∈ l, t.length = 5 := by
  induction l generalizing W X with
  | nil => exact fun t h => by cases h
  | cons t l ih =>
    obtain ⟨X2, D2, hl, h2, h3⟩ := h
    rw [List.length_cons] at hc
    have k1 := loads_kin hl
    obtain ⟨q1, q2, q3⟩ := hl.ok ho h1 h5 h8 (by omega)
    have hz : D2.size = W.D.size := k1.size
    have hr := q1.room (by rw [q3]; exact h1) q2
    have hws : X2.ws.length = W.D.size := by
      rcases hl with ⟨_, rfl, _⟩ | ⟨_, i, iN, wN, p, _, _, _, _, hp, _, _, rfl, _⟩
      · exact hw
      · show (over X.ws 0 p).length = _
        rw [over_length (by omega)]
        exact hw
    intro u hu
    rcases List.mem_cons.1 hu with rfl | hu
    · rw [h2]
      unfold Rd.tup
      rw [List.length_append, List.length_take, List.length_drop, hws]
      simp only [zeros, List.length_replicate]
      omega
    · exact ih (W := { W with D := D2 }) (X := X2.next) h3 (by show X2.next.Ok D2.size; rw [hz]; exact q1.next q2) (by show X2.ws.length = D2.size; rw [hz]; exact hws) (by rw [k1.width]; exact h1) (by rw [k1.width]; exact h5) (by show 8 ≤ D2.size; omega) (by rw [k1.told, k1.count]; omega) u hu

set_option maxRecDepth 100000 in
set_option maxHeartbeats 4000000 in
theorem list_told (Q : Nat → Nat → List Tup → Rd → Dev.Dv → Prop) (first blocks width count : Int) (hI : WkI w O K W) (hc : CanBe W.D.size blocks width count) (hn : W.D.size ≤ W.A.room - W.A.used)
    (hR : ∀ b d, ∃ l Y D, (l.length : Int) ≤ count ∧ Reads { W with A := W.A.grant W.D.size b } (rd0 first blocks width count W.D.size b d) l Y D ∧ ListEnd count l.length Y D ∧ Q b d l Y D) (hac : W.D.acts + count.toNat + 1 < 1099511627776) :
    Calls Try.prog 25 #[P K.wk, .agg (fvals first blocks width count)] w (fun e w' => ∃ l, ListYes Q w O K W count l e w' ∨ ListErr Q w O K W count l e w') := by
  have hbl : Below w.heap.size w (w.alloc (.cells (fvals first blocks width count) 32)) := (Below.refl _ _).alloc (Nat.le_refl _) _
  have hF := Blk.new w 32 (fvals first blocks width count)
  have HM := Lib.hid (open_ok first blocks width count (hI.below hbl) hc hn)
  have HT : Hid (Turn K (fun _ => False) w _) := Lib.hid (Turn.below hbl)
  have HI := Lib.hid (hI.below hbl)
  have HF := Lib.hid hF
  have HR := Lib.hid hR
  have HC := Lib.hid hc
  have HAC := Lib.hid hac
  have hz0 : w.heap.size < (w.alloc (.cells (fvals first blocks width count) 32)).heap.size := hF.lt
  unfold fvals at *
  clear hbl hF hI hR hc hac
  go_enter_defers Try.func25, Try.ntmps25
  go_wp2_with fail
  generalize w.alloc (.cells #[.int .i64 first, .int .i64 blocks, .int .i64 width, .int .i64 count] 32) = w1 at *
  have k0 : w1.cell? ⟨w.heap.size, 0, none⟩ = some (.int .i64 first) := HF.out.cell 0
  have k1 : w1.cell? ⟨w.heap.size, 1, none⟩ = some (.int .i64 blocks) := HF.out.cell 1
  have k2 : w1.cell? ⟨w.heap.size, 2, none⟩ = some (.int .i64 width) := HF.out.cell 2
  have k3 : w1.cell? ⟨w.heap.size, 3, none⟩ = some (.int .i64 count) := HF.out.cell 3
  go_wp2_with fail
  refine HM.out.mono ?_
  rintro e w2 ⟨x, b, d, rfl, hI2, hX2, q1, q2, q3, ht2⟩
  have HI2 := Lib.hid hI2
  have HX2 := Lib.hid hX2
  have HT2 := Lib.hid (HT.out.trans ht2)
  have HQ := Lib.hid (show w.heap.size ≤ x ∧ w.heap.size ≤ b ∧ w.heap.size ≤ d from ⟨by omega, by omega, by omega⟩)
  have hz2 : w.heap.size ≤ w2.heap.size := by have := ht2.size; omega
  clear hI2 hX2 ht2 HM HT HF HI k0 k1 k2 k3
  go_wp2_with fail
  obtain ⟨l, Yf, Df, hl, hR, hE, hqq⟩ := HR.out b d
  have HQQ := Lib.hid hqq
  clear hqq
  have HL := Lib.hid hl
  have HRD := Lib.hid hR
  have HE := Lib.hid hE
  have HR5 := Lib.hid (hR.tup5 (Rd.Ok.new _ _ _ _ _ _ _ HI2.out.size.1 HC.out.1 HC.out.2.2.1) (by simp [rd0, zeros]) HC.out.1 HC.out.2.1 HI2.out.size.1 (by show ((0 + l.length : Nat) : Int) ≤ count; rw [Nat.zero_add]; exact HL.out))
  clear hR HR hE hl
  have hcl : (rd0 first blocks width count W.D.size b d).closed = false := rfl
  obtain ⟨V, hV⟩ : ∃ V : Wk, V = { W with A := W.A.grant W.D.size b } := ⟨_, rfl⟩
  obtain ⟨X, hX⟩ : ∃ X : Rd, X = rd0 first blocks width count W.D.size b d := ⟨_, rfl⟩
  have hX' : X = ⟨first, blocks, width, count, b, d, 0, 0, 0, 0, false, zeros W.D.size⟩ := hX
  have HV := Lib.hid hV
  have HX := Lib.hid hX
  rw [← hV] at HI2 HX2 HRD
  rw [← hX'] at HX2
  rw [← hX] at HRD hcl
  clear hV hX hX'
  go_loopw [8] (fun ov wr => ListLoop w w2 (but O d) K V x X Yf Df l ov wr) (fun ov _ => l.length - vlen ov)
  case atStart => exact ⟨0, X, V.D, none, 0, rfl, by omega, ⟨rfl, rfl⟩, HRD.out, HI2.out, HX2.out, World.ownsRow_nil _ _ _ _, Turn.refl _ _ _⟩
  case round =>
    obtain ⟨k, Y, D, a, c, rfl, hk, hRa, hRb, hIk, hXk, hok, htk⟩ := hrel
    have hkk := hRa.kin
    have hYc : Y.closed = false := hkk.closed.trans hcl
    have hYt : Y.told = k := by
      have e1 := hkk.told
      rw [HX.out] at e1
      have e1' : Y.told = 0 + (l.take k).length := e1
      rw [e1', List.length_take]
      omega
    have hYn : Y.count = count := by
      have e2 := hkk.count
      rw [HX.out] at e2
      exact e2
    have hac2 : D.acts + 1 < 1099511627776 := by
      have e3 : D.acts ≤ V.D.acts + (l.take k).length := hkk.acts
      rw [List.length_take, HV.out] at e3
      have := HAC.out
      have := HL.out
      have e4 : ({ W with A := W.A.grant W.D.size b } : Wk).D.acts = W.D.acts := rfl
      omega
    have hYb : Y.buf = b := by
      have e2 := hkk.buf
      rw [HX.out] at e2
      exact e2
    have hYa : Y.arr = d := by
      have e2 := hkk.arr
      rw [HX.out] at e2
      exact e2
    have HOW : Hid (∀ q, OwnR x Y q → w.heap.size ≤ q) := Lib.hid (fun q hq => by
      have := HQ.out
      rcases hq with e | e | e
      · omega
      · rw [hYb] at e; omega
      · rw [hYa] at e; omega)
    have HYC := Lib.hid hYc
    have HYB := Lib.hid hYb
    clear hYa
    by_cases hkl : k < l.length
    · rw [List.drop_eq_getElem_cons hkl] at hRb
      obtain ⟨X1, D1, hload, htu, hRc⟩ := hRb
      have h8 : 8 ≤ V.D.size := HI2.out.size.1
      have hXw : X.width = width := by rw [HX.out]; rfl
      have hYo : Y.Ok V.D.size := hRa.ok (by rw [HX.out, HV.out]; exact Rd.Ok.new _ _ _ _ _ _ _ (by have := HI2.out.size.1; rw [HV.out] at this; exact this) HC.out.1 HC.out.2.2.1) (by rw [hXw]; exact HC.out.1) (by rw [hXw]; exact HC.out.2.1) h8 (by rw [HX.out, List.length_take]; show ((0 + min k l.length : Nat) : Int) ≤ count; have := HL.out; omega)
      have hds : D.size = V.D.size := hkk.size
      have hlt : (Y.told : Int) < Y.count := by rw [hYt, hYn]; have := HL.out; omega
      have hN := (next_live hIk hXk hYc (by show Y.Ok D.size; rw [hds]; exact hYo) hlt hload hac2).2
      have h5 : l[k].length = 5 := HR5.out _ (List.getElem_mem hkl)
      obtain ⟨u0, u1, u2, u3, u4, hu⟩ : ∃ u0 u1 u2 u3 u4 : Int, icells l[k] = [.int .i64 u0, .int .i64 u1, .int .i64 u2, .int .i64 u3, .int .i64 u4] := by
        match l[k], h5 with
        | [a, b, c, d, e], _ => exact ⟨_, _, _, _, _, rfl⟩
      have hX1k := loads_kin hload
      have hS := hRa.snoc hload
      rw [← htu] at hS
      have htk' : l.take k ++ [l[k]] = l.take (k + 1) := (List.take_succ_eq_append_getElem hkl).symm
      rw [htk'] at hS
      have hxe : (icells X1.tup).toArray = #[.int .i64 u0, .int .i64 u1, .int .i64 u2, .int .i64 u3, .int .i64 u4] := by rw [← htu, hu]
      have hfl : flatT (l.take k) ++ [.int .i64 u0, .int .i64 u1, .int .i64 u2, .int .i64 u3, .int .i64 u4] = flatT (l.take (k + 1)) := by rw [← htk', flatT_append, ← hu]; simp [flatT]
      have hwid : X1.next.width = Y.width := hX1k.width
      have hcou : X1.next.count = Y.count := hX1k.count
      have HN := Lib.hid hN
      have HXE := Lib.hid hxe
      have HFL := Lib.hid hfl
      have HS := Lib.hid hS
      have HRc := Lib.hid hRc
      have HIk := Lib.hid hIk
      have HXk := Lib.hid hXk
      have HOk := Lib.hid hok
      have HTk := Lib.hid htk
      have HX1 := Lib.hid hX1k
      have HW1 := Lib.hid hwid
      have HW2 := Lib.hid hcou
      clear hRa hRc hIk hXk hok htk hkk hN hxe hfl hS hX1k hload htu hu h5 htk' HI2 HX2 HRD hYo hds hlt hXw h8 hwid hcou hYt hYn hac2 hYb hYc
      go_wp2_with fail
      refine HN.out.mono ?_
      rintro e w3 ⟨rfl, hI3, hX3, hB3, ht3⟩
      rw [HXE.out]
      have HI3 := Lib.hid hI3
      have HX3 := Lib.hid hX3
      have HB3 := Lib.hid hB3
      have HT3 := Lib.hid ht3
      clear hI3 hX3 hB3 ht3 HN HXE
      have hO3 := own_tup HIk.out HT3.out HOk.out (fun g cs hg hh => by
        rcases hh with (e | e | e) | e
        · subst e; exact hg.ne_ HXk.out.blk (by decide) rfl
        · subst e; exact hg.ne_ (HXk.out.live HYC.out).blk (by decide) rfl
        · subst e; exact hg.ne_ (HXk.out.live HYC.out).row (by decide) rfl
        · have := hg.lt; omega)
      have hR3 : RdAt w3 (but O d) K { V with D := D1 } x X1.next := ⟨HX3.out, fun _ => by rw [HX1.out.buf, HX1.out.arr]; exact HB3.out, by rw [HW1.out]; exact HXk.out.width, by rw [HW2.out]; exact HXk.out.count⟩
      have hb5 : Below w3.heap.size w3 ((w3.alloc (.cells #[.int .i64 u0, .int .i64 u1, .int .i64 u2, .int .i64 u3, .int .i64 u4] 45)).alloc (.cells #[.int .i64 u0, .int .i64 u1, .int .i64 u2, .int .i64 u3, .int .i64 u4] 45)) := ((Below.refl _ _).alloc (Nat.le_refl _) _).alloc (by simp) _
      have hO5 := own_chg hO3 (Chg.of_below' (S := fun _ => False) hb5) (fun _ _ h => h)
      have hI5 := HI3.out.below hb5
      have hR5 := hR3.below HI3.out hb5
      have hrw := Row.new (w3.alloc (.cells #[.int .i64 u0, .int .i64 u1, .int .i64 u2, .int .i64 u3, .int .i64 u4] 45)) #[.int .i64 u0, .int .i64 u1, .int .i64 u2, .int .i64 u3, .int .i64 u4] 45 (0, 0)
      rw [show (w3.alloc (.cells #[.int .i64 u0, .int .i64 u1, .int .i64 u2, .int .i64 u3, .int .i64 u4] 45)).heap.size = w3.heap.size + 1 from by simp] at hrw
      have HRW := Lib.hid hrw
      have HO5 := Lib.hid hO5
      have HI5 := Lib.hid hI5
      have HR5' := Lib.hid hR5
      have HB5 := Lib.hid hb5
      have hkb : k < 100000000 := by have := HC.out.2.2.2.1; have := HL.out; omega
      have hsz3 : w.heap.size ≤ w3.heap.size := by have := HT3.out.size; have := HTk.out.size; omega
      clear hO3 hR3 hb5 hO5 hI5 hR5 hrw
      go_wp2_with (at_builtin; go_must (refine wpList_append rfl (.tmp 34) (.tmp 36) _ rfl el_tup w.heap.size (.slice a k c) k (flatT (l.take k)) rfl HO5.out _ 1 1 [.int .i64 u0, .int .i64 u1, .int .i64 u2, .int .i64 u3, .int .i64 u4] rfl rfl HRW.out (by intro u hu; simp at hu; rcases hu with rfl | rfl | rfl | rfl | rfl <;> rfl) (by unfold maxLen; omega) (by omega) (by simp; omega) ?_))
      intro v7 w7 hown7 hg7 hv7 hb7
      rw [HFL.out] at hown7
      obtain ⟨g7, c7, hv, _, _⟩ := World.ownsRow.form hown7 (by omega)
      have hc7 := Chg.of_grown hg7
      obtain ⟨hI7, hT7⟩ := aside_tup HI5.out HO5.out hc7
      have hne : ∀ g t cs, Blk ((w3.alloc (.cells #[.int .i64 u0, .int .i64 u1, .int .i64 u2, .int .i64 u3, .int .i64 u4] 45)).alloc (.cells #[.int .i64 u0, .int .i64 u1, .int .i64 u2, .int .i64 u3, .int .i64 u4] 45)) g t cs → t ≠ 45 → ¬ some g = (Value.slice a k c).ownBlock := fun g t cs hg ht e => by
        obtain ⟨_, cs', hb⟩ := own_blk HO5.out e.symm
        exact hg.ne_ hb ht rfl
      have hR7 := HR5'.out.turn HI5.out hT7 (hne _ _ _ HR5'.out.blk (by decide)) (fun hc => hne _ _ _ (HR5'.out.live hc).blk (by decide)) (fun hc => hne _ _ _ (HR5'.out.live hc).row (by decide)) (fun _ h => h) rfl (fun _ h _ => h)
      have hTT : Turn K (fun q => w.heap.size ≤ q) w2 w7 := ((HTk.out.trans (HT3.out.mono (fun q hq => by
        rcases hq with h | h
        · exact HOW.out q h
        · have := HTk.out.size; omega))).trans (Turn.below HB5.out)).trans (hT7.mono (fun q hq => (own_blk HO5.out hq.symm).1))
      have HT7 := Lib.hid hTT
      have HI7 := Lib.hid hI7
      have HR7 := Lib.hid hR7
      have HO7 := Lib.hid hown7
      subst hv
      clear hTT hI7 hR7 hown7 hg7 hv7 hb7 hc7 hne hT7 HO5 HRW HI5 HR5' HB5 HT3 HTk HI3 HX3 HB3 HOk HXk HIk
      generalize hWW : ((w3.alloc (.cells #[.int .i64 u0, .int .i64 u1, .int .i64 u2, .int .i64 u3, .int .i64 u4] 45)).alloc (.cells #[.int .i64 u0, .int .i64 u1, .int .i64 u2, .int .i64 u3, .int .i64 u4] 45)) = w5 at *
      clear hWW
      go_wp2_with fail
      go_roundw
      case rel => exact ⟨k + 1, X1.next, D1, _, _, rfl, by omega, HS.out, HRc.out, HI7.out, HR7.out, HO7.out, HT7.out⟩
      case measure => simp [vlen]; omega
    · have hke : k = l.length := by omega
      subst hke
      rw [List.take_length] at hRa hok
      rw [List.drop_length] at hRb
      obtain ⟨rfl, hDf⟩ := hRb
      obtain rfl : Df = D := hDf
      have HRa := Lib.hid hRa
      have HIk := Lib.hid hIk
      have HXk := Lib.hid hXk
      have HOk := Lib.hid hok
      have HTk := Lib.hid htk
      have HYT := Lib.hid hYt
      have HYN := Lib.hid hYn
      clear hRa hIk hXk hok htk hkl hkk HI2 HX2 HRD hYt hYn hYc hYb
      rcases HE.out with hend | ⟨hless, hat, hrd⟩
      · have HN := Lib.hid (next_end HXk.out HYC.out (by rw [HYT.out, HYN.out]; exact hend))
        have HEND := Lib.hid hend
        clear hend hac2
        go_wp2_with fail
        refine HN.out.mono ?_
        rintro e w3 ⟨rfl, hb3⟩
        have HB3 := Lib.hid hb3
        clear hb3 HN
        unfold zero5
        have hb4 : Below w3.heap.size w3 (w3.alloc (.cells #[.int .i64 0, .int .i64 0, .int .i64 0, .int .i64 0, .int .i64 0] 45)) := (Below.refl _ _).alloc (Nat.le_refl _) _
        have HB4 := Lib.hid (HB3.out.trans (hb4.mono HB3.out.size))
        clear hb4
        go_wp2_with fail
        generalize w3.alloc (.cells #[.int .i64 0, .int .i64 0, .int .i64 0, .int .i64 0, .int .i64 0] 45) = w4 at *
        have hI4 := HIk.out.below HB4.out
        have hX4 := HXk.out.below HIk.out HB4.out
        have hO4 := own_chg HOk.out (Chg.of_below' (S := fun _ => False) HB4.out) (fun _ _ h => h)
        refine ⟨(fun h => by cases h), _, _, _, _, rfl, rfl, (rclose_d hI4 hX4 HYC.out).mono ?_⟩
        rintro e u' w5 ⟨rfl, rfl, hI5, hX5, ht5⟩
        refine ⟨_, results_tmp2 rfl _ _ _, l, .inl ?_⟩
        have hO5 := own_tup hI4 ht5 hO4 (fun g cs hg hh => by
          rcases hh with e | e | e
          · subst e; exact hg.ne_ hX4.blk (by decide) rfl
          · subst e; exact hg.ne_ (hX4.live HYC.out).blk (by decide) rfl
          · subst e; exact hg.ne_ (hX4.live HYC.out).row (by decide) rfl)
        have hTT : Turn K (fun q => w.heap.size ≤ q) w w5 := ((HT2.out.mono (fun _ h => h.elim)).trans (HTk.out.trans (Turn.below HB4.out))).trans (ht5.mono (fun q hq => HOW.out q hq))
        have hds : Df.size = W.D.size := by have := HRa.out.kin.size; rw [HV.out] at this; exact this
        refine ⟨_, b, d, Yf, Df, rfl, hO5, HQQ.out, hds, HEND.out, HQ.out.2, ?_, turn_fresh hTT (fun _ h => h)⟩
        · have := hI5
          rw [HYB.out, HV.out] at this
          rw [← hds]
          rw [← hds] at this
          exact this
      · have HN := Lib.hid (next_bad HIk.out HXk.out HYC.out (by rw [HYT.out, HYN.out]; exact hless) hat (er := (Df.rd (IntKind.i64.wrap (Yf.first + (Yf.block : Int)))).1) (D1 := (Df.rd (IntKind.i64.wrap (Yf.first + (Yf.block : Int)))).2) hrd (Dev.rd_kin _ _).size (fun w2 h1 h2 => load_err h1 h2 rfl hrd hac2))
        have HEND := Lib.hid (And.intro hless hat)
        have HRDN := Lib.hid hrd
        have hne : ((Df.rd (IntKind.i64.wrap (Yf.first + (Yf.block : Int)))).1 != 0) = true := by simpa using hrd
        generalize her : (Df.rd (IntKind.i64.wrap (Yf.first + (Yf.block : Int)))).1 = er at *
        have HER := Lib.hid her
        clear hless hat hrd hac2 her
        go_wp2_with fail
        refine HN.out.mono ?_
        rintro e w3 ⟨rfl, hI3, hX3, ht3⟩
        have HI3 := Lib.hid hI3
        have HX3 := Lib.hid hX3
        have HT3 := Lib.hid ht3
        clear hI3 hX3 ht3 HN
        unfold zero5
        have hb4 : Below w3.heap.size w3 (w3.alloc (.cells #[.int .i64 0, .int .i64 0, .int .i64 0, .int .i64 0, .int .i64 0] 45)) := (Below.refl _ _).alloc (Nat.le_refl _) _
        have HB4 := Lib.hid hb4
        clear hb4
        go_wp2_with fail
        generalize w3.alloc (.cells #[.int .i64 0, .int .i64 0, .int .i64 0, .int .i64 0, .int .i64 0] 45) = w4 at *
        have hI4 := HI3.out.below HB4.out
        have hX4 := HX3.out.below HB4.out HX3.out.lt
        refine ⟨(fun h => by cases h), _, _, _, _, rfl, rfl, (rclose_closed_d hX4 rfl).mono ?_⟩
        rintro e u' w5 ⟨rfl, rfl, rfl⟩
        refine ⟨_, results_tmp2 rfl _ _ _, l, .inr ?_⟩
        have hTT : Turn K (fun q => w.heap.size ≤ q) w w4 := ((HT2.out.mono (fun _ h => h.elim)).trans (HTk.out.trans (HT3.out.mono (fun q hq => by
          rcases hq with h | h
          · exact HOW.out q h
          · have := HTk.out.size; omega)))).trans (Turn.below HB4.out)
        have hds : Df.size = W.D.size := by have := HRa.out.kin.size; rw [HV.out] at this; exact this
        refine ⟨b, d, Yf, Df, (by rw [HER.out]; rfl), HQQ.out, hds, HEND.out.1, HEND.out.2, by rw [HER.out]; exact HRDN.out, HQ.out.2, ?_, turn_fresh hTT (fun _ h => h)⟩
        · have := hI4
          rw [HYB.out, HV.out] at this
          rw [← hds]
          rw [← hds] at this
          exact this
end

end Go.Proofs.Ytmmkncocgjgapaa.Fl

/- How many blocks are free: as many as there are marks; what Take and Give do to that number. -/
namespace Go.Proofs.Ytmmkncocgjgapaa.Sp
open Go.RowKit

theorem countP_or_ {α : Type} (p q r : α → Bool) : ∀ (l : List α), (∀ x ∈ l, p x = (q x || r x)) → (∀ x ∈ l, ¬ (q x = true ∧ r x = true)) → l.countP p = l.countP q + l.countP r := by
  intro l
  induction l with
  | nil => intro _ _; rfl
  | cons a l ih =>
    intro h1 h2
    rw [List.countP_cons, List.countP_cons, List.countP_cons, ih (fun x hx => h1 x (List.mem_cons_of_mem _ hx)) (fun x hx => h2 x (List.mem_cons_of_mem _ hx)), h1 a (List.mem_cons_self ..)]
    have := h2 a (List.mem_cons_self ..)
    cases hq : q a <;> cases hr : r a <;> simp_all <;> omega
theorem count_range (p m : Nat) : ∀ N : Nat, (List.range N).countP (fun b => decide (p ≤ b ∧ b < p + m)) = min N (p + m) - min N p := by
  intro N
  induction N with
  | zero => simp
  | succ N ih =>
    rw [List.range_succ, List.countP_append, ih, List.countP_cons, List.countP_nil]
    by_cases h : p ≤ N ∧ N < p + m
    · rw [if_pos (by simpa using h)]; omega
    · rw [if_neg (by simpa using h)]; omega
open Classical in
noncomputable def cntF (L : List Ext) (N : Nat) : Nat := (List.range N).countP (fun b => decide (Fr L b))
open Classical in
theorem sumX_cnt (N : Nat) : ∀ (L : List Ext), (L.Pairwise fun x y => x.1 + x.2 < y.1) → (∀ e ∈ L, e.1 + e.2 ≤ N) → sumX L = cntF L N := by
  intro L
  induction L with
  | nil =>
    intro _ _
    unfold cntF sumX
    rw [List.countP_eq_zero.2]
    · rfl
    · intro b _
      have := Fr_nil b
      simpa using this
  | cons e L ih =>
    intro hp hN
    rw [List.pairwise_cons] at hp
    have h1 := ih hp.2 (fun f hf => hN f (List.mem_cons_of_mem _ hf))
    have h2 := hN e (List.mem_cons_self ..)
    have h3 := countP_or_ (fun b => decide (Fr (e :: L) b)) (fun b => decide (e.1 ≤ b ∧ b < e.1 + e.2)) (fun b => decide (Fr L b)) (List.range N) (fun b _ => by
      have := Fr_cons e L b
      unfold In at this
      by_cases ha : e.1 ≤ b ∧ b < e.1 + e.2 <;> by_cases hb : Fr L b <;> simp_all) (fun b _ h => by
      simp only [decide_eq_true_eq] at h
      obtain ⟨⟨ha, hb⟩, f, hf, hc⟩ := h
      have := hp.1 f hf
      unfold In at hc
      omega)
    have h4 := count_range e.1 e.2 N
    have h5 : sumX (e :: L) = e.2 + sumX L := by unfold sumX; simp
    unfold cntF at h1 ⊢
    rw [h3, h4, h5, h1]
    omega
theorem cntF_cut {L L' : List Ext} {p m N : Nat} (hN : p + m ≤ N) (h : ∀ b, Fr L' b ↔ Fr L b ∧ ¬ (p ≤ b ∧ b < p + m)) (hr : Room L p m) : cntF L' N + m = cntF L N := by
  classical
  have h3 := countP_or_ (fun b => decide (Fr L b)) (fun b => decide (p ≤ b ∧ b < p + m)) (fun b => decide (Fr L' b)) (List.range N) (fun b _ => by
    have h1 := h b
    have h2 := hr b
    by_cases ha : p ≤ b ∧ b < p + m <;> by_cases hb : Fr L b <;> simp_all) (fun b _ hh => by
    simp only [decide_eq_true_eq] at hh
    have := (h b).1 hh.2
    exact this.2 hh.1)
  have h4 := count_range p m N
  unfold cntF
  have e1 : (List.range N).countP (fun b => decide (Fr L b)) = (List.range N).countP (fun b => @decide (Fr L b) (Classical.propDecidable _)) := by congr
  rw [h3, h4]
  omega
theorem sumX_cut {B : Nat} {L L' : List Ext} {p m : Nat} (hI : Inv 0 B L) (hI' : Inv 0 B L') (hN : p + m ≤ B) (h : ∀ b, Fr L' b ↔ Fr L b ∧ ¬ (p ≤ b ∧ b < p + m)) (hr : Room L p m) : sumX L' + m = sumX L := by
  rw [sumX_cnt B L hI.apart (fun e he => by have := hI.ok e he; omega), sumX_cnt B L' hI'.apart (fun e he => by have := hI'.ok e he; omega)]
  exact cntF_cut hN h hr
theorem same_fr {B : Nat} {L L' : List Ext} (hI : Inv 0 B L) (hI' : Inv 0 B L') (h : ∀ b, Fr L' b ↔ Fr L b) : L' = L :=
  inv_unique L' L hI'.apart hI.apart (fun e he => (hI'.ok e he).1) (fun e he => (hI.ok e he).1) h

/-- What was taken is given back. -/
theorem take_give {B : Nat} {L L' L'' : List Ext} {p m : Nat} {er : Int} (hI : Inv 0 B L) (ht : TakeRel L 0 B (m : Int) (p : Int) 0 L') (hg : GiveRel L' 0 B (p : Int) (m : Int) er L'') : er = 0 ∧ L'' = L := by
  obtain ⟨hI', h⟩ := take_spec hI ht
  rcases h with ⟨_, _, h, _⟩ | ⟨_, _, _, _, _, _, h, _⟩ | ⟨m', p', e1, e2, _, h1, h2, h3, h4, _, h5, _⟩
  · cases h
  · cases h
  · obtain rfl : m = m' := by omega
    obtain rfl : p = p' := by omega
    obtain ⟨hI'', hg⟩ := give_spec hI' hg
    rcases hg with ⟨_, _, hn⟩ | ⟨rfl, _, hf⟩
    · exact absurd ⟨by omega, by omega, by omega, fun b hb1 hb2 hF => ((h5 b).1 hF).2 ⟨by omega, by omega⟩⟩ hn
    · refine ⟨rfl, same_fr hI hI'' (fun b => ?_)⟩
      rw [hf b, h5 b]
      constructor
      · rintro (⟨h, _⟩ | ⟨ha, hb⟩)
        · exact h
        · exact h4 b (by omega) (by omega)
      · intro h
        by_cases hb : p ≤ b ∧ b < p + m
        · exact .inr ⟨by omega, by omega⟩
        · exact .inl ⟨h, hb⟩

end Go.Proofs.Ytmmkncocgjgapaa.Sp

/- Lay and List in plain words, on devices whose power doesn't fail. -/
namespace Go.Proofs.Ytmmkncocgjgapaa.Fl
open Go.RowKit

theorem grant_release {A : Arena.Ar} {n b : Nat} (hb : ∀ p ∈ A.st, p.1 ≠ b) : (A.grant n b).release b n = { A with peak := max A.peak (A.used + n) } := by
  unfold Arena.Ar.grant Arena.Ar.release
  simp only [Nat.add_sub_cancel, Arena.Ar.mk.injEq, true_and]
  rw [List.filter_append]
  have h1 : A.st.filter (fun p => decide (p.1 ≠ b)) = A.st := List.filter_eq_self.2 (fun p hp => by simpa using hb p hp)
  rw [h1]
  simp
/-- The set of a device's rows behind a call. -/
def Okin (w w' : World) (O O' : Nat → Prop) : Prop := (∀ g, w'.heap.size ≤ g → O' g) ∧ ∀ g, g < w.heap.size → O' g → O g
theorem Okin.trans {w w1 w2 : World} {O O1 O2 : Nat → Prop} (h : Okin w w1 O O1) (h' : Okin w1 w2 O1 O2) (hs : w.heap.size ≤ w1.heap.size) : Okin w w2 O O2 := ⟨h'.1, fun g hg hO => h.2 g hg (h'.2 g (by omega) hO)⟩
theorem Okin.refl {w w' : World} {O : Nat → Prop} (hs : w.heap.size ≤ w'.heap.size) (h : ∀ g, w.heap.size ≤ g → O g) : Okin w w' O O := ⟨fun g hg => h g (by omega), fun _ _ h => h⟩
/-- All blocks that come are the device's. -/
def onto (w : World) (O : Nat → Prop) (g : Nat) : Prop := O g ∨ w.heap.size ≤ g
section
variable {w w' : World} {O : Nat → Prop} {K : Key} {W : Wk}
theorem WkI.onto (h : WkI w O K W) : WkI w (Fl.onto w O) K W := h.mono (fun g _ hO => .inl hO) (fun g hg => by
  rcases hg with hg | hg
  · exact h.out.2 g hg
  · have := h.out.1
    have := h.box.lt
    omega)
theorem okin_but {d : Nat} (hs : w.heap.size ≤ w'.heap.size) : Okin w w' O (Fl.onto w' (but O d)) := ⟨fun g hg => .inr hg, fun g hg h => by
  rcases h with h | h
  · exact h.1
  · omega⟩
theorem WkI.st_ne (h : WkI w O K W) {b : Nat} (hb : w.heap.size ≤ b) : ∀ p ∈ W.A.st, p.1 ≠ b := fun p hp => by
  obtain ⟨cs, hx⟩ := h.arn.bufs p hp
  have := hx.lt
  omega
end

def TookN (L : List Sp.Ext) (B n first : Nat) (L' : List Sp.Ext) : Prop := (n = 0 ∧ first = 0 ∧ L' = L) ∨ (0 < n ∧ Sp.TakeRel L 0 B (n : Int) (first : Int) 0 L')
/-- What a taken extent is. -/
structure Took (L : List Sp.Ext) (B n first : Nat) (L' : List Sp.Ext) : Prop where
  inv : Sp.Inv 0 B L'
  fr : ∀ b, Sp.Fr L' b ↔ Sp.Fr L b ∧ ¬ (first ≤ b ∧ b < first + n)
  room : ∀ b, first ≤ b → b < first + n → Sp.Fr L b
  fit : first + n ≤ B ∨ n = 0
  least : 0 < n → ∀ q, q < first → ¬ Sp.Room L q n
  zero : n = 0 → first = 0 ∧ L' = L
theorem TookN.spec {L L' : List Sp.Ext} {B n first : Nat} (hI : Sp.Inv 0 B L) (h : TookN L B n first L') : Took L B n first L' := by
  rcases h with ⟨rfl, rfl, rfl⟩ | ⟨h0, ht⟩
  · exact ⟨hI, fun b => ⟨fun h => ⟨h, by omega⟩, fun h => h.1⟩, fun b _ _ => by omega, .inr rfl, fun h => absurd h (by omega), fun _ => ⟨rfl, rfl⟩⟩
  · obtain ⟨hI', h⟩ := Sp.take_spec hI ht
    rcases h with ⟨_, _, h, _⟩ | ⟨_, _, _, _, _, _, h, _⟩ | ⟨m', p', e1, e2, _, h1, h2, h3, h4, h6, h5, _⟩
    · cases h
    · cases h
    · obtain rfl : n = m' := by omega
      obtain rfl : first = p' := by omega
      exact ⟨hI', h5, h4, .inl (by omega), fun _ => h6, fun e => by omega⟩
theorem TookN.sum {L L' : List Sp.Ext} {B n first : Nat} (hI : Sp.Inv 0 B L) (h : Took L B n first L') : Sp.sumX L' + n = Sp.sumX L := by
  rcases Nat.eq_zero_or_pos n with h0 | h0
  · obtain ⟨_, e⟩ := h.zero h0
    rw [e, h0]; omega
  · refine Sp.sumX_cut hI h.inv ?_ h.fr h.room
    rcases h.fit with h | h
    · exact h
    · omega

structure LaidOk (W : Wk) (wN : Nat) (l : List Tup) (first : Nat) (W' : Wk) : Prop where
  fits : FitsW wN l
  took : TookN W.L W.B (nB W.D.size wN l.length) first W'.L
  B : W'.B = W.B
  arn : W'.A = { W.A with peak := max W.A.peak (W.A.used + W.D.size) }
  goes : Goes W.D W'.D (nB W.D.size wN l.length)
  lies : Lies W'.D wN first (nB W.D.size wN l.length) l
  now : ∀ i : Int, (∀ j, j < nB W.D.size wN l.length → i ≠ ((first + j : Nat) : Int)) → W'.D.now i = W.D.now i
structure LaidNo (W : Wk) (wN : Nat) (l : List Tup) (er : Int) (W' : Wk) : Prop where
  why : (er = 5 ∧ 0 < nB W.D.size wN l.length ∧ ∀ p, ¬ Sp.Room W.L p (nB W.D.size wN l.length)) ∨ (er = 1 ∧ ¬ FitsW wN l ∧ (0 < nB W.D.size wN l.length → ∃ p, Sp.Room W.L p (nB W.D.size wN l.length))) ∨ (er = 6 ∧ W.D.fault ≠ -1)
  L : W'.L = W.L
  B : W'.B = W.B
  arn : W'.A = { W.A with peak := max W.A.peak (W.A.used + W.D.size) }
  size : W'.D.size = W.D.size
  blocks : W'.D.blocks = W.D.blocks
  sure : Sure W'.D
  acts : W'.D.acts ≤ W.D.acts + l.length
  fault : W.D.fault = -1 → W'.D.fault = -1
  now : ∀ i : Int, (∀ b : Nat, Sp.Fr W.L b → i ≠ (b : Int)) → W'.D.now i = W.D.now i

theorem putsOk_fits {W : Wk} {X : Wr} {l : List Tup} (h : putsOk W X l) : ∀ t ∈ l, Crc.zeroW (t.drop X.width) = true := by
  induction l generalizing W X with
  | nil => exact fun t ht => by cases ht
  | cons a l ih =>
    obtain ⟨⟨h1, _⟩, h2⟩ := h
    intro t ht
    rcases List.mem_cons.1 ht with rfl | ht
    · exact h1
    · have := ih h2 t ht
      rw [(next_same X W a).2.2.1] at this
      exact this

/-- How Lay ends, in plain words. -/
def LayC (w : World) (O : Nat → Prop) (K : Key) (W : Wk) (wN : Nat) (l : List Tup) (e : Ending) (w' : World) : Prop :=
  ∃ W' O', Okin w w' O O' ∧ WkI w' O' K W' ∧ Turn K (fun _ => False) w w' ∧
    ((∃ first, e = .returned (.tuple #[.agg (fcells first (nB W.D.size wN l.length) wN l.length), .int .i64 0]) ∧ LaidOk W wN l first W') ∨
     (∃ er, e = .returned (.tuple #[.agg noFile, .int .i64 er]) ∧ LaidNo W wN l er W'))

section
variable {w w' : World} {O : Nat → Prop} {K : Key} {W : Wk}
theorem lay_plain {wN : Nat} {l : List Tup} {e : Ending} (hI : WkI w O K W) (hs : Sure W.D) (hB : W.B ≤ W.D.blocks) (h1 : 1 ≤ wN) (h5 : wN ≤ 5) (ht5 : ∀ t ∈ l, t.length = 5) (hl : l.length ≤ 100000000) (h : LayTold w O K W wN l e w') : LayC w O K W wN l e w' := by
  obtain ⟨s8, s256⟩ := hI.size
  have hp := hN_pos s8 h1 h5
  obtain ⟨c1, c2⟩ := nB_cap (size := W.D.size) (wN := wN) (count := l.length) hp
  have hble := nB_le (size := W.D.size) (wN := wN) (count := l.length) hp
  obtain ⟨b, d, hbs, hds, ht, h⟩ := h
  have hgr := grant_release (n := W.D.size) (hI.st_ne hbs)
  rw [nB_eq s8 h1 h5] at h
  generalize hnb : nB W.D.size wN l.length = n at *
  rcases h with ⟨r, er, L', h0, htk, her, rfl, hI'⟩ | ⟨first, L', htk, hE⟩
  · obtain ⟨hI2, hsp⟩ := Sp.take_spec hI.inv htk
    rcases hsp with ⟨hh, _⟩ | ⟨m, hm, _, _, hno, _, h5', rfl⟩ | ⟨_, _, _, _, hh, _⟩
    · omega
    · obtain rfl : n = m := by omega
      rw [hgr] at hI'
      exact ⟨_, _, okin_but ht.size, hI'.onto, ht, .inr ⟨er, rfl, .inl ⟨h5', by rw [hnb]; omega, by rw [hnb]; exact hno⟩, rfl, rfl, rfl, rfl, rfl, hs, Nat.le_add_right _ _, id, fun _ _ => rfl⟩⟩
    · exact absurd hh her
  · have htk' : TookN W.L W.B n first L' := by
      rcases htk with ⟨h0, h2, h3⟩ | ⟨h0, h2⟩
      · exact .inl ⟨by omega, h2, h3⟩
      · exact .inr ⟨by omega, h2⟩
    have hT := htk'.spec hI.inv
    have hroom : 0 < n → ∃ p, Sp.Room W.L p n := fun _ => ⟨first, hT.room⟩
    rw [Int.toNat_natCast] at hE
    have hnew : (fresh W.D.size first n wN l.length b d).Has W.D [] := Wr.Has.new b d first n wN l.length s8 h1 h5 (by rw [nB_eq s8 h1 h5, hnb])
    generalize hV : ({ W with A := W.A.grant W.D.size b, L := L' } : Wk) = V at hE
    have hVD : V.D = W.D := by rw [← hV]
    have hVA : V.A = W.A.grant W.D.size b := by rw [← hV]
    have hVL : V.L = L' := by rw [← hV]
    have hVB : V.B = W.B := by rw [← hV]
    generalize hX : fresh W.D.size first n wN l.length b d = X at *
    have hXw : X.width = wN := by rw [← hX]; rfl
    have hXf : X.first = first := by rw [← hX]; rfl
    have hXa : X.at_ = 0 := by rw [← hX]; rfl
    have hXc : X.count = 0 := by rw [← hX]; rfl
    have hXn : X.blocks = n := by rw [← hX]; rfl
    have hXb : X.bound = l.length := by rw [← hX]; rfl
    have hXbf : X.buf = b := by rw [← hX]; rfl
    rw [← hVD] at hnew
    -- behind the first k tuples
    have key : ∀ m : List Tup, (∃ r, l = m ++ r) → putsOk V X m → PutsHas V X [] m (puts V X m) ∧ PutsKin V X m.length (puts V X m) ∧ (puts V X m).1.at_ * hN W.D.size wN ≤ m.length ∧ (puts V X m).2.size = W.D.size := fun m hm hok => by
      obtain ⟨r, hr⟩ := hm
      have hml : m.length ≤ l.length := by rw [hr, List.length_append]; omega
      have h := puts_has (l0 := []) hnew (by rw [hVD]; exact s8) (by omega) (by omega) (fun t ht => ht5 t (by rw [hr]; exact List.mem_append_left _ ht)) (by rw [hXc, hXb]; omega) hok
      have hk := puts_kin V X m
      obtain ⟨k, _, _, hc⟩ := h.has.ok.part
      have hsz : (puts V X m).2.size = W.D.size := by rw [hk.size, hVD]
      rw [hk.width, hXw, hsz, hk.count, hXc] at hc
      exact ⟨h, hk, by omega, hsz⟩
    have quiet : ∀ (m : List Tup) (D' : Dev.Dv), (∃ r, l = m ++ r) → PutsHas V X [] m (puts V X m) → (puts V X m).1.at_ * hN W.D.size wN ≤ m.length → D'.now = (puts V X m).2.now → ∀ i : Int, (∀ b : Nat, Sp.Fr W.L b → i ≠ (b : Int)) → D'.now i = W.D.now i := fun m D' hm h hat hn i hi => by
      obtain ⟨r, hr⟩ := hm
      have hml : m.length ≤ l.length := by rw [hr, List.length_append]; omega
      have hatn : (puts V X m).1.at_ ≤ n := Nat.le_of_mul_le_mul_right (show (puts V X m).1.at_ * hN W.D.size wN ≤ n * hN W.D.size wN by omega) (by omega)
      rw [hn, ← hVD]
      refine h.now i (fun j _ hj => ?_)
      rw [hXf]
      exact hi _ (hT.room _ (by omega) (by omega))
    have wrote : ∀ (m : List Tup) (Y : Wr), (∃ r, l = m ++ r) → PutsHas V X [] m (puts V X m) → PutsKin V X m.length (puts V X m) → Y.first = first → Y.width = wN → Y.at_ = (puts V X m).1.at_ → Y.at_ < n → (Y.ws.take Y.n).length + 2 ≤ W.D.size → (Y.wrote { V with D := (puts V X m).2 }).1 ≠ 0 →
        (puts V X m).2.fault = 0 ∧ (Y.wrote { V with D := (puts V X m).2 }).1 = 6 ∧ Felt (puts V X m).2 (Y.wrote { V with D := (puts V X m).2 }).2 := fun m Y hm h hk hY1 hY2 hY3 hY4 hY5 h0 => by
      have hg := h.goes
      have hsz : (puts V X m).2.size = W.D.size := by rw [hk.size, hVD]
      have hsu : Sure (puts V X m).2 := hg.sure (by rw [hVD]; exact hs)
      have hbl : (puts V X m).2.blocks = W.D.blocks := by rw [hg.blocks, hVD]
      have hfit : first + n ≤ W.B := by
        rcases hT.fit with h | h
        · exact h
        · omega
      have := sure_wr (i := ((Y.first + Y.at_ : Nat) : Int)) (ws := sealed (Y.ws.take Y.n) (puts V X m).2.size Y.width (Y.first + Y.at_)) hsu (by omega) (by rw [hbl, hY1]; omega) (sealed_length (by rw [hsz]; exact hY5))
      rcases this with h1 | h1
      · exact absurd h1 h0
      · exact h1
    rcases hE with ⟨hok, hlw, L'', rfl, hg, hI'⟩ | ⟨er, L'', D', her, rfl, hg, hI', hw⟩
    · obtain ⟨hP, hk, hat, hsz⟩ := key l ⟨[], by simp⟩ hok
      have hPw : (puts V X l).1.width = wN := by rw [hk.width, hXw]
      have hPf : (puts V X l).1.first = first := by rw [hk.first, hXf]
      have hhas := hP.has
      rw [List.nil_append] at hhas
      obtain ⟨q1, q2, q3, q4⟩ := Wr.Has.last (W := { V with D := (puts V X l).2 }) hhas (by show 8 ≤ (puts V X l).2.size; omega) (by omega) (by omega) hlw
      obtain ⟨g1, g2⟩ := last_goes hlw
      have q2' : ((puts V X l).1.last { V with D := (puts V X l).2 }).1.at_ = n := by
        rw [q2]
        show nB (puts V X l).2.size (puts V X l).1.width l.length = n
        rw [hsz, hPw, hnb]
      obtain ⟨l1, l2, l3, l4, l5, l6, l7, l8⟩ := last_same (puts V X l).1 { V with D := (puts V X l).2 }
      have hgv : L'' = L' := by
        rcases hg with ⟨_, e⟩ | ⟨h, _⟩
        · rw [e, hVL]
        · rw [q2', hXn] at h; omega
      subst hgv
      rw [hXbf] at hI'
      refine ⟨_, _, okin_but ht.size, hI'.onto, ht, .inl ⟨first, ?_, ?_, ?_, ?_, ?_, ?_, ?_, ?_⟩⟩
      · have hfz : (if n = 0 then 0 else first) = first := by
          split
          · rename_i hn0
            exact (hT.zero hn0).1.symm
          · rfl
        unfold Wr.file Wr.shut
        simp only [q2', l3, l4, hPw, hk.count, hXc, Nat.zero_add, l1, hPf, hfz, hnb]
      · exact fun t ht => ⟨ht5 t ht, by have := putsOk_fits hok t ht; rw [hXw] at this; exact this⟩
      · rw [hnb]; exact htk'
      · exact hVB
      · show V.A.release b V.D.size = _
        rw [hVA, hVD]; exact hgr
      · have := hP.goes.trans g2
        rw [q2', hXa, show (puts V X l).1.at_ - 0 + (n - (puts V X l).1.at_) = n from by rw [q2'] at g1; omega, hVD] at this
        rw [hnb]
        exact this
      · rw [hPw, hPf, q2'] at q1
        rw [hnb]
        exact q1
      · intro i hi
        rw [hnb] at hi
        have e1 := q4 i (fun j hj => by rw [hPf]; exact hi j (by omega))
        refine e1.trans ?_
        have e2 := hP.now i (fun j _ hj => by rw [hXf]; exact hi j (by rw [q2'] at g1; omega))
        rw [hVD] at e2
        exact e2
    · have hgL : L'' = W.L := by
        rcases hg with ⟨h0, e⟩ | ⟨h0, er', hgr'⟩
        · rw [e, hVL]
          exact (hT.zero (by omega)).2
        · rw [hVL, hVB, hXf, hXn] at hgr'
          rcases htk' with ⟨h, _⟩ | ⟨_, h⟩
          · omega
          · exact (Sp.take_give hI.inv h hgr').2
      rw [hXbf, hVA, hVD] at hI'
      subst hgL
      have fin : ∀ (m : List Tup), (∃ r, l = m ++ r) → putsOk V X m → ((er = 1 ∧ ¬ FitsW wN l ∧ D' = (puts V X m).2) ∨ (er = 6 ∧ W.D.fault ≠ -1 ∧ Felt (puts V X m).2 D')) → LaidNo W wN l er { V with D := D', A := (W.A.grant W.D.size b).release b W.D.size, L := W.L } := fun m hm hok hh => by
        obtain ⟨hP, hk, hat, hsz⟩ := key m hm hok
        have hgoes := hP.goes
        have hacts : (puts V X m).2.acts ≤ W.D.acts + l.length := by
          have := hk.acts
          rw [hVD] at this
          obtain ⟨r, hr⟩ := hm
          rw [hr, List.length_append]
          omega
        rcases hh with ⟨h1', h2', rfl⟩ | ⟨h1', h2', hf⟩
        · exact ⟨.inr (.inl ⟨h1', h2', by rw [hnb]; exact hroom⟩), rfl, hVB, hgr, hsz, by rw [← hVD]; exact hgoes.blocks, hgoes.sure (by rw [hVD]; exact hs), hacts, fun hf => hgoes.fault (by rw [hVD]; exact hf), quiet m _ hm hP hat rfl⟩
        · exact ⟨.inr (.inr ⟨h1', h2'⟩), rfl, hVB, hgr, hf.size.trans hsz, by rw [← hVD]; exact hf.blocks.trans hgoes.blocks, hf.sure, (by show D'.acts ≤ _; rw [hf.acts]; exact hacts), fun _ => hf.fault, quiet m _ hm hP hat hf.now⟩
      refine ⟨_, _, okin_but ht.size, hI'.onto, ht, .inr ⟨er, rfl, ?_⟩⟩
      rcases hw with ⟨k, hk, hok, hz, he, hD⟩ | ⟨k, hk, hok, hz, he, hD⟩ | ⟨hok, hn0, he, hD⟩
      · have hnf : ¬ FitsW wN l := fun hf => by
          have := (hf _ (List.getElem_mem hk)).2
          rw [hXw] at hz
          rw [hz] at this
          cases this
        exact fin (l.take k) ⟨l.drop k, (List.take_append_drop k l).symm⟩ hok (.inl ⟨he, hnf, hD⟩)
      · obtain ⟨hP, hkk, hat, hsz⟩ := key (l.take k) ⟨l.drop k, (List.take_append_drop k l).symm⟩ hok
        have hPw : (puts V X (l.take k)).1.width = wN := by rw [hkk.width, hXw]
        have hPf : (puts V X (l.take k)).1.first = first := by rw [hkk.first, hXf]
        rw [List.length_take] at hat
        have hatn : (puts V X (l.take k)).1.at_ < n := Nat.lt_of_mul_lt_mul_right (show (puts V X (l.take k)).1.at_ * hN W.D.size wN < n * hN W.D.size wN by omega)
        have hcnt : (puts V X (l.take k)).1.count ≠ (puts V X (l.take k)).1.bound := by
          rw [hkk.count, hkk.bound, hXc, hXb, List.length_take]
          omega
        have hpl : ((((puts V X (l.take k)).1.put l[k]).ws).take ((puts V X (l.take k)).1.put l[k]).n).length + 2 ≤ W.D.size := by
          rw [List.length_take]
          obtain ⟨k', hk', e', _⟩ := hP.has.ok.part
          have hm : (puts V X (l.take k)).1.n + (puts V X (l.take k)).1.width ≤ hN (puts V X (l.take k)).2.size (puts V X (l.take k)).1.width * (puts V X (l.take k)).1.width := by
            have h2 : (k' + 1) * (puts V X (l.take k)).1.width ≤ hN (puts V X (l.take k)).2.size (puts V X (l.take k)).1.width * (puts V X (l.take k)).1.width := Nat.mul_le_mul_right _ hk'
            rw [Nat.add_mul] at h2
            omega
          have := hN_mul (puts V X (l.take k)).2.size (puts V X (l.take k)).1.width
          rw [hsz] at this hm
          show min ((puts V X (l.take k)).1.n + (puts V X (l.take k)).1.width) _ + 2 ≤ _
          omega
        obtain ⟨w1, w2, w3⟩ := wrote (l.take k) ((puts V X (l.take k)).1.put l[k]) ⟨l.drop k, (List.take_append_drop k l).symm⟩ hP hkk hPf hPw rfl hatn hpl (by rw [← he]; exact her)
        refine fin (l.take k) ⟨l.drop k, (List.take_append_drop k l).symm⟩ hok (.inr ⟨he.trans w2, fun hf => ?_, by rw [hD]; exact w3⟩)
        have := hP.goes.fault (by rw [hVD]; exact hf)
        omega
      · obtain ⟨hP, hkk, hat, hsz⟩ := key l ⟨[], by simp⟩ hok
        have hPw : (puts V X l).1.width = wN := by rw [hkk.width, hXw]
        have hPf : (puts V X l).1.first = first := by rw [hkk.first, hXf]
        obtain ⟨k', hk', e', hc'⟩ := hP.has.ok.part
        rw [hkk.count, hXc, hsz, hPw] at hc'
        have hk0 : k' ≠ 0 := fun e0 => by rw [e', e0, Nat.zero_mul] at hn0; omega
        have hatn : (puts V X l).1.at_ < n := Nat.lt_of_mul_lt_mul_right (show (puts V X l).1.at_ * hN W.D.size wN < n * hN W.D.size wN by omega)
        have hfit := hP.has.ok.fits (by rw [hsz]; exact s8)
        rw [hsz] at hfit
        obtain ⟨w1, w2, w3⟩ := wrote l (puts V X l).1 ⟨[], by simp⟩ hP hkk hPf hPw rfl hatn (by rw [List.length_take]; omega) (by rw [← he]; exact her)
        refine fin l ⟨[], by simp⟩ hok (.inr ⟨he.trans w2, fun hf => ?_, by rw [hD]; exact w3⟩)
        have := hP.goes.fault (by rw [hVD]; exact hf)
        omega
theorem lay_c (wN : Nat) (l : List Tup) (a : Option Addr) (c : Nat) (hI : WkI w O K W) (hs : Sure W.D) (hB : W.B ≤ W.D.blocks) (h1 : 1 ≤ wN) (h5 : wN ≤ 5) (hb : l.length ≤ 100000000) (hn : W.D.size ≤ W.A.room - W.A.used) (hl : Tps K w a l) (ht5 : ∀ t ∈ l, t.length = 5) (hac : W.D.acts + l.length + 1 < 1099511627776) (hO : ∀ g, w.heap.size ≤ g → O g) :
    Calls Try.prog 12 #[P K.wk, .int .i64 (wN : Int), .slice a l.length c] w (LayC w O K W wN l) :=
  (lay_any wN l a c hI h1 h5 hb hn hl ht5 hac hO).mono fun e w' h => lay_plain hI hs hB h1 h5 ht5 hb h

/-- How List ends, in plain words. -/
structure Listed (W W' : Wk) : Prop where
  L : W'.L = W.L
  B : W'.B = W.B
  arn : W'.A = { W.A with peak := max W.A.peak (W.A.used + W.D.size) }
  size : W'.D.size = W.D.size
  blocks : W'.D.blocks = W.D.blocks
  sure : Sure W'.D
  now : W'.D.now = W.D.now
  fault : W.D.fault = -1 → W'.D.fault = -1
  acts : W'.D.acts ≤ W.D.acts + 100000000
def ListC (w : World) (O : Nat → Prop) (K : Key) (W : Wk) (wN : Nat) (l : List Tup) (e : Ending) (w' : World) : Prop :=
  ∃ W' O', Okin w w' O O' ∧ WkI w' O' K W' ∧ Turn K (fun _ => False) w w' ∧ Listed W W' ∧
    ((∃ v, e = .returned (.tuple #[v, .int .i64 0]) ∧ w'.ownsRow w.heap.size 45 5 v l.length (flatT l) ∧ Goes W.D W'.D (nB W.D.size wN l.length)) ∨
     (W.D.fault ≠ -1 ∧ e = .returned (.tuple #[.slice none 0 0, .int .i64 6])))
theorem list_c (wN first : Nat) (l : List Tup) (hI : WkI w O K W) (hs : Sure W.D) (h1 : 1 ≤ wN) (h5 : wN ≤ 5) (hb : l.length ≤ 100000000) (hf : FitsW wN l) (hL : Lies W.D wN first (nB W.D.size wN l.length) l) (hfit : nB W.D.size wN l.length = 0 ∨ first + nB W.D.size wN l.length ≤ W.D.blocks) (hfs : first ≤ 1000000)
    (hn : W.D.size ≤ W.A.room - W.A.used) (hac : W.D.acts + l.length + 1 < 1099511627776) :
    Calls Try.prog 25 #[P K.wk, .agg (fcells first (nB W.D.size wN l.length) wN l.length)] w (ListC w O K W wN l) := by
  obtain ⟨s8, s256⟩ := hI.size
  have hp := hN_pos s8 h1 h5
  have hcan : CanBe W.D.size (nB W.D.size wN l.length : Int) (wN : Int) (l.length : Int) := ⟨by omega, by omega, by omega, by omega, (nB_eq s8 h1 h5).symm⟩
  refine (list_told (fun b d l' Y D => l' = l.take l'.length ∧ Y.Has D first wN l ∧ Y.told = l'.length ∧ Goes W.D D Y.block ∧ D.now = W.D.now ∧ (l'.length < l.length → (D.rd ((first + Y.block : Nat) : Int)).1 ≠ 0 ∧ Y.block < nB W.D.size wN l.length)) (first : Int) (nB W.D.size wN l.length : Int) (wN : Int) (l.length : Int) hI hcan hn (fun b d => ?_) (by rw [Int.toNat_natCast]; exact hac)).mono ?_
  · obtain ⟨m, Y, D, a1, a2, a3, a4, a5, a6, a7, a8, a9⟩ := Rd.Has.run (first := first) h1 h5 hf (by omega) l.length _ { W with A := W.A.grant W.D.size b } (Rd.Has.new b d (nB W.D.size wN l.length : Int) s8 h1 hL) s8 (Nat.le_add_left _ _)
    have hwr : IntKind.i64.wrap (Y.first + (Y.block : Int)) = ((first + Y.block : Nat) : Int) := by
      have := a4.fst
      have hk := a4.blk
      have := nB_le (size := D.size) (wN := wN) (count := l.length) (by rw [a7.size]; exact hp)
      rw [IntKind.wrap_i64]
      omega
    have a7' : Goes W.D D (Y.block - 0) := a7
    have hlen : (l.take m).length = m := by rw [List.length_take]; omega
    refine ⟨l.take m, Y, D, by omega, (by rw [List.drop_zero] at a3; exact a3), ?_, by rw [hlen], a4, by rw [hlen]; exact a5, a7', a8, fun hh => ?_⟩
    · rw [hlen]
      rcases a9 with a9 | ⟨b1, b2, b3, b4⟩
      · exact .inl (by rw [a9])
      · exact .inr ⟨by omega, b2, by rw [hwr]; exact b4⟩
    · rcases a9 with a9 | ⟨b1, b2, b3, b4⟩
      · omega
      · exact ⟨b4, b3⟩
  · rintro e w' ⟨l', h⟩
    rcases h with ⟨v, b, d, Y, D, rfl, ho, ⟨u1, u2, u3, u4, u5, u6⟩, hsz, hcnt, hds, hI', ht⟩ | ⟨b, d, Y, D, rfl, ⟨u1, u2, u3, u4, u5, u6⟩, hsz, hlt, hat, hne, hds, hI', ht⟩
    · have hll : l' = l := by rw [u1, List.take_of_length_le (by omega)]
      rw [hll] at ho u3
      have hgr := grant_release (n := W.D.size) (hI.st_ne hds.1)
      have hall := u2.all (by rw [hsz]; exact s8) h1 h5 u3
      rw [hsz] at hall
      refine ⟨_, _, okin_but ht.size, hI'.onto, ht, ⟨rfl, rfl, hgr, hsz, u4.blocks, u4.sure hs, u5, u4.fault, ?_⟩, .inl ⟨v, rfl, ho, by rw [← hall]; exact u4⟩⟩
      show D.acts ≤ _
      have := u4.acts
      have := u2.blk
      have := nB_le (size := D.size) (wN := wN) (count := l.length) (by rw [hsz]; exact hp)
      omega
    · have hlt' : l'.length < l.length := by omega
      obtain ⟨r1, r2⟩ := u6 hlt'
      have hgr := grant_release (n := W.D.size) (hI.st_ne hds.1)
      have hfst := u2.fst
      have hble := nB_le (size := W.D.size) (wN := wN) (count := l.length) hp
      have hwr : IntKind.i64.wrap (Y.first + (Y.block : Int)) = ((first + Y.block : Nat) : Int) := by
        rw [IntKind.wrap_i64]
        omega
      rw [hwr] at hI' hne ⊢
      have hsu := sure_rd (i := ((first + Y.block : Nat) : Int)) (u4.sure hs) (by omega) (by have := u4.blocks; rcases hfit with h | h <;> omega)
      rcases hsu with h | ⟨f1, f2, f3⟩
      · exact absurd h r1
      · rw [f2]
        refine ⟨_, _, okin_but ht.size, hI'.onto, ht, ⟨rfl, rfl, hgr, f3.size.trans hsz, f3.blocks.trans u4.blocks, f3.sure, f3.now.trans u5, fun _ => f3.fault, ?_⟩, .inr ⟨fun hf => ?_, rfl⟩⟩
        · show (D.rd _).2.acts ≤ _
          rw [f3.acts]
          have := u4.acts
          omega
        · have := u4.fault hf
          omega
end

end Go.Proofs.Ytmmkncocgjgapaa.Fl

/- Chapter 10's laws: the work that they make, the references, what the laws ask of a work. -/
namespace Go.Proofs.Ytmmkncocgjgapaa.Fl
open Go.RowKit

theorem Turn.belowB {w0 w w' : World} {O : Nat → Prop} {K : Key} {W : Wk} {E : Nat → Prop} (hI : WkI w O K W) (hK : K.base = w0.heap.size) (hE : ∀ k, E k → w0.heap.size ≤ k) (hb : Below w0.heap.size w0 w) (ht : Turn K E w w') : Below w0.heap.size w0 w' :=
  hb.trans (Chg.below_of ht hb.size (fun k hk hf => hI.under (E := E) (by omega) (fun h => by have := hE k h; omega) hf))

def O0 (K : Key) (g : Nat) : Prop := K.base ≤ g
def wk0 (size blocks : Nat) (room : Int) : Wk := ⟨Dev.fresh size blocks, ⟨room.toNat, 0, 0, []⟩, blocks, Sp.wholeL 0 blocks⟩
def WorkOk (w : World) (S B : Nat) (room : Int) (e : Ending) (w' : World) : Prop :=
  ∃ K, e = .returned (.tuple #[P K.wk, .bool true]) ∧ WkI w' (O0 K) K (wk0 S B room) ∧ K.base = w.heap.size ∧ Below w.heap.size w w'
/-- file.New of three that there are. -/
theorem newfile_any (d a s : Nat) (w : World) : Calls Try.prog 31 #[P d, P a, P s] w fun e w' => e = .returned (P w.heap.size) ∧ w' = w.alloc (.cells #[P d, P a, P s] 97) := by
  go_enter Try.func31, Try.ntmps31
  go_wp2_with fail
  go_ret
  exact ⟨rfl, rfl⟩

/-- The parts of a work, made one behind another. -/
theorem work_parts {w w2 w5 : World} {S B : Nat} {room : Int} {d rl rn a r s g : Nat} {v : Value} (hd : Dev.At w2 (fun g => w.heap.size ≤ g) d rl rn (.slice none 0 0) (Dev.fresh S B)) (hb2 : Below w.heap.size w w2) (hb5 : Below w2.heap.size w2 w5)
    (ha : Arena.At w5 a r ⟨room.toNat, 0, 0, []⟩) (hs : Sp.SpAt w5 s 0 B v (Sp.wholeL 0 B) w2.heap.size) (hg : Blk w5 g 97 #[P d, P a, P s]) (q1 : w2.heap.size ≤ r) (q2 : w2.heap.size ≤ a) (q3 : w2.heap.size ≤ s) (q4 : w2.heap.size ≤ g) (q5 : w.heap.size ≤ d) (q6 : w.heap.size ≤ rl) (q7 : w.heap.size ≤ rn) (hB : B ≤ 5000) :
    WkI w5 (O0 ⟨g, d, rl, rn, a, r, s, w.heap.size⟩) ⟨g, d, rl, rn, a, r, s, w.heap.size⟩ (wk0 S B room) := by
  have hz := hb2.size
  have hl := hd.lasts.lt
  have hn := hd.now.lt
  refine ⟨hg, ⟨_, (hd.below hb5)⟩, ha, ⟨v, hs.base_le hz⟩, Sp.whole_inv 0 B, ⟨by show r ≠ rl; omega, by show r ≠ rn; omega⟩, by show B ≤ 900000; omega, ⟨?_, ?_, ?_, ?_, ?_, ?_, ?_⟩, fun g hg => hg⟩
  all_goals first | (show w.heap.size ≤ g; omega) | (show w.heap.size ≤ d; omega) | (show w.heap.size ≤ rl; omega) | (show w.heap.size ≤ rn; omega) | (show w.heap.size ≤ a; omega) | (show w.heap.size ≤ r; omega) | (show w.heap.size ≤ s; omega)

theorem devnew_any (S B : Int) (w : World) : Calls Try.prog 38 #[.int .i64 S, .int .i64 B] w fun e w' =>
    (Dev.NewFits S B ∧ e = .returned (.tuple #[.pointer (some ⟨w.heap.size + 2, 0, none⟩), .int .i64 0]) ∧ (∀ O, Dev.At w' O (w.heap.size + 2) w.heap.size (w.heap.size + 1) (.slice none 0 0) (Dev.fresh S.toNat B.toNat)) ∧ Below w.heap.size w w' ∧ w'.heap.size = w.heap.size + 3) ∨
    (¬ Dev.NewFits S B ∧ e = .returned (.tuple #[.pointer none, .int .i64 1]) ∧ w = w') := by
  by_cases h : Dev.NewFits S B
  · obtain ⟨h1, h2, h3, h4⟩ := h
    obtain ⟨s, rfl⟩ := Int.eq_ofNat_of_zero_le (show 0 ≤ S by omega)
    obtain ⟨b, rfl⟩ := Int.eq_ofNat_of_zero_le h3
    refine (Dev.new_ok s b w (by omega) (by omega) (by omega)).mono ?_
    rintro e w' ⟨r1, r2, r3, r4⟩
    exact .inl ⟨⟨h1, h2, h3, h4⟩, r1, r2, r3, r4⟩
  · exact (Dev.new_no S B w h).mono fun e w' ⟨r1, r2⟩ => .inr ⟨h, r1, r2⟩

set_option maxRecDepth 100000 in
set_option maxHeartbeats 1000000 in
/-- No work is made. -/
theorem work_no (S B room : Int) (w : World) (h : ¬ (Dev.NewFits S B ∧ room ≤ 100000 ∧ B ≤ 5000)) : Calls Try.prog 9 #[.agg #[.int .i64 S, .int .i64 B, .int .i64 room]] w fun e w' => e = .returned (.tuple #[.pointer none, .bool false]) ∧ Below w.heap.size w w' := by
  have hbl : Below w.heap.size w (w.alloc (.cells #[.int .i64 S, .int .i64 B, .int .i64 room] 28)) := (Below.refl _ _).alloc (Nat.le_refl _) _
  have hF := Blk.new w 28 #[.int .i64 S, .int .i64 B, .int .i64 room]
  have HB := Lib.hid hbl
  have HF := Lib.hid hF
  have HN := Lib.hid h
  have hz : w.heap.size < (w.alloc (.cells #[.int .i64 S, .int .i64 B, .int .i64 room] 28)).heap.size := hF.lt
  clear hbl hF h
  go_enter Try.func9, Try.ntmps9
  go_wp2_with fail
  generalize w.alloc (.cells #[.int .i64 S, .int .i64 B, .int .i64 room] 28) = w1 at *
  have k0 : w1.cell? ⟨w.heap.size, 0, none⟩ = some (.int .i64 S) := HF.out.cell 0
  have k1 : w1.cell? ⟨w.heap.size, 1, none⟩ = some (.int .i64 B) := HF.out.cell 1
  have k2 : w1.cell? ⟨w.heap.size, 2, none⟩ = some (.int .i64 room) := HF.out.cell 2
  go_wp2_with fail
  refine (devnew_any S B w1).mono ?_
  rintro e w2 hm
  rcases hm with ⟨hfit, rfl, _, hb2, _⟩ | ⟨_, rfl, rfl⟩
  · have hF2 := HF.out.below hb2 HF.out.lt
    have j1 : w2.cell? ⟨w.heap.size, 1, none⟩ = some (.int .i64 B) := hF2.cell 1
    have j2 : w2.cell? ⟨w.heap.size, 2, none⟩ = some (.int .i64 room) := hF2.cell 2
    have HB2 := Lib.hid (HB.out.trans (hb2.mono (Nat.le_of_lt hz)))
    by_cases hr : room ≤ 100000
    · have hB : 5000 < B := by
        have := HN.out
        rcases Int.lt_or_le 5000 B with h | h
        · exact h
        · exact absurd ⟨hfit, hr, h⟩ this
      clear hfit hb2 hF2 k0 k1 k2
      go_wp2_with fail
      go_ret2
      exact ⟨rfl, HB2.out⟩
    · have hr' : 100000 < room := by omega
      clear hfit hb2 hF2 k0 k1 k2 hr
      go_wp2_with fail
      go_ret2
      exact ⟨rfl, HB2.out⟩
  · clear k0 k1 k2
    go_wp2_with fail
    go_ret2
    exact ⟨rfl, HB.out⟩

set_option maxRecDepth 100000 in
set_option maxHeartbeats 4000000 in
theorem work_ok (S B : Nat) (room : Int) (w : World) (h8 : 8 ≤ S) (h256 : S ≤ 256) (hB : B ≤ 5000) (hr : room ≤ 100000) (hr2 : -9223372036854775808 ≤ room) : Calls Try.prog 9 #[.agg #[.int .i64 (S : Int), .int .i64 (B : Int), .int .i64 room]] w (WorkOk w S B room) := by
  have hbl : Below w.heap.size w (w.alloc (.cells #[.int .i64 (S : Int), .int .i64 (B : Int), .int .i64 room] 28)) := (Below.refl _ _).alloc (Nat.le_refl _) _
  have hF := Blk.new w 28 #[.int .i64 (S : Int), .int .i64 (B : Int), .int .i64 room]
  have HB := Lib.hid hbl
  have HF := Lib.hid hF
  have hz : w.heap.size < (w.alloc (.cells #[.int .i64 (S : Int), .int .i64 (B : Int), .int .i64 room] 28)).heap.size := hF.lt
  clear hbl hF
  go_enter Try.func9, Try.ntmps9
  go_wp2_with fail
  generalize w.alloc (.cells #[.int .i64 (S : Int), .int .i64 (B : Int), .int .i64 room] 28) = w1 at *
  have k0 : w1.cell? ⟨w.heap.size, 0, none⟩ = some (.int .i64 (S : Int)) := HF.out.cell 0
  have k1 : w1.cell? ⟨w.heap.size, 1, none⟩ = some (.int .i64 (B : Int)) := HF.out.cell 1
  have k2 : w1.cell? ⟨w.heap.size, 2, none⟩ = some (.int .i64 room) := HF.out.cell 2
  go_wp2_with fail
  refine (Dev.new_ok S B w1 h8 h256 (by omega)).mono ?_
  rintro e w2 ⟨rfl, hd, hb2, hs2⟩
  have hF2 := HF.out.below hb2 HF.out.lt
  have j1 : w2.cell? ⟨w.heap.size, 1, none⟩ = some (.int .i64 (B : Int)) := hF2.cell 1
  have j2 : w2.cell? ⟨w.heap.size, 2, none⟩ = some (.int .i64 room) := hF2.cell 2
  have hB' : (B : Int) ≤ 5000 := by omega
  obtain ⟨db, hdb⟩ : ∃ db, db = w1.heap.size + 2 := ⟨_, rfl⟩
  have HD := Lib.hid (hd (fun g => w.heap.size ≤ g))
  have HB2 := Lib.hid (HB.out.trans (hb2.mono (Nat.le_of_lt hz)))
  have hz2 : w1.heap.size < w2.heap.size := by omega
  have hd0 : Below w2.heap.size w2 w2.drew := (Below.refl _ _).drew
  have CELL := Lib.hid (fun W' (h : Below w2.heap.size w2 W') => (⟨(hF2.below h hF2.lt).cell 1, (hF2.below h hF2.lt).cell 2⟩ : W'.cell? ⟨w.heap.size, 1, none⟩ = some (.int .i64 (B : Int)) ∧ W'.cell? ⟨w.heap.size, 2, none⟩ = some (.int .i64 room)))
  have CA := Lib.hid (fun W' (h : Below w2.heap.size w2 W') => (Arena.new_any room W' (by omega) hr2).mono (fun e w3 he => (⟨W'.heap.size + 1, W'.heap.size, he.1, by have := h.size; omega, by have := h.size; omega, he.2.1, h.trans (he.2.2.mono h.size), he.2.2⟩ : ∃ a r, e = Ending.returned (P a) ∧ w2.heap.size ≤ a ∧ w2.heap.size ≤ r ∧ Arena.At w3 a r ⟨room.toNat, 0, 0, []⟩ ∧ Below w2.heap.size w2 w3 ∧ Below W'.heap.size W' w3)))
  have CS := Lib.hid (fun W' (h : Below w2.heap.size w2 W') => (Sp.new_ok 0 B W' (by omega) (by omega)).mono (fun e w3 ⟨s, v, h1, h2, h3, h4⟩ => (⟨s, v, h1, by have := h.size; omega, h3.base_le h.size, h.trans (h4.mono h.size), h4⟩ : ∃ s v, e = Ending.returned (P s) ∧ w2.heap.size ≤ s ∧ Sp.SpAt w3 s 0 B v (Sp.wholeL 0 B) w2.heap.size ∧ Below w2.heap.size w2 w3 ∧ Below W'.heap.size W' w3)))
  have CN := Lib.hid (fun W' (h : Below w2.heap.size w2 W') (d a s : Nat) => (newfile_any d a s W').mono (fun e w3 he => (⟨W'.heap.size, he.1, h.size, by rw [he.2]; exact Blk.new W' _ _, by rw [he.2]; exact h.trans (((Below.refl _ _).alloc (Nat.le_refl _) _).mono h.size), by rw [he.2]; exact (Below.refl _ _).alloc (Nat.le_refl _) _⟩ : ∃ g, e = Ending.returned (P g) ∧ w2.heap.size ≤ g ∧ Blk w3 g 97 #[P d, P a, P s] ∧ Below w2.heap.size w2 w3 ∧ Below W'.heap.size W' w3)))
  rw [show ((0 : Nat) : Int) = 0 from rfl] at CS
  clear hd hb2 hF2 k0 k1 k2 HB hs2
  go_wp2_with fail
  go_region_held3 (fun w' => Below w2.heap.size w2 w' ∧ w'.cell? ⟨w.heap.size, 1, none⟩ = some (.int .i64 (B : Int)) ∧ w'.cell? ⟨w.heap.size, 2, none⟩ = some (.int .i64 room))
    (exact ⟨by assumption, (CELL.out _ (by assumption)).1, (CELL.out _ (by assumption)).2⟩)
    ((first | (go_at_call 39; refine (CA.out _ (by assumption)).mono ?_; rintro e wa ⟨a, r, rfl, qa1, qa2, hA, hba, hba'⟩) | (go_at_call 40; refine (CS.out _ (by assumption)).mono ?_; rintro e ws ⟨s, v, rfl, qs, hS, hbs, hbs'⟩) | (go_at_call 31; refine (CN.out _ (by assumption) _ _ _).mono ?_; rintro e wn ⟨g, rfl, qg, hG, hbn, hbn'⟩)))
  all_goals
    go_wp2_with fail
    go_ret2
    refine ⟨⟨g, w1.heap.size + 2, w1.heap.size, w1.heap.size + 1, a, r, s, w.heap.size⟩, rfl, ?_, rfl, HB2.out.trans (hbn.mono HB2.out.size)⟩
    refine work_parts (v := v) HD.out HB2.out hbn ?_ ?_ hG qa2 qa1 qs qg (by omega) (by omega) (by omega) hB
    · first
        | exact hA.chg (Chg.of_below' (S := fun _ => False) hbn') (fun h => h) (fun h => h) (fun _ _ h => h.elim)
        | exact hA.chg (Chg.of_below' (S := fun _ => False) (hbs'.trans (hbn'.mono hbs'.size))) (fun h => h) (fun h => h) (fun _ _ h => h.elim)
    · first
        | exact hS.below hbn'
        | exact (hS.below hba').below hbn'

end Go.Proofs.Ytmmkncocgjgapaa.Fl

/- Two tuples compared. -/
namespace Go.Proofs.Ytmmkncocgjgapaa.Fl
open Go.RowKit
theorem part_int (xs : Array Value) (i : Nat) (v : Value) (w : World) (h : xs[i]? = some v) : (part 2 xs i).run Try.prog w = .ok v w := by
  have hag : (isAgg 2).run Try.prog w = .ok false w := by kernel_rfl
  simp [part, h, hag]
set_option maxRecDepth 10000 in
@[go_sem] theorem tup_eq (w : World) (a0 a1 a2 a3 a4 b0 b1 b2 b3 b4 : Int) : (Op.equalIn 10000 45 (.agg #[.int .i64 a0, .int .i64 a1, .int .i64 a2, .int .i64 a3, .int .i64 a4]) (.agg #[.int .i64 b0, .int .i64 b1, .int .i64 b2, .int .i64 b3, .int .i64 b4])).run Try.prog w =
    .ok (a0 == b0 && (a1 == b1 && (a2 == b2 && (a3 == b3 && a4 == b4)))) w := by
  have hi := fun (w : World) (a b : Int) => run_equalIn_int (P := Try.prog) w 9998 2 .i64 .i64 a b Try.underlying2
  have hsz : ∀ w, (sizeOf 2).run Try.prog w = .ok 1 w := fun w => by kernel_rfl
  rw [show (10000 : Nat) = 9998 + 1 + 1 from rfl]
  conv => lhs; unfold Op.equalIn
  simp only [Sem.run_bind, run_underlying Try.underlying45, Result.andThen_ok, hsz]
  rw [Std.Legacy.Range.forIn_eq_forIn_range']
  have hr : List.range' (Std.Legacy.Range.start [:5]) (Std.Legacy.Range.size [:5]) (Std.Legacy.Range.step [:5]) = [0, 1, 2, 3, 4] := rfl
  rw [hr]
  simp only [List.forIn_cons, List.forIn_nil, Sem.run_bind, Nat.mul_one]
  rw [part_int _ 0 (.int .i64 a0) _ rfl]
  simp only [Result.andThen_ok]
  rw [part_int _ 0 (.int .i64 b0) _ rfl]
  simp only [Result.andThen_ok]
  rw [hi]
  cases h0 : a0 == b0
  · simp
  simp only [Result.andThen_ok, Bool.not_true, Bool.false_eq_true, if_false, Sem.run_pure, Sem.run_bind]
  rw [part_int _ 1 (.int .i64 a1) _ rfl]
  simp only [Result.andThen_ok]
  rw [part_int _ 1 (.int .i64 b1) _ rfl]
  simp only [Result.andThen_ok]
  rw [hi]
  cases h1 : a1 == b1
  · simp
  simp only [Result.andThen_ok, Bool.not_true, Bool.false_eq_true, if_false, Sem.run_pure, Sem.run_bind]
  rw [part_int _ 2 (.int .i64 a2) _ rfl]
  simp only [Result.andThen_ok]
  rw [part_int _ 2 (.int .i64 b2) _ rfl]
  simp only [Result.andThen_ok]
  rw [hi]
  cases h2 : a2 == b2
  · simp
  simp only [Result.andThen_ok, Bool.not_true, Bool.false_eq_true, if_false, Sem.run_pure, Sem.run_bind]
  rw [part_int _ 3 (.int .i64 a3) _ rfl]
  simp only [Result.andThen_ok]
  rw [part_int _ 3 (.int .i64 b3) _ rfl]
  simp only [Result.andThen_ok]
  rw [hi]
  cases h3 : a3 == b3
  · simp
  simp only [Result.andThen_ok, Bool.not_true, Bool.false_eq_true, if_false, Sem.run_pure, Sem.run_bind]
  rw [part_int _ 4 (.int .i64 a4) _ rfl]
  simp only [Result.andThen_ok]
  rw [part_int _ 4 (.int .i64 b4) _ rfl]
  simp only [Result.andThen_ok]
  rw [hi]
  cases h4 : a4 == b4
  · simp
  simp
end Go.Proofs.Ytmmkncocgjgapaa.Fl

/- The references of chapter 10. -/
namespace Go.Proofs.Ytmmkncocgjgapaa.Fl
open Go.RowKit

theorem tps_own {w : World} {K : Key} {base : Nat} {v : Value} {l : List Tup} (ho : w.ownsRow base 45 5 v l.length (flatT l)) (h5 : ∀ t ∈ l, t.length = 5) : ∃ a c, v = .slice a l.length c ∧ Tps K w a l ∧ l.length ≤ c ∧ c ≤ maxLen := by
  rcases ho.2 with ⟨rfl, h0⟩ | ⟨g, cap, cur, rfl, hb, hh, h1, h2, h3, h4⟩
  · exact ⟨none, 0, by rw [h0], .inl (List.eq_nil_of_length_eq_zero h0), by omega, by unfold maxLen; omega⟩
  · refine ⟨_, cap, rfl, Tps.of_blk (rest := cur.toList.drop (l.length * 5)) ?_ h5, h1, h2⟩
    rw [← h4, List.take_append_drop]
    exact hh

theorem refholds_no (S : Int) (width : Int) (w : World) (h : width < 1 ∨ 5 < width) : Calls Try.prog 33 #[.int .i64 S, .int .i64 width] w fun e w' => e = .returned (.int .i64 0) ∧ w = w' := by
  by_cases h1 : width < 1
  · clear h
    go_enter Try.func33, Try.ntmps33
    go_wp2_with fail
    go_ret
    exact ⟨rfl, rfl⟩
  · have h2 : 5 < width := by omega
    clear h
    go_enter Try.func33, Try.ntmps33
    go_wp2_with fail
    go_ret
    exact ⟨rfl, rfl⟩
def HoldsLoop (S wN : Nat) (w : World) (nv : Value) (wr : World) : Prop := ∃ n : Nat, nv = .int .i64 (n : Int) ∧ n ≤ hN S wN ∧ w = wr
set_option maxRecDepth 100000 in
theorem refholds_ok (S wN : Nat) (w : World) (h8 : 8 ≤ S) (h256 : S ≤ 256) (h1 : 1 ≤ wN) (h5 : wN ≤ 5) : Calls Try.prog 33 #[.int .i64 (S : Int), .int .i64 (wN : Int)] w fun e w' => e = .returned (.int .i64 (hN S wN : Int)) ∧ w = w' := by
  have a1 : (1 : Int) ≤ (wN : Int) := by omega
  have a2 : (wN : Int) ≤ 5 := by omega
  have hle : hN S wN ≤ 254 := by
    have h := hN_mul S wN
    have : hN S wN * 1 ≤ hN S wN * wN := Nat.mul_le_mul_left _ h1
    omega
  have hstep : ∀ n : Nat, ((n : Int) + 1) * (wN : Int) ≤ (S : Int) - 2 ↔ n < hN S wN := by
    intro n
    have e : ((n : Int) + 1) * (wN : Int) ≤ (S : Int) - 2 ↔ (n + 1) * wN ≤ S - 2 := by
      rw [show ((n : Int) + 1) * (wN : Int) = (((n + 1) * wN : Nat) : Int) from by rw [Int.natCast_mul]; rfl]
      omega
    rw [e]
    unfold hN
    rw [Nat.lt_iff_add_one_le, Nat.le_div_iff_mul_le (by omega)]
  have HS := Lib.hid hstep
  clear hstep
  go_enter Try.func33, Try.ntmps33
  go_wp2_with fail
  go_loopw [5] (fun nv wr => HoldsLoop S wN w nv wr) (fun nv _ => hN S wN - (intOf nv).toNat)
  case atStart => exact ⟨0, rfl, Nat.zero_le _, rfl⟩
  case round =>
    obtain ⟨n, rfl, hn, rfl⟩ := hrel
    obtain ⟨q, hq⟩ : ∃ q : Int, q = ((n : Int) + 1) * (wN : Int) := ⟨_, rfl⟩
    have hqb : 0 ≤ q ∧ q ≤ 2000 := by
      rw [hq]
      have h1 : ((n : Int) + 1) * (wN : Int) = (((n + 1) * wN : Nat) : Int) := by rw [Int.natCast_mul]; rfl
      have h2 : (n + 1) * wN ≤ 255 * 5 := Nat.mul_le_mul (by omega) h5
      rw [h1]
      omega
    have hm : IntKind.i64.wrap (((n : Int) + 1) * (wN : Int)) = q := by rw [← hq, IntKind.wrap_i64]; omega
    have hs := HS.out n
    rw [← hq] at hs
    have HSN := Lib.hid hs
    clear hq hs
    by_cases hlt : n < hN S wN
    · have hq2 : q ≤ (S : Int) - 2 := HSN.out.2 hlt
      go_wp2_with fail
      go_roundw
      case rel => exact ⟨n + 1, by go_num, by omega, rfl⟩
      case measure => simp [intOf]; omega
    · have hq2 : ¬ q ≤ (S : Int) - 2 := fun h => hlt (HSN.out.1 h)
      have he : n = hN S wN := by omega
      have HE := Lib.hid he
      clear he
      go_wp2_with fail
      go_ret
      exact ⟨by rw [HE.out]; rfl, rfl⟩
def BlocksLoop (n : Nat) (w : World) (kv : Value) (wr : World) : Prop := ∃ k : Nat, kv = .int .i64 (k : Int) ∧ k ≤ n ∧ w = wr
set_option maxRecDepth 100000 in
theorem refblocks_ok (S wN count : Nat) (w : World) (h8 : 8 ≤ S) (h256 : S ≤ 256) (h1 : 1 ≤ wN) (h5 : wN ≤ 5) (hc : count ≤ 1000000) : Calls Try.prog 32 #[.int .i64 (S : Int), .int .i64 (wN : Int), .int .i64 (count : Int)] w fun e w' => e = .returned (.int .i64 (nB S wN count : Int)) ∧ w = w' := by
  have hp := hN_pos h8 h1 h5
  obtain ⟨c1, c2⟩ := nB_cap (size := S) (wN := wN) (count := count) hp
  have hle := nB_le (size := S) (wN := wN) (count := count) hp
  have hh : hN S wN ≤ 254 := by
    have h := hN_mul S wN
    have : hN S wN * 1 ≤ hN S wN * wN := Nat.mul_le_mul_left _ h1
    omega
  have HH := Lib.hid (refholds_ok S wN w h8 h256 h1 h5)
  have C1 := Lib.hid c1
  have C2 := Lib.hid c2
  generalize nB S wN count = n at *
  generalize hN S wN = h at *
  have h0 : (0 : Int) < (h : Int) := by omega
  clear c1 c2
  go_enter Try.func32, Try.ntmps32
  go_wp2_with fail
  refine HH.out.mono ?_
  rintro e w' ⟨rfl, rfl⟩
  go_wp2_with fail
  go_loopw [8] (fun kv wr => BlocksLoop n w kv wr) (fun kv _ => n - (intOf kv).toNat)
  case atStart => exact ⟨0, rfl, Nat.zero_le _, rfl⟩
  case round =>
    obtain ⟨k, rfl, hk, rfl⟩ := hrel
    obtain ⟨q, hq⟩ : ∃ q : Nat, q = k * h := ⟨_, rfl⟩
    have hqb : q ≤ 254000000 := by
      rw [hq]
      have : k * h ≤ 1000000 * 254 := Nat.mul_le_mul (by omega) hh
      omega
    have hm : IntKind.i64.wrap ((k : Int) * (h : Int)) = (q : Int) := by rw [← Int.natCast_mul, ← hq, IntKind.wrap_i64]; omega
    by_cases hlt : k < n
    · have hq2 : (q : Int) < (count : Int) := by have := C2.out k hlt; omega
      clear hq
      go_wp2_with fail
      go_roundw
      case rel => exact ⟨k + 1, by go_num, by omega, rfl⟩
      case measure => simp [intOf]; omega
    · obtain rfl : k = n := by omega
      have hq2 : ¬ (q : Int) < (count : Int) := by have := C1.out; omega
      clear hq
      go_wp2_with fail
      go_ret
      exact ⟨rfl, rfl⟩
/-- Of a width that can't be: no block at all. -/
theorem refblocks_no (S width count : Int) (w : World) (h : width < 1 ∨ 5 < width) : Calls Try.prog 32 #[.int .i64 S, .int .i64 width, .int .i64 count] w fun e w' => e = .returned (.int .i64 0) ∧ w = w' := by
  have HH := Lib.hid (refholds_no S width w h)
  clear h
  go_enter Try.func32, Try.ntmps32
  go_wp2_with fail
  refine HH.out.mono ?_
  rintro e w' ⟨rfl, rfl⟩
  go_wp2_with fail
  go_loopw [8] (fun kv wr => kv = .int .i64 0 ∧ w = wr) (fun kv _ => 0)
  case atStart => exact ⟨rfl, rfl⟩
  case round =>
    obtain ⟨rfl, rfl⟩ := hrel
    go_wp2_with fail
    go_ret
    exact ⟨rfl, rfl⟩

/-- A tuple's columns from the width on are 0. -/
def fitsB (wN : Nat) (t : Tup) : Bool := Crc.zeroW (t.drop wN)
def FitLoop (wN : Nat) (t : Tup) (w1 : World) (iv : Value) (wr : World) : Prop := ∃ i : Nat, iv = .int .i64 (i : Int) ∧ i ≤ 5 ∧ (∀ j (hj : j < t.length), wN ≤ j → j < i → t[j] = 0#64) ∧ w1 = wr
theorem fitsB_iff {wN : Nat} {t : Tup} : fitsB wN t = true ↔ ∀ j (hj : j < t.length), wN ≤ j → t[j] = 0#64 := by
  unfold fitsB Crc.zeroW
  rw [List.all_eq_true]
  constructor
  · intro h j hj hw
    have := h t[j] (List.mem_drop_iff_getElem.2 ⟨j - wN, by omega, by congr 1; omega⟩)
    simpa using this
  · intro h x hx
    obtain ⟨i, hi, rfl⟩ := List.mem_drop_iff_getElem.1 hx
    simpa using h (wN + i) (by omega) (by omega)
set_option maxRecDepth 100000 in
set_option maxHeartbeats 1000000 in
theorem reffits_any (wN : Nat) (t : Tup) (ht : t.length = 5) (w : World) (h5 : wN ≤ 5) : Calls Try.prog 41 #[.agg (icells t).toArray, .int .i64 (wN : Int)] w fun e w' => e = .returned (.bool (fitsB wN t)) ∧ Below w.heap.size w w' := by
  have hbl : Below w.heap.size w (w.alloc (.cells (icells t).toArray 45)) := (Below.refl _ _).alloc (Nat.le_refl _) _
  have hF := Blk.new w 45 (icells t).toArray
  have HB := Lib.hid hbl
  have hz : w.heap.size < (w.alloc (.cells (icells t).toArray 45)).heap.size := hF.lt
  have hcd : ∀ i (hi : i < t.length), (icells t).toArray[i]? = some (.int .i64 t[i].toInt) := fun i hi => by rw [List.getElem?_toArray]; exact icells_get t i hi
  obtain ⟨u0, u1, u2, u3, u4, hu⟩ : ∃ u0 u1 u2 u3 u4 : Value, (icells t).toArray = #[u0, u1, u2, u3, u4] := by
    match t, ht with
    | [a, b, c, d, e], _ => exact ⟨_, _, _, _, _, rfl⟩
  rw [hu] at HB hF hz hcd ⊢
  have HCD := Lib.hid hcd
  have HF := Lib.hid hF
  clear hbl hF hcd hu
  go_enter Try.func41, Try.ntmps41
  go_wp2_with fail
  generalize w.alloc (.cells #[u0, u1, u2, u3, u4] 45) = w1 at *
  go_loopw [5] (fun iv wr => FitLoop wN t w1 iv wr) (fun iv _ => 5 - (intOf iv).toNat)
  case atStart => exact ⟨0, rfl, by omega, fun j _ _ h => absurd h (by omega), rfl⟩
  case round =>
    obtain ⟨i, rfl, hi, hlow, rfl⟩ := hrel
    have HLOW := Lib.hid hlow
    clear hlow
    by_cases hlt : i < 5
    · have hil : i < t.length := by omega
      have hcell : w1.cell? ⟨w.heap.size, i, none⟩ = some (.int .i64 (t[i]'hil).toInt) := (HF.out.cell i).trans (HCD.out i hil)
      obtain ⟨x, hx⟩ : ∃ x, x = t[i]'hil := ⟨_, rfl⟩
      rw [← hx] at hcell
      have HX := Lib.hid hx
      clear hx
      by_cases hw : (wN : Int) ≤ (i : Int)
      · by_cases h0 : x = 0#64
        · have h0' : (x.toInt != 0) = false := by rw [h0]; rfl
          have HN : Hid (∀ j (hj : j < t.length), wN ≤ j → j < i + 1 → t[j] = 0#64) := Lib.hid (fun j hj hwj hji => by
            rcases Nat.lt_succ_iff_lt_or_eq.1 hji with h | h
            · exact HLOW.out j hj hwj h
            · subst h; rw [← HX.out, h0])
          clear h0
          go_wp2_with fail
          go_roundw
          case rel => exact ⟨i + 1, by go_num, by omega, HN.out, rfl⟩
          case measure => simp [intOf]; omega
        · have h0' : (x.toInt != 0) = true := by rw [bne_iff_ne]; exact fun h => h0 ((toInt_zero x).1 h)
          have HF0 : Hid (fitsB wN t = false) := Lib.hid (by
            cases h : fitsB wN t with
            | false => rfl
            | true => exact absurd (HX.out.trans (fitsB_iff.1 h i hil (by omega))) h0)
          clear h0
          go_wp2_with fail
          go_ret
          exact ⟨by rw [HF0.out]; rfl, HB.out⟩
      · have HN : Hid (∀ j (hj : j < t.length), wN ≤ j → j < i + 1 → t[j] = 0#64) := Lib.hid (fun j hj hwj hji => by
          rcases Nat.lt_succ_iff_lt_or_eq.1 hji with h | h
          · exact HLOW.out j hj hwj h
          · omega)
        go_wp2_with fail
        go_roundw
        case rel => exact ⟨i + 1, by go_num, by omega, HN.out, rfl⟩
        case measure => simp [intOf]; omega
    · obtain rfl : i = 5 := by omega
      have HF1 : Hid (fitsB wN t = true) := Lib.hid (fitsB_iff.2 (fun j hj hw => HLOW.out j hj hw (by omega)))
      go_wp2_with fail
      go_ret
      exact ⟨by rw [HF1.out]; rfl, HB.out⟩

def allB (wN : Nat) (l : List Tup) : Bool := l.all (fitsB wN)
theorem allB_iff {wN : Nat} {l : List Tup} (h5 : ∀ t ∈ l, t.length = 5) : allB wN l = true ↔ FitsW wN l := by
  unfold allB
  rw [List.all_eq_true]
  exact ⟨fun h t ht => ⟨h5 t ht, h t ht⟩, fun h t ht => (h t ht).2⟩
def AllLoop (wN : Nat) (K : Key) (w : World) (a : Option Addr) (l : List Tup) (iv : Value) (wr : World) : Prop := ∃ i : Nat, iv = .int .i64 (i : Int) ∧ i ≤ l.length ∧ allB wN (l.take i) = true ∧ Tps K wr a l ∧ Below w.heap.size w wr
set_option maxRecDepth 100000 in
set_option maxHeartbeats 1000000 in
theorem refall_any {K : Key} (wN : Nat) (l : List Tup) (a : Option Addr) (c : Nat) (w : World) (h5 : wN ≤ 5) (hl : Tps K w a l) (ht5 : ∀ t ∈ l, t.length = 5) (hn : l.length ≤ 1000000) : Calls Try.prog 11 #[.slice a l.length c, .int .i64 (wN : Int)] w fun e w' => e = .returned (.bool (allB wN l)) ∧ Below w.heap.size w w' := by
  have HT := Lib.hid ht5
  have HL := Lib.hid hl
  clear ht5 hl
  go_enter Try.func11, Try.ntmps11
  go_wp2_with fail
  go_loopw [5] (fun iv wr => AllLoop wN K w a l iv wr) (fun iv _ => l.length - (intOf iv).toNat)
  case atStart => exact ⟨0, rfl, Nat.zero_le _, rfl, HL.out, Below.refl _ _⟩
  case round =>
    obtain ⟨i, rfl, hi, hall, hlr, hbr⟩ := hrel
    have HALL := Lib.hid hall
    have HLR := Lib.hid hlr
    have HBR := Lib.hid hbr
    clear hall hlr hbr HL
    by_cases hlt : i < l.length
    · have hki : (i : Int) < (l.length : Int) := by omega
      obtain ⟨g, off, rfl, c0, c1, c2, c3, c4, hli, y0, y1, y2, y3, y4⟩ := HLR.out.cells HT.out hlt
      have HFT := Lib.hid (reffits_any wN l[i] (HT.out _ (List.getElem_mem hlt)) wr h5)
      have hstep : allB wN (l.take (i + 1)) = fitsB wN l[i] := by
        rw [List.take_succ_eq_append_getElem hlt]
        have := HALL.out
        unfold allB at this ⊢
        rw [List.all_append, this]
        simp
      have hbad : fitsB wN l[i] = false → allB wN l = false := fun h => by
        cases hh : allB wN l with
        | false => rfl
        | true =>
          unfold allB at hh
          rw [List.all_eq_true] at hh
          rw [hh _ (List.getElem_mem hlt)] at h
          cases h
      have HST := Lib.hid hstep
      have HBAD := Lib.hid hbad
      clear hstep hbad
      generalize hfb : fitsB wN l[i] = fb at *
      rw [hli, show (icells [c0, c1, c2, c3, c4]).toArray = #[.int .i64 c0.toInt, .int .i64 c1.toInt, .int .i64 c2.toInt, .int .i64 c3.toInt, .int .i64 c4.toInt] from rfl] at HFT
      clear hli hfb
      go_wp2_with fail
      refine HFT.out.mono ?_
      rintro e w2 ⟨rfl, hb2⟩
      have HB2 := Lib.hid (HBR.out.trans (hb2.mono HBR.out.size))
      have HL2 := Lib.hid (HLR.out.below hb2)
      clear hb2
      cases fb with
      | true =>
        go_wp2_with fail
        go_roundw
        case rel => exact ⟨i + 1, by go_num, by omega, HST.out, HL2.out, HB2.out⟩
        case measure => simp [intOf]; omega
      | false =>
        go_wp2_with fail
        go_ret
        exact ⟨by rw [HBAD.out trivial]; rfl, HB2.out⟩
    · obtain rfl : i = l.length := by omega
      have hall2 := HALL.out
      rw [List.take_length] at hall2
      have HA := Lib.hid hall2
      clear hall2
      go_wp2_with fail
      go_ret
      exact ⟨by rw [HA.out]; rfl, HBR.out⟩

def SameLoop (n : Nat) (w : World) (iv : Value) (wr : World) : Prop := ∃ i : Nat, iv = .int .i64 (i : Int) ∧ i ≤ n ∧ ∃ m, wr = w.drewN m
theorem Tps.drewN {K : Key} {w : World} {a : Option Addr} {l : List Tup} (h : Tps K w a l) (m : Nat) : Tps K (w.drewN m) a l := h
set_option maxRecDepth 100000 in
set_option maxHeartbeats 1000000 in
/-- Two lists that are the same. -/
theorem refsame_yes {K : Key} (l : List Tup) (a b : Option Addr) (c d : Nat) (w : World) (hl : Tps K w a l) (hm : Tps K w b l) (ht5 : ∀ t ∈ l, t.length = 5) (hn : l.length ≤ 1000000) : Calls Try.prog 26 #[.slice a l.length c, .slice b l.length d] w fun e w' => e = .returned (.bool true) ∧ ∃ m, w' = w.drewN m := by
  have HT := Lib.hid ht5
  have HL := Lib.hid hl
  have HM := Lib.hid hm
  clear ht5 hl hm
  go_enter Try.func26, Try.ntmps26
  go_wp2_with fail
  go_loopw [5] (fun iv wr => SameLoop l.length w iv wr) (fun iv _ => l.length - (intOf iv).toNat)
  case atStart => exact ⟨0, rfl, Nat.zero_le _, 0, rfl⟩
  case round =>
    obtain ⟨i, rfl, hi, m, rfl⟩ := hrel
    by_cases hlt : i < l.length
    · have hki : (i : Int) < (l.length : Int) := by omega
      have hi0 : (0 : Int) ≤ (i : Int) := by omega
      obtain ⟨g, off, rfl, c0, c1, c2, c3, c4, hli, y0, y1, y2, y3, y4⟩ := (HL.out.drewN (m + 1)).cells HT.out hlt
      obtain ⟨g', off', rfl, d0, d1, d2, d3, d4, hli', z0, z1, z2, z3, z4⟩ := (HM.out.drewN (m + 1)).cells HT.out hlt
      rw [hli] at hli'
      injection hli' with e0 hli'
      injection hli' with e1 hli'
      injection hli' with e2 hli'
      injection hli' with e3 hli'
      injection hli' with e4 hli'
      subst e0 e1 e2 e3 e4
      generalize c0.toInt = x0 at *
      generalize c1.toInt = x1 at *
      generalize c2.toInt = x2 at *
      generalize c3.toInt = x3 at *
      generalize c4.toInt = x4 at *
      clear hli hli'
      go_wp2_with fail
      refine wp_reads (by kernel_rfl) (by kernel_rfl) ?_
      repeat (refine sg_step (fun K2 hK => ?_); go_simp; refine hK.out _ ?_; clear hK K2)
      refine sg_nil ?_
      go_wp2_with fail
      go_roundw
      case rel => exact ⟨i + 1, by go_num, by omega, m + 1, rfl⟩
      case measure => simp [intOf]; omega
    · obtain rfl : i = l.length := by omega
      go_wp2_with fail
      go_ret
      exact ⟨rfl, m, rfl⟩

end Go.Proofs.Ytmmkncocgjgapaa.Fl

/- What wakes chapter 10's laws; tuples as a law's argument; small things that laws ask of a work. -/
namespace Go.Proofs.Ytmmkncocgjgapaa.Fl
open Go.RowKit

theorem sure_fresh (S B : Nat) : Sure (Dev.fresh S B) := ⟨rfl, rfl⟩
theorem room_whole {B n : Nat} (h : n ≤ B) : Sp.Room (Sp.wholeL 0 B) 0 n := fun b _ h2 => by
  unfold Sp.wholeL
  rw [if_neg (by omega)]
  exact ⟨(0, B), List.mem_singleton.2 rfl, by unfold Sp.In; simp only; omega⟩
theorem sum_whole (B : Nat) : Sp.sumX (Sp.wholeL 0 B) = B := by
  unfold Sp.wholeL
  split
  · rename_i h; rw [h]; rfl
  · simp [Sp.sumX]
theorem LaidNo.not {W W' : Wk} {wN : Nat} {l : List Tup} {er : Int} (h : LaidNo W wN l er W') (hf : FitsW wN l) (hfa : W.D.fault = -1) (hr : ∃ p, Sp.Room W.L p (nB W.D.size wN l.length)) : False := by
  rcases h.why with ⟨_, _, h⟩ | ⟨_, h, _⟩ | ⟨_, h⟩
  · obtain ⟨p, hp⟩ := hr
    exact h p hp
  · exact h hf
  · exact h hfa
theorem laid_first {L' : List Sp.Ext} {B n first : Nat} (h : Took (Sp.wholeL 0 B) B n first L') (hn : n ≤ B) : first = 0 := by
  rcases Nat.eq_zero_or_pos n with h0 | h0
  · exact (h.zero h0).1
  · rcases Nat.eq_zero_or_pos first with hf | hf
    · exact hf
    · exact absurd (room_whole hn) (h.least h0 0 hf)

section
variable {w w' : World} {O : Nat → Prop} {K : Key} {W : Wk}
theorem spfree_w (hI : WkI w O K W) : Calls Try.prog 34 #[P K.s] w fun e w' => e = .returned (.int .i64 (Sp.sumX W.L : Int)) ∧ Below w.heap.size w w' := by
  obtain ⟨v, hs⟩ := hI.spc
  have hl := hI.inv.len
  have hB := hI.small
  exact Sp.free_any K.s 0 W.B v W.L K.base w hs (by omega)
theorem used_w (hI : WkI w O K W) : Calls Try.prog 19 #[P K.a] w fun e w' => e = .returned (.int .i64 (W.A.used : Int)) ∧ w = w' := Arena.used_any K.a K.r W.A w hI.arn
theorem peak_w (hI : WkI w O K W) : Calls Try.prog 35 #[P K.a] w fun e w' => e = .returned (.int .i64 (W.A.peak : Int)) ∧ w = w' := Arena.peak_any K.a K.r W.A w hI.arn
end

/-- Tuples that came in as a law's argument. -/
theorem tups_of {w : World} {a : Option Addr} {n c : Nat} {l : List (List Int)} (h : rdSlice 5 (rdArr 5 1 (rdInt .i64)) w [.slice a n c] l) :
    ∃ lt : List Tup, lt.length = n ∧ (∀ t ∈ lt, t.length = 5) ∧ n ≤ maxLen ∧ (a = none → n = 0 ∧ c = 0) ∧ ∀ K : Key, w.heap.size ≤ K.base → Tps K w a lt := by
  obtain ⟨a', n', c', e, hl, hn, hc, h0, hr⟩ := h
  simp only [List.cons.injEq, Value.slice.injEq, and_true] at e
  obtain ⟨rfl, rfl, rfl⟩ := e
  have key : ∀ i (hi : i < l.length), ∃ x, a = some x ∧ (∀ j, j < 5 → w.cell? ((x.add (i * 5)).add j) = (icells (l[i].map (BitVec.ofInt 64)))[j]?) ∧ l[i].length = 5 := by
    intro i hi
    obtain ⟨x, es, hx, hes, hj, he1, he2, he3⟩ := hr i hi
    refine ⟨x, hx, fun j hj5 => ?_, he2⟩
    have h3 := he3 j (by omega)
    rw [hj j hj5]
    obtain ⟨h4, h5⟩ := h3
    have hj' : j < es.length := by omega
    rw [Nat.mul_one, List.drop_eq_getElem_cons hj', List.take_succ_cons, List.take_zero] at h4
    have h6 : es[j] = .int .i64 (l[i][j]'(by omega)) := by injection h4
    rw [List.getElem?_eq_getElem hj', h6]
    have hb := u_bounds.2.2.2.2 h5
    have hw : (BitVec.ofInt 64 (l[i][j]'(by omega))).toInt = l[i][j]'(by omega) := by
      rw [BitVec.toInt_ofInt]
      exact Int.bmod_eq_of_le (by omega) (by omega)
    simp only [icells, List.map_map, List.getElem?_map, List.getElem?_eq_getElem (show j < l[i].length by omega), Option.map_some, Function.comp]
    rw [hw]
  refine ⟨l.map (List.map (BitVec.ofInt 64)), by simp [hl], fun t ht => ?_, by omega, fun e => by have := h0 e; omega, fun K hK => ?_⟩
  · obtain ⟨x, hx, rfl⟩ := List.mem_map.1 ht
    obtain ⟨i, hi, rfl⟩ := List.getElem_of_mem hx
    obtain ⟨_, _, _, h5⟩ := key i hi
    simpa using h5
  · rcases Nat.eq_zero_or_pos l.length with hz | hz
    · exact .inl (by rw [List.eq_nil_of_length_eq_zero hz]; rfl)
    · obtain ⟨x, rfl, hx, h5⟩ := key 0 hz
      obtain ⟨b, off, spot⟩ := x
      have h00 := hx 0 (by omega)
      rw [show ((⟨b, off, spot⟩ : Addr).add (0 * 5)).add 0 = ⟨b, off, spot⟩ from by simp [Addr.add], icells_get _ 0 (by simp [h5])] at h00
      have hs := (cell_lt h00)
      simp only at hs
      obtain ⟨hs1, rfl⟩ := hs
      refine .inr ⟨b, off, rfl, hs1, .inr (by omega), fun k hk j hj => ?_⟩
      rw [List.length_map] at hk
      obtain ⟨x, hx', hc', _⟩ := key k hk
      injection hx' with hx'
      subst hx'
      have := hc' j hj
      rw [add_none, add_none] at this
      rw [this]
      simp

set_option maxRecDepth 100000 in
set_option maxHeartbeats 1000000 in
theorem awake10_any (w : World) : Calls Try.prog 10 #[] w fun e w' => e = .returned (.bool true) ∧ Below w.heap.size w w' := by
  have HW := Lib.hid (work_ok 8 9 100 w (by omega) (by omega) (by omega) (by omega) (by omega))
  rw [show ((8 : Nat) : Int) = 8 from rfl, show ((9 : Nat) : Int) = 9 from rfl] at HW
  go_enter Try.func10, Try.ntmps10
  go_wp2_with fail
  refine HW.out.mono ?_
  rintro e w1 ⟨K, rfl, hI1, hK, hb1⟩
  have hH := holds_any hI1 2
  rw [show holds (wk0 8 9 100).D.size 2 = 3 from by decide] at hH
  have HH := Lib.hid hH
  have HI1 := Lib.hid hI1
  have HK := Lib.hid hK
  have HB1 := Lib.hid hb1
  clear hH hI1 hK hb1 HW
  go_wp2_with fail
  refine HH.out.mono ?_
  rintro e w2 ⟨rfl, rfl⟩
  clear HH
  have hbn : Below w1.heap.size w1 (w1.alloc (.cells #[.int .i64 1, .int .i64 2, .int .i64 0, .int .i64 0, .int .i64 0] 45)) := (Below.refl _ _).alloc (Nat.le_refl _) _
  have hT : Tps K (w1.alloc (.cells #[.int .i64 1, .int .i64 2, .int .i64 0, .int .i64 0, .int .i64 0] 45)) (some ⟨w1.heap.size, 0, none⟩) [[1, 2, 0, 0, 0]] := Tps.of_blk (rest := []) (Blk.new w1 _ _) (by decide)
  have HL := Lib.hid (lay_c 2 [[1, 2, 0, 0, 0]] (some ⟨w1.heap.size, 0, none⟩) 1 (HI1.out.below hbn) (sure_fresh 8 9) (by decide) (by omega) (by omega) (by decide) (by decide) hT (by decide) (by decide) (fun g hg => by
    unfold O0
    have := hbn.size
    have := HB1.out.size
    rw [HK.out]
    omega))
  have HBN := Lib.hid hbn
  have HIN := Lib.hid (HI1.out.below hbn)
  rw [show ((2 : Nat) : Int) = 2 from rfl, show ([[1, 2, 0, 0, 0]] : List Tup).length = 1 from rfl] at HL
  clear hbn hT
  go_wp2_with fail
  refine HL.out.mono ?_
  rintro e w3 ⟨W', O', ho, hI3, ht3, h⟩
  have hb3 := Turn.belowB HIN.out HK.out (fun _ h => h.elim) (HB1.out.trans (HBN.out.mono HB1.out.size)) ht3
  have HB3 := Lib.hid hb3
  rcases h with ⟨first, rfl, hok⟩ | ⟨er, rfl, hno⟩
  · rw [show fcells first (nB (wk0 8 9 100).D.size 2 ([[1, 2, 0, 0, 0]] : List Tup).length) 2 ([[1, 2, 0, 0, 0]] : List Tup).length = #[.int .i64 (first : Int), .int .i64 1, .int .i64 2, .int .i64 1] from rfl]
    clear ho hI3 ht3 hok hb3 HL
    go_wp2_with fail
    go_ret
    exact ⟨rfl, HB3.out.alloc HB3.out.size _⟩
  · exact (hno.not (fun t ht => by rw [List.mem_singleton.1 ht]; exact ⟨rfl, by decide⟩) rfl ⟨0, room_whole (B := 9) (n := 1) (by decide)⟩).elim

end Go.Proofs.Ytmmkncocgjgapaa.Fl
