/- Texts of mine, packed: FlList2, SpSum, FlLaid, FlOpen, FlDropD, FlTurn, JnPlain. -/
import Derived.Test.YtlbaigkpojkfjaaK6
import Derived.Test.YtlbaigkpojkfjaaK10
set_option linter.unusedVariables false

/- The walk of List: a file's tuples are told. -/
namespace Go.Proofs.Ytlbaigkpojkfjaa.Fl
open Go.RowKit

section
variable {w w' : World} {O : Nat → Prop} {K : Key} {W : Wk}

theorem own_blk {w : World} {base n : Nat} {v : Value} {xs : List Value} {e : TypeId} {size : Nat} (ho : w.ownsRow base e size v n xs) {g : Nat} (hg : v.ownBlock = some g) : base ≤ g ∧ ∃ cs, Blk w g e cs := by
  rcases ho.2 with ⟨rfl, _⟩ | ⟨g', cap, cur, rfl, hb, hh, _⟩
  · simp [Value.ownBlock] at hg
  · have : g' = g := by simpa [Value.ownBlock] using hg
    subst this
    exact ⟨hb, cur, hh⟩
/-- A row of tuples lies beside a work. -/
theorem own_tup (hI : WkI w O K W) {E : Nat → Prop} (ht : Turn K E w w') {base n : Nat} {v : Value} {xs : List Value} (ho : w.ownsRow base 57 5 v n xs) (hE : ∀ g cs, Blk w g 57 cs → ¬ E g) : w'.ownsRow base 57 5 v n xs :=
  own_chg ho ht (fun g hg => by
    obtain ⟨_, cs, hb⟩ := own_blk ho hg
    exact hI.keeps ht hb (by decide) (by decide) (by decide) (by decide) (by decide) (hE g cs hb))
theorem aside_tup (hI : WkI w O K W) {base n : Nat} {v : Value} {xs : List Value} (ho : w.ownsRow base 57 5 v n xs) (hc : Chg (fun k => some k = v.ownBlock) w w') : WkI w' O K W ∧ Turn K (fun k => some k = v.ownBlock) w w' := by
  refine ⟨hI.aside hc (fun k hk => ?_), hc.mono (fun k _ hk => .inr (.inr (.inr (.inr (.inr (.inr (.inr (.inr hk))))))))⟩
  obtain ⟨_, cs, hb⟩ := own_blk ho hk.symm
  exact ⟨_, cs, hb, by decide, by decide, by decide, by decide, by decide, by decide, by decide, fun h => absurd h (by decide)⟩
theorem RdAt.below {x : Nat} {X : Rd} (hI : WkI w O K W) (h : RdAt w O K W x X) (hb : Below w.heap.size w w') : RdAt w' O K W x X :=
  h.turn (E := fun _ => False) hI (Turn.below hb) (fun h => h) (fun _ h => h) (fun _ h => h) (fun _ h => h) rfl (fun _ h _ => h)

theorem rclose_closed_d {x : Nat} {cs : Array Value} {u : FrameMode} (h : Blk w x 122 cs) (hc : cs[10]? = some (.bool true)) : CallsD Try.prog 39 #[P x] u w (fun e u' w' => u' = u ∧ e = .returned (.tuple #[]) ∧ w = w') := by
  have c10 : w.cell? ⟨x, 10, none⟩ = some (.bool true) := (h.cell 10).trans hc
  clear h
  go_enter_d Try.func39, Try.ntmps39
  go_wp2_with fail
  go_end0
  exact ⟨rfl, rfl⟩

def rd0 (first blocks width count : Int) (size b d : Nat) : Rd := ⟨first, blocks, width, count, b, d, 0, 0, 0, 0, false, zeros size⟩
def ListYes (Q : Nat → Nat → List Tup → Rd → Dev.Dv → Prop) (w : World) (O : Nat → Prop) (K : Key) (W : Wk) (count : Int) (l : List Tup) (e : Ending) (w' : World) : Prop :=
  ∃ v b d Y D, e = .returned (.tuple #[v, .int .i64 0]) ∧ w'.ownsRow w.heap.size 57 5 v l.length (flatT l) ∧ Q b d l Y D ∧ D.size = W.D.size ∧
    (l.length : Int) = count ∧ (w.heap.size ≤ b ∧ w.heap.size ≤ d) ∧ WkI w' (but O d) K { W with D := D, A := (W.A.grant W.D.size b).release b W.D.size } ∧ Turn K (fun _ => False) w w'
/-- The tuples l come, and then a block that the device doesn't give. -/
def ListErr (Q : Nat → Nat → List Tup → Rd → Dev.Dv → Prop) (w : World) (O : Nat → Prop) (K : Key) (W : Wk) (count : Int) (l : List Tup) (e : Ending) (w' : World) : Prop :=
  ∃ b d Y D, e = .returned (.tuple #[.slice none 0 0, .int .i64 (D.rd (IntKind.i64.wrap (Y.first + (Y.block : Int)))).1]) ∧ Q b d l Y D ∧ D.size = W.D.size ∧
    (l.length : Int) < count ∧ Y.at_ = Y.n ∧ (D.rd (IntKind.i64.wrap (Y.first + (Y.block : Int)))).1 ≠ 0 ∧ (w.heap.size ≤ b ∧ w.heap.size ≤ d) ∧ WkI w' (but O d) K { W with D := (D.rd (IntKind.i64.wrap (Y.first + (Y.block : Int)))).2, A := (W.A.grant W.D.size b).release b W.D.size } ∧ Turn K (fun _ => False) w w'
def ListEnd (count : Int) (n : Nat) (Y : Rd) (D : Dev.Dv) : Prop := (n : Int) = count ∨ ((n : Int) < count ∧ Y.at_ = Y.n ∧ (D.rd (IntKind.i64.wrap (Y.first + (Y.block : Int)))).1 ≠ 0)
def vlen : Value → Nat
  | .slice _ n _ => n
  | _ => 0
def ListLoop (w0 w2 : World) (O : Nat → Prop) (K : Key) (V : Wk) (x : Nat) (X Yf : Rd) (Df : Dev.Dv) (l : List Tup) (ov : Value) (wr : World) : Prop :=
  ∃ (k : Nat) (Y : Rd) (D : Dev.Dv) (a : Option Addr) (c : Nat), ov = .slice a k c ∧ k ≤ l.length ∧ Reads V X (l.take k) Y D ∧ Reads { V with D := D } Y (l.drop k) Yf Df ∧ WkI wr O K { V with D := D } ∧ RdAt wr O K { V with D := D } x Y ∧
    wr.ownsRow w0.heap.size 57 5 ov k (flatT (l.take k)) ∧ Turn K (fun q => w0.heap.size ≤ q) w2 wr
theorem Reads.tup5 {W : Wk} {X Y : Rd} {D : Dev.Dv} {l : List Tup} (h : Reads W X l Y D) (ho : X.Ok W.D.size) (hw : X.ws.length = W.D.size) (h1 : 1 ≤ X.width) (h5 : X.width ≤ 5) (h8 : 8 ≤ W.D.size) (hc : ((X.told + l.length : Nat) : Int) ≤ X.count) : ∀ t ∈ l, t.length = 5 := by
  induction l generalizing W X with
  | nil => exact fun t h => by cases h
  | cons t l ih =>
    obtain ⟨X2, D2, hl, h2, h3⟩ := h
    rw [List.length_cons] at hc
    have k1 := loads_kin hl
    obtain ⟨q1, q2, q3⟩ := hl.ok ho h1 h5 h8 (by omega)
    have hz : D2.size = W.D.size := k1.size
    have hr := q1.room (by rw [q3]; exact h1) q2
    have hws : X2.ws.length = W.D.size := by
      rcases hl with ⟨_, rfl, _⟩ | ⟨_, i, iN, wN, p, _, _, _, _, hp, _, _, rfl, _⟩
      · exact hw
      · show (over X.ws 0 p).length = _
        rw [over_length (by omega)]
        exact hw
    intro u hu
    rcases List.mem_cons.1 hu with rfl | hu
    · rw [h2]
      unfold Rd.tup
      rw [List.length_append, List.length_take, List.length_drop, hws]
      simp only [zeros, List.length_replicate]
      omega
    · exact ih (W := { W with D := D2 }) (X := X2.next) h3 (by show X2.next.Ok D2.size; rw [hz]; exact q1.next q2) (by show X2.ws.length = D2.size; rw [hz]; exact hws) (by rw [k1.width]; exact h1) (by rw [k1.width]; exact h5) (by show 8 ≤ D2.size; omega) (by rw [k1.told, k1.count]; omega) u hu

set_option maxRecDepth 100000 in
set_option maxHeartbeats 4000000 in
theorem list_told (Q : Nat → Nat → List Tup → Rd → Dev.Dv → Prop) (first blocks width count : Int) (hI : WkI w O K W) (hc : CanBe W.D.size blocks width count) (hn : W.D.size ≤ W.A.room - W.A.used)
    (hR : ∀ b d, ∃ l Y D, (l.length : Int) ≤ count ∧ Reads { W with A := W.A.grant W.D.size b } (rd0 first blocks width count W.D.size b d) l Y D ∧ ListEnd count l.length Y D ∧ Q b d l Y D) (hac : W.D.acts + count.toNat + 1 < 1099511627776) :
    Calls Try.prog 15 #[P K.wk, .agg (fvals first blocks width count)] w (fun e w' => ∃ l, ListYes Q w O K W count l e w' ∨ ListErr Q w O K W count l e w') := by
  have hbl : Below w.heap.size w (w.alloc (.cells (fvals first blocks width count) 29)) := (Below.refl _ _).alloc (Nat.le_refl _) _
  have hF := Blk.new w 29 (fvals first blocks width count)
  have HM := Lib.hid (open_ok first blocks width count (hI.below hbl) hc hn)
  have HT : Hid (Turn K (fun _ => False) w _) := Lib.hid (Turn.below hbl)
  have HI := Lib.hid (hI.below hbl)
  have HF := Lib.hid hF
  have HR := Lib.hid hR
  have HC := Lib.hid hc
  have HAC := Lib.hid hac
  have hz0 : w.heap.size < (w.alloc (.cells (fvals first blocks width count) 29)).heap.size := hF.lt
  unfold fvals at *
  clear hbl hF hI hR hc hac
  go_enter_defers Try.func15, Try.ntmps15
  go_wp2_with fail
  generalize w.alloc (.cells #[.int .i64 first, .int .i64 blocks, .int .i64 width, .int .i64 count] 29) = w1 at *
  have k0 : w1.cell? ⟨w.heap.size, 0, none⟩ = some (.int .i64 first) := HF.out.cell 0
  have k1 : w1.cell? ⟨w.heap.size, 1, none⟩ = some (.int .i64 blocks) := HF.out.cell 1
  have k2 : w1.cell? ⟨w.heap.size, 2, none⟩ = some (.int .i64 width) := HF.out.cell 2
  have k3 : w1.cell? ⟨w.heap.size, 3, none⟩ = some (.int .i64 count) := HF.out.cell 3
  go_wp2_with fail
  refine HM.out.mono ?_
  rintro e w2 ⟨x, b, d, rfl, hI2, hX2, q1, q2, q3, ht2⟩
  have HI2 := Lib.hid hI2
  have HX2 := Lib.hid hX2
  have HT2 := Lib.hid (HT.out.trans ht2)
  have HQ := Lib.hid (show w.heap.size ≤ x ∧ w.heap.size ≤ b ∧ w.heap.size ≤ d from ⟨by omega, by omega, by omega⟩)
  have hz2 : w.heap.size ≤ w2.heap.size := by have := ht2.size; omega
  clear hI2 hX2 ht2 HM HT HF HI k0 k1 k2 k3
  go_wp2_with fail
  obtain ⟨l, Yf, Df, hl, hR, hE, hqq⟩ := HR.out b d
  have HQQ := Lib.hid hqq
  clear hqq
  have HL := Lib.hid hl
  have HRD := Lib.hid hR
  have HE := Lib.hid hE
  have HR5 := Lib.hid (hR.tup5 (Rd.Ok.new _ _ _ _ _ _ _ HI2.out.size.1 HC.out.1 HC.out.2.2.1) (by simp [rd0, zeros]) HC.out.1 HC.out.2.1 HI2.out.size.1 (by show ((0 + l.length : Nat) : Int) ≤ count; rw [Nat.zero_add]; exact HL.out))
  clear hR HR hE hl
  have hcl : (rd0 first blocks width count W.D.size b d).closed = false := rfl
  obtain ⟨V, hV⟩ : ∃ V : Wk, V = { W with A := W.A.grant W.D.size b } := ⟨_, rfl⟩
  obtain ⟨X, hX⟩ : ∃ X : Rd, X = rd0 first blocks width count W.D.size b d := ⟨_, rfl⟩
  have hX' : X = ⟨first, blocks, width, count, b, d, 0, 0, 0, 0, false, zeros W.D.size⟩ := hX
  have HV := Lib.hid hV
  have HX := Lib.hid hX
  rw [← hV] at HI2 HX2 HRD
  rw [← hX'] at HX2
  rw [← hX] at HRD hcl
  clear hV hX hX'
  go_loopw [8] (fun ov wr => ListLoop w w2 (but O d) K V x X Yf Df l ov wr) (fun ov _ => l.length - vlen ov)
  case atStart => exact ⟨0, X, V.D, none, 0, rfl, by omega, ⟨rfl, rfl⟩, HRD.out, HI2.out, HX2.out, World.ownsRow_nil _ _ _ _, Turn.refl _ _ _⟩
  case round =>
    obtain ⟨k, Y, D, a, c, rfl, hk, hRa, hRb, hIk, hXk, hok, htk⟩ := hrel
    have hkk := hRa.kin
    have hYc : Y.closed = false := hkk.closed.trans hcl
    have hYt : Y.told = k := by
      have e1 := hkk.told
      rw [HX.out] at e1
      have e1' : Y.told = 0 + (l.take k).length := e1
      rw [e1', List.length_take]
      omega
    have hYn : Y.count = count := by
      have e2 := hkk.count
      rw [HX.out] at e2
      exact e2
    have hac2 : D.acts + 1 < 1099511627776 := by
      have e3 : D.acts ≤ V.D.acts + (l.take k).length := hkk.acts
      rw [List.length_take, HV.out] at e3
      have := HAC.out
      have := HL.out
      have e4 : ({ W with A := W.A.grant W.D.size b } : Wk).D.acts = W.D.acts := rfl
      omega
    have hYb : Y.buf = b := by
      have e2 := hkk.buf
      rw [HX.out] at e2
      exact e2
    have hYa : Y.arr = d := by
      have e2 := hkk.arr
      rw [HX.out] at e2
      exact e2
    have HOW : Hid (∀ q, OwnR x Y q → w.heap.size ≤ q) := Lib.hid (fun q hq => by
      have := HQ.out
      rcases hq with e | e | e
      · omega
      · rw [hYb] at e; omega
      · rw [hYa] at e; omega)
    have HYC := Lib.hid hYc
    have HYB := Lib.hid hYb
    clear hYa
    by_cases hkl : k < l.length
    · rw [List.drop_eq_getElem_cons hkl] at hRb
      obtain ⟨X1, D1, hload, htu, hRc⟩ := hRb
      have h8 : 8 ≤ V.D.size := HI2.out.size.1
      have hXw : X.width = width := by rw [HX.out]; rfl
      have hYo : Y.Ok V.D.size := hRa.ok (by rw [HX.out, HV.out]; exact Rd.Ok.new _ _ _ _ _ _ _ (by have := HI2.out.size.1; rw [HV.out] at this; exact this) HC.out.1 HC.out.2.2.1) (by rw [hXw]; exact HC.out.1) (by rw [hXw]; exact HC.out.2.1) h8 (by rw [HX.out, List.length_take]; show ((0 + min k l.length : Nat) : Int) ≤ count; have := HL.out; omega)
      have hds : D.size = V.D.size := hkk.size
      have hlt : (Y.told : Int) < Y.count := by rw [hYt, hYn]; have := HL.out; omega
      have hN := (next_live hIk hXk hYc (by show Y.Ok D.size; rw [hds]; exact hYo) hlt hload hac2).2
      have h5 : l[k].length = 5 := HR5.out _ (List.getElem_mem hkl)
      obtain ⟨u0, u1, u2, u3, u4, hu⟩ : ∃ u0 u1 u2 u3 u4 : Int, icells l[k] = [.int .i64 u0, .int .i64 u1, .int .i64 u2, .int .i64 u3, .int .i64 u4] := by
        match l[k], h5 with
        | [a, b, c, d, e], _ => exact ⟨_, _, _, _, _, rfl⟩
      have hX1k := loads_kin hload
      have hS := hRa.snoc hload
      rw [← htu] at hS
      have htk' : l.take k ++ [l[k]] = l.take (k + 1) := (List.take_succ_eq_append_getElem hkl).symm
      rw [htk'] at hS
      have hxe : (icells X1.tup).toArray = #[.int .i64 u0, .int .i64 u1, .int .i64 u2, .int .i64 u3, .int .i64 u4] := by rw [← htu, hu]
      have hfl : flatT (l.take k) ++ [.int .i64 u0, .int .i64 u1, .int .i64 u2, .int .i64 u3, .int .i64 u4] = flatT (l.take (k + 1)) := by rw [← htk', flatT_append, ← hu]; simp [flatT]
      have hwid : X1.next.width = Y.width := hX1k.width
      have hcou : X1.next.count = Y.count := hX1k.count
      have HN := Lib.hid hN
      have HXE := Lib.hid hxe
      have HFL := Lib.hid hfl
      have HS := Lib.hid hS
      have HRc := Lib.hid hRc
      have HIk := Lib.hid hIk
      have HXk := Lib.hid hXk
      have HOk := Lib.hid hok
      have HTk := Lib.hid htk
      have HX1 := Lib.hid hX1k
      have HW1 := Lib.hid hwid
      have HW2 := Lib.hid hcou
      clear hRa hRc hIk hXk hok htk hkk hN hxe hfl hS hX1k hload htu hu h5 htk' HI2 HX2 HRD hYo hds hlt hXw h8 hwid hcou hYt hYn hac2 hYb hYc
      go_wp2_with fail
      refine HN.out.mono ?_
      rintro e w3 ⟨rfl, hI3, hX3, hB3, ht3⟩
      rw [HXE.out]
      have HI3 := Lib.hid hI3
      have HX3 := Lib.hid hX3
      have HB3 := Lib.hid hB3
      have HT3 := Lib.hid ht3
      clear hI3 hX3 hB3 ht3 HN HXE
      have hO3 := own_tup HIk.out HT3.out HOk.out (fun g cs hg hh => by
        rcases hh with (e | e | e) | e
        · subst e; exact hg.ne_ HXk.out.blk (by decide) rfl
        · subst e; exact hg.ne_ (HXk.out.live HYC.out).blk (by decide) rfl
        · subst e; exact hg.ne_ (HXk.out.live HYC.out).row (by decide) rfl
        · have := hg.lt; omega)
      have hR3 : RdAt w3 (but O d) K { V with D := D1 } x X1.next := ⟨HX3.out, fun _ => by rw [HX1.out.buf, HX1.out.arr]; exact HB3.out, by rw [HW1.out]; exact HXk.out.width, by rw [HW2.out]; exact HXk.out.count⟩
      have hb5 : Below w3.heap.size w3 ((w3.alloc (.cells #[.int .i64 u0, .int .i64 u1, .int .i64 u2, .int .i64 u3, .int .i64 u4] 57)).alloc (.cells #[.int .i64 u0, .int .i64 u1, .int .i64 u2, .int .i64 u3, .int .i64 u4] 57)) := ((Below.refl _ _).alloc (Nat.le_refl _) _).alloc (by simp) _
      have hO5 := own_chg hO3 (Chg.of_below' (S := fun _ => False) hb5) (fun _ _ h => h)
      have hI5 := HI3.out.below hb5
      have hR5 := hR3.below HI3.out hb5
      have hrw := Row.new (w3.alloc (.cells #[.int .i64 u0, .int .i64 u1, .int .i64 u2, .int .i64 u3, .int .i64 u4] 57)) #[.int .i64 u0, .int .i64 u1, .int .i64 u2, .int .i64 u3, .int .i64 u4] 57 (0, 0)
      rw [show (w3.alloc (.cells #[.int .i64 u0, .int .i64 u1, .int .i64 u2, .int .i64 u3, .int .i64 u4] 57)).heap.size = w3.heap.size + 1 from by simp] at hrw
      have HRW := Lib.hid hrw
      have HO5 := Lib.hid hO5
      have HI5 := Lib.hid hI5
      have HR5' := Lib.hid hR5
      have HB5 := Lib.hid hb5
      have hkb : k < 100000000 := by have := HC.out.2.2.2.1; have := HL.out; omega
      have hsz3 : w.heap.size ≤ w3.heap.size := by have := HT3.out.size; have := HTk.out.size; omega
      clear hO3 hR3 hb5 hO5 hI5 hR5 hrw
      go_wp2_with (at_builtin; go_must (refine wpList_append rfl (.tmp 34) (.tmp 36) _ rfl el_tup w.heap.size (.slice a k c) k (flatT (l.take k)) rfl HO5.out _ 1 1 [.int .i64 u0, .int .i64 u1, .int .i64 u2, .int .i64 u3, .int .i64 u4] rfl rfl HRW.out (by intro u hu; simp at hu; rcases hu with rfl | rfl | rfl | rfl | rfl <;> rfl) (by unfold maxLen; omega) (by omega) (by simp; omega) ?_))
      intro v7 w7 hown7 hg7 hv7 hb7
      rw [HFL.out] at hown7
      obtain ⟨g7, c7, hv, _, _⟩ := World.ownsRow.form hown7 (by omega)
      have hc7 := Chg.of_grown hg7
      obtain ⟨hI7, hT7⟩ := aside_tup HI5.out HO5.out hc7
      have hne : ∀ g t cs, Blk ((w3.alloc (.cells #[.int .i64 u0, .int .i64 u1, .int .i64 u2, .int .i64 u3, .int .i64 u4] 57)).alloc (.cells #[.int .i64 u0, .int .i64 u1, .int .i64 u2, .int .i64 u3, .int .i64 u4] 57)) g t cs → t ≠ 57 → ¬ some g = (Value.slice a k c).ownBlock := fun g t cs hg ht e => by
        obtain ⟨_, cs', hb⟩ := own_blk HO5.out e.symm
        exact hg.ne_ hb ht rfl
      have hR7 := HR5'.out.turn HI5.out hT7 (hne _ _ _ HR5'.out.blk (by decide)) (fun hc => hne _ _ _ (HR5'.out.live hc).blk (by decide)) (fun hc => hne _ _ _ (HR5'.out.live hc).row (by decide)) (fun _ h => h) rfl (fun _ h _ => h)
      have hTT : Turn K (fun q => w.heap.size ≤ q) w2 w7 := ((HTk.out.trans (HT3.out.mono (fun q hq => by
        rcases hq with h | h
        · exact HOW.out q h
        · have := HTk.out.size; omega))).trans (Turn.below HB5.out)).trans (hT7.mono (fun q hq => (own_blk HO5.out hq.symm).1))
      have HT7 := Lib.hid hTT
      have HI7 := Lib.hid hI7
      have HR7 := Lib.hid hR7
      have HO7 := Lib.hid hown7
      subst hv
      clear hTT hI7 hR7 hown7 hg7 hv7 hb7 hc7 hne hT7 HO5 HRW HI5 HR5' HB5 HT3 HTk HI3 HX3 HB3 HOk HXk HIk
      generalize hWW : ((w3.alloc (.cells #[.int .i64 u0, .int .i64 u1, .int .i64 u2, .int .i64 u3, .int .i64 u4] 57)).alloc (.cells #[.int .i64 u0, .int .i64 u1, .int .i64 u2, .int .i64 u3, .int .i64 u4] 57)) = w5 at *
      clear hWW
      go_wp2_with fail
      go_roundw
      case rel => exact ⟨k + 1, X1.next, D1, _, _, rfl, by omega, HS.out, HRc.out, HI7.out, HR7.out, HO7.out, HT7.out⟩
      case measure => simp [vlen]; omega
    · have hke : k = l.length := by omega
      subst hke
      rw [List.take_length] at hRa hok
      rw [List.drop_length] at hRb
      obtain ⟨rfl, hDf⟩ := hRb
      obtain rfl : Df = D := hDf
      have HRa := Lib.hid hRa
      have HIk := Lib.hid hIk
      have HXk := Lib.hid hXk
      have HOk := Lib.hid hok
      have HTk := Lib.hid htk
      have HYT := Lib.hid hYt
      have HYN := Lib.hid hYn
      clear hRa hIk hXk hok htk hkl hkk HI2 HX2 HRD hYt hYn hYc hYb
      rcases HE.out with hend | ⟨hless, hat, hrd⟩
      · have HN := Lib.hid (next_end HXk.out HYC.out (by rw [HYT.out, HYN.out]; exact hend))
        have HEND := Lib.hid hend
        clear hend hac2
        go_wp2_with fail
        refine HN.out.mono ?_
        rintro e w3 ⟨rfl, hb3⟩
        have HB3 := Lib.hid hb3
        clear hb3 HN
        unfold zero5
        have hb4 : Below w3.heap.size w3 (w3.alloc (.cells #[.int .i64 0, .int .i64 0, .int .i64 0, .int .i64 0, .int .i64 0] 57)) := (Below.refl _ _).alloc (Nat.le_refl _) _
        have HB4 := Lib.hid (HB3.out.trans (hb4.mono HB3.out.size))
        clear hb4
        go_wp2_with fail
        generalize w3.alloc (.cells #[.int .i64 0, .int .i64 0, .int .i64 0, .int .i64 0, .int .i64 0] 57) = w4 at *
        have hI4 := HIk.out.below HB4.out
        have hX4 := HXk.out.below HIk.out HB4.out
        have hO4 := own_chg HOk.out (Chg.of_below' (S := fun _ => False) HB4.out) (fun _ _ h => h)
        refine ⟨(fun h => by cases h), _, _, _, _, rfl, rfl, (rclose_d hI4 hX4 HYC.out).mono ?_⟩
        rintro e u' w5 ⟨rfl, rfl, hI5, hX5, ht5⟩
        refine ⟨_, results_tmp2 rfl _ _ _, l, .inl ?_⟩
        have hO5 := own_tup hI4 ht5 hO4 (fun g cs hg hh => by
          rcases hh with e | e | e
          · subst e; exact hg.ne_ hX4.blk (by decide) rfl
          · subst e; exact hg.ne_ (hX4.live HYC.out).blk (by decide) rfl
          · subst e; exact hg.ne_ (hX4.live HYC.out).row (by decide) rfl)
        have hTT : Turn K (fun q => w.heap.size ≤ q) w w5 := ((HT2.out.mono (fun _ h => h.elim)).trans (HTk.out.trans (Turn.below HB4.out))).trans (ht5.mono (fun q hq => HOW.out q hq))
        have hds : Df.size = W.D.size := by have := HRa.out.kin.size; rw [HV.out] at this; exact this
        refine ⟨_, b, d, Yf, Df, rfl, hO5, HQQ.out, hds, HEND.out, HQ.out.2, ?_, turn_fresh hTT (fun _ h => h)⟩
        · have := hI5
          rw [HYB.out, HV.out] at this
          rw [← hds]
          rw [← hds] at this
          exact this
      · have HN := Lib.hid (next_bad HIk.out HXk.out HYC.out (by rw [HYT.out, HYN.out]; exact hless) hat (er := (Df.rd (IntKind.i64.wrap (Yf.first + (Yf.block : Int)))).1) (D1 := (Df.rd (IntKind.i64.wrap (Yf.first + (Yf.block : Int)))).2) hrd (Dev.rd_kin _ _).size (fun w2 h1 h2 => load_err h1 h2 rfl hrd hac2))
        have HEND := Lib.hid (And.intro hless hat)
        have HRDN := Lib.hid hrd
        have hne : ((Df.rd (IntKind.i64.wrap (Yf.first + (Yf.block : Int)))).1 != 0) = true := by simpa using hrd
        generalize her : (Df.rd (IntKind.i64.wrap (Yf.first + (Yf.block : Int)))).1 = er at *
        have HER := Lib.hid her
        clear hless hat hrd hac2 her
        go_wp2_with fail
        refine HN.out.mono ?_
        rintro e w3 ⟨rfl, hI3, hX3, ht3⟩
        have HI3 := Lib.hid hI3
        have HX3 := Lib.hid hX3
        have HT3 := Lib.hid ht3
        clear hI3 hX3 ht3 HN
        unfold zero5
        have hb4 : Below w3.heap.size w3 (w3.alloc (.cells #[.int .i64 0, .int .i64 0, .int .i64 0, .int .i64 0, .int .i64 0] 57)) := (Below.refl _ _).alloc (Nat.le_refl _) _
        have HB4 := Lib.hid hb4
        clear hb4
        go_wp2_with fail
        generalize w3.alloc (.cells #[.int .i64 0, .int .i64 0, .int .i64 0, .int .i64 0, .int .i64 0] 57) = w4 at *
        have hI4 := HI3.out.below HB4.out
        have hX4 := HX3.out.below HB4.out HX3.out.lt
        refine ⟨(fun h => by cases h), _, _, _, _, rfl, rfl, (rclose_closed_d hX4 rfl).mono ?_⟩
        rintro e u' w5 ⟨rfl, rfl, rfl⟩
        refine ⟨_, results_tmp2 rfl _ _ _, l, .inr ?_⟩
        have hTT : Turn K (fun q => w.heap.size ≤ q) w w4 := ((HT2.out.mono (fun _ h => h.elim)).trans (HTk.out.trans (HT3.out.mono (fun q hq => by
          rcases hq with h | h
          · exact HOW.out q h
          · have := HTk.out.size; omega)))).trans (Turn.below HB4.out)
        have hds : Df.size = W.D.size := by have := HRa.out.kin.size; rw [HV.out] at this; exact this
        refine ⟨b, d, Yf, Df, (by rw [HER.out]; rfl), HQQ.out, hds, HEND.out.1, HEND.out.2, by rw [HER.out]; exact HRDN.out, HQ.out.2, ?_, turn_fresh hTT (fun _ h => h)⟩
        · have := hI4
          rw [HYB.out, HV.out] at this
          rw [← hds]
          rw [← hds] at this
          exact this
end

end Go.Proofs.Ytlbaigkpojkfjaa.Fl

/- How many blocks are free: as many as there are marks; what Take and Give do to that number. -/
namespace Go.Proofs.Ytlbaigkpojkfjaa.Sp
open Go.RowKit

theorem countP_or_ {α : Type} (p q r : α → Bool) : ∀ (l : List α), (∀ x ∈ l, p x = (q x || r x)) → (∀ x ∈ l, ¬ (q x = true ∧ r x = true)) → l.countP p = l.countP q + l.countP r := by
  intro l
  induction l with
  | nil => intro _ _; rfl
  | cons a l ih =>
    intro h1 h2
    rw [List.countP_cons, List.countP_cons, List.countP_cons, ih (fun x hx => h1 x (List.mem_cons_of_mem _ hx)) (fun x hx => h2 x (List.mem_cons_of_mem _ hx)), h1 a (List.mem_cons_self ..)]
    have := h2 a (List.mem_cons_self ..)
    cases hq : q a <;> cases hr : r a <;> simp_all <;> omega
theorem count_range (p m : Nat) : ∀ N : Nat, (List.range N).countP (fun b => decide (p ≤ b ∧ b < p + m)) = min N (p + m) - min N p := by
  intro N
  induction N with
  | zero => simp
  | succ N ih =>
    rw [List.range_succ, List.countP_append, ih, List.countP_cons, List.countP_nil]
    by_cases h : p ≤ N ∧ N < p + m
    · rw [if_pos (by simpa using h)]; omega
    · rw [if_neg (by simpa using h)]; omega
open Classical in
noncomputable def cntF (L : List Ext) (N : Nat) : Nat := (List.range N).countP (fun b => decide (Fr L b))
open Classical in
theorem sumX_cnt (N : Nat) : ∀ (L : List Ext), (L.Pairwise fun x y => x.1 + x.2 < y.1) → (∀ e ∈ L, e.1 + e.2 ≤ N) → sumX L = cntF L N := by
  intro L
  induction L with
  | nil =>
    intro _ _
    unfold cntF sumX
    rw [List.countP_eq_zero.2]
    · rfl
    · intro b _
      have := Fr_nil b
      simpa using this
  | cons e L ih =>
    intro hp hN
    rw [List.pairwise_cons] at hp
    have h1 := ih hp.2 (fun f hf => hN f (List.mem_cons_of_mem _ hf))
    have h2 := hN e (List.mem_cons_self ..)
    have h3 := countP_or_ (fun b => decide (Fr (e :: L) b)) (fun b => decide (e.1 ≤ b ∧ b < e.1 + e.2)) (fun b => decide (Fr L b)) (List.range N) (fun b _ => by
      have := Fr_cons e L b
      unfold In at this
      by_cases ha : e.1 ≤ b ∧ b < e.1 + e.2 <;> by_cases hb : Fr L b <;> simp_all) (fun b _ h => by
      simp only [decide_eq_true_eq] at h
      obtain ⟨⟨ha, hb⟩, f, hf, hc⟩ := h
      have := hp.1 f hf
      unfold In at hc
      omega)
    have h4 := count_range e.1 e.2 N
    have h5 : sumX (e :: L) = e.2 + sumX L := by unfold sumX; simp
    unfold cntF at h1 ⊢
    rw [h3, h4, h5, h1]
    omega
theorem cntF_cut {L L' : List Ext} {p m N : Nat} (hN : p + m ≤ N) (h : ∀ b, Fr L' b ↔ Fr L b ∧ ¬ (p ≤ b ∧ b < p + m)) (hr : Room L p m) : cntF L' N + m = cntF L N := by
  classical
  have h3 := countP_or_ (fun b => decide (Fr L b)) (fun b => decide (p ≤ b ∧ b < p + m)) (fun b => decide (Fr L' b)) (List.range N) (fun b _ => by
    have h1 := h b
    have h2 := hr b
    by_cases ha : p ≤ b ∧ b < p + m <;> by_cases hb : Fr L b <;> simp_all) (fun b _ hh => by
    simp only [decide_eq_true_eq] at hh
    have := (h b).1 hh.2
    exact this.2 hh.1)
  have h4 := count_range p m N
  unfold cntF
  have e1 : (List.range N).countP (fun b => decide (Fr L b)) = (List.range N).countP (fun b => @decide (Fr L b) (Classical.propDecidable _)) := by congr
  rw [h3, h4]
  omega
theorem sumX_cut {B : Nat} {L L' : List Ext} {p m : Nat} (hI : Inv 0 B L) (hI' : Inv 0 B L') (hN : p + m ≤ B) (h : ∀ b, Fr L' b ↔ Fr L b ∧ ¬ (p ≤ b ∧ b < p + m)) (hr : Room L p m) : sumX L' + m = sumX L := by
  rw [sumX_cnt B L hI.apart (fun e he => by have := hI.ok e he; omega), sumX_cnt B L' hI'.apart (fun e he => by have := hI'.ok e he; omega)]
  exact cntF_cut hN h hr
theorem same_fr {B : Nat} {L L' : List Ext} (hI : Inv 0 B L) (hI' : Inv 0 B L') (h : ∀ b, Fr L' b ↔ Fr L b) : L' = L :=
  inv_unique L' L hI'.apart hI.apart (fun e he => (hI'.ok e he).1) (fun e he => (hI.ok e he).1) h

/-- What was taken is given back. -/
theorem take_give {B : Nat} {L L' L'' : List Ext} {p m : Nat} {er : Int} (hI : Inv 0 B L) (ht : TakeRel L 0 B (m : Int) (p : Int) 0 L') (hg : GiveRel L' 0 B (p : Int) (m : Int) er L'') : er = 0 ∧ L'' = L := by
  obtain ⟨hI', h⟩ := take_spec hI ht
  rcases h with ⟨_, _, h, _⟩ | ⟨_, _, _, _, _, _, h, _⟩ | ⟨m', p', e1, e2, _, h1, h2, h3, h4, _, h5, _⟩
  · cases h
  · cases h
  · obtain rfl : m = m' := by omega
    obtain rfl : p = p' := by omega
    obtain ⟨hI'', hg⟩ := give_spec hI' hg
    rcases hg with ⟨_, _, hn⟩ | ⟨rfl, _, hf⟩
    · exact absurd ⟨by omega, by omega, by omega, fun b hb1 hb2 hF => ((h5 b).1 hF).2 ⟨by omega, by omega⟩⟩ hn
    · refine ⟨rfl, same_fr hI hI'' (fun b => ?_)⟩
      rw [hf b, h5 b]
      constructor
      · rintro (⟨h, _⟩ | ⟨ha, hb⟩)
        · exact h
        · exact h4 b (by omega) (by omega)
      · intro h
        by_cases hb : p ≤ b ∧ b < p + m
        · exact .inr ⟨by omega, by omega⟩
        · exact .inl ⟨h, hb⟩

end Go.Proofs.Ytlbaigkpojkfjaa.Sp

/- Lay and List in plain words, on devices whose power doesn't fail. -/
namespace Go.Proofs.Ytlbaigkpojkfjaa.Fl
open Go.RowKit

theorem grant_release {A : Arena.Ar} {n b : Nat} (hb : ∀ p ∈ A.st, p.1 ≠ b) : (A.grant n b).release b n = { A with peak := max A.peak (A.used + n) } := by
  unfold Arena.Ar.grant Arena.Ar.release
  simp only [Nat.add_sub_cancel, Arena.Ar.mk.injEq, true_and]
  rw [List.filter_append]
  have h1 : A.st.filter (fun p => decide (p.1 ≠ b)) = A.st := List.filter_eq_self.2 (fun p hp => by simpa using hb p hp)
  rw [h1]
  simp
/-- The set of a device's rows behind a call. -/
def Okin (w w' : World) (O O' : Nat → Prop) : Prop := (∀ g, w'.heap.size ≤ g → O' g) ∧ ∀ g, g < w.heap.size → O' g → O g
theorem Okin.trans {w w1 w2 : World} {O O1 O2 : Nat → Prop} (h : Okin w w1 O O1) (h' : Okin w1 w2 O1 O2) (hs : w.heap.size ≤ w1.heap.size) : Okin w w2 O O2 := ⟨h'.1, fun g hg hO => h.2 g hg (h'.2 g (by omega) hO)⟩
theorem Okin.refl {w w' : World} {O : Nat → Prop} (hs : w.heap.size ≤ w'.heap.size) (h : ∀ g, w.heap.size ≤ g → O g) : Okin w w' O O := ⟨fun g hg => h g (by omega), fun _ _ h => h⟩
/-- All blocks that come are the device's. -/
def onto (w : World) (O : Nat → Prop) (g : Nat) : Prop := O g ∨ w.heap.size ≤ g
section
variable {w w' : World} {O : Nat → Prop} {K : Key} {W : Wk}
theorem WkI.onto (h : WkI w O K W) : WkI w (Fl.onto w O) K W := h.mono (fun g _ hO => .inl hO) (fun g hg => by
  rcases hg with hg | hg
  · exact h.out.2 g hg
  · have := h.out.1
    have := h.box.lt
    omega)
theorem okin_but {d : Nat} (hs : w.heap.size ≤ w'.heap.size) : Okin w w' O (Fl.onto w' (but O d)) := ⟨fun g hg => .inr hg, fun g hg h => by
  rcases h with h | h
  · exact h.1
  · omega⟩
theorem WkI.st_ne (h : WkI w O K W) {b : Nat} (hb : w.heap.size ≤ b) : ∀ p ∈ W.A.st, p.1 ≠ b := fun p hp => by
  obtain ⟨cs, hx⟩ := h.arn.bufs p hp
  have := hx.lt
  omega
end

def TookN (L : List Sp.Ext) (B n first : Nat) (L' : List Sp.Ext) : Prop := (n = 0 ∧ first = 0 ∧ L' = L) ∨ (0 < n ∧ Sp.TakeRel L 0 B (n : Int) (first : Int) 0 L')
/-- What a taken extent is. -/
structure Took (L : List Sp.Ext) (B n first : Nat) (L' : List Sp.Ext) : Prop where
  inv : Sp.Inv 0 B L'
  fr : ∀ b, Sp.Fr L' b ↔ Sp.Fr L b ∧ ¬ (first ≤ b ∧ b < first + n)
  room : ∀ b, first ≤ b → b < first + n → Sp.Fr L b
  fit : first + n ≤ B ∨ n = 0
  least : 0 < n → ∀ q, q < first → ¬ Sp.Room L q n
  zero : n = 0 → first = 0 ∧ L' = L
theorem TookN.spec {L L' : List Sp.Ext} {B n first : Nat} (hI : Sp.Inv 0 B L) (h : TookN L B n first L') : Took L B n first L' := by
  rcases h with ⟨rfl, rfl, rfl⟩ | ⟨h0, ht⟩
  · exact ⟨hI, fun b => ⟨fun h => ⟨h, by omega⟩, fun h => h.1⟩, fun b _ _ => by omega, .inr rfl, fun h => absurd h (by omega), fun _ => ⟨rfl, rfl⟩⟩
  · obtain ⟨hI', h⟩ := Sp.take_spec hI ht
    rcases h with ⟨_, _, h, _⟩ | ⟨_, _, _, _, _, _, h, _⟩ | ⟨m', p', e1, e2, _, h1, h2, h3, h4, h6, h5, _⟩
    · cases h
    · cases h
    · obtain rfl : n = m' := by omega
      obtain rfl : first = p' := by omega
      exact ⟨hI', h5, h4, .inl (by omega), fun _ => h6, fun e => by omega⟩
theorem TookN.sum {L L' : List Sp.Ext} {B n first : Nat} (hI : Sp.Inv 0 B L) (h : Took L B n first L') : Sp.sumX L' + n = Sp.sumX L := by
  rcases Nat.eq_zero_or_pos n with h0 | h0
  · obtain ⟨_, e⟩ := h.zero h0
    rw [e, h0]; omega
  · refine Sp.sumX_cut hI h.inv ?_ h.fr h.room
    rcases h.fit with h | h
    · exact h
    · omega

structure LaidOk (W : Wk) (wN : Nat) (l : List Tup) (first : Nat) (W' : Wk) : Prop where
  fits : FitsW wN l
  took : TookN W.L W.B (nB W.D.size wN l.length) first W'.L
  B : W'.B = W.B
  arn : W'.A = { W.A with peak := max W.A.peak (W.A.used + W.D.size) }
  goes : Goes W.D W'.D (nB W.D.size wN l.length)
  lies : Lies W'.D wN first (nB W.D.size wN l.length) l
  now : ∀ i : Int, (∀ j, j < nB W.D.size wN l.length → i ≠ ((first + j : Nat) : Int)) → W'.D.now i = W.D.now i
structure LaidNo (W : Wk) (wN : Nat) (l : List Tup) (er : Int) (W' : Wk) : Prop where
  why : (er = 5 ∧ 0 < nB W.D.size wN l.length ∧ ∀ p, ¬ Sp.Room W.L p (nB W.D.size wN l.length)) ∨ (er = 1 ∧ ¬ FitsW wN l ∧ (0 < nB W.D.size wN l.length → ∃ p, Sp.Room W.L p (nB W.D.size wN l.length))) ∨ (er = 6 ∧ W.D.fault ≠ -1)
  L : W'.L = W.L
  B : W'.B = W.B
  arn : W'.A = { W.A with peak := max W.A.peak (W.A.used + W.D.size) }
  size : W'.D.size = W.D.size
  blocks : W'.D.blocks = W.D.blocks
  sure : Sure W'.D
  acts : W'.D.acts ≤ W.D.acts + l.length
  fault : W.D.fault = -1 → W'.D.fault = -1
  now : ∀ i : Int, (∀ b : Nat, Sp.Fr W.L b → i ≠ (b : Int)) → W'.D.now i = W.D.now i

theorem putsOk_fits {W : Wk} {X : Wr} {l : List Tup} (h : putsOk W X l) : ∀ t ∈ l, Crc.zeroW (t.drop X.width) = true := by
  induction l generalizing W X with
  | nil => exact fun t ht => by cases ht
  | cons a l ih =>
    obtain ⟨⟨h1, _⟩, h2⟩ := h
    intro t ht
    rcases List.mem_cons.1 ht with rfl | ht
    · exact h1
    · have := ih h2 t ht
      rw [(next_same X W a).2.2.1] at this
      exact this

/-- How Lay ends, in plain words. -/
def LayC (w : World) (O : Nat → Prop) (K : Key) (W : Wk) (wN : Nat) (l : List Tup) (e : Ending) (w' : World) : Prop :=
  ∃ W' O', Okin w w' O O' ∧ WkI w' O' K W' ∧ Turn K (fun _ => False) w w' ∧
    ((∃ first, e = .returned (.tuple #[.agg (fcells first (nB W.D.size wN l.length) wN l.length), .int .i64 0]) ∧ LaidOk W wN l first W') ∨
     (∃ er, e = .returned (.tuple #[.agg noFile, .int .i64 er]) ∧ LaidNo W wN l er W'))

section
variable {w w' : World} {O : Nat → Prop} {K : Key} {W : Wk}
theorem lay_plain {wN : Nat} {l : List Tup} {e : Ending} (hI : WkI w O K W) (hs : Sure W.D) (hB : W.B ≤ W.D.blocks) (h1 : 1 ≤ wN) (h5 : wN ≤ 5) (ht5 : ∀ t ∈ l, t.length = 5) (hl : l.length ≤ 100000000) (h : LayTold w O K W wN l e w') : LayC w O K W wN l e w' := by
  obtain ⟨s8, s256⟩ := hI.size
  have hp := hN_pos s8 h1 h5
  obtain ⟨c1, c2⟩ := nB_cap (size := W.D.size) (wN := wN) (count := l.length) hp
  have hble := nB_le (size := W.D.size) (wN := wN) (count := l.length) hp
  obtain ⟨b, d, hbs, hds, ht, h⟩ := h
  have hgr := grant_release (n := W.D.size) (hI.st_ne hbs)
  rw [nB_eq s8 h1 h5] at h
  generalize hnb : nB W.D.size wN l.length = n at *
  rcases h with ⟨r, er, L', h0, htk, her, rfl, hI'⟩ | ⟨first, L', htk, hE⟩
  · obtain ⟨hI2, hsp⟩ := Sp.take_spec hI.inv htk
    rcases hsp with ⟨hh, _⟩ | ⟨m, hm, _, _, hno, _, h5', rfl⟩ | ⟨_, _, _, _, hh, _⟩
    · omega
    · obtain rfl : n = m := by omega
      rw [hgr] at hI'
      exact ⟨_, _, okin_but ht.size, hI'.onto, ht, .inr ⟨er, rfl, .inl ⟨h5', by rw [hnb]; omega, by rw [hnb]; exact hno⟩, rfl, rfl, rfl, rfl, rfl, hs, Nat.le_add_right _ _, id, fun _ _ => rfl⟩⟩
    · exact absurd hh her
  · have htk' : TookN W.L W.B n first L' := by
      rcases htk with ⟨h0, h2, h3⟩ | ⟨h0, h2⟩
      · exact .inl ⟨by omega, h2, h3⟩
      · exact .inr ⟨by omega, h2⟩
    have hT := htk'.spec hI.inv
    have hroom : 0 < n → ∃ p, Sp.Room W.L p n := fun _ => ⟨first, hT.room⟩
    rw [Int.toNat_natCast] at hE
    have hnew : (fresh W.D.size first n wN l.length b d).Has W.D [] := Wr.Has.new b d first n wN l.length s8 h1 h5 (by rw [nB_eq s8 h1 h5, hnb])
    generalize hV : ({ W with A := W.A.grant W.D.size b, L := L' } : Wk) = V at hE
    have hVD : V.D = W.D := by rw [← hV]
    have hVA : V.A = W.A.grant W.D.size b := by rw [← hV]
    have hVL : V.L = L' := by rw [← hV]
    have hVB : V.B = W.B := by rw [← hV]
    generalize hX : fresh W.D.size first n wN l.length b d = X at *
    have hXw : X.width = wN := by rw [← hX]; rfl
    have hXf : X.first = first := by rw [← hX]; rfl
    have hXa : X.at_ = 0 := by rw [← hX]; rfl
    have hXc : X.count = 0 := by rw [← hX]; rfl
    have hXn : X.blocks = n := by rw [← hX]; rfl
    have hXb : X.bound = l.length := by rw [← hX]; rfl
    have hXbf : X.buf = b := by rw [← hX]; rfl
    rw [← hVD] at hnew
    -- behind the first k tuples
    have key : ∀ m : List Tup, (∃ r, l = m ++ r) → putsOk V X m → PutsHas V X [] m (puts V X m) ∧ PutsKin V X m.length (puts V X m) ∧ (puts V X m).1.at_ * hN W.D.size wN ≤ m.length ∧ (puts V X m).2.size = W.D.size := fun m hm hok => by
      obtain ⟨r, hr⟩ := hm
      have hml : m.length ≤ l.length := by rw [hr, List.length_append]; omega
      have h := puts_has (l0 := []) hnew (by rw [hVD]; exact s8) (by omega) (by omega) (fun t ht => ht5 t (by rw [hr]; exact List.mem_append_left _ ht)) (by rw [hXc, hXb]; omega) hok
      have hk := puts_kin V X m
      obtain ⟨k, _, _, hc⟩ := h.has.ok.part
      have hsz : (puts V X m).2.size = W.D.size := by rw [hk.size, hVD]
      rw [hk.width, hXw, hsz, hk.count, hXc] at hc
      exact ⟨h, hk, by omega, hsz⟩
    have quiet : ∀ (m : List Tup) (D' : Dev.Dv), (∃ r, l = m ++ r) → PutsHas V X [] m (puts V X m) → (puts V X m).1.at_ * hN W.D.size wN ≤ m.length → D'.now = (puts V X m).2.now → ∀ i : Int, (∀ b : Nat, Sp.Fr W.L b → i ≠ (b : Int)) → D'.now i = W.D.now i := fun m D' hm h hat hn i hi => by
      obtain ⟨r, hr⟩ := hm
      have hml : m.length ≤ l.length := by rw [hr, List.length_append]; omega
      have hatn : (puts V X m).1.at_ ≤ n := Nat.le_of_mul_le_mul_right (show (puts V X m).1.at_ * hN W.D.size wN ≤ n * hN W.D.size wN by omega) (by omega)
      rw [hn, ← hVD]
      refine h.now i (fun j _ hj => ?_)
      rw [hXf]
      exact hi _ (hT.room _ (by omega) (by omega))
    have wrote : ∀ (m : List Tup) (Y : Wr), (∃ r, l = m ++ r) → PutsHas V X [] m (puts V X m) → PutsKin V X m.length (puts V X m) → Y.first = first → Y.width = wN → Y.at_ = (puts V X m).1.at_ → Y.at_ < n → (Y.ws.take Y.n).length + 2 ≤ W.D.size → (Y.wrote { V with D := (puts V X m).2 }).1 ≠ 0 →
        (puts V X m).2.fault = 0 ∧ (Y.wrote { V with D := (puts V X m).2 }).1 = 6 ∧ Felt (puts V X m).2 (Y.wrote { V with D := (puts V X m).2 }).2 := fun m Y hm h hk hY1 hY2 hY3 hY4 hY5 h0 => by
      have hg := h.goes
      have hsz : (puts V X m).2.size = W.D.size := by rw [hk.size, hVD]
      have hsu : Sure (puts V X m).2 := hg.sure (by rw [hVD]; exact hs)
      have hbl : (puts V X m).2.blocks = W.D.blocks := by rw [hg.blocks, hVD]
      have hfit : first + n ≤ W.B := by
        rcases hT.fit with h | h
        · exact h
        · omega
      have := sure_wr (i := ((Y.first + Y.at_ : Nat) : Int)) (ws := sealed (Y.ws.take Y.n) (puts V X m).2.size Y.width (Y.first + Y.at_)) hsu (by omega) (by rw [hbl, hY1]; omega) (sealed_length (by rw [hsz]; exact hY5))
      rcases this with h1 | h1
      · exact absurd h1 h0
      · exact h1
    rcases hE with ⟨hok, hlw, L'', rfl, hg, hI'⟩ | ⟨er, L'', D', her, rfl, hg, hI', hw⟩
    · obtain ⟨hP, hk, hat, hsz⟩ := key l ⟨[], by simp⟩ hok
      have hPw : (puts V X l).1.width = wN := by rw [hk.width, hXw]
      have hPf : (puts V X l).1.first = first := by rw [hk.first, hXf]
      have hhas := hP.has
      rw [List.nil_append] at hhas
      obtain ⟨q1, q2, q3, q4⟩ := Wr.Has.last (W := { V with D := (puts V X l).2 }) hhas (by show 8 ≤ (puts V X l).2.size; omega) (by omega) (by omega) hlw
      obtain ⟨g1, g2⟩ := last_goes hlw
      have q2' : ((puts V X l).1.last { V with D := (puts V X l).2 }).1.at_ = n := by
        rw [q2]
        show nB (puts V X l).2.size (puts V X l).1.width l.length = n
        rw [hsz, hPw, hnb]
      obtain ⟨l1, l2, l3, l4, l5, l6, l7, l8⟩ := last_same (puts V X l).1 { V with D := (puts V X l).2 }
      have hgv : L'' = L' := by
        rcases hg with ⟨_, e⟩ | ⟨h, _⟩
        · rw [e, hVL]
        · rw [q2', hXn] at h; omega
      subst hgv
      rw [hXbf] at hI'
      refine ⟨_, _, okin_but ht.size, hI'.onto, ht, .inl ⟨first, ?_, ?_, ?_, ?_, ?_, ?_, ?_, ?_⟩⟩
      · have hfz : (if n = 0 then 0 else first) = first := by
          split
          · rename_i hn0
            exact (hT.zero hn0).1.symm
          · rfl
        unfold Wr.file Wr.shut
        simp only [q2', l3, l4, hPw, hk.count, hXc, Nat.zero_add, l1, hPf, hfz, hnb]
      · exact fun t ht => ⟨ht5 t ht, by have := putsOk_fits hok t ht; rw [hXw] at this; exact this⟩
      · rw [hnb]; exact htk'
      · exact hVB
      · show V.A.release b V.D.size = _
        rw [hVA, hVD]; exact hgr
      · have := hP.goes.trans g2
        rw [q2', hXa, show (puts V X l).1.at_ - 0 + (n - (puts V X l).1.at_) = n from by rw [q2'] at g1; omega, hVD] at this
        rw [hnb]
        exact this
      · rw [hPw, hPf, q2'] at q1
        rw [hnb]
        exact q1
      · intro i hi
        rw [hnb] at hi
        have e1 := q4 i (fun j hj => by rw [hPf]; exact hi j (by omega))
        refine e1.trans ?_
        have e2 := hP.now i (fun j _ hj => by rw [hXf]; exact hi j (by rw [q2'] at g1; omega))
        rw [hVD] at e2
        exact e2
    · have hgL : L'' = W.L := by
        rcases hg with ⟨h0, e⟩ | ⟨h0, er', hgr'⟩
        · rw [e, hVL]
          exact (hT.zero (by omega)).2
        · rw [hVL, hVB, hXf, hXn] at hgr'
          rcases htk' with ⟨h, _⟩ | ⟨_, h⟩
          · omega
          · exact (Sp.take_give hI.inv h hgr').2
      rw [hXbf, hVA, hVD] at hI'
      subst hgL
      have fin : ∀ (m : List Tup), (∃ r, l = m ++ r) → putsOk V X m → ((er = 1 ∧ ¬ FitsW wN l ∧ D' = (puts V X m).2) ∨ (er = 6 ∧ W.D.fault ≠ -1 ∧ Felt (puts V X m).2 D')) → LaidNo W wN l er { V with D := D', A := (W.A.grant W.D.size b).release b W.D.size, L := W.L } := fun m hm hok hh => by
        obtain ⟨hP, hk, hat, hsz⟩ := key m hm hok
        have hgoes := hP.goes
        have hacts : (puts V X m).2.acts ≤ W.D.acts + l.length := by
          have := hk.acts
          rw [hVD] at this
          obtain ⟨r, hr⟩ := hm
          rw [hr, List.length_append]
          omega
        rcases hh with ⟨h1', h2', rfl⟩ | ⟨h1', h2', hf⟩
        · exact ⟨.inr (.inl ⟨h1', h2', by rw [hnb]; exact hroom⟩), rfl, hVB, hgr, hsz, by rw [← hVD]; exact hgoes.blocks, hgoes.sure (by rw [hVD]; exact hs), hacts, fun hf => hgoes.fault (by rw [hVD]; exact hf), quiet m _ hm hP hat rfl⟩
        · exact ⟨.inr (.inr ⟨h1', h2'⟩), rfl, hVB, hgr, hf.size.trans hsz, by rw [← hVD]; exact hf.blocks.trans hgoes.blocks, hf.sure, (by show D'.acts ≤ _; rw [hf.acts]; exact hacts), fun _ => hf.fault, quiet m _ hm hP hat hf.now⟩
      refine ⟨_, _, okin_but ht.size, hI'.onto, ht, .inr ⟨er, rfl, ?_⟩⟩
      rcases hw with ⟨k, hk, hok, hz, he, hD⟩ | ⟨k, hk, hok, hz, he, hD⟩ | ⟨hok, hn0, he, hD⟩
      · have hnf : ¬ FitsW wN l := fun hf => by
          have := (hf _ (List.getElem_mem hk)).2
          rw [hXw] at hz
          rw [hz] at this
          cases this
        exact fin (l.take k) ⟨l.drop k, (List.take_append_drop k l).symm⟩ hok (.inl ⟨he, hnf, hD⟩)
      · obtain ⟨hP, hkk, hat, hsz⟩ := key (l.take k) ⟨l.drop k, (List.take_append_drop k l).symm⟩ hok
        have hPw : (puts V X (l.take k)).1.width = wN := by rw [hkk.width, hXw]
        have hPf : (puts V X (l.take k)).1.first = first := by rw [hkk.first, hXf]
        rw [List.length_take] at hat
        have hatn : (puts V X (l.take k)).1.at_ < n := Nat.lt_of_mul_lt_mul_right (show (puts V X (l.take k)).1.at_ * hN W.D.size wN < n * hN W.D.size wN by omega)
        have hcnt : (puts V X (l.take k)).1.count ≠ (puts V X (l.take k)).1.bound := by
          rw [hkk.count, hkk.bound, hXc, hXb, List.length_take]
          omega
        have hpl : ((((puts V X (l.take k)).1.put l[k]).ws).take ((puts V X (l.take k)).1.put l[k]).n).length + 2 ≤ W.D.size := by
          rw [List.length_take]
          obtain ⟨k', hk', e', _⟩ := hP.has.ok.part
          have hm : (puts V X (l.take k)).1.n + (puts V X (l.take k)).1.width ≤ hN (puts V X (l.take k)).2.size (puts V X (l.take k)).1.width * (puts V X (l.take k)).1.width := by
            have h2 : (k' + 1) * (puts V X (l.take k)).1.width ≤ hN (puts V X (l.take k)).2.size (puts V X (l.take k)).1.width * (puts V X (l.take k)).1.width := Nat.mul_le_mul_right _ hk'
            rw [Nat.add_mul] at h2
            omega
          have := hN_mul (puts V X (l.take k)).2.size (puts V X (l.take k)).1.width
          rw [hsz] at this hm
          show min ((puts V X (l.take k)).1.n + (puts V X (l.take k)).1.width) _ + 2 ≤ _
          omega
        obtain ⟨w1, w2, w3⟩ := wrote (l.take k) ((puts V X (l.take k)).1.put l[k]) ⟨l.drop k, (List.take_append_drop k l).symm⟩ hP hkk hPf hPw rfl hatn hpl (by rw [← he]; exact her)
        refine fin (l.take k) ⟨l.drop k, (List.take_append_drop k l).symm⟩ hok (.inr ⟨he.trans w2, fun hf => ?_, by rw [hD]; exact w3⟩)
        have := hP.goes.fault (by rw [hVD]; exact hf)
        omega
      · obtain ⟨hP, hkk, hat, hsz⟩ := key l ⟨[], by simp⟩ hok
        have hPw : (puts V X l).1.width = wN := by rw [hkk.width, hXw]
        have hPf : (puts V X l).1.first = first := by rw [hkk.first, hXf]
        obtain ⟨k', hk', e', hc'⟩ := hP.has.ok.part
        rw [hkk.count, hXc, hsz, hPw] at hc'
        have hk0 : k' ≠ 0 := fun e0 => by rw [e', e0, Nat.zero_mul] at hn0; omega
        have hatn : (puts V X l).1.at_ < n := Nat.lt_of_mul_lt_mul_right (show (puts V X l).1.at_ * hN W.D.size wN < n * hN W.D.size wN by omega)
        have hfit := hP.has.ok.fits (by rw [hsz]; exact s8)
        rw [hsz] at hfit
        obtain ⟨w1, w2, w3⟩ := wrote l (puts V X l).1 ⟨[], by simp⟩ hP hkk hPf hPw rfl hatn (by rw [List.length_take]; omega) (by rw [← he]; exact her)
        refine fin l ⟨[], by simp⟩ hok (.inr ⟨he.trans w2, fun hf => ?_, by rw [hD]; exact w3⟩)
        have := hP.goes.fault (by rw [hVD]; exact hf)
        omega
theorem lay_c (wN : Nat) (l : List Tup) (a : Option Addr) (c : Nat) (hI : WkI w O K W) (hs : Sure W.D) (hB : W.B ≤ W.D.blocks) (h1 : 1 ≤ wN) (h5 : wN ≤ 5) (hb : l.length ≤ 100000000) (hn : W.D.size ≤ W.A.room - W.A.used) (hl : Tps K w a l) (ht5 : ∀ t ∈ l, t.length = 5) (hac : W.D.acts + l.length + 1 < 1099511627776) (hO : ∀ g, w.heap.size ≤ g → O g) :
    Calls Try.prog 30 #[P K.wk, .int .i64 (wN : Int), .slice a l.length c] w (LayC w O K W wN l) :=
  (lay_any wN l a c hI h1 h5 hb hn hl ht5 hac hO).mono fun e w' h => lay_plain hI hs hB h1 h5 ht5 hb h

/-- How List ends, in plain words. -/
structure Listed (W W' : Wk) : Prop where
  L : W'.L = W.L
  B : W'.B = W.B
  arn : W'.A = { W.A with peak := max W.A.peak (W.A.used + W.D.size) }
  size : W'.D.size = W.D.size
  blocks : W'.D.blocks = W.D.blocks
  sure : Sure W'.D
  now : W'.D.now = W.D.now
  fault : W.D.fault = -1 → W'.D.fault = -1
  acts : W'.D.acts ≤ W.D.acts + 100000000
def ListC (w : World) (O : Nat → Prop) (K : Key) (W : Wk) (wN : Nat) (l : List Tup) (e : Ending) (w' : World) : Prop :=
  ∃ W' O', Okin w w' O O' ∧ WkI w' O' K W' ∧ Turn K (fun _ => False) w w' ∧ Listed W W' ∧
    ((∃ v, e = .returned (.tuple #[v, .int .i64 0]) ∧ w'.ownsRow w.heap.size 57 5 v l.length (flatT l) ∧ Goes W.D W'.D (nB W.D.size wN l.length)) ∨
     (W.D.fault ≠ -1 ∧ e = .returned (.tuple #[.slice none 0 0, .int .i64 6])))
theorem list_c (wN first : Nat) (l : List Tup) (hI : WkI w O K W) (hs : Sure W.D) (h1 : 1 ≤ wN) (h5 : wN ≤ 5) (hb : l.length ≤ 100000000) (hf : FitsW wN l) (hL : Lies W.D wN first (nB W.D.size wN l.length) l) (hfit : nB W.D.size wN l.length = 0 ∨ first + nB W.D.size wN l.length ≤ W.D.blocks) (hfs : first ≤ 1000000)
    (hn : W.D.size ≤ W.A.room - W.A.used) (hac : W.D.acts + l.length + 1 < 1099511627776) :
    Calls Try.prog 15 #[P K.wk, .agg (fcells first (nB W.D.size wN l.length) wN l.length)] w (ListC w O K W wN l) := by
  obtain ⟨s8, s256⟩ := hI.size
  have hp := hN_pos s8 h1 h5
  have hcan : CanBe W.D.size (nB W.D.size wN l.length : Int) (wN : Int) (l.length : Int) := ⟨by omega, by omega, by omega, by omega, (nB_eq s8 h1 h5).symm⟩
  refine (list_told (fun b d l' Y D => l' = l.take l'.length ∧ Y.Has D first wN l ∧ Y.told = l'.length ∧ Goes W.D D Y.block ∧ D.now = W.D.now ∧ (l'.length < l.length → (D.rd ((first + Y.block : Nat) : Int)).1 ≠ 0 ∧ Y.block < nB W.D.size wN l.length)) (first : Int) (nB W.D.size wN l.length : Int) (wN : Int) (l.length : Int) hI hcan hn (fun b d => ?_) (by rw [Int.toNat_natCast]; exact hac)).mono ?_
  · obtain ⟨m, Y, D, a1, a2, a3, a4, a5, a6, a7, a8, a9⟩ := Rd.Has.run (first := first) h1 h5 hf (by omega) l.length _ { W with A := W.A.grant W.D.size b } (Rd.Has.new b d (nB W.D.size wN l.length : Int) s8 h1 hL) s8 (Nat.le_add_left _ _)
    have hwr : IntKind.i64.wrap (Y.first + (Y.block : Int)) = ((first + Y.block : Nat) : Int) := by
      have := a4.fst
      have hk := a4.blk
      have := nB_le (size := D.size) (wN := wN) (count := l.length) (by rw [a7.size]; exact hp)
      rw [IntKind.wrap_i64]
      omega
    have a7' : Goes W.D D (Y.block - 0) := a7
    have hlen : (l.take m).length = m := by rw [List.length_take]; omega
    refine ⟨l.take m, Y, D, by omega, (by rw [List.drop_zero] at a3; exact a3), ?_, by rw [hlen], a4, by rw [hlen]; exact a5, a7', a8, fun hh => ?_⟩
    · rw [hlen]
      rcases a9 with a9 | ⟨b1, b2, b3, b4⟩
      · exact .inl (by rw [a9])
      · exact .inr ⟨by omega, b2, by rw [hwr]; exact b4⟩
    · rcases a9 with a9 | ⟨b1, b2, b3, b4⟩
      · omega
      · exact ⟨b4, b3⟩
  · rintro e w' ⟨l', h⟩
    rcases h with ⟨v, b, d, Y, D, rfl, ho, ⟨u1, u2, u3, u4, u5, u6⟩, hsz, hcnt, hds, hI', ht⟩ | ⟨b, d, Y, D, rfl, ⟨u1, u2, u3, u4, u5, u6⟩, hsz, hlt, hat, hne, hds, hI', ht⟩
    · have hll : l' = l := by rw [u1, List.take_of_length_le (by omega)]
      rw [hll] at ho u3
      have hgr := grant_release (n := W.D.size) (hI.st_ne hds.1)
      have hall := u2.all (by rw [hsz]; exact s8) h1 h5 u3
      rw [hsz] at hall
      refine ⟨_, _, okin_but ht.size, hI'.onto, ht, ⟨rfl, rfl, hgr, hsz, u4.blocks, u4.sure hs, u5, u4.fault, ?_⟩, .inl ⟨v, rfl, ho, by rw [← hall]; exact u4⟩⟩
      show D.acts ≤ _
      have := u4.acts
      have := u2.blk
      have := nB_le (size := D.size) (wN := wN) (count := l.length) (by rw [hsz]; exact hp)
      omega
    · have hlt' : l'.length < l.length := by omega
      obtain ⟨r1, r2⟩ := u6 hlt'
      have hgr := grant_release (n := W.D.size) (hI.st_ne hds.1)
      have hfst := u2.fst
      have hble := nB_le (size := W.D.size) (wN := wN) (count := l.length) hp
      have hwr : IntKind.i64.wrap (Y.first + (Y.block : Int)) = ((first + Y.block : Nat) : Int) := by
        rw [IntKind.wrap_i64]
        omega
      rw [hwr] at hI' hne ⊢
      have hsu := sure_rd (i := ((first + Y.block : Nat) : Int)) (u4.sure hs) (by omega) (by have := u4.blocks; rcases hfit with h | h <;> omega)
      rcases hsu with h | ⟨f1, f2, f3⟩
      · exact absurd h r1
      · rw [f2]
        refine ⟨_, _, okin_but ht.size, hI'.onto, ht, ⟨rfl, rfl, hgr, f3.size.trans hsz, f3.blocks.trans u4.blocks, f3.sure, f3.now.trans u5, fun _ => f3.fault, ?_⟩, .inr ⟨fun hf => ?_, rfl⟩⟩
        · show (D.rd _).2.acts ≤ _
          rw [f3.acts]
          have := u4.acts
          omega
        · have := u4.fault hf
          omega
end

end Go.Proofs.Ytlbaigkpojkfjaa.Fl

/- Open writers and readers, on devices whose power doesn't fail. -/
namespace Go.Proofs.Ytlbaigkpojkfjaa.Fl
open Go.RowKit

section
variable {w w' : World} {O : Nat → Prop} {K : Key} {W : Wk} {x : Nat} {l : List Tup}
theorem Wr.Ok.at_lt {size : Nat} {X : Wr} (h : X.Ok size) (h8 : 8 ≤ size) (h1 : 1 ≤ X.width) (h5 : X.width ≤ 5) (hb : X.count ≠ X.bound ∨ 0 < X.n) : X.at_ < X.blocks := by
  obtain ⟨k, hk, e, hc⟩ := h.part
  have hcap := h.cap h8 h1 h5
  have hle := h.le
  have hlt : X.at_ * hN size X.width < X.blocks * hN size X.width := by
    rcases hb with hb | hb
    · omega
    · have hk0 : k ≠ 0 := fun e0 => by rw [e, e0, Nat.zero_mul] at hb; omega
      omega
  exact Nat.lt_of_mul_lt_mul_right hlt
theorem Wr.Ok.at_le' {size : Nat} {X : Wr} (h : X.Ok size) (h8 : 8 ≤ size) (h1 : 1 ≤ X.width) (h5 : X.width ≤ 5) : X.at_ ≤ X.blocks := by
  obtain ⟨k, hk, e, hc⟩ := h.part
  have hcap := h.cap h8 h1 h5
  have hle := h.le
  exact Nat.le_of_mul_le_mul_right (show X.at_ * hN size X.width ≤ X.blocks * hN size X.width by omega) (hN_pos h8 h1 h5)
theorem put_room {size : Nat} {X : Wr} {t : Tup} (h : X.Ok size) : (((X.put t).ws).take (X.put t).n).length + 2 ≤ size ∨ size < 2 := by
  rcases Nat.lt_or_ge size 2 with h2 | h2
  · exact .inr h2
  · obtain ⟨k', hk', e', _⟩ := h.part
    have hm : (k' + 1) * X.width ≤ hN size X.width * X.width := Nat.mul_le_mul_right _ hk'
    rw [Nat.add_mul] at hm
    have := hN_mul size X.width
    refine .inl ?_
    rw [List.length_take]
    show min (X.n + X.width) _ + 2 ≤ _
    omega

/-- A Put that the device doesn't take. -/
def PutFelt (w : World) (O : Nat → Prop) (K : Key) (W : Wk) (x : Nat) (X : Wr) (t : Tup) (e : Ending) (w' : World) : Prop :=
  W.D.fault = 0 ∧ ∃ L' D', e = .returned (.int .i64 6) ∧ GaveRel W.L W.B X.first X.blocks L' ∧ Felt W.D D' ∧
    WkI w' O K { W with D := D', A := W.A.release X.buf W.D.size, L := L' } ∧ Blk w' x 132 (wcells K { X.put t with closed := true }) ∧ Turn K (Own x X) w w'
theorem put_sure {X : Wr} (t : Tup) (hI : WkI w O K W) (h : WrAt w O K W x X) (hc : X.closed = false) (hH : X.Has W.D l) (hs : Sure W.D) (hfit : X.first + X.blocks ≤ W.D.blocks) (ht : t.length = 5) (hz : Crc.zeroW (t.drop X.width) = true) (hb : X.count ≠ X.bound)
    (hac : W.D.acts + 1 < 1099511627776) (hO : ∀ g, w.heap.size ≤ g → O g) :
    Calls Try.prog 50 #[P x, .agg (icells t).toArray] w (fun e w' => (PutYes w O K W x X t e w' ∧ (X.next W t).1.Has (X.next W t).2 (l ++ [t])) ∨ PutFelt w O K W x X t e w') := by
  obtain ⟨w1, w5⟩ := h.width
  obtain ⟨s8, s256⟩ := hI.size
  refine (put_live t ht hI h hc hH.ok hac hO).mono ?_
  rintro e w' (⟨h0, _⟩ | ⟨_, h0, _⟩ | ⟨_, _, hp | hp⟩)
  · rw [hz] at h0; cases h0
  · exact absurd h0 hb
  · exact .inl ⟨hp, hH.put s8 w1 w5 ht hb hp.1⟩
  · obtain ⟨hd, h0, L', rfl, hg, hI', hX', ht'⟩ := hp
    have hlt := hH.ok.at_lt s8 w1 w5 (.inl hb)
    have hsw := sure_wr (i := (((X.put t).first + (X.put t).at_ : Nat) : Int)) (ws := sealed ((X.put t).ws.take (X.put t).n) W.D.size (X.put t).width ((X.put t).first + (X.put t).at_)) hs (by omega) (by show ((X.first + X.at_ : Nat) : Int) < _; omega) (sealed_length (by
      rcases put_room (t := t) hH.ok with h | h
      · exact h
      · omega))
    rcases hsw with hw | ⟨f1, f2, f3⟩
    · exact absurd hw h0
    · have f2' : ((X.put t).wrote W).1 = 6 := f2
      rw [f2']
      exact .inr ⟨f1, L', _, rfl, hg, f3, hI', hX', ht'⟩

/-- A Close that the device doesn't take. -/
def CloseFelt (w : World) (O : Nat → Prop) (K : Key) (W : Wk) (x : Nat) (X : Wr) (e : Ending) (w' : World) : Prop :=
  W.D.fault = 0 ∧ ∃ L' D', e = .returned (.tuple #[.agg noFile, .int .i64 6]) ∧ GaveRel W.L W.B X.first X.blocks L' ∧ Felt W.D D' ∧
    WkI w' O K { W with D := D', A := W.A.release X.buf W.D.size, L := L' } ∧ Blk w' x 132 (wcells K { X with closed := true }) ∧ Turn K (fun k => Own x X k ∨ w.heap.size ≤ k) w w'
/-- A Close that goes well, in plain words. -/
def CloseDone (w : World) (O : Nat → Prop) (K : Key) (W : Wk) (x : Nat) (X : Wr) (l : List Tup) (e : Ending) (w' : World) : Prop :=
  ∃ L' D', e = .returned (.tuple #[.agg (fcells (if nB W.D.size X.width l.length = 0 then 0 else X.first) (nB W.D.size X.width l.length) X.width l.length), .int .i64 0]) ∧
    GaveRel W.L W.B (X.first + nB W.D.size X.width l.length) (X.blocks - nB W.D.size X.width l.length) L' ∧ Lies D' X.width X.first (nB W.D.size X.width l.length) l ∧ Goes W.D D' (nB W.D.size X.width l.length - X.at_) ∧ X.at_ ≤ nB W.D.size X.width l.length ∧ nB W.D.size X.width l.length ≤ X.blocks ∧
    (∀ i : Int, (∀ j, X.at_ ≤ j → j < nB W.D.size X.width l.length → i ≠ ((X.first + j : Nat) : Int)) → D'.now i = W.D.now i) ∧
    WkI w' O K { W with D := D', A := W.A.release X.buf W.D.size, L := L' } ∧ (∃ cs, Blk w' x 132 cs ∧ cs[9]? = some (.bool true)) ∧ Turn K (fun k => Own x X k ∨ w.heap.size ≤ k) w w'
theorem close_sure {X : Wr} (hI : WkI w O K W) (h : WrAt w O K W x X) (hc : X.closed = false) (hH : X.Has W.D l) (hs : Sure W.D) (hfit : X.first + X.blocks ≤ W.D.blocks)
    (hac : W.D.acts + 1 < 1099511627776) (hO : ∀ g, w.heap.size ≤ g → O g) :
    Calls Try.prog 52 #[P x] w (fun e w' => CloseDone w O K W x X l e w' ∨ CloseFelt w O K W x X e w') := by
  obtain ⟨w1, w5⟩ := h.width
  obtain ⟨s8, s256⟩ := hI.size
  refine (close_live hI h hc hH.ok hac hO).mono ?_
  rintro e w' (⟨hok, L', rfl, hg, hI', hX', ht'⟩ | ⟨hn0, h0, L', rfl, hg, hI', hX', ht'⟩)
  · obtain ⟨q1, q2, q3, q4⟩ := hH.last s8 w1 w5 hok
    obtain ⟨g1, g2⟩ := last_goes hok
    obtain ⟨l1, l2, l3, l4, l5, l6, l7, l8⟩ := last_same X W
    have hle := hH.ok.last_at s8 w1 w5 W
    refine .inl ⟨L', (X.last W).2, ?_, ?_, ?_, ?_, ?_, ?_, fun i hi => ?_, hI', ⟨_, hX', rfl⟩, ht'⟩
    · unfold Wr.file Wr.shut
      simp only [q2, l3, l4, hH.cnt, l1]
    · rw [← q2]; exact hg
    · rw [← q2]; exact q1
    · rw [← q2]; exact g2
    · rw [← q2]; exact g1
    · rw [← q2]; exact hle
    · rw [← q2] at hi
      -- below at_ nothing was written anew
      unfold Wr.last at hi ⊢
      split
      · rfl
      · rename_i hn
        rw [if_neg hn] at hi
        show ((X.wrote W).2).now i = _
        have h0 := hok (by omega)
        have hi' := hi X.at_ (Nat.le_refl _) (Nat.lt_succ_self _)
        unfold Wr.wrote at h0 ⊢
        rw [Dev.wr_now, if_pos h0]
        unfold Dev.upd
        rw [if_neg hi']
  · have hlt := hH.ok.at_lt s8 w1 w5 (.inr hn0)
    have hsw := sure_wr (i := ((X.first + X.at_ : Nat) : Int)) (ws := sealed (X.ws.take X.n) W.D.size X.width (X.first + X.at_)) hs (by omega) (by omega) (sealed_length (by
      have := hH.ok.fits s8
      rw [List.length_take]
      omega))
    rcases hsw with hw | ⟨f1, f2, f3⟩
    · exact absurd hw h0
    · have f2' : (X.wrote W).1 = 6 := f2
      rw [f2']
      exact .inr ⟨f1, L', _, rfl, hg, f3, hI', hX', ht'⟩

/-- The next tuple, or the device doesn't give it. -/
def NextFelt (w : World) (O : Nat → Prop) (K : Key) (W : Wk) (x : Nat) (X : Rd) (e : Ending) (w' : World) : Prop :=
  W.D.fault = 0 ∧ ∃ D', Felt W.D D' ∧ NextBad w O K W x X 6 D' e w'
theorem next_sure {X : Rd} {first wN : Nat} (hI : WkI w O K W) (h : RdAt w O K W x X) (hc : X.closed = false) (hH : X.Has W.D first wN l) (hs : Sure W.D) (hf : FitsW wN l) (hfit : nB W.D.size wN l.length = 0 ∨ first + nB W.D.size wN l.length ≤ W.D.blocks) (hfs : first ≤ 1000000) (hlt : X.told < l.length)
    (hac : W.D.acts + 1 < 1099511627776) :
    (∃ X1 D1, X1.next.Has D1 first wN l ∧ X1.tup = l[X.told] ∧ X1.next.told = X.told + 1 ∧ D1.now = W.D.now ∧ (∃ n, n ≤ 1 ∧ Goes W.D D1 n) ∧ ReadsKin W X 1 X1.next D1 ∧ Calls Try.prog 40 #[P x] w (NextOk w O K W x X X1 D1)) ∨
    (W.D.fault = 0 ∧ Calls Try.prog 40 #[P x] w (NextFelt w O K W x X)) := by
  obtain ⟨s8, s256⟩ := hI.size
  have hwid := hH.wid
  have hcnt := hH.cnt
  have h15 := h.width
  have hcb := h.count
  have hp := hN_pos (width := wN) s8 (by omega) (by omega)
  have hble := nB_le (size := W.D.size) (wN := wN) (count := l.length) hp
  by_cases hn : X.at_ = X.n
  · have hblk : X.block < nB W.D.size wN l.length := by
      obtain ⟨d1, d2⟩ := hH.ok.due (by omega) (by omega) s8 hn (by omega)
      rw [show X.width.toNat = wN from by rw [hwid]; rfl] at d1
      obtain ⟨c1, c2⟩ := nB_cap (size := W.D.size) (wN := wN) (count := l.length) hp
      refine Nat.lt_of_mul_lt_mul_right (a := hN W.D.size wN) ?_
      omega
    rcases sure_rd (i := ((first + X.block : Nat) : Int)) hs (by omega) (by rcases hfit with h | h <;> omega) with hr | ⟨f1, f2, f3⟩
    · obtain ⟨X1, q1, q2, q3, q4, q5⟩ := hH.load s8 (by omega) (by omega) hf hlt hn (by omega) hr
      obtain ⟨hl1, e1, hN⟩ := Rd.Has.here (W := { W with D := (W.D.rd ((first + X.block : Nat) : Int)).2 }) q2 (by omega) (by omega) hf q3
      refine .inl ⟨X1, _, hN, ?_, ?_, Dev.rd_now _ _, ⟨1, Nat.le_refl _, goes_rd hr⟩, loads_kin q1, (next_live hI h hc hH.ok (by omega) q1 hac).2⟩
      · rw [e1]; congr 1
      · show X1.told + 1 = _; rw [q4]
    · refine .inr ⟨f1, ?_⟩
      have hwr : IntKind.i64.wrap (X.first + (X.block : Int)) = ((first + X.block : Nat) : Int) := by
        rw [hH.fst, IntKind.wrap_i64]
        omega
      have hne : (W.D.rd ((first + X.block : Nat) : Int)).1 ≠ 0 := by rw [f2]; decide
      refine (next_bad hI h hc (by omega) hn (er := 6) (D1 := (W.D.rd ((first + X.block : Nat) : Int)).2) (by decide) (Dev.rd_kin _ _).size (fun w2 h1 h2 => (load_err h1 h2 hwr hne hac).mono (fun e w' he => ?_))).mono (fun e w' he => ⟨f1, _, f3, he⟩)
      unfold LoadErr at he
      rw [f2] at he
      exact he
  · obtain ⟨hl1, e1, hN⟩ := hH.here (by omega) (by omega) hf hn
    have q1 : Loads W X X W.D := .inl ⟨hn, rfl, rfl⟩
    exact .inl ⟨X, W.D, hN, e1, rfl, rfl, ⟨0, Nat.zero_le _, Goes.refl _⟩, loads_kin q1, (next_live hI h hc hH.ok (by omega) q1 hac).2⟩
end

end Go.Proofs.Ytlbaigkpojkfjaa.Fl

/- The walk of a writer's Drop behind a defer. -/
namespace Go.Proofs.Ytlbaigkpojkfjaa.Fl
open Go.RowKit

section
variable {w w' : World} {O : Nat → Prop} {K : Key} {W : Wk} {x : Nat} {X : Wr} {E : Nat → Prop} {u : FrameMode}
theorem drop_closed_d {cs : Array Value} (h : Blk w x 132 cs) (hc : cs[9]? = some (.bool true)) : CallsD Try.prog 51 #[P x] u w (fun e u' w' => u' = u ∧ e = .returned (.tuple #[]) ∧ w = w') := by
  have c9 : w.cell? ⟨x, 9, none⟩ = some (.bool true) := (h.cell 9).trans hc
  clear h
  go_enter_d Try.func51, Try.ntmps51
  go_wp2_with fail
  exact bodyPost_ret (results_none rfl _ _ _) rfl ⟨rfl, rfl⟩

set_option maxRecDepth 100000 in
set_option maxHeartbeats 1000000 in
theorem drop_live_d (hI : WkI w O K W) (h : WrAt w O K W x X) (hc : X.closed = false) : CallsD Try.prog 51 #[P x] u w (fun e u' w' => u' = u ∧ DropTold w O K W x X e w') := by
  have hB := h.live hc
  have hbx : x ≠ X.buf ∧ x ≠ X.arr := ⟨h.blk.ne_ hB.blk (by decide), h.blk.ne_ hB.row (by decide)⟩
  have c9 : w.cell? ⟨x, 9, none⟩ = some (.bool X.closed) := h.blk.cell 9
  rw [hc] at c9
  have f9 := h.blk.frozen 9
  obtain ⟨hI1, hX1, ht1⟩ := wr_store hI h.blk 9 (.bool true)
  rw [wcells_close] at hX1
  have hB1 := hB.stay hI ht1 (fun e => hbx.1 e.symm) (fun e => hbx.2 e.symm)
  have HC := Lib.hid hc
  have HBX := Lib.hid hbx
  clear hc hI h hB hbx
  go_enter_d Try.func51, Try.ntmps51
  go_wp2_with fail
  generalize w.setCell ⟨x, 9, none⟩ (.bool true) = w1 at *
  have d0 : w1.drew.cell? ⟨x, 0, none⟩ = some (P K.wk) := hX1.cell 0
  have d6 : w1.drew.cell? ⟨x, 6, none⟩ = some (P X.buf) := hX1.cell 6
  have k1 : w1.drew.cell? ⟨K.wk, 1, none⟩ = some (P K.a) := hI1.box.cell 1
  have hB1' : BufAt w1.drew O W X.buf X.arr X.ws := ⟨hB1.blk, hB1.row, hB1.len, hB1.out, hB1.st⟩
  have HR := Lib.hid (release_w hI1.drew hB1')
  have HI1 := Lib.hid hI1.drew
  have HX1 : Hid (Blk w1.drew x 132 (wcells K { X with closed := true })) := Lib.hid hX1
  have HT1 := Lib.hid ht1.drew
  clear c9 f9 hI1 hX1 hB1 hB1' ht1
  go_still_tail 11, (by kernel_rfl)
  change wpList _ _ _ _ _ w1.drew
  generalize w1.drew = w2 at *
  clear d0 d6 k1
  go_wp2_with fail
  refine HR.out.mono ?_
  rintro e w3 ⟨rfl, hI3, ht3⟩
  have hX3 := HI1.out.blk ht3 HX1.out (by decide) (by decide) (by decide) (by decide) (by decide) HBX.out.1
  have ht13 : Turn K (Own x X) w w3 := (HT1.out.mono (fun k h => .inl h)).trans (ht3.mono (fun k h => .inr (.inl h)))
  have HT3 := Lib.hid ht13
  have HI3 := Lib.hid hI3
  have HX3 := Lib.hid hX3
  have x1 : w3.cell? ⟨x, 1, none⟩ = some (.int .i64 (X.first : Int)) := hX3.cell 1
  have x2 : w3.cell? ⟨x, 2, none⟩ = some (.int .i64 (X.blocks : Int)) := hX3.cell 2
  clear ht3 hI3 hX3 HR HI1 HX1 HT1 ht13
  by_cases hb : X.blocks = 0
  · have hb2 : (X.blocks : Int) ≤ 0 := by omega
    have hb3 : decide (0 < X.blocks) = false := by simp; omega
    have HB := Lib.hid hb
    clear hb
    go_wp2_with fail
    go_end0
    exact ⟨_, rfl, .inl ⟨HB.out, rfl⟩, HI3.out, HX3.out, HT3.out⟩
  · have hb2 : (0 : Int) < (X.blocks : Int) := by omega
    go_wp2_with fail
    have x0 : w3.drew.cell? ⟨x, 0, none⟩ = some (P K.wk) := HX3.out.cell 0
    have x1' : w3.drew.cell? ⟨x, 1, none⟩ = some (.int .i64 (X.first : Int)) := HX3.out.cell 1
    have x2' : w3.drew.cell? ⟨x, 2, none⟩ = some (.int .i64 (X.blocks : Int)) := HX3.out.cell 2
    have k2 : w3.drew.cell? ⟨K.wk, 2, none⟩ = some (P K.s) := HI3.out.box.cell 2
    have HG := Lib.hid (give_w HI3.out.drew (X.first : Int) (X.blocks : Int))
    clear x1 x2
    go_still_tail 17, (by kernel_rfl)
    change wpList _ _ _ _ _ w3.drew
    have HI4 := Lib.hid HI3.out.drew
    have HX4 : Hid (Blk w3.drew x 132 (wcells K { X with closed := true })) := Lib.hid HX3.out
    have HT4 := Lib.hid HT3.out.drew
    generalize w3.drew = w4 at *
    clear x0 x1' x2' k2 HX3 HI3 HT3
    go_wp2_with fail
    refine HG.out.mono ?_
    rintro e w5 ⟨er, L', rfl, hg, hI5, ht5⟩
    have hX5 := HI4.out.blk ht5 HX4.out (by decide) (by decide) (by decide) (by decide) (by decide) (fun h => h)
    have HT5 := Lib.hid (HT4.out.trans (ht5.mono (fun k h => h.elim)))
    have HI5 := Lib.hid hI5
    have HX5 := Lib.hid hX5
    have HG5 := Lib.hid hg
    clear ht5 hI5 hX5 hg HG
    go_wp2_with fail
    go_end0
    exact ⟨L', rfl, .inr ⟨by omega, er, HG5.out⟩, HI5.out, HX5.out, HT5.out⟩
end

end Go.Proofs.Ytlbaigkpojkfjaa.Fl

/- Writers and readers beside what turns, where the set of the device's blocks turns too. -/
namespace Go.Proofs.Ytlbaigkpojkfjaa.Fl
open Go.RowKit

section
variable {w w' : World} {O O' : Nat → Prop} {K : Key} {W W' : Wk} {E : Nat → Prop}
theorem BufAt.turn' {buf arr : Nat} {ws : List (BitVec 64)} (h : BufAt w O W buf arr ws) (hI : WkI w O K W) (ht : Turn K E w w') (h1 : ¬ E buf) (h2 : ¬ E arr) (hO : ∀ g, g < w.heap.size → O' g → O g) (hs : W'.D.size = W.D.size) (hst : ∀ p ∈ W.A.st, p.1 = buf → p ∈ W'.A.st) : BufAt w' O' W' buf arr ws := by
  have hb := h.turn (O' := O) (W' := W') hI ht h1 h2 (fun _ h => h) hs hst
  exact ⟨hb.blk, hb.row, hb.len, fun ho => h.out (hO _ h.row.lt ho), hb.st⟩
theorem WrAt.turn' {x : Nat} {X : Wr} (h : WrAt w O K W x X) (hI : WkI w O K W) (ht : Turn K E w w') (h0 : ¬ E x) (h1 : X.closed = false → ¬ E X.buf) (h2 : X.closed = false → ¬ E X.arr) (hO : ∀ g, g < w.heap.size → O' g → O g) (hs : W'.D.size = W.D.size) (hst : ∀ p ∈ W.A.st, p.1 = X.buf → p ∈ W'.A.st) : WrAt w' O' K W' x X :=
  ⟨hI.blk ht h.blk (by decide) (by decide) (by decide) (by decide) (by decide) h0, fun hc => (h.live hc).turn' hI ht (h1 hc) (h2 hc) hO hs hst, h.width, h.bound, h.lies⟩
theorem RdAt.turn' {x : Nat} {X : Rd} (h : RdAt w O K W x X) (hI : WkI w O K W) (ht : Turn K E w w') (h0 : ¬ E x) (h1 : X.closed = false → ¬ E X.buf) (h2 : X.closed = false → ¬ E X.arr) (hO : ∀ g, g < w.heap.size → O' g → O g) (hs : W'.D.size = W.D.size) (hst : ∀ p ∈ W.A.st, p.1 = X.buf → p ∈ W'.A.st) : RdAt w' O' K W' x X :=
  ⟨hI.blk ht h.blk (by decide) (by decide) (by decide) (by decide) (by decide) h0, fun hc => (h.live hc).turn' hI ht (h1 hc) (h2 hc) hO hs hst, h.width, h.count⟩
end

end Go.Proofs.Ytlbaigkpojkfjaa.Fl

/- join.each in plain words: what a maker makes, and how each ends. -/
namespace Go.Proofs.Ytlbaigkpojkfjaa.Fl
open Go.RowKit

/-- What a step of a maker may turn on a device. -/
structure Calm (D D' : Dev.Dv) : Prop where
  size : D'.size = D.size
  blocks : D'.blocks = D.blocks
  now : D'.now = D.now
  sure : Sure D → Sure D'
  fault : D.fault = -1 → D'.fault = -1
theorem Calm.refl (D : Dev.Dv) : Calm D D := ⟨rfl, rfl, rfl, id, id⟩
theorem Calm.trans {D E F : Dev.Dv} (h : Calm D E) (k : Calm E F) : Calm D F := ⟨k.size.trans h.size, k.blocks.trans h.blocks, k.now.trans h.now, fun x => k.sure (h.sure x), fun x => k.fault (h.fault x)⟩
theorem Goes.calm {D D' : Dev.Dv} {n : Nat} (h : Goes D D' n) (hn : D'.now = D.now) : Calm D D' := ⟨h.size, h.blocks, hn, h.sure, h.fault⟩
theorem Felt.calm {D D' : Dev.Dv} (h : Felt D D') : Calm D D' := ⟨h.size, h.blocks, h.now, fun _ => h.sure, fun _ => h.fault⟩
/-- What is kept of a maker to the end stays beside what turns. -/
def Stays (K : Key) (Ej : Nat → Prop) (JE : Nat → World → (Nat → Prop) → Wk → Prop) : Prop :=
  ∀ (h : Nat) (w w' : World) (O O' : Nat → Prop) (W W' : Wk) (E : Nat → Prop), JE h w O W → WkI w O K W → Turn K E w w' → (∀ g, Ej g → ¬ E g) → (∀ g, g < w.heap.size → O' g → O g) → W'.D.size = W.D.size → (∀ p ∈ W.A.st, Ej p.1 → p ∈ W'.A.st) → JE h w' O' W'
/-- What a maker makes of the k-th tuple: mk k, and whether it is kept; or it ends with an error of Why, or with a fault. It may hold a reader of its own: m acts were done by it, h words are granted for it. Only blocks of Ej are its own; what stands in blocks that aren't free in L0 it may rely on. -/
structure Rich (F : FuncId) (rv : Value) (K : Key) (L0 : List Sp.Ext) (Ej : Nat → Prop) (h0 : Nat) (J : Nat → Nat → World → (Nat → Prop) → Wk → Prop) (JE : Nat → World → (Nat → Prop) → Wk → Prop) (Why : Int → Prop) (l : List Tup) (mk : Nat → Tup) (kp : Nat → Bool) : Prop where
  call : ∀ (k : Nat) (hk : k < l.length) (m : Nat) (w : World) (O : Nat → Prop) (W : Wk), WkI w O K W → J k m w O W → Sure W.D → W.D.acts ≤ 600000000000 →
    Calls Try.prog F #[rv, .agg (icells l[k]).toArray] w (fun e w' => Turn K Ej w w' ∧ ∃ m' D', m ≤ m' ∧ D'.acts + m ≤ W.D.acts + m' ∧ Calm W.D D' ∧
      ((e = .returned (.tuple #[.agg (icells (mk k)).toArray, .bool (kp k), .int .i64 0]) ∧ WkI w' O K { W with D := D' } ∧ J (k + 1) m' w' O { W with D := D' }) ∨
       (∃ er h' A', er ≠ 0 ∧ (Why er ∨ (er = 6 ∧ W.D.fault ≠ -1)) ∧ e = .returned (.tuple #[.agg (icells l[k]).toArray, .bool false, .int .i64 er]) ∧ WkI w' O K { W with D := D', A := A' } ∧ JE h' w' O { W with D := D', A := A' } ∧
         A'.used + h0 = W.A.used + h' ∧ A'.room = W.A.room ∧ m' ≤ 1000000 ∧ (∀ p ∈ W.A.st, ¬ Ej p.1 → p ∈ A'.st))))
  stay : ∀ (k m : Nat) (w w' : World) (O O' : Nat → Prop) (W W' : Wk) (E : Nat → Prop), J k m w O W → WkI w O K W → Turn K E w w' → (∀ g, Ej g → ¬ E g) → (∀ g, g < w.heap.size → O' g → O g) → (W'.D.size = W.D.size ∧ W'.D.blocks = W.D.blocks) →
    (∀ i : Int, (∀ b : Nat, Sp.Fr L0 b → i ≠ (b : Int)) → W'.D.now i = W.D.now i) → (∀ p ∈ W.A.st, Ej p.1 → p ∈ W'.A.st) → J k m w' O' W'
  stayE : Stays K Ej JE
  last : ∀ (k m : Nat) (w : World) (O : Nat → Prop) (W : Wk), J k m w O W → m ≤ 1000000 ∧ JE h0 w O W
  five : ∀ k, k < l.length → (mk k).length = 5
  enter : ∀ (args : Array Value) (w : World), (callFunc F args).run Try.prog w = .ok (.enter F args) w
/-- A maker that never fails, and does no acts. -/
structure Maker (F : FuncId) (rv : Value) (K : Key) (Ej : Nat → Prop) (J : Nat → World → Prop) (l : List Tup) (mk : Nat → Tup) (kp : Nat → Bool) : Prop where
  call : ∀ (k : Nat) (hk : k < l.length) (w : World) (O : Nat → Prop) (W : Wk), WkI w O K W → J k w →
    Calls Try.prog F #[rv, .agg (icells l[k]).toArray] w (fun e w' => e = .returned (.tuple #[.agg (icells (mk k)).toArray, .bool (kp k), .int .i64 0]) ∧ WkI w' O K W ∧ J (k + 1) w' ∧ Turn K Ej w w')
  stay : ∀ (k : Nat) (w w' : World) (O : Nat → Prop) (W : Wk) (E : Nat → Prop), J k w → WkI w O K W → Turn K E w w' → (∀ g, Ej g → ¬ E g) → J k w'
  five : ∀ k, k < l.length → (mk k).length = 5
  enter : ∀ (args : Array Value) (w : World), (callFunc F args).run Try.prog w = .ok (.enter F args) w
def JE0 (h : Nat) (_ : World) (_ : Nat → Prop) (_ : Wk) : Prop := h = 0
theorem stays0 (K : Key) (Ej : Nat → Prop) : Stays K Ej JE0 := fun _ _ _ _ _ _ _ _ h _ _ _ _ _ _ => h
theorem Maker.rich {F : FuncId} {rv : Value} {K : Key} {Ej : Nat → Prop} {J : Nat → World → Prop} {l : List Tup} {mk : Nat → Tup} {kp : Nat → Bool} (h : Maker F rv K Ej J l mk kp) (L0 : List Sp.Ext) : Rich F rv K L0 Ej 0 (fun k m w _ _ => m = 0 ∧ J k w) JE0 (fun _ => False) l mk kp where
  call := fun k hk m w O W hI hJ _ _ => (h.call k hk w O W hI hJ.2).mono (fun e w' h' => by
    obtain ⟨rfl, h2, h3, h4⟩ := h'
    exact ⟨h4, m, W.D, Nat.le_refl _, Nat.le_refl _, Calm.refl _, .inl ⟨rfl, h2, hJ.1, h3⟩⟩)
  stay := fun k m w w' O O' W W' E hJ hI ht hE _ _ _ _ => ⟨hJ.1, h.stay k w w' O W E hJ.2 hI ht hE⟩
  stayE := stays0 K Ej
  last := fun k m w O W hJ => ⟨by rw [hJ.1]; omega, rfl⟩
  five := h.five
  enter := h.enter
def made (mk : Nat → Tup) (kp : Nat → Bool) (n : Nat) : List Tup := ((List.range n).filter kp).map mk
theorem made_yes {mk : Nat → Tup} {kp : Nat → Bool} {n : Nat} (h : kp n = true) : made mk kp (n + 1) = made mk kp n ++ [mk n] := by
  unfold made
  rw [List.range_succ, List.filter_append, List.map_append]
  simp [h]
theorem made_no {mk : Nat → Tup} {kp : Nat → Bool} {n : Nat} (h : kp n = false) : made mk kp (n + 1) = made mk kp n := by
  unfold made
  rw [List.range_succ, List.filter_append, List.map_append]
  simp [h]
theorem made_len (mk : Nat → Tup) (kp : Nat → Bool) (n : Nat) : (made mk kp n).length ≤ n := by
  unfold made
  rw [List.length_map]
  exact Nat.le_trans (List.length_filter_le _ _) (by simp)

/-- Behind an each that goes well. -/
structure EachOk (W : Wk) (wM bound : Nat) (out : List Tup) (first : Nat) (W' : Wk) : Prop where
  B : W'.B = W.B
  inv : Sp.Inv 0 W.B W'.L
  fr : ∀ b, Sp.Fr W'.L b ↔ Sp.Fr W.L b ∧ ¬ (first ≤ b ∧ b < first + nB W.D.size wM out.length)
  room : ∀ b, first ≤ b → b < first + nB W.D.size wM out.length → Sp.Fr W.L b
  fit : first + nB W.D.size wM out.length ≤ W.B
  least : ∀ p, Sp.Room W.L p (nB W.D.size wM bound) → first ≤ p
  used : W'.A.used = W.A.used
  aroom : W'.A.room = W.A.room
  size : W'.D.size = W.D.size
  blocks : W'.D.blocks = W.D.blocks
  sure : Sure W'.D
  fault : W.D.fault = -1 → W'.D.fault = -1
  lies : Lies W'.D wM first (nB W.D.size wM out.length) out
  now : ∀ i : Int, (∀ b : Nat, Sp.Fr W.L b → i ≠ (b : Int)) → W'.D.now i = W.D.now i
  acts : W'.D.acts ≤ W.D.acts + 2000000
structure EachNo (W : Wk) (wM bound : Nat) (Why : Int → Prop) (h0 h' : Nat) (er : Int) (W' : Wk) : Prop where
  why : (er = 5 ∧ 0 < nB W.D.size wM bound ∧ ∀ p, ¬ Sp.Room W.L p (nB W.D.size wM bound)) ∨ (er = 6 ∧ W.D.fault ≠ -1) ∨ Why er
  B : W'.B = W.B
  L : W'.L = W.L
  used : W'.A.used + h0 = W.A.used + h'
  aroom : W'.A.room = W.A.room
  size : W'.D.size = W.D.size
  blocks : W'.D.blocks = W.D.blocks
  sure : Sure W'.D
  fault : W.D.fault = -1 → W'.D.fault = -1
  now : ∀ i : Int, (∀ b : Nat, Sp.Fr W.L b → i ≠ (b : Int)) → W'.D.now i = W.D.now i
  acts : W'.D.acts ≤ W.D.acts + 2000000
def EachC (w : World) (O : Nat → Prop) (K : Key) (W : Wk) (Ej : Nat → Prop) (wM bound : Nat) (out : List Tup) (JE : Nat → World → (Nat → Prop) → Wk → Prop) (h0 : Nat) (Why : Int → Prop) (e : Ending) (w' : World) : Prop :=
  ∃ W' O', Okin w w' O O' ∧ WkI w' O' K W' ∧ Turn K Ej w w' ∧
    ((∃ first, e = .returned (.tuple #[.agg (fcells first (nB W.D.size wM out.length) wM out.length), .int .i64 0]) ∧ EachOk W wM bound out first W' ∧ JE h0 w' O' W') ∨
     (∃ er h', er ≠ 0 ∧ e = .returned (.tuple #[.agg noFile, .int .i64 er]) ∧ EachNo W wM bound Why h0 h' er W' ∧ JE h' w' O' W'))

/-- The tail of an extent given back. -/
theorem give_tail {B : Nat} {L L' L'' : List Sp.Ext} {m n first : Nat} (hI : Sp.Inv 0 B L) (ht : Took L B m first L') (hn : n ≤ m) (hg : GaveRel L' B (first + n) (m - n) L'') :
    Sp.Inv 0 B L'' ∧ ∀ b, Sp.Fr L'' b ↔ Sp.Fr L b ∧ ¬ (first ≤ b ∧ b < first + n) := by
  rcases hg with ⟨h0, rfl⟩ | ⟨h0, er, hg⟩
  · have : m = n := by omega
    subst this
    exact ⟨ht.inv, ht.fr⟩
  · obtain ⟨hI'', hs⟩ := Sp.give_spec ht.inv hg
    rcases hs with ⟨_, _, hno⟩ | ⟨_, _, hf⟩
    · exfalso
      refine hno ⟨by omega, by omega, ?_, fun b hb1 hb2 hF => ?_⟩
      · rcases ht.fit with h | h <;> omega
      · exact ((ht.fr b).1 hF).2 ⟨by omega, by omega⟩
    · refine ⟨hI'', fun b => ?_⟩
      rw [hf b, ht.fr b]
      constructor
      · rintro (⟨h1, h2⟩ | ⟨h1, h2⟩)
        · exact ⟨h1, by omega⟩
        · exact ⟨ht.room b (by omega) (by omega), by omega⟩
      · rintro ⟨h1, h2⟩
        by_cases hb : b < first + m
        · by_cases hb' : first ≤ b
          · exact .inr ⟨by omega, by omega⟩
          · exact .inl ⟨h1, by omega⟩
        · exact .inl ⟨h1, by omega⟩
/-- All of an extent given back. -/
theorem give_all {B : Nat} {L L' L'' : List Sp.Ext} {m first : Nat} (hI : Sp.Inv 0 B L) (ht : TookN L B m first L') (hg : GaveRel L' B first m L'') : L'' = L := by
  rcases hg with ⟨h0, rfl⟩ | ⟨h0, er, hg⟩
  · rcases ht with ⟨_, _, h⟩ | ⟨h, _⟩
    · exact h
    · omega
  · rcases ht with ⟨h, _⟩ | ⟨_, h⟩
    · omega
    · exact (Sp.take_give hI h hg).2

end Go.Proofs.Ytlbaigkpojkfjaa.Fl
