/- Texts of mine, packed: FlLoad, FlLoad2, FlNext, FlNext2. -/
import Derived.Test.YtmmkncocgjgapaaK7
import Derived.Deep.DeepCutAuto
set_option linter.unusedVariables false

/- The walk of load: a block of a file is read into the buffer. -/
namespace Go.Proofs.Ytmmkncocgjgapaa.Fl
open Go.RowKit

section
variable {w w' : World} {O : Nat → Prop} {K : Key} {W : Wk} {x : Nat} {X : Rd} {E : Nat → Prop}

/-- How many words the next block must have. -/
def Rd.want (X : Rd) (size : Nat) : Int := min (X.count - (X.told : Int)) (holds size X.width) * X.width
def LoadErr (w : World) (O : Nat → Prop) (K : Key) (W : Wk) (x : Nat) (X : Rd) (i : Int) (e : Ending) (w' : World) : Prop :=
  e = .returned (.int .i64 (W.D.rd i).1) ∧ WkI w' O K { W with D := (W.D.rd i).2 } ∧ Turn K (fun _ => False) w w'
def Rd.loaded (X : Rd) (p : List (BitVec 64)) : Rd := { X with ws := over X.ws 0 p, n := p.length, at_ := 0, block := X.block + 1 }
def LoadOk (w : World) (O : Nat → Prop) (K : Key) (W : Wk) (x : Nat) (X : Rd) (i : Int) (p : List (BitVec 64)) (e : Ending) (w' : World) : Prop :=
  e = .returned (.int .i64 0) ∧ WkI w' O K { W with D := (W.D.rd i).2 } ∧ Blk w' x 110 (rcells K (X.loaded p)) ∧ BufAt w' O { W with D := (W.D.rd i).2 } X.buf X.arr (X.loaded p).ws ∧ Turn K (OwnR x X) w w'
def LoadBad (w : World) (O : Nat → Prop) (K : Key) (W : Wk) (x : Nat) (X : Rd) (i : Int) (e : Ending) (w' : World) : Prop :=
  e = .returned (.int .i64 6) ∧ WkI w' O K { W with D := (W.D.rd i).2 } ∧ Turn K (fun _ => False) w w'

set_option maxRecDepth 100000 in
set_option maxHeartbeats 2000000 in
theorem load_err (hI : WkI w O K W) (h : RdAt w O K W x X) {i : Int} (hi : IntKind.i64.wrap (X.first + (X.block : Int)) = i) (hr : (W.D.rd i).1 ≠ 0) (hac : W.D.acts + 1 < 1099511627776) :
    Calls Try.prog 48 #[P x] w (LoadErr w O K W x X i) := by
  have hne : ((W.D.rd i).1 != 0) = true := by simpa using hr
  have x0 : w.drew.cell? ⟨x, 0, none⟩ = some (P K.wk) := h.blk.cell 0
  have x1 : w.drew.cell? ⟨x, 1, none⟩ = some (.int .i64 X.first) := h.blk.cell 1
  have x8 : w.drew.cell? ⟨x, 8, none⟩ = some (.int .i64 (X.block : Int)) := h.blk.cell 8
  have k0 : w.drew.cell? ⟨K.wk, 0, none⟩ = some (P K.d) := hI.box.cell 0
  have HR := Lib.hid (read_w_err hI.drew hr hac)
  have HT : Hid (Turn K (fun _ => False) w w.drew) := Lib.hid (Turn.refl _ _ _).drew
  clear hI h hr hac
  go_enter Try.func48, Try.ntmps48
  go_wp2_with fail
  refine wp_reads_one 17 (by kernel_rfl) rfl (by kernel_rfl) (fun _ _ d _ _ h => by cases d <;> exact h) ?_; simp only [List.take_succ_cons, List.take_zero, List.drop_succ_cons, List.drop_zero]
  generalize w.drew = w1 at *
  repeat (refine sg_step (fun K2 hK => ?_); go_simp; refine hK.out _ ?_; clear hK K2)
  refine sg_nil (fun K hK => ?_); go_simp
  refine HR.out.mono ?_
  rintro e w2 ⟨rfl, hI2, ht2⟩
  refine hK.out _ _ ?_; clear hK K
  repeat (refine sg_step (fun K2 hK => ?_); go_simp; refine hK.out _ ?_; clear hK K2)
  refine sg_nil ?_
  have HI2 := Lib.hid hI2
  have HT2 := Lib.hid (HT.out.trans ht2)
  clear hI2 ht2 HR x0 x1 x8 k0 HT
  go_wp2_with fail
  go_ret
  exact ⟨rfl, HI2.out, HT2.out⟩

theorem get_good {i : Nat} {p : List (BitVec 64)} {size width g c : Nat} (hr : Row w (some ⟨g, 0, none⟩) (sealed p size width i)) (h8 : 8 ≤ size) (h256 : size ≤ 256) (hp : p.length + 2 ≤ size) (hi : i < 9223372036854775808) (hc : size ≤ c) (hc2 : c ≤ maxLen) :
    Calls Try.prog 57 #[.slice (some ⟨g, 0, none⟩) size c, .int .i64 (i : Int)] w (Crc.GotOk w p (BitVec.ofNat 64 width)) :=
  Crc.get_yes p size i (BitVec.ofNat 64 width) _ c w hr h8 h256 hp hi hc hc2

theorem rd_bars {D : Dev.Dv} {i : Int} (h : (D.rd i).1 = 0) : 0 ≤ i ∧ i < (D.blocks : Int) := by
  unfold Dev.Dv.rd at h
  split at h
  · rename_i hb
    obtain ⟨_, h1, h2, _⟩ := Dev.not_barred hb
    exact ⟨h1, h2⟩
  · rename_i hb
    exact absurd h hb

theorem rcells_loaded (K : Key) (X : Rd) (p : List (BitVec 64)) : (((rcells K X).setIfInBounds 6 (.int .i64 (p.length : Int))).setIfInBounds 7 (.int .i64 0)).setIfInBounds 8 (.int .i64 ((X.block : Int) + 1)) = rcells K (X.loaded p) := by
  simp [rcells, Rd.loaded]

set_option maxRecDepth 100000 in
set_option maxHeartbeats 4000000 in
theorem load_good (hI : WkI w O K W) (h : RdAt w O K W x X) (hc : X.closed = false) {i : Int} (hi : IntKind.i64.wrap (X.first + (X.block : Int)) = i) (hr : (W.D.rd i).1 = 0) (hac : W.D.acts + 1 < 1099511627776) {iN wN : Nat} (hin : i = (iN : Int)) (hwn : X.width = (wN : Int)) {p : List (BitVec 64)} (hp : p.length + 2 ≤ W.D.size) (hpw : (p.length : Int) = X.want W.D.size)
    (hw : W.D.words i = sealed p W.D.size wN iN) (htold : (X.told : Int) ≤ X.count) (hblk : X.block ≤ 100000000) :
    Calls Try.prog 48 #[P x] w (LoadOk w O K W x X i p) := by
  have hne : ((W.D.rd i).1 != 0) = false := by simpa using hr
  have hrb := rd_bars hr
  obtain ⟨pv, hd⟩ := hI.dev
  have hbl := hd.nums.fit.blocks
  obtain ⟨s8, s256⟩ := hI.size
  have hks : (W.D.rd i).2.size = W.D.size := (Dev.rd_kin W.D i).size
  have x0 : w.drew.cell? ⟨x, 0, none⟩ = some (P K.wk) := h.blk.cell 0
  have x1 : w.drew.cell? ⟨x, 1, none⟩ = some (.int .i64 X.first) := h.blk.cell 1
  have x8 : w.drew.cell? ⟨x, 8, none⟩ = some (.int .i64 (X.block : Int)) := h.blk.cell 8
  have k0 : w.drew.cell? ⟨K.wk, 0, none⟩ = some (P K.d) := hI.box.cell 0
  have HR := Lib.hid (read_w_ok hI.drew hr hac)
  have HT : Hid (Turn K (fun _ => False) w w.drew) := Lib.hid (Turn.refl _ _ _).drew
  have HI := Lib.hid hI.drew
  have HX : Hid (Blk w.drew x 110 (rcells K X)) := Lib.hid h.blk
  have hB := h.live hc
  have HB : Hid (BufAt w.drew O W X.buf X.arr X.ws) := Lib.hid ⟨hB.blk, hB.row, hB.len, hB.out, hB.st⟩
  have HW := Lib.hid hw
  have HP := Lib.hid hpw
  have HKS := Lib.hid hks
  have HIN := Lib.hid hin
  have HWN := Lib.hid hwn
  obtain ⟨hwd1, hwd5⟩ := h.width
  obtain ⟨hct1, hct2⟩ := h.count
  clear hI h hr hac hd hB hw hks hpw hc hin hwn
  go_enter Try.func48, Try.ntmps48
  go_wp2_with fail
  refine wp_reads_one 17 (by kernel_rfl) rfl (by kernel_rfl) (fun _ _ d _ _ h => by cases d <;> exact h) ?_; simp only [List.take_succ_cons, List.take_zero, List.drop_succ_cons, List.drop_zero]
  generalize w.drew = w1 at *
  repeat (refine sg_step (fun K2 hK => ?_); go_simp; refine hK.out _ ?_; clear hK K2)
  refine sg_nil (fun K hK => ?_); go_simp
  refine HR.out.mono ?_
  rintro e w2 ⟨g, c, rfl, ho2, hg2, hI2, ht2⟩
  refine hK.out _ _ ?_; clear hK K
  repeat (refine sg_step (fun K2 hK => ?_); go_simp; refine hK.out _ ?_; clear hK K2)
  refine sg_nil ?_
  obtain ⟨a', c', hv, hrow, hc1, hc2, hlen⟩ := own_slice ho2
  injection hv with hv1 hv2 hv3
  subst hv1
  subst hv3
  rw [HW.out] at hrow
  have hX2 := HI.out.blk ht2 HX.out (by decide) (by decide) (by decide) (by decide) (by decide) (fun h => h)
  have hB2 := HB.out.turn HI.out ht2 (fun h => h) (fun h => h) (fun _ h => h) (W' := { W with D := (W.D.rd i).2 }) HKS.out (fun _ h _ => h)
  have HI2 := Lib.hid hI2.drew
  have HX2 : Hid (Blk w2.drew x 110 (rcells K X)) := Lib.hid hX2
  have HB2 : Hid (BufAt w2.drew O { W with D := (W.D.rd i).2 } X.buf X.arr X.ws) := Lib.hid ⟨hB2.blk, hB2.row, hB2.len, hB2.out, hB2.st⟩
  have HT2 := Lib.hid (HT.out.trans ht2).drew
  have hG := get_good (w := w2.drew) (i := iN) (p := p) (size := W.D.size) (width := wN) (g := g) (c := c) hrow s8 s256 hp (by have := HIN.out; omega) hc1 hc2
  rw [← HIN.out] at hG
  have HG := Lib.hid hG
  have y1 : w2.drew.cell? ⟨x, 1, none⟩ = some (.int .i64 X.first) := hX2.cell 1
  have y8 : w2.drew.cell? ⟨x, 8, none⟩ = some (.int .i64 (X.block : Int)) := hX2.cell 8
  clear hI2 ht2 HR x0 x1 x8 k0 HT HI HX HB ho2 hX2 hB2 hrow hG hlen hv2
  go_wp2_with fail
  refine wp_reads_one 11 (by kernel_rfl) rfl (by kernel_rfl) (fun _ _ d _ _ h => by cases d <;> exact h) ?_; simp only [List.take_succ_cons, List.take_zero, List.drop_succ_cons, List.drop_zero]
  generalize w2.drew = w3 at *
  repeat (refine sg_step (fun K2 hK => ?_); go_simp; refine hK.out _ ?_; clear hK K2)
  refine sg_nil (fun K hK => ?_); go_simp
  refine HG.out.mono ?_
  rintro e w4 ⟨a, pc, rfl, hrp, hb4⟩
  refine hK.out _ _ ?_; clear hK K
  repeat (refine sg_step (fun K2 hK => ?_); go_simp; refine hK.out _ ?_; clear hK K2)
  refine sg_nil ?_
  have hX4 := HX2.out.below hb4 HX2.out.lt
  have hB4 := HB2.out.stay (E := fun _ => False) HI2.out (Turn.below hb4) (fun h => h) (fun h => h)
  have HI4 := Lib.hid (HI2.out.below hb4).drew
  have HX4 : Hid (Blk w4.drew x 110 (rcells K X)) := Lib.hid hX4
  have HB4 : Hid (BufAt w4.drew O { W with D := (W.D.rd i).2 } X.buf X.arr X.ws) := Lib.hid ⟨hB4.blk, hB4.row, hB4.len, hB4.out, hB4.st⟩
  have HT4 := Lib.hid (HT2.out.trans (Turn.below hb4)).drew
  have HRP : Hid (Row w4.drew a (Crc.words p)) := Lib.hid hrp
  have z0 : w4.drew.cell? ⟨x, 0, none⟩ = some (P K.wk) := hX4.cell 0
  have z3 : w4.drew.cell? ⟨x, 3, none⟩ = some (.int .i64 X.width) := hX4.cell 3
  have z4 : w4.drew.cell? ⟨x, 4, none⟩ = some (.int .i64 X.count) := hX4.cell 4
  have z9 : w4.drew.cell? ⟨x, 9, none⟩ = some (.int .i64 (X.told : Int)) := hX4.cell 9
  have HHo := holds_any HI4.out X.width
  rw [show ({ W with D := (W.D.rd i).2 } : Wk).D.size = W.D.size from HKS.out] at HHo
  have HH := Lib.hid HHo
  have e1 : IntKind.i64.wrap (X.count - (X.told : Int)) = X.count - (X.told : Int) := by rw [IntKind.wrap_i64]; omega
  have HPW := HP.out
  unfold Rd.want at HPW
  obtain ⟨g1, g2, g3, g4⟩ := holds_bd (width := X.width) s8 s256
  clear g3 g4
  clear HG HI2 HX2 HB2 HT2 y1 y8 hX4 hB4 hb4 hrp HHo HP
  go_wp2_with fail
  refine wp_reads (by kernel_rfl) (by kernel_rfl) ?_
  generalize w4.drew = w5 at *
  generalize holds W.D.size X.width = n at *
  repeat (refine sg_step (fun K2 hK => ?_); go_simp; refine hK.out _ ?_; clear hK K2)
  (refine sg_step (fun K2 hK => ?_); go_simp; refine ⟨_, Calls.still (HH.out), hK.out _ ?_⟩; clear hK K2)
  repeat (refine sg_step (fun K2 hK => ?_); go_simp; refine hK.out _ ?_; clear hK K2)
  have et : Crc.I64 (BitVec.ofNat 64 wN) = X.width := by rw [HWN.out, Crc.I64_ofNat (by have := HWN.out; omega)]
  have ew : IntKind.i64.wrap ((if n < X.count - (X.told : Int) then n else X.count - (X.told : Int)) * X.width) = (p.length : Int) := by
    have h1 : (if n < X.count - (X.told : Int) then n else X.count - (X.told : Int)) = min (X.count - (X.told : Int)) n := by split <;> omega
    rw [h1, ← HPW, IntKind.wrap_i64]
    omega
  rw [et, ew]
  clear ew
  generalize (if n < X.count - (X.told : Int) then n else X.count - (X.told : Int)) = mn at *
  have eu : IntKind.u64.wrap X.width = X.width := Crc.u64_wrap_id (by omega) (by omega)
  have eww : (X.width != X.width) = false := by simp
  have epp : ((p.length : Int) != (p.length : Int)) = false := by simp
  have z5 : w5.cell? ⟨x, 5, none⟩ = some (P X.buf) := HX4.out.cell 5
  have z6 : w5.cell? ⟨x, 6, none⟩ = some (.int .i64 (X.n : Int)) := HX4.out.cell 6
  have b0 : w5.cell? ⟨X.buf, 0, none⟩ = some (.slice (some ⟨X.arr, 0, none⟩) W.D.size W.D.size) := by rw [← HKS.out]; exact HB4.out.blk.cell 0
  have hnm : Nat.min p.length W.D.size = p.length := Nat.min_eq_left (by omega)
  have HNM := Lib.hid hnm
  have HWL := Lib.hid (show X.ws.length = W.D.size from HB4.out.len.trans HKS.out)
  have ET := Lib.hid et
  clear et hnm HPW z0 z4 z9 e1 HH
  refine sg_nil ?_
  have hbk := HB4.out.row
  go_wp2_with (with_reducible refine wpList_copy_at (o := ⟨some 103, _, _, _, _, _⟩) rfl (.tmp 101) (.tmp 102) 39 39 ?h2 23 1 Try.underlying39 ?h3 (some ⟨X.arr, 0, none⟩) a W.D.size W.D.size p.length pc ?h4 ?h5 X.arr 0 (Crc.words X.ws) 23 hbk (Crc.words p) ?c1 (fun h => ⟨rfl, Sp.row_src HRP.out h⟩) ?c3 (Crc.words_one p) ?_)
  case h2 => rfl
  case h3 => kernel_rfl
  case h4 => rfl
  case h5 => rfl
  case c1 => rw [Crc.words_length, HNM.out, Nat.mul_one]
  case c3 => rw [Crc.words_length, Crc.words_length, HWL.out]; omega
  intro w6 hB6 hc6
  rw [HNM.out]
  have ht6 : Turn K (fun k => k = X.arr) w5 w6 := hc6.out.mono (fun k _ hk => .inr (.inr (.inr (.inr (.inr (.inr (.inr (.inr hk))))))))
  have hI6 : WkI w6 O K { W with D := (W.D.rd i).2 } := HI4.out.aside hc6.out (fun k hk => by
    subst hk
    exact ⟨_, _, HB4.out.row, by decide, by decide, by decide, by decide, by decide, by decide, by decide, fun _ => HB4.out.out⟩)
  have hX6 := HI4.out.blk ht6 HX4.out (by decide) (by decide) (by decide) (by decide) (by decide) (fun e => HX4.out.ne_ HB4.out.row (by decide) e)
  have hBu6 := HI4.out.blk ht6 HB4.out.blk (by decide) (by decide) (by decide) (by decide) (by decide) (fun e => HB4.out.blk.ne_ HB4.out.row (by decide) e)
  have hsp : splice (Crc.words X.ws) 0 (Crc.words p) = Crc.words (over X.ws 0 p) := by
    unfold splice over Crc.words
    simp
  have hB6' : BufAt w6 O { W with D := (W.D.rd i).2 } X.buf X.arr (over X.ws 0 p) := ⟨hBu6, by rw [← hsp]; exact hB6.out, by rw [over_length (by rw [HWL.out]; omega)]; exact HB4.out.len, HB4.out.out, HB4.out.st⟩
  have u6 : w6.cell? ⟨x, 6, none⟩ = some (.int .i64 (X.n : Int)) := hX6.cell 6
  have v6 := hX6.frozen 6
  obtain ⟨hI7, hX7, ht7⟩ := rd_store hI6 hX6 6 (.int .i64 (p.length : Int))
  have hB7 := hB6'.stay hI6 ht7 (fun e => hX6.ne_ hB6'.blk (by decide) e.symm) (fun e => hX6.ne_ hB6'.row (by decide) e.symm)
  have u7 : (w6.setCell ⟨x, 6, none⟩ (.int .i64 (p.length : Int))).cell? ⟨x, 7, none⟩ = some (.int .i64 (X.at_ : Int)) := hX7.cell 7
  have v7 := hX7.frozen 7
  obtain ⟨hI8, hX8, ht8⟩ := rd_store hI7 hX7 7 (.int .i64 0)
  have hB8 := hB7.stay hI7 ht8 (fun e => hX7.ne_ hB7.blk (by decide) e.symm) (fun e => hX7.ne_ hB7.row (by decide) e.symm)
  have u8 : ((w6.setCell ⟨x, 6, none⟩ (.int .i64 (p.length : Int))).setCell ⟨x, 7, none⟩ (.int .i64 0)).cell? ⟨x, 8, none⟩ = some (.int .i64 (X.block : Int)) := hX8.cell 8
  have v8 := hX8.frozen 8
  obtain ⟨hI9, hX9, ht9⟩ := rd_store hI8 hX8 8 (.int .i64 ((X.block : Int) + 1))
  have hB9 := hB8.stay hI8 ht9 (fun e => hX8.ne_ hB8.blk (by decide) e.symm) (fun e => hX8.ne_ hB8.row (by decide) e.symm)
  rw [rcells_loaded] at hX9
  have HI9 := Lib.hid hI9
  have HX9 := Lib.hid hX9
  have HB9 := Lib.hid hB9
  have HT9 := Lib.hid (((((HT4.out.mono (E' := OwnR x X) (fun k h => h.elim)).trans (ht6.mono (fun k h => .inr (.inr h)))).trans (ht7.mono (fun k h => .inl h))).trans (ht8.mono (fun k h => .inl h))).trans (ht9.mono (fun k h => .inl h)))
  clear hbk hB6 hc6 ht6 hI6 hX6 hBu6 hsp hB6' hI7 hX7 ht7 hB7 hI8 hX8 ht8 hB8 hI9 hX9 ht9 hB9 z3 z5 z6 b0 HX4 HB4 HI4 HT4 HRP
  go_wp2_with fail
  go_ret
  exact ⟨rfl, HI9.out, HX9.out, HB9.out, HT9.out⟩
end

end Go.Proofs.Ytmmkncocgjgapaa.Fl

/- The walk of load where the block is another one. -/
namespace Go.Proofs.Ytmmkncocgjgapaa.Fl
open Go.RowKit

section
variable {w w' : World} {O : Nat → Prop} {K : Key} {W : Wk} {x : Nat} {X : Rd} {E : Nat → Prop}

/-- Whatever block is opened: it is the one of some payload and tag, or it is refused. -/
theorem get_any {i : Nat} {l : List (BitVec 64)} {size : Nat} {a : Option Addr} {c : Nat} (hr : Row w a (Crc.words l)) (hl : l.length = size) (h8 : 8 ≤ size) (h256 : size ≤ 256) (hi : i < 9223372036854775808) (hc : size ≤ c) (hc2 : c ≤ maxLen) :
    Calls Try.prog 57 #[.slice a size c, .int .i64 (i : Int)] w fun e w' =>
      (∃ (p : List (BitVec 64)) (tag : BitVec 64) (b : Option Addr) (pc : Nat), p.length + 2 ≤ size ∧ l = Crc.sealW p size tag (BitVec.ofNat 64 i) ∧ e = .returned (.tuple #[.slice b p.length pc, .int .u64 (Crc.I64 tag), .int .i64 0]) ∧ Below w.heap.size w w') ∨
      (e = .returned (.tuple #[.slice none 0 0, .int .u64 0, .int .i64 6]) ∧ Below w.heap.size w w') := by
  by_cases hs : Crc.IsSealed l (BitVec.ofNat 64 i)
  · obtain ⟨p, tag, hp, he⟩ := hs
    rw [hl] at hp he
    refine (Crc.get_yes p size i tag a c w (by rw [← he]; exact hr) h8 h256 hp hi hc hc2).mono ?_
    rintro e w' ⟨b, pc, rfl, _, hb⟩
    exact .inl ⟨p, tag, b, pc, hp, he, rfl, hb⟩
  · obtain ⟨B, z, rfl, hB⟩ : ∃ B z, l = B ++ [z] ∧ B.length + 1 = size := by
      refine ⟨l.dropLast, l.getLast (by intro e; rw [e] at hl; simp at hl; omega), (List.dropLast_concat_getLast _).symm, by simp; omega⟩
    refine (Crc.get_fault B z size i a c w hr hB h8 h256 hi hc hc2 hs).mono ?_
    rintro e w' ⟨rfl, d, rfl⟩
    exact .inr ⟨rfl, ⟨rfl, rfl, rfl, Nat.le_refl _, fun _ _ => rfl⟩⟩

set_option maxRecDepth 100000 in
set_option maxHeartbeats 4000000 in
theorem load_bad (hI : WkI w O K W) (h : RdAt w O K W x X) (hc : X.closed = false) {i : Int} (hi : IntKind.i64.wrap (X.first + (X.block : Int)) = i) (hr : (W.D.rd i).1 = 0) (hac : W.D.acts + 1 < 1099511627776) {iN wN : Nat} (hin : i = (iN : Int)) (hwn : X.width = (wN : Int)) {l : List (BitVec 64)} (hl : l.length = W.D.size) (hw : W.D.words i = Crc.words l)
    (hno : ∀ p : List (BitVec 64), p.length + 2 ≤ W.D.size → (p.length : Int) = X.want W.D.size → W.D.words i ≠ sealed p W.D.size wN iN) (htold : (X.told : Int) ≤ X.count) (hblk : X.block ≤ 100000000) :
    Calls Try.prog 48 #[P x] w (LoadBad w O K W x X i) := by
  have hne : ((W.D.rd i).1 != 0) = false := by simpa using hr
  have hrb := rd_bars hr
  obtain ⟨pv, hd⟩ := hI.dev
  have hbl := hd.nums.fit.blocks
  obtain ⟨s8, s256⟩ := hI.size
  have hks : (W.D.rd i).2.size = W.D.size := (Dev.rd_kin W.D i).size
  have x0 : w.drew.cell? ⟨x, 0, none⟩ = some (P K.wk) := h.blk.cell 0
  have x1 : w.drew.cell? ⟨x, 1, none⟩ = some (.int .i64 X.first) := h.blk.cell 1
  have x8 : w.drew.cell? ⟨x, 8, none⟩ = some (.int .i64 (X.block : Int)) := h.blk.cell 8
  have k0 : w.drew.cell? ⟨K.wk, 0, none⟩ = some (P K.d) := hI.box.cell 0
  have HR := Lib.hid (read_w_ok hI.drew hr hac)
  have HT : Hid (Turn K (fun _ => False) w w.drew) := Lib.hid (Turn.refl _ _ _).drew
  have HI := Lib.hid hI.drew
  have HX : Hid (Blk w.drew x 110 (rcells K X)) := Lib.hid h.blk
  have hB := h.live hc
  have HB : Hid (BufAt w.drew O W X.buf X.arr X.ws) := Lib.hid ⟨hB.blk, hB.row, hB.len, hB.out, hB.st⟩
  have HW := Lib.hid hw
  have HNO := Lib.hid hno
  have HLL := Lib.hid hl
  have HKS := Lib.hid hks
  have HIN := Lib.hid hin
  have HWN := Lib.hid hwn
  obtain ⟨hwd1, hwd5⟩ := h.width
  obtain ⟨hct1, hct2⟩ := h.count
  clear hI h hr hac hd hB hw hks hno hl hc hin hwn
  go_enter Try.func48, Try.ntmps48
  go_wp2_with fail
  refine wp_reads_one 17 (by kernel_rfl) rfl (by kernel_rfl) (fun _ _ d _ _ h => by cases d <;> exact h) ?_; simp only [List.take_succ_cons, List.take_zero, List.drop_succ_cons, List.drop_zero]
  generalize w.drew = w1 at *
  repeat (refine sg_step (fun K2 hK => ?_); go_simp; refine hK.out _ ?_; clear hK K2)
  refine sg_nil (fun K hK => ?_); go_simp
  refine HR.out.mono ?_
  rintro e w2 ⟨g, c, rfl, ho2, hg2, hI2, ht2⟩
  refine hK.out _ _ ?_; clear hK K
  repeat (refine sg_step (fun K2 hK => ?_); go_simp; refine hK.out _ ?_; clear hK K2)
  refine sg_nil ?_
  obtain ⟨a', c', hv, hrow, hc1, hc2, hlen⟩ := own_slice ho2
  injection hv with hv1 hv2 hv3
  subst hv1
  subst hv3
  rw [HW.out] at hrow
  have hX2 := HI.out.blk ht2 HX.out (by decide) (by decide) (by decide) (by decide) (by decide) (fun h => h)
  have hB2 := HB.out.turn HI.out ht2 (fun h => h) (fun h => h) (fun _ h => h) (W' := { W with D := (W.D.rd i).2 }) HKS.out (fun _ h _ => h)
  have HI2 := Lib.hid hI2.drew
  have HX2 : Hid (Blk w2.drew x 110 (rcells K X)) := Lib.hid hX2
  have HB2 : Hid (BufAt w2.drew O { W with D := (W.D.rd i).2 } X.buf X.arr X.ws) := Lib.hid ⟨hB2.blk, hB2.row, hB2.len, hB2.out, hB2.st⟩
  have HT2 := Lib.hid (HT.out.trans ht2).drew
  have hG := get_any (w := w2.drew) (i := iN) (l := l) (size := W.D.size) (a := some ⟨g, 0, none⟩) (c := c) hrow HLL.out s8 s256 (by have := HIN.out; omega) hc1 hc2
  rw [← HIN.out] at hG
  have HG := Lib.hid hG
  have y1 : w2.drew.cell? ⟨x, 1, none⟩ = some (.int .i64 X.first) := hX2.cell 1
  have y8 : w2.drew.cell? ⟨x, 8, none⟩ = some (.int .i64 (X.block : Int)) := hX2.cell 8
  clear hI2 ht2 HR x0 x1 x8 k0 HT HI HX HB ho2 hX2 hB2 hrow hG hlen hv2
  go_wp2_with fail
  refine wp_reads_one 11 (by kernel_rfl) rfl (by kernel_rfl) (fun _ _ d _ _ h => by cases d <;> exact h) ?_; simp only [List.take_succ_cons, List.take_zero, List.drop_succ_cons, List.drop_zero]
  generalize w2.drew = w3 at *
  repeat (refine sg_step (fun K2 hK => ?_); go_simp; refine hK.out _ ?_; clear hK K2)
  refine sg_nil (fun K hK => ?_); go_simp
  refine HG.out.mono ?_
  intro e w4 hG4
  rcases hG4 with ⟨p, tag, a, pc, hp, hlp, rfl, hb4⟩ | ⟨rfl, hb4⟩
  · refine hK.out _ _ ?_; clear hK K
    repeat (refine sg_step (fun K2 hK => ?_); go_simp; refine hK.out _ ?_; clear hK K2)
    refine sg_nil ?_
    have hX4 := HX2.out.below hb4 HX2.out.lt
    have HI4 := Lib.hid (HI2.out.below hb4).drew
    have HX4 : Hid (Blk w4.drew x 110 (rcells K X)) := Lib.hid hX4
    have HT4 := Lib.hid (HT2.out.trans (Turn.below hb4)).drew
    have z0 : w4.drew.cell? ⟨x, 0, none⟩ = some (P K.wk) := hX4.cell 0
    have z3 : w4.drew.cell? ⟨x, 3, none⟩ = some (.int .i64 X.width) := hX4.cell 3
    have z4 : w4.drew.cell? ⟨x, 4, none⟩ = some (.int .i64 X.count) := hX4.cell 4
    have z9 : w4.drew.cell? ⟨x, 9, none⟩ = some (.int .i64 (X.told : Int)) := hX4.cell 9
    have HHo := holds_any HI4.out X.width
    rw [show ({ W with D := (W.D.rd i).2 } : Wk).D.size = W.D.size from HKS.out] at HHo
    have HH := Lib.hid HHo
    have e1 : IntKind.i64.wrap (X.count - (X.told : Int)) = X.count - (X.told : Int) := by rw [IntKind.wrap_i64]; omega
    obtain ⟨g1, g2, g3, g4⟩ := holds_bd (width := X.width) s8 s256
    obtain ⟨wt, hwt⟩ : ∃ wt, wt = X.want W.D.size := ⟨_, rfl⟩
    have HWT := Lib.hid hwt
    have ew : IntKind.i64.wrap ((if holds W.D.size X.width < X.count - (X.told : Int) then holds W.D.size X.width else X.count - (X.told : Int)) * X.width) = wt := by
      have h1 : (if holds W.D.size X.width < X.count - (X.told : Int) then holds W.D.size X.width else X.count - (X.told : Int)) = min (X.count - (X.told : Int)) (holds W.D.size X.width) := by split <;> omega
      rw [h1, hwt, IntKind.wrap_i64]
      unfold Rd.want
      have h2 : 0 ≤ min (X.count - (X.told : Int)) (holds W.D.size X.width) * X.width := Int.mul_nonneg (by omega) (by omega)
      have h3 : min (X.count - (X.told : Int)) (holds W.D.size X.width) * X.width ≤ 254 * 5 := Int.mul_le_mul (by omega) (by omega) (by omega) (by omega)
      omega
    have hdec : (Crc.I64 tag != X.width) = true ∨ ((Crc.I64 tag != X.width) = false ∧ ((p.length : Int) != wt) = true) := by
      by_cases ht : Crc.I64 tag = X.width
      · right
        refine ⟨by simp [ht], ?_⟩
        rw [bne_iff_ne]
        intro hpl
        refine HNO.out p hp (by rw [← hwt]; exact hpl) ?_
        rw [HW.out, hlp]
        have : tag = BitVec.ofNat 64 wN := by
          apply Crc.I64_inj
          rw [ht, HWN.out, Crc.I64_ofNat (by have := HWN.out; omega)]
        rw [this]
        rfl
      · left
        rw [bne_iff_ne]
        exact ht
    have eu : IntKind.u64.wrap X.width = X.width := Crc.u64_wrap_id (by omega) (by omega)
    clear g3 g4 HG HI2 HX2 HB2 HT2 y1 y8 hX4 hb4 HHo hwt
    go_wp2_with fail
    refine wp_reads (by kernel_rfl) (by kernel_rfl) ?_
    generalize w4.drew = w5 at *
    generalize holds W.D.size X.width = n at *
    repeat (refine sg_step (fun K2 hK => ?_); go_simp; refine hK.out _ ?_; clear hK K2)
    (refine sg_step (fun K2 hK => ?_); go_simp; refine ⟨_, Calls.still (HH.out), hK.out _ ?_⟩; clear hK K2)
    repeat (refine sg_step (fun K2 hK => ?_); go_simp; refine hK.out _ ?_; clear hK K2)
    try rw [ew]
    clear ew
    generalize (if n < X.count - (X.told : Int) then n else X.count - (X.told : Int)) = mn at *
    refine sg_nil ?_
    rcases hdec with hd1 | ⟨hd1, hd2⟩
    · go_wp2_with fail
      go_ret
      exact ⟨rfl, HI4.out, HT4.out⟩
    · go_wp2_with fail
      go_ret
      exact ⟨rfl, HI4.out, HT4.out⟩
  · refine hK.out _ _ ?_; clear hK K
    repeat (refine sg_step (fun K2 hK => ?_); go_simp; refine hK.out _ ?_; clear hK K2)
    refine sg_nil ?_
    have hX4 := HX2.out.below hb4 HX2.out.lt
    have HI4 := Lib.hid (HI2.out.below hb4).drew
    have HT4 := Lib.hid (HT2.out.trans (Turn.below hb4)).drew
    have z0 : w4.drew.cell? ⟨x, 0, none⟩ = some (P K.wk) := hX4.cell 0
    have z3 : w4.drew.cell? ⟨x, 3, none⟩ = some (.int .i64 X.width) := hX4.cell 3
    have z4 : w4.drew.cell? ⟨x, 4, none⟩ = some (.int .i64 X.count) := hX4.cell 4
    have z9 : w4.drew.cell? ⟨x, 9, none⟩ = some (.int .i64 (X.told : Int)) := hX4.cell 9
    have HHo := holds_any HI4.out X.width
    rw [show ({ W with D := (W.D.rd i).2 } : Wk).D.size = W.D.size from HKS.out] at HHo
    have HH := Lib.hid HHo
    have e1 : IntKind.i64.wrap (X.count - (X.told : Int)) = X.count - (X.told : Int) := by rw [IntKind.wrap_i64]; omega
    clear HG HI2 HX2 HB2 HT2 y1 y8 hX4 hb4 HHo
    go_wp2_with fail
    refine wp_reads (by kernel_rfl) (by kernel_rfl) ?_
    generalize w4.drew = w5 at *
    generalize holds W.D.size X.width = n at *
    repeat (refine sg_step (fun K2 hK => ?_); go_simp; refine hK.out _ ?_; clear hK K2)
    (refine sg_step (fun K2 hK => ?_); go_simp; refine ⟨_, Calls.still (HH.out), hK.out _ ?_⟩; clear hK K2)
    repeat (refine sg_step (fun K2 hK => ?_); go_simp; refine hK.out _ ?_; clear hK K2)
    generalize (if n < X.count - (X.told : Int) then n else X.count - (X.told : Int)) = mn at *
    refine sg_nil ?_
    go_wp2_with fail
    go_ret
    exact ⟨rfl, HI4.out, HT4.out⟩
end

end Go.Proofs.Ytmmkncocgjgapaa.Fl

/- The walk of Next of a reader. -/

namespace Go.Proofs.Ytmmkncocgjgapaa.Fl
open Go.RowKit

section
variable {w w' : World} {O : Nat → Prop} {K : Key} {W : Wk} {x : Nat} {X : Rd} {E : Nat → Prop}

/-- A store into a block of a kind of its own. -/
theorem aside_store (hI : WkI w O K W) {g : Nat} {t : TypeId} {cs : Array Value} (hb : Blk w g t cs) (i : Nat) (u : Value) (ht : t ≠ 97 ∧ t ≠ 101 ∧ t ≠ 115 ∧ t ≠ 112 ∧ t ≠ 130 ∧ t ≠ 105 ∧ t ≠ 128 ∧ t ≠ 23) :
    WkI (w.setCell ⟨g, i, none⟩ u) O K W ∧ Blk (w.setCell ⟨g, i, none⟩ u) g t (cs.setIfInBounds i u) ∧ Turn K (fun k => k = g) w (w.setCell ⟨g, i, none⟩ u) := by
  have hc : Chg (fun k => k = g) w (w.setCell ⟨g, i, none⟩ u) := (Chg.refl _ w).setCell _ _ (fun _ => rfl)
  refine ⟨hI.aside hc (fun k hk => ?_), hb.set_ i u, hc.mono (fun k _ hk => .inr (.inr (.inr (.inr (.inr (.inr (.inr (.inr hk))))))))⟩
  subst hk
  exact ⟨_, _, hb, ht.1, ht.2.1, ht.2.2.1, ht.2.2.2.1, ht.2.2.2.2.1, ht.2.2.2.2.2.1, ht.2.2.2.2.2.2.1, fun h => absurd h ht.2.2.2.2.2.2.2⟩

def five (w : World) (g : Nat) (a b c d e : Value) : World := ((((w.setCell ⟨g, 0, none⟩ a).setCell ⟨g, 1, none⟩ b).setCell ⟨g, 2, none⟩ c).setCell ⟨g, 3, none⟩ d).setCell ⟨g, 4, none⟩ e
theorem five_store (hI : WkI w O K W) {g : Nat} {a' b' c' d' e' : Value} (hb : Blk w g 45 #[a', b', c', d', e']) (a b c d e : Value) :
    WkI (five w g a b c d e) O K W ∧ Blk (five w g a b c d e) g 45 #[a, b, c, d, e] ∧ Turn K (fun k => k = g) w (five w g a b c d e) := by
  obtain ⟨h1, h2, h3⟩ := aside_store hI hb 0 a (by decide)
  obtain ⟨i1, i2, i3⟩ := aside_store h1 h2 1 b (by decide)
  obtain ⟨j1, j2, j3⟩ := aside_store i1 i2 2 c (by decide)
  obtain ⟨k1, k2, k3⟩ := aside_store j1 j2 3 d (by decide)
  obtain ⟨l1, l2, l3⟩ := aside_store k1 k2 4 e (by decide)
  exact ⟨l1, l2, (((h3.trans i3).trans j3).trans k3).trans l3⟩
theorem five_below {B : Nat} (h : Below B w w') {g : Nat} (hg : B ≤ g) (a b c d e : Value) : Below B w (five w' g a b c d e) :=
  ((((h.setCell hg a).setCell hg b).setCell hg c).setCell hg d).setCell hg e
theorem five_blk {g : Nat} {t : TypeId} {a' b' c' d' e' : Value} (hb : Blk w g t #[a', b', c', d', e']) (a b c d e : Value) : Blk (five w g a b c d e) g t #[a, b, c, d, e] :=
  ((((hb.set_ 0 a).set_ 1 b).set_ 2 c).set_ 3 d).set_ 4 e

def zero5 : Array Value := #[.int .i64 0, .int .i64 0, .int .i64 0, .int .i64 0, .int .i64 0]
def NextNo (w : World) (er : Int) (e : Ending) (w' : World) : Prop := e = .returned (.tuple #[.agg zero5, .bool false, .int .i64 er]) ∧ Below w.heap.size w w'
set_option maxRecDepth 100000 in
set_option maxHeartbeats 1000000 in
theorem next_nil (w : World) : Calls Try.prog 17 #[.pointer none] w (NextNo w 1) := by
  have hb : Below w.heap.size w ((w.alloc (.cells zero5 45)).alloc (.cells zero5 45)) := ((Below.refl _ _).alloc (Nat.le_refl _) _).alloc (by simp) _
  have HB := Lib.hid hb
  have hB1 := Blk.new w 45 zero5
  have hB2 := hB1.alloc (.cells zero5 45)
  have HB2 := Lib.hid hB2
  unfold NextNo
  unfold zero5 at *
  clear hb hB1 hB2
  go_enter Try.func17, Try.ntmps17
  go_wp2_with fail
  generalize ((w.alloc (.cells #[.int .i64 0, .int .i64 0, .int .i64 0, .int .i64 0, .int .i64 0] 45)).alloc (.cells #[.int .i64 0, .int .i64 0, .int .i64 0, .int .i64 0, .int .i64 0] 45)) = w2 at *
  have r0 : w2.cell? ⟨w.heap.size, 0, none⟩ = some (.int .i64 0) := HB2.out.cell 0
  have r1 : w2.cell? ⟨w.heap.size, 1, none⟩ = some (.int .i64 0) := HB2.out.cell 1
  have r2 : w2.cell? ⟨w.heap.size, 2, none⟩ = some (.int .i64 0) := HB2.out.cell 2
  have r3 : w2.cell? ⟨w.heap.size, 3, none⟩ = some (.int .i64 0) := HB2.out.cell 3
  have r4 : w2.cell? ⟨w.heap.size, 4, none⟩ = some (.int .i64 0) := HB2.out.cell 4
  refine bodyPost_ret (v := .tuple #[.agg #[.int .i64 0, .int .i64 0, .int .i64 0, .int .i64 0, .int .i64 0], .bool false, .int .i64 1]) (by simp [results, Try.results17, go_sem, r0, r1, r2, r3, r4]; try rfl) rfl ?_
  exact ⟨rfl, HB.out⟩
set_option maxRecDepth 100000 in
set_option maxHeartbeats 1000000 in
theorem next_closed (h : RdAt w O K W x X) (hc : X.closed = true) : Calls Try.prog 17 #[P x] w (NextNo w 1) := by
  have hb : Below w.heap.size w ((w.alloc (.cells zero5 45)).alloc (.cells zero5 45)) := ((Below.refl _ _).alloc (Nat.le_refl _) _).alloc (by simp) _
  have HB := Lib.hid hb
  have hB1 := Blk.new w 45 zero5
  have hB2 := hB1.alloc (.cells zero5 45)
  have HB2 := Lib.hid hB2
  have hX := h.blk.below hb h.blk.lt
  have c10 : ((w.alloc (.cells zero5 45)).alloc (.cells zero5 45)).cell? ⟨x, 10, none⟩ = some (.bool X.closed) := hX.cell 10
  rw [hc] at c10
  unfold NextNo
  unfold zero5 at *
  clear hb hB1 hB2 h hX
  go_enter Try.func17, Try.ntmps17
  go_wp2_with fail
  generalize ((w.alloc (.cells #[.int .i64 0, .int .i64 0, .int .i64 0, .int .i64 0, .int .i64 0] 45)).alloc (.cells #[.int .i64 0, .int .i64 0, .int .i64 0, .int .i64 0, .int .i64 0] 45)) = w2 at *
  have r0 : w2.cell? ⟨w.heap.size, 0, none⟩ = some (.int .i64 0) := HB2.out.cell 0
  have r1 : w2.cell? ⟨w.heap.size, 1, none⟩ = some (.int .i64 0) := HB2.out.cell 1
  have r2 : w2.cell? ⟨w.heap.size, 2, none⟩ = some (.int .i64 0) := HB2.out.cell 2
  have r3 : w2.cell? ⟨w.heap.size, 3, none⟩ = some (.int .i64 0) := HB2.out.cell 3
  have r4 : w2.cell? ⟨w.heap.size, 4, none⟩ = some (.int .i64 0) := HB2.out.cell 4
  refine bodyPost_ret (v := .tuple #[.agg #[.int .i64 0, .int .i64 0, .int .i64 0, .int .i64 0, .int .i64 0], .bool false, .int .i64 1]) (by simp [results, Try.results17, go_sem, r0, r1, r2, r3, r4]; try rfl) rfl ?_
  exact ⟨rfl, HB.out⟩
set_option maxRecDepth 100000 in
set_option maxHeartbeats 1000000 in
theorem next_end (h : RdAt w O K W x X) (hc : X.closed = false) (he : (X.told : Int) = X.count) : Calls Try.prog 17 #[P x] w (NextNo w 0) := by
  have hb : Below w.heap.size w ((w.alloc (.cells zero5 45)).alloc (.cells zero5 45)) := ((Below.refl _ _).alloc (Nat.le_refl _) _).alloc (by simp) _
  have HB := Lib.hid hb
  have hB1 := Blk.new w 45 zero5
  have hB2 := hB1.alloc (.cells zero5 45)
  have HB2 := Lib.hid hB2
  have hB3 := Blk.new (w.alloc (.cells zero5 45)) 45 zero5
  rw [show (w.alloc (.cells zero5 45)).heap.size = w.heap.size + 1 from by simp] at hB3
  have HB3 := Lib.hid hB3
  have hX := h.blk.below hb h.blk.lt
  have c10 : ((w.alloc (.cells zero5 45)).alloc (.cells zero5 45)).cell? ⟨x, 10, none⟩ = some (.bool X.closed) := hX.cell 10
  rw [hc] at c10
  have c9 : ((w.alloc (.cells zero5 45)).alloc (.cells zero5 45)).cell? ⟨x, 9, none⟩ = some (.int .i64 (X.told : Int)) := hX.cell 9
  have c4 : ((w.alloc (.cells zero5 45)).alloc (.cells zero5 45)).cell? ⟨x, 4, none⟩ = some (.int .i64 X.count) := hX.cell 4
  have heb : ((X.told : Int) == X.count) = true := by simpa using he
  unfold NextNo
  unfold zero5 at *
  clear hb hB1 hB2 hB3 h hX he
  go_enter Try.func17, Try.ntmps17
  go_wp2_with fail
  generalize ((w.alloc (.cells #[.int .i64 0, .int .i64 0, .int .i64 0, .int .i64 0, .int .i64 0] 45)).alloc (.cells #[.int .i64 0, .int .i64 0, .int .i64 0, .int .i64 0, .int .i64 0] 45)) = w1 at *
  refine wp_reads (by kernel_rfl) (by kernel_rfl) ?_
  generalize hw2 : w1.drew = w2 at *
  have d9 : w2.cell? ⟨x, 9, none⟩ = some (.int .i64 (X.told : Int)) := by rw [← hw2]; exact c9
  have d4 : w2.cell? ⟨x, 4, none⟩ = some (.int .i64 X.count) := by rw [← hw2]; exact c4
  have B2 : Hid (Blk w2 w.heap.size 45 #[.int .i64 0, .int .i64 0, .int .i64 0, .int .i64 0, .int .i64 0]) := Lib.hid (by rw [← hw2]; exact HB2.out)
  have B3 : Hid (Blk w2 (w.heap.size + 1) 45 #[.int .i64 0, .int .i64 0, .int .i64 0, .int .i64 0, .int .i64 0]) := Lib.hid (by rw [← hw2]; exact HB3.out)
  have HB' : Hid (Below w.heap.size w w2) := Lib.hid (by rw [← hw2]; exact ⟨HB.out.os, HB.out.tape, HB.out.output, HB.out.size, HB.out.block⟩)
  have r0 : w2.cell? ⟨w.heap.size, 0, none⟩ = some (.int .i64 0) := B2.out.cell 0
  have s0 : w2.cell? ⟨w.heap.size + 1, 0, none⟩ = some (.int .i64 0) := B3.out.cell 0
  have f0 := B2.out.frozen 0
  have r1 : w2.cell? ⟨w.heap.size, 1, none⟩ = some (.int .i64 0) := B2.out.cell 1
  have s1 : w2.cell? ⟨w.heap.size + 1, 1, none⟩ = some (.int .i64 0) := B3.out.cell 1
  have f1 := B2.out.frozen 1
  have r2 : w2.cell? ⟨w.heap.size, 2, none⟩ = some (.int .i64 0) := B2.out.cell 2
  have s2 : w2.cell? ⟨w.heap.size + 1, 2, none⟩ = some (.int .i64 0) := B3.out.cell 2
  have f2 := B2.out.frozen 2
  have r3 : w2.cell? ⟨w.heap.size, 3, none⟩ = some (.int .i64 0) := B2.out.cell 3
  have s3 : w2.cell? ⟨w.heap.size + 1, 3, none⟩ = some (.int .i64 0) := B3.out.cell 3
  have f3 := B2.out.frozen 3
  have r4 : w2.cell? ⟨w.heap.size, 4, none⟩ = some (.int .i64 0) := B2.out.cell 4
  have s4 : w2.cell? ⟨w.heap.size + 1, 4, none⟩ = some (.int .i64 0) := B3.out.cell 4
  have f4 := B2.out.frozen 4
  have B4 := five_blk B2.out (.int .i64 0) (.int .i64 0) (.int .i64 0) (.int .i64 0) (.int .i64 0)
  have L4 := five_below HB'.out (Nat.le_refl _) (.int .i64 0) (.int .i64 0) (.int .i64 0) (.int .i64 0) (.int .i64 0)
  unfold five at B4 L4
  have HB4 := Lib.hid B4
  have HL4 := Lib.hid L4
  clear hw2 c9 c4 c10 HB HB2 HB3 B4 L4
  repeat (refine sg_step (fun K2 hK => ?_); go_simp; refine hK.out _ ?_; clear hK K2)
  refine sg_nil ?_
  go_wp2_with fail
  generalize (((((w2.setCell ⟨w.heap.size, 0, none⟩ (.int .i64 0)).setCell ⟨w.heap.size, 1, none⟩ (.int .i64 0)).setCell ⟨w.heap.size, 2, none⟩ (.int .i64 0)).setCell ⟨w.heap.size, 3, none⟩ (.int .i64 0)).setCell ⟨w.heap.size, 4, none⟩ (.int .i64 0)) = w3 at *
  have t0 : w3.cell? ⟨w.heap.size, 0, none⟩ = some (.int .i64 0) := HB4.out.cell 0
  have t1 : w3.cell? ⟨w.heap.size, 1, none⟩ = some (.int .i64 0) := HB4.out.cell 1
  have t2 : w3.cell? ⟨w.heap.size, 2, none⟩ = some (.int .i64 0) := HB4.out.cell 2
  have t3 : w3.cell? ⟨w.heap.size, 3, none⟩ = some (.int .i64 0) := HB4.out.cell 3
  have t4 : w3.cell? ⟨w.heap.size, 4, none⟩ = some (.int .i64 0) := HB4.out.cell 4
  refine bodyPost_ret (v := .tuple #[.agg #[.int .i64 0, .int .i64 0, .int .i64 0, .int .i64 0, .int .i64 0], .bool false, .int .i64 0]) (by simp [results, Try.results17, go_sem, t0, t1, t2, t3, t4]; try rfl) rfl ?_
  exact ⟨rfl, HL4.out⟩

/-- The tuple that comes next in the buffer. -/
def Rd.tup (X : Rd) : List (BitVec 64) := (X.ws.drop X.at_).take X.width.toNat ++ zeros (5 - X.width.toNat)
def Rd.next (X : Rd) : Rd := { X with at_ := X.at_ + X.width.toNat, told := X.told + 1 }
/-- The first k columns of the tuple that comes next. -/
def Rd.part (X : Rd) (k : Nat) : List (BitVec 64) := (X.ws.drop X.at_).take k ++ zeros (5 - k)
theorem part_set {X : Rd} {k : Nat} (hk : k < 5) (h : X.at_ + k < X.ws.length) : (icells (X.part k)).toArray.setIfInBounds k (.int .i64 (X.ws[X.at_ + k]'h).toInt) = (icells (X.part (k + 1))).toArray := by
  apply Array.toList_inj.1
  simp only [Array.toList_setIfInBounds]
  have h1 : ((X.ws.drop X.at_).take k).length = k := by simp; omega
  have h2 : (X.ws.drop X.at_).take (k + 1) = (X.ws.drop X.at_).take k ++ [X.ws[X.at_ + k]'h] := by
    rw [List.take_succ_eq_append_getElem (by simp; omega)]
    simp
  have h3 : zeros (5 - k) = 0#64 :: zeros (5 - (k + 1)) := by
    unfold zeros
    rw [show 5 - k = (5 - (k + 1)) + 1 from by omega, List.replicate_succ]
  unfold Rd.part icells
  rw [h2, h3]
  simp only [List.map_append, List.map_cons, List.map_nil, List.append_assoc]
  rw [List.set_append_right _ _ (by simp; omega)]
  rw [List.length_map, h1, Nat.sub_self]
  rfl
theorem part_zero (X : Rd) : (icells (X.part 0)).toArray = zero5 := rfl
theorem part_length {X : Rd} {k : Nat} (hk : k ≤ 5) (h : X.at_ + k ≤ X.ws.length) : (icells (X.part k)).toArray.size = 5 := by
  simp [icells, Rd.part, zeros]; omega
/-- The reader and the device behind a load, if one is due. -/
def Loads (W : Wk) (X X1 : Rd) (D1 : Dev.Dv) : Prop :=
  (X.at_ ≠ X.n ∧ X1 = X ∧ D1 = W.D) ∨
  (X.at_ = X.n ∧ ∃ (i : Int) (iN wN : Nat) (p : List (BitVec 64)), IntKind.i64.wrap (X.first + (X.block : Int)) = i ∧ (W.D.rd i).1 = 0 ∧ i = (iN : Int) ∧ X.width = (wN : Int) ∧ p.length + 2 ≤ W.D.size ∧ (p.length : Int) = X.want W.D.size ∧
    W.D.words i = sealed p W.D.size wN iN ∧ X1 = X.loaded p ∧ D1 = (W.D.rd i).2)
structure Came (w0 : World) (O : Nat → Prop) (K : Key) (W : Wk) (x rb tb : Nat) (X X1 : Rd) (D1 : Dev.Dv) (wx : World) : Prop where
  wk : WkI wx O K { W with D := D1 }
  blk : Blk wx x 110 (rcells K X1)
  buf : BufAt wx O { W with D := D1 } X.buf X.arr X1.ws
  res : Blk wx rb 45 zero5
  tup : Blk wx tb 45 zero5
  turn : Turn K (OwnR x X) w0 wx

def NxLoop (w0 : World) (O : Nat → Prop) (K : Key) (V : Wk) (x rb tb wN : Nat) (X X1 : Rd) (iv : Value) (wr : World) : Prop :=
  ∃ k : Nat, iv = .int .i64 (k : Int) ∧ k ≤ wN ∧ WkI wr O K V ∧ Blk wr x 110 (rcells K X1) ∧ BufAt wr O V X.buf X.arr X1.ws ∧ Blk wr rb 45 zero5 ∧ Blk wr tb 45 (icells (X1.part k)).toArray ∧ Turn K (fun k => OwnR x X k ∨ w0.heap.size ≤ k) w0 wr

structure Told5 (w0 : World) (O : Nat → Prop) (K : Key) (V : Wk) (x rb tb : Nat) (X X1 : Rd) (l : List (BitVec 64)) (wx : World) : Prop where
  wk : WkI wx O K V
  blk : Blk wx x 110 (rcells K X1.next)
  buf : BufAt wx O V X.buf X.arr X1.ws
  res : Blk wx rb 45 zero5
  tup : Blk wx tb 45 (icells l).toArray
  turn : Turn K (fun k => OwnR x X k ∨ w0.heap.size ≤ k) w0 wx

def NextOk (w : World) (O : Nat → Prop) (K : Key) (W : Wk) (x : Nat) (X X1 : Rd) (D1 : Dev.Dv) (e : Ending) (w' : World) : Prop :=
  e = .returned (.tuple #[.agg (icells X1.tup).toArray, .bool true, .int .i64 0]) ∧ WkI w' O K { W with D := D1 } ∧ Blk w' x 110 (rcells K X1.next) ∧ BufAt w' O { W with D := D1 } X.buf X.arr X1.ws ∧ Turn K (fun k => OwnR x X k ∨ w.heap.size ≤ k) w w'

set_option maxRecDepth 100000 in
set_option maxHeartbeats 4000000 in
theorem next_ok (hI : WkI w O K W) (h : RdAt w O K W x X) (hc : X.closed = false) (hlt : (X.told : Int) < X.count) {X1 : Rd} {D1 : Dev.Dv} (hload : Loads W X X1 D1) (hfit : X1.at_ + X.width.toNat ≤ W.D.size) (hblk : X.block ≤ 100000000) (hac : W.D.acts + 1 < 1099511627776) :
    Calls Try.prog 17 #[P x] w (NextOk w O K W x X X1 D1) := by
  have hb : Below w.heap.size w ((w.alloc (.cells zero5 45)).alloc (.cells zero5 45)) := ((Below.refl _ _).alloc (Nat.le_refl _) _).alloc (by simp) _
  have hB1 := Blk.new w 45 zero5
  have hB2 := hB1.alloc (.cells zero5 45)
  have hB3 := Blk.new (w.alloc (.cells zero5 45)) 45 zero5
  rw [show (w.alloc (.cells zero5 45)).heap.size = w.heap.size + 1 from by simp] at hB3
  have hX := h.blk.below hb h.blk.lt
  have hBu := (h.live hc).stay (E := fun _ => False) hI (Turn.below hb) (fun h => h) (fun h => h)
  have HI := Lib.hid (hI.below hb)
  have HX := Lib.hid hX
  have HBU := Lib.hid hBu
  have HB2 := Lib.hid hB2
  have HB3 := Lib.hid hB3
  have HT : Hid (Turn K (OwnR x X) w ((w.alloc (.cells zero5 45)).alloc (.cells zero5 45))) := Lib.hid (Turn.below hb)
  have c10 : ((w.alloc (.cells zero5 45)).alloc (.cells zero5 45)).cell? ⟨x, 10, none⟩ = some (.bool X.closed) := hX.cell 10
  rw [hc] at c10
  have HW := Lib.hid h.width
  have HCT := Lib.hid h.count
  have HC := Lib.hid hc
  have heb : ((X.told : Int) == X.count) = false := by rw [beq_eq_false_iff_ne]; omega
  have HLD := Lib.hid hload
  have hxl := h.blk.lt
  obtain ⟨s8, s256⟩ := hI.size
  unfold zero5 at HI HX HBU HB2 HB3 HT c10
  clear hI h hb hB1 hB2 hB3 hX hBu hc hload
  go_enter Try.func17, Try.ntmps17
  go_wp2_with fail
  generalize ((w.alloc (.cells #[.int .i64 0, .int .i64 0, .int .i64 0, .int .i64 0, .int .i64 0] 45)).alloc (.cells #[.int .i64 0, .int .i64 0, .int .i64 0, .int .i64 0, .int .i64 0] 45)) = w1 at *
  have d9 : w1.drew.cell? ⟨x, 9, none⟩ = some (.int .i64 (X.told : Int)) := HX.out.cell 9
  have d4 : w1.drew.cell? ⟨x, 4, none⟩ = some (.int .i64 X.count) := HX.out.cell 4
  clear c10
  refine wp_reads (by kernel_rfl) (by kernel_rfl) ?_
  repeat (refine sg_step (fun K2 hK => ?_); go_simp; refine hK.out _ ?_; clear hK K2)
  refine sg_nil ?_
  go_wp2_with fail
  have d7 : w1.drew.drew.cell? ⟨x, 7, none⟩ = some (.int .i64 (X.at_ : Int)) := HX.out.cell 7
  have d6 : w1.drew.drew.cell? ⟨x, 6, none⟩ = some (.int .i64 (X.n : Int)) := HX.out.cell 6
  clear d9 d4
  refine wp_reads (by kernel_rfl) (by kernel_rfl) ?_
  repeat (refine sg_step (fun K2 hK => ?_); go_simp; refine hK.out _ ?_; clear hK K2)
  refine sg_nil ?_
  have HI2 := Lib.hid HI.out.drew.drew
  have HX2 : Hid (Blk w1.drew.drew x 110 (rcells K X)) := Lib.hid HX.out
  have HBU2 : Hid (BufAt w1.drew.drew O W X.buf X.arr X.ws) := Lib.hid ⟨HBU.out.blk, HBU.out.row, HBU.out.len, HBU.out.out, HBU.out.st⟩
  have HB22 : Hid (Blk w1.drew.drew w.heap.size 45 zero5) := Lib.hid HB2.out
  have HB32 : Hid (Blk w1.drew.drew (w.heap.size + 1) 45 zero5) := Lib.hid HB3.out
  have HT2 := Lib.hid HT.out.drew.drew
  clear HI HX HBU HB2 HB3 HT d7 d6
  generalize w1.drew.drew = w2 at *
  go_upto_if 38 with (fail)
  go_cut [] (fun wx => Came w O K W x w.heap.size (w.heap.size + 1) X X1 D1 wx)
  case first =>
    rcases HLD.out with ⟨hne, rfl, rfl⟩ | ⟨heq, i, iN, wN, p, q1, q2, q3, q4, q5, q6, q7, rfl, rfl⟩
    · have hb0 : ((X1.at_ : Int) == (X1.n : Int)) = false := by rw [beq_eq_false_iff_ne]; omega
      clear hne HLD
      go_wp2_with fail
      go_meet
      exact ⟨HI2.out, HX2.out, HBU2.out, HB22.out, HB32.out, HT2.out⟩
    · have hb0 : ((X.at_ : Int) == (X.n : Int)) = true := by simp [heq]
      have hR2 : RdAt w2 O K W x X := ⟨HX2.out, fun _ => HBU2.out, HW.out, HCT.out⟩
      have HL := Lib.hid (load_good HI2.out hR2 HC.out q1 q2 hac q3 q4 q5 q6 q7 (by omega) hblk)
      clear heq q1 q2 q3 q4 q5 q6 q7 hR2 HLD
      go_wp2_with fail
      refine HL.out.mono ?_
      rintro e w3 ⟨rfl, hI3, hX3, hB3, ht3⟩
      have hrx : ¬ OwnR x X w.heap.size := by
        rintro (e | e | e)
        · omega
        · exact HB22.out.ne_ HBU2.out.blk (by decide) e
        · exact HB22.out.ne_ HBU2.out.row (by decide) e
      have hrt : ¬ OwnR x X (w.heap.size + 1) := by
        rintro (e | e | e)
        · omega
        · exact HB32.out.ne_ HBU2.out.blk (by decide) e
        · exact HB32.out.ne_ HBU2.out.row (by decide) e
      have hm := HI2.out.blk ht3 HB22.out (by decide) (by decide) (by decide) (by decide) (by decide) hrx
      have hm2 := HI2.out.blk ht3 HB32.out (by decide) (by decide) (by decide) (by decide) (by decide) hrt
      have HM := Lib.hid (show Came w O K W x w.heap.size (w.heap.size + 1) X (X.loaded p) (W.D.rd i).2 w3 from ⟨hI3, hX3, hB3, hm, hm2, HT2.out.trans ht3⟩)
      clear hI3 hX3 hB3 ht3 hrx hrt hm hm2 HL
      go_wp2_with fail
      go_meet
      exact HM.out
  case rest =>
    have hs1 : X1.width = X.width := by
      rcases HLD.out with ⟨_, rfl, _⟩ | ⟨_, i, iN, wN, p, _, _, _, _, _, _, _, rfl, _⟩ <;> rfl
    have hds : D1.size = W.D.size := by
      rcases HLD.out with ⟨_, _, rfl⟩ | ⟨_, i, iN, wN, p, _, _, _, _, _, _, _, _, rfl⟩
      · rfl
      · exact (Dev.rd_kin W.D i).size
    have hxbu : X1.buf = X.buf := by
      rcases HLD.out with ⟨_, rfl, _⟩ | ⟨_, i, iN, wN, p, _, _, _, _, _, _, _, rfl, _⟩ <;> rfl
    have HDS := Lib.hid hds
    have HXBU := Lib.hid hxbu
    have HTO : Hid (X1.told = X.told) := Lib.hid (by rcases HLD.out with ⟨_, rfl, _⟩ | ⟨_, i, iN, wN, p, _, _, _, _, _, _, _, rfl, _⟩ <;> rfl)
    clear hds hxbu
    have HCU := Lib.hid hcut
    have HS1 := Lib.hid hs1
    clear HI2 HX2 HBU2 HB22 HB32 HT2 HLD hcut hs1
    obtain ⟨wN, hwN⟩ : ∃ wN, wN = X.width.toNat := ⟨_, rfl⟩
    have hwi : X.width = (wN : Int) := by have := HW.out; omega
    have hw5 : 1 ≤ wN ∧ wN ≤ 5 := by have := HW.out; omega
    rw [← hwN] at hfit
    have e3 : wc.cell? ⟨x, 3, none⟩ = some (.int .i64 (wN : Int)) := by
      have := HCU.out.blk.cell 3
      rw [show (rcells K X1)[3]? = some (.int .i64 X1.width) from rfl, HS1.out, hwi] at this
      exact this
    have HWI := Lib.hid hwi
    have HWN := Lib.hid hwN
    clear hwi hwN
    go_wp2_with fail
    go_loopw [52] (fun iv wr => NxLoop w O K { W with D := D1 } x w.heap.size (w.heap.size + 1) wN X X1 iv wr) (fun iv _ => wN - (intOf iv).toNat)
    case atStart => exact ⟨0, rfl, by omega, HCU.out.wk, HCU.out.blk, HCU.out.buf, HCU.out.res, HCU.out.tup, HCU.out.turn.mono (fun k h => .inl h)⟩
    case round =>
      obtain ⟨k, rfl, hk, hIk, hXk, hBk, hRk, hTk, htk⟩ := hrel
      clear HCU e3
      have hlen : X1.ws.length = W.D.size := hBk.len.trans HDS.out
      by_cases hkw : (k : Int) < wN
      · have hkl : k < wN := by omega
        have hix : X1.at_ + k < X1.ws.length := by omega
        have hps := part_set (X := X1) (k := k) (by omega) hix
        have c0 : wr.drew.cell? ⟨X.arr, X1.at_ + k, none⟩ = some (.int .u64 (Crc.I64 (X1.ws[X1.at_ + k]'hix))) := by
          have := hBk.row.drew.cell (X1.at_ + k)
          rw [this]
          simp [Crc.words, hix]
        have x5 : wr.drew.cell? ⟨x, 5, none⟩ = some (P X.buf) := by rw [← HXBU.out]; exact hXk.drew.cell 5
        have x7 : wr.drew.cell? ⟨x, 7, none⟩ = some (.int .i64 (X1.at_ : Int)) := hXk.drew.cell 7
        have b0 : wr.drew.cell? ⟨X.buf, 0, none⟩ = some (.slice (some ⟨X.arr, 0, none⟩) D1.size D1.size) := hBk.blk.drew.cell 0
        obtain ⟨v0, hv0⟩ := hTk.drew.some_ (i := k) (by rw [part_length (by omega) (by omega)]; omega)
        have fv0 := hTk.drew.frozen k
        obtain ⟨hIs, hTs, hts⟩ := aside_store hIk.drew hTk.drew k (.int .i64 (X1.ws[X1.at_ + k]'hix).toInt) (by decide)
        rw [hps] at hTs
        have hXs := hIk.drew.blk hts hXk.drew (by decide) (by decide) (by decide) (by decide) (by decide) (fun e => hXk.ne_ hTk (by decide) e)
        have hRs := hIk.drew.blk hts hRk.drew (by decide) (by decide) (by decide) (by decide) (by decide) (show w.heap.size ≠ w.heap.size + 1 by omega)
        have hBd : BufAt wr.drew O { W with D := D1 } X.buf X.arr X1.ws := ⟨hBk.blk, hBk.row, hBk.len, hBk.out, hBk.st⟩
        have hBs := hBd.stay hIk.drew hts (fun e => hBk.blk.ne_ hTk (by decide) e) (fun e => hBk.row.ne_ hTk (by decide) e)
        have q4 := I64_int (X1.ws[X1.at_ + k]'hix)
        generalize X1.ws[X1.at_ + k]'hix = cc at *
        have q0 : IntKind.i64.wrap ((X1.at_ : Int) + (k : Int)) = (X1.at_ : Int) + (k : Int) := by rw [IntKind.wrap_i64]; omega
        have q1 : (0 : Int) ≤ (X1.at_ : Int) + (k : Int) := by omega
        have q2 : (X1.at_ : Int) + (k : Int) < (D1.size : Int) := by have := HDS.out; omega
        have q3 : ((X1.at_ : Int) + (k : Int)).toNat = X1.at_ + k := by omega
        have q5 : (k : Int) < 5 := by omega
        have q6 : (0 : Int) ≤ (k : Int) := by omega
        have HIs := Lib.hid hIs
        have HTs := Lib.hid hTs
        have HXs := Lib.hid hXs
        have HRs := Lib.hid hRs
        have HBs := Lib.hid hBs
        have HTT := Lib.hid (htk.drew.trans (hts.mono (E' := fun k => OwnR x X k ∨ w.heap.size ≤ k) (fun k h => .inr (by have h' : k = w.heap.size + 1 := h; omega))))
        clear hIs hTs hXs hRs hBs hts hBd hIk hXk hBk hRk hTk htk hps hlen
        go_wp2_with fail
        refine wp_reads_one 18 (by kernel_rfl) rfl (by kernel_rfl) (fun _ _ d _ _ h => by cases d <;> exact h) ?_; simp only [List.take_succ_cons, List.take_zero, List.drop_succ_cons, List.drop_zero]
        generalize wr.drew = w3 at *
        repeat (refine sg_step (fun K2 hK => ?_); go_simp; refine hK.out _ ?_; clear hK K2)
        refine sg_nil (fun K hK => ?_); go_simp
        refine hK.out _ _ ?_; clear hK K
        repeat (refine sg_step (fun K2 hK => ?_); go_simp; refine hK.out _ ?_; clear hK K2)
        refine sg_nil ?_
        generalize w3.setCell ⟨w.heap.size + 1, k, none⟩ (.int .i64 cc.toInt) = w4 at *
        clear c0 x5 x7 b0 hv0 fv0 q0 q1 q2 q3 q4
        go_wp2_with fail
        go_roundw
        case rel => exact ⟨k + 1, by go_num, by omega, HIs.out, HXs.out, HBs.out, HRs.out, HTs.out, HTT.out⟩
        case measure => simp [intOf]; omega
      · obtain rfl : k = wN := by omega
        obtain ⟨a0, a1, a2, a3, a4, hT⟩ : ∃ a0 a1 a2 a3 a4, X1.part k = [a0, a1, a2, a3, a4] := by
          have h5 : (X1.part k).length = 5 := by have := part_length (X := X1) (k := k) (by omega) (by omega); simpa [icells] using this
          match hh : X1.part k, h5 with
          | [a0, a1, a2, a3, a4], _ => exact ⟨_, _, _, _, _, rfl⟩
        have htup : X1.tup = [a0, a1, a2, a3, a4] := by
          rw [← hT]
          unfold Rd.tup Rd.part
          rw [HS1.out, ← HWN.out]
        rw [hT] at hTk
        have hx7 : IntKind.i64.wrap ((X1.at_ : Int) + (k : Int)) = (X1.at_ : Int) + (k : Int) := by rw [IntKind.wrap_i64]; omega
        obtain ⟨hI1, hX1, ht1⟩ := rd_store hIk.drew hXk.drew 7 (.int .i64 ((X1.at_ : Int) + (k : Int)))
        have hB1 := (show BufAt wr.drew O { W with D := D1 } X.buf X.arr X1.ws from ⟨hBk.blk, hBk.row, hBk.len, hBk.out, hBk.st⟩).stay hIk.drew ht1 (fun e => hXk.ne_ hBk.blk (by decide) e.symm) (fun e => hXk.ne_ hBk.row (by decide) e.symm)
        have hR1 := hIk.drew.blk ht1 hRk.drew (by decide) (by decide) (by decide) (by decide) (by decide) (fun e => hXk.ne_ hRk (by decide) e.symm)
        have hT1 := hIk.drew.blk ht1 hTk.drew (by decide) (by decide) (by decide) (by decide) (by decide) (fun e => hXk.ne_ hTk (by decide) e.symm)
        have x7 : wr.drew.cell? ⟨x, 7, none⟩ = some (.int .i64 (X1.at_ : Int)) := hXk.drew.cell 7
        have x3 : wr.drew.cell? ⟨x, 3, none⟩ = some (.int .i64 (k : Int)) := by
          have := hXk.drew.cell 3
          rw [show (rcells K X1)[3]? = some (.int .i64 X1.width) from rfl, HS1.out, HWI.out] at this
          exact this
        have fx7 := hXk.drew.frozen 7
        have HI1 := Lib.hid hI1
        have HX1 := Lib.hid hX1
        have HB1 := Lib.hid hB1
        have HR1 := Lib.hid hR1
        have HT1 := Lib.hid hT1
        have HTT := Lib.hid (htk.drew.trans (ht1.mono (E' := fun k => OwnR x X k ∨ w.heap.size ≤ k) (fun k h => .inl (.inl h))))
        have HTP := Lib.hid htup
        clear hI1 hX1 hB1 hR1 hT1 ht1 hIk hXk hBk hRk hTk htk hT htup hlen
        go_wp2_with fail
        refine wp_reads_one 12 (by kernel_rfl) rfl (by kernel_rfl) (fun _ _ d _ _ h => by cases d <;> exact h) ?_; simp only [List.take_succ_cons, List.take_zero, List.drop_succ_cons, List.drop_zero]
        generalize wr.drew = w3 at *
        repeat (refine sg_step (fun K2 hK => ?_); go_simp; refine hK.out _ ?_; clear hK K2)
        refine sg_nil (fun K hK => ?_); go_simp
        refine hK.out _ _ ?_; clear hK K
        repeat (refine sg_step (fun K2 hK => ?_); go_simp; refine hK.out _ ?_; clear hK K2)
        refine sg_nil ?_
        generalize w3.setCell ⟨x, 7, none⟩ (.int .i64 ((X1.at_ : Int) + (k : Int))) = w4 at *
        clear x7 x3 fx7 hx7
        go_upto_region 17 with (fail)
        go_cut [] (fun wx => Told5 w O K { W with D := D1 } x w.heap.size (w.heap.size + 1) X X1 [a0, a1, a2, a3, a4] wx)
        case first =>
          have y9 : w4.cell? ⟨x, 9, none⟩ = some (.int .i64 (X1.told : Int)) := HX1.out.cell 9
          have fy9 := HX1.out.frozen 9
          obtain ⟨hI5, hX5, ht5⟩ := rd_store HI1.out HX1.out 9 (.int .i64 ((X1.told : Int) + 1))
          have hB5 := HB1.out.stay HI1.out ht5 (fun e => HX1.out.ne_ HB1.out.blk (by decide) e.symm) (fun e => HX1.out.ne_ HB1.out.row (by decide) e.symm)
          have hR5 := HI1.out.blk ht5 HR1.out (by decide) (by decide) (by decide) (by decide) (by decide) (fun e => HX1.out.ne_ HR1.out (by decide) e.symm)
          have hT5 := HI1.out.blk ht5 HT1.out (by decide) (by decide) (by decide) (by decide) (by decide) (fun e => HX1.out.ne_ HT1.out (by decide) e.symm)
          have hX5' : Blk (w4.setCell ⟨x, 9, none⟩ (.int .i64 ((X1.told : Int) + 1))) x 110 (rcells K X1.next) := by
            have e : ((rcells K X1).setIfInBounds 7 (.int .i64 ((X1.at_ : Int) + (k : Int)))).setIfInBounds 9 (.int .i64 ((X1.told : Int) + 1)) = rcells K X1.next := by
              simp [rcells, Rd.next, HS1.out, ← HWN.out]
            rw [← e]
            exact hX5
          have HM := Lib.hid (show Told5 w O K { W with D := D1 } x w.heap.size (w.heap.size + 1) X X1 [a0, a1, a2, a3, a4] _ from ⟨hI5, hX5', hB5, hR5, hT5, HTT.out.trans (ht5.mono (E' := fun k => OwnR x X k ∨ w.heap.size ≤ k) (fun k h => .inl (.inl h)))⟩)
          clear hI5 hX5 hX5' hB5 hR5 hT5 ht5 HI1 HX1 HB1 HR1 HT1 HTT
          have htb : X1.told ≤ 100000000 := by have := HTO.out; have := HCT.out; omega
          go_wp2_with fail
          go_meet
          exact HM.out
        case rest =>
          clear HI1 HX1 HB1 HR1 HT1 HTT
          have HCU := Lib.hid hcut
          have HTP5 := HTP
          clear hcut
          have s0 : wc.cell? ⟨w.heap.size + 1, 0, none⟩ = some (.int .i64 a0.toInt) := HCU.out.tup.cell 0
          have s1 : wc.cell? ⟨w.heap.size + 1, 1, none⟩ = some (.int .i64 a1.toInt) := HCU.out.tup.cell 1
          have s2 : wc.cell? ⟨w.heap.size + 1, 2, none⟩ = some (.int .i64 a2.toInt) := HCU.out.tup.cell 2
          have s3 : wc.cell? ⟨w.heap.size + 1, 3, none⟩ = some (.int .i64 a3.toInt) := HCU.out.tup.cell 3
          have s4 : wc.cell? ⟨w.heap.size + 1, 4, none⟩ = some (.int .i64 a4.toInt) := HCU.out.tup.cell 4
          have r0 : wc.cell? ⟨w.heap.size, 0, none⟩ = some (.int .i64 0) := HCU.out.res.cell 0
          have r1 : wc.cell? ⟨w.heap.size, 1, none⟩ = some (.int .i64 0) := HCU.out.res.cell 1
          have r2 : wc.cell? ⟨w.heap.size, 2, none⟩ = some (.int .i64 0) := HCU.out.res.cell 2
          have r3 : wc.cell? ⟨w.heap.size, 3, none⟩ = some (.int .i64 0) := HCU.out.res.cell 3
          have r4 : wc.cell? ⟨w.heap.size, 4, none⟩ = some (.int .i64 0) := HCU.out.res.cell 4
          have f0 := HCU.out.res.frozen 0
          have f1 := HCU.out.res.frozen 1
          have f2 := HCU.out.res.frozen 2
          have f3 := HCU.out.res.frozen 3
          have f4 := HCU.out.res.frozen 4
          obtain ⟨hI6, hR6, ht6⟩ := five_store HCU.out.wk HCU.out.res (.int .i64 a0.toInt) (.int .i64 a1.toInt) (.int .i64 a2.toInt) (.int .i64 a3.toInt) (.int .i64 a4.toInt)
          have hX6 := HCU.out.wk.blk ht6 HCU.out.blk (by decide) (by decide) (by decide) (by decide) (by decide) (fun e => HCU.out.blk.ne_ HCU.out.res (by decide) e)
          have hB6 := HCU.out.buf.stay HCU.out.wk ht6 (fun e => HCU.out.buf.blk.ne_ HCU.out.res (by decide) e) (fun e => HCU.out.buf.row.ne_ HCU.out.res (by decide) e)
          have hTT6 := HCU.out.turn.trans (ht6.mono (E' := fun k => OwnR x X k ∨ w.heap.size ≤ k) (fun k h => .inr (by have h' : k = w.heap.size := h; omega)))
          unfold five at hI6 hR6 hX6 hB6 hTT6
          have HI6 := Lib.hid hI6
          have HR6 := Lib.hid hR6
          have HX6 := Lib.hid hX6
          have HB6 := Lib.hid hB6
          have HT6 := Lib.hid hTT6
          clear hI6 hR6 ht6 hX6 hB6 hTT6 HCU
          go_wp2_with fail
          generalize ((((wc.setCell ⟨w.heap.size, 0, none⟩ (.int .i64 a0.toInt)).setCell ⟨w.heap.size, 1, none⟩ (.int .i64 a1.toInt)).setCell ⟨w.heap.size, 2, none⟩ (.int .i64 a2.toInt)).setCell ⟨w.heap.size, 3, none⟩ (.int .i64 a3.toInt)).setCell ⟨w.heap.size, 4, none⟩ (.int .i64 a4.toInt) = w6 at *
          have t0 : w6.cell? ⟨w.heap.size, 0, none⟩ = some (.int .i64 a0.toInt) := HR6.out.cell 0
          have t1 : w6.cell? ⟨w.heap.size, 1, none⟩ = some (.int .i64 a1.toInt) := HR6.out.cell 1
          have t2 : w6.cell? ⟨w.heap.size, 2, none⟩ = some (.int .i64 a2.toInt) := HR6.out.cell 2
          have t3 : w6.cell? ⟨w.heap.size, 3, none⟩ = some (.int .i64 a3.toInt) := HR6.out.cell 3
          have t4 : w6.cell? ⟨w.heap.size, 4, none⟩ = some (.int .i64 a4.toInt) := HR6.out.cell 4
          refine bodyPost_ret (v := .tuple #[.agg #[.int .i64 a0.toInt, .int .i64 a1.toInt, .int .i64 a2.toInt, .int .i64 a3.toInt, .int .i64 a4.toInt], .bool true, .int .i64 0]) (by simp [results, Try.results17, go_sem, t0, t1, t2, t3, t4]; try rfl) rfl ?_
          exact ⟨by rw [HTP5.out]; rfl, HI6.out, HX6.out, HB6.out, HT6.out⟩
end

end Go.Proofs.Ytmmkncocgjgapaa.Fl

/- The walk of Next where the block cannot be loaded. -/
namespace Go.Proofs.Ytmmkncocgjgapaa.Fl
open Go.RowKit

section
variable {w w' : World} {O : Nat → Prop} {K : Key} {W : Wk} {x : Nat} {X : Rd} {E : Nat → Prop}
def NextBad (w : World) (O : Nat → Prop) (K : Key) (W : Wk) (x : Nat) (X : Rd) (er : Int) (D1 : Dev.Dv) (e : Ending) (w' : World) : Prop :=
  e = .returned (.tuple #[.agg zero5, .bool false, .int .i64 er]) ∧ WkI w' O K { W with D := D1, A := W.A.release X.buf W.D.size } ∧ Blk w' x 110 (rcells K { X with closed := true }) ∧ Turn K (fun k => OwnR x X k ∨ w.heap.size ≤ k) w w'

set_option maxRecDepth 100000 in
set_option maxHeartbeats 4000000 in
theorem next_bad (hI : WkI w O K W) (h : RdAt w O K W x X) (hc : X.closed = false) (hlt : (X.told : Int) < X.count) (hat : X.at_ = X.n) {er : Int} {D1 : Dev.Dv} (her : er ≠ 0) (hds : D1.size = W.D.size)
    (hload : ∀ w2, WkI w2 O K W → RdAt w2 O K W x X → Calls Try.prog 48 #[P x] w2 fun e w' => e = .returned (.int .i64 er) ∧ WkI w' O K { W with D := D1 } ∧ Turn K (fun _ => False) w2 w') :
    Calls Try.prog 17 #[P x] w (NextBad w O K W x X er D1) := by
  have hb : Below w.heap.size w ((w.alloc (.cells zero5 45)).alloc (.cells zero5 45)) := ((Below.refl _ _).alloc (Nat.le_refl _) _).alloc (by simp) _
  have hB1 := Blk.new w 45 zero5
  have hB2 := hB1.alloc (.cells zero5 45)
  have hB3 := Blk.new (w.alloc (.cells zero5 45)) 45 zero5
  rw [show (w.alloc (.cells zero5 45)).heap.size = w.heap.size + 1 from by simp] at hB3
  have hX := h.blk.below hb h.blk.lt
  have hBu := (h.live hc).stay (E := fun _ => False) hI (Turn.below hb) (fun h => h) (fun h => h)
  have HI := Lib.hid (hI.below hb)
  have HX := Lib.hid hX
  have HBU := Lib.hid hBu
  have HB2 := Lib.hid hB2
  have HB3 := Lib.hid hB3
  have HT : Hid (Turn K (OwnR x X) w ((w.alloc (.cells zero5 45)).alloc (.cells zero5 45))) := Lib.hid (Turn.below hb)
  have c10 : ((w.alloc (.cells zero5 45)).alloc (.cells zero5 45)).cell? ⟨x, 10, none⟩ = some (.bool X.closed) := hX.cell 10
  rw [hc] at c10
  have HW := Lib.hid h.width
  have HCT := Lib.hid h.count
  have HC := Lib.hid hc
  have heb : ((X.told : Int) == X.count) = false := by rw [beq_eq_false_iff_ne]; omega
  have HLD := Lib.hid hload
  have hner : (er != 0) = true := by simpa using her
  have HDS := Lib.hid hds
  have hb0 : ((X.at_ : Int) == (X.n : Int)) = true := by simp [hat]
  have hxl := h.blk.lt
  obtain ⟨s8, s256⟩ := hI.size
  unfold zero5 at HI HX HBU HB2 HB3 HT c10
  clear hI h hb hB1 hB2 hB3 hX hBu hc hload her hds hat
  go_enter Try.func17, Try.ntmps17
  go_wp2_with fail
  generalize ((w.alloc (.cells #[.int .i64 0, .int .i64 0, .int .i64 0, .int .i64 0, .int .i64 0] 45)).alloc (.cells #[.int .i64 0, .int .i64 0, .int .i64 0, .int .i64 0, .int .i64 0] 45)) = w1 at *
  have d9 : w1.drew.cell? ⟨x, 9, none⟩ = some (.int .i64 (X.told : Int)) := HX.out.cell 9
  have d4 : w1.drew.cell? ⟨x, 4, none⟩ = some (.int .i64 X.count) := HX.out.cell 4
  clear c10
  refine wp_reads (by kernel_rfl) (by kernel_rfl) ?_
  repeat (refine sg_step (fun K2 hK => ?_); go_simp; refine hK.out _ ?_; clear hK K2)
  refine sg_nil ?_
  go_wp2_with fail
  have d7 : w1.drew.drew.cell? ⟨x, 7, none⟩ = some (.int .i64 (X.at_ : Int)) := HX.out.cell 7
  have d6 : w1.drew.drew.cell? ⟨x, 6, none⟩ = some (.int .i64 (X.n : Int)) := HX.out.cell 6
  clear d9 d4
  refine wp_reads (by kernel_rfl) (by kernel_rfl) ?_
  repeat (refine sg_step (fun K2 hK => ?_); go_simp; refine hK.out _ ?_; clear hK K2)
  refine sg_nil ?_
  have HI2 := Lib.hid HI.out.drew.drew
  have HX2 : Hid (Blk w1.drew.drew x 110 (rcells K X)) := Lib.hid HX.out
  have HBU2 : Hid (BufAt w1.drew.drew O W X.buf X.arr X.ws) := Lib.hid ⟨HBU.out.blk, HBU.out.row, HBU.out.len, HBU.out.out, HBU.out.st⟩
  have HB22 : Hid (Blk w1.drew.drew w.heap.size 45 zero5) := Lib.hid HB2.out
  have HB32 : Hid (Blk w1.drew.drew (w.heap.size + 1) 45 zero5) := Lib.hid HB3.out
  have HT2 := Lib.hid HT.out.drew.drew
  clear HI HX HBU HB2 HB3 HT d7 d6
  generalize w1.drew.drew = w2 at *
  have hR2 : RdAt w2 O K W x X := ⟨HX2.out, fun _ => HBU2.out, HW.out, HCT.out⟩
  have HL := Lib.hid (HLD.out w2 HI2.out hR2)
  clear HLD hR2
  go_wp2_with fail
  refine HL.out.mono ?_
  rintro e w3 ⟨rfl, hI3, ht3⟩
  have hX3 := HI2.out.blk ht3 HX2.out (by decide) (by decide) (by decide) (by decide) (by decide) (fun h => h)
  have hB3 := HBU2.out.turn HI2.out ht3 (fun h => h) (fun h => h) (fun _ h => h) (W' := { W with D := D1 }) HDS.out (fun _ h _ => h)
  have hR3 : RdAt w3 O K { W with D := D1 } x X := ⟨hX3, fun _ => hB3, HW.out, HCT.out⟩
  have hm := HI2.out.blk ht3 HB22.out (by decide) (by decide) (by decide) (by decide) (by decide) (fun h => h)
  have hm2 := HI2.out.blk ht3 HB32.out (by decide) (by decide) (by decide) (by decide) (by decide) (fun h => h)
  have HCL := Lib.hid (rclose_live hI3 hR3 HC.out)
  have HI3 := Lib.hid hI3
  have HB3' := Lib.hid hB3
  have HM := Lib.hid hm
  have HM2 := Lib.hid hm2
  have HT3 := Lib.hid (HT2.out.trans (ht3.mono (E' := OwnR x X) (fun k h => h.elim)))
  clear hI3 ht3 hX3 hB3 hR3 hm hm2 HL HI2 HX2 HBU2 HB22 HB32 HT2
  go_wp2_with fail
  refine HCL.out.mono ?_
  rintro e w4 ⟨rfl, hI4, hX4, ht4⟩
  have hrx : ¬ OwnR x X w.heap.size := by
    rintro (e | e | e)
    · omega
    · exact HM.out.ne_ HB3'.out.blk (by decide) e
    · exact HM.out.ne_ HB3'.out.row (by decide) e
  have hrt : ¬ OwnR x X (w.heap.size + 1) := by
    rintro (e | e | e)
    · omega
    · exact HM2.out.ne_ HB3'.out.blk (by decide) e
    · exact HM2.out.ne_ HB3'.out.row (by decide) e
  have HR4 := Lib.hid (HI3.out.blk ht4 HM.out (by decide) (by decide) (by decide) (by decide) (by decide) hrx)
  have HT4' := Lib.hid (HI3.out.blk ht4 HM2.out (by decide) (by decide) (by decide) (by decide) (by decide) hrt)
  have HI4 := Lib.hid hI4
  have HX4 := Lib.hid hX4
  have HT4 := Lib.hid (HT3.out.trans ht4)
  have r0 : w4.cell? ⟨w.heap.size, 0, none⟩ = some (.int .i64 0) := HR4.out.cell 0
  have s0 : w4.cell? ⟨w.heap.size + 1, 0, none⟩ = some (.int .i64 0) := HT4'.out.cell 0
  have f0 := HR4.out.frozen 0
  have r1 : w4.cell? ⟨w.heap.size, 1, none⟩ = some (.int .i64 0) := HR4.out.cell 1
  have s1 : w4.cell? ⟨w.heap.size + 1, 1, none⟩ = some (.int .i64 0) := HT4'.out.cell 1
  have f1 := HR4.out.frozen 1
  have r2 : w4.cell? ⟨w.heap.size, 2, none⟩ = some (.int .i64 0) := HR4.out.cell 2
  have s2 : w4.cell? ⟨w.heap.size + 1, 2, none⟩ = some (.int .i64 0) := HT4'.out.cell 2
  have f2 := HR4.out.frozen 2
  have r3 : w4.cell? ⟨w.heap.size, 3, none⟩ = some (.int .i64 0) := HR4.out.cell 3
  have s3 : w4.cell? ⟨w.heap.size + 1, 3, none⟩ = some (.int .i64 0) := HT4'.out.cell 3
  have f3 := HR4.out.frozen 3
  have r4 : w4.cell? ⟨w.heap.size, 4, none⟩ = some (.int .i64 0) := HR4.out.cell 4
  have s4 : w4.cell? ⟨w.heap.size + 1, 4, none⟩ = some (.int .i64 0) := HT4'.out.cell 4
  have f4 := HR4.out.frozen 4
  obtain ⟨hI6, hR6, ht6⟩ := five_store HI4.out HR4.out (.int .i64 0) (.int .i64 0) (.int .i64 0) (.int .i64 0) (.int .i64 0)
  have hX6 := HI4.out.blk ht6 HX4.out (by decide) (by decide) (by decide) (by decide) (by decide) (fun e => HX4.out.ne_ HR4.out (by decide) e)
  have hT6 := (HT4.out.mono (E' := fun k => OwnR x X k ∨ w.heap.size ≤ k) (fun k h => .inl h)).trans (ht6.mono (E' := fun k => OwnR x X k ∨ w.heap.size ≤ k) (fun k h => .inr (by have h' : k = w.heap.size := h; omega)))
  unfold five at hI6 hR6 hX6 hT6
  have HI6 := Lib.hid hI6
  have HR6 := Lib.hid hR6
  have HX6 := Lib.hid hX6
  have HT6 := Lib.hid hT6
  have HDS2 := HDS
  clear hI4 hX4 ht4 hrx hrt hI6 hR6 ht6 hX6 hT6 HI4 HX4 HT4 HR4 HT4' HM HM2 HI3 HB3' HT3 HCL
  go_wp2_with fail
  generalize (((((w4.setCell ⟨w.heap.size, 0, none⟩ (.int .i64 0)).setCell ⟨w.heap.size, 1, none⟩ (.int .i64 0)).setCell ⟨w.heap.size, 2, none⟩ (.int .i64 0)).setCell ⟨w.heap.size, 3, none⟩ (.int .i64 0)).setCell ⟨w.heap.size, 4, none⟩ (.int .i64 0)) = w6 at *
  have t0 : w6.cell? ⟨w.heap.size, 0, none⟩ = some (.int .i64 0) := HR6.out.cell 0
  have t1 : w6.cell? ⟨w.heap.size, 1, none⟩ = some (.int .i64 0) := HR6.out.cell 1
  have t2 : w6.cell? ⟨w.heap.size, 2, none⟩ = some (.int .i64 0) := HR6.out.cell 2
  have t3 : w6.cell? ⟨w.heap.size, 3, none⟩ = some (.int .i64 0) := HR6.out.cell 3
  have t4 : w6.cell? ⟨w.heap.size, 4, none⟩ = some (.int .i64 0) := HR6.out.cell 4
  refine bodyPost_ret (v := .tuple #[.agg #[.int .i64 0, .int .i64 0, .int .i64 0, .int .i64 0, .int .i64 0], .bool false, .int .i64 er]) (by simp [results, Try.results17, go_sem, t0, t1, t2, t3, t4]; try rfl) rfl ?_
  refine ⟨rfl, ?_, HX6.out, HT6.out⟩
  have := HI6.out
  rw [show ({ W with D := D1 } : Wk).D.size = W.D.size from HDS2.out] at this
  exact this
end

end Go.Proofs.Ytmmkncocgjgapaa.Fl
