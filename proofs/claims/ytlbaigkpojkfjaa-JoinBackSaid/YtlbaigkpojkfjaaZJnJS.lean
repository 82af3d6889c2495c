/- A law of chapter 13's work in the midst of its way. -/
import Derived.Test.YtlbaigkpojkfjaaZJnList
import Derived.Test.YtlbaigkpojkfjaaZJnLookC
import Derived.Test.YtlbaigkpojkfjaaZJnKeep2
import Derived.Test.YtlbaigkpojkfjaaZJnCutC
set_option linter.unusedVariables false
namespace Go.Proofs.Ytlbaigkpojkfjaa.Fl
open Go.RowKit

/-- A law's work in the midst of its way. -/
structure JS (w1 w : World) (K : Key) (O : Nat → Prop) (W : Wk) : Prop where
  wk : WkI w O K W
  out : ∀ g, w.heap.size ≤ g → O g
  bel : Below w1.heap.size w1 w
section
variable {w w' w1 : World} {O O' : Nat → Prop} {K : Key} {W W' : Wk}
theorem setfault_w (n : Int) (hI : WkI w O K W) (hn : n ≤ 1000000) : Calls Try.prog 25 #[P K.d, .int .i64 n] w fun e w' => e = .returned (.tuple #[]) ∧ WkI w' O K { W with D := W.D.setFault n } ∧ Turn K (fun _ => False) w w' := by
  obtain ⟨pv, hd⟩ := hI.dev
  refine (Dev.setfault_any n hd.box).mono ?_
  rintro e w' ⟨rfl, hb, hc⟩
  have hN : Dev.Nums (W.D.setFault n) := ⟨hd.nums.fuse, by unfold Dev.NumOk Dev.Dv.setFault; simp only; omega, hd.nums.acts, ⟨hd.nums.fit.1, hd.nums.fit.2, hd.nums.fit.3, hd.nums.fit.4, hd.nums.fit.5, hd.nums.fit.6⟩⟩
  have hd' := hd.of_box hc hb rfl rfl rfl hN
  obtain ⟨q1, q2⟩ := dev_turn hI hd hd' (hc.mono (fun _ _ h => .inl h))
  exact ⟨rfl, q1, q2⟩
theorem JS.turn (h : JS w1 w K O W) (hK : K.base = w1.heap.size) (ht : Turn K (fun _ => False) w w') (hI : WkI w' O' K W') (ho : ∀ g, w'.heap.size ≤ g → O' g) : JS w1 w' K O' W' :=
  ⟨hI, ho, Turn.belowB h.wk hK (fun _ h => h.elim) h.bel ht⟩
theorem JS.below (h : JS w1 w K O W) (hb : Below w.heap.size w w') : JS w1 w' K O W := ⟨h.wk.below hb, fun g hg => h.out g (by have := hb.size; omega), h.bel.trans (hb.mono h.bel.size)⟩
theorem JS.alloc (h : JS w1 w K O W) (o : Obj) : JS w1 (w.alloc o) K O W := h.below ((Below.refl _ _).alloc (Nat.le_refl _) o)
theorem JS.file (h : JS w1 w K O W) (ht : Turn K (fun _ => False) w w') {g : Nat} {cs : Array Value} (hb : Blk w g 29 cs) : Blk w' g 29 cs := h.wk.blk ht hb (by decide) (by decide) (by decide) (by decide) (by decide) (fun h => h)
/-- A file's four cells are stored anew. -/
theorem JS.four (h : JS w1 w K O W) {g : Nat} {a' b' c' d' : Value} (hb : Blk w g 29 #[a', b', c', d']) (hg : w1.heap.size ≤ g) (a b c d : Value) :
    JS w1 (four w g a b c d) K O W ∧ Blk (four w g a b c d) g 29 #[a, b, c, d] ∧ ∀ g' t cs, g' ≠ g → Blk w g' t cs → Blk (four w g a b c d) g' t cs := by
  obtain ⟨h1, h2, h3⟩ := four_store h.wk hb a b c d
  refine ⟨⟨h1, fun q hq => h.out q (by have := h3.size; omega), ?_⟩, h2, fun g' t cs hne hb' => ?_⟩
  · unfold Fl.four
    exact (((h.bel.setCell (p := ⟨g, 0, none⟩) hg a).setCell (p := ⟨g, 1, none⟩) hg b).setCell (p := ⟨g, 2, none⟩) hg c).setCell (p := ⟨g, 3, none⟩) hg d
  · unfold Fl.four
    exact (((hb'.far (p := ⟨g, 0, none⟩) hne a).far (p := ⟨g, 1, none⟩) hne b).far (p := ⟨g, 2, none⟩) hne c).far (p := ⟨g, 3, none⟩) hne d
theorem Fine.fault_ {c a : Nat} (h : Fine W c a) (n : Int) : Fine { W with D := W.D.setFault n } c a := ⟨h.size, h.blocks, h.sure, h.used, h.room, h.B, h.free, h.acts⟩
theorem Held.fault_ {f wN : Nat} {l : List Tup} (h : Held W f wN l) (n : Int) : Held { W with D := W.D.setFault n } f wN l := ⟨h.fits, h.lies.stay rfl (fun _ _ => rfl), h.held, h.fit, h.wid, h.few⟩
theorem Fine.mono {c a c' a' : Nat} (h : Fine W c a) (hc : c ≤ c') (ha : a ≤ a') : Fine W c' a' := ⟨h.size, h.blocks, h.sure, h.used, h.room, h.B, fun b h1 h2 => h.free b (by omega) h2, Nat.le_trans h.acts ha⟩
end
/-- Behind the switch. -/
structure SwC (w1 wx : World) (K : Key) (W : Wk) (fp gp xp : Nat) (fcs gcs : Array Value) (c a : Nat) (O' : Nat → Prop) (W' : Wk) (x0 x2 x3 er : Int) (nx : Nat) : Prop where
  js : JS w1 wx K O' W'
  f : Blk wx fp 29 fcs
  g : Blk wx gp 29 gcs
  x : Blk wx xp 29 #[.int .i64 x0, .int .i64 (nx : Int), .int .i64 x2, .int .i64 x3]
  fine : Fine W' c a
  after : After W W' nx
  er : er = 0 ∨ ((er = 6 ∨ er = 3 ∨ er = 1) ∧ x0 = 0 ∧ nx = 0 ∧ x2 = 0 ∧ x3 = 0)
theorem sw_of_each {w1 w5 w6 : World} {K : Key} {O : Nat → Prop} {W : Wk} {fp gp xp c a wM : Nat} {fcs gcs : Array Value} {out : List Tup} {Why : Int → Prop} {e : Ending} (hK : K.base = w1.heap.size) (h : JS w1 w5 K O W) (hf : Blk w5 fp 29 fcs) (hg : Blk w5 gp 29 gcs) (hx : Blk w5 xp 29 #[.int .i64 0, .int .i64 0, .int .i64 0, .int .i64 0]) (hfx : fp ≠ xp) (hgx : gp ≠ xp) (hxp : w1.heap.size ≤ xp) (hF : Fine W c a) (hW : ∀ er, Why er → er = 3) (hE : EachF w5 O K W c a wM out JE0 0 Why e w6) :
    ∃ (x0 x2 x3 er : Int) (nx : Nat) (W' : Wk) (O' : Nat → Prop), e = .returned (.tuple #[.agg #[.int .i64 x0, .int .i64 (nx : Int), .int .i64 x2, .int .i64 x3], .int .i64 er]) ∧ Blk w6 xp 29 #[.int .i64 0, .int .i64 0, .int .i64 0, .int .i64 0] ∧ SwC w1 (four w6 xp (.int .i64 x0) (.int .i64 (nx : Int)) (.int .i64 x2) (.int .i64 x3)) K W fp gp xp fcs gcs (c + 200) (a + 2000000) O' W' x0 x2 x3 er nx := by
  obtain ⟨W', O', ho, hI, ht, hh⟩ := hE
  have h6 := h.turn hK ht hI ho.1
  have hf6 := h.file ht hf
  have hg6 := h.file ht hg
  have hx6 := h.file ht hx
  rcases hh with ⟨first, rfl, hfi, hhe, haf⟩ | ⟨er, her, hwhy, rfl, hfi, haf⟩
  · obtain ⟨k1, k2, k3⟩ := h6.four hx6 hxp (.int .i64 (first : Int)) (.int .i64 (nB 12 wM out.length : Int)) (.int .i64 (wM : Int)) (.int .i64 (out.length : Int))
    exact ⟨_, _, _, 0, _, W', O', rfl, hx6, k1, k3 _ _ _ hfx hf6, k3 _ _ _ hgx hg6, k2, hfi, haf, .inl rfl⟩
  · obtain ⟨k1, k2, k3⟩ := h6.four hx6 hxp (.int .i64 0) (.int .i64 0) (.int .i64 0) (.int .i64 0)
    refine ⟨0, 0, 0, er, 0, W', O', rfl, hx6, k1, k3 _ _ _ hfx hf6, k3 _ _ _ hgx hg6, k2, hfi.mono (by omega) (Nat.le_refl _), haf, .inr ⟨?_, rfl, rfl, rfl, rfl⟩⟩
    rcases hwhy with ⟨h, _⟩ | h
    · exact .inl h
    · exact .inr (.inl (hW er h))
theorem sw_of_arg {w1 w5 w6 : World} {K : Key} {O : Nat → Prop} {W : Wk} {fp gp xp c a : Nat} {fcs gcs : Array Value} {e : Ending} (h : JS w1 w5 K O W) (hf : Blk w5 fp 29 fcs) (hg : Blk w5 gp 29 gcs) (hx : Blk w5 xp 29 #[.int .i64 0, .int .i64 0, .int .i64 0, .int .i64 0]) (hfx : fp ≠ xp) (hgx : gp ≠ xp) (hxp : w1.heap.size ≤ xp) (hF : Fine W c a) (hE : e = .returned (.tuple #[.agg noFile, .int .i64 1]) ∧ Below w5.heap.size w5 w6) :
    ∃ (x0 x2 x3 er : Int) (nx : Nat) (W' : Wk) (O' : Nat → Prop), e = .returned (.tuple #[.agg #[.int .i64 x0, .int .i64 (nx : Int), .int .i64 x2, .int .i64 x3], .int .i64 er]) ∧ Blk w6 xp 29 #[.int .i64 0, .int .i64 0, .int .i64 0, .int .i64 0] ∧ SwC w1 (four w6 xp (.int .i64 x0) (.int .i64 (nx : Int)) (.int .i64 x2) (.int .i64 x3)) K W fp gp xp fcs gcs (c + 200) (a + 2000000) O' W' x0 x2 x3 er nx := by
  obtain ⟨rfl, hb⟩ := hE
  have h6 := h.below hb
  have hx6 := hx.below hb hx.lt
  obtain ⟨k1, k2, k3⟩ := h6.four hx6 hxp (.int .i64 0) (.int .i64 0) (.int .i64 0) (.int .i64 0)
  exact ⟨0, 0, 0, 1, 0, W, O, rfl, hx6, k1, k3 _ _ _ hfx (hf.below hb hf.lt), k3 _ _ _ hgx (hg.below hb hg.lt), k2, hF.mono (by omega) (by omega), After.refl W, .inr ⟨.inr (.inr rfl), rfl, rfl, rfl, rfl⟩⟩


end Go.Proofs.Ytlbaigkpojkfjaa.Fl
