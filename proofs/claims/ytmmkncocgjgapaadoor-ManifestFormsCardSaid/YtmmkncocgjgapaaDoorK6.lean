/- Texts of mine, packed: MfDev, Reg5, MfTri, MfRead, MfPack. -/
import Derived.Test.YtmmkncocgjgapaaDoorK2
import Derived.Test.YtmmkncocgjgapaaDoorK4
import Derived.Test.YtmmkncocgjgapaaDoorK5
import Derived.Laws.ResultCell
set_option linter.unusedVariables false

/- A device without fuse and fault; what lies in a slot's blocks. -/
namespace Go.Proofs.YtmmkncocgjgapaaDoor.Mf
open Go.RowKit Dev

structure Calm (D : Dv) : Prop where
  down : D.down = false
  fuse : D.fuse = -1
  fault : D.fault = -1
def plus (D : Dv) (n : Nat) : Dv := { D with acts := D.acts + n }
theorem Calm.plus {D : Dv} (h : Calm D) (n : Nat) : Calm (plus D n) := ⟨h.1, h.2, h.3⟩
theorem plus_plus (D : Dv) (m n : Nat) : plus (plus D m) n = plus D (m + n) := by unfold plus; simp [Nat.add_assoc]
theorem plus_zero (D : Dv) : plus D 0 = D := rfl
theorem Calm.act {D : Dv} (h : Calm D) : D.act = (0, Mf.plus D 1) := by
  obtain ⟨sz, bl, la, no, pe, fu, fa, dn, ac⟩ := D
  obtain ⟨h1, h2, h3⟩ := h
  simp only at h1 h2 h3
  subst h1 h2 h3
  rfl
theorem Calm.rd {D : Dv} (h : Calm D) {i : Int} (h0 : 0 ≤ i) (hi : i < D.blocks) : D.rd i = (0, Mf.plus D 1) := by
  have hb : D.bars i D.size = 0 := by
    unfold Dv.bars
    rw [h.down]
    simp
    omega
  unfold Dv.rd
  rw [if_pos hb, h.act]
/-- A block: zeros, or sealed. -/
abbrev BlkC := Option (List (BitVec 64) × BitVec 64)
def blkW (size i : Nat) : BlkC → List Value
  | none => Crc.words (List.replicate size 0#64)
  | some (p, tag) => Crc.words (Crc.sealW p size tag (BitVec.ofNat 64 i))
def payC : BlkC → List (BitVec 64)
  | none => []
  | some q => q.1
def tagC : BlkC → List (BitVec 64)
  | none => []
  | some q => [q.2]
def lenC : BlkC → List Int
  | none => []
  | some q => [(q.1.length : Int)]
def allOf (l : List BlkC) : List (BitVec 64) := l.flatMap payC
def tagsOf (l : List BlkC) : List (BitVec 64) := l.flatMap tagC
def lensOf (l : List BlkC) : List Int := l.flatMap lenC
theorem allOf_add (l : List BlkC) (c : BlkC) : allOf (l ++ [c]) = allOf l ++ payC c := by simp [allOf]
theorem tagsOf_add (l : List BlkC) (c : BlkC) : tagsOf (l ++ [c]) = tagsOf l ++ tagC c := by simp [tagsOf]
theorem lensOf_add (l : List BlkC) (c : BlkC) : lensOf (l ++ [c]) = lensOf l ++ lenC c := by simp [lensOf]
theorem tags_len (Cs : List BlkC) : (tagsOf Cs).length ≤ Cs.length := by
  induction Cs with
  | nil => simp [tagsOf]
  | cons c l ih =>
    unfold tagsOf at ih ⊢
    rw [List.flatMap_cons, List.length_append, List.length_cons]
    have : (tagC c).length ≤ 1 := by (cases c <;> simp [tagC])
    omega
theorem lens_len (Cs : List BlkC) : (lensOf Cs).length ≤ Cs.length := by
  induction Cs with
  | nil => simp [lensOf]
  | cons c l ih =>
    unfold lensOf at ih ⊢
    rw [List.flatMap_cons, List.length_append, List.length_cons]
    have : (lenC c).length ≤ 1 := by (cases c <;> simp [lenC])
    omega
theorem all_len {Cs : List BlkC} {size : Nat} (h256 : size ≤ 256) (hp : ∀ p t, some (p, t) ∈ Cs → p.length + 2 ≤ size) : (allOf Cs).length ≤ Cs.length * 256 := by
  induction Cs with
  | nil => simp [allOf]
  | cons c l ih =>
    have hi := ih (fun p t h => hp p t (List.mem_cons_of_mem _ h))
    unfold allOf at hi ⊢
    rw [List.flatMap_cons, List.length_append, List.length_cons]
    have : (payC c).length ≤ 256 := by
      cases c with
      | none => simp [payC]
      | some q => have := hp q.1 q.2 (by simp); show q.1.length ≤ 256; omega
    omega
/-- What seal.Get says of a block. -/
theorem get_blk (c : BlkC) (size i : Nat) (a : Option Addr) (cp : Nat) (w : World) (hr : Row w a (blkW size i c)) (h8 : 8 ≤ size) (h256 : size ≤ 256) (hi : i < 9223372036854775808) (hc : size ≤ cp) (hc2 : cp ≤ maxLen) (hp : ∀ p t, c = some (p, t) → p.length + 2 ≤ size) :
    Calls Tryd.prog 47 #[.slice a size cp, .int .i64 (i : Int)] w fun e w' =>
      (∃ (p : List (BitVec 64)) (t : BitVec 64) (b : Option Addr) (pc : Nat), c = some (p, t) ∧ e = .returned (.tuple #[.slice b p.length pc, .int .u64 (Crc.I64 t), .int .i64 0]) ∧ Row w' b (Crc.words p) ∧ Below w.heap.size w w') ∨
      (c = none ∧ e = .returned (.tuple #[.slice none 0 0, .int .u64 0, .int .i64 6]) ∧ Below w.heap.size w w') := by
  cases c with
  | none =>
    obtain ⟨m, rfl⟩ : ∃ m, size = m + 1 := ⟨size - 1, by omega⟩
    have hno := Crc.zeros_none m (by omega) (BitVec.ofNat 64 i)
    rw [List.replicate_succ'] at hno
    refine (Crc.get_fault (List.replicate m 0#64) 0#64 (m + 1) i a cp w (by rw [← List.replicate_succ']; exact hr) (by simp) h8 h256 hi hc hc2 hno).mono ?_
    rintro e w' ⟨rfl, d, rfl⟩
    exact .inr ⟨rfl, rfl, ⟨rfl, rfl, rfl, Nat.le_refl _, fun _ _ => rfl⟩⟩
  | some q =>
    obtain ⟨p, t⟩ := q
    refine (Crc.get_yes p size i t a cp w hr h8 h256 (hp p t rfl) hi hc hc2).mono ?_
    rintro e w' ⟨b, pc, rfl, hrow, hb⟩
    exact .inl ⟨p, t, b, pc, rfl, rfl, hrow, hb⟩

end Go.Proofs.YtmmkncocgjgapaaDoor.Mf

/- A drawn region in which some operations that write may come up in one order or another: reads first, then the ways, then the end. -/
namespace Go.Proofs.YtmmkncocgjgapaaDoor
open Go.RowKit
section
variable {P : Program} {ops : Array Oper} {Q : Exit → Act → World → Prop} {F : World → Prop} {late : Nat → Bool}

def AltG (P : Program) (ops : Array Oper) (Q : Exit → Act → World → Prop) (F : World → Prop) (late : Nat → Bool) (f : Nat) (listed : Array Bool) (a : Act) (w : World) (i : Nat) : Prop :=
  ∃ o, ops[i]? = some o ∧ ∀ K : Act → World → Prop, Shut (∀ a w', (late i = false → F w') → AnyS P .any ops Q F late f (listed.setIfInBounds i true) a w' → K a w') →
      if Region.wanted o (yielded ops a.tmps) = true then Oper.wp P o a w K Q else K (a.put o.dst undef) w
theorem as_begin {id : Nat} {a : Act} {w : World} (F : World → Prop) (late : Nat → Bool) (n : Nat) (hn : ops.size = n) (hm : P.follows .mixedOrders = true) (hF : F w.drew)
    (h : Yg (AnyS P .any ops Q F late n (Array.replicate n false) a w.drew)) : (Code.region id ops true).wp P Q a w := by
  subst hn
  exact regS_begin F late hm hF (fun _ => h.out)
theorem as_read {i f : Nat} {listed : Array Bool} {a : Act} {w : World} (oi : Oper) (v : Value) (hF : F w) (hQ : ∀ c a d v w, Q (.panic c) (Act.put a d v) w → Q (.panic c) a w) (hi : ops[i]? = some oi) (ht : takeB .any ops late listed i = true) (hw : Region.wanted oi (yielded ops a.tmps) = true) (hv : ∀ w, F w → (execOp a.eval oi).run P w = .ok (.value v) w)
    (h : Yg (AnyS P .any ops Q F late f (listed.setIfInBounds i true) (a.put oi.dst v) w)) : Yg (AnyS P .any ops Q F late (f + 1) listed a w) :=
  ⟨anyS_take hi ht (fun c a w h => hQ c a _ _ w h) (.inl ⟨hw, hv⟩) hF h.out⟩
theorem as_alt {f : Nat} {listed : Array Bool} {a : Act} {w : World} (rs : List Nat) (hr : Region.ready .any ops listed = rs) (hne : rs.isEmpty = false) (h : ∀ i ∈ rs, AltG P ops Q F late f listed a w i) : Yg (AnyS P .any ops Q F late (f + 1) listed a w) := by
  refine ⟨⟨fun h0 => ?_, fun i hi => ?_⟩⟩
  · rw [hr] at h0
    rw [h0] at hne
    cases hne
  · rw [hr] at hi
    obtain ⟨o, ho, hk⟩ := h i hi
    exact wpOp_step ho (fun K' hK => hk K' (fun a w h1 h2 => hK a w ⟨h1, h2⟩))
theorem altG_mk {f i : Nat} {listed : Array Bool} {a : Act} {w : World} (o : Oper) (ho : ops[i]? = some o) (hw : Region.wanted o (yielded ops a.tmps) = true)
    (h : ∀ K : Act → World → Prop, Yg (∀ a w', (late i = false → F w') → Yg (AnyS P .any ops Q F late f (listed.setIfInBounds i true) a w') → K a w') → Oper.wp P o a w K Q) : AltG P ops Q F late f listed a w i :=
  ⟨o, ho, fun K hK => by rw [if_pos hw]; exact h K ⟨fun a w' h1 h2 => hK a w' h1 h2.out⟩⟩
theorem all1 {p : Nat → Prop} {i : Nat} (h : p i) : ∀ x ∈ [i], p x := by simpa using h
theorem all2 {p : Nat → Prop} {i j : Nat} (h : p i) (h2 : p j) : ∀ x ∈ [i, j], p x := by intro x hx; simp at hx; rcases hx with rfl | rfl <;> assumption
theorem all3 {p : Nat → Prop} {i j k : Nat} (h : p i) (h2 : p j) (h3 : p k) : ∀ x ∈ [i, j, k], p x := by intro x hx; simp at hx; rcases hx with rfl | rfl | rfl <;> assumption
theorem as_end {f : Nat} {listed : Array Bool} {a : Act} {w : World} (hr : Region.ready .any ops listed = []) (h : Q .normal a w) : Yg (AnyS P .any ops Q F late f listed a w) := ⟨anyS_done hr h⟩
end
end Go.Proofs.YtmmkncocgjgapaaDoor

/- Three rows of one's own, held in a struct. -/
namespace Go.Proofs.YtmmkncocgjgapaaDoor.Mf
open Go.RowKit Dev

theorem el_int : Elem Tryd.prog 68 3 1 8 := elem_of (z := .int .i64 0) Tryd.underlying68 (by kernel_rfl) rfl (by decide)
structure Tri (B s : Nat) (w0 : World) (v1 v2 v3 x1 x2 x3 : Value) (k1 k2 k3 : List Value) (w : World) : Prop where
  blk : Blk w s 70 #[v1, v2, v3]
  o1 : w.ownsRow B 35 1 x1 k1.length k1
  o2 : w.ownsRow B 35 1 x2 k2.length k2
  o3 : w.ownsRow B 3 1 x3 k3.length k3
  ne12 : ∀ g, x1.ownBlock = some g → x2.ownBlock = some g → False
  ne13 : ∀ g, x1.ownBlock = some g → x3.ownBlock = some g → False
  ne23 : ∀ g, x2.ownBlock = some g → x3.ownBlock = some g → False
  base : Below B w0 w
  hs : s < B
  hB : B ≤ w0.heap.size
section
variable {B s : Nat} {w0 w w' : World} {v1 v2 v3 x1 x2 x3 : Value} {k1 k2 k3 : List Value}
theorem Tri.size (h : Tri B s w0 v1 v2 v3 x1 x2 x3 k1 k2 k3 w) : B ≤ w.heap.size := Nat.le_trans h.hB h.base.size
/-- Cells of the struct. -/
def TriF (s : Nat) (v1 v2 v3 : Value) (w : World) : Prop := w.cell? ⟨s, 0, none⟩ = some v1 ∧ w.cell? ⟨s, 1, none⟩ = some v2 ∧ w.cell? ⟨s, 2, none⟩ = some v3
theorem Tri.f (h : Tri B s w0 v1 v2 v3 x1 x2 x3 k1 k2 k3 w) : TriF s v1 v2 v3 w := ⟨h.blk.cell 0, h.blk.cell 1, h.blk.cell 2⟩
theorem Tri.step (h : Tri B s w0 v1 v2 v3 x1 x2 x3 k1 k2 k3 w) (hb : Below w.heap.size w w') : Tri B s w0 v1 v2 v3 x1 x2 x3 k1 k2 k3 w' :=
  ⟨h.blk.below hb h.blk.lt, own_chg h.o1 (Chg.of_below' (S := fun _ => False) hb) (fun _ _ h => h), own_chg h.o2 (Chg.of_below' (S := fun _ => False) hb) (fun _ _ h => h), own_chg h.o3 (Chg.of_below' (S := fun _ => False) hb) (fun _ _ h => h), h.ne12, h.ne13, h.ne23, h.base.trans (hb.mono h.size), h.hs, h.hB⟩
theorem Tri.alloc (h : Tri B s w0 v1 v2 v3 x1 x2 x3 k1 k2 k3 w) (o : Obj) : Tri B s w0 v1 v2 v3 x1 x2 x3 k1 k2 k3 (w.alloc o) := h.step ((Below.refl _ _).alloc (Nat.le_refl _) o)
theorem Tri.app1 {x : Value} {news : List Value} {m : Nat} (h : Tri B s w0 v1 v2 v3 x1 x2 x3 k1 k2 k3 w) (a1 : w'.ownsRow B 35 1 x (k1.length + m) (k1 ++ news)) (a2 : w.grownBy w' x1.ownBlock) (a3 : x.ownBlock = x1.ownBlock ∨ x.ownBlock = some w.heap.size) (a4 : Below B w w') (hm : news.length = m) : Tri B s w0 v1 v2 v3 x x2 x3 (k1 ++ news) k2 k3 w' := by
  subst hm
  refine ⟨h.blk.below a4 h.hs, by rw [List.length_append]; exact a1, own_chg h.o2 (Chg.of_grown a2) (fun g hg e => h.ne12 g e.symm hg), own_chg h.o3 (Chg.of_grown a2) (fun g hg e => h.ne13 g e.symm hg), fun g h1 h2 => ?_, fun g h1 h2 => ?_, h.ne23, h.base.trans a4, h.hs, h.hB⟩
  · rcases a3 with e | e
    · exact h.ne12 g (e ▸ h1) h2
    · rw [e] at h1; injection h1 with h1; have := (h.o2.lt g h2).2; omega
  · rcases a3 with e | e
    · exact h.ne13 g (e ▸ h1) h2
    · rw [e] at h1; injection h1 with h1; have := (h.o3.lt g h2).2; omega
theorem Tri.app2 {x : Value} {news : List Value} {m : Nat} (h : Tri B s w0 v1 v2 v3 x1 x2 x3 k1 k2 k3 w) (a1 : w'.ownsRow B 35 1 x (k2.length + m) (k2 ++ news)) (a2 : w.grownBy w' x2.ownBlock) (a3 : x.ownBlock = x2.ownBlock ∨ x.ownBlock = some w.heap.size) (a4 : Below B w w') (hm : news.length = m) : Tri B s w0 v1 v2 v3 x1 x x3 k1 (k2 ++ news) k3 w' := by
  subst hm
  refine ⟨h.blk.below a4 h.hs, own_chg h.o1 (Chg.of_grown a2) (fun g hg e => h.ne12 g hg e.symm), by rw [List.length_append]; exact a1, own_chg h.o3 (Chg.of_grown a2) (fun g hg e => h.ne23 g e.symm hg), fun g h1 h2 => ?_, h.ne13, fun g h1 h2 => ?_, h.base.trans a4, h.hs, h.hB⟩
  · rcases a3 with e | e
    · exact h.ne12 g h1 (e ▸ h2)
    · rw [e] at h2; injection h2 with h2; have := (h.o1.lt g h1).2; omega
  · rcases a3 with e | e
    · exact h.ne23 g (e ▸ h1) h2
    · rw [e] at h1; injection h1 with h1; have := (h.o3.lt g h2).2; omega
theorem Tri.app3 {x : Value} {news : List Value} {m : Nat} (h : Tri B s w0 v1 v2 v3 x1 x2 x3 k1 k2 k3 w) (a1 : w'.ownsRow B 3 1 x (k3.length + m) (k3 ++ news)) (a2 : w.grownBy w' x3.ownBlock) (a3 : x.ownBlock = x3.ownBlock ∨ x.ownBlock = some w.heap.size) (a4 : Below B w w') (hm : news.length = m) : Tri B s w0 v1 v2 v3 x1 x2 x k1 k2 (k3 ++ news) w' := by
  subst hm
  refine ⟨h.blk.below a4 h.hs, own_chg h.o1 (Chg.of_grown a2) (fun g hg e => h.ne13 g hg e.symm), own_chg h.o2 (Chg.of_grown a2) (fun g hg e => h.ne23 g hg e.symm), by rw [List.length_append]; exact a1, h.ne12, fun g h1 h2 => ?_, fun g h1 h2 => ?_, h.base.trans a4, h.hs, h.hB⟩
  · rcases a3 with e | e
    · exact h.ne13 g h1 (e ▸ h2)
    · rw [e] at h2; injection h2 with h2; have := (h.o1.lt g h1).2; omega
  · rcases a3 with e | e
    · exact h.ne23 g h1 (e ▸ h2)
    · rw [e] at h2; injection h2 with h2; have := (h.o2.lt g h1).2; omega
/-- The three stores: the struct holds the rows as they are now. -/
theorem Tri.stored (h : Tri B s w0 v1 v2 v3 x1 x2 x3 k1 k2 k3 w) : Tri B s (((w.setCell ⟨s, 0, none⟩ x1).setCell ⟨s, 1, none⟩ x2).setCell ⟨s, 2, none⟩ x3) x1 x2 x3 x1 x2 x3 k1 k2 k3 (((w.setCell ⟨s, 0, none⟩ x1).setCell ⟨s, 1, none⟩ x2).setCell ⟨s, 2, none⟩ x3) ∧ Below s w (((w.setCell ⟨s, 0, none⟩ x1).setCell ⟨s, 1, none⟩ x2).setCell ⟨s, 2, none⟩ x3) := by
  have hc : Chg (fun k => k = s) w (((w.setCell ⟨s, 0, none⟩ x1).setCell ⟨s, 1, none⟩ x2).setCell ⟨s, 2, none⟩ x3) := by
    have hc1 : Chg (fun k => k = s) w (w.setCell ⟨s, 0, none⟩ x1) := Chg.setCell (Chg.refl (fun k => k = s) w) ⟨s, 0, none⟩ x1 (fun _ => rfl)
    have hc2 : Chg (fun k => k = s) w ((w.setCell ⟨s, 0, none⟩ x1).setCell ⟨s, 1, none⟩ x2) := Chg.setCell hc1 ⟨s, 1, none⟩ x2 (fun _ => rfl)
    exact Chg.setCell hc2 ⟨s, 2, none⟩ x3 (fun _ => rfl)
  have hs := h.hs
  refine ⟨⟨((h.blk.set_ 0 x1).set_ 1 x2).set_ 2 x3, own_chg h.o1 hc (fun g hg e => by have := (h.o1.lt g hg).1; omega), own_chg h.o2 hc (fun g hg e => by have := (h.o2.lt g hg).1; omega), own_chg h.o3 hc (fun g hg e => by have := (h.o3.lt g hg).1; omega), h.ne12, h.ne13, h.ne23, Below.refl _ _, h.hs, Nat.le_trans h.size hc.size⟩, hc.below_of (by have := h.size; omega) (fun k hk e => by omega)⟩
/-- A row of one cell, made just now: apart from the three. -/
structure Fr (w : World) (b : Nat) (v x1 x2 x3 : Value) : Prop where
  row : Row w (some ⟨b, 0, none⟩) [v]
  lt : b < w.heap.size
  n1 : ∀ g, x1.ownBlock = some g → g ≠ b
  n2 : ∀ g, x2.ownBlock = some g → g ≠ b
  n3 : ∀ g, x3.ownBlock = some g → g ≠ b
theorem Fr.new (h : Tri B s w0 v1 v2 v3 x1 x2 x3 k1 k2 k3 w) (v : Value) (t : TypeId) : Fr (w.alloc (.cells #[v] t)) w.heap.size v x1 x2 x3 :=
  ⟨Row.new w #[v] t (0, 0), by simp, fun g hg e => by have := (h.o1.lt g hg).2; omega, fun g hg e => by have := (h.o2.lt g hg).2; omega, fun g hg e => by have := (h.o3.lt g hg).2; omega⟩
theorem Fr.alloc {b : Nat} {v : Value} (h : Fr w b v x1 x2 x3) (o : Obj) : Fr (w.alloc o) b v x1 x2 x3 :=
  ⟨h.row.below ((Below.refl _ _).alloc (Nat.le_refl _) _), by have := h.lt; simp; omega, h.n1, h.n2, h.n3⟩
theorem Fr.app1 {b : Nat} {v x : Value} (h : Fr w b v x1 x2 x3) (a2 : w.grownBy w' x1.ownBlock) (a3 : x.ownBlock = x1.ownBlock ∨ x.ownBlock = some w.heap.size) : Fr w' b v x x2 x3 := by
  refine ⟨h.row.grown a2 (fun y hy e => ?_), Nat.lt_of_lt_of_le h.lt a2.size, fun g hg => ?_, h.n2, h.n3⟩
  · injection hy with hy; subst hy; exact h.n1 _ e.symm rfl
  · rcases a3 with e | e
    · exact h.n1 g (e ▸ hg)
    · rw [e] at hg; injection hg with hg; have := h.lt; omega
theorem Fr.app2 {b : Nat} {v x : Value} (h : Fr w b v x1 x2 x3) (a2 : w.grownBy w' x2.ownBlock) (a3 : x.ownBlock = x2.ownBlock ∨ x.ownBlock = some w.heap.size) : Fr w' b v x1 x x3 := by
  refine ⟨h.row.grown a2 (fun y hy e => ?_), Nat.lt_of_lt_of_le h.lt a2.size, h.n1, fun g hg => ?_, h.n3⟩
  · injection hy with hy; subst hy; exact h.n2 _ e.symm rfl
  · rcases a3 with e | e
    · exact h.n2 g (e ▸ hg)
    · rw [e] at hg; injection hg with hg; have := h.lt; omega
end

end Go.Proofs.YtmmkncocgjgapaaDoor.Mf

/- The walk of manifest.read (printed by genmfread.py out of mfread.head). -/
namespace Go.Proofs.YtmmkncocgjgapaaDoor.Mf
open Go.RowKit Dev

section
variable {B s : Nat} {w0 w w' : World} {v1 v2 v3 x1 x2 x3 : Value} {k1 k2 k3 : List Value} {O : Nat → Prop} {a rl rn : Nat} {pv : Value} {D : Dv}
theorem Tri.self (h : Tri B s w0 v1 v2 v3 x1 x2 x3 k1 k2 k3 w) : Tri B s w v1 v2 v3 x1 x2 x3 k1 k2 k3 w := ⟨h.blk, h.o1, h.o2, h.o3, h.ne12, h.ne13, h.ne23, Below.refl _ _, h.hs, h.size⟩
theorem Tri.chg {S : Nat → Prop} (h : Tri B s w0 v1 v2 v3 x1 x2 x3 k1 k2 k3 w) (hc : Chg S w w') (hS : ¬ S s) (hS2 : ∀ g, B ≤ g → ¬ S g) : Tri B s w' v1 v2 v3 x1 x2 x3 k1 k2 k3 w' :=
  ⟨h.blk.chg hc hS, own_chg h.o1 hc (fun g hg => hS2 g (h.o1.lt g hg).1), own_chg h.o2 hc (fun g hg => hS2 g (h.o2.lt g hg).1), own_chg h.o3 hc (fun g hg => hS2 g (h.o3.lt g hg).1), h.ne12, h.ne13, h.ne23, Below.refl _ _, h.hs, Nat.le_trans h.size hc.size⟩
theorem at_keep (h : At w O a rl rn pv D) (hO : ∀ g, O g → g < B) (ha : a < B) (hl : rl < B) (hn : rn < B) (hb : Below B w w') : At w' O a rl rn pv D :=
  h.chg (Chg.of_below hb) (by omega) (by omega) (by omega) (fun g hg => by have := hO g (h.pout g hg); omega) (fun g cs hg _ => by have := hO g hg; omega)
end
theorem fl_one (p : List (BitVec 64)) : ∀ u ∈ Crc.words p, u.oneCell' = true := by
  intro u hu
  unfold Crc.words at hu
  obtain ⟨x, _, rfl⟩ := List.mem_map.1 hu
  rfl
theorem own_form3 {w : World} {base : Nat} {e : TypeId} {size : Nat} {v : Value} {n : Nat} {xs : List Value} (h : w.ownsRow base e size v n xs) : ∃ a m c, v = .slice a m c := by
  obtain ⟨a, c, h⟩ := own_form h
  exact ⟨a, _, c, h⟩
def ReadTold (w : World) (O : Nat → Prop) (a rl rn : Nat) (pv : Value) (D : Dv) (Cs : List BlkC) (e : Ending) (w' : World) : Prop :=
  ∃ x1 x2 x3, e = .returned (.tuple #[.agg #[x1, x2, x3], .int .i64 0]) ∧ w'.ownsRow w.heap.size 35 1 x1 (allOf Cs).length (Crc.words (allOf Cs)) ∧ w'.ownsRow w.heap.size 35 1 x2 (tagsOf Cs).length (Crc.words (tagsOf Cs)) ∧
    w'.ownsRow w.heap.size 3 1 x3 (lensOf Cs).length ((lensOf Cs).map (.int .i64)) ∧ At w' O a rl rn pv (plus D Cs.length) ∧ Chg (fun k => k = a) w w'
def ReadLoop (w : World) (a rl rn : Nat) (pv : Value) (O : Nat → Prop) (D : Dv) (Cs : List BlkC) (iv : Value) (wr : World) : Prop :=
  ∃ (j : Nat) (x1 x2 x3 : Value), iv = .int .i64 (j : Int) ∧ j ≤ Cs.length ∧ Tri (w.heap.size + 2) (w.heap.size + 1) wr x1 x2 x3 x1 x2 x3 (Crc.words (allOf (Cs.take j))) (Crc.words (tagsOf (Cs.take j))) ((lensOf (Cs.take j)).map (.int .i64)) wr ∧
    Blk wr w.heap.size 70 #[.slice none 0 0, .slice none 0 0, .slice none 0 0] ∧ At wr O a rl rn pv (plus D j) ∧ Chg (fun k => k = a) w wr
theorem words_append (a b : List (BitVec 64)) : Crc.words (a ++ b) = Crc.words a ++ Crc.words b := by simp [Crc.words]

set_option maxRecDepth 100000 in
set_option maxHeartbeats 8000000 in
theorem read_any {w : World} {O : Nat → Prop} {a rl rn : Nat} {pv : Value} {D : Dv} (h : At w O a rl rn pv D) (hcalm : Calm D) (Cs : List BlkC) (first : Nat) (hin : first + Cs.length ≤ D.blocks) (hcs : ∀ j (hj : j < Cs.length), D.words ((first + j : Nat) : Int) = blkW D.size (first + j) Cs[j]) (hp : ∀ p t, some (p, t) ∈ Cs → p.length + 2 ≤ D.size)
    (hac : D.acts + Cs.length < 1099511627776) (hk : Cs.length ≤ 1000) :
    Calls Tryd.prog 33 #[.pointer (some ⟨a, 0, none⟩), .int .i64 (first : Int), .int .i64 (Cs.length : Int)] w (ReadTold w O a rl rn pv D Cs) := by
  obtain ⟨⟨s8, s256⟩, hbl, _⟩ := h.nums.fit
  have hal : a < w.heap.size := h.box.lt
  have hll : rl < w.heap.size := h.lasts.lt
  have hnl : rn < w.heap.size := h.now.lt
  obtain ⟨O', hO'⟩ : ∃ O' : Nat → Prop, O' = fun g => O g ∧ g < w.heap.size := ⟨_, rfl⟩
  have h' : At w O' a rl rn pv D := by rw [hO']; exact h.mono (fun g h1 h2 => ⟨h2, h1⟩)
  have HOUT := Lib.hid (show ∀ w' D', At w' O' a rl rn pv D' → At w' O a rl rn pv D' from fun w' D' h => h.mono (fun g _ h => by rw [hO'] at h; exact h.1))
  have HALT2 := Lib.hid (show ∀ g, O' g → g < w.heap.size + 1 from fun g h => by rw [hO'] at h; exact Nat.lt_succ_of_lt h.2)
  have HALT3 := Lib.hid (show ∀ g, O' g → g < w.heap.size from fun g h => by rw [hO'] at h; exact h.2)
  clear hO'
  have H := Lib.hid h'
  have HC := Lib.hid hcalm
  have HP := Lib.hid hp
  have HCS := Lib.hid hcs
  have HBL := Lib.hid hbl
  have HIN := Lib.hid hin
  have HAC := Lib.hid hac
  have HS8 := Lib.hid (And.intro s8 s256)
  clear h h' hcalm hp hcs hbl hac s8 s256
  go_enter Tryd.func33, Tryd.ntmps33
  go_wp2_with fail
  go_loopw [16] (fun iv wr => ReadLoop w a rl rn pv O' D Cs iv wr) (fun iv _ => Cs.length - (intOf iv).toNat)
  case atStart =>
    have hb1 : Below w.heap.size w ((w.alloc (.cells #[.slice none 0 0, .slice none 0 0, .slice none 0 0] 70)).alloc (.cells #[.slice none 0 0, .slice none 0 0, .slice none 0 0] 70)) := ((Below.refl _ _).alloc (Nat.le_refl _) _).alloc (by simp) _
    refine ⟨0, .slice none 0 0, .slice none 0 0, .slice none 0 0, rfl, Nat.zero_le _, ⟨?_, World.ownsRow_nil _ _ _ _, World.ownsRow_nil _ _ _ _, World.ownsRow_nil _ _ _ _, (fun g h => by cases h), (fun g h => by cases h), (fun g h => by cases h), Below.refl _ _, by omega, by simp⟩, (Blk.new w _ _).alloc _, H.out.below hb1, Chg.of_below' hb1⟩
    have := Blk.new (w.alloc (.cells #[.slice none 0 0, .slice none 0 0, .slice none 0 0] 70)) 70 #[.slice none 0 0, .slice none 0 0, .slice none 0 0]
    simpa using this
  case round =>
    clear H
    obtain ⟨j, x1, x2, x3, rfl, hj, hT, hRB, hA, hCh⟩ := hrel
    by_cases hlt : j < Cs.length
    · have hlt2 : (j : Int) < (Cs.length : Int) := by omega
      have i0 : (0 : Int) ≤ (j : Int) := by omega
      have hw1 : IntKind.i64.wrap ((first : Int) + (j : Int)) = ((first + j : Nat) : Int) := by have := HBL.out; have := HIN.out; rw [IntKind.wrap_i64]; omega
      have hrd := (HC.out.plus j).rd (i := ((first + j : Nat) : Int)) (by omega) (by have := HIN.out; show ((first + j : Nat) : Int) < (D.blocks : Int); omega)
      rw [plus_plus] at hrd
      have HR := Lib.hid (rd_ok (i := ((first + j : Nat) : Int)) hA (by rw [hrd]) (by have := HAC.out; show D.acts + j + 1 < _; omega))
      have HRD := Lib.hid hrd
      have HW := Lib.hid (HCS.out j hlt)
      have HT := Lib.hid hT
      have HRB := Lib.hid hRB
      have HCH := Lib.hid hCh
      have HM := Lib.hid (And.intro hj hlt)
      have HTA := Lib.hid (show allOf (Cs.take (j + 1)) = allOf (Cs.take j) ++ payC Cs[j] from by rw [List.take_succ_eq_append_getElem hlt, allOf_add])
      have HTT := Lib.hid (show tagsOf (Cs.take (j + 1)) = tagsOf (Cs.take j) ++ tagC Cs[j] from by rw [List.take_succ_eq_append_getElem hlt, tagsOf_add])
      have HTL := Lib.hid (show lensOf (Cs.take (j + 1)) = lensOf (Cs.take j) ++ lenC Cs[j] from by rw [List.take_succ_eq_append_getElem hlt, lensOf_add])
      have HPJ := Lib.hid (show ∀ p t, Cs[j] = some (p, t) → p.length + 2 ≤ D.size from fun p t e => HP.out p t (e ▸ List.getElem_mem hlt))
      have hL1 : (allOf (Cs.take j)).length ≤ 256000 := by
        have := all_len HS8.out.2 (Cs := Cs.take j) (fun p t h => HP.out p t (List.mem_of_mem_take h))
        have h2 : (Cs.take j).length ≤ 1000 := by rw [List.length_take]; omega
        omega
      have hL2 : (tagsOf (Cs.take j)).length ≤ 1000 := by have := tags_len (Cs.take j); rw [List.length_take] at this; omega
      have hL3 : (lensOf (Cs.take j)).length ≤ 1000 := by have := lens_len (Cs.take j); rw [List.length_take] at this; omega
      have HLEN := Lib.hid (And.intro hL1 (And.intro hL2 hL3))
      generalize Cs[j] = cj at *
      clear hT hRB hA hCh hj hlt hrd hL1 hL2 hL3 hin
      go_wp2_with fail
      refine HR.out.mono ?_
      rintro e w2 ⟨g, c, rfl, ho2, hg2, hA2, hc2⟩
      obtain ⟨a', c', hv, hrow, hq1, hq2, hlen⟩ := own_slice ho2
      injection hv with hv1 hv2 hv3
      subst hv1
      subst hv3
      rw [HRD.out] at hA2
      have HA2 := Lib.hid hA2
      have HCH2 := Lib.hid (HCH.out.trans hc2 (fun _ _ h => h))
      have HT2 := Lib.hid (HT.out.chg hc2 (by omega) (fun g hg => by omega))
      have HRB2 := Lib.hid (HRB.out.chg hc2 (by omega))
      have hrow2 : Row w2 (some ⟨g, 0, none⟩) (blkW D.size (first + j) cj) := HW.out ▸ hrow
      have HG := Lib.hid (get_blk cj D.size (first + j) (some ⟨g, 0, none⟩) c w2 hrow2 HS8.out.1 HS8.out.2 (by have := HBL.out; have := HIN.out; omega) hq1 hq2 HPJ.out)
      clear hrow hrow2 hA2 hc2 ho2 hlen HR HW HRD HT HRB HCH
      go_wp2_with fail
      refine HG.out.mono ?_
      rintro e w3 (⟨p, t, b, pc, rfl, rfl, hrp, hb3⟩ | ⟨rfl, rfl, hb3⟩)
      · have HT3 := Lib.hid (HT2.out.step hb3).self
        have HRB3 := Lib.hid (HRB2.out.below hb3 HRB2.out.lt)
        have HA3 := Lib.hid (HA2.out.below hb3)
        have HCH3 := Lib.hid (HCH2.out.then_below hb3)
        have HP3 := Lib.hid hrp
        clear HT2 HRB2 HA2 HCH2 hrp hb3 HG
        go_wp2_with fail
        have hpl := HPJ.out p t rfl
        have hs256 := HS8.out.2
        have hbd : Below w3.heap.size w3 w3.drew := (Below.refl _ _).drew
        have T0 := Lib.hid (HT3.out.step hbd).self
        have HRB4 := Lib.hid (HRB3.out.below hbd HRB3.out.lt)
        have HA4 := Lib.hid (HA3.out.below hbd)
        have HCH4 := Lib.hid (HCH3.out.then_below hbd)
        have P0 := Lib.hid (HP3.out.below hbd)
        clear HT3 HRB3 HA3 HCH3 HP3 hbd
        refine as_begin (TriF (w.heap.size + 1) x1 x2 x3) (fun j => decide (16 ≤ j)) 21 rfl (by kernel_rfl) T0.out.f ?_
        generalize w3.drew = W0 at *
        refine as_read (i := 0) _ (.pointer (some ⟨w.heap.size + 1, 0, none⟩)) T0.out.f (fun _ _ d _ _ h => by cases d <;> exact h) rfl (by kernel_rfl) rfl (fun w' hF => by obtain ⟨u0, u1, u2⟩ := hF; simp [execOp, Act.eval, go_sem]) ?_
        refine as_read (i := 1) _ (x1) T0.out.f (fun _ _ d _ _ h => by cases d <;> exact h) rfl (by kernel_rfl) rfl (fun w' hF => by obtain ⟨u0, u1, u2⟩ := hF; simp [execOp, Act.eval, go_sem, u0]) ?_
        refine as_read (i := 2) _ (.slice b p.length pc) T0.out.f (fun _ _ d _ _ h => by cases d <;> exact h) rfl (by kernel_rfl) rfl (fun w' hF => by obtain ⟨u0, u1, u2⟩ := hF; simp [execOp, Act.eval, go_sem]) ?_
        refine as_read (i := 4) _ (.pointer (some ⟨w.heap.size + 1, 1, none⟩)) T0.out.f (fun _ _ d _ _ h => by cases d <;> exact h) rfl (by kernel_rfl) rfl (fun w' hF => by obtain ⟨u0, u1, u2⟩ := hF; simp [execOp, Act.eval, go_sem]) ?_
        refine as_read (i := 5) _ (x2) T0.out.f (fun _ _ d _ _ h => by cases d <;> exact h) rfl (by kernel_rfl) rfl (fun w' hF => by obtain ⟨u0, u1, u2⟩ := hF; simp [execOp, Act.eval, go_sem, u1]) ?_
        refine as_read (i := 6) _ (.int .u64 (Crc.I64 t)) T0.out.f (fun _ _ d _ _ h => by cases d <;> exact h) rfl (by kernel_rfl) rfl (fun w' hF => by obtain ⟨u0, u1, u2⟩ := hF; simp [execOp, Act.eval, go_sem]) ?_
        refine as_read (i := 9) _ (.pointer (some ⟨w.heap.size + 1, 2, none⟩)) T0.out.f (fun _ _ d _ _ h => by cases d <;> exact h) rfl (by kernel_rfl) rfl (fun w' hF => by obtain ⟨u0, u1, u2⟩ := hF; simp [execOp, Act.eval, go_sem]) ?_
        refine as_read (i := 10) _ (x3) T0.out.f (fun _ _ d _ _ h => by cases d <;> exact h) rfl (by kernel_rfl) rfl (fun w' hF => by obtain ⟨u0, u1, u2⟩ := hF; simp [execOp, Act.eval, go_sem, u2]) ?_
        refine as_read (i := 11) _ (.slice b p.length pc) T0.out.f (fun _ _ d _ _ h => by cases d <;> exact h) rfl (by kernel_rfl) rfl (fun w' hF => by obtain ⟨u0, u1, u2⟩ := hF; simp [execOp, Act.eval, go_sem]) ?_
        refine as_read (i := 12) _ (.int .i64 (p.length : Int)) T0.out.f (fun _ _ d _ _ h => by cases d <;> exact h) rfl (by kernel_rfl) rfl (fun w' hF => by obtain ⟨u0, u1, u2⟩ := hF; simp [execOp, Act.eval, go_sem]) ?_
        refine as_alt [3, 7, 13] (by kernel_rfl) rfl (all3 ?_ ?_ ?_)
        · refine altG_mk _ rfl rfl (fun K hK => ?_)
          refine wp_append (.tmp 43) (.tmp 44) _ rfl Dev.el_u64 (w.heap.size + 2) x1 _ _ (by simp [Act.eval, go_sem]) T0.out.o1 b p.length pc (Crc.words p) (by simp [Act.eval, go_sem]) (by rw [Crc.words_length]; omega) P0.out (fl_one _) (by rw [Crc.words_length]; have := HLEN.out; have := hpl; unfold maxLen; omega) (by rw [Crc.words_length]; have := HLEN.out; have := hpl; omega) T0.out.size ?_
          intro y1 W1 a1 a2 a3 a4
          have T1 := Lib.hid (T0.out.app1 a1 a2 a3 a4 (Crc.words_length p))
          refine hK.out _ _ (fun _ => T1.out.f) ?_
          clear hK K a1 a2 a3 a4
          refine as_read (i := 15) _ (.pointer (some ⟨w.heap.size + 1, 0, none⟩)) T1.out.f (fun _ _ d _ _ h => by cases d <;> exact h) rfl (by kernel_rfl) rfl (fun w' hF => by simp [execOp, Act.eval, go_sem]) ?_
          refine as_alt [7, 13] (by kernel_rfl) rfl (all2 ?_ ?_)
          · refine altG_mk _ rfl rfl (fun K hK => ?_)
            go_simp
            have T2 := Lib.hid (T1.out.alloc (.cells #[.int .u64 (Crc.I64 t)] 35))
            have F2 := Lib.hid (Fr.new T1.out (.int .u64 (Crc.I64 t)) 35)
            refine hK.out _ _ (fun _ => T2.out.f) ?_
            clear hK K
            generalize W1.alloc (.cells #[.int .u64 (Crc.I64 t)] 35) = W2 at *
            refine as_alt [8, 13] (by kernel_rfl) rfl (all2 ?_ ?_)
            · refine altG_mk _ rfl rfl (fun K hK => ?_)
              refine wp_append (.tmp 47) (.tmp 49) _ rfl Dev.el_u64 (w.heap.size + 2) x2 _ _ (by simp [Act.eval, go_sem]) T2.out.o2 (some ⟨W1.heap.size, 0, none⟩) 1 1 [.int .u64 (Crc.I64 t)] (by simp [Act.eval, go_sem]) rfl F2.out.row (by intro u hu; simp at hu; subst hu; rfl) (by rw [Crc.words_length]; have := HLEN.out; unfold maxLen; omega) (by rw [Crc.words_length]; have := HLEN.out; omega) T2.out.size ?_
              intro y3 W3 a1 a2 a3 a4
              have T3 := Lib.hid (T2.out.app2 a1 a2 a3 a4 rfl)
              refine hK.out _ _ (fun _ => T3.out.f) ?_
              clear hK K a1 a2 a3 a4
              refine as_alt [13] (by kernel_rfl) rfl (all1 ?_)
              refine altG_mk _ rfl rfl (fun K hK => ?_)
              go_simp
              have T4 := Lib.hid (T3.out.alloc (.cells #[.int .i64 (p.length : Int)] 3))
              have F4 := Lib.hid (Fr.new T3.out (.int .i64 (p.length : Int)) 3)
              have G4 := Lib.hid (F2.out.alloc (.cells #[.int .i64 (p.length : Int)] 3))
              refine hK.out _ _ (fun _ => T4.out.f) ?_
              clear hK K
              generalize W3.alloc (.cells #[.int .i64 (p.length : Int)] 3) = W4 at *
              refine as_alt [14] (by kernel_rfl) rfl (all1 ?_)
              refine altG_mk _ rfl rfl (fun K hK => ?_)
              refine wp_append (.tmp 52) (.tmp 55) _ rfl el_int (w.heap.size + 2) x3 _ _ (by simp [Act.eval, go_sem]) T4.out.o3 (some ⟨W3.heap.size, 0, none⟩) 1 1 [.int .i64 (p.length : Int)] (by simp [Act.eval, go_sem]) rfl F4.out.row (by intro u hu; simp at hu; subst hu; rfl) (by rw [List.length_map]; have := HLEN.out; unfold maxLen; omega) (by rw [List.length_map]; have := HLEN.out; omega) T4.out.size ?_
              intro y5 W5 a1 a2 a3 a4
              have T5 := Lib.hid (T4.out.app3 a1 a2 a3 a4 rfl)
              refine hK.out _ _ (fun _ => T5.out.f) ?_
              clear hK K a1 a2 a3 a4
              obtain ⟨e1, m1, c1, rfl⟩ := own_form3 T5.out.o1
              obtain ⟨e2, m2, c2, rfl⟩ := own_form3 T5.out.o2
              obtain ⟨e3, m3, c3, rfl⟩ := own_form3 T5.out.o3
              have TS := T5.out.stored
              have q0 := T5.out.blk.cell 0
              have q1 := (T5.out.blk.set_ 0 (.slice e1 m1 c1)).cell 1
              have q2 := ((T5.out.blk.set_ 0 (.slice e1 m1 c1)).set_ 1 (.slice e2 m2 c2)).cell 2
              have z0 := T5.out.blk.frozen 0
              have z1 := (T5.out.blk.set_ 0 (.slice e1 m1 c1)).frozen 1
              have z2 := ((T5.out.blk.set_ 0 (.slice e1 m1 c1)).set_ 1 (.slice e2 m2 c2)).frozen 2
              simp at q0 q1 q2
              have HBW := Lib.hid T5.out.base
              have HTS := Lib.hid TS
              clear TS
              refine as_alt [16] (by kernel_rfl) rfl (all1 ?_)
              refine altG_mk _ rfl rfl (fun K hK => ?_)
              go_simp
              refine hK.out _ _ (fun h => absurd h (by decide)) ?_
              clear hK K
              refine as_alt [17] (by kernel_rfl) rfl (all1 ?_)
              refine altG_mk _ rfl rfl (fun K hK => ?_)
              go_simp
              refine hK.out _ _ (fun h => absurd h (by decide)) ?_
              clear hK K
              refine as_alt [18] (by kernel_rfl) rfl (all1 ?_)
              refine altG_mk _ rfl rfl (fun K hK => ?_)
              go_simp
              refine hK.out _ _ (fun h => absurd h (by decide)) ?_
              clear hK K
              refine as_alt [19] (by kernel_rfl) rfl (all1 ?_)
              refine altG_mk _ rfl rfl (fun K hK => ?_)
              go_simp
              refine hK.out _ _ (fun h => absurd h (by decide)) ?_
              clear hK K
              refine as_alt [20] (by kernel_rfl) rfl (all1 ?_)
              refine altG_mk _ rfl rfl (fun K hK => ?_)
              go_simp
              refine hK.out _ _ (fun h => absurd h (by decide)) ?_
              clear hK K
              refine as_end (by kernel_rfl) ?_
              clear q0 q1 q2 z0 z1 z2
              generalize (((W5.setCell ⟨w.heap.size + 1, 0, none⟩ (.slice e1 m1 c1)).setCell ⟨w.heap.size + 1, 1, none⟩ (.slice e2 m2 c2)).setCell ⟨w.heap.size + 1, 2, none⟩ (.slice e3 m3 c3)) = WE at *
              have HBE := Lib.hid ((HBW.out.mono (Nat.le_succ _)).trans HTS.out.2)
              have HTE := Lib.hid HTS.out.1
              clear HTS HBW
              go_wp2_with fail
              go_roundw
              case rel => exact ⟨j + 1, _, _, _, by go_num, HM.out.2, by rw [HTA.out, HTT.out, HTL.out, words_append, words_append, List.map_append]; exact HTE.out, HRB4.out.below HBE.out (by omega), at_keep HA4.out (fun g h => HALT2.out g h) (by omega) (by omega) (by omega) HBE.out, HCH4.out.trans (Chg.of_below HBE.out) (fun k hk h => absurd h (by omega))⟩
              case measure => have := HM.out.2; simp [intOf]; omega
            · refine altG_mk _ rfl rfl (fun K hK => ?_)
              go_simp
              have T6 := Lib.hid (T2.out.alloc (.cells #[.int .i64 (p.length : Int)] 3))
              have F6 := Lib.hid (Fr.new T2.out (.int .i64 (p.length : Int)) 3)
              have G6 := Lib.hid (F2.out.alloc (.cells #[.int .i64 (p.length : Int)] 3))
              refine hK.out _ _ (fun _ => T6.out.f) ?_
              clear hK K
              generalize W2.alloc (.cells #[.int .i64 (p.length : Int)] 3) = W6 at *
              refine as_alt [8] (by kernel_rfl) rfl (all1 ?_)
              refine altG_mk _ rfl rfl (fun K hK => ?_)
              refine wp_append (.tmp 47) (.tmp 49) _ rfl Dev.el_u64 (w.heap.size + 2) x2 _ _ (by simp [Act.eval, go_sem]) T6.out.o2 (some ⟨W1.heap.size, 0, none⟩) 1 1 [.int .u64 (Crc.I64 t)] (by simp [Act.eval, go_sem]) rfl G6.out.row (by intro u hu; simp at hu; subst hu; rfl) (by rw [Crc.words_length]; have := HLEN.out; unfold maxLen; omega) (by rw [Crc.words_length]; have := HLEN.out; omega) T6.out.size ?_
              intro y7 W7 a1 a2 a3 a4
              have T7 := Lib.hid (T6.out.app2 a1 a2 a3 a4 rfl)
              have H7_13 := Lib.hid (F6.out.app2 a2 a3)
              refine hK.out _ _ (fun _ => T7.out.f) ?_
              clear hK K a1 a2 a3 a4
              refine as_alt [14] (by kernel_rfl) rfl (all1 ?_)
              refine altG_mk _ rfl rfl (fun K hK => ?_)
              refine wp_append (.tmp 52) (.tmp 55) _ rfl el_int (w.heap.size + 2) x3 _ _ (by simp [Act.eval, go_sem]) T7.out.o3 (some ⟨W2.heap.size, 0, none⟩) 1 1 [.int .i64 (p.length : Int)] (by simp [Act.eval, go_sem]) rfl H7_13.out.row (by intro u hu; simp at hu; subst hu; rfl) (by rw [List.length_map]; have := HLEN.out; unfold maxLen; omega) (by rw [List.length_map]; have := HLEN.out; omega) T7.out.size ?_
              intro y8 W8 a1 a2 a3 a4
              have T8 := Lib.hid (T7.out.app3 a1 a2 a3 a4 rfl)
              refine hK.out _ _ (fun _ => T8.out.f) ?_
              clear hK K a1 a2 a3 a4
              obtain ⟨e1, m1, c1, rfl⟩ := own_form3 T8.out.o1
              obtain ⟨e2, m2, c2, rfl⟩ := own_form3 T8.out.o2
              obtain ⟨e3, m3, c3, rfl⟩ := own_form3 T8.out.o3
              have TS := T8.out.stored
              have q0 := T8.out.blk.cell 0
              have q1 := (T8.out.blk.set_ 0 (.slice e1 m1 c1)).cell 1
              have q2 := ((T8.out.blk.set_ 0 (.slice e1 m1 c1)).set_ 1 (.slice e2 m2 c2)).cell 2
              have z0 := T8.out.blk.frozen 0
              have z1 := (T8.out.blk.set_ 0 (.slice e1 m1 c1)).frozen 1
              have z2 := ((T8.out.blk.set_ 0 (.slice e1 m1 c1)).set_ 1 (.slice e2 m2 c2)).frozen 2
              simp at q0 q1 q2
              have HBW := Lib.hid T8.out.base
              have HTS := Lib.hid TS
              clear TS
              refine as_alt [16] (by kernel_rfl) rfl (all1 ?_)
              refine altG_mk _ rfl rfl (fun K hK => ?_)
              go_simp
              refine hK.out _ _ (fun h => absurd h (by decide)) ?_
              clear hK K
              refine as_alt [17] (by kernel_rfl) rfl (all1 ?_)
              refine altG_mk _ rfl rfl (fun K hK => ?_)
              go_simp
              refine hK.out _ _ (fun h => absurd h (by decide)) ?_
              clear hK K
              refine as_alt [18] (by kernel_rfl) rfl (all1 ?_)
              refine altG_mk _ rfl rfl (fun K hK => ?_)
              go_simp
              refine hK.out _ _ (fun h => absurd h (by decide)) ?_
              clear hK K
              refine as_alt [19] (by kernel_rfl) rfl (all1 ?_)
              refine altG_mk _ rfl rfl (fun K hK => ?_)
              go_simp
              refine hK.out _ _ (fun h => absurd h (by decide)) ?_
              clear hK K
              refine as_alt [20] (by kernel_rfl) rfl (all1 ?_)
              refine altG_mk _ rfl rfl (fun K hK => ?_)
              go_simp
              refine hK.out _ _ (fun h => absurd h (by decide)) ?_
              clear hK K
              refine as_end (by kernel_rfl) ?_
              clear q0 q1 q2 z0 z1 z2
              generalize (((W8.setCell ⟨w.heap.size + 1, 0, none⟩ (.slice e1 m1 c1)).setCell ⟨w.heap.size + 1, 1, none⟩ (.slice e2 m2 c2)).setCell ⟨w.heap.size + 1, 2, none⟩ (.slice e3 m3 c3)) = WE at *
              have HBE := Lib.hid ((HBW.out.mono (Nat.le_succ _)).trans HTS.out.2)
              have HTE := Lib.hid HTS.out.1
              clear HTS HBW
              go_wp2_with fail
              go_roundw
              case rel => exact ⟨j + 1, _, _, _, by go_num, HM.out.2, by rw [HTA.out, HTT.out, HTL.out, words_append, words_append, List.map_append]; exact HTE.out, HRB4.out.below HBE.out (by omega), at_keep HA4.out (fun g h => HALT2.out g h) (by omega) (by omega) (by omega) HBE.out, HCH4.out.trans (Chg.of_below HBE.out) (fun k hk h => absurd h (by omega))⟩
              case measure => have := HM.out.2; simp [intOf]; omega
          · refine altG_mk _ rfl rfl (fun K hK => ?_)
            go_simp
            have T9 := Lib.hid (T1.out.alloc (.cells #[.int .i64 (p.length : Int)] 3))
            have F9 := Lib.hid (Fr.new T1.out (.int .i64 (p.length : Int)) 3)
            refine hK.out _ _ (fun _ => T9.out.f) ?_
            clear hK K
            generalize W1.alloc (.cells #[.int .i64 (p.length : Int)] 3) = W9 at *
            refine as_alt [7] (by kernel_rfl) rfl (all1 ?_)
            refine altG_mk _ rfl rfl (fun K hK => ?_)
            go_simp
            have T10 := Lib.hid (T9.out.alloc (.cells #[.int .u64 (Crc.I64 t)] 35))
            have F10 := Lib.hid (Fr.new T9.out (.int .u64 (Crc.I64 t)) 35)
            have G10 := Lib.hid (F9.out.alloc (.cells #[.int .u64 (Crc.I64 t)] 35))
            refine hK.out _ _ (fun _ => T10.out.f) ?_
            clear hK K
            generalize W9.alloc (.cells #[.int .u64 (Crc.I64 t)] 35) = W10 at *
            refine as_alt [8] (by kernel_rfl) rfl (all1 ?_)
            refine altG_mk _ rfl rfl (fun K hK => ?_)
            refine wp_append (.tmp 47) (.tmp 49) _ rfl Dev.el_u64 (w.heap.size + 2) x2 _ _ (by simp [Act.eval, go_sem]) T10.out.o2 (some ⟨W9.heap.size, 0, none⟩) 1 1 [.int .u64 (Crc.I64 t)] (by simp [Act.eval, go_sem]) rfl F10.out.row (by intro u hu; simp at hu; subst hu; rfl) (by rw [Crc.words_length]; have := HLEN.out; unfold maxLen; omega) (by rw [Crc.words_length]; have := HLEN.out; omega) T10.out.size ?_
            intro y11 W11 a1 a2 a3 a4
            have T11 := Lib.hid (T10.out.app2 a1 a2 a3 a4 rfl)
            have H11_13 := Lib.hid (G10.out.app2 a2 a3)
            refine hK.out _ _ (fun _ => T11.out.f) ?_
            clear hK K a1 a2 a3 a4
            refine as_alt [14] (by kernel_rfl) rfl (all1 ?_)
            refine altG_mk _ rfl rfl (fun K hK => ?_)
            refine wp_append (.tmp 52) (.tmp 55) _ rfl el_int (w.heap.size + 2) x3 _ _ (by simp [Act.eval, go_sem]) T11.out.o3 (some ⟨W1.heap.size, 0, none⟩) 1 1 [.int .i64 (p.length : Int)] (by simp [Act.eval, go_sem]) rfl H11_13.out.row (by intro u hu; simp at hu; subst hu; rfl) (by rw [List.length_map]; have := HLEN.out; unfold maxLen; omega) (by rw [List.length_map]; have := HLEN.out; omega) T11.out.size ?_
            intro y12 W12 a1 a2 a3 a4
            have T12 := Lib.hid (T11.out.app3 a1 a2 a3 a4 rfl)
            refine hK.out _ _ (fun _ => T12.out.f) ?_
            clear hK K a1 a2 a3 a4
            obtain ⟨e1, m1, c1, rfl⟩ := own_form3 T12.out.o1
            obtain ⟨e2, m2, c2, rfl⟩ := own_form3 T12.out.o2
            obtain ⟨e3, m3, c3, rfl⟩ := own_form3 T12.out.o3
            have TS := T12.out.stored
            have q0 := T12.out.blk.cell 0
            have q1 := (T12.out.blk.set_ 0 (.slice e1 m1 c1)).cell 1
            have q2 := ((T12.out.blk.set_ 0 (.slice e1 m1 c1)).set_ 1 (.slice e2 m2 c2)).cell 2
            have z0 := T12.out.blk.frozen 0
            have z1 := (T12.out.blk.set_ 0 (.slice e1 m1 c1)).frozen 1
            have z2 := ((T12.out.blk.set_ 0 (.slice e1 m1 c1)).set_ 1 (.slice e2 m2 c2)).frozen 2
            simp at q0 q1 q2
            have HBW := Lib.hid T12.out.base
            have HTS := Lib.hid TS
            clear TS
            refine as_alt [16] (by kernel_rfl) rfl (all1 ?_)
            refine altG_mk _ rfl rfl (fun K hK => ?_)
            go_simp
            refine hK.out _ _ (fun h => absurd h (by decide)) ?_
            clear hK K
            refine as_alt [17] (by kernel_rfl) rfl (all1 ?_)
            refine altG_mk _ rfl rfl (fun K hK => ?_)
            go_simp
            refine hK.out _ _ (fun h => absurd h (by decide)) ?_
            clear hK K
            refine as_alt [18] (by kernel_rfl) rfl (all1 ?_)
            refine altG_mk _ rfl rfl (fun K hK => ?_)
            go_simp
            refine hK.out _ _ (fun h => absurd h (by decide)) ?_
            clear hK K
            refine as_alt [19] (by kernel_rfl) rfl (all1 ?_)
            refine altG_mk _ rfl rfl (fun K hK => ?_)
            go_simp
            refine hK.out _ _ (fun h => absurd h (by decide)) ?_
            clear hK K
            refine as_alt [20] (by kernel_rfl) rfl (all1 ?_)
            refine altG_mk _ rfl rfl (fun K hK => ?_)
            go_simp
            refine hK.out _ _ (fun h => absurd h (by decide)) ?_
            clear hK K
            refine as_end (by kernel_rfl) ?_
            clear q0 q1 q2 z0 z1 z2
            generalize (((W12.setCell ⟨w.heap.size + 1, 0, none⟩ (.slice e1 m1 c1)).setCell ⟨w.heap.size + 1, 1, none⟩ (.slice e2 m2 c2)).setCell ⟨w.heap.size + 1, 2, none⟩ (.slice e3 m3 c3)) = WE at *
            have HBE := Lib.hid ((HBW.out.mono (Nat.le_succ _)).trans HTS.out.2)
            have HTE := Lib.hid HTS.out.1
            clear HTS HBW
            go_wp2_with fail
            go_roundw
            case rel => exact ⟨j + 1, _, _, _, by go_num, HM.out.2, by rw [HTA.out, HTT.out, HTL.out, words_append, words_append, List.map_append]; exact HTE.out, HRB4.out.below HBE.out (by omega), at_keep HA4.out (fun g h => HALT2.out g h) (by omega) (by omega) (by omega) HBE.out, HCH4.out.trans (Chg.of_below HBE.out) (fun k hk h => absurd h (by omega))⟩
            case measure => have := HM.out.2; simp [intOf]; omega
        · refine altG_mk _ rfl rfl (fun K hK => ?_)
          go_simp
          have T13 := Lib.hid (T0.out.alloc (.cells #[.int .u64 (Crc.I64 t)] 35))
          have F13 := Lib.hid (Fr.new T0.out (.int .u64 (Crc.I64 t)) 35)
          have P13 := Lib.hid (P0.out.below ((Below.refl _ _).alloc (Nat.le_refl _) (.cells #[.int .u64 (Crc.I64 t)] 35)))
          refine hK.out _ _ (fun _ => T13.out.f) ?_
          clear hK K
          generalize W0.alloc (.cells #[.int .u64 (Crc.I64 t)] 35) = W13 at *
          refine as_alt [3, 13] (by kernel_rfl) rfl (all2 ?_ ?_)
          · refine altG_mk _ rfl rfl (fun K hK => ?_)
            refine wp_append (.tmp 43) (.tmp 44) _ rfl Dev.el_u64 (w.heap.size + 2) x1 _ _ (by simp [Act.eval, go_sem]) T13.out.o1 b p.length pc (Crc.words p) (by simp [Act.eval, go_sem]) (by rw [Crc.words_length]; omega) P13.out (fl_one _) (by rw [Crc.words_length]; have := HLEN.out; have := hpl; unfold maxLen; omega) (by rw [Crc.words_length]; have := HLEN.out; have := hpl; omega) T13.out.size ?_
            intro y14 W14 a1 a2 a3 a4
            have T14 := Lib.hid (T13.out.app1 a1 a2 a3 a4 (Crc.words_length p))
            have H14_7 := Lib.hid (F13.out.app1 a2 a3)
            refine hK.out _ _ (fun _ => T14.out.f) ?_
            clear hK K a1 a2 a3 a4
            refine as_read (i := 15) _ (.pointer (some ⟨w.heap.size + 1, 0, none⟩)) T14.out.f (fun _ _ d _ _ h => by cases d <;> exact h) rfl (by kernel_rfl) rfl (fun w' hF => by simp [execOp, Act.eval, go_sem]) ?_
            refine as_alt [8, 13] (by kernel_rfl) rfl (all2 ?_ ?_)
            · refine altG_mk _ rfl rfl (fun K hK => ?_)
              refine wp_append (.tmp 47) (.tmp 49) _ rfl Dev.el_u64 (w.heap.size + 2) x2 _ _ (by simp [Act.eval, go_sem]) T14.out.o2 (some ⟨W0.heap.size, 0, none⟩) 1 1 [.int .u64 (Crc.I64 t)] (by simp [Act.eval, go_sem]) rfl H14_7.out.row (by intro u hu; simp at hu; subst hu; rfl) (by rw [Crc.words_length]; have := HLEN.out; unfold maxLen; omega) (by rw [Crc.words_length]; have := HLEN.out; omega) T14.out.size ?_
              intro y15 W15 a1 a2 a3 a4
              have T15 := Lib.hid (T14.out.app2 a1 a2 a3 a4 rfl)
              refine hK.out _ _ (fun _ => T15.out.f) ?_
              clear hK K a1 a2 a3 a4
              refine as_alt [13] (by kernel_rfl) rfl (all1 ?_)
              refine altG_mk _ rfl rfl (fun K hK => ?_)
              go_simp
              have T16 := Lib.hid (T15.out.alloc (.cells #[.int .i64 (p.length : Int)] 3))
              have F16 := Lib.hid (Fr.new T15.out (.int .i64 (p.length : Int)) 3)
              have G16 := Lib.hid (H14_7.out.alloc (.cells #[.int .i64 (p.length : Int)] 3))
              refine hK.out _ _ (fun _ => T16.out.f) ?_
              clear hK K
              generalize W15.alloc (.cells #[.int .i64 (p.length : Int)] 3) = W16 at *
              refine as_alt [14] (by kernel_rfl) rfl (all1 ?_)
              refine altG_mk _ rfl rfl (fun K hK => ?_)
              refine wp_append (.tmp 52) (.tmp 55) _ rfl el_int (w.heap.size + 2) x3 _ _ (by simp [Act.eval, go_sem]) T16.out.o3 (some ⟨W15.heap.size, 0, none⟩) 1 1 [.int .i64 (p.length : Int)] (by simp [Act.eval, go_sem]) rfl F16.out.row (by intro u hu; simp at hu; subst hu; rfl) (by rw [List.length_map]; have := HLEN.out; unfold maxLen; omega) (by rw [List.length_map]; have := HLEN.out; omega) T16.out.size ?_
              intro y17 W17 a1 a2 a3 a4
              have T17 := Lib.hid (T16.out.app3 a1 a2 a3 a4 rfl)
              refine hK.out _ _ (fun _ => T17.out.f) ?_
              clear hK K a1 a2 a3 a4
              obtain ⟨e1, m1, c1, rfl⟩ := own_form3 T17.out.o1
              obtain ⟨e2, m2, c2, rfl⟩ := own_form3 T17.out.o2
              obtain ⟨e3, m3, c3, rfl⟩ := own_form3 T17.out.o3
              have TS := T17.out.stored
              have q0 := T17.out.blk.cell 0
              have q1 := (T17.out.blk.set_ 0 (.slice e1 m1 c1)).cell 1
              have q2 := ((T17.out.blk.set_ 0 (.slice e1 m1 c1)).set_ 1 (.slice e2 m2 c2)).cell 2
              have z0 := T17.out.blk.frozen 0
              have z1 := (T17.out.blk.set_ 0 (.slice e1 m1 c1)).frozen 1
              have z2 := ((T17.out.blk.set_ 0 (.slice e1 m1 c1)).set_ 1 (.slice e2 m2 c2)).frozen 2
              simp at q0 q1 q2
              have HBW := Lib.hid T17.out.base
              have HTS := Lib.hid TS
              clear TS
              refine as_alt [16] (by kernel_rfl) rfl (all1 ?_)
              refine altG_mk _ rfl rfl (fun K hK => ?_)
              go_simp
              refine hK.out _ _ (fun h => absurd h (by decide)) ?_
              clear hK K
              refine as_alt [17] (by kernel_rfl) rfl (all1 ?_)
              refine altG_mk _ rfl rfl (fun K hK => ?_)
              go_simp
              refine hK.out _ _ (fun h => absurd h (by decide)) ?_
              clear hK K
              refine as_alt [18] (by kernel_rfl) rfl (all1 ?_)
              refine altG_mk _ rfl rfl (fun K hK => ?_)
              go_simp
              refine hK.out _ _ (fun h => absurd h (by decide)) ?_
              clear hK K
              refine as_alt [19] (by kernel_rfl) rfl (all1 ?_)
              refine altG_mk _ rfl rfl (fun K hK => ?_)
              go_simp
              refine hK.out _ _ (fun h => absurd h (by decide)) ?_
              clear hK K
              refine as_alt [20] (by kernel_rfl) rfl (all1 ?_)
              refine altG_mk _ rfl rfl (fun K hK => ?_)
              go_simp
              refine hK.out _ _ (fun h => absurd h (by decide)) ?_
              clear hK K
              refine as_end (by kernel_rfl) ?_
              clear q0 q1 q2 z0 z1 z2
              generalize (((W17.setCell ⟨w.heap.size + 1, 0, none⟩ (.slice e1 m1 c1)).setCell ⟨w.heap.size + 1, 1, none⟩ (.slice e2 m2 c2)).setCell ⟨w.heap.size + 1, 2, none⟩ (.slice e3 m3 c3)) = WE at *
              have HBE := Lib.hid ((HBW.out.mono (Nat.le_succ _)).trans HTS.out.2)
              have HTE := Lib.hid HTS.out.1
              clear HTS HBW
              go_wp2_with fail
              go_roundw
              case rel => exact ⟨j + 1, _, _, _, by go_num, HM.out.2, by rw [HTA.out, HTT.out, HTL.out, words_append, words_append, List.map_append]; exact HTE.out, HRB4.out.below HBE.out (by omega), at_keep HA4.out (fun g h => HALT2.out g h) (by omega) (by omega) (by omega) HBE.out, HCH4.out.trans (Chg.of_below HBE.out) (fun k hk h => absurd h (by omega))⟩
              case measure => have := HM.out.2; simp [intOf]; omega
            · refine altG_mk _ rfl rfl (fun K hK => ?_)
              go_simp
              have T18 := Lib.hid (T14.out.alloc (.cells #[.int .i64 (p.length : Int)] 3))
              have F18 := Lib.hid (Fr.new T14.out (.int .i64 (p.length : Int)) 3)
              have G18 := Lib.hid (H14_7.out.alloc (.cells #[.int .i64 (p.length : Int)] 3))
              refine hK.out _ _ (fun _ => T18.out.f) ?_
              clear hK K
              generalize W14.alloc (.cells #[.int .i64 (p.length : Int)] 3) = W18 at *
              refine as_alt [8] (by kernel_rfl) rfl (all1 ?_)
              refine altG_mk _ rfl rfl (fun K hK => ?_)
              refine wp_append (.tmp 47) (.tmp 49) _ rfl Dev.el_u64 (w.heap.size + 2) x2 _ _ (by simp [Act.eval, go_sem]) T18.out.o2 (some ⟨W0.heap.size, 0, none⟩) 1 1 [.int .u64 (Crc.I64 t)] (by simp [Act.eval, go_sem]) rfl G18.out.row (by intro u hu; simp at hu; subst hu; rfl) (by rw [Crc.words_length]; have := HLEN.out; unfold maxLen; omega) (by rw [Crc.words_length]; have := HLEN.out; omega) T18.out.size ?_
              intro y19 W19 a1 a2 a3 a4
              have T19 := Lib.hid (T18.out.app2 a1 a2 a3 a4 rfl)
              have H19_13 := Lib.hid (F18.out.app2 a2 a3)
              refine hK.out _ _ (fun _ => T19.out.f) ?_
              clear hK K a1 a2 a3 a4
              refine as_alt [14] (by kernel_rfl) rfl (all1 ?_)
              refine altG_mk _ rfl rfl (fun K hK => ?_)
              refine wp_append (.tmp 52) (.tmp 55) _ rfl el_int (w.heap.size + 2) x3 _ _ (by simp [Act.eval, go_sem]) T19.out.o3 (some ⟨W14.heap.size, 0, none⟩) 1 1 [.int .i64 (p.length : Int)] (by simp [Act.eval, go_sem]) rfl H19_13.out.row (by intro u hu; simp at hu; subst hu; rfl) (by rw [List.length_map]; have := HLEN.out; unfold maxLen; omega) (by rw [List.length_map]; have := HLEN.out; omega) T19.out.size ?_
              intro y20 W20 a1 a2 a3 a4
              have T20 := Lib.hid (T19.out.app3 a1 a2 a3 a4 rfl)
              refine hK.out _ _ (fun _ => T20.out.f) ?_
              clear hK K a1 a2 a3 a4
              obtain ⟨e1, m1, c1, rfl⟩ := own_form3 T20.out.o1
              obtain ⟨e2, m2, c2, rfl⟩ := own_form3 T20.out.o2
              obtain ⟨e3, m3, c3, rfl⟩ := own_form3 T20.out.o3
              have TS := T20.out.stored
              have q0 := T20.out.blk.cell 0
              have q1 := (T20.out.blk.set_ 0 (.slice e1 m1 c1)).cell 1
              have q2 := ((T20.out.blk.set_ 0 (.slice e1 m1 c1)).set_ 1 (.slice e2 m2 c2)).cell 2
              have z0 := T20.out.blk.frozen 0
              have z1 := (T20.out.blk.set_ 0 (.slice e1 m1 c1)).frozen 1
              have z2 := ((T20.out.blk.set_ 0 (.slice e1 m1 c1)).set_ 1 (.slice e2 m2 c2)).frozen 2
              simp at q0 q1 q2
              have HBW := Lib.hid T20.out.base
              have HTS := Lib.hid TS
              clear TS
              refine as_alt [16] (by kernel_rfl) rfl (all1 ?_)
              refine altG_mk _ rfl rfl (fun K hK => ?_)
              go_simp
              refine hK.out _ _ (fun h => absurd h (by decide)) ?_
              clear hK K
              refine as_alt [17] (by kernel_rfl) rfl (all1 ?_)
              refine altG_mk _ rfl rfl (fun K hK => ?_)
              go_simp
              refine hK.out _ _ (fun h => absurd h (by decide)) ?_
              clear hK K
              refine as_alt [18] (by kernel_rfl) rfl (all1 ?_)
              refine altG_mk _ rfl rfl (fun K hK => ?_)
              go_simp
              refine hK.out _ _ (fun h => absurd h (by decide)) ?_
              clear hK K
              refine as_alt [19] (by kernel_rfl) rfl (all1 ?_)
              refine altG_mk _ rfl rfl (fun K hK => ?_)
              go_simp
              refine hK.out _ _ (fun h => absurd h (by decide)) ?_
              clear hK K
              refine as_alt [20] (by kernel_rfl) rfl (all1 ?_)
              refine altG_mk _ rfl rfl (fun K hK => ?_)
              go_simp
              refine hK.out _ _ (fun h => absurd h (by decide)) ?_
              clear hK K
              refine as_end (by kernel_rfl) ?_
              clear q0 q1 q2 z0 z1 z2
              generalize (((W20.setCell ⟨w.heap.size + 1, 0, none⟩ (.slice e1 m1 c1)).setCell ⟨w.heap.size + 1, 1, none⟩ (.slice e2 m2 c2)).setCell ⟨w.heap.size + 1, 2, none⟩ (.slice e3 m3 c3)) = WE at *
              have HBE := Lib.hid ((HBW.out.mono (Nat.le_succ _)).trans HTS.out.2)
              have HTE := Lib.hid HTS.out.1
              clear HTS HBW
              go_wp2_with fail
              go_roundw
              case rel => exact ⟨j + 1, _, _, _, by go_num, HM.out.2, by rw [HTA.out, HTT.out, HTL.out, words_append, words_append, List.map_append]; exact HTE.out, HRB4.out.below HBE.out (by omega), at_keep HA4.out (fun g h => HALT2.out g h) (by omega) (by omega) (by omega) HBE.out, HCH4.out.trans (Chg.of_below HBE.out) (fun k hk h => absurd h (by omega))⟩
              case measure => have := HM.out.2; simp [intOf]; omega
          · refine altG_mk _ rfl rfl (fun K hK => ?_)
            go_simp
            have T21 := Lib.hid (T13.out.alloc (.cells #[.int .i64 (p.length : Int)] 3))
            have F21 := Lib.hid (Fr.new T13.out (.int .i64 (p.length : Int)) 3)
            have G21 := Lib.hid (F13.out.alloc (.cells #[.int .i64 (p.length : Int)] 3))
            have P21 := Lib.hid (P13.out.below ((Below.refl _ _).alloc (Nat.le_refl _) (.cells #[.int .i64 (p.length : Int)] 3)))
            refine hK.out _ _ (fun _ => T21.out.f) ?_
            clear hK K
            generalize W13.alloc (.cells #[.int .i64 (p.length : Int)] 3) = W21 at *
            refine as_alt [3] (by kernel_rfl) rfl (all1 ?_)
            refine altG_mk _ rfl rfl (fun K hK => ?_)
            refine wp_append (.tmp 43) (.tmp 44) _ rfl Dev.el_u64 (w.heap.size + 2) x1 _ _ (by simp [Act.eval, go_sem]) T21.out.o1 b p.length pc (Crc.words p) (by simp [Act.eval, go_sem]) (by rw [Crc.words_length]; omega) P21.out (fl_one _) (by rw [Crc.words_length]; have := HLEN.out; have := hpl; unfold maxLen; omega) (by rw [Crc.words_length]; have := HLEN.out; have := hpl; omega) T21.out.size ?_
            intro y22 W22 a1 a2 a3 a4
            have T22 := Lib.hid (T21.out.app1 a1 a2 a3 a4 (Crc.words_length p))
            have H22_7 := Lib.hid (G21.out.app1 a2 a3)
            have H22_13 := Lib.hid (F21.out.app1 a2 a3)
            refine hK.out _ _ (fun _ => T22.out.f) ?_
            clear hK K a1 a2 a3 a4
            refine as_read (i := 15) _ (.pointer (some ⟨w.heap.size + 1, 0, none⟩)) T22.out.f (fun _ _ d _ _ h => by cases d <;> exact h) rfl (by kernel_rfl) rfl (fun w' hF => by simp [execOp, Act.eval, go_sem]) ?_
            refine as_alt [8] (by kernel_rfl) rfl (all1 ?_)
            refine altG_mk _ rfl rfl (fun K hK => ?_)
            refine wp_append (.tmp 47) (.tmp 49) _ rfl Dev.el_u64 (w.heap.size + 2) x2 _ _ (by simp [Act.eval, go_sem]) T22.out.o2 (some ⟨W0.heap.size, 0, none⟩) 1 1 [.int .u64 (Crc.I64 t)] (by simp [Act.eval, go_sem]) rfl H22_7.out.row (by intro u hu; simp at hu; subst hu; rfl) (by rw [Crc.words_length]; have := HLEN.out; unfold maxLen; omega) (by rw [Crc.words_length]; have := HLEN.out; omega) T22.out.size ?_
            intro y23 W23 a1 a2 a3 a4
            have T23 := Lib.hid (T22.out.app2 a1 a2 a3 a4 rfl)
            have H23_13 := Lib.hid (H22_13.out.app2 a2 a3)
            refine hK.out _ _ (fun _ => T23.out.f) ?_
            clear hK K a1 a2 a3 a4
            refine as_alt [14] (by kernel_rfl) rfl (all1 ?_)
            refine altG_mk _ rfl rfl (fun K hK => ?_)
            refine wp_append (.tmp 52) (.tmp 55) _ rfl el_int (w.heap.size + 2) x3 _ _ (by simp [Act.eval, go_sem]) T23.out.o3 (some ⟨W13.heap.size, 0, none⟩) 1 1 [.int .i64 (p.length : Int)] (by simp [Act.eval, go_sem]) rfl H23_13.out.row (by intro u hu; simp at hu; subst hu; rfl) (by rw [List.length_map]; have := HLEN.out; unfold maxLen; omega) (by rw [List.length_map]; have := HLEN.out; omega) T23.out.size ?_
            intro y24 W24 a1 a2 a3 a4
            have T24 := Lib.hid (T23.out.app3 a1 a2 a3 a4 rfl)
            refine hK.out _ _ (fun _ => T24.out.f) ?_
            clear hK K a1 a2 a3 a4
            obtain ⟨e1, m1, c1, rfl⟩ := own_form3 T24.out.o1
            obtain ⟨e2, m2, c2, rfl⟩ := own_form3 T24.out.o2
            obtain ⟨e3, m3, c3, rfl⟩ := own_form3 T24.out.o3
            have TS := T24.out.stored
            have q0 := T24.out.blk.cell 0
            have q1 := (T24.out.blk.set_ 0 (.slice e1 m1 c1)).cell 1
            have q2 := ((T24.out.blk.set_ 0 (.slice e1 m1 c1)).set_ 1 (.slice e2 m2 c2)).cell 2
            have z0 := T24.out.blk.frozen 0
            have z1 := (T24.out.blk.set_ 0 (.slice e1 m1 c1)).frozen 1
            have z2 := ((T24.out.blk.set_ 0 (.slice e1 m1 c1)).set_ 1 (.slice e2 m2 c2)).frozen 2
            simp at q0 q1 q2
            have HBW := Lib.hid T24.out.base
            have HTS := Lib.hid TS
            clear TS
            refine as_alt [16] (by kernel_rfl) rfl (all1 ?_)
            refine altG_mk _ rfl rfl (fun K hK => ?_)
            go_simp
            refine hK.out _ _ (fun h => absurd h (by decide)) ?_
            clear hK K
            refine as_alt [17] (by kernel_rfl) rfl (all1 ?_)
            refine altG_mk _ rfl rfl (fun K hK => ?_)
            go_simp
            refine hK.out _ _ (fun h => absurd h (by decide)) ?_
            clear hK K
            refine as_alt [18] (by kernel_rfl) rfl (all1 ?_)
            refine altG_mk _ rfl rfl (fun K hK => ?_)
            go_simp
            refine hK.out _ _ (fun h => absurd h (by decide)) ?_
            clear hK K
            refine as_alt [19] (by kernel_rfl) rfl (all1 ?_)
            refine altG_mk _ rfl rfl (fun K hK => ?_)
            go_simp
            refine hK.out _ _ (fun h => absurd h (by decide)) ?_
            clear hK K
            refine as_alt [20] (by kernel_rfl) rfl (all1 ?_)
            refine altG_mk _ rfl rfl (fun K hK => ?_)
            go_simp
            refine hK.out _ _ (fun h => absurd h (by decide)) ?_
            clear hK K
            refine as_end (by kernel_rfl) ?_
            clear q0 q1 q2 z0 z1 z2
            generalize (((W24.setCell ⟨w.heap.size + 1, 0, none⟩ (.slice e1 m1 c1)).setCell ⟨w.heap.size + 1, 1, none⟩ (.slice e2 m2 c2)).setCell ⟨w.heap.size + 1, 2, none⟩ (.slice e3 m3 c3)) = WE at *
            have HBE := Lib.hid ((HBW.out.mono (Nat.le_succ _)).trans HTS.out.2)
            have HTE := Lib.hid HTS.out.1
            clear HTS HBW
            go_wp2_with fail
            go_roundw
            case rel => exact ⟨j + 1, _, _, _, by go_num, HM.out.2, by rw [HTA.out, HTT.out, HTL.out, words_append, words_append, List.map_append]; exact HTE.out, HRB4.out.below HBE.out (by omega), at_keep HA4.out (fun g h => HALT2.out g h) (by omega) (by omega) (by omega) HBE.out, HCH4.out.trans (Chg.of_below HBE.out) (fun k hk h => absurd h (by omega))⟩
            case measure => have := HM.out.2; simp [intOf]; omega
        · refine altG_mk _ rfl rfl (fun K hK => ?_)
          go_simp
          have T25 := Lib.hid (T0.out.alloc (.cells #[.int .i64 (p.length : Int)] 3))
          have F25 := Lib.hid (Fr.new T0.out (.int .i64 (p.length : Int)) 3)
          have P25 := Lib.hid (P0.out.below ((Below.refl _ _).alloc (Nat.le_refl _) (.cells #[.int .i64 (p.length : Int)] 3)))
          refine hK.out _ _ (fun _ => T25.out.f) ?_
          clear hK K
          generalize W0.alloc (.cells #[.int .i64 (p.length : Int)] 3) = W25 at *
          refine as_alt [3, 7] (by kernel_rfl) rfl (all2 ?_ ?_)
          · refine altG_mk _ rfl rfl (fun K hK => ?_)
            refine wp_append (.tmp 43) (.tmp 44) _ rfl Dev.el_u64 (w.heap.size + 2) x1 _ _ (by simp [Act.eval, go_sem]) T25.out.o1 b p.length pc (Crc.words p) (by simp [Act.eval, go_sem]) (by rw [Crc.words_length]; omega) P25.out (fl_one _) (by rw [Crc.words_length]; have := HLEN.out; have := hpl; unfold maxLen; omega) (by rw [Crc.words_length]; have := HLEN.out; have := hpl; omega) T25.out.size ?_
            intro y26 W26 a1 a2 a3 a4
            have T26 := Lib.hid (T25.out.app1 a1 a2 a3 a4 (Crc.words_length p))
            have H26_13 := Lib.hid (F25.out.app1 a2 a3)
            refine hK.out _ _ (fun _ => T26.out.f) ?_
            clear hK K a1 a2 a3 a4
            refine as_read (i := 15) _ (.pointer (some ⟨w.heap.size + 1, 0, none⟩)) T26.out.f (fun _ _ d _ _ h => by cases d <;> exact h) rfl (by kernel_rfl) rfl (fun w' hF => by simp [execOp, Act.eval, go_sem]) ?_
            refine as_alt [7] (by kernel_rfl) rfl (all1 ?_)
            refine altG_mk _ rfl rfl (fun K hK => ?_)
            go_simp
            have T27 := Lib.hid (T26.out.alloc (.cells #[.int .u64 (Crc.I64 t)] 35))
            have F27 := Lib.hid (Fr.new T26.out (.int .u64 (Crc.I64 t)) 35)
            have G27 := Lib.hid (H26_13.out.alloc (.cells #[.int .u64 (Crc.I64 t)] 35))
            refine hK.out _ _ (fun _ => T27.out.f) ?_
            clear hK K
            generalize W26.alloc (.cells #[.int .u64 (Crc.I64 t)] 35) = W27 at *
            refine as_alt [8] (by kernel_rfl) rfl (all1 ?_)
            refine altG_mk _ rfl rfl (fun K hK => ?_)
            refine wp_append (.tmp 47) (.tmp 49) _ rfl Dev.el_u64 (w.heap.size + 2) x2 _ _ (by simp [Act.eval, go_sem]) T27.out.o2 (some ⟨W26.heap.size, 0, none⟩) 1 1 [.int .u64 (Crc.I64 t)] (by simp [Act.eval, go_sem]) rfl F27.out.row (by intro u hu; simp at hu; subst hu; rfl) (by rw [Crc.words_length]; have := HLEN.out; unfold maxLen; omega) (by rw [Crc.words_length]; have := HLEN.out; omega) T27.out.size ?_
            intro y28 W28 a1 a2 a3 a4
            have T28 := Lib.hid (T27.out.app2 a1 a2 a3 a4 rfl)
            have H28_13 := Lib.hid (G27.out.app2 a2 a3)
            refine hK.out _ _ (fun _ => T28.out.f) ?_
            clear hK K a1 a2 a3 a4
            refine as_alt [14] (by kernel_rfl) rfl (all1 ?_)
            refine altG_mk _ rfl rfl (fun K hK => ?_)
            refine wp_append (.tmp 52) (.tmp 55) _ rfl el_int (w.heap.size + 2) x3 _ _ (by simp [Act.eval, go_sem]) T28.out.o3 (some ⟨W0.heap.size, 0, none⟩) 1 1 [.int .i64 (p.length : Int)] (by simp [Act.eval, go_sem]) rfl H28_13.out.row (by intro u hu; simp at hu; subst hu; rfl) (by rw [List.length_map]; have := HLEN.out; unfold maxLen; omega) (by rw [List.length_map]; have := HLEN.out; omega) T28.out.size ?_
            intro y29 W29 a1 a2 a3 a4
            have T29 := Lib.hid (T28.out.app3 a1 a2 a3 a4 rfl)
            refine hK.out _ _ (fun _ => T29.out.f) ?_
            clear hK K a1 a2 a3 a4
            obtain ⟨e1, m1, c1, rfl⟩ := own_form3 T29.out.o1
            obtain ⟨e2, m2, c2, rfl⟩ := own_form3 T29.out.o2
            obtain ⟨e3, m3, c3, rfl⟩ := own_form3 T29.out.o3
            have TS := T29.out.stored
            have q0 := T29.out.blk.cell 0
            have q1 := (T29.out.blk.set_ 0 (.slice e1 m1 c1)).cell 1
            have q2 := ((T29.out.blk.set_ 0 (.slice e1 m1 c1)).set_ 1 (.slice e2 m2 c2)).cell 2
            have z0 := T29.out.blk.frozen 0
            have z1 := (T29.out.blk.set_ 0 (.slice e1 m1 c1)).frozen 1
            have z2 := ((T29.out.blk.set_ 0 (.slice e1 m1 c1)).set_ 1 (.slice e2 m2 c2)).frozen 2
            simp at q0 q1 q2
            have HBW := Lib.hid T29.out.base
            have HTS := Lib.hid TS
            clear TS
            refine as_alt [16] (by kernel_rfl) rfl (all1 ?_)
            refine altG_mk _ rfl rfl (fun K hK => ?_)
            go_simp
            refine hK.out _ _ (fun h => absurd h (by decide)) ?_
            clear hK K
            refine as_alt [17] (by kernel_rfl) rfl (all1 ?_)
            refine altG_mk _ rfl rfl (fun K hK => ?_)
            go_simp
            refine hK.out _ _ (fun h => absurd h (by decide)) ?_
            clear hK K
            refine as_alt [18] (by kernel_rfl) rfl (all1 ?_)
            refine altG_mk _ rfl rfl (fun K hK => ?_)
            go_simp
            refine hK.out _ _ (fun h => absurd h (by decide)) ?_
            clear hK K
            refine as_alt [19] (by kernel_rfl) rfl (all1 ?_)
            refine altG_mk _ rfl rfl (fun K hK => ?_)
            go_simp
            refine hK.out _ _ (fun h => absurd h (by decide)) ?_
            clear hK K
            refine as_alt [20] (by kernel_rfl) rfl (all1 ?_)
            refine altG_mk _ rfl rfl (fun K hK => ?_)
            go_simp
            refine hK.out _ _ (fun h => absurd h (by decide)) ?_
            clear hK K
            refine as_end (by kernel_rfl) ?_
            clear q0 q1 q2 z0 z1 z2
            generalize (((W29.setCell ⟨w.heap.size + 1, 0, none⟩ (.slice e1 m1 c1)).setCell ⟨w.heap.size + 1, 1, none⟩ (.slice e2 m2 c2)).setCell ⟨w.heap.size + 1, 2, none⟩ (.slice e3 m3 c3)) = WE at *
            have HBE := Lib.hid ((HBW.out.mono (Nat.le_succ _)).trans HTS.out.2)
            have HTE := Lib.hid HTS.out.1
            clear HTS HBW
            go_wp2_with fail
            go_roundw
            case rel => exact ⟨j + 1, _, _, _, by go_num, HM.out.2, by rw [HTA.out, HTT.out, HTL.out, words_append, words_append, List.map_append]; exact HTE.out, HRB4.out.below HBE.out (by omega), at_keep HA4.out (fun g h => HALT2.out g h) (by omega) (by omega) (by omega) HBE.out, HCH4.out.trans (Chg.of_below HBE.out) (fun k hk h => absurd h (by omega))⟩
            case measure => have := HM.out.2; simp [intOf]; omega
          · refine altG_mk _ rfl rfl (fun K hK => ?_)
            go_simp
            have T30 := Lib.hid (T25.out.alloc (.cells #[.int .u64 (Crc.I64 t)] 35))
            have F30 := Lib.hid (Fr.new T25.out (.int .u64 (Crc.I64 t)) 35)
            have G30 := Lib.hid (F25.out.alloc (.cells #[.int .u64 (Crc.I64 t)] 35))
            have P30 := Lib.hid (P25.out.below ((Below.refl _ _).alloc (Nat.le_refl _) (.cells #[.int .u64 (Crc.I64 t)] 35)))
            refine hK.out _ _ (fun _ => T30.out.f) ?_
            clear hK K
            generalize W25.alloc (.cells #[.int .u64 (Crc.I64 t)] 35) = W30 at *
            refine as_alt [3] (by kernel_rfl) rfl (all1 ?_)
            refine altG_mk _ rfl rfl (fun K hK => ?_)
            refine wp_append (.tmp 43) (.tmp 44) _ rfl Dev.el_u64 (w.heap.size + 2) x1 _ _ (by simp [Act.eval, go_sem]) T30.out.o1 b p.length pc (Crc.words p) (by simp [Act.eval, go_sem]) (by rw [Crc.words_length]; omega) P30.out (fl_one _) (by rw [Crc.words_length]; have := HLEN.out; have := hpl; unfold maxLen; omega) (by rw [Crc.words_length]; have := HLEN.out; have := hpl; omega) T30.out.size ?_
            intro y31 W31 a1 a2 a3 a4
            have T31 := Lib.hid (T30.out.app1 a1 a2 a3 a4 (Crc.words_length p))
            have H31_7 := Lib.hid (F30.out.app1 a2 a3)
            have H31_13 := Lib.hid (G30.out.app1 a2 a3)
            refine hK.out _ _ (fun _ => T31.out.f) ?_
            clear hK K a1 a2 a3 a4
            refine as_read (i := 15) _ (.pointer (some ⟨w.heap.size + 1, 0, none⟩)) T31.out.f (fun _ _ d _ _ h => by cases d <;> exact h) rfl (by kernel_rfl) rfl (fun w' hF => by simp [execOp, Act.eval, go_sem]) ?_
            refine as_alt [8] (by kernel_rfl) rfl (all1 ?_)
            refine altG_mk _ rfl rfl (fun K hK => ?_)
            refine wp_append (.tmp 47) (.tmp 49) _ rfl Dev.el_u64 (w.heap.size + 2) x2 _ _ (by simp [Act.eval, go_sem]) T31.out.o2 (some ⟨W25.heap.size, 0, none⟩) 1 1 [.int .u64 (Crc.I64 t)] (by simp [Act.eval, go_sem]) rfl H31_7.out.row (by intro u hu; simp at hu; subst hu; rfl) (by rw [Crc.words_length]; have := HLEN.out; unfold maxLen; omega) (by rw [Crc.words_length]; have := HLEN.out; omega) T31.out.size ?_
            intro y32 W32 a1 a2 a3 a4
            have T32 := Lib.hid (T31.out.app2 a1 a2 a3 a4 rfl)
            have H32_13 := Lib.hid (H31_13.out.app2 a2 a3)
            refine hK.out _ _ (fun _ => T32.out.f) ?_
            clear hK K a1 a2 a3 a4
            refine as_alt [14] (by kernel_rfl) rfl (all1 ?_)
            refine altG_mk _ rfl rfl (fun K hK => ?_)
            refine wp_append (.tmp 52) (.tmp 55) _ rfl el_int (w.heap.size + 2) x3 _ _ (by simp [Act.eval, go_sem]) T32.out.o3 (some ⟨W0.heap.size, 0, none⟩) 1 1 [.int .i64 (p.length : Int)] (by simp [Act.eval, go_sem]) rfl H32_13.out.row (by intro u hu; simp at hu; subst hu; rfl) (by rw [List.length_map]; have := HLEN.out; unfold maxLen; omega) (by rw [List.length_map]; have := HLEN.out; omega) T32.out.size ?_
            intro y33 W33 a1 a2 a3 a4
            have T33 := Lib.hid (T32.out.app3 a1 a2 a3 a4 rfl)
            refine hK.out _ _ (fun _ => T33.out.f) ?_
            clear hK K a1 a2 a3 a4
            obtain ⟨e1, m1, c1, rfl⟩ := own_form3 T33.out.o1
            obtain ⟨e2, m2, c2, rfl⟩ := own_form3 T33.out.o2
            obtain ⟨e3, m3, c3, rfl⟩ := own_form3 T33.out.o3
            have TS := T33.out.stored
            have q0 := T33.out.blk.cell 0
            have q1 := (T33.out.blk.set_ 0 (.slice e1 m1 c1)).cell 1
            have q2 := ((T33.out.blk.set_ 0 (.slice e1 m1 c1)).set_ 1 (.slice e2 m2 c2)).cell 2
            have z0 := T33.out.blk.frozen 0
            have z1 := (T33.out.blk.set_ 0 (.slice e1 m1 c1)).frozen 1
            have z2 := ((T33.out.blk.set_ 0 (.slice e1 m1 c1)).set_ 1 (.slice e2 m2 c2)).frozen 2
            simp at q0 q1 q2
            have HBW := Lib.hid T33.out.base
            have HTS := Lib.hid TS
            clear TS
            refine as_alt [16] (by kernel_rfl) rfl (all1 ?_)
            refine altG_mk _ rfl rfl (fun K hK => ?_)
            go_simp
            refine hK.out _ _ (fun h => absurd h (by decide)) ?_
            clear hK K
            refine as_alt [17] (by kernel_rfl) rfl (all1 ?_)
            refine altG_mk _ rfl rfl (fun K hK => ?_)
            go_simp
            refine hK.out _ _ (fun h => absurd h (by decide)) ?_
            clear hK K
            refine as_alt [18] (by kernel_rfl) rfl (all1 ?_)
            refine altG_mk _ rfl rfl (fun K hK => ?_)
            go_simp
            refine hK.out _ _ (fun h => absurd h (by decide)) ?_
            clear hK K
            refine as_alt [19] (by kernel_rfl) rfl (all1 ?_)
            refine altG_mk _ rfl rfl (fun K hK => ?_)
            go_simp
            refine hK.out _ _ (fun h => absurd h (by decide)) ?_
            clear hK K
            refine as_alt [20] (by kernel_rfl) rfl (all1 ?_)
            refine altG_mk _ rfl rfl (fun K hK => ?_)
            go_simp
            refine hK.out _ _ (fun h => absurd h (by decide)) ?_
            clear hK K
            refine as_end (by kernel_rfl) ?_
            clear q0 q1 q2 z0 z1 z2
            generalize (((W33.setCell ⟨w.heap.size + 1, 0, none⟩ (.slice e1 m1 c1)).setCell ⟨w.heap.size + 1, 1, none⟩ (.slice e2 m2 c2)).setCell ⟨w.heap.size + 1, 2, none⟩ (.slice e3 m3 c3)) = WE at *
            have HBE := Lib.hid ((HBW.out.mono (Nat.le_succ _)).trans HTS.out.2)
            have HTE := Lib.hid HTS.out.1
            clear HTS HBW
            go_wp2_with fail
            go_roundw
            case rel => exact ⟨j + 1, _, _, _, by go_num, HM.out.2, by rw [HTA.out, HTT.out, HTL.out, words_append, words_append, List.map_append]; exact HTE.out, HRB4.out.below HBE.out (by omega), at_keep HA4.out (fun g h => HALT2.out g h) (by omega) (by omega) (by omega) HBE.out, HCH4.out.trans (Chg.of_below HBE.out) (fun k hk h => absurd h (by omega))⟩
            case measure => have := HM.out.2; simp [intOf]; omega
      · have HT3 := Lib.hid (HT2.out.step hb3).self
        have HRB3 := Lib.hid (HRB2.out.below hb3 HRB2.out.lt)
        have HA3 := Lib.hid (HA2.out.below hb3)
        have HCH3 := Lib.hid (HCH2.out.then_below hb3)
        clear HT2 HRB2 HA2 HCH2 hb3 HG
        go_wp2_with fail
        go_roundw
        case rel => exact ⟨j + 1, x1, x2, x3, by go_num, HM.out.2, by rw [HTA.out, HTT.out, HTL.out]; simpa [payC, tagC, lenC] using HT3.out, HRB3.out, HA3.out, HCH3.out⟩
        case measure => have := HM.out.2; simp [intOf]; omega
    · obtain rfl : j = Cs.length := by omega
      have hlt2 : ¬ (Cs.length : Int) < (Cs.length : Int) := by omega
      have HT := Lib.hid hT
      have HRB := Lib.hid hRB
      have HA := Lib.hid hA
      have HCH := Lib.hid hCh
      clear hT hRB hA hCh hlt hj hin
      obtain ⟨e1, m1, c1, rfl⟩ := own_form3 HT.out.o1
      obtain ⟨e2, m2, c2, rfl⟩ := own_form3 HT.out.o2
      obtain ⟨e3, m3, c3, rfl⟩ := own_form3 HT.out.o3
      have q0 := HT.out.blk.cell 0
      have q1 := HT.out.blk.cell 1
      have q2 := HT.out.blk.cell 2
      simp at q0 q1 q2
      have r0 := HRB.out.cell 0
      have r1 := (HRB.out.set_ 0 (.slice e1 m1 c1)).cell 1
      have r2 := ((HRB.out.set_ 0 (.slice e1 m1 c1)).set_ 1 (.slice e2 m2 c2)).cell 2
      have g0 := (((HRB.out.set_ 0 (.slice e1 m1 c1)).set_ 1 (.slice e2 m2 c2)).set_ 2 (.slice e3 m3 c3)).cell 0
      have g1 := (((HRB.out.set_ 0 (.slice e1 m1 c1)).set_ 1 (.slice e2 m2 c2)).set_ 2 (.slice e3 m3 c3)).cell 1
      have g2 := (((HRB.out.set_ 0 (.slice e1 m1 c1)).set_ 1 (.slice e2 m2 c2)).set_ 2 (.slice e3 m3 c3)).cell 2
      simp at r0 r1 r2 g0 g1 g2
      have z0 := HRB.out.frozen 0
      have z1 := (HRB.out.set_ 0 (.slice e1 m1 c1)).frozen 1
      have z2 := ((HRB.out.set_ 0 (.slice e1 m1 c1)).set_ 1 (.slice e2 m2 c2)).frozen 2
      go_wp2_with fail
      refine bodyPost_ret (v := .tuple #[.agg #[.slice e1 m1 c1, .slice e2 m2 c2, .slice e3 m3 c3], .int .i64 0]) ?_ rfl ?_
      · rw [results_cell_tmp rfl]
        go_simp
      have hc1 : Chg (fun k => k = w.heap.size) wr (wr.setCell ⟨w.heap.size, 0, none⟩ (.slice e1 m1 c1)) := Chg.setCell (Chg.refl (fun k => k = w.heap.size) wr) ⟨w.heap.size, 0, none⟩ _ (fun _ => rfl)
      have hc2 := Chg.setCell hc1 ⟨w.heap.size, 1, none⟩ (.slice e2 m2 c2) (fun _ => rfl)
      have hc3 := Chg.setCell hc2 ⟨w.heap.size, 2, none⟩ (.slice e3 m3 c3) (fun _ => rfl)
      have hT := HT.out.chg hc3 (by omega) (fun g hg => by omega)
      have ht : Cs.take Cs.length = Cs := List.take_length
      have h1 := own_mono hT.o1 (base' := w.heap.size) (by omega)
      have h2 := own_mono hT.o2 (base' := w.heap.size) (by omega)
      have h3 := own_mono hT.o3 (base' := w.heap.size) (by omega)
      rw [ht] at h1 h2 h3
      rw [Crc.words_length] at h1 h2
      rw [List.length_map] at h3
      exact ⟨_, _, _, rfl, h1, h2, h3, HOUT.out _ _ (at_keep HA.out HALT3.out hal hll hnl (hc3.below_of (by have := HCH.out.size; omega) (fun k hk e => by omega))), HCH.out.trans hc3 (fun k hk e => absurd e (by omega))⟩

end Go.Proofs.YtmmkncocgjgapaaDoor.Mf

/- Names and their words: pack and unpack. -/
namespace Go.Proofs.YtmmkncocgjgapaaDoor.Mf
open Go.RowKit

/-- The number of the bytes from place k on, so many of them, zeros behind the name's end. -/
def packN (s : ByteArray) : Nat → Nat
  | 0 => 0
  | k + 1 => packN s k * 256 + (if h : k < s.size then (s[k]'h).toNat else 0)
theorem packN_lt (s : ByteArray) : ∀ k, packN s k < 256 ^ k
  | 0 => by simp [packN]
  | k + 1 => by
    have h := packN_lt s k
    unfold packN
    have : (if h : k < s.size then (s[k]'h).toNat else 0) < 256 := by
      split
      · rename_i h2
        exact (s[k]'h2).toNat_lt
      · omega
    rw [Nat.pow_succ]
    generalize (if h : k < s.size then (s[k]'h).toNat else 0) = y at *
    generalize 256 ^ k = z at *
    omega
theorem or_byte (x y : Nat) (hx : x < 72057594037927936) (hy : y < 256) : bits BinOp.or IntKind.u64 ((x : Int) * 256) (IntKind.u64.wrap (y : Int)) = ((x * 256 + y : Nat) : Int) := by
  have h1 : ((x : Int) * 256) = Crc.I64 (BitVec.ofNat 64 (x * 256)) := by
    rw [Crc.I64_ofNat (by omega)]
    omega
  have h2 : IntKind.u64.wrap (y : Int) = Crc.I64 (BitVec.ofNat 64 y) := by
    rw [Crc.u64_wrap_id (by omega) (by omega), Crc.I64_ofNat (by omega)]
  refine (Crc.bits64 (· ||| ·) _ _ _ _ h1 h2).trans ?_
  unfold Crc.I64
  rw [BitVec.toNat_or, BitVec.toNat_ofNat, BitVec.toNat_ofNat, Nat.mod_eq_of_lt (by omega), Nat.mod_eq_of_lt (by omega)]
  have := Nat.shiftLeft_add_eq_or_of_lt (b := y) (i := 8) (by omega) x
  rw [Nat.shiftLeft_eq] at this
  rw [← this]
def PackLoop (s : ByteArray) (w : World) (xv iv : Value) (wr : World) : Prop := ∃ k : Nat, iv = .int .i64 (k : Int) ∧ k ≤ 8 ∧ xv = .int .u64 ((packN s k : Nat) : Int) ∧ w = wr
set_option maxRecDepth 100000 in
theorem pack_any (s : ByteArray) (w : World) : Calls Tryd.prog 30 #[.string s] w (fun e w' => e = .returned (.int .u64 ((packN s 8 : Nat) : Int)) ∧ w = w') := by
  go_enter Tryd.func30, Tryd.ntmps30
  go_wp2_with fail
  go_loopw [3, 5] (fun xv iv wr => PackLoop s w xv iv wr) (fun _ iv _ => 8 - (intOf iv).toNat)
  case atStart => exact ⟨0, rfl, by omega, rfl, rfl⟩
  case round =>
    obtain ⟨k, rfl, hk, rfl, rfl⟩ := hrel
    by_cases hlt : k < 8
    · have hlt2 : (k : Int) < 8 := by omega
      have i0 : (0 : Int) ≤ (k : Int) := by omega
      have hb := packN_lt s k
      have hb2 : packN s k < 72057594037927936 := Nat.lt_of_lt_of_le hb (Nat.le_trans (Nat.pow_le_pow_right (by omega) (show k ≤ 7 by omega)) (by decide))
      have HM := Lib.hid (And.intro hk hlt)
      have HS : Hid (packN s (k + 1) = packN s k * 256 + (if h : k < s.size then (s[k]'h).toNat else 0)) := Lib.hid rfl
      generalize packN s k = x at *
      clear hb hk hlt
      by_cases hin : k < s.size
      · have hin2 : (k : Int) < (s.size : Int) := by omega
        have HS2 := Lib.hid (show packN s (k + 1) = x * 256 + (s[k]'hin).toNat from by rw [HS.out, dif_pos hin])
        go_wp2_with fail
        have hor := or_byte x (s[k]'hin).toNat hb2 (s[k]'hin).toNat_lt
        rw [hor]
        go_roundw
        case rel => exact ⟨k + 1, by go_num, HM.out.2, by rw [HS2.out], rfl⟩
        case measure => have := HM.out.2; simp [intOf]; omega
      · have hin2 : ¬ (k : Int) < (s.size : Int) := by omega
        have HS2 := Lib.hid (show packN s (k + 1) = x * 256 from by rw [HS.out, dif_neg hin]; rfl)
        go_wp2_with fail
        go_roundw
        case rel => exact ⟨k + 1, by go_num, HM.out.2, by rw [HS2.out]; simp, rfl⟩
        case measure => have := HM.out.2; simp [intOf]; omega
    · obtain rfl : k = 8 := by omega
      go_wp2_with fail
      go_ret
      exact ⟨rfl, rfl⟩

/-- A word that begins with these bytes, zeros behind them. -/
def leftW : List UInt8 → Nat
  | [] => 0
  | c :: l => c.toNat * 72057594037927936 + leftW l / 256
theorem leftW_lt : ∀ l : List UInt8, leftW l < 18446744073709551616
  | [] => by simp [leftW]
  | c :: l => by
    have := leftW_lt l
    have hc := c.toNat_lt
    unfold leftW
    omega
theorem leftW_dvd : ∀ l : List UInt8, l.length ≤ 8 → ∃ q, leftW l = 256 ^ (8 - l.length) * q
  | [], _ => ⟨0, rfl⟩
  | c :: l, h => by
    rw [List.length_cons] at h
    obtain ⟨q, hq⟩ := leftW_dvd l (by omega)
    have e1 : 8 - l.length = (8 - (l.length + 1)) + 1 := by omega
    refine ⟨c.toNat * 256 ^ l.length + q, ?_⟩
    unfold leftW
    rw [hq, e1, Nat.pow_succ, List.length_cons, Nat.mul_add]
    rw [show 256 ^ (8 - (l.length + 1)) * 256 * q = 256 ^ (8 - (l.length + 1)) * q * 256 from by rw [Nat.mul_assoc, Nat.mul_comm 256 q, Nat.mul_assoc], Nat.mul_div_cancel _ (by omega)]
    congr 1
    rw [Nat.mul_comm (256 ^ _) (_ * _), Nat.mul_assoc, ← Nat.pow_add, show l.length + (8 - (l.length + 1)) = 7 from by omega]
theorem leftW_next {c : UInt8} {l : List UInt8} (h : l.length ≤ 7) : leftW (c :: l) * 256 % 18446744073709551616 = leftW l ∧ leftW (c :: l) / 72057594037927936 = c.toNat := by
  obtain ⟨q, hq⟩ := leftW_dvd l (by omega)
  have e1 : 8 - l.length = (7 - l.length) + 1 := by omega
  rw [e1, Nat.pow_succ, Nat.mul_assoc, Nat.mul_comm 256 q, ← Nat.mul_assoc] at hq
  have := leftW_lt l
  have hc := c.toNat_lt
  rw [show leftW (c :: l) = c.toNat * 72057594037927936 + leftW l / 256 from rfl]
  generalize 256 ^ (7 - l.length) * q = z at *
  generalize leftW l = y at *
  generalize c.toNat = x at *
  constructor <;> omega
theorem leftW_snoc (c : UInt8) : ∀ l : List UInt8, l.length ≤ 7 → leftW (l ++ [c]) = leftW l + c.toNat * 256 ^ (7 - l.length)
  | [], _ => by simp [leftW]
  | d :: l, h => by
    rw [List.length_cons] at h
    have ih := leftW_snoc c l (by omega)
    rw [List.cons_append]
    unfold leftW
    rw [ih, List.length_cons, show 7 - l.length = (7 - (l.length + 1)) + 1 from by omega, Nat.pow_succ, ← Nat.mul_assoc, Nat.add_mul_div_right _ _ (by omega)]
    omega
theorem packN_left (s : ByteArray) : ∀ k, k ≤ 8 → packN s k * 256 ^ (8 - k) = leftW (s.data.toList.take k)
  | 0, _ => by simp [packN, leftW]
  | k + 1, h => by
    have ih := packN_left s k (by omega)
    have hsz : s.data.toList.length = s.size := by rw [Array.length_toList]; rfl
    unfold packN
    split
    · rename_i hk
      have hk2 : k < s.data.toList.length := by omega
      rw [List.take_succ_eq_append_getElem hk2, leftW_snoc _ _ (by rw [List.length_take]; omega), ← ih, List.length_take, Nat.min_eq_left (by omega), Nat.add_mul, Nat.mul_assoc, ← Nat.pow_succ', show (8 - (k + 1)).succ = 8 - k from by omega, show 8 - (k + 1) = 7 - k from by omega]
      congr 1
    · rename_i hk
      rw [List.take_of_length_le (by omega), ← List.take_of_length_le (l := s.data.toList) (i := k) (by omega), ← ih, Nat.add_zero, Nat.mul_assoc, ← Nat.pow_succ', show (8 - (k + 1)).succ = 8 - k from by omega]
theorem packN_word {s : ByteArray} (h : s.size ≤ 8) : packN s 8 = leftW s.data.toList := by
  have := packN_left s 8 (Nat.le_refl _)
  have hsz : s.data.toList.length = s.size := by rw [Array.length_toList]; rfl
  rw [List.take_of_length_le (by omega)] at this
  simpa using this

end Go.Proofs.YtmmkncocgjgapaaDoor.Mf
