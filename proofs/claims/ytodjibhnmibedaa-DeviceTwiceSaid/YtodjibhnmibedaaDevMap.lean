/- What a device's maps and its list of writes hold. -/
import Derived.Test.YtodjibhnmibedaaDev
set_option linter.unusedVariables false
namespace Go.Proofs.Ytodjibhnmibedaa
open Go.RowKit

section
variable {κ : Type} [DecidableEq κ]
theorem look_set {kv : List (κ × Value)} {k : κ} {i : Nat} {v0 v : Value} (h : locate k kv 0 = some (i, v0)) (j : κ) : look (kv.set i (k, v)) j = if j = k then some v else look kv j := by
  have key : ∀ (kv : List (κ × Value)) (s i : Nat) (v0 : Value), locate k kv s = some (s + i, v0) → look (kv.set i (k, v)) j = if j = k then some v else look kv j := by
    intro kv
    induction kv with
    | nil => intro s i v0 h; cases h
    | cons p kv ih =>
      intro s i v0 h
      unfold locate at h
      by_cases hp : p.1 = k
      · rw [if_pos hp] at h
        injection h with h
        injection h with h1 h2
        obtain rfl : i = 0 := by omega
        unfold look
        by_cases hj : j = k
        · simp [hj]
        · have hkj : ¬ k = j := fun e => hj e.symm
          simp [hj, hp, hkj]
      · rw [if_neg hp] at h
        obtain ⟨h1, _⟩ := locate_some h
        obtain ⟨i', rfl⟩ : ∃ i', i = i' + 1 := ⟨i - 1, by omega⟩
        have := ih (s + 1) i' v0 (by rw [h]; congr 2; omega)
        unfold look at this ⊢
        rw [List.set_cons_succ, List.find?_cons, List.find?_cons]
        by_cases hj : p.1 = j
        · have : ¬ j = k := fun e => hp (hj.trans e)
          simp [hj, this]
        · simp only [hj, decide_false]
          exact this
  exact key kv 0 i v0 (by rw [Nat.zero_add]; exact h)

theorem look_none {kv : List (κ × Value)} {k : κ} (h : locate k kv 0 = none) : look kv k = none := by
  rw [← locate_map kv 0, h]
  rfl

theorem look_put (kv : List (κ × Value)) (k : κ) (v : Value) (j : κ) : look (put_ kv k v) j = if j = k then some v else look kv j := by
  unfold put_
  cases h : locate k kv 0 with
  | some x =>
    obtain ⟨i, v0⟩ := x
    exact look_set h j
  | none =>
    have h1 := look_none h
    by_cases hj : j = k
    · subst hj
      rw [if_pos rfl]
      unfold look at h1 ⊢
      rw [List.find?_append]
      rw [Option.map_eq_none_iff] at h1
      rw [h1]
      simp
    · rw [if_neg hj]
      unfold look
      rw [List.find?_append]
      have hkj : ¬ k = j := fun e => hj e.symm
      simp [hkj]
end

namespace Dev

/-- The slice is a row of its own and holds these words. -/
def HeldV (w : World) (base : Nat) (v : Value) (ws : List Value) : Prop := w.ownsRow base 22 1 v ws.length ws ∧ ∀ u ∈ ws, u.oneCell' = true

theorem HeldV.chg {w w' : World} {base : Nat} {v : Value} {ws : List Value} {S : Nat → Prop} (h : HeldV w base v ws) (hc : Chg S w w') (hS : ∀ g cs, base ≤ g → Blk w g 22 cs → ¬ S g) : HeldV w' base v ws := by
  refine ⟨own_chg h.1 hc (fun g hg hs => ?_), h.2⟩
  rcases h.1.2 with ⟨rfl, _⟩ | ⟨g', cap, cur, rfl, hb, hh, _⟩
  · simp [Value.ownBlock] at hg
  · have : g' = g := by simpa [Value.ownBlock] using hg
    subst this
    exact hS _ cur hb hh hs

/-- One optional row. -/
def OptHeld (w : World) (base : Nat) : Option Value → Option (List Value) → Prop
  | none, none => True
  | some v, some ws => HeldV w base v ws
  | _, _ => False
theorem OptHeld.chg {w w' : World} {base : Nat} {S : Nat → Prop} {v : Option Value} {ws : Option (List Value)} (h : OptHeld w base v ws) (hc : Chg S w w') (hS : ∀ g cs, base ≤ g → Blk w g 22 cs → ¬ S g) : OptHeld w' base v ws := by
  match v, ws with
  | none, none => trivial
  | some v, some ws => exact HeldV.chg h hc hS
  | none, some _ => exact h
  | some _, none => exact h

/-- Map number r holds these blocks. -/
def DMap (w : World) (base r : Nat) (f : Int → Option (List Value)) : Prop := ∃ kv, IsMap (Value.int .i64) w r kv ∧ ∀ k, OptHeld w base (look kv k) (f k)
def upd (f : Int → Option (List Value)) (k : Int) (ws : List Value) : Int → Option (List Value) := fun j => if j = k then some ws else f j

theorem DMap.lt {w : World} {base r : Nat} {f : Int → Option (List Value)} (h : DMap w base r f) : r < w.heap.size := by
  obtain ⟨kv, h, _⟩ := h
  exact h.lt
theorem DMap.chg {w w' : World} {base r : Nat} {f : Int → Option (List Value)} {S : Nat → Prop} (h : DMap w base r f) (hc : Chg S w w') (hr : ¬ S r) (hS : ∀ g cs, base ≤ g → Blk w g 22 cs → ¬ S g) : DMap w' base r f := by
  obtain ⟨kv, h1, h2⟩ := h
  exact ⟨kv, h1.chg hc hr, fun k => (h2 k).chg hc hS⟩
theorem DMap.drewN {w : World} {base r : Nat} {f : Int → Option (List Value)} (h : DMap w base r f) (n : Nat) : DMap (w.drewN n) base r f := h
theorem DMap.new (w : World) (base : Nat) : DMap (w.alloc (.map #[] 0)) base w.heap.size (fun _ => none) := ⟨[], IsMap.new _ w, fun k => trivial⟩
theorem DMap.ne_blk {w : World} {base r : Nat} {f : Int → Option (List Value)} (h : DMap w base r f) {g : Nat} {t : TypeId} {cs : Array Value} (hb : Blk w g t cs) : g ≠ r := by
  obtain ⟨kv, h, _⟩ := h
  exact h.ne_blk hb
/-- Behind a store into the map. -/
theorem DMap.put {w w' : World} {base r : Nat} {f : Int → Option (List Value)} {kv : List (Int × Value)} (hk : ∀ k, OptHeld w base (look kv k) (f k)) (k : Int) (v : Value) (ws : List Value) (hv : HeldV w base v ws) (hm : IsMap (Value.int .i64) w' r (put_ kv k v)) (hc : Chg (fun k => k = r) w w') (hr : ∃ es c, w.heap[r]? = some (.map es c)) : DMap w' base r (upd f k ws) := by
  have hS : ∀ g cs, base ≤ g → Blk w g 22 cs → ¬ g = r := by
    rintro g cs _ hb rfl
    obtain ⟨es, c, he⟩ := hr
    unfold Blk at hb
    rw [he] at hb
    cases hb
  refine ⟨_, hm, fun j => ?_⟩
  rw [look_put]
  unfold upd
  by_cases hj : j = k
  · rw [if_pos hj, if_pos hj]
    exact HeldV.chg hv hc hS
  · rw [if_neg hj, if_neg hj]
    exact (hk j).chg hc hS

def pcells (pr : List (Int × Value)) : List Value := pr.flatMap fun p => [.int .i64 p.1, p.2]
theorem pcells_length (pr : List (Int × Value)) : (pcells pr).length = pr.length * 2 := by
  induction pr with
  | nil => rfl
  | cons p pr ih => simp only [pcells, List.flatMap_cons, List.length_append, List.length_cons, List.length_nil] at ih ⊢; omega
theorem pcells_append (a b : List (Int × Value)) : pcells (a ++ b) = pcells a ++ pcells b := by simp [pcells]
theorem pcells_get (pr : List (Int × Value)) (k : Nat) (h : k < pr.length) : (pcells pr)[k * 2]? = some (.int .i64 pr[k].1) ∧ (pcells pr)[k * 2 + 1]? = some pr[k].2 := by
  induction pr generalizing k with
  | nil => simp at h
  | cons p pr ih =>
    have e : pcells (p :: pr) = .int .i64 p.1 :: p.2 :: pcells pr := by simp [pcells]
    rw [e]
    match k, h with
    | 0, _ => exact ⟨rfl, rfl⟩
    | k + 1, h =>
      have := ih k (by simpa using h)
      rw [show (k + 1) * 2 = k * 2 + 1 + 1 from by omega, show (k * 2 + 1 + 1 + 1) = (k * 2 + 1) + 1 + 1 from rfl]
      simpa using this

/-- The list of writes that may not last. -/
def Pend (w : World) (base : Nat) (pv : Value) (l : List (Int × List Value)) : Prop :=
  ∃ pr : List (Int × Value), w.ownsRow base 84 2 pv l.length (pcells pr) ∧ pr.length = l.length ∧ ∀ j (h : j < pr.length) (h' : j < l.length), pr[j].1 = l[j].1 ∧ HeldV w base pr[j].2 l[j].2
theorem Pend.nil (w : World) (base : Nat) : Pend w base (.slice none 0 0) [] := ⟨[], World.ownsRow_nil _ _ _ _, rfl, fun j h => by simp at h⟩
theorem Pend.chg {w w' : World} {base : Nat} {pv : Value} {l : List (Int × List Value)} {S : Nat → Prop} (h : Pend w base pv l) (hc : Chg S w w') (hp : ∀ g, pv.ownBlock = some g → ¬ S g) (hS : ∀ g cs, base ≤ g → Blk w g 22 cs → ¬ S g) : Pend w' base pv l := by
  obtain ⟨pr, h1, h2, h3⟩ := h
  exact ⟨pr, own_chg h1 hc hp, h2, fun j hj hj' => ⟨(h3 j hj hj').1, (h3 j hj hj').2.chg hc hS⟩⟩

/-- A device at block a. -/
structure At (w : World) (base a rl rn : Nat) (pv : Value) (D : Dv) : Prop where
  box : Box w a D rl rn pv
  ne : rl ≠ rn
  lasts : DMap w base rl D.lasts
  now : DMap w base rn D.now
  pend : Pend w base pv D.pend
  nums : Nums D

section
variable {w w' : World} {base a rl rn : Nat} {pv : Value} {D D' : Dv} {S : Nat → Prop}
theorem At.drewN (h : At w base a rl rn pv D) (n : Nat) : At (w.drewN n) base a rl rn pv D := ⟨h.box, h.ne, h.lasts, h.now, h.pend, h.nums⟩
theorem At.pend_ne (h : At w base a rl rn pv D) {g : Nat} (hg : pv.ownBlock = some g) : g ≠ a ∧ g ≠ rl ∧ g ≠ rn := by
  obtain ⟨pr, h1, _⟩ := h.pend
  obtain ⟨kl, hl, _⟩ := h.lasts
  obtain ⟨kn, hn, _⟩ := h.now
  refine ⟨?_, ?_, ?_⟩
  · rintro rfl; exact own_ne_blk h1 h.box (by decide) hg
  · rintro rfl; exact hl.ne_own h1 hg
  · rintro rfl; exact hn.ne_own h1 hg
/-- Nothing of the device is among the blocks that may have turned. -/
theorem At.chg (h : At w base a rl rn pv D) (hc : Chg S w w') (ha : ¬ S a) (hl : ¬ S rl) (hn : ¬ S rn) (hp : ∀ g, pv.ownBlock = some g → ¬ S g) (hS : ∀ g cs, base ≤ g → Blk w g 22 cs → ¬ S g) : At w' base a rl rn pv D :=
  ⟨h.box.chg hc ha, h.ne, h.lasts.chg hc hl hS, h.now.chg hc hn hS, h.pend.chg hc hp hS, h.nums⟩
theorem At.below (h : At w base a rl rn pv D) (hb : Below w.heap.size w w') : At w' base a rl rn pv D :=
  h.chg (Chg.of_below' (S := fun _ => False) hb) (fun h => h) (fun h => h) (fun h => h) (fun _ _ h => h) (fun _ _ _ _ h => h)
/-- Only the device's own block has turned, and of it only fuse, fault, power and count. -/
theorem At.of_box (h : At w base a rl rn pv D) (hc : Chg (fun k => k = a) w w') (hb : Box w' a D' rl rn pv) (h1 : D'.lasts = D.lasts) (h2 : D'.now = D.now) (h3 : D'.pend = D.pend) (h4 : Nums D') : At w' base a rl rn pv D' := by
  have hS : ∀ g cs, base ≤ g → Blk w g 22 cs → ¬ g = a := fun g cs _ hg e => hg.ne_ h.box (by decide) e
  have hl : ¬ rl = a := fun e => h.lasts.ne_blk h.box e.symm
  have hn : ¬ rn = a := fun e => h.now.ne_blk h.box e.symm
  exact ⟨hb, h.ne, h1 ▸ h.lasts.chg hc hl hS, h2 ▸ h.now.chg hc hn hS, h3 ▸ h.pend.chg hc (fun g hg => (h.pend_ne hg).1) hS, h4⟩
theorem Dv.act_same (D : Dv) : D.act.2.lasts = D.lasts ∧ D.act.2.now = D.now ∧ D.act.2.pend = D.pend ∧ D.act.2.size = D.size ∧ D.act.2.blocks = D.blocks ∧ D.act.2.acts ≤ D.acts + 1 := by
  unfold Dv.act
  split
  · exact ⟨rfl, rfl, rfl, rfl, rfl, by simp [Dv.blow]⟩
  · split
    · exact ⟨rfl, rfl, rfl, rfl, rfl, by simp [Dv.fail, Dv.burn]⟩
    · exact ⟨rfl, rfl, rfl, rfl, rfl, by simp [Dv.done, Dv.burn]⟩
theorem At.acted (h : At w base a rl rn pv D) (hc : Chg (fun k => k = a) w w') (hb : Box w' a D.act.2 rl rn pv) (hn : D.acts + 1 < 4611686018427387904) : At w' base a rl rn pv D.act.2 := by
  obtain ⟨h1, h2, h3, _⟩ := D.act_same
  exact h.of_box hc hb h1 h2 h3 (Dv.act_nums h.nums hn)
end

end Dev
end Go.Proofs.Ytodjibhnmibedaa
