/- cutter.cut, and join.Cut as a whole. -/
import Derived.Test.YtlbaigkpojkfjaaZJnTCut
import Derived.Test.YtlbaigkpojkfjaaZJnKeep2
set_option linter.unusedVariables false
namespace Go.Proofs.Ytlbaigkpojkfjaa.Fl
open Go.RowKit

theorem cgo_len (t : List Int) : ∀ (ks : List Int) (i : Nat) (acc : List Int), (cgo t i acc ks).length = acc.length
  | [], _, _ => rfl
  | k :: ks, i, acc => by
    unfold cgo
    rw [cgo_len t ks]
    split
    · rfl
    · exact List.length_set
theorem cutO_len (t o : List Int) : (cutO t o).length = 5 := cgo_len t o 0 _

section
variable {w w' : World} {O : Nat → Prop} {K : Key} {W : Wk}
set_option maxRecDepth 100000 in
set_option maxHeartbeats 2000000 in
theorem cutter_any (t0 t1 t2 t3 t4 o0 o1 o2 o3 o4 : Int) (w : World) (hfo : formedO [o0, o1, o2, o3, o4] = true) (hr : ∀ k ∈ [o0, o1, o2, o3, o4], -5 ≤ k ∧ k ≤ 5) : Calls Try.prog 45 #[.agg #[.int .i64 o0, .int .i64 o1, .int .i64 o2, .int .i64 o3, .int .i64 o4], .agg #[.int .i64 t0, .int .i64 t1, .int .i64 t2, .int .i64 t3, .int .i64 t4]] w (fun e w' => e = .returned (.tuple #[.agg (tcells (cutO [t0, t1, t2, t3, t4] [o0, o1, o2, o3, o4])), .bool true, .int .i64 0]) ∧ Below w.heap.size w w') := by
  obtain ⟨a0, a1, a2, a3, a4, ha⟩ : ∃ a0 a1 a2 a3 a4 : Int, cutO [t0, t1, t2, t3, t4] [o0, o1, o2, o3, o4] = [a0, a1, a2, a3, a4] := by
    have hl := cutO_len [t0, t1, t2, t3, t4] [o0, o1, o2, o3, o4]
    match cutO [t0, t1, t2, t3, t4] [o0, o1, o2, o3, o4], hl with
    | [a, b, c, d, e], _ => exact ⟨_, _, _, _, _, rfl⟩
  have hC := Lib.hid (fun W' => tcut_any t0 t1 t2 t3 t4 o0 o1 o2 o3 o4 W' hfo hr)
  rw [ha] at hC ⊢
  rw [show tcells [a0, a1, a2, a3, a4] = #[.int .i64 a0, .int .i64 a1, .int .i64 a2, .int .i64 a3, .int .i64 a4] from rfl] at hC ⊢
  have hK := ((Blk.new w 89 #[.int .i64 o0, .int .i64 o1, .int .i64 o2, .int .i64 o3, .int .i64 o4]).alloc (.cells #[.int .i64 t0, .int .i64 t1, .int .i64 t2, .int .i64 t3, .int .i64 t4] 57)).alloc (.cells #[.int .i64 0, .int .i64 0, .int .i64 0, .int .i64 0, .int .i64 0] 57)
  have hT := (Blk.new (w.alloc (.cells #[.int .i64 o0, .int .i64 o1, .int .i64 o2, .int .i64 o3, .int .i64 o4] 89)) 57 #[.int .i64 t0, .int .i64 t1, .int .i64 t2, .int .i64 t3, .int .i64 t4]).alloc (.cells #[.int .i64 0, .int .i64 0, .int .i64 0, .int .i64 0, .int .i64 0] 57)
  have hR := Blk.new ((w.alloc (.cells #[.int .i64 o0, .int .i64 o1, .int .i64 o2, .int .i64 o3, .int .i64 o4] 89)).alloc (.cells #[.int .i64 t0, .int .i64 t1, .int .i64 t2, .int .i64 t3, .int .i64 t4] 57)) 57 #[.int .i64 0, .int .i64 0, .int .i64 0, .int .i64 0, .int .i64 0]
  rw [show (w.alloc (.cells #[.int .i64 o0, .int .i64 o1, .int .i64 o2, .int .i64 o3, .int .i64 o4] 89)).heap.size = w.heap.size + 1 from by simp] at hT
  rw [show ((w.alloc (.cells #[.int .i64 o0, .int .i64 o1, .int .i64 o2, .int .i64 o3, .int .i64 o4] 89)).alloc (.cells #[.int .i64 t0, .int .i64 t1, .int .i64 t2, .int .i64 t3, .int .i64 t4] 57)).heap.size = w.heap.size + 1 + 1 from by simp] at hR
  have hbl : Below w.heap.size w (((w.alloc (.cells #[.int .i64 o0, .int .i64 o1, .int .i64 o2, .int .i64 o3, .int .i64 o4] 89)).alloc (.cells #[.int .i64 t0, .int .i64 t1, .int .i64 t2, .int .i64 t3, .int .i64 t4] 57)).alloc (.cells #[.int .i64 0, .int .i64 0, .int .i64 0, .int .i64 0, .int .i64 0] 57)) := (((Below.refl _ _).alloc (Nat.le_refl _) _).alloc (by simp) _).alloc (by simp; omega) _
  have HK := Lib.hid hK
  have HT := Lib.hid hT
  have HR := Lib.hid hR
  have HB := Lib.hid hbl
  clear hK hT hR hbl hfo hr ha
  go_enter Try.func45, Try.ntmps45
  go_wp2_with fail
  generalize (((w.alloc (.cells #[.int .i64 o0, .int .i64 o1, .int .i64 o2, .int .i64 o3, .int .i64 o4] 89)).alloc (.cells #[.int .i64 t0, .int .i64 t1, .int .i64 t2, .int .i64 t3, .int .i64 t4] 57)).alloc (.cells #[.int .i64 0, .int .i64 0, .int .i64 0, .int .i64 0, .int .i64 0] 57)) = w1 at *
  have k0 : w1.cell? ⟨w.heap.size, 0, none⟩ = some (.int .i64 o0) := HK.out.cell 0
  have e0 : w1.cell? ⟨w.heap.size + 1, 0, none⟩ = some (.int .i64 t0) := HT.out.cell 0
  have k1 : w1.cell? ⟨w.heap.size, 1, none⟩ = some (.int .i64 o1) := HK.out.cell 1
  have e1 : w1.cell? ⟨w.heap.size + 1, 1, none⟩ = some (.int .i64 t1) := HT.out.cell 1
  have k2 : w1.cell? ⟨w.heap.size, 2, none⟩ = some (.int .i64 o2) := HK.out.cell 2
  have e2 : w1.cell? ⟨w.heap.size + 1, 2, none⟩ = some (.int .i64 t2) := HT.out.cell 2
  have k3 : w1.cell? ⟨w.heap.size, 3, none⟩ = some (.int .i64 o3) := HK.out.cell 3
  have e3 : w1.cell? ⟨w.heap.size + 1, 3, none⟩ = some (.int .i64 t3) := HT.out.cell 3
  have k4 : w1.cell? ⟨w.heap.size, 4, none⟩ = some (.int .i64 o4) := HK.out.cell 4
  have e4 : w1.cell? ⟨w.heap.size + 1, 4, none⟩ = some (.int .i64 t4) := HT.out.cell 4
  go_wp2_with fail
  refine (hC.out w1).mono ?_
  rintro e w2 ⟨rfl, hb2⟩
  have hR2 := HR.out.below hb2 HR.out.lt
  have z0 : w2.cell? ⟨w.heap.size + 1 + 1, 0, none⟩ = some (.int .i64 0) := hR2.cell 0
  have f0 := hR2.frozen 0
  have z1 : w2.cell? ⟨w.heap.size + 1 + 1, 1, none⟩ = some (.int .i64 0) := hR2.cell 1
  have f1 := hR2.frozen 1
  have z2 : w2.cell? ⟨w.heap.size + 1 + 1, 2, none⟩ = some (.int .i64 0) := hR2.cell 2
  have f2 := hR2.frozen 2
  have z3 : w2.cell? ⟨w.heap.size + 1 + 1, 3, none⟩ = some (.int .i64 0) := hR2.cell 3
  have f3 := hR2.frozen 3
  have z4 : w2.cell? ⟨w.heap.size + 1 + 1, 4, none⟩ = some (.int .i64 0) := hR2.cell 4
  have f4 := hR2.frozen 4
  have HZ := Lib.hid (((((hR2.set_ 0 (.int .i64 a0)).set_ 1 (.int .i64 a1)).set_ 2 (.int .i64 a2)).set_ 3 (.int .i64 a3)).set_ 4 (.int .i64 a4))
  have HBB := Lib.hid ((((((HB.out.trans (hb2.mono HB.out.size)).setCell (p := ⟨w.heap.size + 1 + 1, 0, none⟩) (show w.heap.size ≤ w.heap.size + 1 + 1 by omega) (.int .i64 a0)).setCell (p := ⟨w.heap.size + 1 + 1, 1, none⟩) (show w.heap.size ≤ w.heap.size + 1 + 1 by omega) (.int .i64 a1)).setCell (p := ⟨w.heap.size + 1 + 1, 2, none⟩) (show w.heap.size ≤ w.heap.size + 1 + 1 by omega) (.int .i64 a2)).setCell (p := ⟨w.heap.size + 1 + 1, 3, none⟩) (show w.heap.size ≤ w.heap.size + 1 + 1 by omega) (.int .i64 a3)).setCell (p := ⟨w.heap.size + 1 + 1, 4, none⟩) (show w.heap.size ≤ w.heap.size + 1 + 1 by omega) (.int .i64 a4))
  clear hR2 hb2 k0 k1 k2 k3 k4 e0 e1 e2 e3 e4
  go_wp2_with fail
  generalize (((((w2.setCell ⟨w.heap.size + 1 + 1, 0, none⟩ (.int .i64 a0)).setCell ⟨w.heap.size + 1 + 1, 1, none⟩ (.int .i64 a1)).setCell ⟨w.heap.size + 1 + 1, 2, none⟩ (.int .i64 a2)).setCell ⟨w.heap.size + 1 + 1, 3, none⟩ (.int .i64 a3)).setCell ⟨w.heap.size + 1 + 1, 4, none⟩ (.int .i64 a4)) = w9 at *
  have s0 : w9.cell? ⟨w.heap.size + 1 + 1, 0, none⟩ = some (.int .i64 a0) := HZ.out.cell 0
  have s1 : w9.cell? ⟨w.heap.size + 1 + 1, 1, none⟩ = some (.int .i64 a1) := HZ.out.cell 1
  have s2 : w9.cell? ⟨w.heap.size + 1 + 1, 2, none⟩ = some (.int .i64 a2) := HZ.out.cell 2
  have s3 : w9.cell? ⟨w.heap.size + 1 + 1, 3, none⟩ = some (.int .i64 a3) := HZ.out.cell 3
  have s4 : w9.cell? ⟨w.heap.size + 1 + 1, 4, none⟩ = some (.int .i64 a4) := HZ.out.cell 4
  refine bodyPost_ret (v := .tuple #[.agg #[.int .i64 a0, .int .i64 a1, .int .i64 a2, .int .i64 a3, .int .i64 a4], .bool true, .int .i64 0]) (by simp [results, Try.results45, go_sem, s0, s1, s2, s3, s4]; try rfl) rfl ?_
  exact ⟨rfl, HBB.out⟩

/-- A tuple, cut. -/
def cutT (o : List Int) (t : Tup) : Tup := (cutO (t.map BitVec.toInt) o).map (BitVec.ofInt 64)
theorem cgo_mem (t : List Int) (b : Int → Prop) (h0 : b 0) (ht : ∀ x ∈ t, b x) : ∀ (ks : List Int) (i : Nat) (acc : List Int), (∀ x ∈ acc, b x) → ∀ x ∈ cgo t i acc ks, b x
  | [], _, _, h => h
  | k :: ks, i, acc, h => by
    unfold cgo
    refine cgo_mem t b h0 ht ks _ _ ?_
    split
    · exact h
    · intro x hx
      rcases List.mem_or_eq_of_mem_set hx with h1 | h1
      · exact h x h1
      · rw [h1, List.getD_eq_getElem?_getD]
        cases hg : t[k.natAbs - 1]? with
        | none => exact h0
        | some y => exact ht y (List.mem_of_getElem? hg)
theorem cutT_icells (o : List Int) (t : Tup) : (icells (cutT o t)).toArray = tcells (cutO (t.map BitVec.toInt) o) := by
  unfold icells cutT tcells
  congr 1
  rw [List.map_map]
  refine List.map_congr_left (fun x hx => ?_)
  have hb := cgo_mem (t.map BitVec.toInt) (fun x => (BitVec.ofInt 64 x).toInt = x) rfl (fun y hy => by
    obtain ⟨z, _, rfl⟩ := List.mem_map.1 hy
    rw [BitVec.ofInt_toInt]) o 0 _ (fun y hy => by simp at hy; rw [hy]; rfl) x hx
  simp only [Function.comp]
  rw [hb]
theorem cut_maker {o0 o1 o2 o3 o4 : Int} {l : List Tup} (hfo : formedO [o0, o1, o2, o3, o4] = true) (hr : ∀ k ∈ [o0, o1, o2, o3, o4], -5 ≤ k ∧ k ≤ 5) (h5 : ∀ t ∈ l, t.length = 5) :
    Maker 45 (.agg #[.int .i64 o0, .int .i64 o1, .int .i64 o2, .int .i64 o3, .int .i64 o4]) K (fun _ => False) (fun _ _ => True) l (fun k => cutT [o0, o1, o2, o3, o4] (l.getD k [])) (fun _ => true) where
  call := by
    intro k hk w O W hI _
    have h5k : l[k].length = 5 := h5 _ (List.getElem_mem hk)
    have hg : l.getD k [] = l[k] := by simp [hk]
    simp only [hg]
    rw [cutT_icells]
    obtain ⟨a, b, c', d, e, hl⟩ : ∃ a b c d e : BitVec 64, l[k] = [a, b, c, d, e] := by
      match l[k], h5k with
      | [a, b, c, d, e], _ => exact ⟨_, _, _, _, _, rfl⟩
    rw [hl]
    refine (cutter_any a.toInt b.toInt c'.toInt d.toInt e.toInt o0 o1 o2 o3 o4 w hfo hr).mono ?_
    rintro e w' ⟨rfl, hb⟩
    exact ⟨rfl, hI.below hb, trivial, Turn.below hb⟩
  stay := fun _ _ _ _ _ _ _ _ _ _ => trivial
  five := by
    intro k hk
    show (cutT _ _).length = 5
    unfold cutT
    rw [List.length_map]
    exact cutO_len _ _
  enter := fun args w => rfl

/-- How many columns an order names; none: one that the width lacks. -/
def wgo (wN : Nat) : Nat → List Int → Option Nat
  | n, [] => some n
  | n, k :: ks => if k = 0 then wgo wN n ks else if k.natAbs ≤ wN then wgo wN (n + 1) ks else none
def cutN (wN : Nat) (o : List Int) : Option Nat := wgo wN 0 o
def CutWalk (o : List Int) (wN : Nat) (w : World) (w1 : World) (nv iv : Value) (wr : World) : Prop :=
  ∃ i n : Nat, iv = .int .i64 (i : Int) ∧ nv = .int .i64 (n : Int) ∧ i ≤ 5 ∧ n ≤ i ∧ wgo wN n (o.drop i) = cutN wN o ∧ Below w1.heap.size w1 wr

set_option maxRecDepth 100000 in
set_option maxHeartbeats 8000000 in
theorem cut_any {first blocks count : Int} {wN : Nat} {o0 o1 o2 o3 o4 : Int} {rv : Value} {bound : Nat} {out : List Tup} (hI : WkI w O K W) (hw5 : wN ≤ 5) (hb : ∀ k ∈ [o0, o1, o2, o3, o4], -9223372036854775808 ≤ k ∧ k < 9223372036854775808)
    (hE : formedO [o0, o1, o2, o3, o4] = true → ∀ n, cutN wN [o0, o1, o2, o3, o4] = some n → 0 < n → ∀ w1, Below w.heap.size w w1 → Calls Try.prog 32 #[rv, .agg #[.int .i64 first, .int .i64 blocks, .int .i64 (wN : Int), .int .i64 count], .int .i64 (n : Int), .func (.func 45) #[.agg #[.int .i64 o0, .int .i64 o1, .int .i64 o2, .int .i64 o3, .int .i64 o4]] #[]] w1 (EachC w1 O K W (fun _ => False) n bound out JE0 0 (fun _ => False))) :
    Calls Try.prog 21 #[rv, .agg #[.int .i64 first, .int .i64 blocks, .int .i64 (wN : Int), .int .i64 count], .agg #[.int .i64 o0, .int .i64 o1, .int .i64 o2, .int .i64 o3, .int .i64 o4]] w (fun e w' =>
      ((cutN wN [o0, o1, o2, o3, o4] = none ∨ formedO [o0, o1, o2, o3, o4] = false ∨ cutN wN [o0, o1, o2, o3, o4] = some 0) ∧ e = .returned (.tuple #[.agg noFile, .int .i64 1]) ∧ Below w.heap.size w w') ∨
      (∃ n, cutN wN [o0, o1, o2, o3, o4] = some n ∧ 0 < n ∧ formedO [o0, o1, o2, o3, o4] = true ∧ EachC w O K W (fun _ => False) n bound out JE0 0 (fun _ => False) e w')) := by
  have hF := ((Blk.new w 29 #[.int .i64 first, .int .i64 blocks, .int .i64 (wN : Int), .int .i64 count]).alloc (.cells #[.int .i64 o0, .int .i64 o1, .int .i64 o2, .int .i64 o3, .int .i64 o4] 48)).alloc (.cells #[.int .i64 0, .int .i64 0, .int .i64 0, .int .i64 0] 29)
  have hO := (Blk.new (w.alloc (.cells #[.int .i64 first, .int .i64 blocks, .int .i64 (wN : Int), .int .i64 count] 29)) 48 #[.int .i64 o0, .int .i64 o1, .int .i64 o2, .int .i64 o3, .int .i64 o4]).alloc (.cells #[.int .i64 0, .int .i64 0, .int .i64 0, .int .i64 0] 29)
  have hR := Blk.new ((w.alloc (.cells #[.int .i64 first, .int .i64 blocks, .int .i64 (wN : Int), .int .i64 count] 29)).alloc (.cells #[.int .i64 o0, .int .i64 o1, .int .i64 o2, .int .i64 o3, .int .i64 o4] 48)) 29 #[.int .i64 0, .int .i64 0, .int .i64 0, .int .i64 0]
  rw [show (w.alloc (.cells #[.int .i64 first, .int .i64 blocks, .int .i64 (wN : Int), .int .i64 count] 29)).heap.size = w.heap.size + 1 from by simp] at hO
  rw [show ((w.alloc (.cells #[.int .i64 first, .int .i64 blocks, .int .i64 (wN : Int), .int .i64 count] 29)).alloc (.cells #[.int .i64 o0, .int .i64 o1, .int .i64 o2, .int .i64 o3, .int .i64 o4] 48)).heap.size = w.heap.size + 1 + 1 from by simp] at hR
  have hbl : Below w.heap.size w (((w.alloc (.cells #[.int .i64 first, .int .i64 blocks, .int .i64 (wN : Int), .int .i64 count] 29)).alloc (.cells #[.int .i64 o0, .int .i64 o1, .int .i64 o2, .int .i64 o3, .int .i64 o4] 48)).alloc (.cells #[.int .i64 0, .int .i64 0, .int .i64 0, .int .i64 0] 29)) := (((Below.refl _ _).alloc (Nat.le_refl _) _).alloc (by simp) _).alloc (by simp; omega) _
  have HF := Lib.hid hF
  have HO := Lib.hid hO
  have HR := Lib.hid hR
  have HB := Lib.hid hbl
  have HE := Lib.hid hE
  have HI := Lib.hid hI
  have HBD := Lib.hid hb
  have HCOL := Lib.hid (fun x W' => column_any first blocks (wN : Int) count x W')
  clear hF hO hR hbl hE hI hb
  unfold noFile
  go_enter Try.func21, Try.ntmps21
  go_wp2_with fail
  generalize (((w.alloc (.cells #[.int .i64 first, .int .i64 blocks, .int .i64 (wN : Int), .int .i64 count] 29)).alloc (.cells #[.int .i64 o0, .int .i64 o1, .int .i64 o2, .int .i64 o3, .int .i64 o4] 48)).alloc (.cells #[.int .i64 0, .int .i64 0, .int .i64 0, .int .i64 0] 29)) = w1 at *
  have k0 : w1.cell? ⟨w.heap.size + 1, 0, none⟩ = some (.int .i64 o0) := HO.out.cell 0
  have k1 : w1.cell? ⟨w.heap.size + 1, 1, none⟩ = some (.int .i64 o1) := HO.out.cell 1
  have k2 : w1.cell? ⟨w.heap.size + 1, 2, none⟩ = some (.int .i64 o2) := HO.out.cell 2
  have k3 : w1.cell? ⟨w.heap.size + 1, 3, none⟩ = some (.int .i64 o3) := HO.out.cell 3
  have k4 : w1.cell? ⟨w.heap.size + 1, 4, none⟩ = some (.int .i64 o4) := HO.out.cell 4
  go_wp2_with fail
  clear k0 k1 k2 k3 k4
  go_loopw [8, 12] (fun nv iv wr => CutWalk [o0, o1, o2, o3, o4] wN w w1 nv iv wr) (fun _ iv _ => 5 - (intOf iv).toNat)
  case atStart => exact ⟨0, 0, rfl, rfl, by omega, by omega, rfl, Below.refl _ _⟩
  case round =>
    obtain ⟨i, n, rfl, rfl, hi, hni, hg, hbr⟩ := hrel
    have HBR := Lib.hid hbr
    have hFr := HF.out.below hbr HF.out.lt
    have HFR := Lib.hid hFr
    have c0 : wr.cell? ⟨w.heap.size, 0, none⟩ = some (.int .i64 first) := hFr.cell 0
    have c1 : wr.cell? ⟨w.heap.size, 1, none⟩ = some (.int .i64 blocks) := hFr.cell 1
    have c2 : wr.cell? ⟨w.heap.size, 2, none⟩ = some (.int .i64 (wN : Int)) := hFr.cell 2
    have c3 : wr.cell? ⟨w.heap.size, 3, none⟩ = some (.int .i64 count) := hFr.cell 3
    have hnw : IntKind.i64.wrap ((n : Int) + 1) = (n : Int) + 1 := by rw [IntKind.wrap_i64]; omega
    clear hbr hFr
    obtain rfl | rfl | rfl | rfl | rfl | rfl : i = 0 ∨ i = 1 ∨ i = 2 ∨ i = 3 ∨ i = 4 ∨ i = 5 := by omega
    · have HG := Lib.hid (hg : wgo wN n (o0 :: ([o0, o1, o2, o3, o4] : List Int).drop 1) = _)
      obtain ⟨b1, b2⟩ := HBD.out o0 (by simp)
      clear hg
      rw [show ((0 : Nat) : Int) = 0 from rfl]
      by_cases hz : o0 = 0
      · subst hz
        have HC := HCOL.out (-1) wr
        rw [show decide ((0 : Int) ≤ -1 ∧ (-1 : Int) < (wN : Int) ∧ (-1 : Int) < 5) = false from by simp] at HC
        replace HC := Lib.hid HC
        clear b1 b2
        go_wp2_with fail
        refine HC.out.mono ?_
        rintro e w2 ⟨rfl, hb2⟩
        have HB2 := Lib.hid (HBR.out.trans (hb2.mono HBR.out.size))
        clear hb2 c0 c1 c2 c3 HC
        go_wp2_with fail
        exact ⟨⟨1, n, rfl, rfl, by omega, by omega, by rw [← HG.out]; rfl, HB2.out⟩, by simp [intOf]⟩
      · have hsteps : ((o0.natAbs ≤ wN → wgo wN (n + 1) (([o0, o1, o2, o3, o4] : List Int).drop 1) = cutN wN [o0, o1, o2, o3, o4]) ∧ (¬ o0.natAbs ≤ wN → cutN wN [o0, o1, o2, o3, o4] = none)) := by
          have h0 : (if o0 = 0 then wgo wN n (([o0, o1, o2, o3, o4] : List Int).drop 1) else if o0.natAbs ≤ wN then wgo wN (n + 1) (([o0, o1, o2, o3, o4] : List Int).drop 1) else none) = cutN wN [o0, o1, o2, o3, o4] := HG.out
          rw [if_neg hz] at h0
          exact ⟨fun h => by rw [if_pos h] at h0; exact h0, fun h => by rw [if_neg h] at h0; exact h0.symm⟩
        have HS := Lib.hid hsteps
        have hzb : (o0 == 0) = false := by simpa using hz
        have hz' : ¬ o0 = 0 := hz
        clear hsteps
        by_cases hp : 0 < o0
        · obtain ⟨x, hx⟩ : ∃ x : Int, x = o0 - 1 := ⟨_, rfl⟩
          have q1 : ¬ o0 < -o0 := by omega
          have q7 : IntKind.i64.wrap (-o0) = -o0 := by rw [IntKind.wrap_i64]; omega
          have q8 : IntKind.i64.wrap (o0 - 1) = x := by rw [IntKind.wrap_i64]; omega
          by_cases hin : o0.natAbs ≤ wN
          · have HC := HCOL.out x wr
            rw [show decide (0 ≤ x ∧ x < (wN : Int) ∧ x < 5) = true from by rw [decide_eq_true_eq]; omega] at HC
            replace HC := Lib.hid HC
            have HNX := Lib.hid (HS.out.1 hin)
            clear hx hp b1 b2 hin HS HG hz
            go_wp2_with fail
            refine HC.out.mono ?_
            rintro e w2 ⟨rfl, hb2⟩
            have HB2 := Lib.hid (HBR.out.trans (hb2.mono HBR.out.size))
            clear hb2 c0 c1 c2 c3 HC
            go_wp2_with fail
            exact ⟨⟨1, n + 1, rfl, rfl, by omega, by omega, HNX.out, HB2.out⟩, by simp [intOf]⟩
          · have HC := HCOL.out x wr
            rw [show decide (0 ≤ x ∧ x < (wN : Int) ∧ x < 5) = false from by rw [decide_eq_false_iff_not]; omega] at HC
            replace HC := Lib.hid HC
            have HNX := Lib.hid (HS.out.2 hin)
            clear hx hp b1 b2 hin HS HG hz
            go_wp2_with fail
            refine HC.out.mono ?_
            rintro e w2 ⟨rfl, hb2⟩
            have HB2 := Lib.hid (HBR.out.trans (hb2.mono HBR.out.size))
            have hRr := HR.out.below HB2.out HR.out.lt
            clear hb2 c0 c1 c2 c3 HC
            have z0 : w2.cell? ⟨w.heap.size + 1 + 1, 0, none⟩ = some (.int .i64 0) := hRr.cell 0
            have f0 := hRr.frozen 0
            have z1 : w2.cell? ⟨w.heap.size + 1 + 1, 1, none⟩ = some (.int .i64 0) := hRr.cell 1
            have f1 := hRr.frozen 1
            have z2 : w2.cell? ⟨w.heap.size + 1 + 1, 2, none⟩ = some (.int .i64 0) := hRr.cell 2
            have f2 := hRr.frozen 2
            have z3 : w2.cell? ⟨w.heap.size + 1 + 1, 3, none⟩ = some (.int .i64 0) := hRr.cell 3
            have f3 := hRr.frozen 3
            have HZ := Lib.hid ((((hRr.set_ 0 (.int .i64 0)).set_ 1 (.int .i64 0)).set_ 2 (.int .i64 0)).set_ 3 (.int .i64 0))
            have HBB := Lib.hid (((((HB.out.trans (HB2.out.mono HB.out.size)).setCell (p := ⟨w.heap.size + 1 + 1, 0, none⟩) (show w.heap.size ≤ w.heap.size + 1 + 1 by omega) (.int .i64 0)).setCell (p := ⟨w.heap.size + 1 + 1, 1, none⟩) (show w.heap.size ≤ w.heap.size + 1 + 1 by omega) (.int .i64 0)).setCell (p := ⟨w.heap.size + 1 + 1, 2, none⟩) (show w.heap.size ≤ w.heap.size + 1 + 1 by omega) (.int .i64 0)).setCell (p := ⟨w.heap.size + 1 + 1, 3, none⟩) (show w.heap.size ≤ w.heap.size + 1 + 1 by omega) (.int .i64 0))
            clear hRr
            go_wp2_with fail
            generalize ((((w2.setCell ⟨w.heap.size + 1 + 1, 0, none⟩ (.int .i64 0)).setCell ⟨w.heap.size + 1 + 1, 1, none⟩ (.int .i64 0)).setCell ⟨w.heap.size + 1 + 1, 2, none⟩ (.int .i64 0)).setCell ⟨w.heap.size + 1 + 1, 3, none⟩ (.int .i64 0)) = w9 at *
            have s0 : w9.cell? ⟨w.heap.size + 1 + 1, 0, none⟩ = some (.int .i64 0) := HZ.out.cell 0
            have s1 : w9.cell? ⟨w.heap.size + 1 + 1, 1, none⟩ = some (.int .i64 0) := HZ.out.cell 1
            have s2 : w9.cell? ⟨w.heap.size + 1 + 1, 2, none⟩ = some (.int .i64 0) := HZ.out.cell 2
            have s3 : w9.cell? ⟨w.heap.size + 1 + 1, 3, none⟩ = some (.int .i64 0) := HZ.out.cell 3
            refine bodyPost_ret (v := .tuple #[.agg #[.int .i64 0, .int .i64 0, .int .i64 0, .int .i64 0], .int .i64 1]) (by simp [results, Try.results21, go_sem, s0, s1, s2, s3]; try rfl) rfl ?_
            exact .inl ⟨.inl HNX.out, rfl, HBB.out⟩
        · by_cases hm : o0 = -9223372036854775808
          · obtain ⟨x, hx⟩ : ∃ x : Int, x = 9223372036854775807 := ⟨_, rfl⟩
            have q7 : IntKind.i64.wrap (-o0) = o0 := by rw [IntKind.wrap_i64]; omega
            have q1 : ¬ o0 < o0 := by omega
            have q8 : IntKind.i64.wrap (o0 - 1) = x := by rw [IntKind.wrap_i64]; omega
            by_cases hin : o0.natAbs ≤ wN
            · have HC := HCOL.out x wr
              rw [show decide (0 ≤ x ∧ x < (wN : Int) ∧ x < 5) = true from by rw [decide_eq_true_eq]; omega] at HC
              replace HC := Lib.hid HC
              have HNX := Lib.hid (HS.out.1 hin)
              clear hx hp hm b1 b2 hin HS HG hz
              go_wp2_with fail
              refine HC.out.mono ?_
              rintro e w2 ⟨rfl, hb2⟩
              have HB2 := Lib.hid (HBR.out.trans (hb2.mono HBR.out.size))
              clear hb2 c0 c1 c2 c3 HC
              go_wp2_with fail
              exact ⟨⟨1, n + 1, rfl, rfl, by omega, by omega, HNX.out, HB2.out⟩, by simp [intOf]⟩
            · have HC := HCOL.out x wr
              rw [show decide (0 ≤ x ∧ x < (wN : Int) ∧ x < 5) = false from by rw [decide_eq_false_iff_not]; omega] at HC
              replace HC := Lib.hid HC
              have HNX := Lib.hid (HS.out.2 hin)
              clear hx hp hm b1 b2 hin HS HG hz
              go_wp2_with fail
              refine HC.out.mono ?_
              rintro e w2 ⟨rfl, hb2⟩
              have HB2 := Lib.hid (HBR.out.trans (hb2.mono HBR.out.size))
              have hRr := HR.out.below HB2.out HR.out.lt
              clear hb2 c0 c1 c2 c3 HC
              have z0 : w2.cell? ⟨w.heap.size + 1 + 1, 0, none⟩ = some (.int .i64 0) := hRr.cell 0
              have f0 := hRr.frozen 0
              have z1 : w2.cell? ⟨w.heap.size + 1 + 1, 1, none⟩ = some (.int .i64 0) := hRr.cell 1
              have f1 := hRr.frozen 1
              have z2 : w2.cell? ⟨w.heap.size + 1 + 1, 2, none⟩ = some (.int .i64 0) := hRr.cell 2
              have f2 := hRr.frozen 2
              have z3 : w2.cell? ⟨w.heap.size + 1 + 1, 3, none⟩ = some (.int .i64 0) := hRr.cell 3
              have f3 := hRr.frozen 3
              have HZ := Lib.hid ((((hRr.set_ 0 (.int .i64 0)).set_ 1 (.int .i64 0)).set_ 2 (.int .i64 0)).set_ 3 (.int .i64 0))
              have HBB := Lib.hid (((((HB.out.trans (HB2.out.mono HB.out.size)).setCell (p := ⟨w.heap.size + 1 + 1, 0, none⟩) (show w.heap.size ≤ w.heap.size + 1 + 1 by omega) (.int .i64 0)).setCell (p := ⟨w.heap.size + 1 + 1, 1, none⟩) (show w.heap.size ≤ w.heap.size + 1 + 1 by omega) (.int .i64 0)).setCell (p := ⟨w.heap.size + 1 + 1, 2, none⟩) (show w.heap.size ≤ w.heap.size + 1 + 1 by omega) (.int .i64 0)).setCell (p := ⟨w.heap.size + 1 + 1, 3, none⟩) (show w.heap.size ≤ w.heap.size + 1 + 1 by omega) (.int .i64 0))
              clear hRr
              go_wp2_with fail
              generalize ((((w2.setCell ⟨w.heap.size + 1 + 1, 0, none⟩ (.int .i64 0)).setCell ⟨w.heap.size + 1 + 1, 1, none⟩ (.int .i64 0)).setCell ⟨w.heap.size + 1 + 1, 2, none⟩ (.int .i64 0)).setCell ⟨w.heap.size + 1 + 1, 3, none⟩ (.int .i64 0)) = w9 at *
              have s0 : w9.cell? ⟨w.heap.size + 1 + 1, 0, none⟩ = some (.int .i64 0) := HZ.out.cell 0
              have s1 : w9.cell? ⟨w.heap.size + 1 + 1, 1, none⟩ = some (.int .i64 0) := HZ.out.cell 1
              have s2 : w9.cell? ⟨w.heap.size + 1 + 1, 2, none⟩ = some (.int .i64 0) := HZ.out.cell 2
              have s3 : w9.cell? ⟨w.heap.size + 1 + 1, 3, none⟩ = some (.int .i64 0) := HZ.out.cell 3
              refine bodyPost_ret (v := .tuple #[.agg #[.int .i64 0, .int .i64 0, .int .i64 0, .int .i64 0], .int .i64 1]) (by simp [results, Try.results21, go_sem, s0, s1, s2, s3]; try rfl) rfl ?_
              exact .inl ⟨.inl HNX.out, rfl, HBB.out⟩
          · obtain ⟨x, hx⟩ : ∃ x : Int, x = -o0 - 1 := ⟨_, rfl⟩
            have q7 : IntKind.i64.wrap (-o0) = -o0 := by rw [IntKind.wrap_i64]; omega
            have q1 : o0 < -o0 := by omega
            have q8 : IntKind.i64.wrap (-o0 - 1) = x := by rw [IntKind.wrap_i64]; omega
            by_cases hin : o0.natAbs ≤ wN
            · have HC := HCOL.out x wr
              rw [show decide (0 ≤ x ∧ x < (wN : Int) ∧ x < 5) = true from by rw [decide_eq_true_eq]; omega] at HC
              replace HC := Lib.hid HC
              have HNX := Lib.hid (HS.out.1 hin)
              clear hx hp hm b1 b2 hin HS HG hz
              go_wp2_with fail
              refine HC.out.mono ?_
              rintro e w2 ⟨rfl, hb2⟩
              have HB2 := Lib.hid (HBR.out.trans (hb2.mono HBR.out.size))
              clear hb2 c0 c1 c2 c3 HC
              go_wp2_with fail
              exact ⟨⟨1, n + 1, rfl, rfl, by omega, by omega, HNX.out, HB2.out⟩, by simp [intOf]⟩
            · have HC := HCOL.out x wr
              rw [show decide (0 ≤ x ∧ x < (wN : Int) ∧ x < 5) = false from by rw [decide_eq_false_iff_not]; omega] at HC
              replace HC := Lib.hid HC
              have HNX := Lib.hid (HS.out.2 hin)
              clear hx hp hm b1 b2 hin HS HG hz
              go_wp2_with fail
              refine HC.out.mono ?_
              rintro e w2 ⟨rfl, hb2⟩
              have HB2 := Lib.hid (HBR.out.trans (hb2.mono HBR.out.size))
              have hRr := HR.out.below HB2.out HR.out.lt
              clear hb2 c0 c1 c2 c3 HC
              have z0 : w2.cell? ⟨w.heap.size + 1 + 1, 0, none⟩ = some (.int .i64 0) := hRr.cell 0
              have f0 := hRr.frozen 0
              have z1 : w2.cell? ⟨w.heap.size + 1 + 1, 1, none⟩ = some (.int .i64 0) := hRr.cell 1
              have f1 := hRr.frozen 1
              have z2 : w2.cell? ⟨w.heap.size + 1 + 1, 2, none⟩ = some (.int .i64 0) := hRr.cell 2
              have f2 := hRr.frozen 2
              have z3 : w2.cell? ⟨w.heap.size + 1 + 1, 3, none⟩ = some (.int .i64 0) := hRr.cell 3
              have f3 := hRr.frozen 3
              have HZ := Lib.hid ((((hRr.set_ 0 (.int .i64 0)).set_ 1 (.int .i64 0)).set_ 2 (.int .i64 0)).set_ 3 (.int .i64 0))
              have HBB := Lib.hid (((((HB.out.trans (HB2.out.mono HB.out.size)).setCell (p := ⟨w.heap.size + 1 + 1, 0, none⟩) (show w.heap.size ≤ w.heap.size + 1 + 1 by omega) (.int .i64 0)).setCell (p := ⟨w.heap.size + 1 + 1, 1, none⟩) (show w.heap.size ≤ w.heap.size + 1 + 1 by omega) (.int .i64 0)).setCell (p := ⟨w.heap.size + 1 + 1, 2, none⟩) (show w.heap.size ≤ w.heap.size + 1 + 1 by omega) (.int .i64 0)).setCell (p := ⟨w.heap.size + 1 + 1, 3, none⟩) (show w.heap.size ≤ w.heap.size + 1 + 1 by omega) (.int .i64 0))
              clear hRr
              go_wp2_with fail
              generalize ((((w2.setCell ⟨w.heap.size + 1 + 1, 0, none⟩ (.int .i64 0)).setCell ⟨w.heap.size + 1 + 1, 1, none⟩ (.int .i64 0)).setCell ⟨w.heap.size + 1 + 1, 2, none⟩ (.int .i64 0)).setCell ⟨w.heap.size + 1 + 1, 3, none⟩ (.int .i64 0)) = w9 at *
              have s0 : w9.cell? ⟨w.heap.size + 1 + 1, 0, none⟩ = some (.int .i64 0) := HZ.out.cell 0
              have s1 : w9.cell? ⟨w.heap.size + 1 + 1, 1, none⟩ = some (.int .i64 0) := HZ.out.cell 1
              have s2 : w9.cell? ⟨w.heap.size + 1 + 1, 2, none⟩ = some (.int .i64 0) := HZ.out.cell 2
              have s3 : w9.cell? ⟨w.heap.size + 1 + 1, 3, none⟩ = some (.int .i64 0) := HZ.out.cell 3
              refine bodyPost_ret (v := .tuple #[.agg #[.int .i64 0, .int .i64 0, .int .i64 0, .int .i64 0], .int .i64 1]) (by simp [results, Try.results21, go_sem, s0, s1, s2, s3]; try rfl) rfl ?_
              exact .inl ⟨.inl HNX.out, rfl, HBB.out⟩
    · have HG := Lib.hid (hg : wgo wN n (o1 :: ([o0, o1, o2, o3, o4] : List Int).drop 2) = _)
      obtain ⟨b1, b2⟩ := HBD.out o1 (by simp)
      clear hg
      rw [show ((1 : Nat) : Int) = 1 from rfl]
      by_cases hz : o1 = 0
      · subst hz
        have HC := HCOL.out (-1) wr
        rw [show decide ((0 : Int) ≤ -1 ∧ (-1 : Int) < (wN : Int) ∧ (-1 : Int) < 5) = false from by simp] at HC
        replace HC := Lib.hid HC
        clear b1 b2
        go_wp2_with fail
        refine HC.out.mono ?_
        rintro e w2 ⟨rfl, hb2⟩
        have HB2 := Lib.hid (HBR.out.trans (hb2.mono HBR.out.size))
        clear hb2 c0 c1 c2 c3 HC
        go_wp2_with fail
        exact ⟨⟨2, n, rfl, rfl, by omega, by omega, by rw [← HG.out]; rfl, HB2.out⟩, by simp [intOf]⟩
      · have hsteps : ((o1.natAbs ≤ wN → wgo wN (n + 1) (([o0, o1, o2, o3, o4] : List Int).drop 2) = cutN wN [o0, o1, o2, o3, o4]) ∧ (¬ o1.natAbs ≤ wN → cutN wN [o0, o1, o2, o3, o4] = none)) := by
          have h0 : (if o1 = 0 then wgo wN n (([o0, o1, o2, o3, o4] : List Int).drop 2) else if o1.natAbs ≤ wN then wgo wN (n + 1) (([o0, o1, o2, o3, o4] : List Int).drop 2) else none) = cutN wN [o0, o1, o2, o3, o4] := HG.out
          rw [if_neg hz] at h0
          exact ⟨fun h => by rw [if_pos h] at h0; exact h0, fun h => by rw [if_neg h] at h0; exact h0.symm⟩
        have HS := Lib.hid hsteps
        have hzb : (o1 == 0) = false := by simpa using hz
        have hz' : ¬ o1 = 0 := hz
        clear hsteps
        by_cases hp : 0 < o1
        · obtain ⟨x, hx⟩ : ∃ x : Int, x = o1 - 1 := ⟨_, rfl⟩
          have q1 : ¬ o1 < -o1 := by omega
          have q7 : IntKind.i64.wrap (-o1) = -o1 := by rw [IntKind.wrap_i64]; omega
          have q8 : IntKind.i64.wrap (o1 - 1) = x := by rw [IntKind.wrap_i64]; omega
          by_cases hin : o1.natAbs ≤ wN
          · have HC := HCOL.out x wr
            rw [show decide (0 ≤ x ∧ x < (wN : Int) ∧ x < 5) = true from by rw [decide_eq_true_eq]; omega] at HC
            replace HC := Lib.hid HC
            have HNX := Lib.hid (HS.out.1 hin)
            clear hx hp b1 b2 hin HS HG hz
            go_wp2_with fail
            refine HC.out.mono ?_
            rintro e w2 ⟨rfl, hb2⟩
            have HB2 := Lib.hid (HBR.out.trans (hb2.mono HBR.out.size))
            clear hb2 c0 c1 c2 c3 HC
            go_wp2_with fail
            exact ⟨⟨2, n + 1, rfl, rfl, by omega, by omega, HNX.out, HB2.out⟩, by simp [intOf]⟩
          · have HC := HCOL.out x wr
            rw [show decide (0 ≤ x ∧ x < (wN : Int) ∧ x < 5) = false from by rw [decide_eq_false_iff_not]; omega] at HC
            replace HC := Lib.hid HC
            have HNX := Lib.hid (HS.out.2 hin)
            clear hx hp b1 b2 hin HS HG hz
            go_wp2_with fail
            refine HC.out.mono ?_
            rintro e w2 ⟨rfl, hb2⟩
            have HB2 := Lib.hid (HBR.out.trans (hb2.mono HBR.out.size))
            have hRr := HR.out.below HB2.out HR.out.lt
            clear hb2 c0 c1 c2 c3 HC
            have z0 : w2.cell? ⟨w.heap.size + 1 + 1, 0, none⟩ = some (.int .i64 0) := hRr.cell 0
            have f0 := hRr.frozen 0
            have z1 : w2.cell? ⟨w.heap.size + 1 + 1, 1, none⟩ = some (.int .i64 0) := hRr.cell 1
            have f1 := hRr.frozen 1
            have z2 : w2.cell? ⟨w.heap.size + 1 + 1, 2, none⟩ = some (.int .i64 0) := hRr.cell 2
            have f2 := hRr.frozen 2
            have z3 : w2.cell? ⟨w.heap.size + 1 + 1, 3, none⟩ = some (.int .i64 0) := hRr.cell 3
            have f3 := hRr.frozen 3
            have HZ := Lib.hid ((((hRr.set_ 0 (.int .i64 0)).set_ 1 (.int .i64 0)).set_ 2 (.int .i64 0)).set_ 3 (.int .i64 0))
            have HBB := Lib.hid (((((HB.out.trans (HB2.out.mono HB.out.size)).setCell (p := ⟨w.heap.size + 1 + 1, 0, none⟩) (show w.heap.size ≤ w.heap.size + 1 + 1 by omega) (.int .i64 0)).setCell (p := ⟨w.heap.size + 1 + 1, 1, none⟩) (show w.heap.size ≤ w.heap.size + 1 + 1 by omega) (.int .i64 0)).setCell (p := ⟨w.heap.size + 1 + 1, 2, none⟩) (show w.heap.size ≤ w.heap.size + 1 + 1 by omega) (.int .i64 0)).setCell (p := ⟨w.heap.size + 1 + 1, 3, none⟩) (show w.heap.size ≤ w.heap.size + 1 + 1 by omega) (.int .i64 0))
            clear hRr
            go_wp2_with fail
            generalize ((((w2.setCell ⟨w.heap.size + 1 + 1, 0, none⟩ (.int .i64 0)).setCell ⟨w.heap.size + 1 + 1, 1, none⟩ (.int .i64 0)).setCell ⟨w.heap.size + 1 + 1, 2, none⟩ (.int .i64 0)).setCell ⟨w.heap.size + 1 + 1, 3, none⟩ (.int .i64 0)) = w9 at *
            have s0 : w9.cell? ⟨w.heap.size + 1 + 1, 0, none⟩ = some (.int .i64 0) := HZ.out.cell 0
            have s1 : w9.cell? ⟨w.heap.size + 1 + 1, 1, none⟩ = some (.int .i64 0) := HZ.out.cell 1
            have s2 : w9.cell? ⟨w.heap.size + 1 + 1, 2, none⟩ = some (.int .i64 0) := HZ.out.cell 2
            have s3 : w9.cell? ⟨w.heap.size + 1 + 1, 3, none⟩ = some (.int .i64 0) := HZ.out.cell 3
            refine bodyPost_ret (v := .tuple #[.agg #[.int .i64 0, .int .i64 0, .int .i64 0, .int .i64 0], .int .i64 1]) (by simp [results, Try.results21, go_sem, s0, s1, s2, s3]; try rfl) rfl ?_
            exact .inl ⟨.inl HNX.out, rfl, HBB.out⟩
        · by_cases hm : o1 = -9223372036854775808
          · obtain ⟨x, hx⟩ : ∃ x : Int, x = 9223372036854775807 := ⟨_, rfl⟩
            have q7 : IntKind.i64.wrap (-o1) = o1 := by rw [IntKind.wrap_i64]; omega
            have q1 : ¬ o1 < o1 := by omega
            have q8 : IntKind.i64.wrap (o1 - 1) = x := by rw [IntKind.wrap_i64]; omega
            by_cases hin : o1.natAbs ≤ wN
            · have HC := HCOL.out x wr
              rw [show decide (0 ≤ x ∧ x < (wN : Int) ∧ x < 5) = true from by rw [decide_eq_true_eq]; omega] at HC
              replace HC := Lib.hid HC
              have HNX := Lib.hid (HS.out.1 hin)
              clear hx hp hm b1 b2 hin HS HG hz
              go_wp2_with fail
              refine HC.out.mono ?_
              rintro e w2 ⟨rfl, hb2⟩
              have HB2 := Lib.hid (HBR.out.trans (hb2.mono HBR.out.size))
              clear hb2 c0 c1 c2 c3 HC
              go_wp2_with fail
              exact ⟨⟨2, n + 1, rfl, rfl, by omega, by omega, HNX.out, HB2.out⟩, by simp [intOf]⟩
            · have HC := HCOL.out x wr
              rw [show decide (0 ≤ x ∧ x < (wN : Int) ∧ x < 5) = false from by rw [decide_eq_false_iff_not]; omega] at HC
              replace HC := Lib.hid HC
              have HNX := Lib.hid (HS.out.2 hin)
              clear hx hp hm b1 b2 hin HS HG hz
              go_wp2_with fail
              refine HC.out.mono ?_
              rintro e w2 ⟨rfl, hb2⟩
              have HB2 := Lib.hid (HBR.out.trans (hb2.mono HBR.out.size))
              have hRr := HR.out.below HB2.out HR.out.lt
              clear hb2 c0 c1 c2 c3 HC
              have z0 : w2.cell? ⟨w.heap.size + 1 + 1, 0, none⟩ = some (.int .i64 0) := hRr.cell 0
              have f0 := hRr.frozen 0
              have z1 : w2.cell? ⟨w.heap.size + 1 + 1, 1, none⟩ = some (.int .i64 0) := hRr.cell 1
              have f1 := hRr.frozen 1
              have z2 : w2.cell? ⟨w.heap.size + 1 + 1, 2, none⟩ = some (.int .i64 0) := hRr.cell 2
              have f2 := hRr.frozen 2
              have z3 : w2.cell? ⟨w.heap.size + 1 + 1, 3, none⟩ = some (.int .i64 0) := hRr.cell 3
              have f3 := hRr.frozen 3
              have HZ := Lib.hid ((((hRr.set_ 0 (.int .i64 0)).set_ 1 (.int .i64 0)).set_ 2 (.int .i64 0)).set_ 3 (.int .i64 0))
              have HBB := Lib.hid (((((HB.out.trans (HB2.out.mono HB.out.size)).setCell (p := ⟨w.heap.size + 1 + 1, 0, none⟩) (show w.heap.size ≤ w.heap.size + 1 + 1 by omega) (.int .i64 0)).setCell (p := ⟨w.heap.size + 1 + 1, 1, none⟩) (show w.heap.size ≤ w.heap.size + 1 + 1 by omega) (.int .i64 0)).setCell (p := ⟨w.heap.size + 1 + 1, 2, none⟩) (show w.heap.size ≤ w.heap.size + 1 + 1 by omega) (.int .i64 0)).setCell (p := ⟨w.heap.size + 1 + 1, 3, none⟩) (show w.heap.size ≤ w.heap.size + 1 + 1 by omega) (.int .i64 0))
              clear hRr
              go_wp2_with fail
              generalize ((((w2.setCell ⟨w.heap.size + 1 + 1, 0, none⟩ (.int .i64 0)).setCell ⟨w.heap.size + 1 + 1, 1, none⟩ (.int .i64 0)).setCell ⟨w.heap.size + 1 + 1, 2, none⟩ (.int .i64 0)).setCell ⟨w.heap.size + 1 + 1, 3, none⟩ (.int .i64 0)) = w9 at *
              have s0 : w9.cell? ⟨w.heap.size + 1 + 1, 0, none⟩ = some (.int .i64 0) := HZ.out.cell 0
              have s1 : w9.cell? ⟨w.heap.size + 1 + 1, 1, none⟩ = some (.int .i64 0) := HZ.out.cell 1
              have s2 : w9.cell? ⟨w.heap.size + 1 + 1, 2, none⟩ = some (.int .i64 0) := HZ.out.cell 2
              have s3 : w9.cell? ⟨w.heap.size + 1 + 1, 3, none⟩ = some (.int .i64 0) := HZ.out.cell 3
              refine bodyPost_ret (v := .tuple #[.agg #[.int .i64 0, .int .i64 0, .int .i64 0, .int .i64 0], .int .i64 1]) (by simp [results, Try.results21, go_sem, s0, s1, s2, s3]; try rfl) rfl ?_
              exact .inl ⟨.inl HNX.out, rfl, HBB.out⟩
          · obtain ⟨x, hx⟩ : ∃ x : Int, x = -o1 - 1 := ⟨_, rfl⟩
            have q7 : IntKind.i64.wrap (-o1) = -o1 := by rw [IntKind.wrap_i64]; omega
            have q1 : o1 < -o1 := by omega
            have q8 : IntKind.i64.wrap (-o1 - 1) = x := by rw [IntKind.wrap_i64]; omega
            by_cases hin : o1.natAbs ≤ wN
            · have HC := HCOL.out x wr
              rw [show decide (0 ≤ x ∧ x < (wN : Int) ∧ x < 5) = true from by rw [decide_eq_true_eq]; omega] at HC
              replace HC := Lib.hid HC
              have HNX := Lib.hid (HS.out.1 hin)
              clear hx hp hm b1 b2 hin HS HG hz
              go_wp2_with fail
              refine HC.out.mono ?_
              rintro e w2 ⟨rfl, hb2⟩
              have HB2 := Lib.hid (HBR.out.trans (hb2.mono HBR.out.size))
              clear hb2 c0 c1 c2 c3 HC
              go_wp2_with fail
              exact ⟨⟨2, n + 1, rfl, rfl, by omega, by omega, HNX.out, HB2.out⟩, by simp [intOf]⟩
            · have HC := HCOL.out x wr
              rw [show decide (0 ≤ x ∧ x < (wN : Int) ∧ x < 5) = false from by rw [decide_eq_false_iff_not]; omega] at HC
              replace HC := Lib.hid HC
              have HNX := Lib.hid (HS.out.2 hin)
              clear hx hp hm b1 b2 hin HS HG hz
              go_wp2_with fail
              refine HC.out.mono ?_
              rintro e w2 ⟨rfl, hb2⟩
              have HB2 := Lib.hid (HBR.out.trans (hb2.mono HBR.out.size))
              have hRr := HR.out.below HB2.out HR.out.lt
              clear hb2 c0 c1 c2 c3 HC
              have z0 : w2.cell? ⟨w.heap.size + 1 + 1, 0, none⟩ = some (.int .i64 0) := hRr.cell 0
              have f0 := hRr.frozen 0
              have z1 : w2.cell? ⟨w.heap.size + 1 + 1, 1, none⟩ = some (.int .i64 0) := hRr.cell 1
              have f1 := hRr.frozen 1
              have z2 : w2.cell? ⟨w.heap.size + 1 + 1, 2, none⟩ = some (.int .i64 0) := hRr.cell 2
              have f2 := hRr.frozen 2
              have z3 : w2.cell? ⟨w.heap.size + 1 + 1, 3, none⟩ = some (.int .i64 0) := hRr.cell 3
              have f3 := hRr.frozen 3
              have HZ := Lib.hid ((((hRr.set_ 0 (.int .i64 0)).set_ 1 (.int .i64 0)).set_ 2 (.int .i64 0)).set_ 3 (.int .i64 0))
              have HBB := Lib.hid (((((HB.out.trans (HB2.out.mono HB.out.size)).setCell (p := ⟨w.heap.size + 1 + 1, 0, none⟩) (show w.heap.size ≤ w.heap.size + 1 + 1 by omega) (.int .i64 0)).setCell (p := ⟨w.heap.size + 1 + 1, 1, none⟩) (show w.heap.size ≤ w.heap.size + 1 + 1 by omega) (.int .i64 0)).setCell (p := ⟨w.heap.size + 1 + 1, 2, none⟩) (show w.heap.size ≤ w.heap.size + 1 + 1 by omega) (.int .i64 0)).setCell (p := ⟨w.heap.size + 1 + 1, 3, none⟩) (show w.heap.size ≤ w.heap.size + 1 + 1 by omega) (.int .i64 0))
              clear hRr
              go_wp2_with fail
              generalize ((((w2.setCell ⟨w.heap.size + 1 + 1, 0, none⟩ (.int .i64 0)).setCell ⟨w.heap.size + 1 + 1, 1, none⟩ (.int .i64 0)).setCell ⟨w.heap.size + 1 + 1, 2, none⟩ (.int .i64 0)).setCell ⟨w.heap.size + 1 + 1, 3, none⟩ (.int .i64 0)) = w9 at *
              have s0 : w9.cell? ⟨w.heap.size + 1 + 1, 0, none⟩ = some (.int .i64 0) := HZ.out.cell 0
              have s1 : w9.cell? ⟨w.heap.size + 1 + 1, 1, none⟩ = some (.int .i64 0) := HZ.out.cell 1
              have s2 : w9.cell? ⟨w.heap.size + 1 + 1, 2, none⟩ = some (.int .i64 0) := HZ.out.cell 2
              have s3 : w9.cell? ⟨w.heap.size + 1 + 1, 3, none⟩ = some (.int .i64 0) := HZ.out.cell 3
              refine bodyPost_ret (v := .tuple #[.agg #[.int .i64 0, .int .i64 0, .int .i64 0, .int .i64 0], .int .i64 1]) (by simp [results, Try.results21, go_sem, s0, s1, s2, s3]; try rfl) rfl ?_
              exact .inl ⟨.inl HNX.out, rfl, HBB.out⟩
    · have HG := Lib.hid (hg : wgo wN n (o2 :: ([o0, o1, o2, o3, o4] : List Int).drop 3) = _)
      obtain ⟨b1, b2⟩ := HBD.out o2 (by simp)
      clear hg
      rw [show ((2 : Nat) : Int) = 2 from rfl]
      by_cases hz : o2 = 0
      · subst hz
        have HC := HCOL.out (-1) wr
        rw [show decide ((0 : Int) ≤ -1 ∧ (-1 : Int) < (wN : Int) ∧ (-1 : Int) < 5) = false from by simp] at HC
        replace HC := Lib.hid HC
        clear b1 b2
        go_wp2_with fail
        refine HC.out.mono ?_
        rintro e w2 ⟨rfl, hb2⟩
        have HB2 := Lib.hid (HBR.out.trans (hb2.mono HBR.out.size))
        clear hb2 c0 c1 c2 c3 HC
        go_wp2_with fail
        exact ⟨⟨3, n, rfl, rfl, by omega, by omega, by rw [← HG.out]; rfl, HB2.out⟩, by simp [intOf]⟩
      · have hsteps : ((o2.natAbs ≤ wN → wgo wN (n + 1) (([o0, o1, o2, o3, o4] : List Int).drop 3) = cutN wN [o0, o1, o2, o3, o4]) ∧ (¬ o2.natAbs ≤ wN → cutN wN [o0, o1, o2, o3, o4] = none)) := by
          have h0 : (if o2 = 0 then wgo wN n (([o0, o1, o2, o3, o4] : List Int).drop 3) else if o2.natAbs ≤ wN then wgo wN (n + 1) (([o0, o1, o2, o3, o4] : List Int).drop 3) else none) = cutN wN [o0, o1, o2, o3, o4] := HG.out
          rw [if_neg hz] at h0
          exact ⟨fun h => by rw [if_pos h] at h0; exact h0, fun h => by rw [if_neg h] at h0; exact h0.symm⟩
        have HS := Lib.hid hsteps
        have hzb : (o2 == 0) = false := by simpa using hz
        have hz' : ¬ o2 = 0 := hz
        clear hsteps
        by_cases hp : 0 < o2
        · obtain ⟨x, hx⟩ : ∃ x : Int, x = o2 - 1 := ⟨_, rfl⟩
          have q1 : ¬ o2 < -o2 := by omega
          have q7 : IntKind.i64.wrap (-o2) = -o2 := by rw [IntKind.wrap_i64]; omega
          have q8 : IntKind.i64.wrap (o2 - 1) = x := by rw [IntKind.wrap_i64]; omega
          by_cases hin : o2.natAbs ≤ wN
          · have HC := HCOL.out x wr
            rw [show decide (0 ≤ x ∧ x < (wN : Int) ∧ x < 5) = true from by rw [decide_eq_true_eq]; omega] at HC
            replace HC := Lib.hid HC
            have HNX := Lib.hid (HS.out.1 hin)
            clear hx hp b1 b2 hin HS HG hz
            go_wp2_with fail
            refine HC.out.mono ?_
            rintro e w2 ⟨rfl, hb2⟩
            have HB2 := Lib.hid (HBR.out.trans (hb2.mono HBR.out.size))
            clear hb2 c0 c1 c2 c3 HC
            go_wp2_with fail
            exact ⟨⟨3, n + 1, rfl, rfl, by omega, by omega, HNX.out, HB2.out⟩, by simp [intOf]⟩
          · have HC := HCOL.out x wr
            rw [show decide (0 ≤ x ∧ x < (wN : Int) ∧ x < 5) = false from by rw [decide_eq_false_iff_not]; omega] at HC
            replace HC := Lib.hid HC
            have HNX := Lib.hid (HS.out.2 hin)
            clear hx hp b1 b2 hin HS HG hz
            go_wp2_with fail
            refine HC.out.mono ?_
            rintro e w2 ⟨rfl, hb2⟩
            have HB2 := Lib.hid (HBR.out.trans (hb2.mono HBR.out.size))
            have hRr := HR.out.below HB2.out HR.out.lt
            clear hb2 c0 c1 c2 c3 HC
            have z0 : w2.cell? ⟨w.heap.size + 1 + 1, 0, none⟩ = some (.int .i64 0) := hRr.cell 0
            have f0 := hRr.frozen 0
            have z1 : w2.cell? ⟨w.heap.size + 1 + 1, 1, none⟩ = some (.int .i64 0) := hRr.cell 1
            have f1 := hRr.frozen 1
            have z2 : w2.cell? ⟨w.heap.size + 1 + 1, 2, none⟩ = some (.int .i64 0) := hRr.cell 2
            have f2 := hRr.frozen 2
            have z3 : w2.cell? ⟨w.heap.size + 1 + 1, 3, none⟩ = some (.int .i64 0) := hRr.cell 3
            have f3 := hRr.frozen 3
            have HZ := Lib.hid ((((hRr.set_ 0 (.int .i64 0)).set_ 1 (.int .i64 0)).set_ 2 (.int .i64 0)).set_ 3 (.int .i64 0))
            have HBB := Lib.hid (((((HB.out.trans (HB2.out.mono HB.out.size)).setCell (p := ⟨w.heap.size + 1 + 1, 0, none⟩) (show w.heap.size ≤ w.heap.size + 1 + 1 by omega) (.int .i64 0)).setCell (p := ⟨w.heap.size + 1 + 1, 1, none⟩) (show w.heap.size ≤ w.heap.size + 1 + 1 by omega) (.int .i64 0)).setCell (p := ⟨w.heap.size + 1 + 1, 2, none⟩) (show w.heap.size ≤ w.heap.size + 1 + 1 by omega) (.int .i64 0)).setCell (p := ⟨w.heap.size + 1 + 1, 3, none⟩) (show w.heap.size ≤ w.heap.size + 1 + 1 by omega) (.int .i64 0))
            clear hRr
            go_wp2_with fail
            generalize ((((w2.setCell ⟨w.heap.size + 1 + 1, 0, none⟩ (.int .i64 0)).setCell ⟨w.heap.size + 1 + 1, 1, none⟩ (.int .i64 0)).setCell ⟨w.heap.size + 1 + 1, 2, none⟩ (.int .i64 0)).setCell ⟨w.heap.size + 1 + 1, 3, none⟩ (.int .i64 0)) = w9 at *
            have s0 : w9.cell? ⟨w.heap.size + 1 + 1, 0, none⟩ = some (.int .i64 0) := HZ.out.cell 0
            have s1 : w9.cell? ⟨w.heap.size + 1 + 1, 1, none⟩ = some (.int .i64 0) := HZ.out.cell 1
            have s2 : w9.cell? ⟨w.heap.size + 1 + 1, 2, none⟩ = some (.int .i64 0) := HZ.out.cell 2
            have s3 : w9.cell? ⟨w.heap.size + 1 + 1, 3, none⟩ = some (.int .i64 0) := HZ.out.cell 3
            refine bodyPost_ret (v := .tuple #[.agg #[.int .i64 0, .int .i64 0, .int .i64 0, .int .i64 0], .int .i64 1]) (by simp [results, Try.results21, go_sem, s0, s1, s2, s3]; try rfl) rfl ?_
            exact .inl ⟨.inl HNX.out, rfl, HBB.out⟩
        · by_cases hm : o2 = -9223372036854775808
          · obtain ⟨x, hx⟩ : ∃ x : Int, x = 9223372036854775807 := ⟨_, rfl⟩
            have q7 : IntKind.i64.wrap (-o2) = o2 := by rw [IntKind.wrap_i64]; omega
            have q1 : ¬ o2 < o2 := by omega
            have q8 : IntKind.i64.wrap (o2 - 1) = x := by rw [IntKind.wrap_i64]; omega
            by_cases hin : o2.natAbs ≤ wN
            · have HC := HCOL.out x wr
              rw [show decide (0 ≤ x ∧ x < (wN : Int) ∧ x < 5) = true from by rw [decide_eq_true_eq]; omega] at HC
              replace HC := Lib.hid HC
              have HNX := Lib.hid (HS.out.1 hin)
              clear hx hp hm b1 b2 hin HS HG hz
              go_wp2_with fail
              refine HC.out.mono ?_
              rintro e w2 ⟨rfl, hb2⟩
              have HB2 := Lib.hid (HBR.out.trans (hb2.mono HBR.out.size))
              clear hb2 c0 c1 c2 c3 HC
              go_wp2_with fail
              exact ⟨⟨3, n + 1, rfl, rfl, by omega, by omega, HNX.out, HB2.out⟩, by simp [intOf]⟩
            · have HC := HCOL.out x wr
              rw [show decide (0 ≤ x ∧ x < (wN : Int) ∧ x < 5) = false from by rw [decide_eq_false_iff_not]; omega] at HC
              replace HC := Lib.hid HC
              have HNX := Lib.hid (HS.out.2 hin)
              clear hx hp hm b1 b2 hin HS HG hz
              go_wp2_with fail
              refine HC.out.mono ?_
              rintro e w2 ⟨rfl, hb2⟩
              have HB2 := Lib.hid (HBR.out.trans (hb2.mono HBR.out.size))
              have hRr := HR.out.below HB2.out HR.out.lt
              clear hb2 c0 c1 c2 c3 HC
              have z0 : w2.cell? ⟨w.heap.size + 1 + 1, 0, none⟩ = some (.int .i64 0) := hRr.cell 0
              have f0 := hRr.frozen 0
              have z1 : w2.cell? ⟨w.heap.size + 1 + 1, 1, none⟩ = some (.int .i64 0) := hRr.cell 1
              have f1 := hRr.frozen 1
              have z2 : w2.cell? ⟨w.heap.size + 1 + 1, 2, none⟩ = some (.int .i64 0) := hRr.cell 2
              have f2 := hRr.frozen 2
              have z3 : w2.cell? ⟨w.heap.size + 1 + 1, 3, none⟩ = some (.int .i64 0) := hRr.cell 3
              have f3 := hRr.frozen 3
              have HZ := Lib.hid ((((hRr.set_ 0 (.int .i64 0)).set_ 1 (.int .i64 0)).set_ 2 (.int .i64 0)).set_ 3 (.int .i64 0))
              have HBB := Lib.hid (((((HB.out.trans (HB2.out.mono HB.out.size)).setCell (p := ⟨w.heap.size + 1 + 1, 0, none⟩) (show w.heap.size ≤ w.heap.size + 1 + 1 by omega) (.int .i64 0)).setCell (p := ⟨w.heap.size + 1 + 1, 1, none⟩) (show w.heap.size ≤ w.heap.size + 1 + 1 by omega) (.int .i64 0)).setCell (p := ⟨w.heap.size + 1 + 1, 2, none⟩) (show w.heap.size ≤ w.heap.size + 1 + 1 by omega) (.int .i64 0)).setCell (p := ⟨w.heap.size + 1 + 1, 3, none⟩) (show w.heap.size ≤ w.heap.size + 1 + 1 by omega) (.int .i64 0))
              clear hRr
              go_wp2_with fail
              generalize ((((w2.setCell ⟨w.heap.size + 1 + 1, 0, none⟩ (.int .i64 0)).setCell ⟨w.heap.size + 1 + 1, 1, none⟩ (.int .i64 0)).setCell ⟨w.heap.size + 1 + 1, 2, none⟩ (.int .i64 0)).setCell ⟨w.heap.size + 1 + 1, 3, none⟩ (.int .i64 0)) = w9 at *
              have s0 : w9.cell? ⟨w.heap.size + 1 + 1, 0, none⟩ = some (.int .i64 0) := HZ.out.cell 0
              have s1 : w9.cell? ⟨w.heap.size + 1 + 1, 1, none⟩ = some (.int .i64 0) := HZ.out.cell 1
              have s2 : w9.cell? ⟨w.heap.size + 1 + 1, 2, none⟩ = some (.int .i64 0) := HZ.out.cell 2
              have s3 : w9.cell? ⟨w.heap.size + 1 + 1, 3, none⟩ = some (.int .i64 0) := HZ.out.cell 3
              refine bodyPost_ret (v := .tuple #[.agg #[.int .i64 0, .int .i64 0, .int .i64 0, .int .i64 0], .int .i64 1]) (by simp [results, Try.results21, go_sem, s0, s1, s2, s3]; try rfl) rfl ?_
              exact .inl ⟨.inl HNX.out, rfl, HBB.out⟩
          · obtain ⟨x, hx⟩ : ∃ x : Int, x = -o2 - 1 := ⟨_, rfl⟩
            have q7 : IntKind.i64.wrap (-o2) = -o2 := by rw [IntKind.wrap_i64]; omega
            have q1 : o2 < -o2 := by omega
            have q8 : IntKind.i64.wrap (-o2 - 1) = x := by rw [IntKind.wrap_i64]; omega
            by_cases hin : o2.natAbs ≤ wN
            · have HC := HCOL.out x wr
              rw [show decide (0 ≤ x ∧ x < (wN : Int) ∧ x < 5) = true from by rw [decide_eq_true_eq]; omega] at HC
              replace HC := Lib.hid HC
              have HNX := Lib.hid (HS.out.1 hin)
              clear hx hp hm b1 b2 hin HS HG hz
              go_wp2_with fail
              refine HC.out.mono ?_
              rintro e w2 ⟨rfl, hb2⟩
              have HB2 := Lib.hid (HBR.out.trans (hb2.mono HBR.out.size))
              clear hb2 c0 c1 c2 c3 HC
              go_wp2_with fail
              exact ⟨⟨3, n + 1, rfl, rfl, by omega, by omega, HNX.out, HB2.out⟩, by simp [intOf]⟩
            · have HC := HCOL.out x wr
              rw [show decide (0 ≤ x ∧ x < (wN : Int) ∧ x < 5) = false from by rw [decide_eq_false_iff_not]; omega] at HC
              replace HC := Lib.hid HC
              have HNX := Lib.hid (HS.out.2 hin)
              clear hx hp hm b1 b2 hin HS HG hz
              go_wp2_with fail
              refine HC.out.mono ?_
              rintro e w2 ⟨rfl, hb2⟩
              have HB2 := Lib.hid (HBR.out.trans (hb2.mono HBR.out.size))
              have hRr := HR.out.below HB2.out HR.out.lt
              clear hb2 c0 c1 c2 c3 HC
              have z0 : w2.cell? ⟨w.heap.size + 1 + 1, 0, none⟩ = some (.int .i64 0) := hRr.cell 0
              have f0 := hRr.frozen 0
              have z1 : w2.cell? ⟨w.heap.size + 1 + 1, 1, none⟩ = some (.int .i64 0) := hRr.cell 1
              have f1 := hRr.frozen 1
              have z2 : w2.cell? ⟨w.heap.size + 1 + 1, 2, none⟩ = some (.int .i64 0) := hRr.cell 2
              have f2 := hRr.frozen 2
              have z3 : w2.cell? ⟨w.heap.size + 1 + 1, 3, none⟩ = some (.int .i64 0) := hRr.cell 3
              have f3 := hRr.frozen 3
              have HZ := Lib.hid ((((hRr.set_ 0 (.int .i64 0)).set_ 1 (.int .i64 0)).set_ 2 (.int .i64 0)).set_ 3 (.int .i64 0))
              have HBB := Lib.hid (((((HB.out.trans (HB2.out.mono HB.out.size)).setCell (p := ⟨w.heap.size + 1 + 1, 0, none⟩) (show w.heap.size ≤ w.heap.size + 1 + 1 by omega) (.int .i64 0)).setCell (p := ⟨w.heap.size + 1 + 1, 1, none⟩) (show w.heap.size ≤ w.heap.size + 1 + 1 by omega) (.int .i64 0)).setCell (p := ⟨w.heap.size + 1 + 1, 2, none⟩) (show w.heap.size ≤ w.heap.size + 1 + 1 by omega) (.int .i64 0)).setCell (p := ⟨w.heap.size + 1 + 1, 3, none⟩) (show w.heap.size ≤ w.heap.size + 1 + 1 by omega) (.int .i64 0))
              clear hRr
              go_wp2_with fail
              generalize ((((w2.setCell ⟨w.heap.size + 1 + 1, 0, none⟩ (.int .i64 0)).setCell ⟨w.heap.size + 1 + 1, 1, none⟩ (.int .i64 0)).setCell ⟨w.heap.size + 1 + 1, 2, none⟩ (.int .i64 0)).setCell ⟨w.heap.size + 1 + 1, 3, none⟩ (.int .i64 0)) = w9 at *
              have s0 : w9.cell? ⟨w.heap.size + 1 + 1, 0, none⟩ = some (.int .i64 0) := HZ.out.cell 0
              have s1 : w9.cell? ⟨w.heap.size + 1 + 1, 1, none⟩ = some (.int .i64 0) := HZ.out.cell 1
              have s2 : w9.cell? ⟨w.heap.size + 1 + 1, 2, none⟩ = some (.int .i64 0) := HZ.out.cell 2
              have s3 : w9.cell? ⟨w.heap.size + 1 + 1, 3, none⟩ = some (.int .i64 0) := HZ.out.cell 3
              refine bodyPost_ret (v := .tuple #[.agg #[.int .i64 0, .int .i64 0, .int .i64 0, .int .i64 0], .int .i64 1]) (by simp [results, Try.results21, go_sem, s0, s1, s2, s3]; try rfl) rfl ?_
              exact .inl ⟨.inl HNX.out, rfl, HBB.out⟩
    · have HG := Lib.hid (hg : wgo wN n (o3 :: ([o0, o1, o2, o3, o4] : List Int).drop 4) = _)
      obtain ⟨b1, b2⟩ := HBD.out o3 (by simp)
      clear hg
      rw [show ((3 : Nat) : Int) = 3 from rfl]
      by_cases hz : o3 = 0
      · subst hz
        have HC := HCOL.out (-1) wr
        rw [show decide ((0 : Int) ≤ -1 ∧ (-1 : Int) < (wN : Int) ∧ (-1 : Int) < 5) = false from by simp] at HC
        replace HC := Lib.hid HC
        clear b1 b2
        go_wp2_with fail
        refine HC.out.mono ?_
        rintro e w2 ⟨rfl, hb2⟩
        have HB2 := Lib.hid (HBR.out.trans (hb2.mono HBR.out.size))
        clear hb2 c0 c1 c2 c3 HC
        go_wp2_with fail
        exact ⟨⟨4, n, rfl, rfl, by omega, by omega, by rw [← HG.out]; rfl, HB2.out⟩, by simp [intOf]⟩
      · have hsteps : ((o3.natAbs ≤ wN → wgo wN (n + 1) (([o0, o1, o2, o3, o4] : List Int).drop 4) = cutN wN [o0, o1, o2, o3, o4]) ∧ (¬ o3.natAbs ≤ wN → cutN wN [o0, o1, o2, o3, o4] = none)) := by
          have h0 : (if o3 = 0 then wgo wN n (([o0, o1, o2, o3, o4] : List Int).drop 4) else if o3.natAbs ≤ wN then wgo wN (n + 1) (([o0, o1, o2, o3, o4] : List Int).drop 4) else none) = cutN wN [o0, o1, o2, o3, o4] := HG.out
          rw [if_neg hz] at h0
          exact ⟨fun h => by rw [if_pos h] at h0; exact h0, fun h => by rw [if_neg h] at h0; exact h0.symm⟩
        have HS := Lib.hid hsteps
        have hzb : (o3 == 0) = false := by simpa using hz
        have hz' : ¬ o3 = 0 := hz
        clear hsteps
        by_cases hp : 0 < o3
        · obtain ⟨x, hx⟩ : ∃ x : Int, x = o3 - 1 := ⟨_, rfl⟩
          have q1 : ¬ o3 < -o3 := by omega
          have q7 : IntKind.i64.wrap (-o3) = -o3 := by rw [IntKind.wrap_i64]; omega
          have q8 : IntKind.i64.wrap (o3 - 1) = x := by rw [IntKind.wrap_i64]; omega
          by_cases hin : o3.natAbs ≤ wN
          · have HC := HCOL.out x wr
            rw [show decide (0 ≤ x ∧ x < (wN : Int) ∧ x < 5) = true from by rw [decide_eq_true_eq]; omega] at HC
            replace HC := Lib.hid HC
            have HNX := Lib.hid (HS.out.1 hin)
            clear hx hp b1 b2 hin HS HG hz
            go_wp2_with fail
            refine HC.out.mono ?_
            rintro e w2 ⟨rfl, hb2⟩
            have HB2 := Lib.hid (HBR.out.trans (hb2.mono HBR.out.size))
            clear hb2 c0 c1 c2 c3 HC
            go_wp2_with fail
            exact ⟨⟨4, n + 1, rfl, rfl, by omega, by omega, HNX.out, HB2.out⟩, by simp [intOf]⟩
          · have HC := HCOL.out x wr
            rw [show decide (0 ≤ x ∧ x < (wN : Int) ∧ x < 5) = false from by rw [decide_eq_false_iff_not]; omega] at HC
            replace HC := Lib.hid HC
            have HNX := Lib.hid (HS.out.2 hin)
            clear hx hp b1 b2 hin HS HG hz
            go_wp2_with fail
            refine HC.out.mono ?_
            rintro e w2 ⟨rfl, hb2⟩
            have HB2 := Lib.hid (HBR.out.trans (hb2.mono HBR.out.size))
            have hRr := HR.out.below HB2.out HR.out.lt
            clear hb2 c0 c1 c2 c3 HC
            have z0 : w2.cell? ⟨w.heap.size + 1 + 1, 0, none⟩ = some (.int .i64 0) := hRr.cell 0
            have f0 := hRr.frozen 0
            have z1 : w2.cell? ⟨w.heap.size + 1 + 1, 1, none⟩ = some (.int .i64 0) := hRr.cell 1
            have f1 := hRr.frozen 1
            have z2 : w2.cell? ⟨w.heap.size + 1 + 1, 2, none⟩ = some (.int .i64 0) := hRr.cell 2
            have f2 := hRr.frozen 2
            have z3 : w2.cell? ⟨w.heap.size + 1 + 1, 3, none⟩ = some (.int .i64 0) := hRr.cell 3
            have f3 := hRr.frozen 3
            have HZ := Lib.hid ((((hRr.set_ 0 (.int .i64 0)).set_ 1 (.int .i64 0)).set_ 2 (.int .i64 0)).set_ 3 (.int .i64 0))
            have HBB := Lib.hid (((((HB.out.trans (HB2.out.mono HB.out.size)).setCell (p := ⟨w.heap.size + 1 + 1, 0, none⟩) (show w.heap.size ≤ w.heap.size + 1 + 1 by omega) (.int .i64 0)).setCell (p := ⟨w.heap.size + 1 + 1, 1, none⟩) (show w.heap.size ≤ w.heap.size + 1 + 1 by omega) (.int .i64 0)).setCell (p := ⟨w.heap.size + 1 + 1, 2, none⟩) (show w.heap.size ≤ w.heap.size + 1 + 1 by omega) (.int .i64 0)).setCell (p := ⟨w.heap.size + 1 + 1, 3, none⟩) (show w.heap.size ≤ w.heap.size + 1 + 1 by omega) (.int .i64 0))
            clear hRr
            go_wp2_with fail
            generalize ((((w2.setCell ⟨w.heap.size + 1 + 1, 0, none⟩ (.int .i64 0)).setCell ⟨w.heap.size + 1 + 1, 1, none⟩ (.int .i64 0)).setCell ⟨w.heap.size + 1 + 1, 2, none⟩ (.int .i64 0)).setCell ⟨w.heap.size + 1 + 1, 3, none⟩ (.int .i64 0)) = w9 at *
            have s0 : w9.cell? ⟨w.heap.size + 1 + 1, 0, none⟩ = some (.int .i64 0) := HZ.out.cell 0
            have s1 : w9.cell? ⟨w.heap.size + 1 + 1, 1, none⟩ = some (.int .i64 0) := HZ.out.cell 1
            have s2 : w9.cell? ⟨w.heap.size + 1 + 1, 2, none⟩ = some (.int .i64 0) := HZ.out.cell 2
            have s3 : w9.cell? ⟨w.heap.size + 1 + 1, 3, none⟩ = some (.int .i64 0) := HZ.out.cell 3
            refine bodyPost_ret (v := .tuple #[.agg #[.int .i64 0, .int .i64 0, .int .i64 0, .int .i64 0], .int .i64 1]) (by simp [results, Try.results21, go_sem, s0, s1, s2, s3]; try rfl) rfl ?_
            exact .inl ⟨.inl HNX.out, rfl, HBB.out⟩
        · by_cases hm : o3 = -9223372036854775808
          · obtain ⟨x, hx⟩ : ∃ x : Int, x = 9223372036854775807 := ⟨_, rfl⟩
            have q7 : IntKind.i64.wrap (-o3) = o3 := by rw [IntKind.wrap_i64]; omega
            have q1 : ¬ o3 < o3 := by omega
            have q8 : IntKind.i64.wrap (o3 - 1) = x := by rw [IntKind.wrap_i64]; omega
            by_cases hin : o3.natAbs ≤ wN
            · have HC := HCOL.out x wr
              rw [show decide (0 ≤ x ∧ x < (wN : Int) ∧ x < 5) = true from by rw [decide_eq_true_eq]; omega] at HC
              replace HC := Lib.hid HC
              have HNX := Lib.hid (HS.out.1 hin)
              clear hx hp hm b1 b2 hin HS HG hz
              go_wp2_with fail
              refine HC.out.mono ?_
              rintro e w2 ⟨rfl, hb2⟩
              have HB2 := Lib.hid (HBR.out.trans (hb2.mono HBR.out.size))
              clear hb2 c0 c1 c2 c3 HC
              go_wp2_with fail
              exact ⟨⟨4, n + 1, rfl, rfl, by omega, by omega, HNX.out, HB2.out⟩, by simp [intOf]⟩
            · have HC := HCOL.out x wr
              rw [show decide (0 ≤ x ∧ x < (wN : Int) ∧ x < 5) = false from by rw [decide_eq_false_iff_not]; omega] at HC
              replace HC := Lib.hid HC
              have HNX := Lib.hid (HS.out.2 hin)
              clear hx hp hm b1 b2 hin HS HG hz
              go_wp2_with fail
              refine HC.out.mono ?_
              rintro e w2 ⟨rfl, hb2⟩
              have HB2 := Lib.hid (HBR.out.trans (hb2.mono HBR.out.size))
              have hRr := HR.out.below HB2.out HR.out.lt
              clear hb2 c0 c1 c2 c3 HC
              have z0 : w2.cell? ⟨w.heap.size + 1 + 1, 0, none⟩ = some (.int .i64 0) := hRr.cell 0
              have f0 := hRr.frozen 0
              have z1 : w2.cell? ⟨w.heap.size + 1 + 1, 1, none⟩ = some (.int .i64 0) := hRr.cell 1
              have f1 := hRr.frozen 1
              have z2 : w2.cell? ⟨w.heap.size + 1 + 1, 2, none⟩ = some (.int .i64 0) := hRr.cell 2
              have f2 := hRr.frozen 2
              have z3 : w2.cell? ⟨w.heap.size + 1 + 1, 3, none⟩ = some (.int .i64 0) := hRr.cell 3
              have f3 := hRr.frozen 3
              have HZ := Lib.hid ((((hRr.set_ 0 (.int .i64 0)).set_ 1 (.int .i64 0)).set_ 2 (.int .i64 0)).set_ 3 (.int .i64 0))
              have HBB := Lib.hid (((((HB.out.trans (HB2.out.mono HB.out.size)).setCell (p := ⟨w.heap.size + 1 + 1, 0, none⟩) (show w.heap.size ≤ w.heap.size + 1 + 1 by omega) (.int .i64 0)).setCell (p := ⟨w.heap.size + 1 + 1, 1, none⟩) (show w.heap.size ≤ w.heap.size + 1 + 1 by omega) (.int .i64 0)).setCell (p := ⟨w.heap.size + 1 + 1, 2, none⟩) (show w.heap.size ≤ w.heap.size + 1 + 1 by omega) (.int .i64 0)).setCell (p := ⟨w.heap.size + 1 + 1, 3, none⟩) (show w.heap.size ≤ w.heap.size + 1 + 1 by omega) (.int .i64 0))
              clear hRr
              go_wp2_with fail
              generalize ((((w2.setCell ⟨w.heap.size + 1 + 1, 0, none⟩ (.int .i64 0)).setCell ⟨w.heap.size + 1 + 1, 1, none⟩ (.int .i64 0)).setCell ⟨w.heap.size + 1 + 1, 2, none⟩ (.int .i64 0)).setCell ⟨w.heap.size + 1 + 1, 3, none⟩ (.int .i64 0)) = w9 at *
              have s0 : w9.cell? ⟨w.heap.size + 1 + 1, 0, none⟩ = some (.int .i64 0) := HZ.out.cell 0
              have s1 : w9.cell? ⟨w.heap.size + 1 + 1, 1, none⟩ = some (.int .i64 0) := HZ.out.cell 1
              have s2 : w9.cell? ⟨w.heap.size + 1 + 1, 2, none⟩ = some (.int .i64 0) := HZ.out.cell 2
              have s3 : w9.cell? ⟨w.heap.size + 1 + 1, 3, none⟩ = some (.int .i64 0) := HZ.out.cell 3
              refine bodyPost_ret (v := .tuple #[.agg #[.int .i64 0, .int .i64 0, .int .i64 0, .int .i64 0], .int .i64 1]) (by simp [results, Try.results21, go_sem, s0, s1, s2, s3]; try rfl) rfl ?_
              exact .inl ⟨.inl HNX.out, rfl, HBB.out⟩
          · obtain ⟨x, hx⟩ : ∃ x : Int, x = -o3 - 1 := ⟨_, rfl⟩
            have q7 : IntKind.i64.wrap (-o3) = -o3 := by rw [IntKind.wrap_i64]; omega
            have q1 : o3 < -o3 := by omega
            have q8 : IntKind.i64.wrap (-o3 - 1) = x := by rw [IntKind.wrap_i64]; omega
            by_cases hin : o3.natAbs ≤ wN
            · have HC := HCOL.out x wr
              rw [show decide (0 ≤ x ∧ x < (wN : Int) ∧ x < 5) = true from by rw [decide_eq_true_eq]; omega] at HC
              replace HC := Lib.hid HC
              have HNX := Lib.hid (HS.out.1 hin)
              clear hx hp hm b1 b2 hin HS HG hz
              go_wp2_with fail
              refine HC.out.mono ?_
              rintro e w2 ⟨rfl, hb2⟩
              have HB2 := Lib.hid (HBR.out.trans (hb2.mono HBR.out.size))
              clear hb2 c0 c1 c2 c3 HC
              go_wp2_with fail
              exact ⟨⟨4, n + 1, rfl, rfl, by omega, by omega, HNX.out, HB2.out⟩, by simp [intOf]⟩
            · have HC := HCOL.out x wr
              rw [show decide (0 ≤ x ∧ x < (wN : Int) ∧ x < 5) = false from by rw [decide_eq_false_iff_not]; omega] at HC
              replace HC := Lib.hid HC
              have HNX := Lib.hid (HS.out.2 hin)
              clear hx hp hm b1 b2 hin HS HG hz
              go_wp2_with fail
              refine HC.out.mono ?_
              rintro e w2 ⟨rfl, hb2⟩
              have HB2 := Lib.hid (HBR.out.trans (hb2.mono HBR.out.size))
              have hRr := HR.out.below HB2.out HR.out.lt
              clear hb2 c0 c1 c2 c3 HC
              have z0 : w2.cell? ⟨w.heap.size + 1 + 1, 0, none⟩ = some (.int .i64 0) := hRr.cell 0
              have f0 := hRr.frozen 0
              have z1 : w2.cell? ⟨w.heap.size + 1 + 1, 1, none⟩ = some (.int .i64 0) := hRr.cell 1
              have f1 := hRr.frozen 1
              have z2 : w2.cell? ⟨w.heap.size + 1 + 1, 2, none⟩ = some (.int .i64 0) := hRr.cell 2
              have f2 := hRr.frozen 2
              have z3 : w2.cell? ⟨w.heap.size + 1 + 1, 3, none⟩ = some (.int .i64 0) := hRr.cell 3
              have f3 := hRr.frozen 3
              have HZ := Lib.hid ((((hRr.set_ 0 (.int .i64 0)).set_ 1 (.int .i64 0)).set_ 2 (.int .i64 0)).set_ 3 (.int .i64 0))
              have HBB := Lib.hid (((((HB.out.trans (HB2.out.mono HB.out.size)).setCell (p := ⟨w.heap.size + 1 + 1, 0, none⟩) (show w.heap.size ≤ w.heap.size + 1 + 1 by omega) (.int .i64 0)).setCell (p := ⟨w.heap.size + 1 + 1, 1, none⟩) (show w.heap.size ≤ w.heap.size + 1 + 1 by omega) (.int .i64 0)).setCell (p := ⟨w.heap.size + 1 + 1, 2, none⟩) (show w.heap.size ≤ w.heap.size + 1 + 1 by omega) (.int .i64 0)).setCell (p := ⟨w.heap.size + 1 + 1, 3, none⟩) (show w.heap.size ≤ w.heap.size + 1 + 1 by omega) (.int .i64 0))
              clear hRr
              go_wp2_with fail
              generalize ((((w2.setCell ⟨w.heap.size + 1 + 1, 0, none⟩ (.int .i64 0)).setCell ⟨w.heap.size + 1 + 1, 1, none⟩ (.int .i64 0)).setCell ⟨w.heap.size + 1 + 1, 2, none⟩ (.int .i64 0)).setCell ⟨w.heap.size + 1 + 1, 3, none⟩ (.int .i64 0)) = w9 at *
              have s0 : w9.cell? ⟨w.heap.size + 1 + 1, 0, none⟩ = some (.int .i64 0) := HZ.out.cell 0
              have s1 : w9.cell? ⟨w.heap.size + 1 + 1, 1, none⟩ = some (.int .i64 0) := HZ.out.cell 1
              have s2 : w9.cell? ⟨w.heap.size + 1 + 1, 2, none⟩ = some (.int .i64 0) := HZ.out.cell 2
              have s3 : w9.cell? ⟨w.heap.size + 1 + 1, 3, none⟩ = some (.int .i64 0) := HZ.out.cell 3
              refine bodyPost_ret (v := .tuple #[.agg #[.int .i64 0, .int .i64 0, .int .i64 0, .int .i64 0], .int .i64 1]) (by simp [results, Try.results21, go_sem, s0, s1, s2, s3]; try rfl) rfl ?_
              exact .inl ⟨.inl HNX.out, rfl, HBB.out⟩
    · have HG := Lib.hid (hg : wgo wN n (o4 :: ([o0, o1, o2, o3, o4] : List Int).drop 5) = _)
      obtain ⟨b1, b2⟩ := HBD.out o4 (by simp)
      clear hg
      rw [show ((4 : Nat) : Int) = 4 from rfl]
      by_cases hz : o4 = 0
      · subst hz
        have HC := HCOL.out (-1) wr
        rw [show decide ((0 : Int) ≤ -1 ∧ (-1 : Int) < (wN : Int) ∧ (-1 : Int) < 5) = false from by simp] at HC
        replace HC := Lib.hid HC
        clear b1 b2
        go_wp2_with fail
        refine HC.out.mono ?_
        rintro e w2 ⟨rfl, hb2⟩
        have HB2 := Lib.hid (HBR.out.trans (hb2.mono HBR.out.size))
        clear hb2 c0 c1 c2 c3 HC
        go_wp2_with fail
        exact ⟨⟨5, n, rfl, rfl, by omega, by omega, by rw [← HG.out]; rfl, HB2.out⟩, by simp [intOf]⟩
      · have hsteps : ((o4.natAbs ≤ wN → wgo wN (n + 1) (([o0, o1, o2, o3, o4] : List Int).drop 5) = cutN wN [o0, o1, o2, o3, o4]) ∧ (¬ o4.natAbs ≤ wN → cutN wN [o0, o1, o2, o3, o4] = none)) := by
          have h0 : (if o4 = 0 then wgo wN n (([o0, o1, o2, o3, o4] : List Int).drop 5) else if o4.natAbs ≤ wN then wgo wN (n + 1) (([o0, o1, o2, o3, o4] : List Int).drop 5) else none) = cutN wN [o0, o1, o2, o3, o4] := HG.out
          rw [if_neg hz] at h0
          exact ⟨fun h => by rw [if_pos h] at h0; exact h0, fun h => by rw [if_neg h] at h0; exact h0.symm⟩
        have HS := Lib.hid hsteps
        have hzb : (o4 == 0) = false := by simpa using hz
        have hz' : ¬ o4 = 0 := hz
        clear hsteps
        by_cases hp : 0 < o4
        · obtain ⟨x, hx⟩ : ∃ x : Int, x = o4 - 1 := ⟨_, rfl⟩
          have q1 : ¬ o4 < -o4 := by omega
          have q7 : IntKind.i64.wrap (-o4) = -o4 := by rw [IntKind.wrap_i64]; omega
          have q8 : IntKind.i64.wrap (o4 - 1) = x := by rw [IntKind.wrap_i64]; omega
          by_cases hin : o4.natAbs ≤ wN
          · have HC := HCOL.out x wr
            rw [show decide (0 ≤ x ∧ x < (wN : Int) ∧ x < 5) = true from by rw [decide_eq_true_eq]; omega] at HC
            replace HC := Lib.hid HC
            have HNX := Lib.hid (HS.out.1 hin)
            clear hx hp b1 b2 hin HS HG hz
            go_wp2_with fail
            refine HC.out.mono ?_
            rintro e w2 ⟨rfl, hb2⟩
            have HB2 := Lib.hid (HBR.out.trans (hb2.mono HBR.out.size))
            clear hb2 c0 c1 c2 c3 HC
            go_wp2_with fail
            exact ⟨⟨5, n + 1, rfl, rfl, by omega, by omega, HNX.out, HB2.out⟩, by simp [intOf]⟩
          · have HC := HCOL.out x wr
            rw [show decide (0 ≤ x ∧ x < (wN : Int) ∧ x < 5) = false from by rw [decide_eq_false_iff_not]; omega] at HC
            replace HC := Lib.hid HC
            have HNX := Lib.hid (HS.out.2 hin)
            clear hx hp b1 b2 hin HS HG hz
            go_wp2_with fail
            refine HC.out.mono ?_
            rintro e w2 ⟨rfl, hb2⟩
            have HB2 := Lib.hid (HBR.out.trans (hb2.mono HBR.out.size))
            have hRr := HR.out.below HB2.out HR.out.lt
            clear hb2 c0 c1 c2 c3 HC
            have z0 : w2.cell? ⟨w.heap.size + 1 + 1, 0, none⟩ = some (.int .i64 0) := hRr.cell 0
            have f0 := hRr.frozen 0
            have z1 : w2.cell? ⟨w.heap.size + 1 + 1, 1, none⟩ = some (.int .i64 0) := hRr.cell 1
            have f1 := hRr.frozen 1
            have z2 : w2.cell? ⟨w.heap.size + 1 + 1, 2, none⟩ = some (.int .i64 0) := hRr.cell 2
            have f2 := hRr.frozen 2
            have z3 : w2.cell? ⟨w.heap.size + 1 + 1, 3, none⟩ = some (.int .i64 0) := hRr.cell 3
            have f3 := hRr.frozen 3
            have HZ := Lib.hid ((((hRr.set_ 0 (.int .i64 0)).set_ 1 (.int .i64 0)).set_ 2 (.int .i64 0)).set_ 3 (.int .i64 0))
            have HBB := Lib.hid (((((HB.out.trans (HB2.out.mono HB.out.size)).setCell (p := ⟨w.heap.size + 1 + 1, 0, none⟩) (show w.heap.size ≤ w.heap.size + 1 + 1 by omega) (.int .i64 0)).setCell (p := ⟨w.heap.size + 1 + 1, 1, none⟩) (show w.heap.size ≤ w.heap.size + 1 + 1 by omega) (.int .i64 0)).setCell (p := ⟨w.heap.size + 1 + 1, 2, none⟩) (show w.heap.size ≤ w.heap.size + 1 + 1 by omega) (.int .i64 0)).setCell (p := ⟨w.heap.size + 1 + 1, 3, none⟩) (show w.heap.size ≤ w.heap.size + 1 + 1 by omega) (.int .i64 0))
            clear hRr
            go_wp2_with fail
            generalize ((((w2.setCell ⟨w.heap.size + 1 + 1, 0, none⟩ (.int .i64 0)).setCell ⟨w.heap.size + 1 + 1, 1, none⟩ (.int .i64 0)).setCell ⟨w.heap.size + 1 + 1, 2, none⟩ (.int .i64 0)).setCell ⟨w.heap.size + 1 + 1, 3, none⟩ (.int .i64 0)) = w9 at *
            have s0 : w9.cell? ⟨w.heap.size + 1 + 1, 0, none⟩ = some (.int .i64 0) := HZ.out.cell 0
            have s1 : w9.cell? ⟨w.heap.size + 1 + 1, 1, none⟩ = some (.int .i64 0) := HZ.out.cell 1
            have s2 : w9.cell? ⟨w.heap.size + 1 + 1, 2, none⟩ = some (.int .i64 0) := HZ.out.cell 2
            have s3 : w9.cell? ⟨w.heap.size + 1 + 1, 3, none⟩ = some (.int .i64 0) := HZ.out.cell 3
            refine bodyPost_ret (v := .tuple #[.agg #[.int .i64 0, .int .i64 0, .int .i64 0, .int .i64 0], .int .i64 1]) (by simp [results, Try.results21, go_sem, s0, s1, s2, s3]; try rfl) rfl ?_
            exact .inl ⟨.inl HNX.out, rfl, HBB.out⟩
        · by_cases hm : o4 = -9223372036854775808
          · obtain ⟨x, hx⟩ : ∃ x : Int, x = 9223372036854775807 := ⟨_, rfl⟩
            have q7 : IntKind.i64.wrap (-o4) = o4 := by rw [IntKind.wrap_i64]; omega
            have q1 : ¬ o4 < o4 := by omega
            have q8 : IntKind.i64.wrap (o4 - 1) = x := by rw [IntKind.wrap_i64]; omega
            by_cases hin : o4.natAbs ≤ wN
            · have HC := HCOL.out x wr
              rw [show decide (0 ≤ x ∧ x < (wN : Int) ∧ x < 5) = true from by rw [decide_eq_true_eq]; omega] at HC
              replace HC := Lib.hid HC
              have HNX := Lib.hid (HS.out.1 hin)
              clear hx hp hm b1 b2 hin HS HG hz
              go_wp2_with fail
              refine HC.out.mono ?_
              rintro e w2 ⟨rfl, hb2⟩
              have HB2 := Lib.hid (HBR.out.trans (hb2.mono HBR.out.size))
              clear hb2 c0 c1 c2 c3 HC
              go_wp2_with fail
              exact ⟨⟨5, n + 1, rfl, rfl, by omega, by omega, HNX.out, HB2.out⟩, by simp [intOf]⟩
            · have HC := HCOL.out x wr
              rw [show decide (0 ≤ x ∧ x < (wN : Int) ∧ x < 5) = false from by rw [decide_eq_false_iff_not]; omega] at HC
              replace HC := Lib.hid HC
              have HNX := Lib.hid (HS.out.2 hin)
              clear hx hp hm b1 b2 hin HS HG hz
              go_wp2_with fail
              refine HC.out.mono ?_
              rintro e w2 ⟨rfl, hb2⟩
              have HB2 := Lib.hid (HBR.out.trans (hb2.mono HBR.out.size))
              have hRr := HR.out.below HB2.out HR.out.lt
              clear hb2 c0 c1 c2 c3 HC
              have z0 : w2.cell? ⟨w.heap.size + 1 + 1, 0, none⟩ = some (.int .i64 0) := hRr.cell 0
              have f0 := hRr.frozen 0
              have z1 : w2.cell? ⟨w.heap.size + 1 + 1, 1, none⟩ = some (.int .i64 0) := hRr.cell 1
              have f1 := hRr.frozen 1
              have z2 : w2.cell? ⟨w.heap.size + 1 + 1, 2, none⟩ = some (.int .i64 0) := hRr.cell 2
              have f2 := hRr.frozen 2
              have z3 : w2.cell? ⟨w.heap.size + 1 + 1, 3, none⟩ = some (.int .i64 0) := hRr.cell 3
              have f3 := hRr.frozen 3
              have HZ := Lib.hid ((((hRr.set_ 0 (.int .i64 0)).set_ 1 (.int .i64 0)).set_ 2 (.int .i64 0)).set_ 3 (.int .i64 0))
              have HBB := Lib.hid (((((HB.out.trans (HB2.out.mono HB.out.size)).setCell (p := ⟨w.heap.size + 1 + 1, 0, none⟩) (show w.heap.size ≤ w.heap.size + 1 + 1 by omega) (.int .i64 0)).setCell (p := ⟨w.heap.size + 1 + 1, 1, none⟩) (show w.heap.size ≤ w.heap.size + 1 + 1 by omega) (.int .i64 0)).setCell (p := ⟨w.heap.size + 1 + 1, 2, none⟩) (show w.heap.size ≤ w.heap.size + 1 + 1 by omega) (.int .i64 0)).setCell (p := ⟨w.heap.size + 1 + 1, 3, none⟩) (show w.heap.size ≤ w.heap.size + 1 + 1 by omega) (.int .i64 0))
              clear hRr
              go_wp2_with fail
              generalize ((((w2.setCell ⟨w.heap.size + 1 + 1, 0, none⟩ (.int .i64 0)).setCell ⟨w.heap.size + 1 + 1, 1, none⟩ (.int .i64 0)).setCell ⟨w.heap.size + 1 + 1, 2, none⟩ (.int .i64 0)).setCell ⟨w.heap.size + 1 + 1, 3, none⟩ (.int .i64 0)) = w9 at *
              have s0 : w9.cell? ⟨w.heap.size + 1 + 1, 0, none⟩ = some (.int .i64 0) := HZ.out.cell 0
              have s1 : w9.cell? ⟨w.heap.size + 1 + 1, 1, none⟩ = some (.int .i64 0) := HZ.out.cell 1
              have s2 : w9.cell? ⟨w.heap.size + 1 + 1, 2, none⟩ = some (.int .i64 0) := HZ.out.cell 2
              have s3 : w9.cell? ⟨w.heap.size + 1 + 1, 3, none⟩ = some (.int .i64 0) := HZ.out.cell 3
              refine bodyPost_ret (v := .tuple #[.agg #[.int .i64 0, .int .i64 0, .int .i64 0, .int .i64 0], .int .i64 1]) (by simp [results, Try.results21, go_sem, s0, s1, s2, s3]; try rfl) rfl ?_
              exact .inl ⟨.inl HNX.out, rfl, HBB.out⟩
          · obtain ⟨x, hx⟩ : ∃ x : Int, x = -o4 - 1 := ⟨_, rfl⟩
            have q7 : IntKind.i64.wrap (-o4) = -o4 := by rw [IntKind.wrap_i64]; omega
            have q1 : o4 < -o4 := by omega
            have q8 : IntKind.i64.wrap (-o4 - 1) = x := by rw [IntKind.wrap_i64]; omega
            by_cases hin : o4.natAbs ≤ wN
            · have HC := HCOL.out x wr
              rw [show decide (0 ≤ x ∧ x < (wN : Int) ∧ x < 5) = true from by rw [decide_eq_true_eq]; omega] at HC
              replace HC := Lib.hid HC
              have HNX := Lib.hid (HS.out.1 hin)
              clear hx hp hm b1 b2 hin HS HG hz
              go_wp2_with fail
              refine HC.out.mono ?_
              rintro e w2 ⟨rfl, hb2⟩
              have HB2 := Lib.hid (HBR.out.trans (hb2.mono HBR.out.size))
              clear hb2 c0 c1 c2 c3 HC
              go_wp2_with fail
              exact ⟨⟨5, n + 1, rfl, rfl, by omega, by omega, HNX.out, HB2.out⟩, by simp [intOf]⟩
            · have HC := HCOL.out x wr
              rw [show decide (0 ≤ x ∧ x < (wN : Int) ∧ x < 5) = false from by rw [decide_eq_false_iff_not]; omega] at HC
              replace HC := Lib.hid HC
              have HNX := Lib.hid (HS.out.2 hin)
              clear hx hp hm b1 b2 hin HS HG hz
              go_wp2_with fail
              refine HC.out.mono ?_
              rintro e w2 ⟨rfl, hb2⟩
              have HB2 := Lib.hid (HBR.out.trans (hb2.mono HBR.out.size))
              have hRr := HR.out.below HB2.out HR.out.lt
              clear hb2 c0 c1 c2 c3 HC
              have z0 : w2.cell? ⟨w.heap.size + 1 + 1, 0, none⟩ = some (.int .i64 0) := hRr.cell 0
              have f0 := hRr.frozen 0
              have z1 : w2.cell? ⟨w.heap.size + 1 + 1, 1, none⟩ = some (.int .i64 0) := hRr.cell 1
              have f1 := hRr.frozen 1
              have z2 : w2.cell? ⟨w.heap.size + 1 + 1, 2, none⟩ = some (.int .i64 0) := hRr.cell 2
              have f2 := hRr.frozen 2
              have z3 : w2.cell? ⟨w.heap.size + 1 + 1, 3, none⟩ = some (.int .i64 0) := hRr.cell 3
              have f3 := hRr.frozen 3
              have HZ := Lib.hid ((((hRr.set_ 0 (.int .i64 0)).set_ 1 (.int .i64 0)).set_ 2 (.int .i64 0)).set_ 3 (.int .i64 0))
              have HBB := Lib.hid (((((HB.out.trans (HB2.out.mono HB.out.size)).setCell (p := ⟨w.heap.size + 1 + 1, 0, none⟩) (show w.heap.size ≤ w.heap.size + 1 + 1 by omega) (.int .i64 0)).setCell (p := ⟨w.heap.size + 1 + 1, 1, none⟩) (show w.heap.size ≤ w.heap.size + 1 + 1 by omega) (.int .i64 0)).setCell (p := ⟨w.heap.size + 1 + 1, 2, none⟩) (show w.heap.size ≤ w.heap.size + 1 + 1 by omega) (.int .i64 0)).setCell (p := ⟨w.heap.size + 1 + 1, 3, none⟩) (show w.heap.size ≤ w.heap.size + 1 + 1 by omega) (.int .i64 0))
              clear hRr
              go_wp2_with fail
              generalize ((((w2.setCell ⟨w.heap.size + 1 + 1, 0, none⟩ (.int .i64 0)).setCell ⟨w.heap.size + 1 + 1, 1, none⟩ (.int .i64 0)).setCell ⟨w.heap.size + 1 + 1, 2, none⟩ (.int .i64 0)).setCell ⟨w.heap.size + 1 + 1, 3, none⟩ (.int .i64 0)) = w9 at *
              have s0 : w9.cell? ⟨w.heap.size + 1 + 1, 0, none⟩ = some (.int .i64 0) := HZ.out.cell 0
              have s1 : w9.cell? ⟨w.heap.size + 1 + 1, 1, none⟩ = some (.int .i64 0) := HZ.out.cell 1
              have s2 : w9.cell? ⟨w.heap.size + 1 + 1, 2, none⟩ = some (.int .i64 0) := HZ.out.cell 2
              have s3 : w9.cell? ⟨w.heap.size + 1 + 1, 3, none⟩ = some (.int .i64 0) := HZ.out.cell 3
              refine bodyPost_ret (v := .tuple #[.agg #[.int .i64 0, .int .i64 0, .int .i64 0, .int .i64 0], .int .i64 1]) (by simp [results, Try.results21, go_sem, s0, s1, s2, s3]; try rfl) rfl ?_
              exact .inl ⟨.inl HNX.out, rfl, HBB.out⟩
    · rw [show ((5 : Nat) : Int) = 5 from rfl]
      have HG := Lib.hid (hg : some n = cutN wN [o0, o1, o2, o3, o4])
      have hOr := HO.out.below HBR.out HO.out.lt
      clear hg
      have k0 : wr.cell? ⟨w.heap.size + 1, 0, none⟩ = some (.int .i64 o0) := hOr.cell 0
      have k1 : wr.cell? ⟨w.heap.size + 1, 1, none⟩ = some (.int .i64 o1) := hOr.cell 1
      have k2 : wr.cell? ⟨w.heap.size + 1, 2, none⟩ = some (.int .i64 o2) := hOr.cell 2
      have k3 : wr.cell? ⟨w.heap.size + 1, 3, none⟩ = some (.int .i64 o3) := hOr.cell 3
      have k4 : wr.cell? ⟨w.heap.size + 1, 4, none⟩ = some (.int .i64 o4) := hOr.cell 4
      have HOR := Lib.hid hOr
      clear hOr
      have HFO := formed_any o0 o1 o2 o3 o4 wr
      cases hfo : formedO [o0, o1, o2, o3, o4] with
      | false =>
        rw [hfo] at HFO
        replace HFO := Lib.hid HFO
        have HFF := Lib.hid hfo
        clear hfo
        go_wp2_with fail
        refine HFO.out.mono ?_
        rintro e w2 ⟨rfl, hb2⟩
        have HB2 := Lib.hid (HBR.out.trans (hb2.mono HBR.out.size))
        have hRr := HR.out.below HB2.out HR.out.lt
        clear hb2 c0 c1 c2 c3 k0 k1 k2 k3 k4 HFO
        have z0 : w2.cell? ⟨w.heap.size + 1 + 1, 0, none⟩ = some (.int .i64 0) := hRr.cell 0
        have f0 := hRr.frozen 0
        have z1 : w2.cell? ⟨w.heap.size + 1 + 1, 1, none⟩ = some (.int .i64 0) := hRr.cell 1
        have f1 := hRr.frozen 1
        have z2 : w2.cell? ⟨w.heap.size + 1 + 1, 2, none⟩ = some (.int .i64 0) := hRr.cell 2
        have f2 := hRr.frozen 2
        have z3 : w2.cell? ⟨w.heap.size + 1 + 1, 3, none⟩ = some (.int .i64 0) := hRr.cell 3
        have f3 := hRr.frozen 3
        have HZ := Lib.hid ((((hRr.set_ 0 (.int .i64 0)).set_ 1 (.int .i64 0)).set_ 2 (.int .i64 0)).set_ 3 (.int .i64 0))
        have HBB := Lib.hid (((((HB.out.trans (HB2.out.mono HB.out.size)).setCell (p := ⟨w.heap.size + 1 + 1, 0, none⟩) (show w.heap.size ≤ w.heap.size + 1 + 1 by omega) (.int .i64 0)).setCell (p := ⟨w.heap.size + 1 + 1, 1, none⟩) (show w.heap.size ≤ w.heap.size + 1 + 1 by omega) (.int .i64 0)).setCell (p := ⟨w.heap.size + 1 + 1, 2, none⟩) (show w.heap.size ≤ w.heap.size + 1 + 1 by omega) (.int .i64 0)).setCell (p := ⟨w.heap.size + 1 + 1, 3, none⟩) (show w.heap.size ≤ w.heap.size + 1 + 1 by omega) (.int .i64 0))
        clear hRr
        go_wp2_with fail
        generalize ((((w2.setCell ⟨w.heap.size + 1 + 1, 0, none⟩ (.int .i64 0)).setCell ⟨w.heap.size + 1 + 1, 1, none⟩ (.int .i64 0)).setCell ⟨w.heap.size + 1 + 1, 2, none⟩ (.int .i64 0)).setCell ⟨w.heap.size + 1 + 1, 3, none⟩ (.int .i64 0)) = w9 at *
        have s0 : w9.cell? ⟨w.heap.size + 1 + 1, 0, none⟩ = some (.int .i64 0) := HZ.out.cell 0
        have s1 : w9.cell? ⟨w.heap.size + 1 + 1, 1, none⟩ = some (.int .i64 0) := HZ.out.cell 1
        have s2 : w9.cell? ⟨w.heap.size + 1 + 1, 2, none⟩ = some (.int .i64 0) := HZ.out.cell 2
        have s3 : w9.cell? ⟨w.heap.size + 1 + 1, 3, none⟩ = some (.int .i64 0) := HZ.out.cell 3
        refine bodyPost_ret (v := .tuple #[.agg #[.int .i64 0, .int .i64 0, .int .i64 0, .int .i64 0], .int .i64 1]) (by simp [results, Try.results21, go_sem, s0, s1, s2, s3]; try rfl) rfl ?_
        exact .inl ⟨.inr (.inl HFF.out), rfl, HBB.out⟩
      | true =>
        rw [hfo] at HFO
        replace HFO := Lib.hid HFO
        by_cases hn0 : n = 0
        · subst hn0
          clear hfo
          go_wp2_with fail
          refine HFO.out.mono ?_
          rintro e w2 ⟨rfl, hb2⟩
          have HB2 := Lib.hid (HBR.out.trans (hb2.mono HBR.out.size))
          have hRr := HR.out.below HB2.out HR.out.lt
          clear hb2 c0 c1 c2 c3 k0 k1 k2 k3 k4 HFO
          have z0 : w2.cell? ⟨w.heap.size + 1 + 1, 0, none⟩ = some (.int .i64 0) := hRr.cell 0
          have f0 := hRr.frozen 0
          have z1 : w2.cell? ⟨w.heap.size + 1 + 1, 1, none⟩ = some (.int .i64 0) := hRr.cell 1
          have f1 := hRr.frozen 1
          have z2 : w2.cell? ⟨w.heap.size + 1 + 1, 2, none⟩ = some (.int .i64 0) := hRr.cell 2
          have f2 := hRr.frozen 2
          have z3 : w2.cell? ⟨w.heap.size + 1 + 1, 3, none⟩ = some (.int .i64 0) := hRr.cell 3
          have f3 := hRr.frozen 3
          have HZ := Lib.hid ((((hRr.set_ 0 (.int .i64 0)).set_ 1 (.int .i64 0)).set_ 2 (.int .i64 0)).set_ 3 (.int .i64 0))
          have HBB := Lib.hid (((((HB.out.trans (HB2.out.mono HB.out.size)).setCell (p := ⟨w.heap.size + 1 + 1, 0, none⟩) (show w.heap.size ≤ w.heap.size + 1 + 1 by omega) (.int .i64 0)).setCell (p := ⟨w.heap.size + 1 + 1, 1, none⟩) (show w.heap.size ≤ w.heap.size + 1 + 1 by omega) (.int .i64 0)).setCell (p := ⟨w.heap.size + 1 + 1, 2, none⟩) (show w.heap.size ≤ w.heap.size + 1 + 1 by omega) (.int .i64 0)).setCell (p := ⟨w.heap.size + 1 + 1, 3, none⟩) (show w.heap.size ≤ w.heap.size + 1 + 1 by omega) (.int .i64 0))
          clear hRr
          go_wp2_with fail
          generalize ((((w2.setCell ⟨w.heap.size + 1 + 1, 0, none⟩ (.int .i64 0)).setCell ⟨w.heap.size + 1 + 1, 1, none⟩ (.int .i64 0)).setCell ⟨w.heap.size + 1 + 1, 2, none⟩ (.int .i64 0)).setCell ⟨w.heap.size + 1 + 1, 3, none⟩ (.int .i64 0)) = w9 at *
          have s0 : w9.cell? ⟨w.heap.size + 1 + 1, 0, none⟩ = some (.int .i64 0) := HZ.out.cell 0
          have s1 : w9.cell? ⟨w.heap.size + 1 + 1, 1, none⟩ = some (.int .i64 0) := HZ.out.cell 1
          have s2 : w9.cell? ⟨w.heap.size + 1 + 1, 2, none⟩ = some (.int .i64 0) := HZ.out.cell 2
          have s3 : w9.cell? ⟨w.heap.size + 1 + 1, 3, none⟩ = some (.int .i64 0) := HZ.out.cell 3
          refine bodyPost_ret (v := .tuple #[.agg #[.int .i64 0, .int .i64 0, .int .i64 0, .int .i64 0], .int .i64 1]) (by simp [results, Try.results21, go_sem, s0, s1, s2, s3]; try rfl) rfl ?_
          exact .inl ⟨.inr (.inr HG.out.symm), rfl, HBB.out⟩
        · have hn1 : ¬ (n : Int) = 0 := by omega
          have hn2 : ((n : Int) == 0) = false := by simp; omega
          have HN := Lib.hid (show 0 < n by omega)
          have HFF := Lib.hid hfo
          clear hfo hn0
          go_wp2_with fail
          refine HFO.out.mono ?_
          rintro e w2 ⟨rfl, hb2⟩
          have HB2 := Lib.hid (HBR.out.trans (hb2.mono HBR.out.size))
          have HF2 := Lib.hid (HF.out.below HB2.out HF.out.lt)
          have HO2 := Lib.hid (HO.out.below HB2.out HO.out.lt)
          have HR2 := Lib.hid (HR.out.below HB2.out HR.out.lt)
          have HW2 := Lib.hid (HB.out.trans (HB2.out.mono HB.out.size))
          clear hb2 c0 c1 c2 c3 k0 k1 k2 k3 k4 HFO
          have c0 : w2.cell? ⟨w.heap.size, 0, none⟩ = some (.int .i64 first) := HF2.out.cell 0
          have c1 : w2.cell? ⟨w.heap.size, 1, none⟩ = some (.int .i64 blocks) := HF2.out.cell 1
          have c2 : w2.cell? ⟨w.heap.size, 2, none⟩ = some (.int .i64 (wN : Int)) := HF2.out.cell 2
          have c3 : w2.cell? ⟨w.heap.size, 3, none⟩ = some (.int .i64 count) := HF2.out.cell 3
          have k0 : w2.cell? ⟨w.heap.size + 1, 0, none⟩ = some (.int .i64 o0) := HO2.out.cell 0
          have k1 : w2.cell? ⟨w.heap.size + 1, 1, none⟩ = some (.int .i64 o1) := HO2.out.cell 1
          have k2 : w2.cell? ⟨w.heap.size + 1, 2, none⟩ = some (.int .i64 o2) := HO2.out.cell 2
          have k3 : w2.cell? ⟨w.heap.size + 1, 3, none⟩ = some (.int .i64 o3) := HO2.out.cell 3
          have k4 : w2.cell? ⟨w.heap.size + 1, 4, none⟩ = some (.int .i64 o4) := HO2.out.cell 4
          have HEE := Lib.hid (HE.out HFF.out n HG.out.symm HN.out w2 HW2.out)
          go_wp2_with fail
          refine HEE.out.mono ?_
          rintro e w3 hh
          obtain ⟨a, b, c, d, er, rfl, hR3, hR4, hEC⟩ := each_pass (stays0 K _) (HI.out.below HW2.out) HR2.out (by omega) (fun q hq => hq.elim) (fun h => h) HW2.out hh
          have HR4 := Lib.hid hR4
          have HEC := Lib.hid hEC
          have g0 := hR3.frozen 0
          have g1 := hR3.frozen 1
          have g2 := hR3.frozen 2
          have g3 := hR3.frozen 3
          have p0 : w3.cell? ⟨w.heap.size + 1 + 1, 0, none⟩ = some (.int .i64 0) := hR3.cell 0
          have p1 : w3.cell? ⟨w.heap.size + 1 + 1, 1, none⟩ = some (.int .i64 0) := hR3.cell 1
          have p2 : w3.cell? ⟨w.heap.size + 1 + 1, 2, none⟩ = some (.int .i64 0) := hR3.cell 2
          have p3 : w3.cell? ⟨w.heap.size + 1 + 1, 3, none⟩ = some (.int .i64 0) := hR3.cell 3
          unfold four at HR4 HEC
          clear hh hR3 hR4 hEC
          go_wp2_with fail
          generalize ((((w3.setCell ⟨w.heap.size + 1 + 1, 0, none⟩ (.int .i64 a)).setCell ⟨w.heap.size + 1 + 1, 1, none⟩ (.int .i64 b)).setCell ⟨w.heap.size + 1 + 1, 2, none⟩ (.int .i64 c)).setCell ⟨w.heap.size + 1 + 1, 3, none⟩ (.int .i64 d)) = w4 at *
          have s0 : w4.cell? ⟨w.heap.size + 1 + 1, 0, none⟩ = some (.int .i64 a) := HR4.out.cell 0
          have s1 : w4.cell? ⟨w.heap.size + 1 + 1, 1, none⟩ = some (.int .i64 b) := HR4.out.cell 1
          have s2 : w4.cell? ⟨w.heap.size + 1 + 1, 2, none⟩ = some (.int .i64 c) := HR4.out.cell 2
          have s3 : w4.cell? ⟨w.heap.size + 1 + 1, 3, none⟩ = some (.int .i64 d) := HR4.out.cell 3
          refine bodyPost_ret (v := .tuple #[.agg #[.int .i64 a, .int .i64 b, .int .i64 c, .int .i64 d], .int .i64 er]) (by simp [results, Try.results21, go_sem, s0, s1, s2, s3]; try rfl) rfl ?_
          exact .inr ⟨n, HG.out.symm, HN.out, HFF.out, HEC.out⟩
end

end Go.Proofs.Ytlbaigkpojkfjaa.Fl
