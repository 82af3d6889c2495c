/- FilePlays: the walk of a writer more. -/
import Derived.Test.YtmmkncocgjgapaaZFpMk
import Derived.Deep.CutBlock
import Derived.Test.YtmmkncocgjgapaaZReg4
set_option linter.unusedVariables false
namespace Go.Proofs.Ytmmkncocgjgapaa.Fp
open Go.RowKit Fl

/-- An Op as a value. -/
def opc (kind k width bound : Int) (t : Tup) : Array Value := (Value.int .i64 kind :: .int .i64 k :: .int .i64 width :: .int .i64 bound :: icells t).toArray
def opv (kind k width bound : Int) (t : Tup) : Value := .agg (opc kind k width bound t)
section
variable {w w' : World} {O O' : Nat → Prop} {K : Key} {W W' : Wk} {S : PS} {mo dw : Ow} {tw : Nat → Option Nat} {st : Nat} {V : Nat → Value} {E : Nat → Prop}
/-- What an act of the law's leaves. -/
def ActTold (w : World) (K : Key) (W : Wk) (S : PS) (st : Nat) (e : Ending) (w' : World) : Prop :=
  e = .returned (.bool true) ∧ Below K.base w w' ∧ ∃ O' W' S' mo' dw' tw' V', Full w' O' K W' S' mo' dw' tw' st V' S'.C S'.n ∧ W'.D.size = W.D.size ∧ W'.D.acts ≤ W.D.acts + 5001 ∧ S'.ws.length ≤ S.ws.length + 1 ∧ S'.fs.length ≤ S.fs.length + 1 ∧ S'.rs.length ≤ S.rs.length + 1
theorem el_wr : Elem Try.prog 54 68 1 8 := elem_of (z := .pointer none) Try.underlying54 (by kernel_rfl) rfl (by decide)
theorem el_rdr : Elem Try.prog 59 40 1 8 := elem_of (z := .pointer none) Try.underlying59 (by kernel_rfl) rfl (by decide)
theorem el_int : Elem Try.prog 56 3 1 8 := elem_of (z := .int .i64 0) Try.underlying56 (by kernel_rfl) rfl (by decide)
theorem el_bool : Elem Try.prog 57 4 1 1 := elem_of (z := .bool false) Try.underlying57 (by kernel_rfl) rfl (by decide)
theorem el_tups : Elem Try.prog 55 22 1 24 := elem_of (z := .slice none 0 0) Try.underlying55 (by kernel_rfl) rfl (by decide)
theorem el_file : Elem Try.prog 58 32 4 32 := elem_of (z := .agg #[.int .i64 0, .int .i64 0, .int .i64 0, .int .i64 0]) Try.underlying58 (by kernel_rfl) rfl (by omega)
end

set_option maxRecDepth 100000 in
set_option maxHeartbeats 4000000 in
theorem write1 {w : World} {O : Nat → Prop} {K : Key} {W : Wk} {S : PS} {mo dw : Ow} {tw : Nat → Option Nat} {st : Nat} {V : Nat → Value} (h : Full w O K W S mo dw tw st V S.C S.n) (k width bound : Int) (t : Tup) (ht : t.length = 5) (hs : S.ws.length ≤ 100) (size : Nat) (hz : size = W.D.size) :
    Calls Try.prog 20 #[P st, opv 1 k width bound t, .int .i64 (size : Int)] w (ActTold w K W S st) := by
  subst hz
  unfold opv
  have hbo : Below w.heap.size w (w.alloc (.cells (opc 1 k width bound t) 63)) := (Below.refl _ _).alloc (Nat.le_refl _) _
  have hob := Blk.new w 63 (opc 1 k width bound t)
  have H1 := Lib.hid (h.below hbo)
  have HB1 := Lib.hid hbo
  have HOB := Lib.hid hob
  have HBASE := h.pi.base_le
  have HSZ := Lib.hid h.pi.wk.size
  clear h hbo hob
  unfold opc at *
  go_enter Try.func20, Try.ntmps20
  go_wp2_with fail
  generalize w.alloc (.cells (Value.int .i64 1 :: .int .i64 k :: .int .i64 width :: .int .i64 bound :: icells t).toArray 63) = w1 at *
  generalize w.heap.size = ob at *
  have hd0 : w1.drew = w1.drew := rfl
  have F0 : Blk w1.drew st 61 #[P K.wk, V 1, V 2, V 3, V 4, V 5, V 6, V 7, V 8, V 9, V 10, V 11, V 12] ∧ Blk w1.drew ob 63 (Value.int .i64 1 :: .int .i64 k :: .int .i64 width :: .int .i64 bound :: icells t).toArray := ⟨H1.out.st.blk, HOB.out⟩
  have CELL : Hid (∀ w' : World, Blk w' st 61 #[P K.wk, V 1, V 2, V 3, V 4, V 5, V 6, V 7, V 8, V 9, V 10, V 11, V 12] ∧ Blk w' ob 63 (Value.int .i64 1 :: .int .i64 k :: .int .i64 width :: .int .i64 bound :: icells t).toArray → w'.cell? ⟨st, 0, none⟩ = some (P K.wk) ∧ w'.cell? ⟨ob, 2, none⟩ = some (.int .i64 width) ∧ w'.cell? ⟨ob, 3, none⟩ = some (.int .i64 bound)) := Lib.hid (fun w' hF => ⟨hF.1.cell 0, hF.2.cell 2, hF.2.cell 3⟩)
  refine mx_begin (fun w' => Blk w' st 61 #[P K.wk, V 1, V 2, V 3, V 4, V 5, V 6, V 7, V 8, V 9, V 10, V 11, V 12] ∧ Blk w' ob 63 (Value.int .i64 1 :: .int .i64 k :: .int .i64 width :: .int .i64 bound :: icells t).toArray) [(true, 0), (true, 1), (true, 2), (true, 3), (true, 4), (true, 5), (true, 6), (true, 7), (false, 8), (true, 9), (true, 10), (true, 11), (true, 12), (false, 13)] (by kernel_rfl) (by kernel_rfl) (fun _ _ d _ _ h => by cases d <;> exact h) F0 ?_
  refine mx_read _ (P st) rfl (by kernel_rfl) (fun w' hF => by simp [execOp, Act.eval, go_sem]) ?_
  refine mx_read _ (P st) rfl (by kernel_rfl) (fun w' hF => by simp [execOp, Act.eval, go_sem]) ?_
  refine mx_read _ (P st) rfl (by kernel_rfl) (fun w' hF => by simp [execOp, Act.eval, go_sem]) ?_
  refine mx_read _ (P K.wk) rfl (by kernel_rfl) (fun w' hF => by obtain ⟨u0, u1, u2⟩ := CELL.out _ hF; simp [execOp, Act.eval, go_sem, u0]) ?_
  refine mx_read _ (.pointer (some ⟨ob, 2, none⟩)) rfl (by kernel_rfl) (fun w' hF => by simp [execOp, Act.eval, go_sem]) ?_
  refine mx_read _ (.int .i64 width) rfl (by kernel_rfl) (fun w' hF => by obtain ⟨u0, u1, u2⟩ := CELL.out _ hF; simp [execOp, Act.eval, go_sem, u1]) ?_
  refine mx_read _ (.pointer (some ⟨ob, 3, none⟩)) rfl (by kernel_rfl) (fun w' hF => by simp [execOp, Act.eval, go_sem]) ?_
  refine mx_read _ (.int .i64 bound) rfl (by kernel_rfl) (fun w' hF => by obtain ⟨u0, u1, u2⟩ := CELL.out _ hF; simp [execOp, Act.eval, go_sem, u2]) ?_
  refine mx_one _ rfl (by kernel_rfl) (fun K8 hK8 => ?_)
  go_simp
  have H1d := Lib.hid (H1.out.below (Below.refl _ _).drew)
  have HB1d := Lib.hid ((HB1.out.mono HBASE).drew)
  refine (make_c H1d.out.pi width bound).mono ?_
  rintro e w2 (⟨x, X, O2, W2, mo2, dw2, rfl, hXw, hXb, ht2, hp2, hD2⟩ | ⟨er, W2, rfl, her, ht2, hp2, hD2⟩)
  · have hE2 : Theirs w1.drew (fun _ => False) := fun g h => h.elim
    have H2 := Lib.hid (H1d.out.turn ht2 hE2 hp2 (fun q e' hq => by
      rcases get_add hq with hq | ⟨rfl, rfl⟩
      · exact .inl ⟨e', hq, rfl, rfl⟩
      · exact .inr ⟨rfl, rfl⟩))
    have hob2 := blk_mine H1d.out.pi.wk ht2 hE2 (HOB.out.below (Below.refl _ _).drew HOB.out.lt) (by unfold Mine; simp)
    have F2 := (⟨H2.out.st.blk, hob2⟩ : Blk w2 st 61 #[P K.wk, V 1, V 2, V 3, V 4, V 5, V 6, V 7, V 8, V 9, V 10, V 11, V 12] ∧ Blk w2 ob 63 (Value.int .i64 1 :: .int .i64 k :: .int .i64 width :: .int .i64 bound :: icells t).toArray)
    have HB2 := Lib.hid (HB1d.out.trans (low_ H1d.out.pi.wk H1d.out.pi.base_le ht2 (fun _ h => False.elim h)))
    refine hK8.out _ _ (fun _ => F2) ?_
    clear hK8 K8
    refine mx_read _ (.tuple #[P x, .int .i64 0]) rfl (by kernel_rfl) (fun w' hF => by simp [execOp, Act.eval, go_sem]) ?_
    refine mx_read _ (P x) rfl (by kernel_rfl) (fun w' hF => by simp [execOp, Act.eval, go_sem]) ?_
    refine mx_read _ (.int .i64 0) rfl (by kernel_rfl) (fun w' hF => by simp [execOp, Act.eval, go_sem]) ?_
    refine mx_read _ (P x) rfl (by kernel_rfl) (fun w' hF => by simp [execOp, Act.eval, go_sem]) ?_
    refine mx_one _ rfl (by kernel_rfl) (fun K8 hK8 => ?_)
    go_simp
    refine hK8.out _ _ (fun h => absurd rfl h) ?_
    clear hK8 K8
    refine mx_end ?_
    have c1 : w2.cell? ⟨st, 1, none⟩ = some (V 1) := F2.1.cell 1
    have hb3 : Below w2.heap.size w2 (w2.alloc (.cells #[P x] 68)) := (Below.refl _ _).alloc (Nat.le_refl _) _
    have H3 := Lib.hid (H2.out.below hb3)
    have HR3 := Lib.hid (Row.new w2 #[P x] 68 (0, 0))
    have hws : K.base ≤ w2.heap.size := H2.out.pi.base_le
    clear hb3
    go_wp2_with (at_builtin; go_must (refine wpList_append rfl (.tmp 37) (.tmp 39) _ rfl el_wr K.base (V 1) S.ws.length (S.C 1) rfl (H3.out.st.own 1 (by omega) (by omega)) _ 1 1 [P x] rfl rfl HR3.out (by intro u hu; simp at hu; subst hu; rfl) (by unfold maxLen; omega) (by omega) (by simp; omega) ?_))
    intro v4 w4 hown4 hg4 hv4 hb4
    obtain ⟨g4, cap4, rfl, _, _⟩ := World.ownsRow.form hown4 (by omega)
    have f4 := (H3.out.grown (by omega) (by omega) hg4 H3.out.st.blk (state_ety 1)).frozen 1
    have c4 : w4.cell? ⟨st, 1, none⟩ = some (V 1) := (H3.out.grown (by omega) (by omega) hg4 H3.out.st.blk (state_ety 1)).cell 1
    obtain ⟨V5, h5, hb5, hob5⟩ := H3.out.app1 (i := 1) (by omega) (by omega) hown4 hg4 (hv4.imp id (fun h => h.trans (by simp))) (hob2.alloc _)
    have H5 := Lib.hid h5
    have HOB5 := Lib.hid hob5
    have hb23 : Below K.base w2 (w2.alloc (.cells #[P x] 68)) := ((Below.refl w2.heap.size w2).alloc (Nat.le_refl _) _).mono hws
    have HB5 := Lib.hid ((HB2.out.trans hb23).trans hb5)
    clear h5 hb5 hob5 hown4 hg4 hv4 hb4 H3 HR3 H2 HB2 hob2 F2 hb23
    generalize hw5 : (w4.setCell ⟨st, 1, none⟩ (.slice (some ⟨g4, 0, none⟩) (S.ws.length + 1) cap4)) = w5 at *
    have c5 : (w4.setCell ⟨st, 1, none⟩ (.slice (some ⟨g4, 0, none⟩) (S.ws.length + 1) cap4)).cell? ⟨st, 2, none⟩ = some (V5 2) := by rw [hw5]; exact H5.out.st.blk.cell 2
    have hb6 : Below w5.heap.size w5 (w5.alloc (.cells #[.slice none 0 0] 22)) := (Below.refl _ _).alloc (Nat.le_refl _) _
    have H6 := Lib.hid (H5.out.below hb6)
    have HR6 := Lib.hid (Row.new w5 #[.slice none 0 0] 22 (0, 0))
    have hws5 : K.base ≤ w5.heap.size := H5.out.pi.base_le
    have HB6 := Lib.hid (HB5.out.trans (hb6.mono hws5))
    have HOB6 := Lib.hid (HOB5.out.below hb6 HOB5.out.lt)
    clear hb6 HB5 HOB5 H5
    have hsz5 : w5.heap.size = w4.heap.size := by rw [← hw5]; simp [World.setCell]
    rw [hsz5] at hws5 HR6
    rw [← hw5] at H6 HR6 HB6 HOB6
    clear hw5 hsz5 w5
    go_wp2_with (at_builtin; go_must (refine wpList_append rfl (.tmp 47) (.tmp 48) _ rfl el_tups K.base (V5 2) S.ws.length (S.C 2) rfl (H6.out.st.own 2 (by omega) (by omega)) _ 1 1 [.slice none 0 0] rfl rfl HR6.out (by intro u hu; simp at hu; subst hu; rfl) (by unfold maxLen; omega) (by omega) (by simp; omega) ?_))
    intro v7 w7 hown7 hg7 hv7 hb7
    obtain ⟨g7, cap7, rfl, _, _⟩ := World.ownsRow.form hown7 (by omega)
    have f7 := (H6.out.grown (by omega) (by omega) hg7 H6.out.st.blk (state_ety 2)).frozen 2
    have c7 : w7.cell? ⟨st, 2, none⟩ = some (V5 2) := (H6.out.grown (by omega) (by omega) hg7 H6.out.st.blk (state_ety 2)).cell 2
    obtain ⟨V8, h8, hb8, hob8⟩ := H6.out.app1 (i := 2) (by omega) (by omega) hown7 hg7 (hv7.imp id (fun h => h.trans (by simp))) HOB6.out
    have H8 := Lib.hid h8
    have HOB8 := Lib.hid hob8
    have HB8 := Lib.hid (HB6.out.trans hb8)
    clear h8 hb8 hob8 hown7 hg7 hv7 hb7 H6 HR6 HB6 HOB6
    go_wp2_with fail
    generalize (w7.setCell ⟨st, 2, none⟩ (.slice (some ⟨g7, 0, none⟩) (S.ws.length + 1) cap7)) = w8 at *
    have FF8 := (⟨H8.out.st.blk, HOB8.out⟩ : Blk w8 st 61 #[P K.wk, V8 1, V8 2, V8 3, V8 4, V8 5, V8 6, V8 7, V8 8, V8 9, V8 10, V8 11, V8 12] ∧ Blk w8 ob 63 (Value.int .i64 1 :: .int .i64 k :: .int .i64 width :: .int .i64 bound :: icells t).toArray)
    have CELL8 : Hid (∀ w' : World, Blk w' st 61 #[P K.wk, V8 1, V8 2, V8 3, V8 4, V8 5, V8 6, V8 7, V8 8, V8 9, V8 10, V8 11, V8 12] ∧ Blk w' ob 63 (Value.int .i64 1 :: .int .i64 k :: .int .i64 width :: .int .i64 bound :: icells t).toArray → w'.cell? ⟨st, 3, none⟩ = some (V8 3) ∧ w'.cell? ⟨ob, 2, none⟩ = some (.int .i64 width)) := Lib.hid (fun w' hF => ⟨hF.1.cell 3, hF.2.cell 2⟩)
    refine mx_begin (fun w' => Blk w' st 61 #[P K.wk, V8 1, V8 2, V8 3, V8 4, V8 5, V8 6, V8 7, V8 8, V8 9, V8 10, V8 11, V8 12] ∧ Blk w' ob 63 (Value.int .i64 1 :: .int .i64 k :: .int .i64 width :: .int .i64 bound :: icells t).toArray) [(true, 0), (true, 1), (true, 2), (true, 3), (true, 4), (true, 5), (true, 6), (false, 7), (false, 8), (true, 9), (true, 10), (false, 11)] (by kernel_rfl) (by kernel_rfl) (fun _ _ d _ _ h => by cases d <;> exact h) FF8 ?_
    refine mx_read _ (P st) rfl (by kernel_rfl) (fun w' hF => by simp [execOp, Act.eval, go_sem]) ?_
    refine mx_read _ (P st) rfl (by kernel_rfl) (fun w' hF => by simp [execOp, Act.eval, go_sem]) ?_
    refine mx_read _ (P st) rfl (by kernel_rfl) (fun w' hF => by simp [execOp, Act.eval, go_sem]) ?_
    refine mx_read _ (.pointer (some ⟨st, 3, none⟩)) rfl (by kernel_rfl) (fun w' hF => by simp [execOp, Act.eval, go_sem]) ?_
    refine mx_read _ (V8 3) rfl (by kernel_rfl) (fun w' hF => by obtain ⟨u0, u1⟩ := CELL8.out _ hF; simp [execOp, Act.eval, go_sem, u0]) ?_
    refine mx_read _ (.pointer (some ⟨ob, 2, none⟩)) rfl (by kernel_rfl) (fun w' hF => by simp [execOp, Act.eval, go_sem]) ?_
    refine mx_read _ (.int .i64 width) rfl (by kernel_rfl) (fun w' hF => by obtain ⟨u0, u1⟩ := CELL8.out _ hF; simp [execOp, Act.eval, go_sem, u1]) ?_
    have hd8 : Below w8.heap.size w8 (w8.drew.alloc (.cells #[.int .i64 width] 3)) := ((Below.refl _ _).drew).alloc (Nat.le_refl _) _
    have hws8 : K.base ≤ w8.heap.size := H8.out.pi.base_le
    have H9 := Lib.hid (H8.out.below hd8)
    have HOB9 := Lib.hid (HOB8.out.below hd8 HOB8.out.lt)
    have HB9 := Lib.hid (HB8.out.trans (hd8.mono hws8))
    have HR9 := Lib.hid (Row.new w8.drew #[.int .i64 width] 3 (0, 0))
    refine mx_one _ rfl (by kernel_rfl) (fun K8 hK8 => ?_)
    go_simp
    refine hK8.out _ _ (fun _ => ⟨H9.out.st.blk, HOB9.out⟩) ?_
    clear hK8 K8 hd8 FF8 CELL8 HB8 HOB8 H8
    refine mx_one _ rfl (by kernel_rfl) (fun K8 hK8 => ?_)
    refine wp_append (.tmp 56) (.tmp 59) _ rfl el_int K.base (V8 3) S.ws.length (S.C 3) (by simp [Act.eval]) (H9.out.st.own 3 (by omega) (by omega)) _ 1 1 [.int .i64 width] (by simp [Act.eval]) rfl HR9.out (by intro u hu; simp at hu; subst hu; rfl) (by unfold maxLen; omega) (by omega) (by simp; omega) ?_
    intro v10 w10 hown10 hg10 hv10 hb10
    obtain ⟨g10, cap10, rfl, _, _⟩ := World.ownsRow.form hown10 (by omega)
    have bk10 := H9.out.grown (i := 3) (by omega) (by omega) hg10 H9.out.st.blk (state_ety 3)
    have bo10 := H9.out.grown (i := 3) (by omega) (by omega) hg10 HOB9.out (op_ety 3)
    have f10 := bk10.frozen 3
    have c10 : w10.cell? ⟨st, 3, none⟩ = some (V8 3) := bk10.cell 3
    obtain ⟨V11, h11, hb11, hob11⟩ := H9.out.app1 (i := 3) (by omega) (by omega) hown10 hg10 (hv10.imp id (fun h => h.trans (by simp))) HOB9.out
    have H11 := Lib.hid h11
    have HOB11 := Lib.hid hob11
    have HB11 := Lib.hid (HB9.out.trans hb11)
    refine hK8.out _ _ (fun _ => ⟨bk10, bo10⟩) ?_
    clear hK8 K8 h11 hb11 hob11 hown10 hg10 hv10 hb10 H9 HR9 HB9 HOB9
    refine mx_read _ (P st) rfl (by kernel_rfl) (fun w' hF => by simp [execOp, Act.eval, go_sem]) ?_
    refine mx_read _ (.pointer (some ⟨st, 3, none⟩)) rfl (by kernel_rfl) (fun w' hF => by simp [execOp, Act.eval, go_sem]) ?_
    refine mx_one _ rfl (by kernel_rfl) (fun K8 hK8 => ?_)
    go_simp
    refine hK8.out _ _ (fun h => absurd rfl h) ?_
    clear hK8 K8
    refine mx_end ?_
    generalize (w10.setCell ⟨st, 3, none⟩ (.slice (some ⟨g10, 0, none⟩) (S.ws.length + 1) cap10)) = w11 at *
    clear bk10 bo10 f10 c10
    go_wp2_with fail
    have FF11 := (⟨H11.out.st.blk, HOB11.out⟩ : Blk w11 st 61 #[P K.wk, V11 1, V11 2, V11 3, V11 4, V11 5, V11 6, V11 7, V11 8, V11 9, V11 10, V11 11, V11 12] ∧ Blk w11 ob 63 (Value.int .i64 1 :: .int .i64 k :: .int .i64 width :: .int .i64 bound :: icells t).toArray)
    have CELL11 : Hid (∀ w' : World, Blk w' st 61 #[P K.wk, V11 1, V11 2, V11 3, V11 4, V11 5, V11 6, V11 7, V11 8, V11 9, V11 10, V11 11, V11 12] ∧ Blk w' ob 63 (Value.int .i64 1 :: .int .i64 k :: .int .i64 width :: .int .i64 bound :: icells t).toArray → w'.cell? ⟨st, 4, none⟩ = some (V11 4) ∧ w'.cell? ⟨ob, 3, none⟩ = some (.int .i64 bound)) := Lib.hid (fun w' hF => ⟨hF.1.cell 4, hF.2.cell 3⟩)
    refine mx_begin (fun w' => Blk w' st 61 #[P K.wk, V11 1, V11 2, V11 3, V11 4, V11 5, V11 6, V11 7, V11 8, V11 9, V11 10, V11 11, V11 12] ∧ Blk w' ob 63 (Value.int .i64 1 :: .int .i64 k :: .int .i64 width :: .int .i64 bound :: icells t).toArray) [(true, 0), (true, 1), (true, 2), (true, 3), (true, 4), (true, 5), (true, 6), (false, 7), (false, 8), (true, 9), (true, 10), (false, 11)] (by kernel_rfl) (by kernel_rfl) (fun _ _ d _ _ h => by cases d <;> exact h) FF11 ?_
    refine mx_read _ (P st) rfl (by kernel_rfl) (fun w' hF => by simp [execOp, Act.eval, go_sem]) ?_
    refine mx_read _ (P st) rfl (by kernel_rfl) (fun w' hF => by simp [execOp, Act.eval, go_sem]) ?_
    refine mx_read _ (P st) rfl (by kernel_rfl) (fun w' hF => by simp [execOp, Act.eval, go_sem]) ?_
    refine mx_read _ (.pointer (some ⟨st, 4, none⟩)) rfl (by kernel_rfl) (fun w' hF => by simp [execOp, Act.eval, go_sem]) ?_
    refine mx_read _ (V11 4) rfl (by kernel_rfl) (fun w' hF => by obtain ⟨u0, u1⟩ := CELL11.out _ hF; simp [execOp, Act.eval, go_sem, u0]) ?_
    refine mx_read _ (.pointer (some ⟨ob, 3, none⟩)) rfl (by kernel_rfl) (fun w' hF => by simp [execOp, Act.eval, go_sem]) ?_
    refine mx_read _ (.int .i64 bound) rfl (by kernel_rfl) (fun w' hF => by obtain ⟨u0, u1⟩ := CELL11.out _ hF; simp [execOp, Act.eval, go_sem, u1]) ?_
    have hd11 : Below w11.heap.size w11 (w11.drew.alloc (.cells #[.int .i64 bound] 3)) := ((Below.refl _ _).drew).alloc (Nat.le_refl _) _
    have hws11 : K.base ≤ w11.heap.size := H11.out.pi.base_le
    have H12 := Lib.hid (H11.out.below hd11)
    have HOB12 := Lib.hid (HOB11.out.below hd11 HOB11.out.lt)
    have HB12 := Lib.hid (HB11.out.trans (hd11.mono hws11))
    have HR12 := Lib.hid (Row.new w11.drew #[.int .i64 bound] 3 (0, 0))
    refine mx_one _ rfl (by kernel_rfl) (fun K8 hK8 => ?_)
    go_simp
    refine hK8.out _ _ (fun _ => ⟨H12.out.st.blk, HOB12.out⟩) ?_
    clear hK8 K8 hd11 FF11 CELL11 HB11 HOB11 H11
    refine mx_one _ rfl (by kernel_rfl) (fun K8 hK8 => ?_)
    refine wp_append (.tmp 67) (.tmp 70) _ rfl el_int K.base (V11 4) S.ws.length (S.C 4) (by simp [Act.eval]) (H12.out.st.own 4 (by omega) (by omega)) _ 1 1 [.int .i64 bound] (by simp [Act.eval]) rfl HR12.out (by intro u hu; simp at hu; subst hu; rfl) (by unfold maxLen; omega) (by omega) (by simp; omega) ?_
    intro v13 w13 hown13 hg13 hv13 hb13
    obtain ⟨g13, cap13, rfl, _, _⟩ := World.ownsRow.form hown13 (by omega)
    have bk13 := H12.out.grown (i := 4) (by omega) (by omega) hg13 H12.out.st.blk (state_ety 4)
    have bo13 := H12.out.grown (i := 4) (by omega) (by omega) hg13 HOB12.out (op_ety 4)
    have f13 := bk13.frozen 4
    have c13 : w13.cell? ⟨st, 4, none⟩ = some (V11 4) := bk13.cell 4
    obtain ⟨V14, h14, hb14, hob14⟩ := H12.out.app1 (i := 4) (by omega) (by omega) hown13 hg13 (hv13.imp id (fun h => h.trans (by simp))) HOB12.out
    have H14 := Lib.hid h14
    have HOB14 := Lib.hid hob14
    have HB14 := Lib.hid (HB12.out.trans hb14)
    refine hK8.out _ _ (fun _ => ⟨bk13, bo13⟩) ?_
    clear hK8 K8 h14 hb14 hob14 hown13 hg13 hv13 hb13 H12 HR12 HB12 HOB12
    refine mx_read _ (P st) rfl (by kernel_rfl) (fun w' hF => by simp [execOp, Act.eval, go_sem]) ?_
    refine mx_read _ (.pointer (some ⟨st, 4, none⟩)) rfl (by kernel_rfl) (fun w' hF => by simp [execOp, Act.eval, go_sem]) ?_
    refine mx_one _ rfl (by kernel_rfl) (fun K8 hK8 => ?_)
    go_simp
    refine hK8.out _ _ (fun h => absurd rfl h) ?_
    clear hK8 K8
    refine mx_end ?_
    generalize (w13.setCell ⟨st, 4, none⟩ (.slice (some ⟨g13, 0, none⟩) (S.ws.length + 1) cap13)) = w14 at *
    clear bk13 bo13 f13 c13
    have c14 : w14.cell? ⟨st, 5, none⟩ = some (V14 5) := H14.out.st.blk.cell 5
    have hb15 : Below w14.heap.size w14 (w14.alloc (.cells #[.bool true] 4)) := (Below.refl _ _).alloc (Nat.le_refl _) _
    have H15 := Lib.hid (H14.out.below hb15)
    have HR15 := Lib.hid (Row.new w14 #[.bool true] 4 (0, 0))
    have hws14 : K.base ≤ w14.heap.size := H14.out.pi.base_le
    have HB15 := Lib.hid (HB14.out.trans (hb15.mono hws14))
    have HOB15 := Lib.hid (HOB14.out.below hb15 HOB14.out.lt)
    clear hb15 HB14 HOB14 H14
    go_wp2_with (at_builtin; go_must (refine wpList_append rfl (.tmp 78) (.tmp 79) _ rfl el_bool K.base (V14 5) S.ws.length (S.C 5) rfl (H15.out.st.own 5 (by omega) (by omega)) _ 1 1 [.bool true] rfl rfl HR15.out (by intro u hu; simp at hu; subst hu; rfl) (by unfold maxLen; omega) (by omega) (by simp; omega) ?_))
    intro v16 w16 hown16 hg16 hv16 hb16
    obtain ⟨g16, cap16, rfl, _, _⟩ := World.ownsRow.form hown16 (by omega)
    have f16 := (H15.out.grown (by omega) (by omega) hg16 H15.out.st.blk (state_ety 5)).frozen 5
    have c16 : w16.cell? ⟨st, 5, none⟩ = some (V14 5) := (H15.out.grown (by omega) (by omega) hg16 H15.out.st.blk (state_ety 5)).cell 5
    obtain ⟨V17, h17, hb17, hob17⟩ := H15.out.app1 (i := 5) (by omega) (by omega) hown16 hg16 (hv16.imp id (fun h => h.trans (by simp))) HOB15.out
    have H17 := Lib.hid h17
    have HB17 := Lib.hid (HB15.out.trans hb17)
    clear h17 hb17 hob17 hown16 hg16 hv16 hb16 H15 HR15 HB15 HOB15
    go_wp2_with fail
    go_ret
    exact ⟨rfl, HB17.out, _, _, _, _, _, _, _, H17.out.cast (fun i h1 h2 => by
      have hi : i = 1 ∨ i = 2 ∨ i = 3 ∨ i = 4 ∨ i = 5 ∨ i = 6 ∨ i = 7 ∨ i = 8 ∨ i = 9 ∨ i = 10 ∨ i = 11 ∨ i = 12 := by omega
      rcases hi with rfl | rfl | rfl | rfl | rfl | rfl | rfl | rfl | rfl | rfl | rfl | rfl <;> simp [put_, PS.C, PS.n, PS.addW, hXw, hXb]), by rw [hD2], by rw [hD2]; omega, by simp [PS.addW], by simp [PS.addW], by simp [PS.addW]⟩
  · have hE2 : Theirs w1.drew (fun _ => False) := fun g h => h.elim
    have H2 := Lib.hid (H1d.out.turn ht2 hE2 hp2 (fun q e' hq => .inl ⟨e', hq, rfl, rfl⟩))
    have hob2 := blk_mine H1d.out.pi.wk ht2 hE2 (HOB.out.below (Below.refl _ _).drew HOB.out.lt) (by unfold Mine; simp)
    have F2 := (⟨H2.out.st.blk, hob2⟩ : Blk w2 st 61 #[P K.wk, V 1, V 2, V 3, V 4, V 5, V 6, V 7, V 8, V 9, V 10, V 11, V 12] ∧ Blk w2 ob 63 (Value.int .i64 1 :: .int .i64 k :: .int .i64 width :: .int .i64 bound :: icells t).toArray)
    have HB2 := Lib.hid (HB1d.out.trans (low_ H1d.out.pi.wk H1d.out.pi.base_le ht2 (fun _ h => False.elim h)))
    refine hK8.out _ _ (fun _ => F2) ?_
    clear hK8 K8
    refine mx_read _ (.tuple #[.pointer none, .int .i64 er]) rfl (by kernel_rfl) (fun w' hF => by simp [execOp, Act.eval, go_sem]) ?_
    refine mx_read _ (.pointer none) rfl (by kernel_rfl) (fun w' hF => by simp [execOp, Act.eval, go_sem]) ?_
    refine mx_read _ (.int .i64 er) rfl (by kernel_rfl) (fun w' hF => by simp [execOp, Act.eval, go_sem]) ?_
    refine mx_read _ (.pointer none) rfl (by kernel_rfl) (fun w' hF => by simp [execOp, Act.eval, go_sem]) ?_
    refine mx_one _ rfl (by kernel_rfl) (fun K8 hK8 => ?_)
    go_simp
    refine hK8.out _ _ (fun h => absurd rfl h) ?_
    clear hK8 K8
    refine mx_end ?_
    have cw : w2.cell? ⟨ob, 2, none⟩ = some (.int .i64 width) := F2.2.cell 2
    have cb : w2.cell? ⟨ob, 3, none⟩ = some (.int .i64 bound) := F2.2.cell 3
    have HFIN := Lib.hid (⟨rfl, HB2.out, _, _, _, _, _, _, _, H2.out, by rw [hD2], by rw [hD2]; omega, by omega, by omega, by omega⟩ : ActTold w K W S st (.returned (.bool true)) w2)
    obtain ⟨s8, s256⟩ := HSZ.out
    clear hE2 H2 hob2 F2 HB2 ht2 hp2 H1d HB1d H1 HB1 HOB CELL F0
    rcases her with rfl | rfl | ⟨rfl, hbad⟩
    · go_wp2_with fail
      go_ret
      exact ⟨rfl, HFIN.out.2⟩
    · go_wp2_with fail
      go_ret
      exact ⟨rfl, HFIN.out.2⟩
    · by_cases h5 : width < 1 ∨ 5 < width
      · have HRH := Lib.hid (refholds_no (W.D.size : Int) width w2 h5)
        clear h5 hbad
        go_wp2_with fail
        refine HRH.out.mono ?_
        rintro e w3 ⟨rfl, rfl⟩
        go_wp2_with fail
        go_ret
        exact ⟨rfl, HFIN.out.2⟩
      · obtain ⟨wN, rfl⟩ := Int.eq_ofNat_of_zero_le (show 0 ≤ width by omega)
        have HRH := Lib.hid (refholds_ok W.D.size wN w2 s8 s256 (by omega) (by omega))
        have hne : ¬ ((hN W.D.size wN : Int) = 0) := by have := hN_pos (size := W.D.size) (width := wN) s8 (by omega) (by omega); omega
        by_cases hb0 : bound < 0
        · clear h5 hbad
          go_wp2_with fail
          refine HRH.out.mono ?_
          rintro e w3 ⟨rfl, rfl⟩
          go_wp2_with fail
          go_ret
          exact ⟨rfl, HFIN.out.2⟩
        · have hb1 : (100000000 : Int) < bound := by omega
          clear h5 hbad
          go_wp2_with fail
          refine HRH.out.mono ?_
          rintro e w3 ⟨rfl, rfl⟩
          go_wp2_with fail
          go_ret
          exact ⟨rfl, HFIN.out.2⟩

end Go.Proofs.Ytmmkncocgjgapaa.Fp
