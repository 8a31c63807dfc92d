/- Contracts of functions of the program: what each returns. Conditions: the hypotheses of each theorem. -/
import Derived.Test.YthailbggeafckaaGreatCmdB
set_option linter.unusedVariables false
set_option linter.unusedSimpArgs false
namespace Go.Proofs.YthailbggeafckaaGreat
open Go Go.Cx

theorem fo99_0 : fldO Tryz.prog 99 0 = some 0 := by kernel_rfl
theorem fo99_1 : fldO Tryz.prog 99 1 = some 1 := by kernel_rfl
theorem fo107_0 : fldO Tryz.prog 107 0 = some 0 := by kernel_rfl
theorem pb27 : ptrB Tryz.prog 27 = true := by kernel_rfl
theorem go88 : isGo Tryz.prog 88 = true := by kernel_rfl
theorem fo107_5 : fldO Tryz.prog 107 5 = some 11 := by kernel_rfl
theorem sc4 : scal Tryz.prog 4 = true := by kernel_rfl
theorem go43 : isGo Tryz.prog 43 = true := by kernel_rfl
theorem fo107_3 : fldO Tryz.prog 107 3 = some 9 := by kernel_rfl
theorem fo107_4 : fldO Tryz.prog 107 4 = some 10 := by kernel_rfl
theorem fo157_1 : fldO Tryz.prog 157 1 = some 1 := by kernel_rfl
theorem go76 : isGo Tryz.prog 76 = true := by kernel_rfl
theorem go91 : isGo Tryz.prog 91 = true := by kernel_rfl
theorem mi105 : mapII Tryz.prog 105 = true := by kernel_rfl
theorem sc104 : scal Tryz.prog 104 = true := by kernel_rfl
theorem sc105 : scal Tryz.prog 105 = true := by kernel_rfl
theorem sl104 : slcO Tryz.prog 104 = some (157, 2, 32) := by kernel_rfl
theorem ag157 : aggS Tryz.prog 157 = some 2 := by kernel_rfl
theorem fo157_0 : fldO Tryz.prog 157 0 = some 0 := by kernel_rfl
theorem sz104 : szO Tryz.prog 104 = some 1 := by kernel_rfl
theorem sz157 : szO Tryz.prog 157 = some 2 := by kernel_rfl
theorem z157 : zer Tryz.prog 157 = some [.int .i64 0, .slice none 0 0] := by kernel_rfl
theorem fo101_1 : fldO Tryz.prog 101 1 = some 1 := by kernel_rfl
theorem fo107_1 : fldO Tryz.prog 107 1 = some 2 := by kernel_rfl
theorem sc23 : scal Tryz.prog 23 = true := by kernel_rfl
theorem sc27 : scal Tryz.prog 27 = true := by kernel_rfl
theorem fo103_1 : fldO Tryz.prog 103 1 = some 1 := by kernel_rfl
theorem fo107_2 : fldO Tryz.prog 107 2 = some 4 := by kernel_rfl
theorem go77 : isGo Tryz.prog 77 = true := by kernel_rfl
theorem sz3 : szO Tryz.prog 3 = some 1 := by kernel_rfl
theorem ft101 : fldT Tryz.prog 101 = some [(0, 1), (1, 1)] := by kernel_rfl
theorem ft107 : fldT Tryz.prog 107 = some [(0, 2), (2, 2), (4, 5), (9, 1), (10, 1), (11, 1)] := by kernel_rfl
theorem ft99 : fldT Tryz.prog 99 = some [(0, 1), (1, 1)] := by kernel_rfl
theorem go35 : isGo Tryz.prog 35 = true := by kernel_rfl
theorem z101 : zer Tryz.prog 101 = some [.int .i64 0, .int .u64 0] := by kernel_rfl
theorem z107 : zer Tryz.prog 107 = some [.int .i64 0, .slice none 0 0, .int .i64 0, .int .u64 0, .int .i64 0, .int .i64 0, .int .i64 0, .int .i64 0, .int .i64 0, .slice none 0 0, .map none, .bool false] := by kernel_rfl
theorem z99 : zer Tryz.prog 99 = some [.int .i64 0, .slice none 0 0] := by kernel_rfl
theorem fo101_0 : fldO Tryz.prog 101 0 = some 0 := by kernel_rfl
theorem fo103_0 : fldO Tryz.prog 103 0 = some 0 := by kernel_rfl
theorem fo103_2 : fldO Tryz.prog 103 2 = some 2 := by kernel_rfl
theorem fo103_3 : fldO Tryz.prog 103 3 = some 3 := by kernel_rfl
theorem fo103_4 : fldO Tryz.prog 103 4 = some 4 := by kernel_rfl
theorem ft157 : fldT Tryz.prog 157 = some [(0, 1), (1, 1)] := by kernel_rfl
theorem sz4 : szO Tryz.prog 4 = some 1 := by kernel_rfl

theorem d_count (D : Pl.Dv) (m : Nat) (pb : Option Addr) (cb gb : Nat) (bb : Blk) (pc : Option Addr) (cc gc : Nat) (bc : Blk) (gm : Nat) (es : List (Int × Int × Nat)) (ck : Nat) (cs : List PdV) (B : List (Nat × Blk)) (w0 : World) (hZ : OwnZ w0 ((m, .row 107 (dvV D pb cb pc cc gm)) :: (gb, bb) :: (gc, bc) :: (gm, mpB es ck) :: B)) (hz : DvZ 107 157 5 D m pb cb gb bb pc cc gc bc gm es cs B) : C Tryz.prog 88 [.pointer (some ⟨m, 0, none⟩)] w0 fun v w' => v = .int .i64 (D.cnt : Int) ∧ Ext No w0 w' := by
  have hP : w0.heap[m]? = some (Blk.row 107 (dvV D pb cb pc cc gm)).toObj := hZ.get (k := 0) rfl
  have hok := hz.ok
  have o1 := hok.sz
  have o2 := hok.len
  have o3 := hok.cnt
  have o4 := hok.max
  have o5 : D.cnt ≤ D.cnt * D.sz := Nat.le_mul_of_pos_right _ o1
  have o6 := hz.ab.le
  have o7 : D.sz ≤ D.cnt * D.sz := Nat.le_mul_of_pos_left _ o3
  refine C_of Tryz.func88 rfl rfl rfl fun κ hret hnorm => ?_
  have hm := Mem.start w0
  refine HW_seq rfl ?_
  refine HW_text (.pure 0 .done) (by kernel_rfl) ?_
  refine rw_p rfl rfl (y_assign rfl) ?_
  refine rw_done ?_
  refine gn_sq ?_
  refine HW_seq rfl ?_
  refine HW_draw (.pure 0 (.pure 1 (.pure 2 (.pure 3 (.pure 4 (.pure 5 (.pure 6 (.pure 7 (.pure 8 (.pure 9 (.pure 10 .done))))))))))) No mix (by kernel_rfl) hm fun w hw hm0 hh => ?_
  have hm := hm0
  refine rw_p rfl rfl (y_move rfl) ?_
  refine rw_p rfl rfl (y_nil rfl) ?_
  refine rw_p rfl rfl (y_fieldAddr rfl fo99_1) ?_
  refine rw_p rfl rfl (y_load rfl sc22 (fun u hu => ((hm0.to.trans hu).same _ (Array.getElem?_eq_some_iff.1 hP).1 id).trans hP) rfl) ?_
  refine rw_p rfl rfl (y_len rfl rfl sl22) ?_
  refine rw_p rfl rfl (y_move rfl) ?_
  refine rw_p rfl rfl (y_nil rfl) ?_
  refine rw_p rfl rfl (y_fieldAddr rfl fo99_0) ?_
  refine rw_p rfl rfl (y_load rfl sc3 (fun u hu => ((hm0.to.trans hu).same _ (Array.getElem?_eq_some_iff.1 hP).1 id).trans hP) rfl) ?_
  refine rw_p rfl rfl (y_quo rfl rfl (by omega) (cnt_div hok)) ?_
  refine rw_p rfl rfl (y_assign rfl) ?_
  refine rw_done ?_
  refine gn_sq ?_
  refine HW_ret rfl ?_
  refine toR (fin hret rfl (.tmp rfl .nil) .one ?_)
  exact ⟨rfl, hm.to⟩

theorem d_sector (D : Pl.Dv) (m : Nat) (pb : Option Addr) (cb : Nat) (pc : Option Addr) (nc cc gm n9 : Nat) (w0 : World) (hP : w0.heap[m]? = some (Blk.row 107 [.int .i64 (D.sz : Int), .slice pb n9 cb, .int .i64 D.wr, .int .u64 D.kp, .int .i64 D.sW, .int .i64 D.sF, .int .i64 D.sC, .int .i64 D.sH, .int .i64 D.sM, .slice pc nc cc, .map (some gm), .bool D.dn]).toObj) (o4 : D.cnt * D.sz ≤ 1048576) (o6 : D.cnt * D.sz ≤ cb) (hsp : cb ≠ 0 → ∀ ad, pb = some ad → ad.spot = none) (o1 : 1 ≤ D.sz) (i : Nat) (hi : i < D.cnt) : C Tryz.prog 91 [.pointer (some ⟨m, 0, none⟩), .int .i64 ((i : Nat) : Int)] w0 fun v w' => v = .slice (slp pb cb (i * D.sz) 1) D.sz (cb - i * D.sz) ∧ Ext No w0 w' := by
  have o5 : D.cnt ≤ D.cnt * D.sz := Nat.le_mul_of_pos_right _ o1
  have hs := Pl.sec_le (sz := D.sz) hi
  have hs1 : (i + 1) * D.sz = i * D.sz + D.sz := by rw [Nat.add_mul, Nat.one_mul]
  refine C_of Tryz.func91 rfl rfl rfl fun κ hret hnorm => ?_
  have hm := Mem.start w0
  refine HW_seq rfl ?_
  refine HW_text (.pure 0 .done) (by kernel_rfl) ?_
  refine rw_p rfl rfl (y_assign rfl) ?_
  refine rw_done ?_
  refine gn_sq ?_
  refine HW_seq rfl ?_
  refine HW_draw (.pure 0 (.pure 1 (.pure 2 (.pure 3 (.pure 4 (.pure 5 (.pure 6 (.pure 7 (.pure 8 (.pure 9 (.pure 10 (.pure 11 (.pure 12 (.pure 13 (.pure 14 (.pure 15 (.pure 16 (.pure 17 (.pure 18 .done))))))))))))))))))) No mix (by kernel_rfl) hm fun w hw hm0 hh => ?_
  have hm := hm0
  refine rw_p rfl rfl (y_move rfl) ?_
  refine rw_p rfl rfl (y_nil rfl) ?_
  refine rw_p rfl rfl (y_fieldAddr rfl fo99_1) ?_
  refine rw_p rfl rfl (y_load rfl sc22 (fun u hu => ((hm0.to.trans hu).same _ (Array.getElem?_eq_some_iff.1 hP).1 id).trans hP) rfl) ?_
  refine rw_p rfl rfl (y_move rfl) ?_
  refine rw_p rfl rfl (y_move rfl) ?_
  refine rw_p rfl rfl (y_nil rfl) ?_
  refine rw_p rfl rfl (y_fieldAddr rfl fo99_0) ?_
  refine rw_p rfl rfl (y_load rfl sc3 (fun u hu => ((hm0.to.trans hu).same _ (Array.getElem?_eq_some_iff.1 hP).1 id).trans hP) rfl) ?_
  refine rw_p rfl rfl (y_mul rfl rfl (mulN (by omega))) ?_
  refine rw_p rfl rfl (y_move rfl) ?_
  refine rw_p rfl rfl (y_add rfl rfl (addN (by omega))) ?_
  refine rw_p rfl rfl (y_move rfl) ?_
  refine rw_p rfl rfl (y_nil rfl) ?_
  refine rw_p rfl rfl (y_fieldAddr rfl fo99_0) ?_
  refine rw_p rfl rfl (y_load rfl sc3 (fun u hu => ((hm0.to.trans hu).same _ (Array.getElem?_eq_some_iff.1 hP).1 id).trans hP) rfl) ?_
  refine rw_p rfl rfl (y_mul rfl rfl (mulN (by omega))) ?_
  refine rw_p rfl rfl (y_v (y_slice (ln := (i * D.sz)) (hn := ((i + 1) * D.sz)) rfl sl22 ⟨_, rfl⟩ ⟨_, rfl⟩ (by omega) (by omega) (fun h => hsp (by omega))) (show _ = Value.slice (slp pb cb (i * D.sz) 1) D.sz (cb - i * D.sz) by rw [hs1, Nat.add_sub_cancel_left])) ?_
  refine rw_p rfl rfl (y_assign rfl) ?_
  refine rw_done ?_
  refine gn_sq ?_
  refine HW_ret rfl ?_
  refine toR (fin hret rfl (.tmp rfl .nil) .one ?_)
  exact ⟨rfl, hm.to⟩

theorem d_size (D : Pl.Dv) (m : Nat) (pb : Option Addr) (cb gb : Nat) (bb : Blk) (pc : Option Addr) (cc gc : Nat) (bc : Blk) (gm : Nat) (es : List (Int × Int × Nat)) (ck : Nat) (cs : List PdV) (B : List (Nat × Blk)) (w0 : World) (hZ : OwnZ w0 ((m, .row 107 (dvV D pb cb pc cc gm)) :: (gb, bb) :: (gc, bc) :: (gm, mpB es ck) :: B)) (hz : DvZ 107 157 5 D m pb cb gb bb pc cc gc bc gm es cs B) : C Tryz.prog 48 [.pointer (some ⟨m, 0, none⟩)] w0 fun v w' => v = .int .i64 (D.sz : Int) ∧ Ext No w0 w' := by
  have hP : w0.heap[m]? = some (Blk.row 107 (dvV D pb cb pc cc gm)).toObj := hZ.get (k := 0) rfl
  have hok := hz.ok
  have o1 := hok.sz
  have o2 := hok.len
  have o3 := hok.cnt
  have o4 := hok.max
  have o5 : D.cnt ≤ D.cnt * D.sz := Nat.le_mul_of_pos_right _ o1
  have o6 := hz.ab.le
  have o7 : D.sz ≤ D.cnt * D.sz := Nat.le_mul_of_pos_left _ o3
  refine C_of Tryz.func48 rfl rfl rfl fun κ hret hnorm => ?_
  have hm := Mem.start w0
  refine HW_seq rfl ?_
  refine HW_text (.pure 0 .done) (by kernel_rfl) ?_
  refine rw_p rfl rfl (y_assign rfl) ?_
  refine rw_done ?_
  refine gn_sq ?_
  refine HW_seq rfl ?_
  refine HW_seq rfl ?_
  refine HW_text (.pure 0 (.pure 1 .done)) (by kernel_rfl) ?_
  refine rw_p rfl rfl (y_move rfl) ?_
  refine rw_p rfl rfl (y_pnil rfl rfl pb27) ?_
  refine rw_done ?_
  refine gn_sq ?_
  refine HW_condF rfl rfl rfl ?_
  refine HW_skip rfl ?_
  refine gn_sq ?_
  refine HW_seq rfl ?_
  refine HW_text (.pure 0 (.pure 1 (.pure 2 (.pure 3 (.pure 4 (.pure 5 .done)))))) (by kernel_rfl) ?_
  refine rw_p rfl rfl (y_move rfl) ?_
  refine rw_p rfl rfl (y_nil rfl) ?_
  refine rw_p rfl rfl (y_fieldAddr rfl fo107_0) ?_
  refine rw_p rfl rfl (y_fieldAddr rfl fo99_0) ?_
  refine rw_p rfl rfl (y_load rfl sc3 (nowT ((hm.to.same _ (Array.getElem?_eq_some_iff.1 hP).1 id).trans hP)) rfl) ?_
  refine rw_p rfl rfl (y_assign rfl) ?_
  refine rw_done ?_
  refine gn_sq ?_
  refine HW_ret rfl ?_
  refine toR (fin hret rfl (.tmp rfl .nil) .one ?_)
  exact ⟨rfl, hm.to⟩

theorem d_sizeN (w0 : World) : C Tryz.prog 48 [.pointer none] w0 fun v w' => v = .int .i64 0 ∧ Ext No w0 w' := by
  refine C_of Tryz.func48 rfl rfl rfl fun κ hret hnorm => ?_
  have hm := Mem.start w0
  refine HW_seq rfl ?_
  refine HW_text (.pure 0 .done) (by kernel_rfl) ?_
  refine rw_p rfl rfl (y_assign rfl) ?_
  refine rw_done ?_
  refine gn_sq ?_
  refine HW_seq rfl ?_
  refine HW_seq rfl ?_
  refine HW_text (.pure 0 (.pure 1 .done)) (by kernel_rfl) ?_
  refine rw_p rfl rfl (y_move rfl) ?_
  refine rw_p rfl rfl (y_pnil rfl rfl pb27) ?_
  refine rw_done ?_
  refine gn_sq ?_
  refine HW_condT rfl rfl rfl ?_
  refine HW_seq rfl ?_
  refine HW_text (.pure 0 .done) (by kernel_rfl) ?_
  refine rw_p rfl rfl (y_assign rfl) ?_
  refine rw_done ?_
  refine gn_sq ?_
  refine HW_ret rfl ?_
  refine gr_sq ?_
  refine toR (fin hret rfl (.tmp rfl .nil) .one ?_)
  exact ⟨rfl, hm.to⟩

theorem d_sectors (D : Pl.Dv) (m : Nat) (pb : Option Addr) (cb gb : Nat) (bb : Blk) (pc : Option Addr) (cc gc : Nat) (bc : Blk) (gm : Nat) (es : List (Int × Int × Nat)) (ck : Nat) (cs : List PdV) (B : List (Nat × Blk)) (w0 : World) (hZ : OwnZ w0 ((m, .row 107 (dvV D pb cb pc cc gm)) :: (gb, bb) :: (gc, bc) :: (gm, mpB es ck) :: B)) (hz : DvZ 107 157 5 D m pb cb gb bb pc cc gc bc gm es cs B) : C Tryz.prog 50 [.pointer (some ⟨m, 0, none⟩)] w0 fun v w' => v = .int .i64 (D.cnt : Int) ∧ Ext No w0 w' := by
  have hP : w0.heap[m]? = some (Blk.row 107 (dvV D pb cb pc cc gm)).toObj := hZ.get (k := 0) rfl
  have hok := hz.ok
  have o1 := hok.sz
  have o2 := hok.len
  have o3 := hok.cnt
  have o4 := hok.max
  have o5 : D.cnt ≤ D.cnt * D.sz := Nat.le_mul_of_pos_right _ o1
  have o6 := hz.ab.le
  have o7 : D.sz ≤ D.cnt * D.sz := Nat.le_mul_of_pos_left _ o3
  refine C_of Tryz.func50 rfl rfl rfl fun κ hret hnorm => ?_
  have hm := Mem.start w0
  refine HW_seq rfl ?_
  refine HW_text (.pure 0 .done) (by kernel_rfl) ?_
  refine rw_p rfl rfl (y_assign rfl) ?_
  refine rw_done ?_
  refine gn_sq ?_
  refine HW_seq rfl ?_
  refine HW_seq rfl ?_
  refine HW_text (.pure 0 (.pure 1 .done)) (by kernel_rfl) ?_
  refine rw_p rfl rfl (y_move rfl) ?_
  refine rw_p rfl rfl (y_pnil rfl rfl pb27) ?_
  refine rw_done ?_
  refine gn_sq ?_
  refine HW_condF rfl rfl rfl ?_
  refine HW_skip rfl ?_
  refine gn_sq ?_
  refine HW_seq rfl ?_
  refine HW_text (.pure 0 (.pure 1 (.pure 2 (.act 3 (.pure 4 .done))))) (by kernel_rfl) ?_
  refine rw_p rfl rfl (y_move rfl) ?_
  refine rw_p rfl rfl (y_nil rfl) ?_
  refine rw_p rfl rfl (y_fieldAddr rfl fo107_0) ?_
  refine a_call rfl rfl rfl go88 (d_count D m pb cb gb bb pc cc gc bc gm es ck cs B _ (hZ.ext hm.to) hz) fun v w hR => ?_
  obtain ⟨rfl, hE⟩ := hR
  refine ⟨trivial, ?_⟩
  replace hm := hm.ext hE
  refine rw_p rfl rfl (y_assign rfl) ?_
  refine rw_done ?_
  refine gn_sq ?_
  refine HW_ret rfl ?_
  refine toR (fin hret rfl (.tmp rfl .nil) .one ?_)
  exact ⟨rfl, hm.to⟩

theorem d_sectorsN (w0 : World) : C Tryz.prog 50 [.pointer none] w0 fun v w' => v = .int .i64 0 ∧ Ext No w0 w' := by
  refine C_of Tryz.func50 rfl rfl rfl fun κ hret hnorm => ?_
  have hm := Mem.start w0
  refine HW_seq rfl ?_
  refine HW_text (.pure 0 .done) (by kernel_rfl) ?_
  refine rw_p rfl rfl (y_assign rfl) ?_
  refine rw_done ?_
  refine gn_sq ?_
  refine HW_seq rfl ?_
  refine HW_seq rfl ?_
  refine HW_text (.pure 0 (.pure 1 .done)) (by kernel_rfl) ?_
  refine rw_p rfl rfl (y_move rfl) ?_
  refine rw_p rfl rfl (y_pnil rfl rfl pb27) ?_
  refine rw_done ?_
  refine gn_sq ?_
  refine HW_condT rfl rfl rfl ?_
  refine HW_seq rfl ?_
  refine HW_text (.pure 0 .done) (by kernel_rfl) ?_
  refine rw_p rfl rfl (y_assign rfl) ?_
  refine rw_done ?_
  refine gn_sq ?_
  refine HW_ret rfl ?_
  refine gr_sq ?_
  refine toR (fin hret rfl (.tmp rfl .nil) .one ?_)
  exact ⟨rfl, hm.to⟩

theorem d_check (D : Pl.Dv) (m : Nat) (pb : Option Addr) (cb gb : Nat) (bb : Blk) (pc : Option Addr) (cc gc : Nat) (bc : Blk) (gm : Nat) (es : List (Int × Int × Nat)) (ck : Nat) (cs : List PdV) (B : List (Nat × Blk)) (w0 : World) (hZ : OwnZ w0 ((m, .row 107 (dvV D pb cb pc cc gm)) :: (gb, bb) :: (gc, bc) :: (gm, mpB es ck) :: B)) (hz : DvZ 107 157 5 D m pb cb gb bb pc cc gc bc gm es cs B) (i : Int) : C Tryz.prog 76 [.pointer (some ⟨m, 0, none⟩), .int .i64 i] w0 fun v w' => v = .int .i64 (Pl.codeAt D i) ∧ Ext No w0 w' := by
  have hP : w0.heap[m]? = some (Blk.row 107 (dvV D pb cb pc cc gm)).toObj := hZ.get (k := 0) rfl
  have hok := hz.ok
  have o1 := hok.sz
  have o2 := hok.len
  have o3 := hok.cnt
  have o4 := hok.max
  have o5 : D.cnt ≤ D.cnt * D.sz := Nat.le_mul_of_pos_right _ o1
  have o6 := hz.ab.le
  have o7 : D.sz ≤ D.cnt * D.sz := Nat.le_mul_of_pos_left _ o3
  have hcd : Pl.codeAt D i = if D.dn = true then 18 else if i < 0 ∨ (D.cnt : Int) ≤ i then 2 else 0 := rfl
  refine C_of Tryz.func76 rfl rfl rfl fun κ hret hnorm => ?_
  have hm := Mem.start w0
  refine HW_seq rfl ?_
  refine HW_text (.pure 0 .done) (by kernel_rfl) ?_
  refine rw_p rfl rfl (y_assign rfl) ?_
  refine rw_done ?_
  refine gn_sq ?_
  refine HW_seq rfl ?_
  refine HW_block rfl ?_
  refine HW_seq rfl ?_
  refine HW_text (.pure 0 (.pure 1 (.pure 2 .done))) (by kernel_rfl) ?_
  refine rw_p rfl rfl (y_move rfl) ?_
  refine rw_p rfl rfl (y_pnil rfl rfl pb27) ?_
  refine rw_p rfl rfl (y_assign rfl) ?_
  refine rw_done ?_
  refine gn_sq ?_
  refine HW_condF rfl rfl rfl ?_
  refine HW_seq rfl ?_
  refine HW_text (.pure 0 (.pure 1 (.pure 2 (.pure 3 (.pure 4 .done))))) (by kernel_rfl) ?_
  refine rw_p rfl rfl (y_move rfl) ?_
  refine rw_p rfl rfl (y_nil rfl) ?_
  refine rw_p rfl rfl (y_fieldAddr rfl fo107_5) ?_
  refine rw_p rfl rfl (y_load rfl sc4 (nowT ((hm.to.same _ (Array.getElem?_eq_some_iff.1 hP).1 id).trans hP)) rfl) ?_
  refine rw_p rfl rfl (y_assign rfl) ?_
  refine rw_done ?_
  refine gn_sq ?_
  refine HW_cond rfl rfl (fun hc1 => ?_) (fun hc1 => ?_)
  ·
    refine HW_seq rfl ?_
    refine HW_text (.pure 0 .done) (by kernel_rfl) ?_
    refine rw_p rfl rfl (y_assign rfl) ?_
    refine rw_done ?_
    refine gn_sq ?_
    refine HW_ret rfl ?_
    refine gr_bl (gr_sq ?_)
    refine toR (fin hret rfl (.tmp rfl .nil) .one ?_)
    exact ⟨by rw [hcd, if_pos hc1], hm.to⟩
  ·
    refine HW_seq rfl ?_
    refine HW_text (.pure 0 (.pure 1 (.pure 2 (.pure 3 (.pure 4 (.pure 5 (.pure 6 (.act 7 (.pure 8 (.pure 9 (.pure 10 .done))))))))))) (by kernel_rfl) ?_
    refine rw_p rfl rfl (y_move rfl) ?_
    refine rw_p rfl rfl (y_lt rfl rfl) ?_
    refine rw_p rfl rfl (y_move rfl) ?_
    refine rw_g rfl rfl rfl (fun hc => (y_move rfl)) ?_
    refine rw_g rfl rfl rfl (fun hc => (y_move rfl)) ?_
    refine rw_g rfl rfl rfl (fun hc => (y_nil (gx hc rfl))) ?_
    refine rw_g rfl rfl rfl (fun hc => (y_fieldAddr (gx hc rfl) fo107_0)) ?_
    refine a_callG rfl rfl rfl (fun hc => (evs_c (gx hc rfl) evs_n)) go88 (fun hc => (d_count D m pb cb gb bb pc cc gc bc gm es ck cs B _ (hZ.ext hm.to) hz)) trivial fun w hE hh => ?_
    replace hm := hm.ext hE
    refine rw_g rfl rfl rfl (fun hc => (y_ge (gx hc rfl) (gx hc rfl))) ?_
    refine rw_p rfl rfl (y_or rfl rfl rfl) ?_
    refine rw_p rfl rfl (y_assign rfl) ?_
    refine rw_done ?_
    refine gn_sq ?_
    refine HW_cond rfl rfl (fun hc2 => ?_) (fun hc2 => ?_)
    ·
      simp only [Bool.or_eq_true, decide_eq_true_eq] at hc2
      refine HW_seq rfl ?_
      refine HW_text (.pure 0 .done) (by kernel_rfl) ?_
      refine rw_p rfl rfl (y_assign rfl) ?_
      refine rw_done ?_
      refine gn_sq ?_
      refine HW_ret rfl ?_
      refine gr_bl (gr_sq ?_)
      refine toR (fin hret rfl (.tmp rfl .nil) .one ?_)
      exact ⟨by rw [hcd, if_neg (by simp [hc1]), if_pos (by omega)], hm.to⟩
    ·
      simp only [Bool.or_eq_false_iff, decide_eq_false_iff_not] at hc2
      refine HW_skip rfl ?_
      refine gn_bl ?_
      refine gn_sq ?_
      refine HW_seq rfl ?_
      refine HW_text (.pure 0 .done) (by kernel_rfl) ?_
      refine rw_p rfl rfl (y_assign rfl) ?_
      refine rw_done ?_
      refine gn_sq ?_
      refine HW_ret rfl ?_
      refine toR (fin hret rfl (.tmp rfl .nil) .one ?_)
      exact ⟨by rw [hcd, if_neg (by simp [hc1]), if_neg (by omega)], hm.to⟩

theorem d_checkN (i : Int) (w0 : World) : C Tryz.prog 76 [.pointer none, .int .i64 i] w0 fun v w' => v = .int .i64 1 ∧ Ext No w0 w' := by
  refine C_of Tryz.func76 rfl rfl rfl fun κ hret hnorm => ?_
  have hm := Mem.start w0
  refine HW_seq rfl ?_
  refine HW_text (.pure 0 .done) (by kernel_rfl) ?_
  refine rw_p rfl rfl (y_assign rfl) ?_
  refine rw_done ?_
  refine gn_sq ?_
  refine HW_seq rfl ?_
  refine HW_block rfl ?_
  refine HW_seq rfl ?_
  refine HW_text (.pure 0 (.pure 1 (.pure 2 .done))) (by kernel_rfl) ?_
  refine rw_p rfl rfl (y_move rfl) ?_
  refine rw_p rfl rfl (y_pnil rfl rfl pb27) ?_
  refine rw_p rfl rfl (y_assign rfl) ?_
  refine rw_done ?_
  refine gn_sq ?_
  refine HW_condT rfl rfl rfl ?_
  refine HW_seq rfl ?_
  refine HW_text (.pure 0 .done) (by kernel_rfl) ?_
  refine rw_p rfl rfl (y_assign rfl) ?_
  refine rw_done ?_
  refine gn_sq ?_
  refine HW_ret rfl ?_
  refine gr_bl (gr_sq ?_)
  refine toR (fin hret rfl (.tmp rfl .nil) .one ?_)
  exact ⟨rfl, hm.to⟩

theorem d_disk (D : Pl.Dv) (m : Nat) (pb : Option Addr) (cb gb : Nat) (bb : Blk) (pc : Option Addr) (cc gc : Nat) (bc : Blk) (gm : Nat) (es : List (Int × Int × Nat)) (ck : Nat) (cs : List PdV) (B : List (Nat × Blk)) (w0 : World) (hZ : OwnZ w0 ((m, .row 107 (dvV D pb cb pc cc gm)) :: (gb, bb) :: (gc, bc) :: (gm, mpB es ck) :: B)) (hz : DvZ 107 157 5 D m pb cb gb bb pc cc gc bc gm es cs B) : C Tryz.prog 14 [.pointer (some ⟨m, 0, none⟩)] w0 fun v w' => ∃ q c g b, v = .slice q D.dk.length c ∧ Acc 5 1 q (D.dk).length c ((D.dk).flatMap encB) g b ∧ Mem w0 w' No [(g, b)] := by
  have hP : w0.heap[m]? = some (Blk.row 107 (dvV D pb cb pc cc gm)).toObj := hZ.get (k := 0) rfl
  have hok := hz.ok
  have o1 := hok.sz
  have o2 := hok.len
  have o3 := hok.cnt
  have o4 := hok.max
  have o5 : D.cnt ≤ D.cnt * D.sz := Nat.le_mul_of_pos_right _ o1
  have o6 := hz.ab.le
  have o7 : D.sz ≤ D.cnt * D.sz := Nat.le_mul_of_pos_left _ o3
  have hB := hz.ab.rdO hZ (by simp)
  refine C_of Tryz.func14 rfl rfl rfl fun κ hret hnorm => ?_
  have hm := Mem.start w0
  refine HW_seq rfl ?_
  refine HW_text (.pure 0 .done) (by kernel_rfl) ?_
  refine rw_p rfl rfl (y_assign rfl) ?_
  refine rw_done ?_
  refine gn_sq ?_
  refine HW_seq rfl ?_
  refine HW_seq rfl ?_
  refine HW_text (.pure 0 (.pure 1 .done)) (by kernel_rfl) ?_
  refine rw_p rfl rfl (y_move rfl) ?_
  refine rw_p rfl rfl (y_pnil rfl rfl pb27) ?_
  refine rw_done ?_
  refine gn_sq ?_
  refine HW_condF rfl rfl rfl ?_
  refine HW_skip rfl ?_
  refine gn_sq ?_
  refine HW_seq rfl ?_
  refine HW_text (.pure 0 (.pure 1 (.pure 2 (.pure 3 (.pure 4 (.act 5 (.pure 6 .done))))))) (by kernel_rfl) ?_
  refine rw_p rfl rfl (y_move rfl) ?_
  refine rw_p rfl rfl (y_nil rfl) ?_
  refine rw_p rfl rfl (y_fieldAddr rfl fo107_0) ?_
  refine rw_p rfl rfl (y_fieldAddr rfl fo99_1) ?_
  refine rw_p rfl rfl (y_load rfl sc22 (nowT ((hm.to.same _ (Array.getElem?_eq_some_iff.1 hP).1 id).trans hP)) rfl) ?_
  refine a_call rfl rfl rfl go43 (clone_b pb cb D.dk _ (hB.ext0 hm.to) (by omega)) fun v w hR => ?_
  obtain ⟨p_s, cap_s, g_s, b_s, rfl, ha_s, hmc⟩ := hR
  refine ⟨trivial, ?_⟩
  have hg_s : b_s.real = true → _ := fun hr => (hmc.fresh _ List.mem_cons_self hr).resolve_left id
  replace hm := hm.callN hmc
  refine rw_p rfl rfl (y_assign rfl) ?_
  refine rw_done ?_
  refine gn_sq ?_
  refine HW_ret rfl ?_
  refine toR (fin hret rfl (.tmp rfl .nil) .one ?_)
  exact ⟨p_s, cap_s, g_s, b_s, rfl, ha_s, (hm.pick [0] rfl)⟩

theorem d_diskN (w0 : World) : C Tryz.prog 14 [.pointer none] w0 fun v w' => v = .slice none 0 0 ∧ Ext No w0 w' := by
  refine C_of Tryz.func14 rfl rfl rfl fun κ hret hnorm => ?_
  have hm := Mem.start w0
  refine HW_seq rfl ?_
  refine HW_text (.pure 0 .done) (by kernel_rfl) ?_
  refine rw_p rfl rfl (y_assign rfl) ?_
  refine rw_done ?_
  refine gn_sq ?_
  refine HW_seq rfl ?_
  refine HW_seq rfl ?_
  refine HW_text (.pure 0 (.pure 1 .done)) (by kernel_rfl) ?_
  refine rw_p rfl rfl (y_move rfl) ?_
  refine rw_p rfl rfl (y_pnil rfl rfl pb27) ?_
  refine rw_done ?_
  refine gn_sq ?_
  refine HW_condT rfl rfl rfl ?_
  refine HW_seq rfl ?_
  refine HW_text (.pure 0 .done) (by kernel_rfl) ?_
  refine rw_p rfl rfl (y_assign rfl) ?_
  refine rw_done ?_
  refine gn_sq ?_
  refine HW_ret rfl ?_
  refine gr_sq ?_
  refine toR (fin hret rfl (.tmp rfl .nil) .one ?_)
  exact ⟨rfl, hm.to⟩

set_option maxHeartbeats 400000 in
theorem d_read (D : Pl.Dv) (m : Nat) (pb : Option Addr) (cb gb : Nat) (bb : Blk) (pc : Option Addr) (cc gc : Nat) (bc : Blk) (gm : Nat) (es : List (Int × Int × Nat)) (ck : Nat) (cs : List PdV) (B : List (Nat × Blk)) (w0 : World) (hZ : OwnZ w0 ((m, .row 107 (dvV D pb cb pc cc gm)) :: (gb, bb) :: (gc, bc) :: (gm, mpB es ck) :: B)) (hz : DvZ 107 157 5 D m pb cb gb bb pc cc gc bc gm es cs B) (i : Int) : C Tryz.prog 53 [.pointer (some ⟨m, 0, none⟩), .int .i64 i] w0 fun v w' => ∃ q c g b, v = .tuple ⟨[.slice q (if Pl.codeAt D i = 0 then Pl.rdS D i else []).length c, .int .i64 (Pl.codeAt D i)]⟩ ∧ Acc 5 1 q ((if Pl.codeAt D i = 0 then Pl.rdS D i else [])).length c (((if Pl.codeAt D i = 0 then Pl.rdS D i else [])).flatMap encB) g b ∧ Mem w0 w' No [(g, b)] := by
  have hP : w0.heap[m]? = some (Blk.row 107 (dvV D pb cb pc cc gm)).toObj := hZ.get (k := 0) rfl
  have hok := hz.ok
  have o1 := hok.sz
  have o2 := hok.len
  have o3 := hok.cnt
  have o4 := hok.max
  have o5 : D.cnt ≤ D.cnt * D.sz := Nat.le_mul_of_pos_right _ o1
  have o6 := hz.ab.le
  have o7 : D.sz ≤ D.cnt * D.sz := Nat.le_mul_of_pos_left _ o3
  have hB := hz.ab.rdO hZ (by simp)
  have hC := hz.ac.rdO hZ (by simp)
  have hM := hZ.get (k := 3) rfl
  have hCl := wr_len hz.cw
  refine C_of Tryz.func53 rfl rfl rfl fun κ hret hnorm => ?_
  have hm := Mem.start w0
  refine HW_seq rfl ?_
  refine HW_text (.pure 0 (.pure 1 .done)) (by kernel_rfl) ?_
  refine rw_p rfl rfl (y_assign rfl) ?_
  refine rw_p rfl rfl (y_assign rfl) ?_
  refine rw_done ?_
  refine gn_sq ?_
  refine HW_seq rfl ?_
  refine HW_seq rfl ?_
  refine HW_text (.pure 0 (.pure 1 (.act 2 (.pure 3 .done)))) (by kernel_rfl) ?_
  refine rw_p rfl rfl (y_move rfl) ?_
  refine rw_p rfl rfl (y_move rfl) ?_
  refine a_call rfl rfl rfl go76 (d_check D m pb cb gb bb pc cc gc bc gm es ck cs B _ (hZ.ext hm.to) hz i) fun v w hR => ?_
  obtain ⟨rfl, hE⟩ := hR
  refine ⟨trivial, ?_⟩
  replace hm := hm.ext hE
  refine rw_p rfl rfl (y_assign rfl) ?_
  refine rw_done ?_
  refine gn_sq ?_
  refine HW_seq rfl ?_
  refine HW_text (.pure 0 (.pure 1 .done)) (by kernel_rfl) ?_
  refine rw_p rfl rfl (y_move rfl) ?_
  refine rw_p rfl rfl (y_ne rfl rfl) ?_
  refine rw_done ?_
  refine gn_sq ?_
  refine HW_cond rfl rfl (fun hc0 => ?_) (fun hc0 => ?_)
  ·
    simp only [decide_eq_true_eq] at hc0
    have hrs : (if Pl.codeAt D i = 0 then Pl.rdS D i else []) = [] := if_neg hc0
    refine HW_seq rfl ?_
    refine HW_text (.pure 0 (.pure 1 (.pure 2 .done))) (by kernel_rfl) ?_
    refine rw_p rfl rfl (y_move rfl) ?_
    refine rw_p rfl rfl (y_assign rfl) ?_
    refine rw_p rfl rfl (y_assign rfl) ?_
    refine rw_done ?_
    refine gn_sq ?_
    refine HW_ret rfl ?_
    refine gr_sq ?_
    refine toR (fin hret rfl (.tmp rfl (.tmp rfl .nil)) .more ?_)
    exact ⟨none, 0, 0, .gap, by rw [hrs]; rfl, by rw [hrs]; exact .nil _ _ _ _, (hm.drop (List.nil_sublist _)).gapIn⟩
  ·
    simp only [decide_eq_false_iff_not, Decidable.not_not] at hc0
    have hrs : (if Pl.codeAt D i = 0 then Pl.rdS D i else []) = Pl.rdS D i := if_pos hc0
    obtain ⟨_, hi0, hi1⟩ := code0 hc0
    obtain ⟨ii, rfl⟩ : ∃ ii : Nat, i = ii := ⟨i.toNat, by omega⟩
    have hsl := Pl.sector_last (cnt := D.cnt) (i := ii) (by omega) hok.len hok.ca
    have hrd : Pl.rdS D (ii : Int) = ((D.ca.foldl (Pl.putS D.sz) D.dk).drop (ii * D.sz)).take D.sz := rfl
    refine HW_skip rfl ?_
    refine gn_sq ?_
    refine HW_seq rfl ?_
    refine HW_seq rfl ?_
    refine HW_text (.pure 0 (.pure 1 (.pure 2 (.pure 3 (.pure 4 (.pure 5 (.pure 6 (.pure 7 (.pure 8 (.pure 9 (.pure 10 .done))))))))))) (by kernel_rfl) ?_
    refine rw_p rfl rfl (y_move rfl) ?_
    refine rw_p rfl rfl (y_nil rfl) ?_
    refine rw_p rfl rfl (y_fieldAddr rfl fo107_4) ?_
    refine rw_p rfl rfl (y_load rfl sc105 (nowT ((hm.to.same _ (Array.getElem?_eq_some_iff.1 hP).1 id).trans hP)) rfl) ?_
    refine rw_p rfl rfl (y_move rfl) ?_
    refine rw_p rfl rfl (y_lookup rfl rfl mi105 (nowT ((hm.to.same _ (Array.getElem?_eq_some_iff.1 hM).1 id).trans hM))) ?_
    refine rw_p rfl rfl (y_move rfl) ?_
    refine rw_p rfl rfl (y_extract rfl rfl) ?_
    refine rw_p rfl rfl (y_extract rfl rfl) ?_
    refine rw_p rfl rfl (y_assign rfl) ?_
    refine rw_p rfl rfl (y_assign rfl) ?_
    refine rw_done ?_
    refine gn_sq ?_
    refine HW_seq rfl ?_
    refine HW_text (.pure 0 .done) (by kernel_rfl) ?_
    refine rw_p rfl rfl (y_move rfl) ?_
    refine rw_done ?_
    refine gn_sq ?_
    refine HW_cond rfl rfl (fun hc1 => ?_) (fun hc1 => ?_)
    ·
      obtain ⟨k, hk⟩ := Option.isSome_iff_exists.1 hc1
      obtain ⟨c, hk0, hkc, hks, hkl⟩ := hsl.1 k (by rw [← hz.mp]; exact hk)
      obtain ⟨kn, rfl⟩ : ∃ kn : Nat, k = kn := ⟨k.toNat, by omega⟩
      obtain ⟨x, hx⟩ : ∃ y_, cs[kn]? = some y_ := ⟨_, List.getElem?_eq_getElem (by omega)⟩
      obtain ⟨b2, o8, hq⟩ := hC.atI encP_len (by decide) hx
      have hxc := wr_get hz.cw hx
      rw [Int.toNat_natCast, hxc] at hkc
      have hcb2 : x.d.bs = c.2 := congrArg Prod.snd (Option.some.inj hkc)
      have hxl : x.d.bs.length = D.sz := by rw [hcb2]; exact (hok.ca c (by have := List.mem_of_getElem? hxc; rw [Option.some.inj hkc] at this; exact this)).2
      refine HW_seq rfl ?_
      refine HW_text (.pure 0 (.pure 1 (.pure 2 (.pure 3 (.pure 4 (.pure 5 (.pure 6 (.pure 7 (.act 8 (.pure 9 (.pure 10 .done))))))))))) (by kernel_rfl) ?_
      refine rw_p rfl rfl (y_move rfl) ?_
      refine rw_p rfl rfl (y_nil rfl) ?_
      refine rw_p rfl rfl (y_fieldAddr rfl fo107_3) ?_
      refine rw_p rfl rfl (y_load rfl sc104 (nowT ((hm.to.same _ (Array.getElem?_eq_some_iff.1 hP).1 id).trans hP)) rfl) ?_
      refine rw_p rfl rfl (y_v (y_move rfl) (show _ = Value.int .i64 (kn : Int) by rw [hk]; rfl)) ?_
      refine rw_p rfl rfl (y_index rfl rfl sl104 hq (by omega) (by omega)) ?_
      refine rw_p rfl rfl (y_fieldAddr rfl fo157_1) ?_
      refine rw_p rfl rfl (y_elS rfl sc22 (hq ▸ hC.ext0 hm.to).nt encP_len hx rfl) ?_
      refine a_call rfl rfl rfl go43 (clone_b x.d.p x.d.cap x.d.bs _ (((hz.hd x (List.mem_of_getElem? hx)).mono (fun e he => by simp [he])).rdO (hZ.ext hm.to)) (by omega)) fun v w hR => ?_
      obtain ⟨p_s, cap_s, g_s, b_s, rfl, ha_s, hmc⟩ := hR
      refine ⟨trivial, ?_⟩
      have hg_s : b_s.real = true → _ := fun hr => (hmc.fresh _ List.mem_cons_self hr).resolve_left id
      replace hm := hm.callN hmc
      refine rw_p rfl rfl (y_assign rfl) ?_
      refine rw_p rfl rfl (y_assign rfl) ?_
      refine rw_done ?_
      refine gn_sq ?_
      refine HW_ret rfl ?_
      refine gr_sq ?_
      refine toR (fin hret rfl (.tmp rfl (.tmp rfl .nil)) .more ?_)
      exact ⟨p_s, cap_s, g_s, b_s, by rw [hrs, hrd, hks, hc0, hcb2], by rw [hrs, hrd, hks, ← hcb2]; exact ha_s, (hm.pick [0] rfl)⟩
    ·
      have hkn : Pl.lastIx D.ca ii = none := by rw [← hz.mp]; simpa using hc1
      have hks := hsl.2 hkn
      have hsec := Pl.sec_le (sz := D.sz) (cnt := D.cnt) (i := ii) (by omega)
      have hpl : ((D.dk.drop (ii * D.sz)).take D.sz).length = D.sz := by rw [List.length_take, List.length_drop]; omega
      refine HW_skip rfl ?_
      refine gn_sq ?_
      refine HW_seq rfl ?_
      refine HW_text (.pure 0 (.pure 1 (.pure 2 (.pure 3 (.act 4 (.act 5 (.pure 6 (.pure 7 .done)))))))) (by kernel_rfl) ?_
      refine rw_p rfl rfl (y_move rfl) ?_
      refine rw_p rfl rfl (y_nil rfl) ?_
      refine rw_p rfl rfl (y_fieldAddr rfl fo107_0) ?_
      refine rw_p rfl rfl (y_move rfl) ?_
      refine a_call rfl rfl rfl go91 (d_sector D m pb cb pc _ cc gm _ _ ((hm.to.same _ (Array.getElem?_eq_some_iff.1 hP).1 id).trans hP) o4 (by omega) hz.ab.spot o1 ii (by omega)) fun v w hR => ?_
      obtain ⟨rfl, hE⟩ := hR
      refine ⟨trivial, ?_⟩
      replace hm := hm.ext hE
      refine a_call rfl rfl rfl go43 (C.eqv (clone_b (slp pb cb (ii * D.sz) 1) (cb - ii * D.sz) ((D.dk.drop (ii * D.sz)).take D.sz) _ ((hB.ext0 hm.to).sub o6) (by omega)) (by rw [hpl])) fun v w hR => ?_
      obtain ⟨p_s, cap_s, g_s, b_s, rfl, ha_s, hmc⟩ := hR
      refine ⟨trivial, ?_⟩
      have hg_s : b_s.real = true → _ := fun hr => (hmc.fresh _ List.mem_cons_self hr).resolve_left id
      replace hm := hm.callN hmc
      refine rw_p rfl rfl (y_assign rfl) ?_
      refine rw_p rfl rfl (y_assign rfl) ?_
      refine rw_done ?_
      refine gn_sq ?_
      refine HW_ret rfl ?_
      refine toR (fin hret rfl (.tmp rfl (.tmp rfl .nil)) .more ?_)
      exact ⟨p_s, cap_s, g_s, b_s, by rw [hrs, hrd, hks, hc0], by rw [hrs, hrd, hks]; exact ha_s, (hm.pick [0] rfl)⟩

theorem d_readN (i : Int) (w0 : World) : C Tryz.prog 53 [.pointer none, .int .i64 i] w0 fun v w' => v = .tuple ⟨[.slice none 0 0, .int .i64 1]⟩ ∧ Ext No w0 w' := by
  refine C_of Tryz.func53 rfl rfl rfl fun κ hret hnorm => ?_
  have hm := Mem.start w0
  refine HW_seq rfl ?_
  refine HW_text (.pure 0 (.pure 1 .done)) (by kernel_rfl) ?_
  refine rw_p rfl rfl (y_assign rfl) ?_
  refine rw_p rfl rfl (y_assign rfl) ?_
  refine rw_done ?_
  refine gn_sq ?_
  refine HW_seq rfl ?_
  refine HW_seq rfl ?_
  refine HW_text (.pure 0 (.pure 1 (.act 2 (.pure 3 .done)))) (by kernel_rfl) ?_
  refine rw_p rfl rfl (y_move rfl) ?_
  refine rw_p rfl rfl (y_move rfl) ?_
  refine a_call rfl rfl rfl go76 (d_checkN i _) fun v w hR => ?_
  obtain ⟨rfl, hE⟩ := hR
  refine ⟨trivial, ?_⟩
  replace hm := hm.ext hE
  refine rw_p rfl rfl (y_assign rfl) ?_
  refine rw_done ?_
  refine gn_sq ?_
  refine HW_seq rfl ?_
  refine HW_text (.pure 0 (.pure 1 .done)) (by kernel_rfl) ?_
  refine rw_p rfl rfl (y_move rfl) ?_
  refine rw_p rfl rfl (y_as (c := true) (y_ne rfl rfl) (by decide)) ?_
  refine rw_done ?_
  refine gn_sq ?_
  refine HW_condT rfl rfl rfl ?_
  refine HW_seq rfl ?_
  refine HW_text (.pure 0 (.pure 1 (.pure 2 .done))) (by kernel_rfl) ?_
  refine rw_p rfl rfl (y_move rfl) ?_
  refine rw_p rfl rfl (y_assign rfl) ?_
  refine rw_p rfl rfl (y_assign rfl) ?_
  refine rw_done ?_
  refine gn_sq ?_
  refine HW_ret rfl ?_
  refine gr_sq ?_
  refine toR (fin hret rfl (.tmp rfl (.tmp rfl .nil)) .more ?_)
  exact ⟨rfl, hm.to⟩

set_option maxHeartbeats 800000 in
theorem d_persist (D : Pl.Dv) (m : Nat) (pb : Option Addr) (cb gb : Nat) (bb : Blk) (pc : Option Addr) (cc gc : Nat) (bc : Blk) (gm : Nat) (es : List (Int × Int × Nat)) (ck : Nat) (cs : List PdV) (B : List (Nat × Blk)) (w0 : World) (hZ : OwnZ w0 ((m, .row 107 (dvV D pb cb pc cc gm)) :: (gb, bb) :: (gc, bc) :: (gm, mpB es ck) :: B)) (hz : DvZ 107 157 5 D m pb cb gb bb pc cc gc bc gm es cs B) (hcl : D.ca.length ≤ 2000000000) (keep : Nat → Bool) (fi : FuncId) (l2 : List Value) (hg : isGo Tryz.prog fi = true) (hf : ∀ (k : Nat) w1, w1.heap[m]? = some (Blk.row 107 (dvV D pb cb pc cc gm)).toObj → Ext (Mn (reals ((m, .row 107 (dvV D pb cb pc cc gm)) :: (gb, bb) :: (gc, bc) :: (gm, mpB es ck) :: B))) w0 w1 → C Tryz.prog fi (.int .i64 k :: l2) w1 fun v w2 => v = .bool (keep k) ∧ Ext No w1 w2) : C Tryz.prog 77 [.pointer (some ⟨m, 0, none⟩), .func (.func fi) #[] ⟨l2⟩] w0 fun v w' => v = .tuple ⟨[]⟩ ∧ ∃ bb', Mem w0 w' (Mn (reals ((m, .row 107 (dvV D pb cb pc cc gm)) :: (gb, bb) :: (gc, bc) :: (gm, mpB es ck) :: B))) ((m, .row 107 (dvV (Pl.persist D keep) pb cb none 0 gm)) :: (gb, bb') :: (0, .gap) :: (gm, mpB [] ck) :: B) ∧ DvZ 107 157 5 (Pl.persist D keep) m pb cb gb bb' none 0 0 .gap gm [] [] B := by
  have hP : w0.heap[m]? = some (Blk.row 107 (dvV D pb cb pc cc gm)).toObj := hZ.get (k := 0) rfl
  have hok := hz.ok
  have o1 := hok.sz
  have o2 := hok.len
  have o3 := hok.cnt
  have o4 := hok.max
  have o5 : D.cnt ≤ D.cnt * D.sz := Nat.le_mul_of_pos_right _ o1
  have o6 := hz.ab.le
  have o7 : D.sz ≤ D.cnt * D.sz := Nat.le_mul_of_pos_left _ o3
  have ha_b := hz.ab
  have ha_c := hz.ac
  have hCl := wr_len hz.cw
  have hpl : (Pl.persist D keep).dk.length = D.dk.length := Pl.pers_len hok.len hok.ca
  have hrow : dvV (Pl.persist D keep) pb cb none 0 gm = [.int .i64 (D.sz : Int), .slice pb D.dk.length cb, .int .i64 D.wr, .int .u64 D.kp, .int .i64 D.sW, .int .i64 D.sF, .int .i64 D.sC, .int .i64 D.sH, .int .i64 D.sM, .slice none 0 0, .map (some gm), .bool D.dn] := by unfold dvV; rw [hpl]; rfl
  refine C_of Tryz.func77 rfl rfl rfl fun κ hret hnorm => ?_
  have hm := hZ.start
  refine HW_seq rfl ?_
  refine HW_seq rfl ?_
  refine HW_text (.pure 0 (.pure 1 (.pure 2 (.pure 3 (.pure 4 (.pure 5 .done)))))) (by kernel_rfl) ?_
  refine rw_p rfl rfl (y_move rfl) ?_
  refine rw_p rfl rfl (y_nil rfl) ?_
  refine rw_p rfl rfl (y_fieldAddr rfl fo107_3) ?_
  refine rw_p rfl rfl (y_load rfl sc104 (hm.nt 0 rfl) rfl) ?_
  refine rw_p rfl rfl (y_len rfl rfl sl104) ?_
  refine rw_p rfl rfl (y_move rfl) ?_
  refine rw_done ?_
  refine gn_sq ?_
  refine HW_block rfl ?_
  refine HW_loopK (ι := Nat × Blk) rfl (ks := [0, 1, 9, 10]) (.cons rfl (.cons rfl (.cons rfl (.cons rfl .nil)))) (fun x => [(11, .int .i64 x.1)]) (fun x w => Mem w0 w (Mn (reals ((m, .row 107 (dvV D pb cb pc cc gm)) :: (gb, bb) :: (gc, bc) :: (gm, mpB es ck) :: B))) ((m, .row 107 (dvV D pb cb pc cc gm)) :: (gb, x.2) :: (gc, bc) :: (gm, mpB es ck) :: B) ∧ Acc 5 1 pb D.dk.length cb ((Pl.pers D.sz keep 0 D.dk (D.ca.take x.1)).flatMap encB) gb x.2 ∧ x.1 ≤ cs.length) (fun x => cs.length - x.1) (0, bb) (⟨hm, ha_b, Nat.zero_le _⟩) ⟨rfl, trivial⟩ (fun x w hM => ?_)
  obtain ⟨hm, ha_b, hk⟩ := hM
  refine HW_seq rfl ?_
  refine HW_text (.pure 0 .done) (by kernel_rfl) ?_
  refine rw_p rfl rfl (y_lt rfl rfl) ?_
  refine rw_done ?_
  refine gn_sq ?_
  refine HW_seq rfl ?_
  refine HW_cond rfl rfl (fun hc0 => ?_) (fun hc0 => ?_)
  ·
    simp only [decide_eq_true_eq] at hc0
    obtain ⟨c, hi⟩ : ∃ y_, cs[x.1]? = some y_ := ⟨_, List.getElem?_eq_getElem (by omega)⟩
    obtain ⟨b2, o2_, hq⟩ := (ha_c.rd hm 2 rfl).atI encP_len (by decide) hi
    have hcx := wr_get hz.cw hi
    have hcw := hok.ca _ (List.mem_of_getElem? hcx)
    have hfl : (Pl.pers D.sz keep 0 D.dk (D.ca.take x.1)).length = D.dk.length := Pl.pers_len hok.len fun d hd => hok.ca d (List.mem_of_mem_take hd)
    have hse : c.i * D.sz + D.sz ≤ D.cnt * D.sz := Pl.sec_le hcw.1
    have hcl2 : c.d.bs.length = D.sz := hcw.2
    have hci : c.i < D.cnt := hcw.1
    refine HW_skip rfl ?_
    refine gn_sq ?_
    refine HW_seq rfl ?_
    refine HW_block rfl ?_
    refine HW_seq rfl ?_
    refine HW_text (.pure 0 (.pure 1 (.pure 2 (.act 3 (.pure 4 (.act 5 .done)))))) (by kernel_rfl) ?_
    refine rw_p rfl rfl (y_move rfl) ?_
    refine rw_p rfl rfl (y_index rfl rfl sl104 hq (by omega) (by omega)) ?_
    refine rw_p rfl rfl (y_elA rfl ag157 (hq ▸ ha_c.rd hm 2 rfl).nt encP_len hi) ?_
    refine a_alloc rfl rfl z157 hm trivial fun m1 w hg_m1 hm hh => ?_
    refine rw_p rfl rfl (y_assign rfl) ?_
    refine a_store rfl rfl rfl rfl sz157 rfl hm 0 rfl rfl fun w hm => ?_
    refine rw_done ?_
    refine gn_sq ?_
    refine HW_seq rfl ?_
    refine HW_text (.pure 0 (.pure 1 (.act 2 .done))) (by kernel_rfl) ?_
    refine rw_p rfl rfl (y_move rfl) ?_
    refine rw_p rfl rfl (y_move rfl) ?_
    refine a_callV rfl rfl rfl rfl hg (hf x.1 _ (hm.get (k := 1) rfl) hm.to) fun v w hR => ?_
    obtain ⟨rfl, hE⟩ := hR
    refine ⟨trivial, ?_⟩
    replace hm := hm.ext hE
    refine rw_done ?_
    refine gn_sq ?_
    refine HW_cond rfl rfl (fun hc1 => ?_) (fun hc1 => ?_)
    ·
      refine HW_draw (.pure 0 (.pure 1 (.pure 2 (.pure 3 (.pure 4 (.pure 6 (.pure 7 (.act 5 (.cut (.act 8 .done)))))))))) No mix (by kernel_rfl) hm fun w hw hm0 hh => ?_
      have hm := hm0
      refine rw_p rfl rfl (y_move rfl) ?_
      refine rw_p rfl rfl (y_nil rfl) ?_
      refine rw_p rfl rfl (y_fieldAddr rfl fo107_0) ?_
      refine rw_p rfl rfl (y_fieldAddr rfl fo157_0) ?_
      refine rw_p rfl rfl (y_load rfl sc3 (hm0.nd 0 rfl id) rfl) ?_
      refine rw_p rfl rfl (y_fieldAddr rfl fo157_1) ?_
      refine rw_p rfl rfl (y_load rfl sc22 (hm0.nd 0 rfl id) rfl) ?_
      refine a_call rfl rfl rfl go91 (d_sector D m pb cb pc _ cc gm _ _ (hm.get (k := 1) rfl) o4 (by omega) hz.ab.spot o1 c.i hci) fun v w hR => ?_
      obtain ⟨rfl, hE⟩ := hR
      refine ⟨hh.ext hE, ?_⟩
      replace hm := hm.ext hE
      replace hh := hh.ext hE
      refine a_cut ?_
      refine a_copyL (o := c.i * D.sz) (src := (c.d.bs).flatMap encB) rfl rfl rfl rfl rfl sl22 (by omega) ((hz.hd c (List.mem_of_getElem? hi)).rd hm (by intro e he; simp [he, setB])) (by rw [lenB]; omega) (oneB _) ha_b hm 2 rfl fun b_b w ha_b hm => ?_
      replace ha_b := ha_b.to (upds_put' (by rw [hfl]; omega))
      refine rw_done ?_
      refine gn_bl ?_
      refine gn_sq ?_
      refine HW_text (.pure 0 (.pure 1 .done)) (by kernel_rfl) ?_
      refine rw_p rfl rfl (y_add rfl rfl (i64w (by omega) (by omega))) ?_
      refine rw_p rfl rfl (y_move rfl) ?_
      refine rw_done ?_
      first | refine next (x.1 + 1, b_b) (by simp only; omega) ⟨(hm.pickT [1, 2, 3, 4] 5 rfl), ha_b.to ?_, by simp only; omega⟩ ⟨nx x.1, rfl, rfl, rfl, rfl, trivial⟩ | refine next (x.1 + 1, x.2) (by simp only; omega) ⟨(hm.pickT [1, 2, 3, 4] 5 rfl), ha_b.to ?_, by simp only; omega⟩ ⟨nx x.1, rfl, rfl, rfl, rfl, trivial⟩
      rw [Pl.pers_next hcx, hc1]; rfl
    ·
      refine HW_skip rfl ?_
      refine gn_bl ?_
      refine gn_sq ?_
      refine HW_text (.pure 0 (.pure 1 .done)) (by kernel_rfl) ?_
      refine rw_p rfl rfl (y_add rfl rfl (i64w (by omega) (by omega))) ?_
      refine rw_p rfl rfl (y_move rfl) ?_
      refine rw_done ?_
      first | refine next (x.1 + 1, b_b) (by simp only; omega) ⟨(hm.pickT [1, 2, 3, 4] 5 rfl), ha_b.to ?_, by simp only; omega⟩ ⟨nx x.1, rfl, rfl, rfl, rfl, trivial⟩ | refine next (x.1 + 1, x.2) (by simp only; omega) ⟨(hm.pickT [1, 2, 3, 4] 5 rfl), ha_b.to ?_, by simp only; omega⟩ ⟨nx x.1, rfl, rfl, rfl, rfl, trivial⟩
      rw [Pl.pers_next hcx, hc1]; rfl
  ·
    simp only [decide_eq_false_iff_not] at hc0
    rw [List.take_of_length_le (by omega)] at ha_b
    refine HW_exit rfl ?_
    refine gx_sq (gx_lp ?_)
    refine gx_here ?_
    refine gn_sq ?_
    refine HW_seq rfl ?_
    refine HW_text (.pure 0 (.pure 1 (.pure 2 (.act 3 .done)))) (by kernel_rfl) ?_
    refine rw_p rfl rfl (y_move rfl) ?_
    refine rw_p rfl rfl (y_nil rfl) ?_
    refine rw_p rfl rfl (y_fieldAddr rfl fo107_3) ?_
    refine a_store rfl rfl rfl rfl sz104 rfl hm 0 rfl rfl fun w hm => ?_
    refine rw_done ?_
    refine gn_sq ?_
    refine HW_text (.pure 0 (.pure 1 (.pure 2 (.pure 3 (.act 4 .done))))) (by kernel_rfl) ?_
    refine rw_p rfl rfl (y_move rfl) ?_
    refine rw_p rfl rfl (y_nil rfl) ?_
    refine rw_p rfl rfl (y_fieldAddr rfl fo107_4) ?_
    refine rw_p rfl rfl (y_load rfl sc105 (hm.nt 0 rfl) rfl) ?_
    refine a_clearMapN rfl rfl mi105 hm 3 rfl fun w hm => ?_
    refine rw_done ?_
    refine toN (fin hnorm rfl .nil .nil ?_)
    exact ⟨rfl, x.2, by rw [hrow]; exact (hm.gapIn.pickT [1, 2, 0, 4] 5 rfl), ⟨by rw [hpl]; exact ha_b, .nil _ _ _ _, rfl, by simp, fun k => rfl, Pl.ok_persist hok keep⟩⟩

theorem gFt : isGo Tryz.prog 78 = true := by kernel_rfl

theorem gWt : isGo Tryz.prog 102 = true := by kernel_rfl

theorem d_ktrue (k : Nat) (w0 : World) : C Tryz.prog 78 [.int .i64 (k : Int)] w0 fun v w' => v = .bool true ∧ Ext No w0 w' := by
  refine C_of Tryz.func78 rfl rfl rfl fun κ hret hnorm => ?_
  have hm := Mem.start w0
  refine HW_seq rfl ?_
  refine HW_text (.pure 0 .done) (by kernel_rfl) ?_
  refine rw_p rfl rfl (y_assign rfl) ?_
  refine rw_done ?_
  refine gn_sq ?_
  refine HW_seq rfl ?_
  refine HW_text (.pure 0 .done) (by kernel_rfl) ?_
  refine rw_p rfl rfl (y_assign rfl) ?_
  refine rw_done ?_
  refine gn_sq ?_
  refine HW_ret rfl ?_
  refine toR (fin hret rfl (.tmp rfl .nil) .one ?_)
  exact ⟨rfl, hm.to⟩

theorem d_keep (m1 T1 : Nat) (D : Pl.Dv) (m : Nat) (pb : Option Addr) (cb : Nat) (pc : Option Addr) (cc gm : Nat) (k : Nat) (w0 : World) (h1 : w0.heap[m1]? = some (Blk.row T1 [.pointer (some ⟨m, 0, none⟩)]).toObj) (hP : w0.heap[m]? = some (Blk.row 107 (dvV D pb cb pc cc gm)).toObj) : C Tryz.prog 102 [.int .i64 (k : Int), .pointer (some ⟨m1, 0, none⟩)] w0 fun v w' => v = .bool (Pl.keepB D.kp k) ∧ Ext No w0 w' := by
  refine C_of Tryz.func102 rfl rfl rfl fun κ hret hnorm => ?_
  have hm := Mem.start w0
  refine HW_seq rfl ?_
  refine HW_text (.pure 0 .done) (by kernel_rfl) ?_
  refine rw_p rfl rfl (y_assign rfl) ?_
  refine rw_done ?_
  refine gn_sq ?_
  refine HW_seq rfl ?_
  refine HW_text (.pure 0 (.pure 1 (.pure 2 (.pure 3 (.pure 4 (.pure 5 (.pure 6 (.pure 7 (.pure 8 (.pure 9 (.pure 10 .done))))))))))) (by kernel_rfl) ?_
  refine rw_p rfl rfl (y_load rfl sc27 (nowT ((hm.to.same _ (Array.getElem?_eq_some_iff.1 h1).1 id).trans h1)) rfl) ?_
  refine rw_p rfl rfl (y_nil rfl) ?_
  refine rw_p rfl rfl (y_fieldAddr rfl fo107_1) ?_
  refine rw_p rfl rfl (y_fieldAddr rfl fo101_1) ?_
  refine rw_p rfl rfl (y_load rfl sc23 (nowT ((hm.to.same _ (Array.getElem?_eq_some_iff.1 hP).1 id).trans hP)) rfl) ?_
  refine rw_p rfl rfl (y_move rfl) ?_
  refine rw_p rfl rfl (y_rem rfl rfl (by omega) rfl) ?_
  refine rw_p rfl rfl (y_shr rfl rfl (Int.tmod_nonneg _ (Int.natCast_nonneg _)) rfl) ?_
  refine rw_p rfl rfl (y_and_ rfl rfl rfl) ?_
  refine rw_p rfl rfl (y_eq rfl rfl) ?_
  refine rw_p rfl rfl (y_assign rfl) ?_
  refine rw_done ?_
  refine gn_sq ?_
  refine HW_ret rfl ?_
  refine toR (fin hret rfl (.tmp rfl .nil) .one ?_)
  exact ⟨rfl, hm.to⟩

set_option maxHeartbeats 800000 in
theorem d_flush (D : Pl.Dv) (m : Nat) (pb : Option Addr) (cb gb : Nat) (bb : Blk) (pc : Option Addr) (cc gc : Nat) (bc : Blk) (gm : Nat) (es : List (Int × Int × Nat)) (ck : Nat) (cs : List PdV) (B : List (Nat × Blk)) (w0 : World) (hZ : OwnZ w0 ((m, .row 107 (dvV D pb cb pc cc gm)) :: (gb, bb) :: (gc, bc) :: (gm, mpB es ck) :: B)) (hz : DvZ 107 157 5 D m pb cb gb bb pc cc gc bc gm es cs B) (hcl : D.ca.length ≤ 1000000000) : C Tryz.prog 38 [.pointer (some ⟨m, 0, none⟩)] w0 fun v w' => v = .int .i64 (Pl.fCode D) ∧ ∃ Z', DevZ 107 157 5 (Pl.fDv D) m Z' ∧ Mem w0 w' (Mn (reals ((m, .row 107 (dvV D pb cb pc cc gm)) :: (gb, bb) :: (gc, bc) :: (gm, mpB es ck) :: B))) Z' := by
  have hP : w0.heap[m]? = some (Blk.row 107 (dvV D pb cb pc cc gm)).toObj := hZ.get (k := 0) rfl
  have hok := hz.ok
  have o1 := hok.sz
  have o2 := hok.len
  have o3 := hok.cnt
  have o4 := hok.max
  have o5 : D.cnt ≤ D.cnt * D.sz := Nat.le_mul_of_pos_right _ o1
  have o6 := hz.ab.le
  have o7 : D.sz ≤ D.cnt * D.sz := Nat.le_mul_of_pos_left _ o3
  have ha_b := hz.ab
  have ha_c := hz.ac
  have hCl := wr_len hz.cw
  have hcd : Pl.codeAt D 0 = Pl.fCode D := by unfold Pl.codeAt Pl.fCode; rw [if_neg (show ¬ ((0 : Int) < 0 ∨ (D.cnt : Int) ≤ 0) by omega)]
  have hfc : Pl.fCode D = if D.dn = true then 18 else 0 := rfl
  have hfd : Pl.fDv D = if D.dn = true then D else { Pl.persist D (fun _ => true) with sF := Pl.inc D.sF } := rfl
  have hpl := Pl.pers_len (keep := fun _ => true) (k := 0) hok.len hok.ca
  refine C_of Tryz.func38 rfl rfl rfl fun κ hret hnorm => ?_
  have hm := hZ.start
  refine HW_seq rfl ?_
  refine HW_text (.pure 0 .done) (by kernel_rfl) ?_
  refine rw_p rfl rfl (y_assign rfl) ?_
  refine rw_done ?_
  refine gn_sq ?_
  refine HW_seq rfl ?_
  refine HW_seq rfl ?_
  refine HW_text (.pure 0 (.act 1 (.pure 2 .done))) (by kernel_rfl) ?_
  refine rw_p rfl rfl (y_move rfl) ?_
  refine a_call rfl rfl rfl go76 (C.as (d_check D m pb cb gb bb pc cc gc bc gm es ck cs B _ hm.ownZ hz 0) (congrArg (Value.int .i64) hcd)) fun v w hR => ?_
  obtain ⟨rfl, hE⟩ := hR
  refine ⟨trivial, ?_⟩
  replace hm := hm.ext hE
  refine rw_p rfl rfl (y_assign rfl) ?_
  refine rw_done ?_
  refine gn_sq ?_
  refine HW_seq rfl ?_
  refine HW_text (.pure 0 (.pure 1 .done)) (by kernel_rfl) ?_
  refine rw_p rfl rfl (y_move rfl) ?_
  refine rw_p rfl rfl (y_ne rfl rfl) ?_
  refine rw_done ?_
  refine gn_sq ?_
  refine HW_cond rfl rfl (fun hc0 => ?_) (fun hc0 => ?_)
  ·
    have hdn : D.dn = true := by rw [hfc] at hc0; simpa using hc0
    refine HW_seq rfl ?_
    refine HW_text (.pure 0 (.pure 1 .done)) (by kernel_rfl) ?_
    refine rw_p rfl rfl (y_move rfl) ?_
    refine rw_p rfl rfl (y_assign rfl) ?_
    refine rw_done ?_
    refine gn_sq ?_
    refine HW_ret rfl ?_
    refine gr_sq ?_
    refine toR (fin hret rfl (.tmp rfl .nil) .one ?_)
    exact ⟨rfl, _, by rw [hfd, if_pos hdn]; exact hz.dev ck, (hm.pickT [0, 1, 2, 3] 4 rfl)⟩
  ·
    have hdn : ¬ D.dn = true := by rw [hfc] at hc0; simpa using hc0
    refine HW_skip rfl ?_
    refine gn_sq ?_
    refine HW_seq rfl ?_
    refine HW_text (.pure 0 (.act 1 .done)) (by kernel_rfl) ?_
    refine rw_p rfl rfl (y_move rfl) ?_
    refine a_call rfl rfl rfl go77 (d_persist D m pb cb gb bb pc cc gc bc gm es ck cs B _ hm.ownZ hz (by omega) (fun _ => true) _ _ gFt (fun k w1 _ _ => (d_ktrue k w1).mono fun v w2 h => ⟨h.1, h.2⟩)) fun v w hR => ?_
    obtain ⟨rfl, b9_b, hmc, hz9⟩ := hR
    refine ⟨trivial, ?_⟩
    replace hm := hm.callZL (A := []) hmc
    refine rw_done ?_
    refine gn_sq ?_
    refine HW_seq rfl ?_
    refine HW_text (.pure 0 (.pure 1 (.pure 2 (.pure 3 (.pure 4 (.pure 5 (.pure 6 (.pure 7 (.pure 8 (.act 9 .done)))))))))) (by kernel_rfl) ?_
    refine rw_p rfl rfl (y_move rfl) ?_
    refine rw_p rfl rfl (y_nil rfl) ?_
    refine rw_p rfl rfl (y_fieldAddr rfl fo107_2) ?_
    refine rw_p rfl rfl (y_fieldAddr rfl fo103_1) ?_
    refine rw_p rfl rfl (y_load rfl sc3 (hm.nt 0 rfl) rfl) ?_
    refine rw_p rfl rfl (y_add rfl rfl rfl) ?_
    refine rw_p rfl rfl (y_nil rfl) ?_
    refine rw_p rfl rfl (y_fieldAddr rfl fo107_2) ?_
    refine rw_p rfl rfl (y_fieldAddr rfl fo103_1) ?_
    refine a_store rfl rfl rfl rfl sz3 rfl hm 0 rfl rfl fun w hm => ?_
    refine rw_done ?_
    refine gn_sq ?_
    refine HW_seq rfl ?_
    refine HW_text (.pure 0 .done) (by kernel_rfl) ?_
    refine rw_p rfl rfl (y_assign rfl) ?_
    refine rw_done ?_
    refine gn_sq ?_
    refine HW_ret rfl ?_
    refine toR (fin hret rfl (.tmp rfl .nil) .one ?_)
    exact ⟨by rw [hfc, if_neg hdn], _, by rw [hfd, if_neg hdn]; exact (hz9.as (D2 := { Pl.persist D (fun _ => true) with sF := Pl.inc D.sF }) rfl rfl (by have := Pl.ok_flush hok; rw [hfd, if_neg hdn] at this; exact this)).dev _, (hm.pickT [0, 1, 2, 3] 4 rfl)⟩

set_option maxHeartbeats 800000 in
theorem d_new (x y : Int) (q : Option Addr) (cq : Nat) (ps : List SB) (w0 : World) (hq : Rd w0 q (ps.flatMap encS)) (hps : ∀ s ∈ ps, Rd w0 s.p (s.bs.flatMap encB)) (hl : ps.length ≤ 4611686018427387903) (hb : (ps.flatMap (·.bs)).length ≤ 140737488355328) : C Tryz.prog 16 [.int .i64 x, .int .i64 y, .slice q ps.length cq] w0 fun v w' => if Pl.right x y (ps.flatMap (·.bs)).length = true then ∃ m Z, v = .pointer (some ⟨m, 0, none⟩) ∧ DevZ 107 157 5 (Pl.nDv x.toNat y.toNat (ps.flatMap (·.bs))) m Z ∧ Mem w0 w' No Z else v = .pointer none ∧ Ext No w0 w' := by
  obtain ⟨BB, hBB⟩ : ∃ B9, ps.flatMap (·.bs) = B9 := ⟨_, rfl⟩
  refine C_of Tryz.func16 rfl rfl rfl fun κ hret hnorm => ?_
  have hm := Mem.start w0
  refine HW_seq rfl ?_
  refine HW_text (.pure 0 .done) (by kernel_rfl) ?_
  refine rw_p rfl rfl (y_assign rfl) ?_
  refine rw_done ?_
  refine gn_sq ?_
  refine HW_seq rfl ?_
  refine HW_text (.pure 0 (.act 1 (.pure 2 .done))) (by kernel_rfl) ?_
  refine rw_p rfl rfl (y_move rfl) ?_
  refine a_call rfl rfl rfl go35 (concat_b q cq ps _ (hq.ext0 hm.to) (fun s hs => (hps s hs).ext0 hm.to) hl hb) fun v w hR => ?_
  obtain ⟨p_s, n_s, cap_s, g_s, b_s, rfl, ha_s, hmc⟩ := hR
  refine ⟨trivial, ?_⟩
  have hns := ha_s.lenB
  replace hm := hm.callN hmc
  rw [hBB] at ha_s hns hb
  refine rw_p rfl rfl (y_assign rfl) ?_
  refine rw_done ?_
  refine gn_sq ?_
  refine HW_seq rfl ?_
  refine HW_seq rfl ?_
  rcases right4 x y BB.length with h | ⟨h1, h2, h3⟩ | ⟨h1, h2, h3, h4⟩ | ⟨h1, h2, h3, h4⟩
  ·
    have hrt : Pl.right x y BB.length = false := decide_eq_false (by omega)
    refine HW_text (.pure 0 (.pure 1 (.pure 2 (.pure 3 (.pure 4 (.pure 5 (.pure 6 (.pure 7 (.pure 8 (.pure 9 (.pure 10 (.pure 11 (.pure 12 (.pure 13 (.pure 14 (.pure 15 (.pure 16 (.pure 17 .done)))))))))))))))))) (by kernel_rfl) ?_
    refine rw_p rfl rfl (y_move rfl) ?_
    refine rw_p rfl rfl (y_move rfl) ?_
    refine rw_p rfl rfl (y_min rfl rfl) ?_
    refine rw_p rfl rfl (y_as (c := true) (y_lt rfl rfl) (decide_eq_true (by omega))) ?_
    refine rw_p rfl rfl (y_move rfl) ?_
    refine rw_gf rfl rfl (by decide) rfl ?_
    refine rw_gf rfl rfl (by decide) rfl ?_
    refine rw_gf rfl rfl (by decide) rfl ?_
    refine rw_gf rfl rfl (by decide) rfl ?_
    refine rw_p rfl rfl (y_pickT rfl rfl) ?_
    refine rw_p rfl rfl (y_move rfl) ?_
    refine rw_gf rfl rfl (by decide) rfl ?_
    refine rw_gf rfl rfl (by decide) rfl ?_
    refine rw_gf rfl rfl (by decide) rfl ?_
    refine rw_gf rfl rfl (by decide) rfl ?_
    refine rw_gf rfl rfl (by decide) rfl ?_
    refine rw_gf rfl rfl (by decide) rfl ?_
    refine rw_p rfl rfl (y_pickT rfl rfl) ?_
    refine rw_done ?_
    refine gn_sq ?_
    refine HW_condT rfl rfl rfl ?_
    refine HW_seq rfl ?_
    refine HW_text (.pure 0 .done) (by kernel_rfl) ?_
    refine rw_p rfl rfl (y_assign rfl) ?_
    refine rw_done ?_
    refine gn_sq ?_
    refine HW_ret rfl ?_
    refine gr_sq ?_
    refine toR (fin hret rfl (.tmp rfl .nil) .one ?_)
    rw [hBB, if_neg (by rw [hrt]; decide)]
    exact ⟨rfl, hm.to⟩
  ·
    have hrt : Pl.right x y BB.length = false := decide_eq_false (by omega)
    refine HW_text (.pure 0 (.pure 1 (.pure 2 (.pure 3 (.pure 4 (.pure 5 (.pure 6 (.pure 7 (.pure 8 (.pure 9 (.pure 10 (.pure 11 (.pure 12 (.pure 13 (.pure 14 (.pure 15 (.pure 16 (.pure 17 .done)))))))))))))))))) (by kernel_rfl) ?_
    refine rw_p rfl rfl (y_move rfl) ?_
    refine rw_p rfl rfl (y_move rfl) ?_
    refine rw_p rfl rfl (y_min rfl rfl) ?_
    refine rw_p rfl rfl (y_as (c := false) (y_lt rfl rfl) (decide_eq_false (by omega))) ?_
    refine rw_p rfl rfl (y_move rfl) ?_
    refine rw_p rfl rfl (y_move rfl) ?_
    refine rw_p rfl rfl (y_move rfl) ?_
    refine rw_p rfl rfl (y_quo rfl rfl (by omega) (divC h2)) ?_
    refine rw_p rfl rfl (y_as (c := true) (y_gt rfl rfl) (decide_eq_true (divT h2 h3))) ?_
    refine rw_p rfl rfl (y_pickF rfl rfl) ?_
    refine rw_p rfl rfl (y_move rfl) ?_
    refine rw_gf rfl rfl (by decide) rfl ?_
    refine rw_gf rfl rfl (by decide) rfl ?_
    refine rw_gf rfl rfl (by decide) rfl ?_
    refine rw_gf rfl rfl (by decide) rfl ?_
    refine rw_gf rfl rfl (by decide) rfl ?_
    refine rw_gf rfl rfl (by decide) rfl ?_
    refine rw_p rfl rfl (y_pickT rfl rfl) ?_
    refine rw_done ?_
    refine gn_sq ?_
    refine HW_condT rfl rfl rfl ?_
    refine HW_seq rfl ?_
    refine HW_text (.pure 0 .done) (by kernel_rfl) ?_
    refine rw_p rfl rfl (y_assign rfl) ?_
    refine rw_done ?_
    refine gn_sq ?_
    refine HW_ret rfl ?_
    refine gr_sq ?_
    refine toR (fin hret rfl (.tmp rfl .nil) .one ?_)
    rw [hBB, if_neg (by rw [hrt]; decide)]
    exact ⟨rfl, hm.to⟩
  ·
    have h0 : 0 ≤ x * y := Int.mul_nonneg (by omega) (by omega)
    have hrt : Pl.right x y BB.length = false := decide_eq_false (by omega)
    refine HW_text (.pure 0 (.pure 1 (.pure 2 (.pure 3 (.pure 4 (.pure 5 (.pure 6 (.pure 7 (.pure 8 (.pure 9 (.pure 10 (.pure 11 (.pure 12 (.pure 13 (.pure 14 (.pure 15 (.pure 16 (.pure 17 .done)))))))))))))))))) (by kernel_rfl) ?_
    refine rw_p rfl rfl (y_move rfl) ?_
    refine rw_p rfl rfl (y_move rfl) ?_
    refine rw_p rfl rfl (y_min rfl rfl) ?_
    refine rw_p rfl rfl (y_as (c := false) (y_lt rfl rfl) (decide_eq_false (by omega))) ?_
    refine rw_p rfl rfl (y_move rfl) ?_
    refine rw_p rfl rfl (y_move rfl) ?_
    refine rw_p rfl rfl (y_move rfl) ?_
    refine rw_p rfl rfl (y_quo rfl rfl (by omega) (divC h2)) ?_
    refine rw_p rfl rfl (y_as (c := false) (y_gt rfl rfl) (decide_eq_false (Int.not_lt.2 (divF h2 h3)))) ?_
    refine rw_p rfl rfl (y_pickF rfl rfl) ?_
    refine rw_p rfl rfl (y_move rfl) ?_
    refine rw_p rfl rfl (y_move rfl) ?_
    refine rw_p rfl rfl (y_len rfl rfl sl22) ?_
    refine rw_p rfl rfl (y_move rfl) ?_
    refine rw_p rfl rfl (y_move rfl) ?_
    refine rw_p rfl rfl (y_mul rfl rfl (i64w (by omega) (by omega))) ?_
    refine rw_p rfl rfl (y_as (c := true) (y_gt rfl rfl) (decide_eq_true (by omega))) ?_
    refine rw_p rfl rfl (y_pickF rfl rfl) ?_
    refine rw_done ?_
    refine gn_sq ?_
    refine HW_condT rfl rfl rfl ?_
    refine HW_seq rfl ?_
    refine HW_text (.pure 0 .done) (by kernel_rfl) ?_
    refine rw_p rfl rfl (y_assign rfl) ?_
    refine rw_done ?_
    refine gn_sq ?_
    refine HW_ret rfl ?_
    refine gr_sq ?_
    refine toR (fin hret rfl (.tmp rfl .nil) .one ?_)
    rw [hBB, if_neg (by rw [hrt]; decide)]
    exact ⟨rfl, hm.to⟩
  ·
    obtain ⟨a, rfl⟩ : ∃ a : Nat, x = a := ⟨x.toNat, by omega⟩
    obtain ⟨c, rfl⟩ : ∃ c : Nat, y = c := ⟨y.toNat, by omega⟩
    have hac : (a : Int) * (c : Int) = ((c * a : Nat) : Int) := by rw [Nat.mul_comm]; norm_cast
    rw [hac] at h3 h4
    have hrt : Pl.right a c BB.length = true := decide_eq_true (by rw [hac]; omega)
    have hMM : IntKind.i64.wrap ((a : Int) * (c : Int)) = ((c * a : Nat) : Int) := by rw [hac]; exact i64w (by omega) (by omega)
    have hca : 1 ≤ c * a := Nat.mul_pos (by omega) (by omega)
    refine HW_text (.pure 0 (.pure 1 (.pure 2 (.pure 3 (.pure 4 (.pure 5 (.pure 6 (.pure 7 (.pure 8 (.pure 9 (.pure 10 (.pure 11 (.pure 12 (.pure 13 (.pure 14 (.pure 15 (.pure 16 (.pure 17 .done)))))))))))))))))) (by kernel_rfl) ?_
    refine rw_p rfl rfl (y_move rfl) ?_
    refine rw_p rfl rfl (y_move rfl) ?_
    refine rw_p rfl rfl (y_min rfl rfl) ?_
    refine rw_p rfl rfl (y_as (c := false) (y_lt rfl rfl) (decide_eq_false (by omega))) ?_
    refine rw_p rfl rfl (y_move rfl) ?_
    refine rw_p rfl rfl (y_move rfl) ?_
    refine rw_p rfl rfl (y_move rfl) ?_
    refine rw_p rfl rfl (y_quo rfl rfl (by omega) (divC h2)) ?_
    refine rw_p rfl rfl (y_as (c := false) (y_gt rfl rfl) (decide_eq_false (Int.not_lt.2 (divF h2 (by rw [hac]; omega))))) ?_
    refine rw_p rfl rfl (y_pickF rfl rfl) ?_
    refine rw_p rfl rfl (y_move rfl) ?_
    refine rw_p rfl rfl (y_move rfl) ?_
    refine rw_p rfl rfl (y_len rfl rfl sl22) ?_
    refine rw_p rfl rfl (y_move rfl) ?_
    refine rw_p rfl rfl (y_move rfl) ?_
    refine rw_p rfl rfl (y_mul rfl rfl hMM) ?_
    refine rw_p rfl rfl (y_as (c := false) (y_gt rfl rfl) (decide_eq_false (by omega))) ?_
    refine rw_p rfl rfl (y_pickF rfl rfl) ?_
    refine rw_done ?_
    refine gn_sq ?_
    refine HW_condF rfl rfl rfl ?_
    refine HW_skip rfl ?_
    refine gn_sq ?_
    refine HW_seq rfl ?_
    refine HW_text (.pure 0 (.pure 1 (.pure 2 (.pure 3 (.act 4 (.pure 5 (.pure 6 (.act 7 (.pure 8 (.act 9 (.pure 10 .done))))))))))) (by kernel_rfl) ?_
    refine rw_p rfl rfl (y_move rfl) ?_
    refine rw_p rfl rfl (y_move rfl) ?_
    refine rw_p rfl rfl (y_move rfl) ?_
    refine rw_p rfl rfl (y_mul rfl rfl hMM) ?_
    refine a_make rfl rfl rfl rfl sl22 z5 rfl (by omega) (by omega) (by omega) hm trivial fun g_b w hg_b ha_b hm hh => ?_
    refine rw_p rfl rfl (y_build (cs := [_, _]) z99 ft99 rfl rfl rfl rfl rfl) ?_
    refine rw_p rfl rfl (y_build (cs := [_, _]) z101 ft101 rfl rfl rfl rfl rfl) ?_
    refine a_makeMap rfl rfl hm trivial fun g w hg_g hm hh => ?_
    refine rw_p rfl rfl (y_build (cs := [_, _, _, _, _, _, _, _, _, _, _, _]) z107 ft107 rfl rfl rfl rfl rfl) ?_
    refine a_box rfl rfl rfl rfl hm trivial fun m1 w hg_m1 hm hh => ?_
    refine rw_p rfl rfl (y_assign rfl) ?_
    refine rw_done ?_
    refine gn_sq ?_
    refine HW_seq rfl ?_
    refine HW_text (.pure 0 (.pure 1 (.pure 2 (.pure 3 (.pure 4 (.pure 5 (.act 6 .done))))))) (by kernel_rfl) ?_
    refine rw_p rfl rfl (y_move rfl) ?_
    refine rw_p rfl rfl (y_nil rfl) ?_
    refine rw_p rfl rfl (y_fieldAddr rfl fo107_0) ?_
    refine rw_p rfl rfl (y_fieldAddr rfl fo99_1) ?_
    refine rw_p rfl rfl (y_load rfl sc22 (hm.nt 0 rfl) rfl) ?_
    refine rw_p rfl rfl (y_move rfl) ?_
    refine a_copyL (o := 0) (src := BB.flatMap encB) rfl rfl (by rw [slp_z (by omega)]; rfl) rfl rfl sl22 (by omega) (ha_s.rd hm 3 rfl) (by rw [lenB]; omega) (oneB _) ha_b hm 2 rfl fun b_b w ha_b hm => ?_
    rw [repB] at ha_b
    replace ha_b := ha_b.to (upds_put' (o := 0) (by rw [List.length_replicate]; omega))
    rw [Pl.put_zero (by omega)] at ha_b
    have hrow : dvV (Pl.nDv a c BB) (some ⟨g_b, 0, none⟩) (c * a) none 0 g = [.int .i64 (a : Int), .slice (some ⟨g_b, 0, none⟩) (c * a) (c * a), .int .i64 (-1), .int .u64 0, .int .i64 0, .int .i64 0, .int .i64 0, .int .i64 0, .int .i64 0, .slice none 0 0, .map (some g), .bool false] := by unfold dvV; rw [Pl.new_len (by omega)]; rfl
    refine rw_done ?_
    refine gn_sq ?_
    refine HW_seq rfl ?_
    refine HW_text (.pure 0 (.pure 1 .done)) (by kernel_rfl) ?_
    refine rw_p rfl rfl (y_move rfl) ?_
    refine rw_p rfl rfl (y_assign rfl) ?_
    refine rw_done ?_
    refine gn_sq ?_
    refine HW_ret rfl ?_
    refine toR (fin hret rfl (.tmp rfl .nil) .one ?_)
    rw [hBB, if_pos hrt, Int.toNat_natCast, Int.toNat_natCast]
    exact ⟨_, _, rfl, DvZ.dev (pb := some ⟨g_b, 0, none⟩) (cb := c * a) (gb := g_b) (bb := b_b) (pc := none) (cc := 0) (gc := 0) (bc := .gap) (gm := g) (es := []) (cs := []) (B := []) 0 ⟨by rw [show (Pl.nDv a c BB).dk.length = c * a from Pl.new_len (by omega)]; exact ha_b, .nil _ _ _ _, rfl, by simp, fun k => rfl, Pl.ok_new (by omega) (by omega) (by omega) (by omega)⟩, by rw [hrow]; exact (hm.gapIn.pick [1, 3, 0, 2] rfl)⟩

set_option maxHeartbeats 1600000 in
theorem d_write (D : Pl.Dv) (m : Nat) (pb : Option Addr) (cb gb : Nat) (bb : Blk) (pc : Option Addr) (cc gc : Nat) (bc : Blk) (gm : Nat) (es : List (Int × Int × Nat)) (ck : Nat) (cs : List PdV) (B : List (Nat × Blk)) (w0 : World) (hZ : OwnZ w0 ((m, .row 107 (dvV D pb cb pc cc gm)) :: (gb, bb) :: (gc, bc) :: (gm, mpB es ck) :: B)) (hz : DvZ 107 157 5 D m pb cb gb bb pc cc gc bc gm es cs B) (q : Option Addr) (cq : Nat) (bs : List UInt8) (i : Int) (hq : Rd w0 q (bs.flatMap encB)) (hqX : bs.flatMap encB ≠ [] → ∀ a, q = some a → ¬ (Mn (reals ((m, .row 107 (dvV D pb cb pc cc gm)) :: (gb, bb) :: (gc, bc) :: (gm, mpB es ck) :: B))) a.block) (hle : bs.length ≤ cq) (hcl : D.ca.length ≤ 1000000000) : C Tryz.prog 75 [.pointer (some ⟨m, 0, none⟩), .int .i64 i, .slice q bs.length cq] w0 fun v w' => v = .int .i64 (Pl.wCode D i bs) ∧ ∃ Z', DevZ 107 157 5 (Pl.wDv D i bs) m Z' ∧ Mem w0 w' (Mn (reals ((m, .row 107 (dvV D pb cb pc cc gm)) :: (gb, bb) :: (gc, bc) :: (gm, mpB es ck) :: B))) Z' := by
  have hP : w0.heap[m]? = some (Blk.row 107 (dvV D pb cb pc cc gm)).toObj := hZ.get (k := 0) rfl
  have hok := hz.ok
  have o1 := hok.sz
  have o2 := hok.len
  have o3 := hok.cnt
  have o4 := hok.max
  have o5 : D.cnt ≤ D.cnt * D.sz := Nat.le_mul_of_pos_right _ o1
  have o6 := hz.ab.le
  have o7 : D.sz ≤ D.cnt * D.sz := Nat.le_mul_of_pos_left _ o3
  have ha_b := hz.ab
  have ha_c := hz.ac
  have hCl := wr_len hz.cw
  have ow1 := hok.wr
  have hwc : Pl.wCode D i bs = if Pl.codeAt D i ≠ 0 then Pl.codeAt D i else if bs.length ≠ D.sz then 2 else if D.wr = 0 then 18 else 0 := rfl
  refine C_of Tryz.func75 rfl rfl rfl fun κ hret hnorm => ?_
  have hm := hZ.start
  refine HW_seq rfl ?_
  refine HW_text (.act 0 (.pure 1 .done)) (by kernel_rfl) ?_
  refine a_box rfl rfl rfl rfl hm trivial fun m1 w hg_m1 hm hh => ?_
  refine rw_p rfl rfl (y_assign rfl) ?_
  refine rw_done ?_
  refine gn_sq ?_
  refine HW_seq rfl ?_
  refine HW_seq rfl ?_
  refine HW_text (.pure 0 (.pure 1 (.act 2 (.pure 3 .done)))) (by kernel_rfl) ?_
  refine rw_p rfl rfl (y_load rfl sc27 (hm.nt 0 rfl) rfl) ?_
  refine rw_p rfl rfl (y_move rfl) ?_
  refine a_call rfl rfl rfl go76 (d_check D m pb cb gb bb pc cc gc bc gm es ck cs B _ (hm.pickT [1, 2, 3, 4] 5 rfl).ownZ hz i) fun v w hR => ?_
  obtain ⟨rfl, hE⟩ := hR
  refine ⟨trivial, ?_⟩
  replace hm := hm.ext hE
  refine rw_p rfl rfl (y_assign rfl) ?_
  refine rw_done ?_
  refine gn_sq ?_
  refine HW_seq rfl ?_
  refine HW_text (.pure 0 (.pure 1 .done)) (by kernel_rfl) ?_
  refine rw_p rfl rfl (y_move rfl) ?_
  refine rw_p rfl rfl (y_ne rfl rfl) ?_
  refine rw_done ?_
  refine gn_sq ?_
  refine HW_cond rfl rfl (fun hc0 => ?_) (fun hc0 => ?_)
  ·
    simp only [decide_eq_true_eq] at hc0
    refine HW_seq rfl ?_
    refine HW_text (.pure 0 (.pure 1 .done)) (by kernel_rfl) ?_
    refine rw_p rfl rfl (y_move rfl) ?_
    refine rw_p rfl rfl (y_assign rfl) ?_
    refine rw_done ?_
    refine gn_sq ?_
    refine HW_ret rfl ?_
    refine gr_sq ?_
    refine toR (fin hret rfl (.tmp rfl .nil) .one ?_)
    exact ⟨by rw [hwc, if_pos hc0], _, by rw [Pl.wDv_stop (.inl hc0)]; exact hz.dev ck, (hm.pickT [1, 2, 3, 4] 5 rfl)⟩
  ·
    simp only [decide_eq_false_iff_not, Decidable.not_not] at hc0
    obtain ⟨_, hi0, hi1⟩ := code0 hc0
    refine HW_skip rfl ?_
    refine gn_sq ?_
    refine HW_seq rfl ?_
    refine HW_seq rfl ?_
    refine HW_text (.pure 0 (.pure 1 (.pure 2 (.pure 3 (.pure 4 (.pure 5 (.pure 6 (.pure 7 .done)))))))) (by kernel_rfl) ?_
    refine rw_p rfl rfl (y_move rfl) ?_
    refine rw_p rfl rfl (y_len rfl rfl sl22) ?_
    refine rw_p rfl rfl (y_load rfl sc27 (hm.nt 0 rfl) rfl) ?_
    refine rw_p rfl rfl (y_nil rfl) ?_
    refine rw_p rfl rfl (y_fieldAddr rfl fo107_0) ?_
    refine rw_p rfl rfl (y_fieldAddr rfl fo99_0) ?_
    refine rw_p rfl rfl (y_load rfl sc3 (hm.nt 1 rfl) rfl) ?_
    refine rw_p rfl rfl (y_ne rfl rfl) ?_
    refine rw_done ?_
    refine gn_sq ?_
    refine HW_cond rfl rfl (fun hc1 => ?_) (fun hc1 => ?_)
    ·
      simp only [decide_eq_true_eq] at hc1
      have hbl : bs.length ≠ D.sz := by omega
      refine HW_seq rfl ?_
      refine HW_text (.pure 0 .done) (by kernel_rfl) ?_
      refine rw_p rfl rfl (y_assign rfl) ?_
      refine rw_done ?_
      refine gn_sq ?_
      refine HW_ret rfl ?_
      refine gr_sq ?_
      refine toR (fin hret rfl (.tmp rfl .nil) .one ?_)
      exact ⟨by rw [hwc, if_neg (by omega), if_pos hbl], _, by rw [Pl.wDv_stop (.inr hbl)]; exact hz.dev ck, (hm.pickT [1, 2, 3, 4] 5 rfl)⟩
    ·
      simp only [decide_eq_false_iff_not, Decidable.not_not] at hc1
      have hbl : bs.length = D.sz := by omega
      refine HW_skip rfl ?_
      refine gn_sq ?_
      refine HW_seq rfl ?_
      refine HW_draw (.pure 0 (.pure 1 (.pure 2 (.pure 3 (.pure 4 (.pure 5 (.pure 6 (.pure 7 (.pure 8 (.pure 9 (.cut (.act 10 .done)))))))))))) No mix (by kernel_rfl) hm fun w hw hm0 hh => ?_
      have hm := hm0
      refine rw_p rfl rfl (y_load rfl sc27 (hm0.nd 0 rfl id) rfl) ?_
      refine rw_p rfl rfl (y_nil rfl) ?_
      refine rw_p rfl rfl (y_fieldAddr rfl fo107_4) ?_
      refine rw_p rfl rfl (y_load rfl sc105 (hm0.nd 1 rfl id) rfl) ?_
      refine rw_p rfl rfl (y_move rfl) ?_
      refine rw_p rfl rfl (y_load rfl sc27 (hm0.nd 0 rfl id) rfl) ?_
      refine rw_p rfl rfl (y_nil rfl) ?_
      refine rw_p rfl rfl (y_fieldAddr rfl fo107_3) ?_
      refine rw_p rfl rfl (y_load rfl sc104 (hm0.nd 1 rfl id) rfl) ?_
      refine rw_p rfl rfl (y_len rfl rfl sl104) ?_
      refine a_cut ?_
      refine a_mapUpdate rfl rfl rfl rfl mi105 hm 4 rfl fun ck_g w hm => ?_
      refine rw_done ?_
      refine gn_sq ?_
      refine HW_seq rfl ?_
      refine HW_draw (.pure 0 (.pure 1 (.pure 2 (.pure 3 (.pure 4 (.pure 5 (.pure 6 (.act 7 (.pure 8 (.act 9 (.act 10 (.cut (.pure 11 (.pure 12 (.act 13 .done))))))))))))))) (fun j => (j = gc ∧ bc.real = true)) mix (by kernel_rfl) hm fun w hw hm0 hh => ?_
      have hm := hm0
      refine rw_p rfl rfl (y_load rfl sc27 (hm0.nd 0 rfl (hm0.neR 0 3 rfl rfl rfl)) rfl) ?_
      refine rw_p rfl rfl (y_load rfl sc27 (hm0.nd 0 rfl (hm0.neR 0 3 rfl rfl rfl)) rfl) ?_
      refine rw_p rfl rfl (y_nil rfl) ?_
      refine rw_p rfl rfl (y_fieldAddr rfl fo107_3) ?_
      refine rw_p rfl rfl (y_load rfl sc104 (hm0.nd 1 rfl (hm0.neR 1 3 rfl rfl rfl)) rfl) ?_
      refine rw_p rfl rfl (y_move rfl) ?_
      refine rw_p rfl rfl (y_move rfl) ?_
      refine a_call rfl rfl rfl go43 (clone_b q cq bs _ (hq.extN hm.to hqX) (by omega)) fun v w hR => ?_
      obtain ⟨p_s, cap_s, g_s, b_s, rfl, ha_s, hmc⟩ := hR
      refine ⟨hh.ext hmc.to, ?_⟩
      have hg_s : b_s.real = true → _ := fun hr => (hmc.fresh _ List.mem_cons_self hr).resolve_left id
      replace hh := hh.ext hmc.to
      replace hm := hm.callN hmc
      refine rw_p rfl rfl (y_build (cs := [_, _]) z157 ft157 rfl rfl rfl rfl rfl) ?_
      refine a_buildSlice (l := [_, _]) rfl rfl sl104 z157 rfl rfl rfl rfl rfl rfl rfl hm hh fun m2 w hg_m2 hm hh => ?_
      refine a_appendN rfl rfl rfl rfl rfl rfl sl104 sl104 z157 rfl rfl (Rd.row0 (hm.get (k := 0) rfl)) rfl ha_c hm 5 rfl (by omega) (by omega) hh (fun h => .inr ⟨rfl, h⟩) fun p_c cap_c g_c b_c w _ ha_c hm hh hg_c => ?_
      refine a_cut ?_
      refine rw_p rfl rfl (y_nil rfl) ?_
      refine rw_p rfl rfl (y_fieldAddr rfl fo107_3) ?_
      refine a_store rfl rfl rfl rfl sz104 rfl hm 3 rfl rfl fun w hm => ?_
      have hz2 := hz.add ck hc0 hbl hcl ha_c ha_s
      have hrow2 : ∀ n : Int, dvV { Pl.wAdd D i bs with wr := n } pb cb p_c cap_c gm = [.int .i64 (D.sz : Int), .slice pb D.dk.length cb, .int .i64 n, .int .u64 D.kp, .int .i64 (Pl.inc D.sW), .int .i64 D.sF, .int .i64 D.sC, .int .i64 (max D.sH (i + 1)), .int .i64 (max D.sM (D.ca.length + 1 : Nat)), .slice p_c (D.ca.length + 1) cap_c, .map (some gm), .bool D.dn] := fun n => by unfold dvV Pl.wAdd; simp only [List.length_append, List.length_singleton]
      refine rw_done ?_
      refine gn_sq ?_
      refine HW_seq rfl ?_
      refine HW_text (.pure 0 (.pure 1 (.pure 2 (.pure 3 (.pure 4 (.pure 5 (.pure 6 (.pure 7 (.pure 8 (.act 9 .done)))))))))) (by kernel_rfl) ?_
      refine rw_p rfl rfl (y_load rfl sc27 (hm.nt 2 rfl) rfl) ?_
      refine rw_p rfl rfl (y_nil rfl) ?_
      refine rw_p rfl rfl (y_fieldAddr rfl fo107_2) ?_
      refine rw_p rfl rfl (y_fieldAddr rfl fo103_0) ?_
      refine rw_p rfl rfl (y_load rfl sc3 (hm.nt 3 rfl) rfl) ?_
      refine rw_p rfl rfl (y_add rfl rfl rfl) ?_
      refine rw_p rfl rfl (y_nil rfl) ?_
      refine rw_p rfl rfl (y_fieldAddr rfl fo107_2) ?_
      refine rw_p rfl rfl (y_fieldAddr rfl fo103_0) ?_
      refine a_store rfl rfl rfl rfl sz3 rfl hm 3 rfl rfl fun w hm => ?_
      refine rw_done ?_
      refine gn_sq ?_
      refine HW_seq rfl ?_
      refine HW_draw (.pure 0 (.pure 1 (.pure 2 (.pure 3 (.pure 4 (.pure 5 (.pure 6 (.pure 7 (.pure 8 (.cut (.pure 9 (.pure 10 (.pure 11 (.act 12 .done)))))))))))))) No mix (by kernel_rfl) hm fun w hw hm0 hh => ?_
      have hm := hm0
      refine rw_p rfl rfl (y_load rfl sc27 (hm0.nd 2 rfl id) rfl) ?_
      refine rw_p rfl rfl (y_load rfl sc27 (hm0.nd 2 rfl id) rfl) ?_
      refine rw_p rfl rfl (y_nil rfl) ?_
      refine rw_p rfl rfl (y_fieldAddr rfl fo107_2) ?_
      refine rw_p rfl rfl (y_fieldAddr rfl fo103_3) ?_
      refine rw_p rfl rfl (y_load rfl sc3 (hm0.nd 3 rfl id) rfl) ?_
      refine rw_p rfl rfl (y_move rfl) ?_
      refine rw_p rfl rfl (y_add rfl rfl (i64w (by omega) (by omega))) ?_
      refine rw_p rfl rfl (y_max rfl rfl) ?_
      refine a_cut ?_
      refine rw_p rfl rfl (y_nil rfl) ?_
      refine rw_p rfl rfl (y_fieldAddr rfl fo107_2) ?_
      refine rw_p rfl rfl (y_fieldAddr rfl fo103_3) ?_
      refine a_store rfl rfl rfl rfl sz3 rfl hm 3 rfl rfl fun w hm => ?_
      refine rw_done ?_
      refine gn_sq ?_
      refine HW_seq rfl ?_
      refine HW_draw (.pure 0 (.pure 1 (.pure 2 (.pure 3 (.pure 4 (.pure 5 (.pure 6 (.pure 7 (.pure 8 (.pure 9 (.pure 10 (.pure 11 (.cut (.pure 12 (.pure 13 (.pure 14 (.act 15 .done))))))))))))))))) No mix (by kernel_rfl) hm fun w hw hm0 hh => ?_
      have hm := hm0
      refine rw_p rfl rfl (y_load rfl sc27 (hm0.nd 2 rfl id) rfl) ?_
      refine rw_p rfl rfl (y_load rfl sc27 (hm0.nd 2 rfl id) rfl) ?_
      refine rw_p rfl rfl (y_nil rfl) ?_
      refine rw_p rfl rfl (y_fieldAddr rfl fo107_2) ?_
      refine rw_p rfl rfl (y_fieldAddr rfl fo103_4) ?_
      refine rw_p rfl rfl (y_load rfl sc3 (hm0.nd 3 rfl id) rfl) ?_
      refine rw_p rfl rfl (y_load rfl sc27 (hm0.nd 2 rfl id) rfl) ?_
      refine rw_p rfl rfl (y_nil rfl) ?_
      refine rw_p rfl rfl (y_fieldAddr rfl fo107_3) ?_
      refine rw_p rfl rfl (y_load rfl sc104 (hm0.nd 3 rfl id) rfl) ?_
      refine rw_p rfl rfl (y_len rfl rfl sl104) ?_
      refine rw_p rfl rfl (y_max rfl rfl) ?_
      refine a_cut ?_
      refine rw_p rfl rfl (y_nil rfl) ?_
      refine rw_p rfl rfl (y_fieldAddr rfl fo107_2) ?_
      refine rw_p rfl rfl (y_fieldAddr rfl fo103_4) ?_
      refine a_store rfl rfl rfl rfl sz3 rfl hm 3 rfl rfl fun w hm => ?_
      refine rw_done ?_
      refine gn_sq ?_
      refine HW_seq rfl ?_
      refine HW_seq rfl ?_
      refine HW_text (.pure 0 (.pure 1 (.pure 2 (.pure 3 (.pure 4 (.pure 5 .done)))))) (by kernel_rfl) ?_
      refine rw_p rfl rfl (y_load rfl sc27 (hm.nt 2 rfl) rfl) ?_
      refine rw_p rfl rfl (y_nil rfl) ?_
      refine rw_p rfl rfl (y_fieldAddr rfl fo107_1) ?_
      refine rw_p rfl rfl (y_fieldAddr rfl fo101_0) ?_
      refine rw_p rfl rfl (y_load rfl sc3 (hm.nt 3 rfl) rfl) ?_
      refine rw_p rfl rfl (y_lt rfl rfl) ?_
      refine rw_done ?_
      refine gn_sq ?_
      refine HW_cond rfl rfl (fun hc2 => ?_) (fun hc2 => ?_)
      ·
        simp only [decide_eq_true_eq] at hc2
        refine HW_seq rfl ?_
        refine HW_text (.pure 0 .done) (by kernel_rfl) ?_
        refine rw_p rfl rfl (y_assign rfl) ?_
        refine rw_done ?_
        refine gn_sq ?_
        refine HW_ret rfl ?_
        refine gr_sq ?_
        refine toR (fin hret rfl (.tmp rfl .nil) .one ?_)
        exact ⟨by rw [Pl.wCode_cr hc0 hbl, if_neg (by omega)], _, by rw [Pl.wDv_off hc0 hbl hc2]; exact hz2.dev ck_g, by show Mem _ _ _ ((m, .row _ (dvV { Pl.wAdd D i bs with wr := D.wr } pb cb p_c cap_c gm)) :: _); rw [hrow2]; exact (hm.pickT [3, 4, 5, 6, 1] 7 rfl)⟩
      ·
        simp only [decide_eq_false_iff_not] at hc2
        have hz3 := hz2.as (D2 := { Pl.wAdd D i bs with wr := D.wr - 1 }) rfl rfl (Pl.ok_wr hz2.ok (by omega))
        refine HW_skip rfl ?_
        refine gn_sq ?_
        refine HW_seq rfl ?_
        refine HW_text (.pure 0 (.pure 1 (.pure 2 (.pure 3 (.pure 4 (.pure 5 (.pure 6 (.pure 7 (.pure 8 (.act 9 .done)))))))))) (by kernel_rfl) ?_
        refine rw_p rfl rfl (y_load rfl sc27 (hm.nt 2 rfl) rfl) ?_
        refine rw_p rfl rfl (y_nil rfl) ?_
        refine rw_p rfl rfl (y_fieldAddr rfl fo107_1) ?_
        refine rw_p rfl rfl (y_fieldAddr rfl fo101_0) ?_
        refine rw_p rfl rfl (y_load rfl sc3 (hm.nt 3 rfl) rfl) ?_
        refine rw_p rfl rfl (y_sub rfl rfl (decI (by omega) (by omega))) ?_
        refine rw_p rfl rfl (y_nil rfl) ?_
        refine rw_p rfl rfl (y_fieldAddr rfl fo107_1) ?_
        refine rw_p rfl rfl (y_fieldAddr rfl fo101_0) ?_
        refine a_store rfl rfl rfl rfl sz3 rfl hm 3 rfl rfl fun w hm => ?_
        refine rw_done ?_
        refine gn_sq ?_
        refine HW_seq rfl ?_
        refine HW_seq rfl ?_
        refine HW_text (.pure 0 (.pure 1 (.pure 2 (.pure 3 (.pure 4 (.pure 5 .done)))))) (by kernel_rfl) ?_
        refine rw_p rfl rfl (y_load rfl sc27 (hm.nt 2 rfl) rfl) ?_
        refine rw_p rfl rfl (y_nil rfl) ?_
        refine rw_p rfl rfl (y_fieldAddr rfl fo107_1) ?_
        refine rw_p rfl rfl (y_fieldAddr rfl fo101_0) ?_
        refine rw_p rfl rfl (y_load rfl sc3 (hm.nt 3 rfl) rfl) ?_
        refine rw_p rfl rfl (y_ge rfl rfl) ?_
        refine rw_done ?_
        refine gn_sq ?_
        refine HW_cond rfl rfl (fun hc3 => ?_) (fun hc3 => ?_)
        ·
          simp only [decide_eq_true_eq] at hc3
          refine HW_seq rfl ?_
          refine HW_text (.pure 0 .done) (by kernel_rfl) ?_
          refine rw_p rfl rfl (y_assign rfl) ?_
          refine rw_done ?_
          refine gn_sq ?_
          refine HW_ret rfl ?_
          refine gr_sq ?_
          refine toR (fin hret rfl (.tmp rfl .nil) .one ?_)
          exact ⟨by rw [Pl.wCode_cr hc0 hbl, if_neg (by omega)], _, by rw [Pl.wDv_on hc0 hbl (by omega)]; exact hz3.dev ck_g, by show Mem _ _ _ ((m, .row _ (dvV { Pl.wAdd D i bs with wr := (D.wr - 1) } pb cb p_c cap_c gm)) :: _); rw [hrow2]; exact (hm.pickT [3, 4, 5, 6, 1] 7 rfl)⟩
        ·
          simp only [decide_eq_false_iff_not] at hc3
          have hw0 : D.wr = 0 := by omega
          rw [show D.wr - 1 = -1 by omega] at hz3
          refine HW_skip rfl ?_
          refine gn_sq ?_
          refine HW_seq rfl ?_
          refine HW_text (.pure 0 (.pure 1 (.act 2 .done))) (by kernel_rfl) ?_
          refine rw_p rfl rfl (y_load rfl sc27 (hm.nt 2 rfl) rfl) ?_
          refine rw_p rfl rfl (y_func rfl rfl) ?_
          have hm3 : Mem w0 w (Mn (reals ((m, .row 107 (dvV D pb cb pc cc gm)) :: (gb, bb) :: (gc, bc) :: (gm, mpB es ck) :: B))) ((m1, .row 27 [.pointer (some ⟨m, 0, none⟩)]) :: (m, .row 107 (dvV { Pl.wAdd D i bs with wr := (D.wr - 1) } pb cb p_c cap_c gm)) :: (gb, bb) :: (g_c, b_c) :: (gm, mpB (mpSet es ck i D.ca.length) ck_g) :: (g_s, b_s) :: B) := by rw [hrow2]; exact (hm.pickT [2, 3, 4, 5, 6, 1] 7 rfl)
          rw [show D.wr - 1 = -1 by omega] at hm3
          refine a_call rfl rfl rfl go77 (d_persist { Pl.wAdd D i bs with wr := (-1) } m pb cb gb bb p_c cap_c g_c b_c gm _ ck_g _ _ _ hm3.ownZ.tail hz3 (by show (D.ca ++ [(i.toNat, bs)]).length ≤ _; rw [List.length_append, List.length_singleton]; omega) (Pl.keepB D.kp) _ _ gWt (fun k w1 h9 hE => d_keep m1 _ { Pl.wAdd D i bs with wr := (-1) } m pb cb p_c cap_c gm k w1 ((hE.same m1 (Array.getElem?_eq_some_iff.1 (hm3.get (k := 0) rfl)).1 hm3.notinL).trans (hm3.get (k := 0) rfl)) h9)) fun v w hR => ?_
          obtain ⟨rfl, b9_b, hmc, hz9⟩ := hR
          refine ⟨trivial, ?_⟩
          replace hm := hm3.callZ1 hmc
          refine rw_done ?_
          refine gn_sq ?_
          refine HW_seq rfl ?_
          refine HW_text (.pure 0 (.pure 1 (.pure 2 (.act 3 .done)))) (by kernel_rfl) ?_
          refine rw_p rfl rfl (y_load rfl sc27 (hm.nt 0 rfl) rfl) ?_
          refine rw_p rfl rfl (y_nil rfl) ?_
          refine rw_p rfl rfl (y_fieldAddr rfl fo107_5) ?_
          refine a_store rfl rfl rfl rfl sz4 rfl hm 1 rfl rfl fun w hm => ?_
          refine rw_done ?_
          refine gn_sq ?_
          refine HW_seq rfl ?_
          refine HW_text (.pure 0 (.pure 1 (.pure 2 (.pure 3 (.pure 4 (.pure 5 (.pure 6 (.pure 7 (.pure 8 (.act 9 .done)))))))))) (by kernel_rfl) ?_
          refine rw_p rfl rfl (y_load rfl sc27 (hm.nt 0 rfl) rfl) ?_
          refine rw_p rfl rfl (y_nil rfl) ?_
          refine rw_p rfl rfl (y_fieldAddr rfl fo107_2) ?_
          refine rw_p rfl rfl (y_fieldAddr rfl fo103_2) ?_
          refine rw_p rfl rfl (y_load rfl sc3 (hm.nt 1 rfl) rfl) ?_
          refine rw_p rfl rfl (y_add rfl rfl rfl) ?_
          refine rw_p rfl rfl (y_nil rfl) ?_
          refine rw_p rfl rfl (y_fieldAddr rfl fo107_2) ?_
          refine rw_p rfl rfl (y_fieldAddr rfl fo103_2) ?_
          refine a_store rfl rfl rfl rfl sz3 rfl hm 1 rfl rfl fun w hm => ?_
          refine rw_done ?_
          refine gn_sq ?_
          refine HW_seq rfl ?_
          refine HW_text (.pure 0 .done) (by kernel_rfl) ?_
          refine rw_p rfl rfl (y_assign rfl) ?_
          refine rw_done ?_
          refine gn_sq ?_
          refine HW_ret rfl ?_
          refine toR (fin hret rfl (.tmp rfl .nil) .one ?_)
          exact ⟨by rw [Pl.wCode_cr hc0 hbl, if_pos hw0], _, by rw [Pl.wDv_cr hc0 hbl hw0]; exact (hz9.as (D2 := { Pl.persist { Pl.wAdd D i bs with wr := (-1) } (Pl.keepB D.kp) with dn := true, sC := Pl.inc D.sC }) rfl rfl (by rw [← Pl.wDv_cr hc0 hbl hw0]; exact Pl.ok_write hok hcl)).dev _, (hm.pickT [1, 2, 3, 4] 5 rfl)⟩

theorem o_flush (D : Pl.Dv) (m : Nat) (Z : List (Nat × Blk)) (w0 : World) (hZ : OwnZ w0 Z) (hz : DevZ 107 157 5 D m Z) (hcl : D.ca.length ≤ 1000000000) : C Tryz.prog 38 [.pointer (some ⟨m, 0, none⟩)] w0 fun v w' => v = .int .i64 (Pl.fCode D) ∧ ∃ Z', DevZ 107 157 5 (Pl.fDv D) m Z' ∧ Mem w0 w' (Mn (reals Z)) Z' := by
  obtain ⟨pb, cb, gb, bb, pc, cc, gc, bc, gm, es, ck, cs, B, rfl, hz⟩ := hz
  exact d_flush D m pb cb gb bb pc cc gc bc gm es ck cs B w0 hZ hz hcl

theorem o_write (D : Pl.Dv) (m : Nat) (Z : List (Nat × Blk)) (w0 : World) (hZ : OwnZ w0 Z) (hz : DevZ 107 157 5 D m Z) (q : Option Addr) (cq : Nat) (bs : List UInt8) (i : Int) (hq : Rd w0 q (bs.flatMap encB)) (hqX : bs.flatMap encB ≠ [] → ∀ a, q = some a → ¬ Mn (reals Z) a.block) (hle : bs.length ≤ cq) (hcl : D.ca.length ≤ 1000000000) : C Tryz.prog 75 [.pointer (some ⟨m, 0, none⟩), .int .i64 i, .slice q bs.length cq] w0 fun v w' => v = .int .i64 (Pl.wCode D i bs) ∧ ∃ Z', DevZ 107 157 5 (Pl.wDv D i bs) m Z' ∧ Mem w0 w' (Mn (reals Z)) Z' := by
  obtain ⟨pb, cb, gb, bb, pc, cc, gc, bc, gm, es, ck, cs, B, rfl, hz⟩ := hz
  exact d_write D m pb cb gb bb pc cc gc bc gm es ck cs B w0 hZ hz q cq bs i hq hqX hle hcl

theorem o_size (D : Pl.Dv) (m : Nat) (Z : List (Nat × Blk)) (w0 : World) (hZ : OwnZ w0 Z) (hz : DevZ 107 157 5 D m Z) : C Tryz.prog 48 [.pointer (some ⟨m, 0, none⟩)] w0 fun v w' => v = .int .i64 (D.sz : Int) ∧ Ext No w0 w' := by
  obtain ⟨pb, cb, gb, bb, pc, cc, gc, bc, gm, es, ck, cs, B, rfl, hz⟩ := hz
  exact d_size D m pb cb gb bb pc cc gc bc gm es ck cs B w0 hZ hz

theorem o_sectors (D : Pl.Dv) (m : Nat) (Z : List (Nat × Blk)) (w0 : World) (hZ : OwnZ w0 Z) (hz : DevZ 107 157 5 D m Z) : C Tryz.prog 50 [.pointer (some ⟨m, 0, none⟩)] w0 fun v w' => v = .int .i64 (D.cnt : Int) ∧ Ext No w0 w' := by
  obtain ⟨pb, cb, gb, bb, pc, cc, gc, bc, gm, es, ck, cs, B, rfl, hz⟩ := hz
  exact d_sectors D m pb cb gb bb pc cc gc bc gm es ck cs B w0 hZ hz

theorem o_disk (D : Pl.Dv) (m : Nat) (Z : List (Nat × Blk)) (w0 : World) (hZ : OwnZ w0 Z) (hz : DevZ 107 157 5 D m Z) : C Tryz.prog 14 [.pointer (some ⟨m, 0, none⟩)] w0 fun v w' => ∃ q c g b, v = .slice q D.dk.length c ∧ Acc 5 1 q (D.dk).length c ((D.dk).flatMap encB) g b ∧ Mem w0 w' No [(g, b)] := by
  obtain ⟨pb, cb, gb, bb, pc, cc, gc, bc, gm, es, ck, cs, B, rfl, hz⟩ := hz
  exact d_disk D m pb cb gb bb pc cc gc bc gm es ck cs B w0 hZ hz

theorem o_read (D : Pl.Dv) (m : Nat) (Z : List (Nat × Blk)) (w0 : World) (hZ : OwnZ w0 Z) (hz : DevZ 107 157 5 D m Z) (i : Int) : C Tryz.prog 53 [.pointer (some ⟨m, 0, none⟩), .int .i64 i] w0 fun v w' => ∃ q c g b, v = .tuple ⟨[.slice q (if Pl.codeAt D i = 0 then Pl.rdS D i else []).length c, .int .i64 (Pl.codeAt D i)]⟩ ∧ Acc 5 1 q ((if Pl.codeAt D i = 0 then Pl.rdS D i else [])).length c (((if Pl.codeAt D i = 0 then Pl.rdS D i else [])).flatMap encB) g b ∧ Mem w0 w' No [(g, b)] := by
  obtain ⟨pb, cb, gb, bb, pc, cc, gc, bc, gm, es, ck, cs, B, rfl, hz⟩ := hz
  exact d_read D m pb cb gb bb pc cc gc bc gm es ck cs B w0 hZ hz i

theorem o_new (x y : Int) (q : Option Addr) (cq : Nat) (ps : List SB) (w0 : World) (hq : Rd w0 q (ps.flatMap encS)) (hps : ∀ s ∈ ps, Rd w0 s.p (s.bs.flatMap encB)) (hl : ps.length ≤ 4611686018427387903) (hb : (ps.flatMap (·.bs)).length ≤ 140737488355328) (BB : List UInt8) (hBB : ps.flatMap (·.bs) = BB) (hr : Pl.right x y BB.length = true) : C Tryz.prog 16 [.int .i64 x, .int .i64 y, .slice q ps.length cq] w0 fun v w' => ∃ m Z, v = .pointer (some ⟨m, 0, none⟩) ∧ DevZ 107 157 5 (Pl.nDv x.toNat y.toNat BB) m Z ∧ Mem w0 w' No Z := by
  subst hBB
  exact (d_new x y q cq ps w0 hq hps hl hb).mono fun v w' h => by rw [if_pos hr] at h; exact h

theorem o_newF (x y : Int) (q : Option Addr) (cq : Nat) (ps : List SB) (w0 : World) (hq : Rd w0 q (ps.flatMap encS)) (hps : ∀ s ∈ ps, Rd w0 s.p (s.bs.flatMap encB)) (hl : ps.length ≤ 4611686018427387903) (hb : (ps.flatMap (·.bs)).length ≤ 140737488355328) (hr : Pl.right x y (ps.flatMap (·.bs)).length = false) : C Tryz.prog 16 [.int .i64 x, .int .i64 y, .slice q ps.length cq] w0 fun v w' => v = .pointer none ∧ Ext No w0 w' := (d_new x y q cq ps w0 hq hps hl hb).mono fun v w' h => by rw [if_neg (by rw [hr]; decide)] at h; exact h

end Go.Proofs.YthailbggeafckaaGreat
