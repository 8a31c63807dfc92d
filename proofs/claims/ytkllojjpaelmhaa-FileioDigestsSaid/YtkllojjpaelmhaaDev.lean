/- Contracts of functions of the program: what each returns. Conditions: the hypotheses of each theorem. -/
import Derived.Test.YtkllojjpaelmhaaCmdB
import Derived.Test.YtkllojjpaelmhaaCxV
set_option linter.unusedVariables false
set_option linter.unusedSimpArgs false
namespace Go.Proofs.Ytkllojjpaelmhaa
open Go Go.Cx

theorem fo75_0 : fldO Try.prog 75 0 = some 0 := by kernel_rfl
theorem fo75_1 : fldO Try.prog 75 1 = some 1 := by kernel_rfl
theorem fo79_0 : fldO Try.prog 79 0 = some 0 := by kernel_rfl
theorem pb30 : ptrB Try.prog 30 = true := by kernel_rfl
theorem go53 : isGo Try.prog 53 = true := by kernel_rfl
theorem fo79_5 : fldO Try.prog 79 5 = some 11 := by kernel_rfl
theorem sc4 : scal Try.prog 4 = true := by kernel_rfl
theorem ag55 : aggS Try.prog 55 = some 5 := by kernel_rfl
theorem fo79_2 : fldO Try.prog 79 2 = some 4 := by kernel_rfl
theorem sz55 : szO Try.prog 55 = some 5 := by kernel_rfl
theorem z55 : zer Try.prog 55 = some [.int .i64 0, .int .i64 0, .int .i64 0, .int .i64 0, .int .i64 0] := by kernel_rfl
theorem ft55 : fldT Try.prog 55 = some [(0, 1), (1, 1), (2, 1), (3, 1), (4, 1)] := by kernel_rfl
theorem go35 : isGo Try.prog 35 = true := by kernel_rfl
theorem fo79_3 : fldO Try.prog 79 3 = some 9 := by kernel_rfl
theorem fo79_4 : fldO Try.prog 79 4 = some 10 := by kernel_rfl
theorem fo83_1 : fldO Try.prog 83 1 = some 1 := by kernel_rfl
theorem go34 : isGo Try.prog 34 = true := by kernel_rfl
theorem go54 : isGo Try.prog 54 = true := by kernel_rfl
theorem mi77 : mapII Try.prog 77 = true := by kernel_rfl
theorem sc76 : scal Try.prog 76 = true := by kernel_rfl
theorem sc77 : scal Try.prog 77 = true := by kernel_rfl
theorem sl76 : slcO Try.prog 76 = some (83, 2, 32) := by kernel_rfl
theorem ag83 : aggS Try.prog 83 = some 2 := by kernel_rfl
theorem fo83_0 : fldO Try.prog 83 0 = some 0 := by kernel_rfl
theorem sz76 : szO Try.prog 76 = some 1 := by kernel_rfl
theorem sz83 : szO Try.prog 83 = some 2 := by kernel_rfl
theorem z83 : zer Try.prog 83 = some [.int .i64 0, .slice none 0 0] := by kernel_rfl
theorem fo73_1 : fldO Try.prog 73 1 = some 1 := by kernel_rfl
theorem fo79_1 : fldO Try.prog 79 1 = some 2 := by kernel_rfl
theorem sc30 : scal Try.prog 30 = true := by kernel_rfl
theorem sc35 : scal Try.prog 35 = true := by kernel_rfl
theorem ft73 : fldT Try.prog 73 = some [(0, 1), (1, 1)] := by kernel_rfl
theorem sz73 : szO Try.prog 73 = some 2 := by kernel_rfl
theorem z73 : zer Try.prog 73 = some [.int .i64 0, .int .u64 0] := by kernel_rfl

theorem d_count (D : Pl.Dv) (m : Nat) (pb : Option Addr) (cb gb : Nat) (bb : Blk) (pc : Option Addr) (cc gc : Nat) (bc : Blk) (gm : Nat) (es : List (Int × Int × Nat)) (ck : Nat) (cs : List PdV) (B : List (Nat × Blk)) (w0 : World) (hZ : OwnZ w0 ((m, .row 79 (dvV D pb cb pc cc gm)) :: (gb, bb) :: (gc, bc) :: (gm, mpB es ck) :: B)) (hz : DvZ 79 83 5 D m pb cb gb bb pc cc gc bc gm es cs B) : C Try.prog 53 [.pointer (some ⟨m, 0, none⟩)] w0 fun v w' => v = .int .i64 (D.cnt : Int) ∧ Ext No w0 w' := by
  have hP : w0.heap[m]? = some (Blk.row 79 (dvV D pb cb pc cc gm)).toObj := hZ.get (k := 0) rfl
  have hok := hz.ok
  have o1 := hok.sz
  have o2 := hok.len
  have o3 := hok.cnt
  have o4 := hok.max
  have o5 : D.cnt ≤ D.cnt * D.sz := Nat.le_mul_of_pos_right _ o1
  have o6 := hz.ab.le
  have o7 : D.sz ≤ D.cnt * D.sz := Nat.le_mul_of_pos_left _ o3
  refine C_of Try.func53 rfl rfl rfl fun κ hret hnorm => ?_
  have hm := Mem.start w0
  refine HW_seq rfl ?_
  refine HW_text (.pure 0 .done) (by kernel_rfl) ?_
  refine rw_p rfl rfl (y_assign rfl) ?_
  refine rw_done ?_
  refine gn_sq ?_
  refine HW_seq rfl ?_
  refine HW_draw (.pure 0 (.pure 1 (.pure 2 (.pure 3 (.pure 4 (.pure 5 (.pure 6 (.pure 7 (.pure 8 (.pure 9 (.pure 10 .done))))))))))) No mix (by kernel_rfl) hm fun w hw hm0 hh => ?_
  have hm := hm0
  refine rw_p rfl rfl (y_move rfl) ?_
  refine rw_p rfl rfl (y_nil rfl) ?_
  refine rw_p rfl rfl (y_fieldAddr rfl fo75_1) ?_
  refine rw_p rfl rfl (y_load rfl sc27 (fun u hu => ((hm0.to.trans hu).same _ (Array.getElem?_eq_some_iff.1 hP).1 id).trans hP) rfl) ?_
  refine rw_p rfl rfl (y_len rfl rfl sl27) ?_
  refine rw_p rfl rfl (y_move rfl) ?_
  refine rw_p rfl rfl (y_nil rfl) ?_
  refine rw_p rfl rfl (y_fieldAddr rfl fo75_0) ?_
  refine rw_p rfl rfl (y_load rfl sc3 (fun u hu => ((hm0.to.trans hu).same _ (Array.getElem?_eq_some_iff.1 hP).1 id).trans hP) rfl) ?_
  refine rw_p rfl rfl (y_quo rfl rfl (by omega) (cnt_div hok)) ?_
  refine rw_p rfl rfl (y_assign rfl) ?_
  refine rw_done ?_
  refine gn_sq ?_
  refine HW_ret rfl ?_
  refine toR (fin hret rfl (.tmp rfl .nil) .one ?_)
  exact ⟨rfl, hm.to⟩

theorem d_sector (D : Pl.Dv) (m : Nat) (pb : Option Addr) (cb : Nat) (pc : Option Addr) (nc cc gm n9 : Nat) (w0 : World) (hP : w0.heap[m]? = some (Blk.row 79 [.int .i64 (D.sz : Int), .slice pb n9 cb, .int .i64 D.wr, .int .u64 D.kp, .int .i64 D.sW, .int .i64 D.sF, .int .i64 D.sC, .int .i64 D.sH, .int .i64 D.sM, .slice pc nc cc, .map (some gm), .bool D.dn]).toObj) (o4 : D.cnt * D.sz ≤ 1048576) (o6 : D.cnt * D.sz ≤ cb) (hsp : cb ≠ 0 → ∀ ad, pb = some ad → ad.spot = none) (o1 : 1 ≤ D.sz) (i : Nat) (hi : i < D.cnt) : C Try.prog 54 [.pointer (some ⟨m, 0, none⟩), .int .i64 ((i : Nat) : Int)] w0 fun v w' => v = .slice (slp pb cb (i * D.sz) 1) D.sz (cb - i * D.sz) ∧ Ext No w0 w' := by
  have o5 : D.cnt ≤ D.cnt * D.sz := Nat.le_mul_of_pos_right _ o1
  have hs := Pl.sec_le (sz := D.sz) hi
  have hs1 : (i + 1) * D.sz = i * D.sz + D.sz := by rw [Nat.add_mul, Nat.one_mul]
  refine C_of Try.func54 rfl rfl rfl fun κ hret hnorm => ?_
  have hm := Mem.start w0
  refine HW_seq rfl ?_
  refine HW_text (.pure 0 .done) (by kernel_rfl) ?_
  refine rw_p rfl rfl (y_assign rfl) ?_
  refine rw_done ?_
  refine gn_sq ?_
  refine HW_seq rfl ?_
  refine HW_draw (.pure 0 (.pure 1 (.pure 2 (.pure 3 (.pure 4 (.pure 5 (.pure 6 (.pure 7 (.pure 8 (.pure 9 (.pure 10 (.pure 11 (.pure 12 (.pure 13 (.pure 14 (.pure 15 (.pure 16 (.pure 17 (.pure 18 .done))))))))))))))))))) No mix (by kernel_rfl) hm fun w hw hm0 hh => ?_
  have hm := hm0
  refine rw_p rfl rfl (y_move rfl) ?_
  refine rw_p rfl rfl (y_nil rfl) ?_
  refine rw_p rfl rfl (y_fieldAddr rfl fo75_1) ?_
  refine rw_p rfl rfl (y_load rfl sc27 (fun u hu => ((hm0.to.trans hu).same _ (Array.getElem?_eq_some_iff.1 hP).1 id).trans hP) rfl) ?_
  refine rw_p rfl rfl (y_move rfl) ?_
  refine rw_p rfl rfl (y_move rfl) ?_
  refine rw_p rfl rfl (y_nil rfl) ?_
  refine rw_p rfl rfl (y_fieldAddr rfl fo75_0) ?_
  refine rw_p rfl rfl (y_load rfl sc3 (fun u hu => ((hm0.to.trans hu).same _ (Array.getElem?_eq_some_iff.1 hP).1 id).trans hP) rfl) ?_
  refine rw_p rfl rfl (y_mul rfl rfl (mulN (by omega))) ?_
  refine rw_p rfl rfl (y_move rfl) ?_
  refine rw_p rfl rfl (y_add rfl rfl (addN (by omega))) ?_
  refine rw_p rfl rfl (y_move rfl) ?_
  refine rw_p rfl rfl (y_nil rfl) ?_
  refine rw_p rfl rfl (y_fieldAddr rfl fo75_0) ?_
  refine rw_p rfl rfl (y_load rfl sc3 (fun u hu => ((hm0.to.trans hu).same _ (Array.getElem?_eq_some_iff.1 hP).1 id).trans hP) rfl) ?_
  refine rw_p rfl rfl (y_mul rfl rfl (mulN (by omega))) ?_
  refine rw_p rfl rfl (y_v (y_slice (ln := (i * D.sz)) (hn := ((i + 1) * D.sz)) rfl sl27 ⟨_, rfl⟩ ⟨_, rfl⟩ (by omega) (by omega) (fun h => hsp (by omega))) (show _ = Value.slice (slp pb cb (i * D.sz) 1) D.sz (cb - i * D.sz) by rw [hs1, Nat.add_sub_cancel_left])) ?_
  refine rw_p rfl rfl (y_assign rfl) ?_
  refine rw_done ?_
  refine gn_sq ?_
  refine HW_ret rfl ?_
  refine toR (fin hret rfl (.tmp rfl .nil) .one ?_)
  exact ⟨rfl, hm.to⟩

theorem d_size (D : Pl.Dv) (m : Nat) (pb : Option Addr) (cb gb : Nat) (bb : Blk) (pc : Option Addr) (cc gc : Nat) (bc : Blk) (gm : Nat) (es : List (Int × Int × Nat)) (ck : Nat) (cs : List PdV) (B : List (Nat × Blk)) (w0 : World) (hZ : OwnZ w0 ((m, .row 79 (dvV D pb cb pc cc gm)) :: (gb, bb) :: (gc, bc) :: (gm, mpB es ck) :: B)) (hz : DvZ 79 83 5 D m pb cb gb bb pc cc gc bc gm es cs B) : C Try.prog 41 [.pointer (some ⟨m, 0, none⟩)] w0 fun v w' => v = .int .i64 (D.sz : Int) ∧ Ext No w0 w' := by
  have hP : w0.heap[m]? = some (Blk.row 79 (dvV D pb cb pc cc gm)).toObj := hZ.get (k := 0) rfl
  have hok := hz.ok
  have o1 := hok.sz
  have o2 := hok.len
  have o3 := hok.cnt
  have o4 := hok.max
  have o5 : D.cnt ≤ D.cnt * D.sz := Nat.le_mul_of_pos_right _ o1
  have o6 := hz.ab.le
  have o7 : D.sz ≤ D.cnt * D.sz := Nat.le_mul_of_pos_left _ o3
  refine C_of Try.func41 rfl rfl rfl fun κ hret hnorm => ?_
  have hm := Mem.start w0
  refine HW_seq rfl ?_
  refine HW_text (.pure 0 .done) (by kernel_rfl) ?_
  refine rw_p rfl rfl (y_assign rfl) ?_
  refine rw_done ?_
  refine gn_sq ?_
  refine HW_seq rfl ?_
  refine HW_seq rfl ?_
  refine HW_text (.pure 0 (.pure 1 .done)) (by kernel_rfl) ?_
  refine rw_p rfl rfl (y_move rfl) ?_
  refine rw_p rfl rfl (y_pnil rfl rfl pb30) ?_
  refine rw_done ?_
  refine gn_sq ?_
  refine HW_condF rfl rfl rfl ?_
  refine HW_skip rfl ?_
  refine gn_sq ?_
  refine HW_seq rfl ?_
  refine HW_text (.pure 0 (.pure 1 (.pure 2 (.pure 3 (.pure 4 (.pure 5 .done)))))) (by kernel_rfl) ?_
  refine rw_p rfl rfl (y_move rfl) ?_
  refine rw_p rfl rfl (y_nil rfl) ?_
  refine rw_p rfl rfl (y_fieldAddr rfl fo79_0) ?_
  refine rw_p rfl rfl (y_fieldAddr rfl fo75_0) ?_
  refine rw_p rfl rfl (y_load rfl sc3 (nowT ((hm.to.same _ (Array.getElem?_eq_some_iff.1 hP).1 id).trans hP)) rfl) ?_
  refine rw_p rfl rfl (y_assign rfl) ?_
  refine rw_done ?_
  refine gn_sq ?_
  refine HW_ret rfl ?_
  refine toR (fin hret rfl (.tmp rfl .nil) .one ?_)
  exact ⟨rfl, hm.to⟩

theorem d_sizeN (w0 : World) : C Try.prog 41 [.pointer none] w0 fun v w' => v = .int .i64 0 ∧ Ext No w0 w' := by
  refine C_of Try.func41 rfl rfl rfl fun κ hret hnorm => ?_
  have hm := Mem.start w0
  refine HW_seq rfl ?_
  refine HW_text (.pure 0 .done) (by kernel_rfl) ?_
  refine rw_p rfl rfl (y_assign rfl) ?_
  refine rw_done ?_
  refine gn_sq ?_
  refine HW_seq rfl ?_
  refine HW_seq rfl ?_
  refine HW_text (.pure 0 (.pure 1 .done)) (by kernel_rfl) ?_
  refine rw_p rfl rfl (y_move rfl) ?_
  refine rw_p rfl rfl (y_pnil rfl rfl pb30) ?_
  refine rw_done ?_
  refine gn_sq ?_
  refine HW_condT rfl rfl rfl ?_
  refine HW_seq rfl ?_
  refine HW_text (.pure 0 .done) (by kernel_rfl) ?_
  refine rw_p rfl rfl (y_assign rfl) ?_
  refine rw_done ?_
  refine gn_sq ?_
  refine HW_ret rfl ?_
  refine gr_sq ?_
  refine toR (fin hret rfl (.tmp rfl .nil) .one ?_)
  exact ⟨rfl, hm.to⟩

theorem d_sectors (D : Pl.Dv) (m : Nat) (pb : Option Addr) (cb gb : Nat) (bb : Blk) (pc : Option Addr) (cc gc : Nat) (bc : Blk) (gm : Nat) (es : List (Int × Int × Nat)) (ck : Nat) (cs : List PdV) (B : List (Nat × Blk)) (w0 : World) (hZ : OwnZ w0 ((m, .row 79 (dvV D pb cb pc cc gm)) :: (gb, bb) :: (gc, bc) :: (gm, mpB es ck) :: B)) (hz : DvZ 79 83 5 D m pb cb gb bb pc cc gc bc gm es cs B) : C Try.prog 56 [.pointer (some ⟨m, 0, none⟩)] w0 fun v w' => v = .int .i64 (D.cnt : Int) ∧ Ext No w0 w' := by
  have hP : w0.heap[m]? = some (Blk.row 79 (dvV D pb cb pc cc gm)).toObj := hZ.get (k := 0) rfl
  have hok := hz.ok
  have o1 := hok.sz
  have o2 := hok.len
  have o3 := hok.cnt
  have o4 := hok.max
  have o5 : D.cnt ≤ D.cnt * D.sz := Nat.le_mul_of_pos_right _ o1
  have o6 := hz.ab.le
  have o7 : D.sz ≤ D.cnt * D.sz := Nat.le_mul_of_pos_left _ o3
  refine C_of Try.func56 rfl rfl rfl fun κ hret hnorm => ?_
  have hm := Mem.start w0
  refine HW_seq rfl ?_
  refine HW_text (.pure 0 .done) (by kernel_rfl) ?_
  refine rw_p rfl rfl (y_assign rfl) ?_
  refine rw_done ?_
  refine gn_sq ?_
  refine HW_seq rfl ?_
  refine HW_seq rfl ?_
  refine HW_text (.pure 0 (.pure 1 .done)) (by kernel_rfl) ?_
  refine rw_p rfl rfl (y_move rfl) ?_
  refine rw_p rfl rfl (y_pnil rfl rfl pb30) ?_
  refine rw_done ?_
  refine gn_sq ?_
  refine HW_condF rfl rfl rfl ?_
  refine HW_skip rfl ?_
  refine gn_sq ?_
  refine HW_seq rfl ?_
  refine HW_text (.pure 0 (.pure 1 (.pure 2 (.act 3 (.pure 4 .done))))) (by kernel_rfl) ?_
  refine rw_p rfl rfl (y_move rfl) ?_
  refine rw_p rfl rfl (y_nil rfl) ?_
  refine rw_p rfl rfl (y_fieldAddr rfl fo79_0) ?_
  refine a_call rfl rfl rfl go53 (d_count D m pb cb gb bb pc cc gc bc gm es ck cs B _ (hZ.ext hm.to) hz) fun v w hR => ?_
  obtain ⟨rfl, hE⟩ := hR
  refine ⟨trivial, ?_⟩
  replace hm := hm.ext hE
  refine rw_p rfl rfl (y_assign rfl) ?_
  refine rw_done ?_
  refine gn_sq ?_
  refine HW_ret rfl ?_
  refine toR (fin hret rfl (.tmp rfl .nil) .one ?_)
  exact ⟨rfl, hm.to⟩

theorem d_sectorsN (w0 : World) : C Try.prog 56 [.pointer none] w0 fun v w' => v = .int .i64 0 ∧ Ext No w0 w' := by
  refine C_of Try.func56 rfl rfl rfl fun κ hret hnorm => ?_
  have hm := Mem.start w0
  refine HW_seq rfl ?_
  refine HW_text (.pure 0 .done) (by kernel_rfl) ?_
  refine rw_p rfl rfl (y_assign rfl) ?_
  refine rw_done ?_
  refine gn_sq ?_
  refine HW_seq rfl ?_
  refine HW_seq rfl ?_
  refine HW_text (.pure 0 (.pure 1 .done)) (by kernel_rfl) ?_
  refine rw_p rfl rfl (y_move rfl) ?_
  refine rw_p rfl rfl (y_pnil rfl rfl pb30) ?_
  refine rw_done ?_
  refine gn_sq ?_
  refine HW_condT rfl rfl rfl ?_
  refine HW_seq rfl ?_
  refine HW_text (.pure 0 .done) (by kernel_rfl) ?_
  refine rw_p rfl rfl (y_assign rfl) ?_
  refine rw_done ?_
  refine gn_sq ?_
  refine HW_ret rfl ?_
  refine gr_sq ?_
  refine toR (fin hret rfl (.tmp rfl .nil) .one ?_)
  exact ⟨rfl, hm.to⟩

theorem d_check (D : Pl.Dv) (m : Nat) (pb : Option Addr) (cb gb : Nat) (bb : Blk) (pc : Option Addr) (cc gc : Nat) (bc : Blk) (gm : Nat) (es : List (Int × Int × Nat)) (ck : Nat) (cs : List PdV) (B : List (Nat × Blk)) (w0 : World) (hZ : OwnZ w0 ((m, .row 79 (dvV D pb cb pc cc gm)) :: (gb, bb) :: (gc, bc) :: (gm, mpB es ck) :: B)) (hz : DvZ 79 83 5 D m pb cb gb bb pc cc gc bc gm es cs B) (i : Int) : C Try.prog 34 [.pointer (some ⟨m, 0, none⟩), .int .i64 i] w0 fun v w' => v = .int .i64 (Pl.codeAt D i) ∧ Ext No w0 w' := by
  have hP : w0.heap[m]? = some (Blk.row 79 (dvV D pb cb pc cc gm)).toObj := hZ.get (k := 0) rfl
  have hok := hz.ok
  have o1 := hok.sz
  have o2 := hok.len
  have o3 := hok.cnt
  have o4 := hok.max
  have o5 : D.cnt ≤ D.cnt * D.sz := Nat.le_mul_of_pos_right _ o1
  have o6 := hz.ab.le
  have o7 : D.sz ≤ D.cnt * D.sz := Nat.le_mul_of_pos_left _ o3
  have hcd : Pl.codeAt D i = if D.dn = true then 18 else if i < 0 ∨ (D.cnt : Int) ≤ i then 2 else 0 := rfl
  refine C_of Try.func34 rfl rfl rfl fun κ hret hnorm => ?_
  have hm := Mem.start w0
  refine HW_seq rfl ?_
  refine HW_text (.pure 0 .done) (by kernel_rfl) ?_
  refine rw_p rfl rfl (y_assign rfl) ?_
  refine rw_done ?_
  refine gn_sq ?_
  refine HW_seq rfl ?_
  refine HW_block rfl ?_
  refine HW_seq rfl ?_
  refine HW_text (.pure 0 (.pure 1 (.pure 2 .done))) (by kernel_rfl) ?_
  refine rw_p rfl rfl (y_move rfl) ?_
  refine rw_p rfl rfl (y_pnil rfl rfl pb30) ?_
  refine rw_p rfl rfl (y_assign rfl) ?_
  refine rw_done ?_
  refine gn_sq ?_
  refine HW_condF rfl rfl rfl ?_
  refine HW_seq rfl ?_
  refine HW_text (.pure 0 (.pure 1 (.pure 2 (.pure 3 (.pure 4 .done))))) (by kernel_rfl) ?_
  refine rw_p rfl rfl (y_move rfl) ?_
  refine rw_p rfl rfl (y_nil rfl) ?_
  refine rw_p rfl rfl (y_fieldAddr rfl fo79_5) ?_
  refine rw_p rfl rfl (y_load rfl sc4 (nowT ((hm.to.same _ (Array.getElem?_eq_some_iff.1 hP).1 id).trans hP)) rfl) ?_
  refine rw_p rfl rfl (y_assign rfl) ?_
  refine rw_done ?_
  refine gn_sq ?_
  refine HW_cond rfl rfl (fun hc1 => ?_) (fun hc1 => ?_)
  ·
    refine HW_seq rfl ?_
    refine HW_text (.pure 0 .done) (by kernel_rfl) ?_
    refine rw_p rfl rfl (y_assign rfl) ?_
    refine rw_done ?_
    refine gn_sq ?_
    refine HW_ret rfl ?_
    refine gr_bl (gr_sq ?_)
    refine toR (fin hret rfl (.tmp rfl .nil) .one ?_)
    exact ⟨by rw [hcd, if_pos hc1], hm.to⟩
  ·
    refine HW_seq rfl ?_
    refine HW_text (.pure 0 (.pure 1 (.pure 2 (.pure 3 (.pure 4 (.pure 5 (.pure 6 (.act 7 (.pure 8 (.pure 9 (.pure 10 .done))))))))))) (by kernel_rfl) ?_
    refine rw_p rfl rfl (y_move rfl) ?_
    refine rw_p rfl rfl (y_lt rfl rfl) ?_
    refine rw_p rfl rfl (y_move rfl) ?_
    refine rw_g rfl rfl rfl (fun hc => (y_move rfl)) ?_
    refine rw_g rfl rfl rfl (fun hc => (y_move rfl)) ?_
    refine rw_g rfl rfl rfl (fun hc => (y_nil (gx hc rfl))) ?_
    refine rw_g rfl rfl rfl (fun hc => (y_fieldAddr (gx hc rfl) fo79_0)) ?_
    refine a_callG rfl rfl rfl (fun hc => (evs_c (gx hc rfl) evs_n)) go53 (fun hc => (d_count D m pb cb gb bb pc cc gc bc gm es ck cs B _ (hZ.ext hm.to) hz)) trivial fun w hE hh => ?_
    replace hm := hm.ext hE
    refine rw_g rfl rfl rfl (fun hc => (y_ge (gx hc rfl) (gx hc rfl))) ?_
    refine rw_p rfl rfl (y_or rfl rfl rfl) ?_
    refine rw_p rfl rfl (y_assign rfl) ?_
    refine rw_done ?_
    refine gn_sq ?_
    refine HW_cond rfl rfl (fun hc2 => ?_) (fun hc2 => ?_)
    ·
      simp only [Bool.or_eq_true, decide_eq_true_eq] at hc2
      refine HW_seq rfl ?_
      refine HW_text (.pure 0 .done) (by kernel_rfl) ?_
      refine rw_p rfl rfl (y_assign rfl) ?_
      refine rw_done ?_
      refine gn_sq ?_
      refine HW_ret rfl ?_
      refine gr_bl (gr_sq ?_)
      refine toR (fin hret rfl (.tmp rfl .nil) .one ?_)
      exact ⟨by rw [hcd, if_neg (by simp [hc1]), if_pos (by omega)], hm.to⟩
    ·
      simp only [Bool.or_eq_false_iff, decide_eq_false_iff_not] at hc2
      refine HW_skip rfl ?_
      refine gn_bl ?_
      refine gn_sq ?_
      refine HW_seq rfl ?_
      refine HW_text (.pure 0 .done) (by kernel_rfl) ?_
      refine rw_p rfl rfl (y_assign rfl) ?_
      refine rw_done ?_
      refine gn_sq ?_
      refine HW_ret rfl ?_
      refine toR (fin hret rfl (.tmp rfl .nil) .one ?_)
      exact ⟨by rw [hcd, if_neg (by simp [hc1]), if_neg (by omega)], hm.to⟩

theorem d_checkN (i : Int) (w0 : World) : C Try.prog 34 [.pointer none, .int .i64 i] w0 fun v w' => v = .int .i64 1 ∧ Ext No w0 w' := by
  refine C_of Try.func34 rfl rfl rfl fun κ hret hnorm => ?_
  have hm := Mem.start w0
  refine HW_seq rfl ?_
  refine HW_text (.pure 0 .done) (by kernel_rfl) ?_
  refine rw_p rfl rfl (y_assign rfl) ?_
  refine rw_done ?_
  refine gn_sq ?_
  refine HW_seq rfl ?_
  refine HW_block rfl ?_
  refine HW_seq rfl ?_
  refine HW_text (.pure 0 (.pure 1 (.pure 2 .done))) (by kernel_rfl) ?_
  refine rw_p rfl rfl (y_move rfl) ?_
  refine rw_p rfl rfl (y_pnil rfl rfl pb30) ?_
  refine rw_p rfl rfl (y_assign rfl) ?_
  refine rw_done ?_
  refine gn_sq ?_
  refine HW_condT rfl rfl rfl ?_
  refine HW_seq rfl ?_
  refine HW_text (.pure 0 .done) (by kernel_rfl) ?_
  refine rw_p rfl rfl (y_assign rfl) ?_
  refine rw_done ?_
  refine gn_sq ?_
  refine HW_ret rfl ?_
  refine gr_bl (gr_sq ?_)
  refine toR (fin hret rfl (.tmp rfl .nil) .one ?_)
  exact ⟨rfl, hm.to⟩

theorem d_down (D : Pl.Dv) (m : Nat) (pb : Option Addr) (cb gb : Nat) (bb : Blk) (pc : Option Addr) (cc gc : Nat) (bc : Blk) (gm : Nat) (es : List (Int × Int × Nat)) (ck : Nat) (cs : List PdV) (B : List (Nat × Blk)) (w0 : World) (hZ : OwnZ w0 ((m, .row 79 (dvV D pb cb pc cc gm)) :: (gb, bb) :: (gc, bc) :: (gm, mpB es ck) :: B)) (hz : DvZ 79 83 5 D m pb cb gb bb pc cc gc bc gm es cs B) : C Try.prog 25 [.pointer (some ⟨m, 0, none⟩)] w0 fun v w' => v = .bool D.dn ∧ Ext No w0 w' := by
  have hP : w0.heap[m]? = some (Blk.row 79 (dvV D pb cb pc cc gm)).toObj := hZ.get (k := 0) rfl
  have hok := hz.ok
  have o1 := hok.sz
  have o2 := hok.len
  have o3 := hok.cnt
  have o4 := hok.max
  have o5 : D.cnt ≤ D.cnt * D.sz := Nat.le_mul_of_pos_right _ o1
  have o6 := hz.ab.le
  have o7 : D.sz ≤ D.cnt * D.sz := Nat.le_mul_of_pos_left _ o3
  refine C_of Try.func25 rfl rfl rfl fun κ hret hnorm => ?_
  have hm := Mem.start w0
  refine HW_seq rfl ?_
  refine HW_text (.pure 0 .done) (by kernel_rfl) ?_
  refine rw_p rfl rfl (y_assign rfl) ?_
  refine rw_done ?_
  refine gn_sq ?_
  refine HW_seq rfl ?_
  refine HW_text (.pure 0 (.pure 1 (.pure 2 (.pure 3 (.pure 4 (.pure 5 (.pure 6 (.pure 7 (.pure 8 .done))))))))) (by kernel_rfl) ?_
  refine rw_p rfl rfl (y_move rfl) ?_
  refine rw_p rfl rfl (y_pnnil rfl rfl pb30) ?_
  refine rw_p rfl rfl (y_move rfl) ?_
  refine rw_p rfl rfl (y_move rfl) ?_
  refine rw_p rfl rfl (y_nil rfl) ?_
  refine rw_p rfl rfl (y_fieldAddr rfl fo79_5) ?_
  refine rw_p rfl rfl (y_load rfl sc4 (nowT ((hm.to.same _ (Array.getElem?_eq_some_iff.1 hP).1 id).trans hP)) rfl) ?_
  refine rw_p rfl rfl (y_pickT rfl rfl) ?_
  refine rw_p rfl rfl (y_assign rfl) ?_
  refine rw_done ?_
  refine gn_sq ?_
  refine HW_ret rfl ?_
  refine toR (fin hret rfl (.tmp rfl .nil) .one ?_)
  exact ⟨by simp, hm.to⟩

theorem d_downN (w0 : World) : C Try.prog 25 [.pointer none] w0 fun v w' => v = .bool false ∧ Ext No w0 w' := by
  refine C_of Try.func25 rfl rfl rfl fun κ hret hnorm => ?_
  have hm := Mem.start w0
  refine HW_seq rfl ?_
  refine HW_text (.pure 0 .done) (by kernel_rfl) ?_
  refine rw_p rfl rfl (y_assign rfl) ?_
  refine rw_done ?_
  refine gn_sq ?_
  refine HW_seq rfl ?_
  refine HW_text (.pure 0 (.pure 1 (.pure 2 (.pure 3 (.pure 4 (.pure 5 (.pure 6 (.pure 7 (.pure 8 .done))))))))) (by kernel_rfl) ?_
  refine rw_p rfl rfl (y_move rfl) ?_
  refine rw_p rfl rfl (y_pnnil rfl rfl pb30) ?_
  refine rw_p rfl rfl (y_move rfl) ?_
  refine rw_gf rfl rfl (by decide) rfl ?_
  refine rw_gf rfl rfl (by decide) rfl ?_
  refine rw_gf rfl rfl (by decide) rfl ?_
  refine rw_gf rfl rfl (by decide) rfl ?_
  refine rw_p rfl rfl (y_pickF rfl rfl) ?_
  refine rw_p rfl rfl (y_assign rfl) ?_
  refine rw_done ?_
  refine gn_sq ?_
  refine HW_ret rfl ?_
  refine toR (fin hret rfl (.tmp rfl .nil) .one ?_)
  exact ⟨rfl, hm.to⟩

theorem d_stats (D : Pl.Dv) (m : Nat) (pb : Option Addr) (cb gb : Nat) (bb : Blk) (pc : Option Addr) (cc gc : Nat) (bc : Blk) (gm : Nat) (es : List (Int × Int × Nat)) (ck : Nat) (cs : List PdV) (B : List (Nat × Blk)) (w0 : World) (hZ : OwnZ w0 ((m, .row 79 (dvV D pb cb pc cc gm)) :: (gb, bb) :: (gc, bc) :: (gm, mpB es ck) :: B)) (hz : DvZ 79 83 5 D m pb cb gb bb pc cc gc bc gm es cs B) : C Try.prog 22 [.pointer (some ⟨m, 0, none⟩)] w0 fun v w' => v = .agg ⟨[.int .i64 D.sW, .int .i64 D.sF, .int .i64 D.sC, .int .i64 D.sH, .int .i64 D.sM]⟩ ∧ Ext No w0 w' := by
  have hP : w0.heap[m]? = some (Blk.row 79 (dvV D pb cb pc cc gm)).toObj := hZ.get (k := 0) rfl
  have hok := hz.ok
  have o1 := hok.sz
  have o2 := hok.len
  have o3 := hok.cnt
  have o4 := hok.max
  have o5 : D.cnt ≤ D.cnt * D.sz := Nat.le_mul_of_pos_right _ o1
  have o6 := hz.ab.le
  have o7 : D.sz ≤ D.cnt * D.sz := Nat.le_mul_of_pos_left _ o3
  refine C_of Try.func22 rfl rfl rfl fun κ hret hnorm => ?_
  have hm := Mem.start w0
  refine HW_seq rfl ?_
  refine HW_text (.act 0 .done) (by kernel_rfl) ?_
  refine a_alloc rfl rfl z55 hm trivial fun m1 w hg_m1 hm hh => ?_
  refine rw_done ?_
  refine gn_sq ?_
  refine HW_seq rfl ?_
  refine HW_seq rfl ?_
  refine HW_text (.pure 0 (.pure 1 .done)) (by kernel_rfl) ?_
  refine rw_p rfl rfl (y_move rfl) ?_
  refine rw_p rfl rfl (y_pnil rfl rfl pb30) ?_
  refine rw_done ?_
  refine gn_sq ?_
  refine HW_condF rfl rfl rfl ?_
  refine HW_skip rfl ?_
  refine gn_sq ?_
  refine HW_seq rfl ?_
  refine HW_text (.pure 0 (.pure 1 (.pure 2 (.pure 3 (.act 4 .done))))) (by kernel_rfl) ?_
  refine rw_p rfl rfl (y_move rfl) ?_
  refine rw_p rfl rfl (y_nil rfl) ?_
  refine rw_p rfl rfl (y_fieldAddr rfl fo79_2) ?_
  refine rw_p rfl rfl (y_loadA (s := 5) (vs := [_, _, _, _, _]) rfl ag55 (nowT ((hm.to.same _ (Array.getElem?_eq_some_iff.1 hP).1 id).trans hP)) rfl) ?_
  refine a_store rfl rfl rfl rfl sz55 rfl hm 0 rfl rfl fun w hm => ?_
  refine rw_done ?_
  refine gn_sq ?_
  refine HW_ret rfl ?_
  refine toR (fin hret rfl (.cell rfl (run_loadVar_a (vs := [_, _, _, _, _]) ag55 (hm.get (k := 0) rfl) rfl) .nil) .one ?_)
  exact ⟨rfl, hm.to⟩

theorem d_statsN (w0 : World) : C Try.prog 22 [.pointer none] w0 fun v w' => v = .agg ⟨[.int .i64 0, .int .i64 0, .int .i64 0, .int .i64 0, .int .i64 0]⟩ ∧ Ext No w0 w' := by
  refine C_of Try.func22 rfl rfl rfl fun κ hret hnorm => ?_
  have hm := Mem.start w0
  refine HW_seq rfl ?_
  refine HW_text (.act 0 .done) (by kernel_rfl) ?_
  refine a_alloc rfl rfl z55 hm trivial fun m1 w hg_m1 hm hh => ?_
  refine rw_done ?_
  refine gn_sq ?_
  refine HW_seq rfl ?_
  refine HW_seq rfl ?_
  refine HW_text (.pure 0 (.pure 1 .done)) (by kernel_rfl) ?_
  refine rw_p rfl rfl (y_move rfl) ?_
  refine rw_p rfl rfl (y_pnil rfl rfl pb30) ?_
  refine rw_done ?_
  refine gn_sq ?_
  refine HW_condT rfl rfl rfl ?_
  refine HW_seq rfl ?_
  refine HW_text (.pure 0 (.act 1 .done)) (by kernel_rfl) ?_
  refine rw_p rfl rfl (y_build (cs := [_, _, _, _, _]) z55 ft55 rfl rfl rfl rfl rfl) ?_
  refine a_store rfl rfl rfl rfl sz55 rfl hm 0 rfl rfl fun w hm => ?_
  refine rw_done ?_
  refine gn_sq ?_
  refine HW_ret rfl ?_
  refine gr_sq ?_
  refine toR (fin hret rfl (.cell rfl (run_loadVar_a (vs := [_, _, _, _, _]) ag55 (hm.get (k := 0) rfl) rfl) .nil) .one ?_)
  exact ⟨rfl, hm.to⟩

theorem d_disk (D : Pl.Dv) (m : Nat) (pb : Option Addr) (cb gb : Nat) (bb : Blk) (pc : Option Addr) (cc gc : Nat) (bc : Blk) (gm : Nat) (es : List (Int × Int × Nat)) (ck : Nat) (cs : List PdV) (B : List (Nat × Blk)) (w0 : World) (hZ : OwnZ w0 ((m, .row 79 (dvV D pb cb pc cc gm)) :: (gb, bb) :: (gc, bc) :: (gm, mpB es ck) :: B)) (hz : DvZ 79 83 5 D m pb cb gb bb pc cc gc bc gm es cs B) : C Try.prog 23 [.pointer (some ⟨m, 0, none⟩)] w0 fun v w' => ∃ q c g b, v = .slice q D.dk.length c ∧ Acc 5 1 q (D.dk).length c ((D.dk).flatMap encB) g b ∧ Mem w0 w' No [(g, b)] := by
  have hP : w0.heap[m]? = some (Blk.row 79 (dvV D pb cb pc cc gm)).toObj := hZ.get (k := 0) rfl
  have hok := hz.ok
  have o1 := hok.sz
  have o2 := hok.len
  have o3 := hok.cnt
  have o4 := hok.max
  have o5 : D.cnt ≤ D.cnt * D.sz := Nat.le_mul_of_pos_right _ o1
  have o6 := hz.ab.le
  have o7 : D.sz ≤ D.cnt * D.sz := Nat.le_mul_of_pos_left _ o3
  have hB := hz.ab.rdO hZ (by simp)
  refine C_of Try.func23 rfl rfl rfl fun κ hret hnorm => ?_
  have hm := Mem.start w0
  refine HW_seq rfl ?_
  refine HW_text (.pure 0 .done) (by kernel_rfl) ?_
  refine rw_p rfl rfl (y_assign rfl) ?_
  refine rw_done ?_
  refine gn_sq ?_
  refine HW_seq rfl ?_
  refine HW_seq rfl ?_
  refine HW_text (.pure 0 (.pure 1 .done)) (by kernel_rfl) ?_
  refine rw_p rfl rfl (y_move rfl) ?_
  refine rw_p rfl rfl (y_pnil rfl rfl pb30) ?_
  refine rw_done ?_
  refine gn_sq ?_
  refine HW_condF rfl rfl rfl ?_
  refine HW_skip rfl ?_
  refine gn_sq ?_
  refine HW_seq rfl ?_
  refine HW_text (.pure 0 (.pure 1 (.pure 2 (.pure 3 (.pure 4 (.act 5 (.pure 6 .done))))))) (by kernel_rfl) ?_
  refine rw_p rfl rfl (y_move rfl) ?_
  refine rw_p rfl rfl (y_nil rfl) ?_
  refine rw_p rfl rfl (y_fieldAddr rfl fo79_0) ?_
  refine rw_p rfl rfl (y_fieldAddr rfl fo75_1) ?_
  refine rw_p rfl rfl (y_load rfl sc27 (nowT ((hm.to.same _ (Array.getElem?_eq_some_iff.1 hP).1 id).trans hP)) rfl) ?_
  refine a_call rfl rfl rfl go35 (clone_b pb cb D.dk _ (hB.ext0 hm.to) (by omega)) fun v w hR => ?_
  obtain ⟨p_s, cap_s, g_s, b_s, rfl, ha_s, hmc⟩ := hR
  refine ⟨trivial, ?_⟩
  have hg_s : b_s.real = true → _ := fun hr => (hmc.fresh _ List.mem_cons_self hr).resolve_left id
  replace hm := hm.callN hmc
  refine rw_p rfl rfl (y_assign rfl) ?_
  refine rw_done ?_
  refine gn_sq ?_
  refine HW_ret rfl ?_
  refine toR (fin hret rfl (.tmp rfl .nil) .one ?_)
  exact ⟨p_s, cap_s, g_s, b_s, rfl, ha_s, (hm.pick [0] rfl)⟩

theorem d_diskN (w0 : World) : C Try.prog 23 [.pointer none] w0 fun v w' => v = .slice none 0 0 ∧ Ext No w0 w' := by
  refine C_of Try.func23 rfl rfl rfl fun κ hret hnorm => ?_
  have hm := Mem.start w0
  refine HW_seq rfl ?_
  refine HW_text (.pure 0 .done) (by kernel_rfl) ?_
  refine rw_p rfl rfl (y_assign rfl) ?_
  refine rw_done ?_
  refine gn_sq ?_
  refine HW_seq rfl ?_
  refine HW_seq rfl ?_
  refine HW_text (.pure 0 (.pure 1 .done)) (by kernel_rfl) ?_
  refine rw_p rfl rfl (y_move rfl) ?_
  refine rw_p rfl rfl (y_pnil rfl rfl pb30) ?_
  refine rw_done ?_
  refine gn_sq ?_
  refine HW_condT rfl rfl rfl ?_
  refine HW_seq rfl ?_
  refine HW_text (.pure 0 .done) (by kernel_rfl) ?_
  refine rw_p rfl rfl (y_assign rfl) ?_
  refine rw_done ?_
  refine gn_sq ?_
  refine HW_ret rfl ?_
  refine gr_sq ?_
  refine toR (fin hret rfl (.tmp rfl .nil) .one ?_)
  exact ⟨rfl, hm.to⟩

set_option maxHeartbeats 400000 in
theorem d_read (D : Pl.Dv) (m : Nat) (pb : Option Addr) (cb gb : Nat) (bb : Blk) (pc : Option Addr) (cc gc : Nat) (bc : Blk) (gm : Nat) (es : List (Int × Int × Nat)) (ck : Nat) (cs : List PdV) (B : List (Nat × Blk)) (w0 : World) (hZ : OwnZ w0 ((m, .row 79 (dvV D pb cb pc cc gm)) :: (gb, bb) :: (gc, bc) :: (gm, mpB es ck) :: B)) (hz : DvZ 79 83 5 D m pb cb gb bb pc cc gc bc gm es cs B) (i : Int) : C Try.prog 42 [.pointer (some ⟨m, 0, none⟩), .int .i64 i] w0 fun v w' => ∃ q c g b, v = .tuple ⟨[.slice q (if Pl.codeAt D i = 0 then Pl.rdS D i else []).length c, .int .i64 (Pl.codeAt D i)]⟩ ∧ Acc 5 1 q ((if Pl.codeAt D i = 0 then Pl.rdS D i else [])).length c (((if Pl.codeAt D i = 0 then Pl.rdS D i else [])).flatMap encB) g b ∧ Mem w0 w' No [(g, b)] := by
  have hP : w0.heap[m]? = some (Blk.row 79 (dvV D pb cb pc cc gm)).toObj := hZ.get (k := 0) rfl
  have hok := hz.ok
  have o1 := hok.sz
  have o2 := hok.len
  have o3 := hok.cnt
  have o4 := hok.max
  have o5 : D.cnt ≤ D.cnt * D.sz := Nat.le_mul_of_pos_right _ o1
  have o6 := hz.ab.le
  have o7 : D.sz ≤ D.cnt * D.sz := Nat.le_mul_of_pos_left _ o3
  have hB := hz.ab.rdO hZ (by simp)
  have hC := hz.ac.rdO hZ (by simp)
  have hM := hZ.get (k := 3) rfl
  have hCl := wr_len hz.cw
  refine C_of Try.func42 rfl rfl rfl fun κ hret hnorm => ?_
  have hm := Mem.start w0
  refine HW_seq rfl ?_
  refine HW_text (.pure 0 (.pure 1 .done)) (by kernel_rfl) ?_
  refine rw_p rfl rfl (y_assign rfl) ?_
  refine rw_p rfl rfl (y_assign rfl) ?_
  refine rw_done ?_
  refine gn_sq ?_
  refine HW_seq rfl ?_
  refine HW_seq rfl ?_
  refine HW_text (.pure 0 (.pure 1 (.act 2 (.pure 3 .done)))) (by kernel_rfl) ?_
  refine rw_p rfl rfl (y_move rfl) ?_
  refine rw_p rfl rfl (y_move rfl) ?_
  refine a_call rfl rfl rfl go34 (d_check D m pb cb gb bb pc cc gc bc gm es ck cs B _ (hZ.ext hm.to) hz i) fun v w hR => ?_
  obtain ⟨rfl, hE⟩ := hR
  refine ⟨trivial, ?_⟩
  replace hm := hm.ext hE
  refine rw_p rfl rfl (y_assign rfl) ?_
  refine rw_done ?_
  refine gn_sq ?_
  refine HW_seq rfl ?_
  refine HW_text (.pure 0 (.pure 1 .done)) (by kernel_rfl) ?_
  refine rw_p rfl rfl (y_move rfl) ?_
  refine rw_p rfl rfl (y_ne rfl rfl) ?_
  refine rw_done ?_
  refine gn_sq ?_
  refine HW_cond rfl rfl (fun hc0 => ?_) (fun hc0 => ?_)
  ·
    simp only [decide_eq_true_eq] at hc0
    have hrs : (if Pl.codeAt D i = 0 then Pl.rdS D i else []) = [] := if_neg hc0
    refine HW_seq rfl ?_
    refine HW_text (.pure 0 (.pure 1 (.pure 2 .done))) (by kernel_rfl) ?_
    refine rw_p rfl rfl (y_move rfl) ?_
    refine rw_p rfl rfl (y_assign rfl) ?_
    refine rw_p rfl rfl (y_assign rfl) ?_
    refine rw_done ?_
    refine gn_sq ?_
    refine HW_ret rfl ?_
    refine gr_sq ?_
    refine toR (fin hret rfl (.tmp rfl (.tmp rfl .nil)) .more ?_)
    exact ⟨none, 0, 0, .gap, by rw [hrs]; rfl, by rw [hrs]; exact .nil _ _ _ _, (hm.drop (List.nil_sublist _)).gapIn⟩
  ·
    simp only [decide_eq_false_iff_not, Decidable.not_not] at hc0
    have hrs : (if Pl.codeAt D i = 0 then Pl.rdS D i else []) = Pl.rdS D i := if_pos hc0
    obtain ⟨_, hi0, hi1⟩ := code0 hc0
    obtain ⟨ii, rfl⟩ : ∃ ii : Nat, i = ii := ⟨i.toNat, by omega⟩
    have hsl := Pl.sector_last (cnt := D.cnt) (i := ii) (by omega) hok.len hok.ca
    have hrd : Pl.rdS D (ii : Int) = ((D.ca.foldl (Pl.putS D.sz) D.dk).drop (ii * D.sz)).take D.sz := rfl
    refine HW_skip rfl ?_
    refine gn_sq ?_
    refine HW_seq rfl ?_
    refine HW_seq rfl ?_
    refine HW_text (.pure 0 (.pure 1 (.pure 2 (.pure 3 (.pure 4 (.pure 5 (.pure 6 (.pure 7 (.pure 8 (.pure 9 (.pure 10 .done))))))))))) (by kernel_rfl) ?_
    refine rw_p rfl rfl (y_move rfl) ?_
    refine rw_p rfl rfl (y_nil rfl) ?_
    refine rw_p rfl rfl (y_fieldAddr rfl fo79_4) ?_
    refine rw_p rfl rfl (y_load rfl sc77 (nowT ((hm.to.same _ (Array.getElem?_eq_some_iff.1 hP).1 id).trans hP)) rfl) ?_
    refine rw_p rfl rfl (y_move rfl) ?_
    refine rw_p rfl rfl (y_lookup rfl rfl mi77 (nowT ((hm.to.same _ (Array.getElem?_eq_some_iff.1 hM).1 id).trans hM))) ?_
    refine rw_p rfl rfl (y_move rfl) ?_
    refine rw_p rfl rfl (y_extract rfl rfl) ?_
    refine rw_p rfl rfl (y_extract rfl rfl) ?_
    refine rw_p rfl rfl (y_assign rfl) ?_
    refine rw_p rfl rfl (y_assign rfl) ?_
    refine rw_done ?_
    refine gn_sq ?_
    refine HW_seq rfl ?_
    refine HW_text (.pure 0 .done) (by kernel_rfl) ?_
    refine rw_p rfl rfl (y_move rfl) ?_
    refine rw_done ?_
    refine gn_sq ?_
    refine HW_cond rfl rfl (fun hc1 => ?_) (fun hc1 => ?_)
    ·
      obtain ⟨k, hk⟩ := Option.isSome_iff_exists.1 hc1
      obtain ⟨c, hk0, hkc, hks, hkl⟩ := hsl.1 k (by rw [← hz.mp]; exact hk)
      obtain ⟨kn, rfl⟩ : ∃ kn : Nat, k = kn := ⟨k.toNat, by omega⟩
      obtain ⟨x, hx⟩ : ∃ y_, cs[kn]? = some y_ := ⟨_, List.getElem?_eq_getElem (by omega)⟩
      obtain ⟨b2, o8, hq⟩ := hC.atI encP_len (by decide) hx
      have hxc := wr_get hz.cw hx
      rw [Int.toNat_natCast, hxc] at hkc
      have hcb2 : x.d.bs = c.2 := congrArg Prod.snd (Option.some.inj hkc)
      have hxl : x.d.bs.length = D.sz := by rw [hcb2]; exact (hok.ca c (by have := List.mem_of_getElem? hxc; rw [Option.some.inj hkc] at this; exact this)).2
      refine HW_seq rfl ?_
      refine HW_text (.pure 0 (.pure 1 (.pure 2 (.pure 3 (.pure 4 (.pure 5 (.pure 6 (.pure 7 (.act 8 (.pure 9 (.pure 10 .done))))))))))) (by kernel_rfl) ?_
      refine rw_p rfl rfl (y_move rfl) ?_
      refine rw_p rfl rfl (y_nil rfl) ?_
      refine rw_p rfl rfl (y_fieldAddr rfl fo79_3) ?_
      refine rw_p rfl rfl (y_load rfl sc76 (nowT ((hm.to.same _ (Array.getElem?_eq_some_iff.1 hP).1 id).trans hP)) rfl) ?_
      refine rw_p rfl rfl (y_v (y_move rfl) (show _ = Value.int .i64 (kn : Int) by rw [hk]; rfl)) ?_
      refine rw_p rfl rfl (y_index rfl rfl sl76 hq (by omega) (by omega)) ?_
      refine rw_p rfl rfl (y_fieldAddr rfl fo83_1) ?_
      refine rw_p rfl rfl (y_elS rfl sc27 (hq ▸ hC.ext0 hm.to).nt encP_len hx rfl) ?_
      refine a_call rfl rfl rfl go35 (clone_b x.d.p x.d.cap x.d.bs _ (((hz.hd x (List.mem_of_getElem? hx)).mono (fun e he => by simp [he])).rdO (hZ.ext hm.to)) (by omega)) fun v w hR => ?_
      obtain ⟨p_s, cap_s, g_s, b_s, rfl, ha_s, hmc⟩ := hR
      refine ⟨trivial, ?_⟩
      have hg_s : b_s.real = true → _ := fun hr => (hmc.fresh _ List.mem_cons_self hr).resolve_left id
      replace hm := hm.callN hmc
      refine rw_p rfl rfl (y_assign rfl) ?_
      refine rw_p rfl rfl (y_assign rfl) ?_
      refine rw_done ?_
      refine gn_sq ?_
      refine HW_ret rfl ?_
      refine gr_sq ?_
      refine toR (fin hret rfl (.tmp rfl (.tmp rfl .nil)) .more ?_)
      exact ⟨p_s, cap_s, g_s, b_s, by rw [hrs, hrd, hks, hc0, hcb2], by rw [hrs, hrd, hks, ← hcb2]; exact ha_s, (hm.pick [0] rfl)⟩
    ·
      have hkn : Pl.lastIx D.ca ii = none := by rw [← hz.mp]; simpa using hc1
      have hks := hsl.2 hkn
      have hsec := Pl.sec_le (sz := D.sz) (cnt := D.cnt) (i := ii) (by omega)
      have hpl : ((D.dk.drop (ii * D.sz)).take D.sz).length = D.sz := by rw [List.length_take, List.length_drop]; omega
      refine HW_skip rfl ?_
      refine gn_sq ?_
      refine HW_seq rfl ?_
      refine HW_text (.pure 0 (.pure 1 (.pure 2 (.pure 3 (.act 4 (.act 5 (.pure 6 (.pure 7 .done)))))))) (by kernel_rfl) ?_
      refine rw_p rfl rfl (y_move rfl) ?_
      refine rw_p rfl rfl (y_nil rfl) ?_
      refine rw_p rfl rfl (y_fieldAddr rfl fo79_0) ?_
      refine rw_p rfl rfl (y_move rfl) ?_
      refine a_call rfl rfl rfl go54 (d_sector D m pb cb pc _ cc gm _ _ ((hm.to.same _ (Array.getElem?_eq_some_iff.1 hP).1 id).trans hP) o4 (by omega) hz.ab.spot o1 ii (by omega)) fun v w hR => ?_
      obtain ⟨rfl, hE⟩ := hR
      refine ⟨trivial, ?_⟩
      replace hm := hm.ext hE
      refine a_call rfl rfl rfl go35 (C.eqv (clone_b (slp pb cb (ii * D.sz) 1) (cb - ii * D.sz) ((D.dk.drop (ii * D.sz)).take D.sz) _ ((hB.ext0 hm.to).sub o6) (by omega)) (by rw [hpl])) fun v w hR => ?_
      obtain ⟨p_s, cap_s, g_s, b_s, rfl, ha_s, hmc⟩ := hR
      refine ⟨trivial, ?_⟩
      have hg_s : b_s.real = true → _ := fun hr => (hmc.fresh _ List.mem_cons_self hr).resolve_left id
      replace hm := hm.callN hmc
      refine rw_p rfl rfl (y_assign rfl) ?_
      refine rw_p rfl rfl (y_assign rfl) ?_
      refine rw_done ?_
      refine gn_sq ?_
      refine HW_ret rfl ?_
      refine toR (fin hret rfl (.tmp rfl (.tmp rfl .nil)) .more ?_)
      exact ⟨p_s, cap_s, g_s, b_s, by rw [hrs, hrd, hks, hc0], by rw [hrs, hrd, hks]; exact ha_s, (hm.pick [0] rfl)⟩

theorem d_readN (i : Int) (w0 : World) : C Try.prog 42 [.pointer none, .int .i64 i] w0 fun v w' => v = .tuple ⟨[.slice none 0 0, .int .i64 1]⟩ ∧ Ext No w0 w' := by
  refine C_of Try.func42 rfl rfl rfl fun κ hret hnorm => ?_
  have hm := Mem.start w0
  refine HW_seq rfl ?_
  refine HW_text (.pure 0 (.pure 1 .done)) (by kernel_rfl) ?_
  refine rw_p rfl rfl (y_assign rfl) ?_
  refine rw_p rfl rfl (y_assign rfl) ?_
  refine rw_done ?_
  refine gn_sq ?_
  refine HW_seq rfl ?_
  refine HW_seq rfl ?_
  refine HW_text (.pure 0 (.pure 1 (.act 2 (.pure 3 .done)))) (by kernel_rfl) ?_
  refine rw_p rfl rfl (y_move rfl) ?_
  refine rw_p rfl rfl (y_move rfl) ?_
  refine a_call rfl rfl rfl go34 (d_checkN i _) fun v w hR => ?_
  obtain ⟨rfl, hE⟩ := hR
  refine ⟨trivial, ?_⟩
  replace hm := hm.ext hE
  refine rw_p rfl rfl (y_assign rfl) ?_
  refine rw_done ?_
  refine gn_sq ?_
  refine HW_seq rfl ?_
  refine HW_text (.pure 0 (.pure 1 .done)) (by kernel_rfl) ?_
  refine rw_p rfl rfl (y_move rfl) ?_
  refine rw_p rfl rfl (y_as (c := true) (y_ne rfl rfl) (by decide)) ?_
  refine rw_done ?_
  refine gn_sq ?_
  refine HW_condT rfl rfl rfl ?_
  refine HW_seq rfl ?_
  refine HW_text (.pure 0 (.pure 1 (.pure 2 .done))) (by kernel_rfl) ?_
  refine rw_p rfl rfl (y_move rfl) ?_
  refine rw_p rfl rfl (y_assign rfl) ?_
  refine rw_p rfl rfl (y_assign rfl) ?_
  refine rw_done ?_
  refine gn_sq ?_
  refine HW_ret rfl ?_
  refine gr_sq ?_
  refine toR (fin hret rfl (.tmp rfl (.tmp rfl .nil)) .more ?_)
  exact ⟨rfl, hm.to⟩

set_option maxHeartbeats 800000 in
theorem d_persist (D : Pl.Dv) (m : Nat) (pb : Option Addr) (cb gb : Nat) (bb : Blk) (pc : Option Addr) (cc gc : Nat) (bc : Blk) (gm : Nat) (es : List (Int × Int × Nat)) (ck : Nat) (cs : List PdV) (B : List (Nat × Blk)) (w0 : World) (hZ : OwnZ w0 ((m, .row 79 (dvV D pb cb pc cc gm)) :: (gb, bb) :: (gc, bc) :: (gm, mpB es ck) :: B)) (hz : DvZ 79 83 5 D m pb cb gb bb pc cc gc bc gm es cs B) (hcl : D.ca.length ≤ 2000000000) (keep : Nat → Bool) (fi : FuncId) (l2 : List Value) (hg : isGo Try.prog fi = true) (hf : ∀ (k : Nat) w1, w1.heap[m]? = some (Blk.row 79 (dvV D pb cb pc cc gm)).toObj → Ext (Mn (reals ((m, .row 79 (dvV D pb cb pc cc gm)) :: (gb, bb) :: (gc, bc) :: (gm, mpB es ck) :: B))) w0 w1 → C Try.prog fi (.int .i64 k :: l2) w1 fun v w2 => v = .bool (keep k) ∧ Ext No w1 w2) : C Try.prog 36 [.pointer (some ⟨m, 0, none⟩), .func (.func fi) #[] ⟨l2⟩] w0 fun v w' => v = .tuple ⟨[]⟩ ∧ ∃ bb', Mem w0 w' (Mn (reals ((m, .row 79 (dvV D pb cb pc cc gm)) :: (gb, bb) :: (gc, bc) :: (gm, mpB es ck) :: B))) ((m, .row 79 (dvV (Pl.persist D keep) pb cb none 0 gm)) :: (gb, bb') :: (0, .gap) :: (gm, mpB [] ck) :: B) ∧ DvZ 79 83 5 (Pl.persist D keep) m pb cb gb bb' none 0 0 .gap gm [] [] B := by
  have hP : w0.heap[m]? = some (Blk.row 79 (dvV D pb cb pc cc gm)).toObj := hZ.get (k := 0) rfl
  have hok := hz.ok
  have o1 := hok.sz
  have o2 := hok.len
  have o3 := hok.cnt
  have o4 := hok.max
  have o5 : D.cnt ≤ D.cnt * D.sz := Nat.le_mul_of_pos_right _ o1
  have o6 := hz.ab.le
  have o7 : D.sz ≤ D.cnt * D.sz := Nat.le_mul_of_pos_left _ o3
  have ha_b := hz.ab
  have ha_c := hz.ac
  have hCl := wr_len hz.cw
  have hpl : (Pl.persist D keep).dk.length = D.dk.length := Pl.pers_len hok.len hok.ca
  have hrow : dvV (Pl.persist D keep) pb cb none 0 gm = [.int .i64 (D.sz : Int), .slice pb D.dk.length cb, .int .i64 D.wr, .int .u64 D.kp, .int .i64 D.sW, .int .i64 D.sF, .int .i64 D.sC, .int .i64 D.sH, .int .i64 D.sM, .slice none 0 0, .map (some gm), .bool D.dn] := by unfold dvV; rw [hpl]; rfl
  refine C_of Try.func36 rfl rfl rfl fun κ hret hnorm => ?_
  have hm := hZ.start
  refine HW_seq rfl ?_
  refine HW_seq rfl ?_
  refine HW_text (.pure 0 (.pure 1 (.pure 2 (.pure 3 (.pure 4 (.pure 5 .done)))))) (by kernel_rfl) ?_
  refine rw_p rfl rfl (y_move rfl) ?_
  refine rw_p rfl rfl (y_nil rfl) ?_
  refine rw_p rfl rfl (y_fieldAddr rfl fo79_3) ?_
  refine rw_p rfl rfl (y_load rfl sc76 (hm.nt 0 rfl) rfl) ?_
  refine rw_p rfl rfl (y_len rfl rfl sl76) ?_
  refine rw_p rfl rfl (y_move rfl) ?_
  refine rw_done ?_
  refine gn_sq ?_
  refine HW_block rfl ?_
  refine HW_loopK (ι := Nat × Blk) rfl (ks := [0, 1, 9, 10]) (.cons rfl (.cons rfl (.cons rfl (.cons rfl .nil)))) (fun x => [(11, .int .i64 x.1)]) (fun x w => Mem w0 w (Mn (reals ((m, .row 79 (dvV D pb cb pc cc gm)) :: (gb, bb) :: (gc, bc) :: (gm, mpB es ck) :: B))) ((m, .row 79 (dvV D pb cb pc cc gm)) :: (gb, x.2) :: (gc, bc) :: (gm, mpB es ck) :: B) ∧ Acc 5 1 pb D.dk.length cb ((Pl.pers D.sz keep 0 D.dk (D.ca.take x.1)).flatMap encB) gb x.2 ∧ x.1 ≤ cs.length) (fun x => cs.length - x.1) (0, bb) (⟨hm, ha_b, Nat.zero_le _⟩) ⟨rfl, trivial⟩ (fun x w hM => ?_)
  obtain ⟨hm, ha_b, hk⟩ := hM
  refine HW_seq rfl ?_
  refine HW_text (.pure 0 .done) (by kernel_rfl) ?_
  refine rw_p rfl rfl (y_lt rfl rfl) ?_
  refine rw_done ?_
  refine gn_sq ?_
  refine HW_seq rfl ?_
  refine HW_cond rfl rfl (fun hc0 => ?_) (fun hc0 => ?_)
  ·
    simp only [decide_eq_true_eq] at hc0
    obtain ⟨c, hi⟩ : ∃ y_, cs[x.1]? = some y_ := ⟨_, List.getElem?_eq_getElem (by omega)⟩
    obtain ⟨b2, o2_, hq⟩ := (ha_c.rd hm 2 rfl).atI encP_len (by decide) hi
    have hcx := wr_get hz.cw hi
    have hcw := hok.ca _ (List.mem_of_getElem? hcx)
    have hfl : (Pl.pers D.sz keep 0 D.dk (D.ca.take x.1)).length = D.dk.length := Pl.pers_len hok.len fun d hd => hok.ca d (List.mem_of_mem_take hd)
    have hse : c.i * D.sz + D.sz ≤ D.cnt * D.sz := Pl.sec_le hcw.1
    have hcl2 : c.d.bs.length = D.sz := hcw.2
    have hci : c.i < D.cnt := hcw.1
    refine HW_skip rfl ?_
    refine gn_sq ?_
    refine HW_seq rfl ?_
    refine HW_block rfl ?_
    refine HW_seq rfl ?_
    refine HW_text (.pure 0 (.pure 1 (.pure 2 (.act 3 (.pure 4 (.act 5 .done)))))) (by kernel_rfl) ?_
    refine rw_p rfl rfl (y_move rfl) ?_
    refine rw_p rfl rfl (y_index rfl rfl sl76 hq (by omega) (by omega)) ?_
    refine rw_p rfl rfl (y_elA rfl ag83 (hq ▸ ha_c.rd hm 2 rfl).nt encP_len hi) ?_
    refine a_alloc rfl rfl z83 hm trivial fun m1 w hg_m1 hm hh => ?_
    refine rw_p rfl rfl (y_assign rfl) ?_
    refine a_store rfl rfl rfl rfl sz83 rfl hm 0 rfl rfl fun w hm => ?_
    refine rw_done ?_
    refine gn_sq ?_
    refine HW_seq rfl ?_
    refine HW_text (.pure 0 (.pure 1 (.act 2 .done))) (by kernel_rfl) ?_
    refine rw_p rfl rfl (y_move rfl) ?_
    refine rw_p rfl rfl (y_move rfl) ?_
    refine a_callV rfl rfl rfl rfl hg (hf x.1 _ (hm.get (k := 1) rfl) hm.to) fun v w hR => ?_
    obtain ⟨rfl, hE⟩ := hR
    refine ⟨trivial, ?_⟩
    replace hm := hm.ext hE
    refine rw_done ?_
    refine gn_sq ?_
    refine HW_cond rfl rfl (fun hc1 => ?_) (fun hc1 => ?_)
    ·
      refine HW_draw (.pure 0 (.pure 1 (.pure 2 (.pure 3 (.pure 4 (.pure 6 (.pure 7 (.act 5 (.cut (.act 8 .done)))))))))) No mix (by kernel_rfl) hm fun w hw hm0 hh => ?_
      have hm := hm0
      refine rw_p rfl rfl (y_move rfl) ?_
      refine rw_p rfl rfl (y_nil rfl) ?_
      refine rw_p rfl rfl (y_fieldAddr rfl fo79_0) ?_
      refine rw_p rfl rfl (y_fieldAddr rfl fo83_0) ?_
      refine rw_p rfl rfl (y_load rfl sc3 (hm0.nd 0 rfl id) rfl) ?_
      refine rw_p rfl rfl (y_fieldAddr rfl fo83_1) ?_
      refine rw_p rfl rfl (y_load rfl sc27 (hm0.nd 0 rfl id) rfl) ?_
      refine a_call rfl rfl rfl go54 (d_sector D m pb cb pc _ cc gm _ _ (hm.get (k := 1) rfl) o4 (by omega) hz.ab.spot o1 c.i hci) fun v w hR => ?_
      obtain ⟨rfl, hE⟩ := hR
      refine ⟨hh.ext hE, ?_⟩
      replace hm := hm.ext hE
      replace hh := hh.ext hE
      refine a_cut ?_
      refine a_copyL (o := c.i * D.sz) (src := (c.d.bs).flatMap encB) rfl rfl rfl rfl rfl sl27 (by omega) ((hz.hd c (List.mem_of_getElem? hi)).rd hm (by intro e he; simp [he, setB])) (by rw [lenB]; omega) (oneB _) ha_b hm 2 rfl fun b_b w ha_b hm => ?_
      replace ha_b := ha_b.to (upds_put' (by rw [hfl]; omega))
      refine rw_done ?_
      refine gn_bl ?_
      refine gn_sq ?_
      refine HW_text (.pure 0 (.pure 1 .done)) (by kernel_rfl) ?_
      refine rw_p rfl rfl (y_add rfl rfl (i64w (by omega) (by omega))) ?_
      refine rw_p rfl rfl (y_move rfl) ?_
      refine rw_done ?_
      first | refine next (x.1 + 1, b_b) (by simp only; omega) ⟨(hm.pickT [1, 2, 3, 4] 5 rfl), ha_b.to ?_, by simp only; omega⟩ ⟨nx x.1, rfl, rfl, rfl, rfl, trivial⟩ | refine next (x.1 + 1, x.2) (by simp only; omega) ⟨(hm.pickT [1, 2, 3, 4] 5 rfl), ha_b.to ?_, by simp only; omega⟩ ⟨nx x.1, rfl, rfl, rfl, rfl, trivial⟩
      rw [Pl.pers_next hcx, hc1]; rfl
    ·
      refine HW_skip rfl ?_
      refine gn_bl ?_
      refine gn_sq ?_
      refine HW_text (.pure 0 (.pure 1 .done)) (by kernel_rfl) ?_
      refine rw_p rfl rfl (y_add rfl rfl (i64w (by omega) (by omega))) ?_
      refine rw_p rfl rfl (y_move rfl) ?_
      refine rw_done ?_
      first | refine next (x.1 + 1, b_b) (by simp only; omega) ⟨(hm.pickT [1, 2, 3, 4] 5 rfl), ha_b.to ?_, by simp only; omega⟩ ⟨nx x.1, rfl, rfl, rfl, rfl, trivial⟩ | refine next (x.1 + 1, x.2) (by simp only; omega) ⟨(hm.pickT [1, 2, 3, 4] 5 rfl), ha_b.to ?_, by simp only; omega⟩ ⟨nx x.1, rfl, rfl, rfl, rfl, trivial⟩
      rw [Pl.pers_next hcx, hc1]; rfl
  ·
    simp only [decide_eq_false_iff_not] at hc0
    rw [List.take_of_length_le (by omega)] at ha_b
    refine HW_exit rfl ?_
    refine gx_sq (gx_lp ?_)
    refine gx_here ?_
    refine gn_sq ?_
    refine HW_seq rfl ?_
    refine HW_text (.pure 0 (.pure 1 (.pure 2 (.act 3 .done)))) (by kernel_rfl) ?_
    refine rw_p rfl rfl (y_move rfl) ?_
    refine rw_p rfl rfl (y_nil rfl) ?_
    refine rw_p rfl rfl (y_fieldAddr rfl fo79_3) ?_
    refine a_store rfl rfl rfl rfl sz76 rfl hm 0 rfl rfl fun w hm => ?_
    refine rw_done ?_
    refine gn_sq ?_
    refine HW_text (.pure 0 (.pure 1 (.pure 2 (.pure 3 (.act 4 .done))))) (by kernel_rfl) ?_
    refine rw_p rfl rfl (y_move rfl) ?_
    refine rw_p rfl rfl (y_nil rfl) ?_
    refine rw_p rfl rfl (y_fieldAddr rfl fo79_4) ?_
    refine rw_p rfl rfl (y_load rfl sc77 (hm.nt 0 rfl) rfl) ?_
    refine a_clearMapN rfl rfl mi77 hm 3 rfl fun w hm => ?_
    refine rw_done ?_
    refine toN (fin hnorm rfl .nil .nil ?_)
    exact ⟨rfl, x.2, by rw [hrow]; exact (hm.gapIn.pickT [1, 2, 0, 4] 5 rfl), ⟨by rw [hpl]; exact ha_b, .nil _ _ _ _, rfl, by simp, fun k => rfl, Pl.ok_persist hok keep⟩⟩

theorem gWt : isGo Try.prog 37 = true := by kernel_rfl

theorem d_keep (m1 T1 : Nat) (D : Pl.Dv) (m : Nat) (pb : Option Addr) (cb : Nat) (pc : Option Addr) (cc gm : Nat) (k : Nat) (w0 : World) (h1 : w0.heap[m1]? = some (Blk.row T1 [.pointer (some ⟨m, 0, none⟩)]).toObj) (hP : w0.heap[m]? = some (Blk.row 79 (dvV D pb cb pc cc gm)).toObj) : C Try.prog 37 [.int .i64 (k : Int), .pointer (some ⟨m1, 0, none⟩)] w0 fun v w' => v = .bool (Pl.keepB D.kp k) ∧ Ext No w0 w' := by
  refine C_of Try.func37 rfl rfl rfl fun κ hret hnorm => ?_
  have hm := Mem.start w0
  refine HW_seq rfl ?_
  refine HW_text (.pure 0 .done) (by kernel_rfl) ?_
  refine rw_p rfl rfl (y_assign rfl) ?_
  refine rw_done ?_
  refine gn_sq ?_
  refine HW_seq rfl ?_
  refine HW_text (.pure 0 (.pure 1 (.pure 2 (.pure 3 (.pure 4 (.pure 5 (.pure 6 (.pure 7 (.pure 8 (.pure 9 (.pure 10 .done))))))))))) (by kernel_rfl) ?_
  refine rw_p rfl rfl (y_load rfl sc30 (nowT ((hm.to.same _ (Array.getElem?_eq_some_iff.1 h1).1 id).trans h1)) rfl) ?_
  refine rw_p rfl rfl (y_nil rfl) ?_
  refine rw_p rfl rfl (y_fieldAddr rfl fo79_1) ?_
  refine rw_p rfl rfl (y_fieldAddr rfl fo73_1) ?_
  refine rw_p rfl rfl (y_load rfl sc35 (nowT ((hm.to.same _ (Array.getElem?_eq_some_iff.1 hP).1 id).trans hP)) rfl) ?_
  refine rw_p rfl rfl (y_move rfl) ?_
  refine rw_p rfl rfl (y_rem rfl rfl (by omega) rfl) ?_
  refine rw_p rfl rfl (y_shr rfl rfl (Int.tmod_nonneg _ (Int.natCast_nonneg _)) rfl) ?_
  refine rw_p rfl rfl (y_and_ rfl rfl rfl) ?_
  refine rw_p rfl rfl (y_eq rfl rfl) ?_
  refine rw_p rfl rfl (y_assign rfl) ?_
  refine rw_done ?_
  refine gn_sq ?_
  refine HW_ret rfl ?_
  refine toR (fin hret rfl (.tmp rfl .nil) .one ?_)
  exact ⟨rfl, hm.to⟩

theorem d_arm (D : Pl.Dv) (m : Nat) (pb : Option Addr) (cb gb : Nat) (bb : Blk) (pc : Option Addr) (cc gc : Nat) (bc : Blk) (gm : Nat) (es : List (Int × Int × Nat)) (ck : Nat) (cs : List PdV) (B : List (Nat × Blk)) (w0 : World) (hZ : OwnZ w0 ((m, .row 79 (dvV D pb cb pc cc gm)) :: (gb, bb) :: (gc, bc) :: (gm, mpB es ck) :: B)) (hz : DvZ 79 83 5 D m pb cb gb bb pc cc gc bc gm es cs B) (n k : Int) (hn : Pl.I64 n) (hk : 0 ≤ k ∧ k ≤ 18446744073709551615) : C Try.prog 12 [.pointer (some ⟨m, 0, none⟩), .int .i64 n, .int .u64 k] w0 fun v w' => v = .tuple ⟨[]⟩ ∧ ∃ Z', DevZ 79 83 5 (Pl.aDv D n k) m Z' ∧ Mem w0 w' (Mn (reals ((m, .row 79 (dvV D pb cb pc cc gm)) :: (gb, bb) :: (gc, bc) :: (gm, mpB es ck) :: B))) Z' := by
  have hP : w0.heap[m]? = some (Blk.row 79 (dvV D pb cb pc cc gm)).toObj := hZ.get (k := 0) rfl
  have hok := hz.ok
  have o1 := hok.sz
  have o2 := hok.len
  have o3 := hok.cnt
  have o4 := hok.max
  have o5 : D.cnt ≤ D.cnt * D.sz := Nat.le_mul_of_pos_right _ o1
  have o6 := hz.ab.le
  have o7 : D.sz ≤ D.cnt * D.sz := Nat.le_mul_of_pos_left _ o3
  have ha_b := hz.ab
  have ha_c := hz.ac
  have hCl := wr_len hz.cw
  refine C_of Try.func12 rfl rfl rfl fun κ hret hnorm => ?_
  have hm := hZ.start
  refine HW_seq rfl ?_
  refine HW_text (.pure 0 (.pure 1 .done)) (by kernel_rfl) ?_
  refine rw_p rfl rfl (y_move rfl) ?_
  refine rw_p rfl rfl (y_pnnil rfl rfl pb30) ?_
  refine rw_done ?_
  refine gn_sq ?_
  refine HW_condT rfl rfl rfl ?_
  refine HW_text (.pure 0 (.pure 1 (.pure 2 (.pure 3 (.pure 4 (.pure 5 (.pure 6 (.act 7 .done)))))))) (by kernel_rfl) ?_
  refine rw_p rfl rfl (y_move rfl) ?_
  refine rw_p rfl rfl (y_move rfl) ?_
  refine rw_p rfl rfl (y_max rfl rfl) ?_
  refine rw_p rfl rfl (y_move rfl) ?_
  refine rw_p rfl rfl (y_build (cs := [_, _]) z73 ft73 rfl rfl rfl rfl rfl) ?_
  refine rw_p rfl rfl (y_nil rfl) ?_
  refine rw_p rfl rfl (y_fieldAddr rfl fo79_1) ?_
  refine a_store rfl rfl rfl rfl sz73 rfl hm 0 rfl rfl fun w hm => ?_
  refine rw_done ?_
  refine toN (fin hnorm rfl .nil .nil ?_)
  exact ⟨rfl, _, (hz.as (D2 := Pl.aDv D n k) rfl rfl (Pl.ok_arm hok hn hk)).dev ck, (hm.pickT [0, 1, 2, 3] 4 rfl)⟩

end Go.Proofs.Ytkllojjpaelmhaa
