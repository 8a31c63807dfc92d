/- Contracts of functions of the program: what each returns. Conditions: the hypotheses of each theorem. -/
import Derived.Test.YthokcfkcamcapaaDev
set_option linter.unusedVariables false
set_option linter.unusedSimpArgs false
namespace Go.Proofs.Ythokcfkcamcapaa
open Go Go.Cx

theorem ag84 : aggS Try.prog 84 = some 2 := by kernel_rfl
theorem fo84_0 : fldO Try.prog 84 0 = some 0 := by kernel_rfl
theorem sz70 : szO Try.prog 70 = some 1 := by kernel_rfl
theorem sz84 : szO Try.prog 84 = some 2 := by kernel_rfl
theorem z84 : zer Try.prog 84 = some [.int .i64 0, .slice none 0 0] := by kernel_rfl

set_option maxHeartbeats 800000 in
theorem d_persist (D : Pl.Dv) (m : Nat) (pb : Option Addr) (cb gb : Nat) (bb : Blk) (pc : Option Addr) (cc gc : Nat) (bc : Blk) (gm : Nat) (es : List (Int × Int × Nat)) (ck : Nat) (cs : List PdV) (B : List (Nat × Blk)) (w0 : World) (hZ : OwnZ w0 ((m, .row 72 (dvV D pb cb pc cc gm)) :: (gb, bb) :: (gc, bc) :: (gm, mpB es ck) :: B)) (hz : DvZ 72 84 5 D m pb cb gb bb pc cc gc bc gm es cs B) (hcl : D.ca.length ≤ 2000000000) (keep : Nat → Bool) (fi : FuncId) (l2 : List Value) (hg : isGo Try.prog fi = true) (hf : ∀ (k : Nat) w1, w1.heap[m]? = some (Blk.row 72 (dvV D pb cb pc cc gm)).toObj → Ext (Mn (reals ((m, .row 72 (dvV D pb cb pc cc gm)) :: (gb, bb) :: (gc, bc) :: (gm, mpB es ck) :: B))) w0 w1 → C Try.prog fi (.int .i64 k :: l2) w1 fun v w2 => v = .bool (keep k) ∧ Ext No w1 w2) : C Try.prog 38 [.pointer (some ⟨m, 0, none⟩), .func (.func fi) #[] ⟨l2⟩] w0 fun v w' => v = .tuple ⟨[]⟩ ∧ ∃ bb', Mem w0 w' (Mn (reals ((m, .row 72 (dvV D pb cb pc cc gm)) :: (gb, bb) :: (gc, bc) :: (gm, mpB es ck) :: B))) ((m, .row 72 (dvV (Pl.persist D keep) pb cb none 0 gm)) :: (gb, bb') :: (0, .gap) :: (gm, mpB [] ck) :: B) ∧ DvZ 72 84 5 (Pl.persist D keep) m pb cb gb bb' none 0 0 .gap gm [] [] B := by
  have hP : w0.heap[m]? = some (Blk.row 72 (dvV D pb cb pc cc gm)).toObj := hZ.get (k := 0) rfl
  have hok := hz.ok
  have o1 := hok.sz
  have o2 := hok.len
  have o3 := hok.cnt
  have o4 := hok.max
  have o5 : D.cnt ≤ D.cnt * D.sz := Nat.le_mul_of_pos_right _ o1
  have o6 := hz.ab.le
  have o7 : D.sz ≤ D.cnt * D.sz := Nat.le_mul_of_pos_left _ o3
  have ha_b := hz.ab
  have ha_c := hz.ac
  have hCl := wr_len hz.cw
  have hpl : (Pl.persist D keep).dk.length = D.dk.length := Pl.pers_len hok.len hok.ca
  have hrow : dvV (Pl.persist D keep) pb cb none 0 gm = [.int .i64 (D.sz : Int), .slice pb D.dk.length cb, .int .i64 D.wr, .int .u64 D.kp, .int .i64 D.sW, .int .i64 D.sF, .int .i64 D.sC, .int .i64 D.sH, .int .i64 D.sM, .slice none 0 0, .map (some gm), .bool D.dn] := by unfold dvV; rw [hpl]; rfl
  refine C_of Try.func38 rfl rfl rfl fun κ hret hnorm => ?_
  have hm := hZ.start
  refine HW_seq rfl ?_
  refine HW_seq rfl ?_
  refine HW_text (.pure 0 (.pure 1 (.pure 2 (.pure 3 (.pure 4 (.pure 5 .done)))))) (by kernel_rfl) ?_
  refine rw_p rfl rfl (y_move rfl) ?_
  refine rw_p rfl rfl (y_nil rfl) ?_
  refine rw_p rfl rfl (y_fieldAddr rfl fo72_3) ?_
  refine rw_p rfl rfl (y_load rfl sc70 (hm.nt 0 rfl) rfl) ?_
  refine rw_p rfl rfl (y_len rfl rfl sl70) ?_
  refine rw_p rfl rfl (y_move rfl) ?_
  refine rw_done ?_
  refine gn_sq ?_
  refine HW_block rfl ?_
  refine HW_loopK (ι := Nat × Blk) rfl (ks := [0, 1, 9, 10]) (.cons rfl (.cons rfl (.cons rfl (.cons rfl .nil)))) (fun x => [(11, .int .i64 x.1)]) (fun x w => Mem w0 w (Mn (reals ((m, .row 72 (dvV D pb cb pc cc gm)) :: (gb, bb) :: (gc, bc) :: (gm, mpB es ck) :: B))) ((m, .row 72 (dvV D pb cb pc cc gm)) :: (gb, x.2) :: (gc, bc) :: (gm, mpB es ck) :: B) ∧ Acc 5 1 pb D.dk.length cb ((Pl.pers D.sz keep 0 D.dk (D.ca.take x.1)).flatMap encB) gb x.2 ∧ x.1 ≤ cs.length) (fun x => cs.length - x.1) (0, bb) (⟨hm, ha_b, Nat.zero_le _⟩) ⟨rfl, trivial⟩ (fun x w hM => ?_)
  obtain ⟨hm, ha_b, hk⟩ := hM
  refine HW_seq rfl ?_
  refine HW_text (.pure 0 .done) (by kernel_rfl) ?_
  refine rw_p rfl rfl (y_lt rfl rfl) ?_
  refine rw_done ?_
  refine gn_sq ?_
  refine HW_seq rfl ?_
  refine HW_cond rfl rfl (fun hc0 => ?_) (fun hc0 => ?_)
  ·
    simp only [decide_eq_true_eq] at hc0
    obtain ⟨c, hi⟩ : ∃ y_, cs[x.1]? = some y_ := ⟨_, List.getElem?_eq_getElem (by omega)⟩
    obtain ⟨b2, o2_, hq⟩ := (ha_c.rd hm 2 rfl).atI encP_len (by decide) hi
    have hcx := wr_get hz.cw hi
    have hcw := hok.ca _ (List.mem_of_getElem? hcx)
    have hfl : (Pl.pers D.sz keep 0 D.dk (D.ca.take x.1)).length = D.dk.length := Pl.pers_len hok.len fun d hd => hok.ca d (List.mem_of_mem_take hd)
    have hse : c.i * D.sz + D.sz ≤ D.cnt * D.sz := Pl.sec_le hcw.1
    have hcl2 : c.d.bs.length = D.sz := hcw.2
    have hci : c.i < D.cnt := hcw.1
    refine HW_skip rfl ?_
    refine gn_sq ?_
    refine HW_seq rfl ?_
    refine HW_block rfl ?_
    refine HW_seq rfl ?_
    refine HW_text (.pure 0 (.pure 1 (.pure 2 (.act 3 (.pure 4 (.act 5 .done)))))) (by kernel_rfl) ?_
    refine rw_p rfl rfl (y_move rfl) ?_
    refine rw_p rfl rfl (y_index rfl rfl sl70 hq (by omega) (by omega)) ?_
    refine rw_p rfl rfl (y_elA rfl ag84 (hq ▸ ha_c.rd hm 2 rfl).nt encP_len hi) ?_
    refine a_alloc rfl rfl z84 hm trivial fun m1 w hg_m1 hm hh => ?_
    refine rw_p rfl rfl (y_assign rfl) ?_
    refine a_store rfl rfl rfl rfl sz84 rfl hm 0 rfl rfl fun w hm => ?_
    refine rw_done ?_
    refine gn_sq ?_
    refine HW_seq rfl ?_
    refine HW_text (.pure 0 (.pure 1 (.act 2 .done))) (by kernel_rfl) ?_
    refine rw_p rfl rfl (y_move rfl) ?_
    refine rw_p rfl rfl (y_move rfl) ?_
    refine a_callV rfl rfl rfl rfl hg (hf x.1 _ (hm.get (k := 1) rfl) hm.to) fun v w hR => ?_
    obtain ⟨rfl, hE⟩ := hR
    refine ⟨trivial, ?_⟩
    replace hm := hm.ext hE
    refine rw_done ?_
    refine gn_sq ?_
    refine HW_cond rfl rfl (fun hc1 => ?_) (fun hc1 => ?_)
    ·
      refine HW_draw (.pure 0 (.pure 1 (.pure 2 (.pure 3 (.pure 4 (.pure 6 (.pure 7 (.act 5 (.cut (.act 8 .done)))))))))) No mix (by kernel_rfl) hm fun w hw hm0 hh => ?_
      have hm := hm0
      refine rw_p rfl rfl (y_move rfl) ?_
      refine rw_p rfl rfl (y_nil rfl) ?_
      refine rw_p rfl rfl (y_fieldAddr rfl fo72_0) ?_
      refine rw_p rfl rfl (y_fieldAddr rfl fo84_0) ?_
      refine rw_p rfl rfl (y_load rfl sc3 (hm0.nd 0 rfl id) rfl) ?_
      refine rw_p rfl rfl (y_fieldAddr rfl fo84_1) ?_
      refine rw_p rfl rfl (y_load rfl sc24 (hm0.nd 0 rfl id) rfl) ?_
      refine a_call rfl rfl rfl go42 (d_sector D m pb cb pc _ cc gm _ _ (hm.get (k := 1) rfl) o4 (by omega) hz.ab.spot o1 c.i hci) fun v w hR => ?_
      obtain ⟨rfl, hE⟩ := hR
      refine ⟨hh.ext hE, ?_⟩
      replace hm := hm.ext hE
      replace hh := hh.ext hE
      refine a_cut ?_
      refine a_copyL (o := c.i * D.sz) (src := (c.d.bs).flatMap encB) rfl rfl rfl rfl rfl sl24 (by omega) ((hz.hd c (List.mem_of_getElem? hi)).rd hm (by intro e he; simp [he, setB])) (by rw [lenB]; omega) (oneB _) ha_b hm 2 rfl fun b_b w ha_b hm => ?_
      replace ha_b := ha_b.to (upds_put' (by rw [hfl]; omega))
      refine rw_done ?_
      refine gn_bl ?_
      refine gn_sq ?_
      refine HW_text (.pure 0 (.pure 1 .done)) (by kernel_rfl) ?_
      refine rw_p rfl rfl (y_add rfl rfl (i64w (by omega) (by omega))) ?_
      refine rw_p rfl rfl (y_move rfl) ?_
      refine rw_done ?_
      first | refine next (x.1 + 1, b_b) (by simp only; omega) ⟨(hm.pickT [1, 2, 3, 4] 5 rfl), ha_b.to ?_, by simp only; omega⟩ ⟨nx x.1, rfl, rfl, rfl, rfl, trivial⟩ | refine next (x.1 + 1, x.2) (by simp only; omega) ⟨(hm.pickT [1, 2, 3, 4] 5 rfl), ha_b.to ?_, by simp only; omega⟩ ⟨nx x.1, rfl, rfl, rfl, rfl, trivial⟩
      rw [Pl.pers_next hcx, hc1]; rfl
    ·
      refine HW_skip rfl ?_
      refine gn_bl ?_
      refine gn_sq ?_
      refine HW_text (.pure 0 (.pure 1 .done)) (by kernel_rfl) ?_
      refine rw_p rfl rfl (y_add rfl rfl (i64w (by omega) (by omega))) ?_
      refine rw_p rfl rfl (y_move rfl) ?_
      refine rw_done ?_
      first | refine next (x.1 + 1, b_b) (by simp only; omega) ⟨(hm.pickT [1, 2, 3, 4] 5 rfl), ha_b.to ?_, by simp only; omega⟩ ⟨nx x.1, rfl, rfl, rfl, rfl, trivial⟩ | refine next (x.1 + 1, x.2) (by simp only; omega) ⟨(hm.pickT [1, 2, 3, 4] 5 rfl), ha_b.to ?_, by simp only; omega⟩ ⟨nx x.1, rfl, rfl, rfl, rfl, trivial⟩
      rw [Pl.pers_next hcx, hc1]; rfl
  ·
    simp only [decide_eq_false_iff_not] at hc0
    rw [List.take_of_length_le (by omega)] at ha_b
    refine HW_exit rfl ?_
    refine gx_sq (gx_lp ?_)
    refine gx_here ?_
    refine gn_sq ?_
    refine HW_seq rfl ?_
    refine HW_text (.pure 0 (.pure 1 (.pure 2 (.act 3 .done)))) (by kernel_rfl) ?_
    refine rw_p rfl rfl (y_move rfl) ?_
    refine rw_p rfl rfl (y_nil rfl) ?_
    refine rw_p rfl rfl (y_fieldAddr rfl fo72_3) ?_
    refine a_store rfl rfl rfl rfl sz70 rfl hm 0 rfl rfl fun w hm => ?_
    refine rw_done ?_
    refine gn_sq ?_
    refine HW_text (.pure 0 (.pure 1 (.pure 2 (.pure 3 (.act 4 .done))))) (by kernel_rfl) ?_
    refine rw_p rfl rfl (y_move rfl) ?_
    refine rw_p rfl rfl (y_nil rfl) ?_
    refine rw_p rfl rfl (y_fieldAddr rfl fo72_4) ?_
    refine rw_p rfl rfl (y_load rfl sc69 (hm.nt 0 rfl) rfl) ?_
    refine a_clearMapN rfl rfl mi69 hm 3 rfl fun w hm => ?_
    refine rw_done ?_
    refine toN (fin hnorm rfl .nil .nil ?_)
    exact ⟨rfl, x.2, by rw [hrow]; exact (hm.gapIn.pickT [1, 2, 0, 4] 5 rfl), ⟨by rw [hpl]; exact ha_b, .nil _ _ _ _, rfl, by simp, fun k => rfl, Pl.ok_persist hok keep⟩⟩

end Go.Proofs.Ythokcfkcamcapaa
