/- Contracts of functions of the program: what each returns. Conditions: the hypotheses of each theorem. -/
import Derived.Test.YtkllojjpaelmhaaDevB
set_option linter.unusedVariables false
set_option linter.unusedSimpArgs false
namespace Go.Proofs.Ytkllojjpaelmhaa
open Go Go.Cx

theorem fo73_1 : fldO Try.prog 73 1 = some 1 := by kernel_rfl
theorem fo79_1 : fldO Try.prog 79 1 = some 2 := by kernel_rfl
theorem sc30 : scal Try.prog 30 = true := by kernel_rfl
theorem sc35 : scal Try.prog 35 = true := by kernel_rfl
theorem ft73 : fldT Try.prog 73 = some [(0, 1), (1, 1)] := by kernel_rfl
theorem sz73 : szO Try.prog 73 = some 2 := by kernel_rfl
theorem z73 : zer Try.prog 73 = some [.int .i64 0, .int .u64 0] := by kernel_rfl

theorem gWt : isGo Try.prog 37 = true := by kernel_rfl

theorem d_keep (m1 T1 : Nat) (D : Pl.Dv) (m : Nat) (pb : Option Addr) (cb : Nat) (pc : Option Addr) (cc gm : Nat) (k : Nat) (w0 : World) (h1 : w0.heap[m1]? = some (Blk.row T1 [.pointer (some ⟨m, 0, none⟩)]).toObj) (hP : w0.heap[m]? = some (Blk.row 79 (dvV D pb cb pc cc gm)).toObj) : C Try.prog 37 [.int .i64 (k : Int), .pointer (some ⟨m1, 0, none⟩)] w0 fun v w' => v = .bool (Pl.keepB D.kp k) ∧ Ext No w0 w' := by
  refine C_of Try.func37 rfl rfl rfl fun κ hret hnorm => ?_
  have hm := Mem.start w0
  refine HW_seq rfl ?_
  refine HW_text (.pure 0 .done) (by kernel_rfl) ?_
  refine rw_p rfl rfl (y_assign rfl) ?_
  refine rw_done ?_
  refine gn_sq ?_
  refine HW_seq rfl ?_
  refine HW_text (.pure 0 (.pure 1 (.pure 2 (.pure 3 (.pure 4 (.pure 5 (.pure 6 (.pure 7 (.pure 8 (.pure 9 (.pure 10 .done))))))))))) (by kernel_rfl) ?_
  refine rw_p rfl rfl (y_load rfl sc30 (nowT ((hm.to.same _ (Array.getElem?_eq_some_iff.1 h1).1 id).trans h1)) rfl) ?_
  refine rw_p rfl rfl (y_nil rfl) ?_
  refine rw_p rfl rfl (y_fieldAddr rfl fo79_1) ?_
  refine rw_p rfl rfl (y_fieldAddr rfl fo73_1) ?_
  refine rw_p rfl rfl (y_load rfl sc35 (nowT ((hm.to.same _ (Array.getElem?_eq_some_iff.1 hP).1 id).trans hP)) rfl) ?_
  refine rw_p rfl rfl (y_move rfl) ?_
  refine rw_p rfl rfl (y_rem rfl rfl (by omega) rfl) ?_
  refine rw_p rfl rfl (y_shr rfl rfl (Int.tmod_nonneg _ (Int.natCast_nonneg _)) rfl) ?_
  refine rw_p rfl rfl (y_and_ rfl rfl rfl) ?_
  refine rw_p rfl rfl (y_eq rfl rfl) ?_
  refine rw_p rfl rfl (y_assign rfl) ?_
  refine rw_done ?_
  refine gn_sq ?_
  refine HW_ret rfl ?_
  refine toR (fin hret rfl (.tmp rfl .nil) .one ?_)
  exact ⟨rfl, hm.to⟩

theorem d_arm (D : Pl.Dv) (m : Nat) (pb : Option Addr) (cb gb : Nat) (bb : Blk) (pc : Option Addr) (cc gc : Nat) (bc : Blk) (gm : Nat) (es : List (Int × Int × Nat)) (ck : Nat) (cs : List PdV) (B : List (Nat × Blk)) (w0 : World) (hZ : OwnZ w0 ((m, .row 79 (dvV D pb cb pc cc gm)) :: (gb, bb) :: (gc, bc) :: (gm, mpB es ck) :: B)) (hz : DvZ 79 83 5 D m pb cb gb bb pc cc gc bc gm es cs B) (n k : Int) (hn : Pl.I64 n) (hk : 0 ≤ k ∧ k ≤ 18446744073709551615) : C Try.prog 12 [.pointer (some ⟨m, 0, none⟩), .int .i64 n, .int .u64 k] w0 fun v w' => v = .tuple ⟨[]⟩ ∧ ∃ Z', DevZ 79 83 5 (Pl.aDv D n k) m Z' ∧ Mem w0 w' (Mn (reals ((m, .row 79 (dvV D pb cb pc cc gm)) :: (gb, bb) :: (gc, bc) :: (gm, mpB es ck) :: B))) Z' := by
  have hP : w0.heap[m]? = some (Blk.row 79 (dvV D pb cb pc cc gm)).toObj := hZ.get (k := 0) rfl
  have hok := hz.ok
  have o1 := hok.sz
  have o2 := hok.len
  have o3 := hok.cnt
  have o4 := hok.max
  have o5 : D.cnt ≤ D.cnt * D.sz := Nat.le_mul_of_pos_right _ o1
  have o6 := hz.ab.le
  have o7 : D.sz ≤ D.cnt * D.sz := Nat.le_mul_of_pos_left _ o3
  have ha_b := hz.ab
  have ha_c := hz.ac
  have hCl := wr_len hz.cw
  refine C_of Try.func12 rfl rfl rfl fun κ hret hnorm => ?_
  have hm := hZ.start
  refine HW_seq rfl ?_
  refine HW_text (.pure 0 (.pure 1 .done)) (by kernel_rfl) ?_
  refine rw_p rfl rfl (y_move rfl) ?_
  refine rw_p rfl rfl (y_pnnil rfl rfl pb30) ?_
  refine rw_done ?_
  refine gn_sq ?_
  refine HW_condT rfl rfl rfl ?_
  refine HW_text (.pure 0 (.pure 1 (.pure 2 (.pure 3 (.pure 4 (.pure 5 (.pure 6 (.act 7 .done)))))))) (by kernel_rfl) ?_
  refine rw_p rfl rfl (y_move rfl) ?_
  refine rw_p rfl rfl (y_move rfl) ?_
  refine rw_p rfl rfl (y_max rfl rfl) ?_
  refine rw_p rfl rfl (y_move rfl) ?_
  refine rw_p rfl rfl (y_build (cs := [_, _]) z73 ft73 rfl rfl rfl rfl rfl) ?_
  refine rw_p rfl rfl (y_nil rfl) ?_
  refine rw_p rfl rfl (y_fieldAddr rfl fo79_1) ?_
  refine a_store rfl rfl rfl rfl sz73 rfl hm 0 rfl rfl fun w hm => ?_
  refine rw_done ?_
  refine toN (fin hnorm rfl .nil .nil ?_)
  exact ⟨rfl, _, (hz.as (D2 := Pl.aDv D n k) rfl rfl (Pl.ok_arm hok hn hk)).dev ck, (hm.pickT [0, 1, 2, 3] 4 rfl)⟩

end Go.Proofs.Ytkllojjpaelmhaa
