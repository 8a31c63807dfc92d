/- Contracts of functions of the program: what each returns. Conditions: the hypotheses of each theorem. -/
import Derived.Test.YthokcfkcamcapaaDevB
set_option linter.unusedVariables false
set_option linter.unusedSimpArgs false
namespace Go.Proofs.Ythokcfkcamcapaa
open Go Go.Cx

theorem fo68_1 : fldO Try.prog 68 1 = some 1 := by kernel_rfl
theorem fo72_1 : fldO Try.prog 72 1 = some 2 := by kernel_rfl
theorem sc25 : scal Try.prog 25 = true := by kernel_rfl
theorem sc40 : scal Try.prog 40 = true := by kernel_rfl
theorem fo58_1 : fldO Try.prog 58 1 = some 1 := by kernel_rfl
theorem go38 : isGo Try.prog 38 = true := by kernel_rfl
theorem sz3 : szO Try.prog 3 = some 1 := by kernel_rfl
theorem ft68 : fldT Try.prog 68 = some [(0, 1), (1, 1)] := by kernel_rfl
theorem sz68 : szO Try.prog 68 = some 2 := by kernel_rfl
theorem z68 : zer Try.prog 68 = some [.int .i64 0, .int .u64 0] := by kernel_rfl
theorem fo68_0 : fldO Try.prog 68 0 = some 0 := by kernel_rfl
theorem sz4 : szO Try.prog 4 = some 1 := by kernel_rfl

theorem gFt : isGo Try.prog 39 = true := by kernel_rfl

theorem gRt : isGo Try.prog 41 = true := by kernel_rfl

theorem gWt : isGo Try.prog 43 = true := by kernel_rfl

theorem d_ktrue (k : Nat) (w0 : World) : C Try.prog 39 [.int .i64 (k : Int)] w0 fun v w' => v = .bool true ∧ Ext No w0 w' := by
  refine C_of Try.func39 rfl rfl rfl fun κ hret hnorm => ?_
  have hm := Mem.start w0
  refine HW_seq rfl ?_
  refine HW_text (.pure 0 .done) (by kernel_rfl) ?_
  refine rw_p rfl rfl (y_assign rfl) ?_
  refine rw_done ?_
  refine gn_sq ?_
  refine HW_seq rfl ?_
  refine HW_text (.pure 0 .done) (by kernel_rfl) ?_
  refine rw_p rfl rfl (y_assign rfl) ?_
  refine rw_done ?_
  refine gn_sq ?_
  refine HW_ret rfl ?_
  refine toR (fin hret rfl (.tmp rfl .nil) .one ?_)
  exact ⟨rfl, hm.to⟩

theorem d_kfalse (k : Nat) (w0 : World) : C Try.prog 41 [.int .i64 (k : Int)] w0 fun v w' => v = .bool false ∧ Ext No w0 w' := by
  refine C_of Try.func41 rfl rfl rfl fun κ hret hnorm => ?_
  have hm := Mem.start w0
  refine HW_seq rfl ?_
  refine HW_text (.pure 0 .done) (by kernel_rfl) ?_
  refine rw_p rfl rfl (y_assign rfl) ?_
  refine rw_done ?_
  refine gn_sq ?_
  refine HW_seq rfl ?_
  refine HW_text (.pure 0 .done) (by kernel_rfl) ?_
  refine rw_p rfl rfl (y_assign rfl) ?_
  refine rw_done ?_
  refine gn_sq ?_
  refine HW_ret rfl ?_
  refine toR (fin hret rfl (.tmp rfl .nil) .one ?_)
  exact ⟨rfl, hm.to⟩

theorem d_keep (m1 T1 : Nat) (D : Pl.Dv) (m : Nat) (pb : Option Addr) (cb : Nat) (pc : Option Addr) (cc gm : Nat) (k : Nat) (w0 : World) (h1 : w0.heap[m1]? = some (Blk.row T1 [.pointer (some ⟨m, 0, none⟩)]).toObj) (hP : w0.heap[m]? = some (Blk.row 72 (dvV D pb cb pc cc gm)).toObj) : C Try.prog 43 [.int .i64 (k : Int), .pointer (some ⟨m1, 0, none⟩)] w0 fun v w' => v = .bool (Pl.keepB D.kp k) ∧ Ext No w0 w' := by
  refine C_of Try.func43 rfl rfl rfl fun κ hret hnorm => ?_
  have hm := Mem.start w0
  refine HW_seq rfl ?_
  refine HW_text (.pure 0 .done) (by kernel_rfl) ?_
  refine rw_p rfl rfl (y_assign rfl) ?_
  refine rw_done ?_
  refine gn_sq ?_
  refine HW_seq rfl ?_
  refine HW_text (.pure 0 (.pure 1 (.pure 2 (.pure 3 (.pure 4 (.pure 5 (.pure 6 (.pure 7 (.pure 8 (.pure 9 (.pure 10 .done))))))))))) (by kernel_rfl) ?_
  refine rw_p rfl rfl (y_load rfl sc25 (nowT ((hm.to.same _ (Array.getElem?_eq_some_iff.1 h1).1 id).trans h1)) rfl) ?_
  refine rw_p rfl rfl (y_nil rfl) ?_
  refine rw_p rfl rfl (y_fieldAddr rfl fo72_1) ?_
  refine rw_p rfl rfl (y_fieldAddr rfl fo68_1) ?_
  refine rw_p rfl rfl (y_load rfl sc40 (nowT ((hm.to.same _ (Array.getElem?_eq_some_iff.1 hP).1 id).trans hP)) rfl) ?_
  refine rw_p rfl rfl (y_move rfl) ?_
  refine rw_p rfl rfl (y_rem rfl rfl (by omega) rfl) ?_
  refine rw_p rfl rfl (y_shr rfl rfl (Int.tmod_nonneg _ (Int.natCast_nonneg _)) rfl) ?_
  refine rw_p rfl rfl (y_and_ rfl rfl rfl) ?_
  refine rw_p rfl rfl (y_eq rfl rfl) ?_
  refine rw_p rfl rfl (y_assign rfl) ?_
  refine rw_done ?_
  refine gn_sq ?_
  refine HW_ret rfl ?_
  refine toR (fin hret rfl (.tmp rfl .nil) .one ?_)
  exact ⟨rfl, hm.to⟩

set_option maxHeartbeats 800000 in
theorem d_flush (D : Pl.Dv) (m : Nat) (pb : Option Addr) (cb gb : Nat) (bb : Blk) (pc : Option Addr) (cc gc : Nat) (bc : Blk) (gm : Nat) (es : List (Int × Int × Nat)) (ck : Nat) (cs : List PdV) (B : List (Nat × Blk)) (w0 : World) (hZ : OwnZ w0 ((m, .row 72 (dvV D pb cb pc cc gm)) :: (gb, bb) :: (gc, bc) :: (gm, mpB es ck) :: B)) (hz : DvZ 72 84 5 D m pb cb gb bb pc cc gc bc gm es cs B) (hcl : D.ca.length ≤ 1000000000) : C Try.prog 21 [.pointer (some ⟨m, 0, none⟩)] w0 fun v w' => v = .int .i64 (Pl.fCode D) ∧ ∃ Z', DevZ 72 84 5 (Pl.fDv D) m Z' ∧ Mem w0 w' (Mn (reals ((m, .row 72 (dvV D pb cb pc cc gm)) :: (gb, bb) :: (gc, bc) :: (gm, mpB es ck) :: B))) Z' := by
  have hP : w0.heap[m]? = some (Blk.row 72 (dvV D pb cb pc cc gm)).toObj := hZ.get (k := 0) rfl
  have hok := hz.ok
  have o1 := hok.sz
  have o2 := hok.len
  have o3 := hok.cnt
  have o4 := hok.max
  have o5 : D.cnt ≤ D.cnt * D.sz := Nat.le_mul_of_pos_right _ o1
  have o6 := hz.ab.le
  have o7 : D.sz ≤ D.cnt * D.sz := Nat.le_mul_of_pos_left _ o3
  have ha_b := hz.ab
  have ha_c := hz.ac
  have hCl := wr_len hz.cw
  have hcd : Pl.codeAt D 0 = Pl.fCode D := by unfold Pl.codeAt Pl.fCode; rw [if_neg (show ¬ ((0 : Int) < 0 ∨ (D.cnt : Int) ≤ 0) by omega)]
  have hfc : Pl.fCode D = if D.dn = true then 18 else 0 := rfl
  have hfd : Pl.fDv D = if D.dn = true then D else { Pl.persist D (fun _ => true) with sF := Pl.inc D.sF } := rfl
  have hpl := Pl.pers_len (keep := fun _ => true) (k := 0) hok.len hok.ca
  refine C_of Try.func21 rfl rfl rfl fun κ hret hnorm => ?_
  have hm := hZ.start
  refine HW_seq rfl ?_
  refine HW_text (.pure 0 .done) (by kernel_rfl) ?_
  refine rw_p rfl rfl (y_assign rfl) ?_
  refine rw_done ?_
  refine gn_sq ?_
  refine HW_seq rfl ?_
  refine HW_seq rfl ?_
  refine HW_text (.pure 0 (.act 1 (.pure 2 .done))) (by kernel_rfl) ?_
  refine rw_p rfl rfl (y_move rfl) ?_
  refine a_call rfl rfl rfl go37 (C.as (d_check D m pb cb gb bb pc cc gc bc gm es ck cs B _ hm.ownZ hz 0) (congrArg (Value.int .i64) hcd)) fun v w hR => ?_
  obtain ⟨rfl, hE⟩ := hR
  refine ⟨trivial, ?_⟩
  replace hm := hm.ext hE
  refine rw_p rfl rfl (y_assign rfl) ?_
  refine rw_done ?_
  refine gn_sq ?_
  refine HW_seq rfl ?_
  refine HW_text (.pure 0 (.pure 1 .done)) (by kernel_rfl) ?_
  refine rw_p rfl rfl (y_move rfl) ?_
  refine rw_p rfl rfl (y_ne rfl rfl) ?_
  refine rw_done ?_
  refine gn_sq ?_
  refine HW_cond rfl rfl (fun hc0 => ?_) (fun hc0 => ?_)
  ·
    have hdn : D.dn = true := by rw [hfc] at hc0; simpa using hc0
    refine HW_seq rfl ?_
    refine HW_text (.pure 0 (.pure 1 .done)) (by kernel_rfl) ?_
    refine rw_p rfl rfl (y_move rfl) ?_
    refine rw_p rfl rfl (y_assign rfl) ?_
    refine rw_done ?_
    refine gn_sq ?_
    refine HW_ret rfl ?_
    refine gr_sq ?_
    refine toR (fin hret rfl (.tmp rfl .nil) .one ?_)
    exact ⟨rfl, _, by rw [hfd, if_pos hdn]; exact hz.dev ck, (hm.pickT [0, 1, 2, 3] 4 rfl)⟩
  ·
    have hdn : ¬ D.dn = true := by rw [hfc] at hc0; simpa using hc0
    refine HW_skip rfl ?_
    refine gn_sq ?_
    refine HW_seq rfl ?_
    refine HW_text (.pure 0 (.act 1 .done)) (by kernel_rfl) ?_
    refine rw_p rfl rfl (y_move rfl) ?_
    refine a_call rfl rfl rfl go38 (d_persist D m pb cb gb bb pc cc gc bc gm es ck cs B _ hm.ownZ hz (by omega) (fun _ => true) _ _ gFt (fun k w1 _ _ => (d_ktrue k w1).mono fun v w2 h => ⟨h.1, h.2⟩)) fun v w hR => ?_
    obtain ⟨rfl, b9_b, hmc, hz9⟩ := hR
    refine ⟨trivial, ?_⟩
    replace hm := hm.callZL (A := []) hmc
    refine rw_done ?_
    refine gn_sq ?_
    refine HW_seq rfl ?_
    refine HW_text (.pure 0 (.pure 1 (.pure 2 (.pure 3 (.pure 4 (.pure 5 (.pure 6 (.pure 7 (.pure 8 (.act 9 .done)))))))))) (by kernel_rfl) ?_
    refine rw_p rfl rfl (y_move rfl) ?_
    refine rw_p rfl rfl (y_nil rfl) ?_
    refine rw_p rfl rfl (y_fieldAddr rfl fo72_2) ?_
    refine rw_p rfl rfl (y_fieldAddr rfl fo58_1) ?_
    refine rw_p rfl rfl (y_load rfl sc3 (hm.nt 0 rfl) rfl) ?_
    refine rw_p rfl rfl (y_add rfl rfl rfl) ?_
    refine rw_p rfl rfl (y_nil rfl) ?_
    refine rw_p rfl rfl (y_fieldAddr rfl fo72_2) ?_
    refine rw_p rfl rfl (y_fieldAddr rfl fo58_1) ?_
    refine a_store rfl rfl rfl rfl sz3 rfl hm 0 rfl rfl fun w hm => ?_
    refine rw_done ?_
    refine gn_sq ?_
    refine HW_seq rfl ?_
    refine HW_text (.pure 0 .done) (by kernel_rfl) ?_
    refine rw_p rfl rfl (y_assign rfl) ?_
    refine rw_done ?_
    refine gn_sq ?_
    refine HW_ret rfl ?_
    refine toR (fin hret rfl (.tmp rfl .nil) .one ?_)
    exact ⟨by rw [hfc, if_neg hdn], _, by rw [hfd, if_neg hdn]; exact (hz9.as (D2 := { Pl.persist D (fun _ => true) with sF := Pl.inc D.sF }) rfl rfl (by have := Pl.ok_flush hok; rw [hfd, if_neg hdn] at this; exact this)).dev _, (hm.pickT [0, 1, 2, 3] 4 rfl)⟩

theorem d_arm (D : Pl.Dv) (m : Nat) (pb : Option Addr) (cb gb : Nat) (bb : Blk) (pc : Option Addr) (cc gc : Nat) (bc : Blk) (gm : Nat) (es : List (Int × Int × Nat)) (ck : Nat) (cs : List PdV) (B : List (Nat × Blk)) (w0 : World) (hZ : OwnZ w0 ((m, .row 72 (dvV D pb cb pc cc gm)) :: (gb, bb) :: (gc, bc) :: (gm, mpB es ck) :: B)) (hz : DvZ 72 84 5 D m pb cb gb bb pc cc gc bc gm es cs B) (n k : Int) (hn : Pl.I64 n) (hk : 0 ≤ k ∧ k ≤ 18446744073709551615) : C Try.prog 25 [.pointer (some ⟨m, 0, none⟩), .int .i64 n, .int .u64 k] w0 fun v w' => v = .tuple ⟨[]⟩ ∧ ∃ Z', DevZ 72 84 5 (Pl.aDv D n k) m Z' ∧ Mem w0 w' (Mn (reals ((m, .row 72 (dvV D pb cb pc cc gm)) :: (gb, bb) :: (gc, bc) :: (gm, mpB es ck) :: B))) Z' := by
  have hP : w0.heap[m]? = some (Blk.row 72 (dvV D pb cb pc cc gm)).toObj := hZ.get (k := 0) rfl
  have hok := hz.ok
  have o1 := hok.sz
  have o2 := hok.len
  have o3 := hok.cnt
  have o4 := hok.max
  have o5 : D.cnt ≤ D.cnt * D.sz := Nat.le_mul_of_pos_right _ o1
  have o6 := hz.ab.le
  have o7 : D.sz ≤ D.cnt * D.sz := Nat.le_mul_of_pos_left _ o3
  have ha_b := hz.ab
  have ha_c := hz.ac
  have hCl := wr_len hz.cw
  refine C_of Try.func25 rfl rfl rfl fun κ hret hnorm => ?_
  have hm := hZ.start
  refine HW_seq rfl ?_
  refine HW_text (.pure 0 (.pure 1 .done)) (by kernel_rfl) ?_
  refine rw_p rfl rfl (y_move rfl) ?_
  refine rw_p rfl rfl (y_pnnil rfl rfl pb25) ?_
  refine rw_done ?_
  refine gn_sq ?_
  refine HW_condT rfl rfl rfl ?_
  refine HW_text (.pure 0 (.pure 1 (.pure 2 (.pure 3 (.pure 4 (.pure 5 (.pure 6 (.act 7 .done)))))))) (by kernel_rfl) ?_
  refine rw_p rfl rfl (y_move rfl) ?_
  refine rw_p rfl rfl (y_move rfl) ?_
  refine rw_p rfl rfl (y_max rfl rfl) ?_
  refine rw_p rfl rfl (y_move rfl) ?_
  refine rw_p rfl rfl (y_build (cs := [_, _]) z68 ft68 rfl rfl rfl rfl rfl) ?_
  refine rw_p rfl rfl (y_nil rfl) ?_
  refine rw_p rfl rfl (y_fieldAddr rfl fo72_1) ?_
  refine a_store rfl rfl rfl rfl sz68 rfl hm 0 rfl rfl fun w hm => ?_
  refine rw_done ?_
  refine toN (fin hnorm rfl .nil .nil ?_)
  exact ⟨rfl, _, (hz.as (D2 := Pl.aDv D n k) rfl rfl (Pl.ok_arm hok hn hk)).dev ck, (hm.pickT [0, 1, 2, 3] 4 rfl)⟩

set_option maxHeartbeats 800000 in
theorem d_restart (D : Pl.Dv) (m : Nat) (pb : Option Addr) (cb gb : Nat) (bb : Blk) (pc : Option Addr) (cc gc : Nat) (bc : Blk) (gm : Nat) (es : List (Int × Int × Nat)) (ck : Nat) (cs : List PdV) (B : List (Nat × Blk)) (w0 : World) (hZ : OwnZ w0 ((m, .row 72 (dvV D pb cb pc cc gm)) :: (gb, bb) :: (gc, bc) :: (gm, mpB es ck) :: B)) (hz : DvZ 72 84 5 D m pb cb gb bb pc cc gc bc gm es cs B) (hcl : D.ca.length ≤ 1000000000) : C Try.prog 23 [.pointer (some ⟨m, 0, none⟩)] w0 fun v w' => v = .tuple ⟨[]⟩ ∧ ∃ Z', DevZ 72 84 5 (Pl.sDv D) m Z' ∧ Mem w0 w' (Mn (reals ((m, .row 72 (dvV D pb cb pc cc gm)) :: (gb, bb) :: (gc, bc) :: (gm, mpB es ck) :: B))) Z' := by
  have hP : w0.heap[m]? = some (Blk.row 72 (dvV D pb cb pc cc gm)).toObj := hZ.get (k := 0) rfl
  have hok := hz.ok
  have o1 := hok.sz
  have o2 := hok.len
  have o3 := hok.cnt
  have o4 := hok.max
  have o5 : D.cnt ≤ D.cnt * D.sz := Nat.le_mul_of_pos_right _ o1
  have o6 := hz.ab.le
  have o7 : D.sz ≤ D.cnt * D.sz := Nat.le_mul_of_pos_left _ o3
  have ha_b := hz.ab
  have ha_c := hz.ac
  have hCl := wr_len hz.cw
  refine C_of Try.func23 rfl rfl rfl fun κ hret hnorm => ?_
  have hm := hZ.start
  refine HW_seq rfl ?_
  refine HW_text (.pure 0 (.pure 1 .done)) (by kernel_rfl) ?_
  refine rw_p rfl rfl (y_move rfl) ?_
  refine rw_p rfl rfl (y_pnnil rfl rfl pb25) ?_
  refine rw_done ?_
  refine gn_sq ?_
  refine HW_condT rfl rfl rfl ?_
  refine HW_seq rfl ?_
  refine HW_text (.pure 0 (.act 1 .done)) (by kernel_rfl) ?_
  refine rw_p rfl rfl (y_move rfl) ?_
  refine a_call rfl rfl rfl go38 (d_persist D m pb cb gb bb pc cc gc bc gm es ck cs B _ hm.ownZ hz (by omega) (fun _ => false) _ _ gRt (fun k w1 _ _ => (d_kfalse k w1).mono fun v w2 h => ⟨h.1, h.2⟩)) fun v w hR => ?_
  obtain ⟨rfl, b9_b, hmc, hz9⟩ := hR
  refine ⟨trivial, ?_⟩
  replace hm := hm.callZL (A := []) hmc
  refine rw_done ?_
  refine gn_sq ?_
  refine HW_seq rfl ?_
  refine HW_text (.pure 0 (.pure 1 (.pure 2 (.act 3 .done)))) (by kernel_rfl) ?_
  refine rw_p rfl rfl (y_move rfl) ?_
  refine rw_p rfl rfl (y_nil rfl) ?_
  refine rw_p rfl rfl (y_fieldAddr rfl fo72_5) ?_
  refine a_store rfl rfl rfl rfl sz4 rfl hm 0 rfl rfl fun w hm => ?_
  refine rw_done ?_
  refine gn_sq ?_
  refine HW_text (.pure 0 (.pure 1 (.pure 2 (.pure 3 (.act 4 .done))))) (by kernel_rfl) ?_
  refine rw_p rfl rfl (y_move rfl) ?_
  refine rw_p rfl rfl (y_nil rfl) ?_
  refine rw_p rfl rfl (y_fieldAddr rfl fo72_1) ?_
  refine rw_p rfl rfl (y_fieldAddr rfl fo68_0) ?_
  refine a_store rfl rfl rfl rfl sz3 rfl hm 0 rfl rfl fun w hm => ?_
  refine rw_done ?_
  refine toN (fin hnorm rfl .nil .nil ?_)
  exact ⟨rfl, _, (hz9.as (D2 := Pl.sDv D) rfl rfl (Pl.ok_restart hok)).dev _, (hm.pickT [0, 1, 2, 3] 4 rfl)⟩

end Go.Proofs.Ythokcfkcamcapaa
