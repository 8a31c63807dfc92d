/- Contracts of functions of the program: what each returns. Conditions: the hypotheses of each theorem. -/
import Derived.Test.YthokcfkcamcapaaDevD
set_option linter.unusedVariables false
set_option linter.unusedSimpArgs false
namespace Go.Proofs.Ythokcfkcamcapaa
open Go Go.Cx

theorem fo58_0 : fldO Try.prog 58 0 = some 0 := by kernel_rfl
theorem fo58_2 : fldO Try.prog 58 2 = some 2 := by kernel_rfl
theorem fo58_3 : fldO Try.prog 58 3 = some 3 := by kernel_rfl
theorem fo58_4 : fldO Try.prog 58 4 = some 4 := by kernel_rfl
theorem ft84 : fldT Try.prog 84 = some [(0, 1), (1, 1)] := by kernel_rfl

set_option maxHeartbeats 1600000 in
theorem d_write (D : Pl.Dv) (m : Nat) (pb : Option Addr) (cb gb : Nat) (bb : Blk) (pc : Option Addr) (cc gc : Nat) (bc : Blk) (gm : Nat) (es : List (Int × Int × Nat)) (ck : Nat) (cs : List PdV) (B : List (Nat × Blk)) (w0 : World) (hZ : OwnZ w0 ((m, .row 72 (dvV D pb cb pc cc gm)) :: (gb, bb) :: (gc, bc) :: (gm, mpB es ck) :: B)) (hz : DvZ 72 84 5 D m pb cb gb bb pc cc gc bc gm es cs B) (q : Option Addr) (cq : Nat) (bs : List UInt8) (i : Int) (hq : Rd w0 q (bs.flatMap encB)) (hqX : bs.flatMap encB ≠ [] → ∀ a, q = some a → ¬ (Mn (reals ((m, .row 72 (dvV D pb cb pc cc gm)) :: (gb, bb) :: (gc, bc) :: (gm, mpB es ck) :: B))) a.block) (hle : bs.length ≤ cq) (hcl : D.ca.length ≤ 1000000000) : C Try.prog 26 [.pointer (some ⟨m, 0, none⟩), .int .i64 i, .slice q bs.length cq] w0 fun v w' => v = .int .i64 (Pl.wCode D i bs) ∧ ∃ Z', DevZ 72 84 5 (Pl.wDv D i bs) m Z' ∧ Mem w0 w' (Mn (reals ((m, .row 72 (dvV D pb cb pc cc gm)) :: (gb, bb) :: (gc, bc) :: (gm, mpB es ck) :: B))) Z' := by
  have hP : w0.heap[m]? = some (Blk.row 72 (dvV D pb cb pc cc gm)).toObj := hZ.get (k := 0) rfl
  have hok := hz.ok
  have o1 := hok.sz
  have o2 := hok.len
  have o3 := hok.cnt
  have o4 := hok.max
  have o5 : D.cnt ≤ D.cnt * D.sz := Nat.le_mul_of_pos_right _ o1
  have o6 := hz.ab.le
  have o7 : D.sz ≤ D.cnt * D.sz := Nat.le_mul_of_pos_left _ o3
  have ha_b := hz.ab
  have ha_c := hz.ac
  have hCl := wr_len hz.cw
  have ow1 := hok.wr
  have hwc : Pl.wCode D i bs = if Pl.codeAt D i ≠ 0 then Pl.codeAt D i else if bs.length ≠ D.sz then 2 else if D.wr = 0 then 18 else 0 := rfl
  refine C_of Try.func26 rfl rfl rfl fun κ hret hnorm => ?_
  have hm := hZ.start
  refine HW_seq rfl ?_
  refine HW_text (.act 0 (.pure 1 .done)) (by kernel_rfl) ?_
  refine a_box rfl rfl rfl rfl hm trivial fun m1 w hg_m1 hm hh => ?_
  refine rw_p rfl rfl (y_assign rfl) ?_
  refine rw_done ?_
  refine gn_sq ?_
  refine HW_seq rfl ?_
  refine HW_seq rfl ?_
  refine HW_text (.pure 0 (.pure 1 (.act 2 (.pure 3 .done)))) (by kernel_rfl) ?_
  refine rw_p rfl rfl (y_load rfl sc25 (hm.nt 0 rfl) rfl) ?_
  refine rw_p rfl rfl (y_move rfl) ?_
  refine a_call rfl rfl rfl go37 (d_check D m pb cb gb bb pc cc gc bc gm es ck cs B _ (hm.pickT [1, 2, 3, 4] 5 rfl).ownZ hz i) fun v w hR => ?_
  obtain ⟨rfl, hE⟩ := hR
  refine ⟨trivial, ?_⟩
  replace hm := hm.ext hE
  refine rw_p rfl rfl (y_assign rfl) ?_
  refine rw_done ?_
  refine gn_sq ?_
  refine HW_seq rfl ?_
  refine HW_text (.pure 0 (.pure 1 .done)) (by kernel_rfl) ?_
  refine rw_p rfl rfl (y_move rfl) ?_
  refine rw_p rfl rfl (y_ne rfl rfl) ?_
  refine rw_done ?_
  refine gn_sq ?_
  refine HW_cond rfl rfl (fun hc0 => ?_) (fun hc0 => ?_)
  ·
    simp only [decide_eq_true_eq] at hc0
    refine HW_seq rfl ?_
    refine HW_text (.pure 0 (.pure 1 .done)) (by kernel_rfl) ?_
    refine rw_p rfl rfl (y_move rfl) ?_
    refine rw_p rfl rfl (y_assign rfl) ?_
    refine rw_done ?_
    refine gn_sq ?_
    refine HW_ret rfl ?_
    refine gr_sq ?_
    refine toR (fin hret rfl (.tmp rfl .nil) .one ?_)
    exact ⟨by rw [hwc, if_pos hc0], _, by rw [Pl.wDv_stop (.inl hc0)]; exact hz.dev ck, (hm.pickT [1, 2, 3, 4] 5 rfl)⟩
  ·
    simp only [decide_eq_false_iff_not, Decidable.not_not] at hc0
    obtain ⟨_, hi0, hi1⟩ := code0 hc0
    refine HW_skip rfl ?_
    refine gn_sq ?_
    refine HW_seq rfl ?_
    refine HW_seq rfl ?_
    refine HW_text (.pure 0 (.pure 1 (.pure 2 (.pure 3 (.pure 4 (.pure 5 (.pure 6 (.pure 7 .done)))))))) (by kernel_rfl) ?_
    refine rw_p rfl rfl (y_move rfl) ?_
    refine rw_p rfl rfl (y_len rfl rfl sl24) ?_
    refine rw_p rfl rfl (y_load rfl sc25 (hm.nt 0 rfl) rfl) ?_
    refine rw_p rfl rfl (y_nil rfl) ?_
    refine rw_p rfl rfl (y_fieldAddr rfl fo72_0) ?_
    refine rw_p rfl rfl (y_fieldAddr rfl fo66_0) ?_
    refine rw_p rfl rfl (y_load rfl sc3 (hm.nt 1 rfl) rfl) ?_
    refine rw_p rfl rfl (y_ne rfl rfl) ?_
    refine rw_done ?_
    refine gn_sq ?_
    refine HW_cond rfl rfl (fun hc1 => ?_) (fun hc1 => ?_)
    ·
      simp only [decide_eq_true_eq] at hc1
      have hbl : bs.length ≠ D.sz := by omega
      refine HW_seq rfl ?_
      refine HW_text (.pure 0 .done) (by kernel_rfl) ?_
      refine rw_p rfl rfl (y_assign rfl) ?_
      refine rw_done ?_
      refine gn_sq ?_
      refine HW_ret rfl ?_
      refine gr_sq ?_
      refine toR (fin hret rfl (.tmp rfl .nil) .one ?_)
      exact ⟨by rw [hwc, if_neg (by omega), if_pos hbl], _, by rw [Pl.wDv_stop (.inr hbl)]; exact hz.dev ck, (hm.pickT [1, 2, 3, 4] 5 rfl)⟩
    ·
      simp only [decide_eq_false_iff_not, Decidable.not_not] at hc1
      have hbl : bs.length = D.sz := by omega
      refine HW_skip rfl ?_
      refine gn_sq ?_
      refine HW_seq rfl ?_
      refine HW_draw (.pure 0 (.pure 1 (.pure 2 (.pure 3 (.pure 4 (.pure 5 (.pure 6 (.pure 7 (.pure 8 (.pure 9 (.cut (.act 10 .done)))))))))))) No mix (by kernel_rfl) hm fun w hw hm0 hh => ?_
      have hm := hm0
      refine rw_p rfl rfl (y_load rfl sc25 (hm0.nd 0 rfl id) rfl) ?_
      refine rw_p rfl rfl (y_nil rfl) ?_
      refine rw_p rfl rfl (y_fieldAddr rfl fo72_4) ?_
      refine rw_p rfl rfl (y_load rfl sc69 (hm0.nd 1 rfl id) rfl) ?_
      refine rw_p rfl rfl (y_move rfl) ?_
      refine rw_p rfl rfl (y_load rfl sc25 (hm0.nd 0 rfl id) rfl) ?_
      refine rw_p rfl rfl (y_nil rfl) ?_
      refine rw_p rfl rfl (y_fieldAddr rfl fo72_3) ?_
      refine rw_p rfl rfl (y_load rfl sc70 (hm0.nd 1 rfl id) rfl) ?_
      refine rw_p rfl rfl (y_len rfl rfl sl70) ?_
      refine a_cut ?_
      refine a_mapUpdate rfl rfl rfl rfl mi69 hm 4 rfl fun ck_g w hm => ?_
      refine rw_done ?_
      refine gn_sq ?_
      refine HW_seq rfl ?_
      refine HW_draw (.pure 0 (.pure 1 (.pure 2 (.pure 3 (.pure 4 (.pure 5 (.pure 6 (.act 7 (.pure 8 (.act 9 (.act 10 (.cut (.pure 11 (.pure 12 (.act 13 .done))))))))))))))) (fun j => (j = gc ∧ bc.real = true)) mix (by kernel_rfl) hm fun w hw hm0 hh => ?_
      have hm := hm0
      refine rw_p rfl rfl (y_load rfl sc25 (hm0.nd 0 rfl (hm0.neR 0 3 rfl rfl rfl)) rfl) ?_
      refine rw_p rfl rfl (y_load rfl sc25 (hm0.nd 0 rfl (hm0.neR 0 3 rfl rfl rfl)) rfl) ?_
      refine rw_p rfl rfl (y_nil rfl) ?_
      refine rw_p rfl rfl (y_fieldAddr rfl fo72_3) ?_
      refine rw_p rfl rfl (y_load rfl sc70 (hm0.nd 1 rfl (hm0.neR 1 3 rfl rfl rfl)) rfl) ?_
      refine rw_p rfl rfl (y_move rfl) ?_
      refine rw_p rfl rfl (y_move rfl) ?_
      refine a_call rfl rfl rfl go32 (clone_b q cq bs _ (hq.extN hm.to hqX) (by omega)) fun v w hR => ?_
      obtain ⟨p_s, cap_s, g_s, b_s, rfl, ha_s, hmc⟩ := hR
      refine ⟨hh.ext hmc.to, ?_⟩
      have hg_s : b_s.real = true → _ := fun hr => (hmc.fresh _ List.mem_cons_self hr).resolve_left id
      replace hh := hh.ext hmc.to
      replace hm := hm.callN hmc
      refine rw_p rfl rfl (y_build (cs := [_, _]) z84 ft84 rfl rfl rfl rfl rfl) ?_
      refine a_buildSlice (l := [_, _]) rfl rfl sl70 z84 rfl rfl rfl rfl rfl rfl rfl hm hh fun m2 w hg_m2 hm hh => ?_
      refine a_appendN rfl rfl rfl rfl rfl rfl sl70 sl70 z84 rfl rfl (Rd.row0 (hm.get (k := 0) rfl)) rfl ha_c hm 5 rfl (by omega) (by omega) hh (fun h => .inr ⟨rfl, h⟩) fun p_c cap_c g_c b_c w _ ha_c hm hh hg_c => ?_
      refine a_cut ?_
      refine rw_p rfl rfl (y_nil rfl) ?_
      refine rw_p rfl rfl (y_fieldAddr rfl fo72_3) ?_
      refine a_store rfl rfl rfl rfl sz70 rfl hm 3 rfl rfl fun w hm => ?_
      have hz2 := hz.add ck hc0 hbl hcl ha_c ha_s
      have hrow2 : ∀ n : Int, dvV { Pl.wAdd D i bs with wr := n } pb cb p_c cap_c gm = [.int .i64 (D.sz : Int), .slice pb D.dk.length cb, .int .i64 n, .int .u64 D.kp, .int .i64 (Pl.inc D.sW), .int .i64 D.sF, .int .i64 D.sC, .int .i64 (max D.sH (i + 1)), .int .i64 (max D.sM (D.ca.length + 1 : Nat)), .slice p_c (D.ca.length + 1) cap_c, .map (some gm), .bool D.dn] := fun n => by unfold dvV Pl.wAdd; simp only [List.length_append, List.length_singleton]
      refine rw_done ?_
      refine gn_sq ?_
      refine HW_seq rfl ?_
      refine HW_text (.pure 0 (.pure 1 (.pure 2 (.pure 3 (.pure 4 (.pure 5 (.pure 6 (.pure 7 (.pure 8 (.act 9 .done)))))))))) (by kernel_rfl) ?_
      refine rw_p rfl rfl (y_load rfl sc25 (hm.nt 2 rfl) rfl) ?_
      refine rw_p rfl rfl (y_nil rfl) ?_
      refine rw_p rfl rfl (y_fieldAddr rfl fo72_2) ?_
      refine rw_p rfl rfl (y_fieldAddr rfl fo58_0) ?_
      refine rw_p rfl rfl (y_load rfl sc3 (hm.nt 3 rfl) rfl) ?_
      refine rw_p rfl rfl (y_add rfl rfl rfl) ?_
      refine rw_p rfl rfl (y_nil rfl) ?_
      refine rw_p rfl rfl (y_fieldAddr rfl fo72_2) ?_
      refine rw_p rfl rfl (y_fieldAddr rfl fo58_0) ?_
      refine a_store rfl rfl rfl rfl sz3 rfl hm 3 rfl rfl fun w hm => ?_
      refine rw_done ?_
      refine gn_sq ?_
      refine HW_seq rfl ?_
      refine HW_draw (.pure 0 (.pure 1 (.pure 2 (.pure 3 (.pure 4 (.pure 5 (.pure 6 (.pure 7 (.pure 8 (.cut (.pure 9 (.pure 10 (.pure 11 (.act 12 .done)))))))))))))) No mix (by kernel_rfl) hm fun w hw hm0 hh => ?_
      have hm := hm0
      refine rw_p rfl rfl (y_load rfl sc25 (hm0.nd 2 rfl id) rfl) ?_
      refine rw_p rfl rfl (y_load rfl sc25 (hm0.nd 2 rfl id) rfl) ?_
      refine rw_p rfl rfl (y_nil rfl) ?_
      refine rw_p rfl rfl (y_fieldAddr rfl fo72_2) ?_
      refine rw_p rfl rfl (y_fieldAddr rfl fo58_3) ?_
      refine rw_p rfl rfl (y_load rfl sc3 (hm0.nd 3 rfl id) rfl) ?_
      refine rw_p rfl rfl (y_move rfl) ?_
      refine rw_p rfl rfl (y_add rfl rfl (i64w (by omega) (by omega))) ?_
      refine rw_p rfl rfl (y_max rfl rfl) ?_
      refine a_cut ?_
      refine rw_p rfl rfl (y_nil rfl) ?_
      refine rw_p rfl rfl (y_fieldAddr rfl fo72_2) ?_
      refine rw_p rfl rfl (y_fieldAddr rfl fo58_3) ?_
      refine a_store rfl rfl rfl rfl sz3 rfl hm 3 rfl rfl fun w hm => ?_
      refine rw_done ?_
      refine gn_sq ?_
      refine HW_seq rfl ?_
      refine HW_draw (.pure 0 (.pure 1 (.pure 2 (.pure 3 (.pure 4 (.pure 5 (.pure 6 (.pure 7 (.pure 8 (.pure 9 (.pure 10 (.pure 11 (.cut (.pure 12 (.pure 13 (.pure 14 (.act 15 .done))))))))))))))))) No mix (by kernel_rfl) hm fun w hw hm0 hh => ?_
      have hm := hm0
      refine rw_p rfl rfl (y_load rfl sc25 (hm0.nd 2 rfl id) rfl) ?_
      refine rw_p rfl rfl (y_load rfl sc25 (hm0.nd 2 rfl id) rfl) ?_
      refine rw_p rfl rfl (y_nil rfl) ?_
      refine rw_p rfl rfl (y_fieldAddr rfl fo72_2) ?_
      refine rw_p rfl rfl (y_fieldAddr rfl fo58_4) ?_
      refine rw_p rfl rfl (y_load rfl sc3 (hm0.nd 3 rfl id) rfl) ?_
      refine rw_p rfl rfl (y_load rfl sc25 (hm0.nd 2 rfl id) rfl) ?_
      refine rw_p rfl rfl (y_nil rfl) ?_
      refine rw_p rfl rfl (y_fieldAddr rfl fo72_3) ?_
      refine rw_p rfl rfl (y_load rfl sc70 (hm0.nd 3 rfl id) rfl) ?_
      refine rw_p rfl rfl (y_len rfl rfl sl70) ?_
      refine rw_p rfl rfl (y_max rfl rfl) ?_
      refine a_cut ?_
      refine rw_p rfl rfl (y_nil rfl) ?_
      refine rw_p rfl rfl (y_fieldAddr rfl fo72_2) ?_
      refine rw_p rfl rfl (y_fieldAddr rfl fo58_4) ?_
      refine a_store rfl rfl rfl rfl sz3 rfl hm 3 rfl rfl fun w hm => ?_
      refine rw_done ?_
      refine gn_sq ?_
      refine HW_seq rfl ?_
      refine HW_seq rfl ?_
      refine HW_text (.pure 0 (.pure 1 (.pure 2 (.pure 3 (.pure 4 (.pure 5 .done)))))) (by kernel_rfl) ?_
      refine rw_p rfl rfl (y_load rfl sc25 (hm.nt 2 rfl) rfl) ?_
      refine rw_p rfl rfl (y_nil rfl) ?_
      refine rw_p rfl rfl (y_fieldAddr rfl fo72_1) ?_
      refine rw_p rfl rfl (y_fieldAddr rfl fo68_0) ?_
      refine rw_p rfl rfl (y_load rfl sc3 (hm.nt 3 rfl) rfl) ?_
      refine rw_p rfl rfl (y_lt rfl rfl) ?_
      refine rw_done ?_
      refine gn_sq ?_
      refine HW_cond rfl rfl (fun hc2 => ?_) (fun hc2 => ?_)
      ·
        simp only [decide_eq_true_eq] at hc2
        refine HW_seq rfl ?_
        refine HW_text (.pure 0 .done) (by kernel_rfl) ?_
        refine rw_p rfl rfl (y_assign rfl) ?_
        refine rw_done ?_
        refine gn_sq ?_
        refine HW_ret rfl ?_
        refine gr_sq ?_
        refine toR (fin hret rfl (.tmp rfl .nil) .one ?_)
        exact ⟨by rw [Pl.wCode_cr hc0 hbl, if_neg (by omega)], _, by rw [Pl.wDv_off hc0 hbl hc2]; exact hz2.dev ck_g, by show Mem _ _ _ ((m, .row _ (dvV { Pl.wAdd D i bs with wr := D.wr } pb cb p_c cap_c gm)) :: _); rw [hrow2]; exact (hm.pickT [3, 4, 5, 6, 1] 7 rfl)⟩
      ·
        simp only [decide_eq_false_iff_not] at hc2
        have hz3 := hz2.as (D2 := { Pl.wAdd D i bs with wr := D.wr - 1 }) rfl rfl (Pl.ok_wr hz2.ok (by omega))
        refine HW_skip rfl ?_
        refine gn_sq ?_
        refine HW_seq rfl ?_
        refine HW_text (.pure 0 (.pure 1 (.pure 2 (.pure 3 (.pure 4 (.pure 5 (.pure 6 (.pure 7 (.pure 8 (.act 9 .done)))))))))) (by kernel_rfl) ?_
        refine rw_p rfl rfl (y_load rfl sc25 (hm.nt 2 rfl) rfl) ?_
        refine rw_p rfl rfl (y_nil rfl) ?_
        refine rw_p rfl rfl (y_fieldAddr rfl fo72_1) ?_
        refine rw_p rfl rfl (y_fieldAddr rfl fo68_0) ?_
        refine rw_p rfl rfl (y_load rfl sc3 (hm.nt 3 rfl) rfl) ?_
        refine rw_p rfl rfl (y_sub rfl rfl (decI (by omega) (by omega))) ?_
        refine rw_p rfl rfl (y_nil rfl) ?_
        refine rw_p rfl rfl (y_fieldAddr rfl fo72_1) ?_
        refine rw_p rfl rfl (y_fieldAddr rfl fo68_0) ?_
        refine a_store rfl rfl rfl rfl sz3 rfl hm 3 rfl rfl fun w hm => ?_
        refine rw_done ?_
        refine gn_sq ?_
        refine HW_seq rfl ?_
        refine HW_seq rfl ?_
        refine HW_text (.pure 0 (.pure 1 (.pure 2 (.pure 3 (.pure 4 (.pure 5 .done)))))) (by kernel_rfl) ?_
        refine rw_p rfl rfl (y_load rfl sc25 (hm.nt 2 rfl) rfl) ?_
        refine rw_p rfl rfl (y_nil rfl) ?_
        refine rw_p rfl rfl (y_fieldAddr rfl fo72_1) ?_
        refine rw_p rfl rfl (y_fieldAddr rfl fo68_0) ?_
        refine rw_p rfl rfl (y_load rfl sc3 (hm.nt 3 rfl) rfl) ?_
        refine rw_p rfl rfl (y_ge rfl rfl) ?_
        refine rw_done ?_
        refine gn_sq ?_
        refine HW_cond rfl rfl (fun hc3 => ?_) (fun hc3 => ?_)
        ·
          simp only [decide_eq_true_eq] at hc3
          refine HW_seq rfl ?_
          refine HW_text (.pure 0 .done) (by kernel_rfl) ?_
          refine rw_p rfl rfl (y_assign rfl) ?_
          refine rw_done ?_
          refine gn_sq ?_
          refine HW_ret rfl ?_
          refine gr_sq ?_
          refine toR (fin hret rfl (.tmp rfl .nil) .one ?_)
          exact ⟨by rw [Pl.wCode_cr hc0 hbl, if_neg (by omega)], _, by rw [Pl.wDv_on hc0 hbl (by omega)]; exact hz3.dev ck_g, by show Mem _ _ _ ((m, .row _ (dvV { Pl.wAdd D i bs with wr := (D.wr - 1) } pb cb p_c cap_c gm)) :: _); rw [hrow2]; exact (hm.pickT [3, 4, 5, 6, 1] 7 rfl)⟩
        ·
          simp only [decide_eq_false_iff_not] at hc3
          have hw0 : D.wr = 0 := by omega
          rw [show D.wr - 1 = -1 by omega] at hz3
          refine HW_skip rfl ?_
          refine gn_sq ?_
          refine HW_seq rfl ?_
          refine HW_text (.pure 0 (.pure 1 (.act 2 .done))) (by kernel_rfl) ?_
          refine rw_p rfl rfl (y_load rfl sc25 (hm.nt 2 rfl) rfl) ?_
          refine rw_p rfl rfl (y_func rfl rfl) ?_
          have hm3 : Mem w0 w (Mn (reals ((m, .row 72 (dvV D pb cb pc cc gm)) :: (gb, bb) :: (gc, bc) :: (gm, mpB es ck) :: B))) ((m1, .row 25 [.pointer (some ⟨m, 0, none⟩)]) :: (m, .row 72 (dvV { Pl.wAdd D i bs with wr := (D.wr - 1) } pb cb p_c cap_c gm)) :: (gb, bb) :: (g_c, b_c) :: (gm, mpB (mpSet es ck i D.ca.length) ck_g) :: (g_s, b_s) :: B) := by rw [hrow2]; exact (hm.pickT [2, 3, 4, 5, 6, 1] 7 rfl)
          rw [show D.wr - 1 = -1 by omega] at hm3
          refine a_call rfl rfl rfl go38 (d_persist { Pl.wAdd D i bs with wr := (-1) } m pb cb gb bb p_c cap_c g_c b_c gm _ ck_g _ _ _ hm3.ownZ.tail hz3 (by show (D.ca ++ [(i.toNat, bs)]).length ≤ _; rw [List.length_append, List.length_singleton]; omega) (Pl.keepB D.kp) _ _ gWt (fun k w1 h9 hE => d_keep m1 _ { Pl.wAdd D i bs with wr := (-1) } m pb cb p_c cap_c gm k w1 ((hE.same m1 (Array.getElem?_eq_some_iff.1 (hm3.get (k := 0) rfl)).1 hm3.notinL).trans (hm3.get (k := 0) rfl)) h9)) fun v w hR => ?_
          obtain ⟨rfl, b9_b, hmc, hz9⟩ := hR
          refine ⟨trivial, ?_⟩
          replace hm := hm3.callZ1 hmc
          refine rw_done ?_
          refine gn_sq ?_
          refine HW_seq rfl ?_
          refine HW_text (.pure 0 (.pure 1 (.pure 2 (.act 3 .done)))) (by kernel_rfl) ?_
          refine rw_p rfl rfl (y_load rfl sc25 (hm.nt 0 rfl) rfl) ?_
          refine rw_p rfl rfl (y_nil rfl) ?_
          refine rw_p rfl rfl (y_fieldAddr rfl fo72_5) ?_
          refine a_store rfl rfl rfl rfl sz4 rfl hm 1 rfl rfl fun w hm => ?_
          refine rw_done ?_
          refine gn_sq ?_
          refine HW_seq rfl ?_
          refine HW_text (.pure 0 (.pure 1 (.pure 2 (.pure 3 (.pure 4 (.pure 5 (.pure 6 (.pure 7 (.pure 8 (.act 9 .done)))))))))) (by kernel_rfl) ?_
          refine rw_p rfl rfl (y_load rfl sc25 (hm.nt 0 rfl) rfl) ?_
          refine rw_p rfl rfl (y_nil rfl) ?_
          refine rw_p rfl rfl (y_fieldAddr rfl fo72_2) ?_
          refine rw_p rfl rfl (y_fieldAddr rfl fo58_2) ?_
          refine rw_p rfl rfl (y_load rfl sc3 (hm.nt 1 rfl) rfl) ?_
          refine rw_p rfl rfl (y_add rfl rfl rfl) ?_
          refine rw_p rfl rfl (y_nil rfl) ?_
          refine rw_p rfl rfl (y_fieldAddr rfl fo72_2) ?_
          refine rw_p rfl rfl (y_fieldAddr rfl fo58_2) ?_
          refine a_store rfl rfl rfl rfl sz3 rfl hm 1 rfl rfl fun w hm => ?_
          refine rw_done ?_
          refine gn_sq ?_
          refine HW_seq rfl ?_
          refine HW_text (.pure 0 .done) (by kernel_rfl) ?_
          refine rw_p rfl rfl (y_assign rfl) ?_
          refine rw_done ?_
          refine gn_sq ?_
          refine HW_ret rfl ?_
          refine toR (fin hret rfl (.tmp rfl .nil) .one ?_)
          exact ⟨by rw [Pl.wCode_cr hc0 hbl, if_pos hw0], _, by rw [Pl.wDv_cr hc0 hbl hw0]; exact (hz9.as (D2 := { Pl.persist { Pl.wAdd D i bs with wr := (-1) } (Pl.keepB D.kp) with dn := true, sC := Pl.inc D.sC }) rfl rfl (by rw [← Pl.wDv_cr hc0 hbl hw0]; exact Pl.ok_write hok hcl)).dev _, (hm.pickT [1, 2, 3, 4] 5 rfl)⟩

end Go.Proofs.Ythokcfkcamcapaa
