/- Contracts of functions of the program: what each returns. Conditions: the hypotheses of each theorem. -/
import Derived.Test.YthailbggeafckaaGreatJpC
set_option linter.unusedVariables false
set_option linter.unusedSimpArgs false
namespace Go.Proofs.YthailbggeafckaaGreat
open Go Go.Cx

theorem go34 : isGo Tryz.prog 34 = true := by kernel_rfl
theorem un4 : Tryz.prog.underlying 4 = some .bool := by kernel_rfl

theorem bagR {q : Nat × Blk} {M A Zw Zr : List (Nat × Blk)} : ((q :: M) ++ (A ++ (Zw ++ Zr))).Perm (A ++ (Zw ++ (q :: (Zr ++ M)))) := by
  have h1 : ((q :: M) ++ (A ++ (Zw ++ Zr))).Perm ((A ++ (Zw ++ Zr)) ++ (q :: M)) := List.perm_append_comm
  refine h1.trans ?_
  rw [List.append_assoc, List.append_assoc]
  refine List.Perm.append_left A (List.Perm.append_left Zw ?_)
  exact List.perm_middle
theorem jla_la {S : Pl.Jn} (h : S.has = false → S.la = Pl.rc0) : Pl.jla S = S.la := by
  unfold Pl.jla
  cases hs : S.has with
  | true => rfl
  | false => rw [h hs]; rfl

set_option maxHeartbeats 1600000 in
theorem law_same (D : Pl.Dv) (m mr : Nat) (Zw Zr : List (Nat × Blk)) (f N : Nat) (b k : Int) (S : Pl.Jn) (j jr : Nat) (Zj : List (Nat × Blk)) (pr : Option Addr) (cr : Nat) (w0 : World) (hZw : OwnZ w0 Zw) (hz : DevZ 107 157 5 D m Zw) (hZr : OwnZ w0 Zr) (hy : RefZ 50 172 5 D mr Zr) (hb : Pl.I64 b) (hN : Pl.slot (D.sz : Int) b = (N : Int)) (h0 : N ≠ 0) (h2 : f + 2 * N ≤ D.cnt) (hO : OwnZ w0 Zj) (hj : JZ 68 5 m (f : Int) b k S j Zj) (hjr : w0.heap[jr]? = some (Blk.row 80 (rjrow (.pointer (some ⟨mr, 0, none⟩)) (f : Int) b k S pr cr)).toObj) (hrd : Rd w0 pr (S.la.bs.flatMap encB)) (hla : S.has = false → S.la = Pl.rc0) (hl : S.la.bs.length ≤ 140737488355328) : C Tryz.prog 10 [.pointer (some ⟨j, 0, none⟩), .pointer (some ⟨jr, 0, none⟩)] w0 fun v w' => v = .bool true ∧ Ext No w0 w' := by
  obtain ⟨p_x, c_x, g_x, b_x, rfl, ha_x⟩ := hj
  have hJ := hO.get (k := 0) rfl
  obtain ⟨pbY, cbY, pcY, ccY, csY, hPm, -⟩ := hy.row hZr
  have hjs := jla_la hla
  have hok := hz.ok
  have o4 := hok.max
  have o7 : D.sz ≤ D.cnt * D.sz := Nat.le_mul_of_pos_left _ hok.cnt
  have hsb := Pl.slot_bnd (D.sz : Int) b
  refine C_of Tryz.func10 rfl rfl rfl fun κ hret hnorm => ?_
  have hm := Mem.start w0
  refine HW_seq rfl ?_
  refine HW_text (.pure 0 .done) (by kernel_rfl) ?_
  refine rw_p rfl rfl (y_assign rfl) ?_
  refine rw_done ?_
  refine gn_sq ?_
  refine HW_seq rfl ?_
  refine HW_seq rfl ?_
  refine HW_text (.pure 0 (.pure 1 .done)) (by kernel_rfl) ?_
  refine rw_p rfl rfl (y_move rfl) ?_
  refine rw_p rfl rfl (y_pnil rfl rfl pb33) ?_
  refine rw_done ?_
  refine gn_sq ?_
  refine HW_condF rfl rfl rfl ?_
  refine HW_skip rfl ?_
  refine gn_sq ?_
  refine HW_seq rfl ?_
  refine HW_text (.pure 0 (.act 1 (.pure 2 (.pure 3 (.pure 4 (.act 5 (.act 6 (.pure 7 .done)))))))) (by kernel_rfl) ?_
  refine rw_p rfl rfl (y_move rfl) ?_
  refine a_call rfl rfl rfl go19 (j_last m f b k S j _ _ (hO.ext hm.to) ⟨p_x, c_x, g_x, b_x, rfl, ha_x⟩ hl) fun v w hR => ?_
  obtain ⟨p_z, cap_z, g_z, b_z, rfl, ha_z, hmc⟩ := hR
  refine ⟨trivial, ?_⟩
  have hg_z : b_z.real = true → _ := fun hr => (hmc.fresh _ List.mem_cons_self hr).resolve_left id
  replace hm := hm.callN hmc
  refine rw_p rfl rfl (y_move rfl) ?_
  refine rw_p rfl rfl (y_extract rfl rfl) ?_
  refine rw_p rfl rfl (y_extract rfl rfl) ?_
  refine a_alloc rfl rfl z57 hm trivial fun m1 w hg_m1 hm hh => ?_
  refine a_store rfl rfl rfl rfl sz57 rfl hm 0 rfl rfl fun w hm => ?_
  refine rw_p rfl rfl (y_assign rfl) ?_
  refine rw_done ?_
  refine gn_sq ?_
  refine HW_seq rfl ?_
  refine HW_draw (.pure 0 (.pure 1 (.pure 2 (.pure 3 (.pure 4 (.pure 5 (.pure 6 (.pure 7 (.pure 8 (.pure 9 (.pure 10 (.pure 11 (.act 12 (.pure 13 (.pure 14 (.pure 15 (.pure 17 (.pure 18 (.pure 19 (.pure 20 (.act 16 (.pure 21 (.pure 22 (.pure 23 (.pure 24 (.pure 26 (.pure 27 (.pure 28 (.pure 29 (.pure 30 (.pure 31 (.pure 32 (.pure 33 (.pure 34 (.pure 35 (.pure 36 (.pure 37 (.pure 38 (.pure 39 (.pure 40 (.act 25 (.act 41 (.pure 42 (.pure 43 (.pure 44 (.pure 45 (.pure 46 .done))))))))))))))))))))))))))))))))))))))))))))))) No mix (by kernel_rfl) hm fun w hw hm0 hh => ?_
  have hm := hm0
  refine rw_p rfl rfl (y_move rfl) ?_
  refine rw_p rfl rfl (y_move rfl) ?_
  refine rw_p rfl rfl (y_nil rfl) ?_
  refine rw_p rfl rfl (y_fieldAddr rfl fo80_5) ?_
  refine rw_p rfl rfl (y_load rfl sc4 (fun u hu => ((hm0.to.trans hu).same _ (Array.getElem?_eq_some_iff.1 hjr).1 id).trans hjr) rfl) ?_
  refine rw_p rfl rfl (y_as (c := true) (y_beql rfl rfl un4) (beq_self_eq_true _)) ?_
  refine rw_p rfl rfl (y_move rfl) ?_
  refine rw_p rfl rfl (y_loadA (s := 5) (vs := [_, _, _, _, _]) rfl ag57 (hm0.nd 0 rfl id) rfl) ?_
  refine rw_p rfl rfl (y_move rfl) ?_
  refine rw_p rfl rfl (y_nil rfl) ?_
  refine rw_p rfl rfl (y_fieldAddr rfl fo80_6) ?_
  refine rw_p rfl rfl (y_loadA (s := 5) (vs := [_, _, _, _, _]) rfl ag78 (fun u hu => ((hm0.to.trans hu).same _ (Array.getElem?_eq_some_iff.1 hjr).1 id).trans hjr) rfl) ?_
  refine a_call rfl rfl rfl go34 (C.as (v := .bool true) (r21_same (Pl.jla S) S.la p_z pr cap_z cr _ (ha_z.rd hm 1 rfl) (hrd.ext0 hm.to)) (congrArg Value.bool (by rw [hjs]; exact Pl.rsame_refl _))) fun v w hR => ?_
  obtain ⟨rfl, hE⟩ := hR
  refine ⟨hh.ext hE, ?_⟩
  replace hm := hm.ext hE
  replace hh := hh.ext hE
  refine rw_p rfl rfl (y_pickT rfl rfl) ?_
  refine rw_p rfl rfl (y_move rfl) ?_
  refine rw_p rfl rfl (y_move rfl) ?_
  refine rw_p rfl rfl (y_move rfl) ?_
  refine rw_p rfl rfl (y_nil rfl) ?_
  refine rw_p rfl rfl (y_fieldAddr rfl fo80_4) ?_
  refine rw_p rfl rfl (y_load rfl sc23 (fun u hu => ((hm0.to.trans hu).same _ (Array.getElem?_eq_some_iff.1 hjr).1 id).trans hjr) rfl) ?_
  refine a_call rfl rfl rfl go21 (j_next m f b _ S j k p_x c_x ((hm.to.same _ (Array.getElem?_eq_some_iff.1 hJ).1 id).trans hJ)) fun v w hR => ?_
  obtain ⟨rfl, hE⟩ := hR
  refine ⟨hh.ext hE, ?_⟩
  replace hm := hm.ext hE
  replace hh := hh.ext hE
  refine rw_p rfl rfl (y_as (c := true) (y_eq rfl rfl) (by simp)) ?_
  refine rw_p rfl rfl (y_pickT rfl rfl) ?_
  refine rw_p rfl rfl (y_move rfl) ?_
  refine rw_p rfl rfl (y_move rfl) ?_
  refine rw_p rfl rfl (y_move rfl) ?_
  refine rw_p rfl rfl (y_nil rfl) ?_
  refine rw_p rfl rfl (y_fieldAddr rfl fo80_1) ?_
  refine rw_p rfl rfl (y_load rfl sc3 (fun u hu => ((hm0.to.trans hu).same _ (Array.getElem?_eq_some_iff.1 hjr).1 id).trans hjr) rfl) ?_
  refine rw_p rfl rfl (y_move rfl) ?_
  refine rw_p rfl rfl (y_nil rfl) ?_
  refine rw_p rfl rfl (y_fieldAddr rfl fo80_0) ?_
  refine rw_p rfl rfl (y_load rfl sc28 (fun u hu => ((hm0.to.trans hu).same _ (Array.getElem?_eq_some_iff.1 hjr).1 id).trans hjr) rfl) ?_
  refine rw_p rfl rfl (y_nil rfl) ?_
  refine rw_p rfl rfl (y_fieldAddr rfl fo50_0) ?_
  refine rw_p rfl rfl (y_load rfl sc3 (fun u hu => ((hm0.to.trans hu).same _ (Array.getElem?_eq_some_iff.1 hPm).1 id).trans hPm) rfl) ?_
  refine rw_p rfl rfl (y_move rfl) ?_
  refine rw_p rfl rfl (y_nil rfl) ?_
  refine rw_p rfl rfl (y_fieldAddr rfl fo80_2) ?_
  refine rw_p rfl rfl (y_load rfl sc3 (fun u hu => ((hm0.to.trans hu).same _ (Array.getElem?_eq_some_iff.1 hjr).1 id).trans hjr) rfl) ?_
  refine a_call rfl rfl rfl go22 (j_region D m Zw _ (hZw.ext hm.to) hz f N b hb hN h0 h2 S j k p_x c_x ((hm.to.same _ (Array.getElem?_eq_some_iff.1 hJ).1 id).trans hJ)) fun v w hR => ?_
  obtain ⟨rfl, hE⟩ := hR
  refine ⟨hh.ext hE, ?_⟩
  replace hm := hm.ext hE
  replace hh := hh.ext hE
  refine a_call rfl rfl rfl go29 (C.as (v := .int .i64 (N : Int)) (r22_slot (D.sz : Int) b _ (by simp only [Pl.I64]; omega) hb) (by rw [hN])) fun v w hR => ?_
  obtain ⟨rfl, hE⟩ := hR
  refine ⟨hh.ext hE, ?_⟩
  replace hm := hm.ext hE
  replace hh := hh.ext hE
  refine rw_p rfl rfl (y_mul rfl rfl ((i64w (by omega) (by omega)).trans (show _ = ((2 * N : Nat) : Int) by omega))) ?_
  refine rw_p rfl rfl (y_build (cs := [_, _]) z63 ft63 rfl rfl rfl rfl rfl) ?_
  refine rw_p rfl rfl (y_as (c := true) (y_eq2 rfl rfl iii63) (by simp)) ?_
  refine rw_p rfl rfl (y_pickT rfl rfl) ?_
  refine rw_p rfl rfl (y_assign rfl) ?_
  refine rw_done ?_
  refine gn_sq ?_
  refine HW_ret rfl ?_
  refine toR (fin hret rfl (.tmp rfl .nil) .one ?_)
  exact ⟨rfl, hm.to⟩

end Go.Proofs.YthailbggeafckaaGreat
