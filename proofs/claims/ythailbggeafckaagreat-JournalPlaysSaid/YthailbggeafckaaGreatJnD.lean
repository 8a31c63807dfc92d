/- Contracts of functions of the program: what each returns. Conditions: the hypotheses of each theorem. -/
import Derived.Test.YthailbggeafckaaGreatJnC
set_option linter.unusedVariables false
set_option linter.unusedSimpArgs false
namespace Go.Proofs.YthailbggeafckaaGreat
open Go Go.Cx

theorem fo68_1 : fldO Tryz.prog 68 1 = some 3 := by kernel_rfl
theorem fv63_0 : fldV Tryz.prog 63 0 = some (0, 1, false) := by kernel_rfl
theorem go36 : isGo Tryz.prog 36 = true := by kernel_rfl
theorem go37 : isGo Tryz.prog 37 = true := by kernel_rfl
theorem go38 : isGo Tryz.prog 38 = true := by kernel_rfl
theorem pb33 : ptrB Tryz.prog 33 = true := by kernel_rfl

set_option maxHeartbeats 3200000 in
theorem j_append (D : Pl.Dv) (m : Nat) (Z : List (Nat × Blk)) (S : Pl.Jn) (j : Nat) (Zj : List (Nat × Blk)) (f N : Nat) (b k : Int) (cu of : Int) (q : Option Addr) (cq : Nat) (ps : List SB) (BB : List UInt8) (w0 : World) (hZ : OwnZ w0 (Zj ++ Z)) (hz : DevZ 107 157 5 D m Z) (hj : JZ 68 5 m (f : Int) b k S j Zj) (hb : Pl.I64 b) (hN : Pl.slot (D.sz : Int) b = (N : Int)) (h0 : N ≠ 0) (h2 : f + 2 * N ≤ D.cnt) (hS : 0 ≤ S.nx ∧ S.nx ≤ 18446744073709551615) (hk : 0 ≤ k ∧ k ≤ 18446744073709551615) (hcu : Pl.I64 cu) (hof : Pl.I64 of) (hq : Rd w0 q (ps.flatMap encS)) (hps : ∀ s ∈ ps, Rd w0 s.p (s.bs.flatMap encB)) (hl : ps.length ≤ 4611686018427387903) (hBB : ps.flatMap (·.bs) = BB) (hbl : BB.length ≤ 70368744177600) (hcl : D.ca.length + D.cnt ≤ 1000000000) : C Tryz.prog 11 [.pointer (some ⟨j, 0, none⟩), .int .i64 cu, .int .i64 of, .slice q ps.length cq] w0 fun v w' => v = .int .i64 (Pl.japp D f N b S (Pl.jmk S k cu of BB)).1 ∧ ∃ Zj' Z', JZ 68 5 m (f : Int) b k (Pl.japp D f N b S (Pl.jmk S k cu of BB)).2.2 j Zj' ∧ DevZ 107 157 5 (Pl.japp D f N b S (Pl.jmk S k cu of BB)).2.1 m Z' ∧ Mem w0 w' (Mn (reals (Zj ++ Z))) (Zj' ++ Z') := by
  have hok := hz.ok
  have o1 := hok.sz
  have o4 := hok.max
  have o3 := hok.cnt
  have o5 : D.cnt ≤ D.cnt * D.sz := Nat.le_mul_of_pos_right _ o1
  obtain ⟨p_x, c_x, g_x, b_x, rfl, ha_x⟩ := hj
  have hJ := hZ.get (k := 0) rfl
  have hfit := Pl.slot_fit hN h0
  have hcast : ((N * D.sz : Nat) : Int) = (N : Int) * (D.sz : Int) := Int.natCast_mul N D.sz
  have hkr : Pl.okRc (Pl.jmk S k cu of BB) := ⟨hS, hk, hcu, hof⟩
  have hlt := Pl.jslot_lt S
  have hmod : IntKind.i64.wrap (S.nx.tmod 2) = ((Pl.jslotN S : Nat) : Int) := by
    have h9 : S.nx.tmod 2 = ((Pl.jslotN S : Nat) : Int) := by rw [Int.tmod_eq_emod_of_nonneg hS.1]; unfold Pl.jslotN; have := Int.emod_nonneg S.nx (show (2 : Int) ≠ 0 by decide); omega
    rw [h9]; exact i64w (by omega) (by omega)
  have hin : f + Pl.jslotN S * N + N ≤ D.cnt := by rcases (show Pl.jslotN S = 0 ∨ Pl.jslotN S = 1 by omega) with h9 | h9 <;> rw [h9] <;> omega
  refine C_of Tryz.func11 rfl rfl rfl fun κ hret hnorm => ?_
  have hm := Mem.start w0
  refine HW_seq rfl ?_
  refine HW_text (.pure 0 .done) (by kernel_rfl) ?_
  refine rw_p rfl rfl (y_assign rfl) ?_
  refine rw_done ?_
  refine gn_sq ?_
  refine HW_seq rfl ?_
  refine HW_seq rfl ?_
  refine HW_text (.pure 0 (.pure 1 .done)) (by kernel_rfl) ?_
  refine rw_p rfl rfl (y_move rfl) ?_
  refine rw_p rfl rfl (y_pnil rfl rfl pb33) ?_
  refine rw_done ?_
  refine gn_sq ?_
  refine HW_condF rfl rfl rfl ?_
  refine HW_skip rfl ?_
  refine gn_sq ?_
  refine HW_seq rfl ?_
  refine HW_draw (.pure 0 (.pure 1 (.pure 2 (.pure 3 (.pure 4 (.pure 5 (.pure 6 (.pure 7 (.pure 8 (.pure 9 (.pure 10 (.act2 11 (.pure 12 (.act 13 (.cut (.act 14 .done)))) 13 (.act 11 (.pure 12 (.cut (.act 14 .done)))))))))))))))) No mix (by kernel_rfl) hm fun w hw hm0 hh => ?_
  have hm := hm0
  refine rw_p rfl rfl (y_move rfl) ?_
  refine rw_p rfl rfl (y_nil rfl) ?_
  refine rw_p rfl rfl (y_fieldAddr rfl fo68_2) ?_
  refine rw_p rfl rfl (y_load rfl sc23 (fun u hu => ((hm0.to.trans hu).same _ (Array.getElem?_eq_some_iff.1 hJ).1 id).trans hJ) rfl) ?_
  refine rw_p rfl rfl (y_move rfl) ?_
  refine rw_p rfl rfl (y_nil rfl) ?_
  refine rw_p rfl rfl (y_fieldAddr rfl fo68_1) ?_
  refine rw_p rfl rfl (y_load rfl sc23 (fun u hu => ((hm0.to.trans hu).same _ (Array.getElem?_eq_some_iff.1 hJ).1 id).trans hJ) rfl) ?_
  refine rw_p rfl rfl (y_move rfl) ?_
  refine rw_p rfl rfl (y_move rfl) ?_
  refine rw_p rfl rfl (y_move rfl) ?_
  refine a_two ?_ ?_
  ·
    refine a_call rfl rfl rfl go35 (concat_b q cq ps _ (hq.ext0 hm.to) (fun s hs => (hps s hs).ext0 hm.to) hl (by rw [hBB]; omega)) fun v w hR => ?_
    obtain ⟨p_s, n_s, cap_s, g_s, b_s, rfl, ha_s, hmc⟩ := hR
    refine ⟨hh.ext hmc.to, ?_⟩
    replace hh := hh.ext hmc.to
    replace hm := hm.callN hmc
    rw [hBB] at ha_s
    obtain rfl : n_s = BB.length := ha_s.lenB
    refine rw_p rfl rfl (y_build (cs := [_, _, _, _, _]) z57 ft57 rfl rfl rfl rfl rfl) ?_
    refine a_alloc rfl rfl z57 hm hh fun m1 w hg_m1 hm hh => ?_
    refine a_cut ?_
    refine a_store rfl rfl rfl rfl sz57 rfl hm 0 rfl rfl fun w hm => ?_
    refine rw_done ?_
    refine gn_sq ?_
    refine HW_seq rfl ?_
    cases hr : Pl.rright (Pl.jmk S k cu of BB)
    ·
      refine HW_text (.pure 0 (.act 1 (.pure 2 (.pure 3 (.pure 4 (.pure 5 (.pure 6 .done))))))) (by kernel_rfl) ?_
      refine rw_p rfl rfl (y_loadA (s := 5) (vs := [_, _, _, _, _]) rfl ag57 (hm.nt 0 rfl) rfl) ?_
      refine a_call rfl rfl rfl go36 (rec_encF (Pl.jmk S k cu of BB) p_s cap_s _ (ha_s.rd hm 1 rfl) hkr hbl hr) fun v w hR => ?_
      obtain ⟨⟨q_, c_, rfl⟩, hE⟩ := hR
      refine ⟨trivial, ?_⟩
      replace hm := hm.ext hE
      refine rw_p rfl rfl (y_move rfl) ?_
      refine rw_p rfl rfl (y_extract rfl rfl) ?_
      refine rw_p rfl rfl (y_extract rfl rfl) ?_
      refine rw_p rfl rfl (y_assign rfl) ?_
      refine rw_p rfl rfl (y_assign rfl) ?_
      refine rw_done ?_
      refine gn_sq ?_
      refine HW_seq rfl ?_
      refine HW_seq rfl ?_
      refine HW_draw (.pure 0 (.pure 1 (.pure 2 (.pure 3 (.pure 4 (.pure 5 (.pure 6 (.pure 7 (.pure 8 (.pure 9 (.pure 10 (.pure 11 (.pure 12 .done))))))))))))) No mix (by kernel_rfl) hm fun w hw hm0 hh => ?_
      have hm := hm0
      refine rw_p rfl rfl (y_move rfl) ?_
      refine rw_p rfl rfl (y_as (c := true) (y_ne rfl rfl) (by decide)) ?_
      refine rw_p rfl rfl (y_move rfl) ?_
      refine rw_gf rfl rfl (by decide) rfl ?_
      refine rw_gf rfl rfl (by decide) rfl ?_
      refine rw_gf rfl rfl (by decide) rfl ?_
      refine rw_gf rfl rfl (by decide) rfl ?_
      refine rw_gf rfl rfl (by decide) rfl ?_
      refine rw_gf rfl rfl (by decide) rfl ?_
      refine rw_gf rfl rfl (by decide) rfl ?_
      refine rw_gf rfl rfl (by decide) rfl ?_
      refine rw_gf rfl rfl (by decide) rfl ?_
      refine rw_p rfl rfl (y_pickT rfl rfl) ?_
      refine rw_done ?_
      refine gn_sq ?_
      refine HW_condT rfl rfl rfl ?_
      refine HW_seq rfl ?_
      refine HW_text (.pure 0 .done) (by kernel_rfl) ?_
      refine rw_p rfl rfl (y_assign rfl) ?_
      refine rw_done ?_
      refine gn_sq ?_
      refine HW_ret rfl ?_
      refine gr_sq ?_
      refine toR (fin hret rfl (.tmp rfl .nil) .one ?_)
      exact ⟨by rw [show (Pl.japp D f N b S (Pl.jmk S k cu of BB)) = (2, D, S) from if_neg (fun h9 => by rw [hr] at h9; cases h9.1)], [_, _], Z, by rw [show (Pl.japp D f N b S (Pl.jmk S k cu of BB)) = (2, D, S) from if_neg (fun h9 => by rw [hr] at h9; cases h9.1)]; exact ⟨p_x, c_x, g_x, b_x, rfl, ha_x⟩, by rw [show (Pl.japp D f N b S (Pl.jmk S k cu of BB)) = (2, D, S) from if_neg (fun h9 => by rw [hr] at h9; cases h9.1)]; exact hz, (hm.withZ hZ).right⟩
    ·
      refine HW_text (.pure 0 (.act 1 (.pure 2 (.pure 3 (.pure 4 (.pure 5 (.pure 6 .done))))))) (by kernel_rfl) ?_
      refine rw_p rfl rfl (y_loadA (s := 5) (vs := [_, _, _, _, _]) rfl ag57 (hm.nt 0 rfl) rfl) ?_
      refine a_call rfl rfl rfl go36 (rec_encT (Pl.jmk S k cu of BB) p_s cap_s _ (ha_s.rd hm 1 rfl) hkr hbl hr) fun v w hR => ?_
      obtain ⟨p_z, cap_z, g_z, b_z, rfl, ha_z, hmc⟩ := hR
      refine ⟨trivial, ?_⟩
      have hg_z : b_z.real = true → _ := fun hr => (hmc.fresh _ List.mem_cons_self hr).resolve_left id
      replace hm := hm.callN hmc
      refine rw_p rfl rfl (y_move rfl) ?_
      refine rw_p rfl rfl (y_extract rfl rfl) ?_
      refine rw_p rfl rfl (y_extract rfl rfl) ?_
      refine rw_p rfl rfl (y_assign rfl) ?_
      refine rw_p rfl rfl (y_assign rfl) ?_
      refine rw_done ?_
      refine gn_sq ?_
      refine HW_seq rfl ?_
      refine HW_seq rfl ?_
      refine HW_draw (.pure 0 (.pure 1 (.pure 2 (.pure 3 (.pure 4 (.pure 5 (.pure 6 (.pure 7 (.pure 8 (.pure 9 (.pure 10 (.pure 11 (.pure 12 .done))))))))))))) No mix (by kernel_rfl) hm fun w hw hm0 hh => ?_
      have hm := hm0
      refine rw_p rfl rfl (y_move rfl) ?_
      refine rw_p rfl rfl (y_as (c := false) (y_ne rfl rfl) (by decide)) ?_
      refine rw_p rfl rfl (y_move rfl) ?_
      refine rw_p rfl rfl (y_fieldAddr rfl fo57_4) ?_
      refine rw_p rfl rfl (y_load rfl sc22 (hm0.nd 1 rfl id) rfl) ?_
      refine rw_p rfl rfl (y_len rfl rfl sl22) ?_
      refine rw_p rfl rfl (y_move rfl) ?_
      refine rw_p rfl rfl (y_nil rfl) ?_
      refine rw_p rfl rfl (y_fieldAddr rfl fo68_0) ?_
      refine rw_p rfl rfl (y_fieldAddr rfl fo66_2) ?_
      refine rw_p rfl rfl (y_load rfl sc3 (fun u hu => ((hm0.to.trans hu).same _ (Array.getElem?_eq_some_iff.1 hJ).1 id).trans hJ) rfl) ?_
      refine rw_p rfl rfl (y_gt rfl rfl) ?_
      refine rw_p rfl rfl (y_pickF rfl rfl) ?_
      refine rw_done ?_
      refine gn_sq ?_
      refine HW_cond rfl rfl (fun hc1 => ?_) (fun hc1 => ?_)
      ·
        refine HW_seq rfl ?_
        refine HW_text (.pure 0 .done) (by kernel_rfl) ?_
        refine rw_p rfl rfl (y_assign rfl) ?_
        refine rw_done ?_
        refine gn_sq ?_
        refine HW_ret rfl ?_
        refine gr_sq ?_
        refine toR (fin hret rfl (.tmp rfl .nil) .one ?_)
        exact ⟨by rw [show (Pl.japp D f N b S (Pl.jmk S k cu of BB)) = (2, D, S) from if_neg (fun h9 => by have h8 : (BB.length : Int) ≤ b := h9.2; simp only [decide_eq_true_eq] at hc1; omega)], [_, _], Z, by rw [show (Pl.japp D f N b S (Pl.jmk S k cu of BB)) = (2, D, S) from if_neg (fun h9 => by have h8 : (BB.length : Int) ≤ b := h9.2; simp only [decide_eq_true_eq] at hc1; omega)]; exact ⟨p_x, c_x, g_x, b_x, rfl, ha_x⟩, by rw [show (Pl.japp D f N b S (Pl.jmk S k cu of BB)) = (2, D, S) from if_neg (fun h9 => by have h8 : (BB.length : Int) ≤ b := h9.2; simp only [decide_eq_true_eq] at hc1; omega)]; exact hz, (hm.withZ hZ).right⟩
      ·
        simp only [decide_eq_false_iff_not] at hc1
        have hgo : (Pl.japp D f N b S (Pl.jmk S k cu of BB)) = Pl.jgo D f N S (Pl.jmk S k cu of BB) := if_pos ⟨hr, by show (BB.length : Int) ≤ b; omega⟩
        have hEl := Pl.renc_len (Pl.jmk S k cu of BB)
        have hEb : (Pl.renc (Pl.jmk S k cu of BB)).length = 44 + BB.length := hEl
        have hon : Pl.onD D (((Pl.jat D f N (Pl.jslotN S)) : Nat) : Int) ((Pl.renc (Pl.jmk S k cu of BB)).length : Int) = true := Pl.jon hok h2 (Pl.jslot_lt S) (by have h9 := hfit.2.2.2.1; omega)
        replace hm := hm.withZ hZ
        refine HW_skip rfl ?_
        refine gn_sq ?_
        refine HW_seq rfl ?_
        refine HW_seq rfl ?_
        refine HW_draw (.pure 0 (.pure 1 (.pure 2 (.pure 3 (.pure 4 (.pure 5 (.pure 6 (.pure 7 (.pure 8 (.pure 9 (.pure 10 (.pure 11 (.pure 12 (.pure 13 (.pure 14 (.pure 17 (.act2 15 (.pure 16 (.act 18 (.cut (.act 19 (.pure 20 .done))))) 18 (.act 15 (.pure 16 (.cut (.act 19 (.pure 20 .done)))))))))))))))))))))) No mix (by kernel_rfl) hm fun w hw hm0 hh => ?_
        have hm := hm0
        refine rw_p rfl rfl (y_move rfl) ?_
        refine rw_p rfl rfl (y_nil rfl) ?_
        refine rw_p rfl rfl (y_fieldAddr rfl fo68_0) ?_
        refine rw_p rfl rfl (y_fieldAddr rfl fo66_0) ?_
        refine rw_p rfl rfl (y_load rfl sc27 (hm0.nd 3 rfl id) rfl) ?_
        refine rw_p rfl rfl (y_move rfl) ?_
        refine rw_p rfl rfl (y_nil rfl) ?_
        refine rw_p rfl rfl (y_fieldAddr rfl fo68_0) ?_
        refine rw_p rfl rfl (y_loadA (s := 3) (vs := [_, _, _]) rfl ag66 (hm0.nd 3 rfl id) rfl) ?_
        refine rw_p rfl rfl (y_move rfl) ?_
        refine rw_p rfl rfl (y_nil rfl) ?_
        refine rw_p rfl rfl (y_fieldAddr rfl fo68_2) ?_
        refine rw_p rfl rfl (y_load rfl sc23 (hm0.nd 3 rfl id) rfl) ?_
        refine rw_p rfl rfl (y_rem rfl rfl (by omega) rfl) ?_
        refine rw_p rfl rfl (y_conv rfl is23 it3 hmod) ?_
        refine rw_p rfl rfl (y_move rfl) ?_
        refine a_two ?_ ?_
        ·
          refine a_call rfl rfl rfl go26 (jr_slot D m Z _ (OwnZ.right (A := [_, _, _, _, _]) hm.ownZ) hz f N b hb hN (Pl.jslotN S) hin) fun v w hR => ?_
          obtain ⟨rfl, hE⟩ := hR
          refine ⟨hh.ext hE, ?_⟩
          replace hm := hm.ext hE
          replace hh := hh.ext hE
          refine rw_p rfl rfl (y_fieldV rfl fv63_0 rfl) ?_
          refine a_buildSlice (l := [_]) rfl rfl sl89 z22 rfl rfl rfl rfl rfl rfl rfl hm hh fun m2 w hg_m2 hm hh => ?_
          refine a_cut ?_
          refine a_call rfl rfl rfl go37 (f_write D m Z (Pl.jat D f N (Pl.jslotN S)) _ 1 [⟨p_z, cap_z, (Pl.renc (Pl.jmk S k cu of BB))⟩] (Pl.renc (Pl.jmk S k cu of BB)) _ (OwnZ.right (A := [_, _, _, _, _, _]) hm.ownZ) hz hon (Rd.row0 (hm.get (k := 0) rfl)) (fun s hs => by rw [List.mem_singleton.1 hs]; exact ha_z.rd hm 1 rfl) (by simp) (by simp) (by rw [hEb]; omega) hcl) fun v w hR => ?_
          obtain ⟨rfl, Z2, hz2, hmc⟩ := hR
          refine ⟨trivial, ?_⟩
          replace hm := Mem.callZL (A := [_, _, _, _, _, _]) hm hmc
          have hws := (Pl.wrS_ok (Pl.jat D f N (Pl.jslotN S)) (Pl.renc (Pl.jmk S k cu of BB)) (Pl.sN D.sz (Pl.jat D f N (Pl.jslotN S)) (Pl.renc (Pl.jmk S k cu of BB)).length) (Pl.sF D.sz (Pl.jat D f N (Pl.jslotN S)) (Pl.renc (Pl.jmk S k cu of BB)).length) D hok (by have := Pl.s_cnt (sz := D.sz) (a := (Pl.jat D f N (Pl.jslotN S))) (b := (Pl.renc (Pl.jmk S k cu of BB)).length) o1 (show _ ≤ D.cnt * D.sz by have := (Pl.onD_iff.1 hon).2.2.2; omega) o3; omega)).2.2.2
          have hsn := Pl.s_cnt (sz := D.sz) (a := (Pl.jat D f N (Pl.jslotN S))) (b := (Pl.renc (Pl.jmk S k cu of BB)).length) o1 (show _ ≤ D.cnt * D.sz by have := (Pl.onD_iff.1 hon).2.2.2; omega) o3
          obtain ⟨⟨e1, D1⟩, hW⟩ : ∃ x : Int × Pl.Dv, (Pl.wrS (Pl.jat D f N (Pl.jslotN S)) (Pl.renc (Pl.jmk S k cu of BB)) (Pl.sN D.sz (Pl.jat D f N (Pl.jslotN S)) (Pl.renc (Pl.jmk S k cu of BB)).length) (Pl.sF D.sz (Pl.jat D f N (Pl.jslotN S)) (Pl.renc (Pl.jmk S k cu of BB)).length) D) = x := ⟨_, rfl⟩
          rw [hW] at hz2 hws ⊢
          have hW2 : Pl.jwr D f N S (Pl.jmk S k cu of BB) = (e1, D1) := hW
          have hg2 : Pl.jgo D f N S (Pl.jmk S k cu of BB) = if e1 ≠ 0 then (e1, D1, S) else if Pl.fCode D1 ≠ 0 then (Pl.fCode D1, Pl.fDv D1, S) else (0, Pl.fDv D1, ⟨IntKind.u64.wrap (S.nx + 1), true, (Pl.jmk S k cu of BB)⟩) := by unfold Pl.jgo; rw [hW2]
          refine rw_p rfl rfl (y_assign rfl) ?_
          refine rw_done ?_
          refine gn_sq ?_
          refine HW_seq rfl ?_
          refine HW_text (.pure 0 (.pure 1 .done)) (by kernel_rfl) ?_
          refine rw_p rfl rfl (y_move rfl) ?_
          refine rw_p rfl rfl (y_ne rfl rfl) ?_
          refine rw_done ?_
          refine gn_sq ?_
          refine HW_cond rfl rfl (fun hc2 => ?_) (fun hc2 => ?_)
          ·
            simp only [decide_eq_true_eq] at hc2
            rw [if_pos hc2] at hg2
            refine HW_seq rfl ?_
            refine HW_text (.pure 0 (.pure 1 .done)) (by kernel_rfl) ?_
            refine rw_p rfl rfl (y_move rfl) ?_
            refine rw_p rfl rfl (y_assign rfl) ?_
            refine rw_done ?_
            refine gn_sq ?_
            refine HW_ret rfl ?_
            refine gr_sq ?_
            refine toR (fin hret rfl (.tmp rfl .nil) .one ?_)
            exact ⟨by rw [hgo, hg2], [_, _], Z2, by rw [hgo, hg2]; exact ⟨p_x, c_x, g_x, b_x, rfl, ha_x⟩, by rw [hgo, hg2]; exact hz2, (hm.pickT [4, 5] 6 rfl)⟩
          ·
            simp only [decide_eq_false_iff_not] at hc2
            rw [if_neg hc2] at hg2
            refine HW_skip rfl ?_
            refine gn_sq ?_
            refine HW_seq rfl ?_
            refine HW_seq rfl ?_
            refine HW_text (.pure 0 (.pure 1 (.pure 2 (.pure 3 (.pure 4 (.act 5 (.pure 6 .done))))))) (by kernel_rfl) ?_
            refine rw_p rfl rfl (y_move rfl) ?_
            refine rw_p rfl rfl (y_nil rfl) ?_
            refine rw_p rfl rfl (y_fieldAddr rfl fo68_0) ?_
            refine rw_p rfl rfl (y_fieldAddr rfl fo66_0) ?_
            refine rw_p rfl rfl (y_load rfl sc27 (hm.nt 4 rfl) rfl) ?_
            refine a_call rfl rfl rfl go38 (o_flush D1 m Z2 _ (OwnZ.right (A := [_, _, _, _, _, _]) hm.ownZ) hz2 (by simp only at hws; omega)) fun v w hR => ?_
            obtain ⟨rfl, Z3, hz3, hmc⟩ := hR
            refine ⟨trivial, ?_⟩
            replace hm := Mem.callZL (A := [_, _, _, _, _, _]) hm hmc
            refine rw_p rfl rfl (y_assign rfl) ?_
            refine rw_done ?_
            refine gn_sq ?_
            refine HW_seq rfl ?_
            refine HW_text (.pure 0 (.pure 1 .done)) (by kernel_rfl) ?_
            refine rw_p rfl rfl (y_move rfl) ?_
            refine rw_p rfl rfl (y_ne rfl rfl) ?_
            refine rw_done ?_
            refine gn_sq ?_
            refine HW_cond rfl rfl (fun hc3 => ?_) (fun hc3 => ?_)
            ·
              simp only [decide_eq_true_eq] at hc3
              rw [if_pos hc3] at hg2
              refine HW_seq rfl ?_
              refine HW_text (.pure 0 (.pure 1 .done)) (by kernel_rfl) ?_
              refine rw_p rfl rfl (y_move rfl) ?_
              refine rw_p rfl rfl (y_assign rfl) ?_
              refine rw_done ?_
              refine gn_sq ?_
              refine HW_ret rfl ?_
              refine gr_sq ?_
              refine toR (fin hret rfl (.tmp rfl .nil) .one ?_)
              exact ⟨by rw [hgo, hg2], [_, _], Z3, by rw [hgo, hg2]; exact ⟨p_x, c_x, g_x, b_x, rfl, ha_x⟩, by rw [hgo, hg2]; exact hz3, (hm.pickT [4, 5] 6 rfl)⟩
            ·
              simp only [decide_eq_false_iff_not] at hc3
              rw [if_neg hc3] at hg2
              refine HW_skip rfl ?_
              refine gn_sq ?_
              refine HW_seq rfl ?_
              refine HW_text (.pure 0 (.pure 1 (.pure 2 (.pure 3 (.pure 4 (.act 5 (.pure 6 (.pure 7 (.act 8 .done))))))))) (by kernel_rfl) ?_
              refine rw_p rfl rfl (y_move rfl) ?_
              refine rw_p rfl rfl (y_move rfl) ?_
              refine rw_p rfl rfl (y_loadA (s := 5) (vs := [_, _, _, _, _]) rfl ag57 (hm.nt 2 rfl) rfl) ?_
              refine rw_p rfl rfl (y_nil rfl) ?_
              refine rw_p rfl rfl (y_fieldAddr rfl fo68_3) ?_
              refine a_store rfl rfl rfl rfl sz57 rfl hm 4 rfl rfl fun w hm => ?_
              refine rw_p rfl rfl (y_nil rfl) ?_
              refine rw_p rfl rfl (y_fieldAddr rfl fo68_4) ?_
              refine a_store rfl rfl rfl rfl sz4 rfl hm 4 rfl rfl fun w hm => ?_
              refine rw_done ?_
              refine gn_sq ?_
              refine HW_seq rfl ?_
              refine HW_text (.pure 0 (.pure 1 (.pure 2 (.pure 3 (.pure 4 (.pure 5 (.pure 6 (.act 7 .done)))))))) (by kernel_rfl) ?_
              refine rw_p rfl rfl (y_move rfl) ?_
              refine rw_p rfl rfl (y_nil rfl) ?_
              refine rw_p rfl rfl (y_fieldAddr rfl fo68_2) ?_
              refine rw_p rfl rfl (y_load rfl sc23 (hm.nt 4 rfl) rfl) ?_
              refine rw_p rfl rfl (y_add rfl rfl rfl) ?_
              refine rw_p rfl rfl (y_nil rfl) ?_
              refine rw_p rfl rfl (y_fieldAddr rfl fo68_2) ?_
              refine a_store rfl rfl rfl rfl sz23 rfl hm 4 rfl rfl fun w hm => ?_
              refine rw_done ?_
              refine gn_sq ?_
              refine HW_seq rfl ?_
              refine HW_text (.pure 0 .done) (by kernel_rfl) ?_
              refine rw_p rfl rfl (y_assign rfl) ?_
              refine rw_done ?_
              refine gn_sq ?_
              refine HW_ret rfl ?_
              refine toR (fin hret rfl (.tmp rfl .nil) .one ?_)
              exact ⟨by rw [hgo, hg2], [_, _], Z3, by rw [hgo, hg2]; exact ⟨p_s, cap_s, g_s, b_s, rfl, ha_s⟩, by rw [hgo, hg2]; exact hz3, (hm.pickT [4, 3] 6 rfl)⟩
        ·
          refine a_buildSlice (l := [_]) rfl rfl sl89 z22 rfl rfl rfl rfl rfl rfl rfl hm hh fun m2 w hg_m2 hm hh => ?_
          refine a_call rfl rfl rfl go26 (jr_slot D m Z _ (OwnZ.right (A := [_, _, _, _, _, _]) hm.ownZ) hz f N b hb hN (Pl.jslotN S) hin) fun v w hR => ?_
          obtain ⟨rfl, hE⟩ := hR
          refine ⟨hh.ext hE, ?_⟩
          replace hm := hm.ext hE
          replace hh := hh.ext hE
          refine rw_p rfl rfl (y_fieldV rfl fv63_0 rfl) ?_
          refine a_cut ?_
          refine a_call rfl rfl rfl go37 (f_write D m Z (Pl.jat D f N (Pl.jslotN S)) _ 1 [⟨p_z, cap_z, (Pl.renc (Pl.jmk S k cu of BB))⟩] (Pl.renc (Pl.jmk S k cu of BB)) _ (OwnZ.right (A := [_, _, _, _, _, _]) hm.ownZ) hz hon (Rd.row0 (hm.get (k := 0) rfl)) (fun s hs => by rw [List.mem_singleton.1 hs]; exact ha_z.rd hm 1 rfl) (by simp) (by simp) (by rw [hEb]; omega) hcl) fun v w hR => ?_
          obtain ⟨rfl, Z2, hz2, hmc⟩ := hR
          refine ⟨trivial, ?_⟩
          replace hm := Mem.callZL (A := [_, _, _, _, _, _]) hm hmc
          have hws := (Pl.wrS_ok (Pl.jat D f N (Pl.jslotN S)) (Pl.renc (Pl.jmk S k cu of BB)) (Pl.sN D.sz (Pl.jat D f N (Pl.jslotN S)) (Pl.renc (Pl.jmk S k cu of BB)).length) (Pl.sF D.sz (Pl.jat D f N (Pl.jslotN S)) (Pl.renc (Pl.jmk S k cu of BB)).length) D hok (by have := Pl.s_cnt (sz := D.sz) (a := (Pl.jat D f N (Pl.jslotN S))) (b := (Pl.renc (Pl.jmk S k cu of BB)).length) o1 (show _ ≤ D.cnt * D.sz by have := (Pl.onD_iff.1 hon).2.2.2; omega) o3; omega)).2.2.2
          have hsn := Pl.s_cnt (sz := D.sz) (a := (Pl.jat D f N (Pl.jslotN S))) (b := (Pl.renc (Pl.jmk S k cu of BB)).length) o1 (show _ ≤ D.cnt * D.sz by have := (Pl.onD_iff.1 hon).2.2.2; omega) o3
          obtain ⟨⟨e1, D1⟩, hW⟩ : ∃ x : Int × Pl.Dv, (Pl.wrS (Pl.jat D f N (Pl.jslotN S)) (Pl.renc (Pl.jmk S k cu of BB)) (Pl.sN D.sz (Pl.jat D f N (Pl.jslotN S)) (Pl.renc (Pl.jmk S k cu of BB)).length) (Pl.sF D.sz (Pl.jat D f N (Pl.jslotN S)) (Pl.renc (Pl.jmk S k cu of BB)).length) D) = x := ⟨_, rfl⟩
          rw [hW] at hz2 hws ⊢
          have hW2 : Pl.jwr D f N S (Pl.jmk S k cu of BB) = (e1, D1) := hW
          have hg2 : Pl.jgo D f N S (Pl.jmk S k cu of BB) = if e1 ≠ 0 then (e1, D1, S) else if Pl.fCode D1 ≠ 0 then (Pl.fCode D1, Pl.fDv D1, S) else (0, Pl.fDv D1, ⟨IntKind.u64.wrap (S.nx + 1), true, (Pl.jmk S k cu of BB)⟩) := by unfold Pl.jgo; rw [hW2]
          refine rw_p rfl rfl (y_assign rfl) ?_
          refine rw_done ?_
          refine gn_sq ?_
          refine HW_seq rfl ?_
          refine HW_text (.pure 0 (.pure 1 .done)) (by kernel_rfl) ?_
          refine rw_p rfl rfl (y_move rfl) ?_
          refine rw_p rfl rfl (y_ne rfl rfl) ?_
          refine rw_done ?_
          refine gn_sq ?_
          refine HW_cond rfl rfl (fun hc2 => ?_) (fun hc2 => ?_)
          ·
            simp only [decide_eq_true_eq] at hc2
            rw [if_pos hc2] at hg2
            refine HW_seq rfl ?_
            refine HW_text (.pure 0 (.pure 1 .done)) (by kernel_rfl) ?_
            refine rw_p rfl rfl (y_move rfl) ?_
            refine rw_p rfl rfl (y_assign rfl) ?_
            refine rw_done ?_
            refine gn_sq ?_
            refine HW_ret rfl ?_
            refine gr_sq ?_
            refine toR (fin hret rfl (.tmp rfl .nil) .one ?_)
            exact ⟨by rw [hgo, hg2], [_, _], Z2, by rw [hgo, hg2]; exact ⟨p_x, c_x, g_x, b_x, rfl, ha_x⟩, by rw [hgo, hg2]; exact hz2, (hm.pickT [4, 5] 6 rfl)⟩
          ·
            simp only [decide_eq_false_iff_not] at hc2
            rw [if_neg hc2] at hg2
            refine HW_skip rfl ?_
            refine gn_sq ?_
            refine HW_seq rfl ?_
            refine HW_seq rfl ?_
            refine HW_text (.pure 0 (.pure 1 (.pure 2 (.pure 3 (.pure 4 (.act 5 (.pure 6 .done))))))) (by kernel_rfl) ?_
            refine rw_p rfl rfl (y_move rfl) ?_
            refine rw_p rfl rfl (y_nil rfl) ?_
            refine rw_p rfl rfl (y_fieldAddr rfl fo68_0) ?_
            refine rw_p rfl rfl (y_fieldAddr rfl fo66_0) ?_
            refine rw_p rfl rfl (y_load rfl sc27 (hm.nt 4 rfl) rfl) ?_
            refine a_call rfl rfl rfl go38 (o_flush D1 m Z2 _ (OwnZ.right (A := [_, _, _, _, _, _]) hm.ownZ) hz2 (by simp only at hws; omega)) fun v w hR => ?_
            obtain ⟨rfl, Z3, hz3, hmc⟩ := hR
            refine ⟨trivial, ?_⟩
            replace hm := Mem.callZL (A := [_, _, _, _, _, _]) hm hmc
            refine rw_p rfl rfl (y_assign rfl) ?_
            refine rw_done ?_
            refine gn_sq ?_
            refine HW_seq rfl ?_
            refine HW_text (.pure 0 (.pure 1 .done)) (by kernel_rfl) ?_
            refine rw_p rfl rfl (y_move rfl) ?_
            refine rw_p rfl rfl (y_ne rfl rfl) ?_
            refine rw_done ?_
            refine gn_sq ?_
            refine HW_cond rfl rfl (fun hc3 => ?_) (fun hc3 => ?_)
            ·
              simp only [decide_eq_true_eq] at hc3
              rw [if_pos hc3] at hg2
              refine HW_seq rfl ?_
              refine HW_text (.pure 0 (.pure 1 .done)) (by kernel_rfl) ?_
              refine rw_p rfl rfl (y_move rfl) ?_
              refine rw_p rfl rfl (y_assign rfl) ?_
              refine rw_done ?_
              refine gn_sq ?_
              refine HW_ret rfl ?_
              refine gr_sq ?_
              refine toR (fin hret rfl (.tmp rfl .nil) .one ?_)
              exact ⟨by rw [hgo, hg2], [_, _], Z3, by rw [hgo, hg2]; exact ⟨p_x, c_x, g_x, b_x, rfl, ha_x⟩, by rw [hgo, hg2]; exact hz3, (hm.pickT [4, 5] 6 rfl)⟩
            ·
              simp only [decide_eq_false_iff_not] at hc3
              rw [if_neg hc3] at hg2
              refine HW_skip rfl ?_
              refine gn_sq ?_
              refine HW_seq rfl ?_
              refine HW_text (.pure 0 (.pure 1 (.pure 2 (.pure 3 (.pure 4 (.act 5 (.pure 6 (.pure 7 (.act 8 .done))))))))) (by kernel_rfl) ?_
              refine rw_p rfl rfl (y_move rfl) ?_
              refine rw_p rfl rfl (y_move rfl) ?_
              refine rw_p rfl rfl (y_loadA (s := 5) (vs := [_, _, _, _, _]) rfl ag57 (hm.nt 2 rfl) rfl) ?_
              refine rw_p rfl rfl (y_nil rfl) ?_
              refine rw_p rfl rfl (y_fieldAddr rfl fo68_3) ?_
              refine a_store rfl rfl rfl rfl sz57 rfl hm 4 rfl rfl fun w hm => ?_
              refine rw_p rfl rfl (y_nil rfl) ?_
              refine rw_p rfl rfl (y_fieldAddr rfl fo68_4) ?_
              refine a_store rfl rfl rfl rfl sz4 rfl hm 4 rfl rfl fun w hm => ?_
              refine rw_done ?_
              refine gn_sq ?_
              refine HW_seq rfl ?_
              refine HW_text (.pure 0 (.pure 1 (.pure 2 (.pure 3 (.pure 4 (.pure 5 (.pure 6 (.act 7 .done)))))))) (by kernel_rfl) ?_
              refine rw_p rfl rfl (y_move rfl) ?_
              refine rw_p rfl rfl (y_nil rfl) ?_
              refine rw_p rfl rfl (y_fieldAddr rfl fo68_2) ?_
              refine rw_p rfl rfl (y_load rfl sc23 (hm.nt 4 rfl) rfl) ?_
              refine rw_p rfl rfl (y_add rfl rfl rfl) ?_
              refine rw_p rfl rfl (y_nil rfl) ?_
              refine rw_p rfl rfl (y_fieldAddr rfl fo68_2) ?_
              refine a_store rfl rfl rfl rfl sz23 rfl hm 4 rfl rfl fun w hm => ?_
              refine rw_done ?_
              refine gn_sq ?_
              refine HW_seq rfl ?_
              refine HW_text (.pure 0 .done) (by kernel_rfl) ?_
              refine rw_p rfl rfl (y_assign rfl) ?_
              refine rw_done ?_
              refine gn_sq ?_
              refine HW_ret rfl ?_
              refine toR (fin hret rfl (.tmp rfl .nil) .one ?_)
              exact ⟨by rw [hgo, hg2], [_, _], Z3, by rw [hgo, hg2]; exact ⟨p_s, cap_s, g_s, b_s, rfl, ha_s⟩, by rw [hgo, hg2]; exact hz3, (hm.pickT [4, 3] 6 rfl)⟩
  ·
    refine a_alloc rfl rfl z57 hm hh fun m1 w hg_m1 hm hh => ?_
    refine a_call rfl rfl rfl go35 (concat_b q cq ps _ (hq.ext0 hm.to) (fun s hs => (hps s hs).ext0 hm.to) hl (by rw [hBB]; omega)) fun v w hR => ?_
    obtain ⟨p_s, n_s, cap_s, g_s, b_s, rfl, ha_s, hmc⟩ := hR
    refine ⟨hh.ext hmc.to, ?_⟩
    replace hh := hh.ext hmc.to
    replace hm := hm.callN hmc
    rw [hBB] at ha_s
    obtain rfl : n_s = BB.length := ha_s.lenB
    refine rw_p rfl rfl (y_build (cs := [_, _, _, _, _]) z57 ft57 rfl rfl rfl rfl rfl) ?_
    refine a_cut ?_
    refine a_store rfl rfl rfl rfl sz57 rfl hm 1 rfl rfl fun w hm => ?_
    refine rw_done ?_
    refine gn_sq ?_
    refine HW_seq rfl ?_
    cases hr : Pl.rright (Pl.jmk S k cu of BB)
    ·
      refine HW_text (.pure 0 (.act 1 (.pure 2 (.pure 3 (.pure 4 (.pure 5 (.pure 6 .done))))))) (by kernel_rfl) ?_
      refine rw_p rfl rfl (y_loadA (s := 5) (vs := [_, _, _, _, _]) rfl ag57 (hm.nt 1 rfl) rfl) ?_
      refine a_call rfl rfl rfl go36 (rec_encF (Pl.jmk S k cu of BB) p_s cap_s _ (ha_s.rd hm 0 rfl) hkr hbl hr) fun v w hR => ?_
      obtain ⟨⟨q_, c_, rfl⟩, hE⟩ := hR
      refine ⟨trivial, ?_⟩
      replace hm := hm.ext hE
      refine rw_p rfl rfl (y_move rfl) ?_
      refine rw_p rfl rfl (y_extract rfl rfl) ?_
      refine rw_p rfl rfl (y_extract rfl rfl) ?_
      refine rw_p rfl rfl (y_assign rfl) ?_
      refine rw_p rfl rfl (y_assign rfl) ?_
      refine rw_done ?_
      refine gn_sq ?_
      refine HW_seq rfl ?_
      refine HW_seq rfl ?_
      refine HW_draw (.pure 0 (.pure 1 (.pure 2 (.pure 3 (.pure 4 (.pure 5 (.pure 6 (.pure 7 (.pure 8 (.pure 9 (.pure 10 (.pure 11 (.pure 12 .done))))))))))))) No mix (by kernel_rfl) hm fun w hw hm0 hh => ?_
      have hm := hm0
      refine rw_p rfl rfl (y_move rfl) ?_
      refine rw_p rfl rfl (y_as (c := true) (y_ne rfl rfl) (by decide)) ?_
      refine rw_p rfl rfl (y_move rfl) ?_
      refine rw_gf rfl rfl (by decide) rfl ?_
      refine rw_gf rfl rfl (by decide) rfl ?_
      refine rw_gf rfl rfl (by decide) rfl ?_
      refine rw_gf rfl rfl (by decide) rfl ?_
      refine rw_gf rfl rfl (by decide) rfl ?_
      refine rw_gf rfl rfl (by decide) rfl ?_
      refine rw_gf rfl rfl (by decide) rfl ?_
      refine rw_gf rfl rfl (by decide) rfl ?_
      refine rw_gf rfl rfl (by decide) rfl ?_
      refine rw_p rfl rfl (y_pickT rfl rfl) ?_
      refine rw_done ?_
      refine gn_sq ?_
      refine HW_condT rfl rfl rfl ?_
      refine HW_seq rfl ?_
      refine HW_text (.pure 0 .done) (by kernel_rfl) ?_
      refine rw_p rfl rfl (y_assign rfl) ?_
      refine rw_done ?_
      refine gn_sq ?_
      refine HW_ret rfl ?_
      refine gr_sq ?_
      refine toR (fin hret rfl (.tmp rfl .nil) .one ?_)
      exact ⟨by rw [show (Pl.japp D f N b S (Pl.jmk S k cu of BB)) = (2, D, S) from if_neg (fun h9 => by rw [hr] at h9; cases h9.1)], [_, _], Z, by rw [show (Pl.japp D f N b S (Pl.jmk S k cu of BB)) = (2, D, S) from if_neg (fun h9 => by rw [hr] at h9; cases h9.1)]; exact ⟨p_x, c_x, g_x, b_x, rfl, ha_x⟩, by rw [show (Pl.japp D f N b S (Pl.jmk S k cu of BB)) = (2, D, S) from if_neg (fun h9 => by rw [hr] at h9; cases h9.1)]; exact hz, (hm.withZ hZ).right⟩
    ·
      refine HW_text (.pure 0 (.act 1 (.pure 2 (.pure 3 (.pure 4 (.pure 5 (.pure 6 .done))))))) (by kernel_rfl) ?_
      refine rw_p rfl rfl (y_loadA (s := 5) (vs := [_, _, _, _, _]) rfl ag57 (hm.nt 1 rfl) rfl) ?_
      refine a_call rfl rfl rfl go36 (rec_encT (Pl.jmk S k cu of BB) p_s cap_s _ (ha_s.rd hm 0 rfl) hkr hbl hr) fun v w hR => ?_
      obtain ⟨p_z, cap_z, g_z, b_z, rfl, ha_z, hmc⟩ := hR
      refine ⟨trivial, ?_⟩
      have hg_z : b_z.real = true → _ := fun hr => (hmc.fresh _ List.mem_cons_self hr).resolve_left id
      replace hm := hm.callN hmc
      refine rw_p rfl rfl (y_move rfl) ?_
      refine rw_p rfl rfl (y_extract rfl rfl) ?_
      refine rw_p rfl rfl (y_extract rfl rfl) ?_
      refine rw_p rfl rfl (y_assign rfl) ?_
      refine rw_p rfl rfl (y_assign rfl) ?_
      refine rw_done ?_
      refine gn_sq ?_
      refine HW_seq rfl ?_
      refine HW_seq rfl ?_
      refine HW_draw (.pure 0 (.pure 1 (.pure 2 (.pure 3 (.pure 4 (.pure 5 (.pure 6 (.pure 7 (.pure 8 (.pure 9 (.pure 10 (.pure 11 (.pure 12 .done))))))))))))) No mix (by kernel_rfl) hm fun w hw hm0 hh => ?_
      have hm := hm0
      refine rw_p rfl rfl (y_move rfl) ?_
      refine rw_p rfl rfl (y_as (c := false) (y_ne rfl rfl) (by decide)) ?_
      refine rw_p rfl rfl (y_move rfl) ?_
      refine rw_p rfl rfl (y_fieldAddr rfl fo57_4) ?_
      refine rw_p rfl rfl (y_load rfl sc22 (hm0.nd 2 rfl id) rfl) ?_
      refine rw_p rfl rfl (y_len rfl rfl sl22) ?_
      refine rw_p rfl rfl (y_move rfl) ?_
      refine rw_p rfl rfl (y_nil rfl) ?_
      refine rw_p rfl rfl (y_fieldAddr rfl fo68_0) ?_
      refine rw_p rfl rfl (y_fieldAddr rfl fo66_2) ?_
      refine rw_p rfl rfl (y_load rfl sc3 (fun u hu => ((hm0.to.trans hu).same _ (Array.getElem?_eq_some_iff.1 hJ).1 id).trans hJ) rfl) ?_
      refine rw_p rfl rfl (y_gt rfl rfl) ?_
      refine rw_p rfl rfl (y_pickF rfl rfl) ?_
      refine rw_done ?_
      refine gn_sq ?_
      refine HW_cond rfl rfl (fun hc1 => ?_) (fun hc1 => ?_)
      ·
        refine HW_seq rfl ?_
        refine HW_text (.pure 0 .done) (by kernel_rfl) ?_
        refine rw_p rfl rfl (y_assign rfl) ?_
        refine rw_done ?_
        refine gn_sq ?_
        refine HW_ret rfl ?_
        refine gr_sq ?_
        refine toR (fin hret rfl (.tmp rfl .nil) .one ?_)
        exact ⟨by rw [show (Pl.japp D f N b S (Pl.jmk S k cu of BB)) = (2, D, S) from if_neg (fun h9 => by have h8 : (BB.length : Int) ≤ b := h9.2; simp only [decide_eq_true_eq] at hc1; omega)], [_, _], Z, by rw [show (Pl.japp D f N b S (Pl.jmk S k cu of BB)) = (2, D, S) from if_neg (fun h9 => by have h8 : (BB.length : Int) ≤ b := h9.2; simp only [decide_eq_true_eq] at hc1; omega)]; exact ⟨p_x, c_x, g_x, b_x, rfl, ha_x⟩, by rw [show (Pl.japp D f N b S (Pl.jmk S k cu of BB)) = (2, D, S) from if_neg (fun h9 => by have h8 : (BB.length : Int) ≤ b := h9.2; simp only [decide_eq_true_eq] at hc1; omega)]; exact hz, (hm.withZ hZ).right⟩
      ·
        simp only [decide_eq_false_iff_not] at hc1
        have hgo : (Pl.japp D f N b S (Pl.jmk S k cu of BB)) = Pl.jgo D f N S (Pl.jmk S k cu of BB) := if_pos ⟨hr, by show (BB.length : Int) ≤ b; omega⟩
        have hEl := Pl.renc_len (Pl.jmk S k cu of BB)
        have hEb : (Pl.renc (Pl.jmk S k cu of BB)).length = 44 + BB.length := hEl
        have hon : Pl.onD D (((Pl.jat D f N (Pl.jslotN S)) : Nat) : Int) ((Pl.renc (Pl.jmk S k cu of BB)).length : Int) = true := Pl.jon hok h2 (Pl.jslot_lt S) (by have h9 := hfit.2.2.2.1; omega)
        replace hm := hm.withZ hZ
        refine HW_skip rfl ?_
        refine gn_sq ?_
        refine HW_seq rfl ?_
        refine HW_seq rfl ?_
        refine HW_draw (.pure 0 (.pure 1 (.pure 2 (.pure 3 (.pure 4 (.pure 5 (.pure 6 (.pure 7 (.pure 8 (.pure 9 (.pure 10 (.pure 11 (.pure 12 (.pure 13 (.pure 14 (.pure 17 (.act2 15 (.pure 16 (.act 18 (.cut (.act 19 (.pure 20 .done))))) 18 (.act 15 (.pure 16 (.cut (.act 19 (.pure 20 .done)))))))))))))))))))))) No mix (by kernel_rfl) hm fun w hw hm0 hh => ?_
        have hm := hm0
        refine rw_p rfl rfl (y_move rfl) ?_
        refine rw_p rfl rfl (y_nil rfl) ?_
        refine rw_p rfl rfl (y_fieldAddr rfl fo68_0) ?_
        refine rw_p rfl rfl (y_fieldAddr rfl fo66_0) ?_
        refine rw_p rfl rfl (y_load rfl sc27 (hm0.nd 3 rfl id) rfl) ?_
        refine rw_p rfl rfl (y_move rfl) ?_
        refine rw_p rfl rfl (y_nil rfl) ?_
        refine rw_p rfl rfl (y_fieldAddr rfl fo68_0) ?_
        refine rw_p rfl rfl (y_loadA (s := 3) (vs := [_, _, _]) rfl ag66 (hm0.nd 3 rfl id) rfl) ?_
        refine rw_p rfl rfl (y_move rfl) ?_
        refine rw_p rfl rfl (y_nil rfl) ?_
        refine rw_p rfl rfl (y_fieldAddr rfl fo68_2) ?_
        refine rw_p rfl rfl (y_load rfl sc23 (hm0.nd 3 rfl id) rfl) ?_
        refine rw_p rfl rfl (y_rem rfl rfl (by omega) rfl) ?_
        refine rw_p rfl rfl (y_conv rfl is23 it3 hmod) ?_
        refine rw_p rfl rfl (y_move rfl) ?_
        refine a_two ?_ ?_
        ·
          refine a_call rfl rfl rfl go26 (jr_slot D m Z _ (OwnZ.right (A := [_, _, _, _, _]) hm.ownZ) hz f N b hb hN (Pl.jslotN S) hin) fun v w hR => ?_
          obtain ⟨rfl, hE⟩ := hR
          refine ⟨hh.ext hE, ?_⟩
          replace hm := hm.ext hE
          replace hh := hh.ext hE
          refine rw_p rfl rfl (y_fieldV rfl fv63_0 rfl) ?_
          refine a_buildSlice (l := [_]) rfl rfl sl89 z22 rfl rfl rfl rfl rfl rfl rfl hm hh fun m2 w hg_m2 hm hh => ?_
          refine a_cut ?_
          refine a_call rfl rfl rfl go37 (f_write D m Z (Pl.jat D f N (Pl.jslotN S)) _ 1 [⟨p_z, cap_z, (Pl.renc (Pl.jmk S k cu of BB))⟩] (Pl.renc (Pl.jmk S k cu of BB)) _ (OwnZ.right (A := [_, _, _, _, _, _]) hm.ownZ) hz hon (Rd.row0 (hm.get (k := 0) rfl)) (fun s hs => by rw [List.mem_singleton.1 hs]; exact ha_z.rd hm 1 rfl) (by simp) (by simp) (by rw [hEb]; omega) hcl) fun v w hR => ?_
          obtain ⟨rfl, Z2, hz2, hmc⟩ := hR
          refine ⟨trivial, ?_⟩
          replace hm := Mem.callZL (A := [_, _, _, _, _, _]) hm hmc
          have hws := (Pl.wrS_ok (Pl.jat D f N (Pl.jslotN S)) (Pl.renc (Pl.jmk S k cu of BB)) (Pl.sN D.sz (Pl.jat D f N (Pl.jslotN S)) (Pl.renc (Pl.jmk S k cu of BB)).length) (Pl.sF D.sz (Pl.jat D f N (Pl.jslotN S)) (Pl.renc (Pl.jmk S k cu of BB)).length) D hok (by have := Pl.s_cnt (sz := D.sz) (a := (Pl.jat D f N (Pl.jslotN S))) (b := (Pl.renc (Pl.jmk S k cu of BB)).length) o1 (show _ ≤ D.cnt * D.sz by have := (Pl.onD_iff.1 hon).2.2.2; omega) o3; omega)).2.2.2
          have hsn := Pl.s_cnt (sz := D.sz) (a := (Pl.jat D f N (Pl.jslotN S))) (b := (Pl.renc (Pl.jmk S k cu of BB)).length) o1 (show _ ≤ D.cnt * D.sz by have := (Pl.onD_iff.1 hon).2.2.2; omega) o3
          obtain ⟨⟨e1, D1⟩, hW⟩ : ∃ x : Int × Pl.Dv, (Pl.wrS (Pl.jat D f N (Pl.jslotN S)) (Pl.renc (Pl.jmk S k cu of BB)) (Pl.sN D.sz (Pl.jat D f N (Pl.jslotN S)) (Pl.renc (Pl.jmk S k cu of BB)).length) (Pl.sF D.sz (Pl.jat D f N (Pl.jslotN S)) (Pl.renc (Pl.jmk S k cu of BB)).length) D) = x := ⟨_, rfl⟩
          rw [hW] at hz2 hws ⊢
          have hW2 : Pl.jwr D f N S (Pl.jmk S k cu of BB) = (e1, D1) := hW
          have hg2 : Pl.jgo D f N S (Pl.jmk S k cu of BB) = if e1 ≠ 0 then (e1, D1, S) else if Pl.fCode D1 ≠ 0 then (Pl.fCode D1, Pl.fDv D1, S) else (0, Pl.fDv D1, ⟨IntKind.u64.wrap (S.nx + 1), true, (Pl.jmk S k cu of BB)⟩) := by unfold Pl.jgo; rw [hW2]
          refine rw_p rfl rfl (y_assign rfl) ?_
          refine rw_done ?_
          refine gn_sq ?_
          refine HW_seq rfl ?_
          refine HW_text (.pure 0 (.pure 1 .done)) (by kernel_rfl) ?_
          refine rw_p rfl rfl (y_move rfl) ?_
          refine rw_p rfl rfl (y_ne rfl rfl) ?_
          refine rw_done ?_
          refine gn_sq ?_
          refine HW_cond rfl rfl (fun hc2 => ?_) (fun hc2 => ?_)
          ·
            simp only [decide_eq_true_eq] at hc2
            rw [if_pos hc2] at hg2
            refine HW_seq rfl ?_
            refine HW_text (.pure 0 (.pure 1 .done)) (by kernel_rfl) ?_
            refine rw_p rfl rfl (y_move rfl) ?_
            refine rw_p rfl rfl (y_assign rfl) ?_
            refine rw_done ?_
            refine gn_sq ?_
            refine HW_ret rfl ?_
            refine gr_sq ?_
            refine toR (fin hret rfl (.tmp rfl .nil) .one ?_)
            exact ⟨by rw [hgo, hg2], [_, _], Z2, by rw [hgo, hg2]; exact ⟨p_x, c_x, g_x, b_x, rfl, ha_x⟩, by rw [hgo, hg2]; exact hz2, (hm.pickT [4, 5] 6 rfl)⟩
          ·
            simp only [decide_eq_false_iff_not] at hc2
            rw [if_neg hc2] at hg2
            refine HW_skip rfl ?_
            refine gn_sq ?_
            refine HW_seq rfl ?_
            refine HW_seq rfl ?_
            refine HW_text (.pure 0 (.pure 1 (.pure 2 (.pure 3 (.pure 4 (.act 5 (.pure 6 .done))))))) (by kernel_rfl) ?_
            refine rw_p rfl rfl (y_move rfl) ?_
            refine rw_p rfl rfl (y_nil rfl) ?_
            refine rw_p rfl rfl (y_fieldAddr rfl fo68_0) ?_
            refine rw_p rfl rfl (y_fieldAddr rfl fo66_0) ?_
            refine rw_p rfl rfl (y_load rfl sc27 (hm.nt 4 rfl) rfl) ?_
            refine a_call rfl rfl rfl go38 (o_flush D1 m Z2 _ (OwnZ.right (A := [_, _, _, _, _, _]) hm.ownZ) hz2 (by simp only at hws; omega)) fun v w hR => ?_
            obtain ⟨rfl, Z3, hz3, hmc⟩ := hR
            refine ⟨trivial, ?_⟩
            replace hm := Mem.callZL (A := [_, _, _, _, _, _]) hm hmc
            refine rw_p rfl rfl (y_assign rfl) ?_
            refine rw_done ?_
            refine gn_sq ?_
            refine HW_seq rfl ?_
            refine HW_text (.pure 0 (.pure 1 .done)) (by kernel_rfl) ?_
            refine rw_p rfl rfl (y_move rfl) ?_
            refine rw_p rfl rfl (y_ne rfl rfl) ?_
            refine rw_done ?_
            refine gn_sq ?_
            refine HW_cond rfl rfl (fun hc3 => ?_) (fun hc3 => ?_)
            ·
              simp only [decide_eq_true_eq] at hc3
              rw [if_pos hc3] at hg2
              refine HW_seq rfl ?_
              refine HW_text (.pure 0 (.pure 1 .done)) (by kernel_rfl) ?_
              refine rw_p rfl rfl (y_move rfl) ?_
              refine rw_p rfl rfl (y_assign rfl) ?_
              refine rw_done ?_
              refine gn_sq ?_
              refine HW_ret rfl ?_
              refine gr_sq ?_
              refine toR (fin hret rfl (.tmp rfl .nil) .one ?_)
              exact ⟨by rw [hgo, hg2], [_, _], Z3, by rw [hgo, hg2]; exact ⟨p_x, c_x, g_x, b_x, rfl, ha_x⟩, by rw [hgo, hg2]; exact hz3, (hm.pickT [4, 5] 6 rfl)⟩
            ·
              simp only [decide_eq_false_iff_not] at hc3
              rw [if_neg hc3] at hg2
              refine HW_skip rfl ?_
              refine gn_sq ?_
              refine HW_seq rfl ?_
              refine HW_text (.pure 0 (.pure 1 (.pure 2 (.pure 3 (.pure 4 (.act 5 (.pure 6 (.pure 7 (.act 8 .done))))))))) (by kernel_rfl) ?_
              refine rw_p rfl rfl (y_move rfl) ?_
              refine rw_p rfl rfl (y_move rfl) ?_
              refine rw_p rfl rfl (y_loadA (s := 5) (vs := [_, _, _, _, _]) rfl ag57 (hm.nt 3 rfl) rfl) ?_
              refine rw_p rfl rfl (y_nil rfl) ?_
              refine rw_p rfl rfl (y_fieldAddr rfl fo68_3) ?_
              refine a_store rfl rfl rfl rfl sz57 rfl hm 4 rfl rfl fun w hm => ?_
              refine rw_p rfl rfl (y_nil rfl) ?_
              refine rw_p rfl rfl (y_fieldAddr rfl fo68_4) ?_
              refine a_store rfl rfl rfl rfl sz4 rfl hm 4 rfl rfl fun w hm => ?_
              refine rw_done ?_
              refine gn_sq ?_
              refine HW_seq rfl ?_
              refine HW_text (.pure 0 (.pure 1 (.pure 2 (.pure 3 (.pure 4 (.pure 5 (.pure 6 (.act 7 .done)))))))) (by kernel_rfl) ?_
              refine rw_p rfl rfl (y_move rfl) ?_
              refine rw_p rfl rfl (y_nil rfl) ?_
              refine rw_p rfl rfl (y_fieldAddr rfl fo68_2) ?_
              refine rw_p rfl rfl (y_load rfl sc23 (hm.nt 4 rfl) rfl) ?_
              refine rw_p rfl rfl (y_add rfl rfl rfl) ?_
              refine rw_p rfl rfl (y_nil rfl) ?_
              refine rw_p rfl rfl (y_fieldAddr rfl fo68_2) ?_
              refine a_store rfl rfl rfl rfl sz23 rfl hm 4 rfl rfl fun w hm => ?_
              refine rw_done ?_
              refine gn_sq ?_
              refine HW_seq rfl ?_
              refine HW_text (.pure 0 .done) (by kernel_rfl) ?_
              refine rw_p rfl rfl (y_assign rfl) ?_
              refine rw_done ?_
              refine gn_sq ?_
              refine HW_ret rfl ?_
              refine toR (fin hret rfl (.tmp rfl .nil) .one ?_)
              exact ⟨by rw [hgo, hg2], [_, _], Z3, by rw [hgo, hg2]; exact ⟨p_s, cap_s, g_s, b_s, rfl, ha_s⟩, by rw [hgo, hg2]; exact hz3, (hm.pickT [4, 2] 6 rfl)⟩
        ·
          refine a_buildSlice (l := [_]) rfl rfl sl89 z22 rfl rfl rfl rfl rfl rfl rfl hm hh fun m2 w hg_m2 hm hh => ?_
          refine a_call rfl rfl rfl go26 (jr_slot D m Z _ (OwnZ.right (A := [_, _, _, _, _, _]) hm.ownZ) hz f N b hb hN (Pl.jslotN S) hin) fun v w hR => ?_
          obtain ⟨rfl, hE⟩ := hR
          refine ⟨hh.ext hE, ?_⟩
          replace hm := hm.ext hE
          replace hh := hh.ext hE
          refine rw_p rfl rfl (y_fieldV rfl fv63_0 rfl) ?_
          refine a_cut ?_
          refine a_call rfl rfl rfl go37 (f_write D m Z (Pl.jat D f N (Pl.jslotN S)) _ 1 [⟨p_z, cap_z, (Pl.renc (Pl.jmk S k cu of BB))⟩] (Pl.renc (Pl.jmk S k cu of BB)) _ (OwnZ.right (A := [_, _, _, _, _, _]) hm.ownZ) hz hon (Rd.row0 (hm.get (k := 0) rfl)) (fun s hs => by rw [List.mem_singleton.1 hs]; exact ha_z.rd hm 1 rfl) (by simp) (by simp) (by rw [hEb]; omega) hcl) fun v w hR => ?_
          obtain ⟨rfl, Z2, hz2, hmc⟩ := hR
          refine ⟨trivial, ?_⟩
          replace hm := Mem.callZL (A := [_, _, _, _, _, _]) hm hmc
          have hws := (Pl.wrS_ok (Pl.jat D f N (Pl.jslotN S)) (Pl.renc (Pl.jmk S k cu of BB)) (Pl.sN D.sz (Pl.jat D f N (Pl.jslotN S)) (Pl.renc (Pl.jmk S k cu of BB)).length) (Pl.sF D.sz (Pl.jat D f N (Pl.jslotN S)) (Pl.renc (Pl.jmk S k cu of BB)).length) D hok (by have := Pl.s_cnt (sz := D.sz) (a := (Pl.jat D f N (Pl.jslotN S))) (b := (Pl.renc (Pl.jmk S k cu of BB)).length) o1 (show _ ≤ D.cnt * D.sz by have := (Pl.onD_iff.1 hon).2.2.2; omega) o3; omega)).2.2.2
          have hsn := Pl.s_cnt (sz := D.sz) (a := (Pl.jat D f N (Pl.jslotN S))) (b := (Pl.renc (Pl.jmk S k cu of BB)).length) o1 (show _ ≤ D.cnt * D.sz by have := (Pl.onD_iff.1 hon).2.2.2; omega) o3
          obtain ⟨⟨e1, D1⟩, hW⟩ : ∃ x : Int × Pl.Dv, (Pl.wrS (Pl.jat D f N (Pl.jslotN S)) (Pl.renc (Pl.jmk S k cu of BB)) (Pl.sN D.sz (Pl.jat D f N (Pl.jslotN S)) (Pl.renc (Pl.jmk S k cu of BB)).length) (Pl.sF D.sz (Pl.jat D f N (Pl.jslotN S)) (Pl.renc (Pl.jmk S k cu of BB)).length) D) = x := ⟨_, rfl⟩
          rw [hW] at hz2 hws ⊢
          have hW2 : Pl.jwr D f N S (Pl.jmk S k cu of BB) = (e1, D1) := hW
          have hg2 : Pl.jgo D f N S (Pl.jmk S k cu of BB) = if e1 ≠ 0 then (e1, D1, S) else if Pl.fCode D1 ≠ 0 then (Pl.fCode D1, Pl.fDv D1, S) else (0, Pl.fDv D1, ⟨IntKind.u64.wrap (S.nx + 1), true, (Pl.jmk S k cu of BB)⟩) := by unfold Pl.jgo; rw [hW2]
          refine rw_p rfl rfl (y_assign rfl) ?_
          refine rw_done ?_
          refine gn_sq ?_
          refine HW_seq rfl ?_
          refine HW_text (.pure 0 (.pure 1 .done)) (by kernel_rfl) ?_
          refine rw_p rfl rfl (y_move rfl) ?_
          refine rw_p rfl rfl (y_ne rfl rfl) ?_
          refine rw_done ?_
          refine gn_sq ?_
          refine HW_cond rfl rfl (fun hc2 => ?_) (fun hc2 => ?_)
          ·
            simp only [decide_eq_true_eq] at hc2
            rw [if_pos hc2] at hg2
            refine HW_seq rfl ?_
            refine HW_text (.pure 0 (.pure 1 .done)) (by kernel_rfl) ?_
            refine rw_p rfl rfl (y_move rfl) ?_
            refine rw_p rfl rfl (y_assign rfl) ?_
            refine rw_done ?_
            refine gn_sq ?_
            refine HW_ret rfl ?_
            refine gr_sq ?_
            refine toR (fin hret rfl (.tmp rfl .nil) .one ?_)
            exact ⟨by rw [hgo, hg2], [_, _], Z2, by rw [hgo, hg2]; exact ⟨p_x, c_x, g_x, b_x, rfl, ha_x⟩, by rw [hgo, hg2]; exact hz2, (hm.pickT [4, 5] 6 rfl)⟩
          ·
            simp only [decide_eq_false_iff_not] at hc2
            rw [if_neg hc2] at hg2
            refine HW_skip rfl ?_
            refine gn_sq ?_
            refine HW_seq rfl ?_
            refine HW_seq rfl ?_
            refine HW_text (.pure 0 (.pure 1 (.pure 2 (.pure 3 (.pure 4 (.act 5 (.pure 6 .done))))))) (by kernel_rfl) ?_
            refine rw_p rfl rfl (y_move rfl) ?_
            refine rw_p rfl rfl (y_nil rfl) ?_
            refine rw_p rfl rfl (y_fieldAddr rfl fo68_0) ?_
            refine rw_p rfl rfl (y_fieldAddr rfl fo66_0) ?_
            refine rw_p rfl rfl (y_load rfl sc27 (hm.nt 4 rfl) rfl) ?_
            refine a_call rfl rfl rfl go38 (o_flush D1 m Z2 _ (OwnZ.right (A := [_, _, _, _, _, _]) hm.ownZ) hz2 (by simp only at hws; omega)) fun v w hR => ?_
            obtain ⟨rfl, Z3, hz3, hmc⟩ := hR
            refine ⟨trivial, ?_⟩
            replace hm := Mem.callZL (A := [_, _, _, _, _, _]) hm hmc
            refine rw_p rfl rfl (y_assign rfl) ?_
            refine rw_done ?_
            refine gn_sq ?_
            refine HW_seq rfl ?_
            refine HW_text (.pure 0 (.pure 1 .done)) (by kernel_rfl) ?_
            refine rw_p rfl rfl (y_move rfl) ?_
            refine rw_p rfl rfl (y_ne rfl rfl) ?_
            refine rw_done ?_
            refine gn_sq ?_
            refine HW_cond rfl rfl (fun hc3 => ?_) (fun hc3 => ?_)
            ·
              simp only [decide_eq_true_eq] at hc3
              rw [if_pos hc3] at hg2
              refine HW_seq rfl ?_
              refine HW_text (.pure 0 (.pure 1 .done)) (by kernel_rfl) ?_
              refine rw_p rfl rfl (y_move rfl) ?_
              refine rw_p rfl rfl (y_assign rfl) ?_
              refine rw_done ?_
              refine gn_sq ?_
              refine HW_ret rfl ?_
              refine gr_sq ?_
              refine toR (fin hret rfl (.tmp rfl .nil) .one ?_)
              exact ⟨by rw [hgo, hg2], [_, _], Z3, by rw [hgo, hg2]; exact ⟨p_x, c_x, g_x, b_x, rfl, ha_x⟩, by rw [hgo, hg2]; exact hz3, (hm.pickT [4, 5] 6 rfl)⟩
            ·
              simp only [decide_eq_false_iff_not] at hc3
              rw [if_neg hc3] at hg2
              refine HW_skip rfl ?_
              refine gn_sq ?_
              refine HW_seq rfl ?_
              refine HW_text (.pure 0 (.pure 1 (.pure 2 (.pure 3 (.pure 4 (.act 5 (.pure 6 (.pure 7 (.act 8 .done))))))))) (by kernel_rfl) ?_
              refine rw_p rfl rfl (y_move rfl) ?_
              refine rw_p rfl rfl (y_move rfl) ?_
              refine rw_p rfl rfl (y_loadA (s := 5) (vs := [_, _, _, _, _]) rfl ag57 (hm.nt 3 rfl) rfl) ?_
              refine rw_p rfl rfl (y_nil rfl) ?_
              refine rw_p rfl rfl (y_fieldAddr rfl fo68_3) ?_
              refine a_store rfl rfl rfl rfl sz57 rfl hm 4 rfl rfl fun w hm => ?_
              refine rw_p rfl rfl (y_nil rfl) ?_
              refine rw_p rfl rfl (y_fieldAddr rfl fo68_4) ?_
              refine a_store rfl rfl rfl rfl sz4 rfl hm 4 rfl rfl fun w hm => ?_
              refine rw_done ?_
              refine gn_sq ?_
              refine HW_seq rfl ?_
              refine HW_text (.pure 0 (.pure 1 (.pure 2 (.pure 3 (.pure 4 (.pure 5 (.pure 6 (.act 7 .done)))))))) (by kernel_rfl) ?_
              refine rw_p rfl rfl (y_move rfl) ?_
              refine rw_p rfl rfl (y_nil rfl) ?_
              refine rw_p rfl rfl (y_fieldAddr rfl fo68_2) ?_
              refine rw_p rfl rfl (y_load rfl sc23 (hm.nt 4 rfl) rfl) ?_
              refine rw_p rfl rfl (y_add rfl rfl rfl) ?_
              refine rw_p rfl rfl (y_nil rfl) ?_
              refine rw_p rfl rfl (y_fieldAddr rfl fo68_2) ?_
              refine a_store rfl rfl rfl rfl sz23 rfl hm 4 rfl rfl fun w hm => ?_
              refine rw_done ?_
              refine gn_sq ?_
              refine HW_seq rfl ?_
              refine HW_text (.pure 0 .done) (by kernel_rfl) ?_
              refine rw_p rfl rfl (y_assign rfl) ?_
              refine rw_done ?_
              refine gn_sq ?_
              refine HW_ret rfl ?_
              refine toR (fin hret rfl (.tmp rfl .nil) .one ?_)
              exact ⟨by rw [hgo, hg2], [_, _], Z3, by rw [hgo, hg2]; exact ⟨p_s, cap_s, g_s, b_s, rfl, ha_s⟩, by rw [hgo, hg2]; exact hz3, (hm.pickT [4, 2] 6 rfl)⟩

end Go.Proofs.YthailbggeafckaaGreat
