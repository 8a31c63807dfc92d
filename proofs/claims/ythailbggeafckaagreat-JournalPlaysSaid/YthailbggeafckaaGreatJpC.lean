/- Contracts of functions of the program: what each returns. Conditions: the hypotheses of each theorem. -/
import Derived.Test.YthailbggeafckaaGreatJpB
set_option linter.unusedVariables false
set_option linter.unusedSimpArgs false
namespace Go.Proofs.YthailbggeafckaaGreat
open Go Go.Cx

theorem fo80_0 : fldO Tryz.prog 80 0 = some 0 := by kernel_rfl
theorem fo80_1 : fldO Tryz.prog 80 1 = some 1 := by kernel_rfl
theorem fo80_2 : fldO Tryz.prog 80 2 = some 2 := by kernel_rfl
theorem fo80_3 : fldO Tryz.prog 80 3 = some 3 := by kernel_rfl
theorem go39 : isGo Tryz.prog 39 = true := by kernel_rfl
theorem go40 : isGo Tryz.prog 40 = true := by kernel_rfl
theorem go41 : isGo Tryz.prog 41 = true := by kernel_rfl
theorem go42 : isGo Tryz.prog 42 = true := by kernel_rfl
theorem sc28 : scal Tryz.prog 28 = true := by kernel_rfl

set_option maxHeartbeats 3200000 in
theorem r22_append (D : Pl.Dv) (m : Nat) (Z : List (Nat × Blk)) (S : Pl.Jn) (j : Nat) (p0 : Option Addr) (c0 : Nat) (f N : Nat) (b k : Int) (cu of : Int) (q : Option Addr) (cq : Nat) (bs : List UInt8) (w0 : World) (hZ : OwnZ w0 ((j, .row 80 (rjrow (.pointer (some ⟨m, 0, none⟩)) (f : Int) b k S p0 c0)) :: Z)) (hz : RefZ 50 172 5 D m Z) (hb : Pl.I64 b) (hN : Pl.slot (D.sz : Int) b = (N : Int)) (h0 : N ≠ 0) (h2 : f + 2 * N ≤ D.cnt) (hS : 0 ≤ S.nx ∧ S.nx ≤ 18446744073709551615) (hk : 0 ≤ k ∧ k ≤ 18446744073709551615) (hcu : Pl.I64 cu) (hof : Pl.I64 of) (hq : Rd w0 q (bs.flatMap encB)) (hbl : bs.length ≤ 70368744177600) (hcl : D.ca.length + D.cnt ≤ 1000000000) : C Tryz.prog 12 [.pointer (some ⟨j, 0, none⟩), .int .i64 cu, .int .i64 of, .slice q bs.length cq] w0 fun v w' => v = .int .i64 (Pl.japp D f N b S (Pl.jmk S k cu of bs)).1 ∧ ∃ (Z' : List (Nat × Blk)) (p : Option Addr) (c : Nat), RefZ 50 172 5 (Pl.japp D f N b S (Pl.jmk S k cu of bs)).2.1 m Z' ∧ Mem w0 w' (Mn (reals ((j, .row 80 (rjrow (.pointer (some ⟨m, 0, none⟩)) (f : Int) b k S p0 c0)) :: Z))) ((j, .row 80 (rjrow (.pointer (some ⟨m, 0, none⟩)) (f : Int) b k (Pl.japp D f N b S (Pl.jmk S k cu of bs)).2.2 p c)) :: Z') ∧ ((p = p0 ∧ c = c0 ∧ (Pl.japp D f N b S (Pl.jmk S k cu of bs)).2.2 = S) ∨ (p = q ∧ c = cq ∧ (Pl.japp D f N b S (Pl.jmk S k cu of bs)).2.2.la.bs = bs)) := by
  have hok := hz.ok
  have o1 := hok.sz
  have o4 := hok.max
  have o3 := hok.cnt
  have o5 : D.cnt ≤ D.cnt * D.sz := Nat.le_mul_of_pos_right _ o1
  have hJ := hZ.get (k := 0) rfl
  have hZd : OwnZ w0 Z := OwnZ.right (A := [_]) hZ
  have hfit := Pl.slot_fit hN h0
  have hcast : ((N * D.sz : Nat) : Int) = (N : Int) * (D.sz : Int) := Int.natCast_mul N D.sz
  have hkr : Pl.okRc (Pl.jmk S k cu of bs) := ⟨hS, hk, hcu, hof⟩
  have hlt := Pl.jslot_lt S
  have hmod : IntKind.i64.wrap (S.nx.tmod 2) = ((Pl.jslotN S : Nat) : Int) := by
    have h9 : S.nx.tmod 2 = ((Pl.jslotN S : Nat) : Int) := by rw [Int.tmod_eq_emod_of_nonneg hS.1]; unfold Pl.jslotN; have := Int.emod_nonneg S.nx (show (2 : Int) ≠ 0 by decide); omega
    rw [h9]; exact i64w (by omega) (by omega)
  refine C_of Tryz.func12 rfl rfl rfl fun κ hret hnorm => ?_
  have hm := Mem.start w0
  refine HW_seq rfl ?_
  refine HW_text (.pure 0 .done) (by kernel_rfl) ?_
  refine rw_p rfl rfl (y_assign rfl) ?_
  refine rw_done ?_
  refine gn_sq ?_
  refine HW_seq rfl ?_
  refine HW_draw (.pure 0 (.pure 1 (.pure 2 (.pure 3 (.pure 4 (.pure 5 (.pure 6 (.pure 7 (.pure 8 (.pure 9 (.pure 10 (.pure 11 (.act 12 (.cut (.act 13 .done))))))))))))))) No mix (by kernel_rfl) hm fun w hw hm0 hh => ?_
  have hm := hm0
  refine rw_p rfl rfl (y_move rfl) ?_
  refine rw_p rfl rfl (y_nil rfl) ?_
  refine rw_p rfl rfl (y_fieldAddr rfl fo80_4) ?_
  refine rw_p rfl rfl (y_load rfl sc23 (fun u hu => ((hm0.to.trans hu).same _ (Array.getElem?_eq_some_iff.1 hJ).1 id).trans hJ) rfl) ?_
  refine rw_p rfl rfl (y_move rfl) ?_
  refine rw_p rfl rfl (y_nil rfl) ?_
  refine rw_p rfl rfl (y_fieldAddr rfl fo80_3) ?_
  refine rw_p rfl rfl (y_load rfl sc23 (fun u hu => ((hm0.to.trans hu).same _ (Array.getElem?_eq_some_iff.1 hJ).1 id).trans hJ) rfl) ?_
  refine rw_p rfl rfl (y_move rfl) ?_
  refine rw_p rfl rfl (y_move rfl) ?_
  refine rw_p rfl rfl (y_move rfl) ?_
  refine rw_p rfl rfl (y_build (cs := [_, _, _, _, _]) z78 ft78 rfl rfl rfl rfl rfl) ?_
  refine a_alloc rfl rfl z78 hm hh fun m1 w hg_m1 hm hh => ?_
  refine a_cut ?_
  refine a_store rfl rfl rfl rfl sz78 rfl hm 0 rfl rfl fun w hm => ?_
  refine rw_done ?_
  refine gn_sq ?_
  refine HW_seq rfl ?_
  refine HW_seq rfl ?_
  cases hr : Pl.rright (Pl.jmk S k cu of bs)
  ·
    refine HW_text (.pure 0 (.act 1 (.pure 2 (.pure 3 (.pure 4 (.pure 5 (.pure 6 (.pure 7 (.pure 8 (.pure 9 (.pure 10 (.pure 11 .done)))))))))))) (by kernel_rfl) ?_
    refine rw_p rfl rfl (y_loadA (s := 5) (vs := [_, _, _, _, _]) rfl ag78 (hm.nt 0 rfl) rfl) ?_
    refine a_call rfl rfl rfl go39 (C.as (v := .bool false) (r21_right (Pl.jmk S k cu of bs) q cq _ hkr) (congrArg Value.bool hr)) fun v w hR => ?_
    obtain ⟨rfl, hE⟩ := hR
    refine ⟨trivial, ?_⟩
    replace hm := hm.ext hE
    refine rw_p rfl rfl (y_not rfl) ?_
    refine rw_p rfl rfl (y_move rfl) ?_
    refine rw_gf rfl rfl (by decide) rfl ?_
    refine rw_gf rfl rfl (by decide) rfl ?_
    refine rw_gf rfl rfl (by decide) rfl ?_
    refine rw_gf rfl rfl (by decide) rfl ?_
    refine rw_gf rfl rfl (by decide) rfl ?_
    refine rw_gf rfl rfl (by decide) rfl ?_
    refine rw_gf rfl rfl (by decide) rfl ?_
    refine rw_p rfl rfl (y_pickT rfl rfl) ?_
    refine rw_done ?_
    refine gn_sq ?_
    refine HW_condT rfl rfl rfl ?_
    refine HW_seq rfl ?_
    refine HW_text (.pure 0 .done) (by kernel_rfl) ?_
    refine rw_p rfl rfl (y_assign rfl) ?_
    refine rw_done ?_
    refine gn_sq ?_
    refine HW_ret rfl ?_
    refine gr_sq ?_
    refine toR (fin hret rfl (.tmp rfl .nil) .one ?_)
    exact ⟨by rw [show (Pl.japp D f N b S (Pl.jmk S k cu of bs)) = (2, D, S) from if_neg (fun h9 => by rw [hr] at h9; cases h9.1)], Z, p0, c0, by rw [show (Pl.japp D f N b S (Pl.jmk S k cu of bs)) = (2, D, S) from if_neg (fun h9 => by rw [hr] at h9; cases h9.1)]; exact hz, by rw [show (Pl.japp D f N b S (Pl.jmk S k cu of bs)) = (2, D, S) from if_neg (fun h9 => by rw [hr] at h9; cases h9.1)]; exact (hm.withZ hZ).right, by rw [show (Pl.japp D f N b S (Pl.jmk S k cu of bs)) = (2, D, S) from if_neg (fun h9 => by rw [hr] at h9; cases h9.1)]; exact .inl ⟨rfl, rfl, rfl⟩⟩
  ·
    refine HW_text (.pure 0 (.act 1 (.pure 2 (.pure 3 (.pure 4 (.pure 5 (.pure 6 (.pure 7 (.pure 8 (.pure 9 (.pure 10 (.pure 11 .done)))))))))))) (by kernel_rfl) ?_
    refine rw_p rfl rfl (y_loadA (s := 5) (vs := [_, _, _, _, _]) rfl ag78 (hm.nt 0 rfl) rfl) ?_
    refine a_call rfl rfl rfl go39 (C.as (v := .bool true) (r21_right (Pl.jmk S k cu of bs) q cq _ hkr) (congrArg Value.bool hr)) fun v w hR => ?_
    obtain ⟨rfl, hE⟩ := hR
    refine ⟨trivial, ?_⟩
    replace hm := hm.ext hE
    refine rw_p rfl rfl (y_not rfl) ?_
    refine rw_p rfl rfl (y_move rfl) ?_
    refine rw_p rfl rfl (y_move rfl) ?_
    refine rw_p rfl rfl (y_len rfl rfl sl22) ?_
    refine rw_p rfl rfl (y_move rfl) ?_
    refine rw_p rfl rfl (y_nil rfl) ?_
    refine rw_p rfl rfl (y_fieldAddr rfl fo80_2) ?_
    refine rw_p rfl rfl (y_load rfl sc3 (nowT ((hm.to.same _ (Array.getElem?_eq_some_iff.1 hJ).1 id).trans hJ)) rfl) ?_
    refine rw_p rfl rfl (y_gt rfl rfl) ?_
    refine rw_p rfl rfl (y_pickF rfl rfl) ?_
    refine rw_done ?_
    refine gn_sq ?_
    refine HW_cond rfl rfl (fun hc0 => ?_) (fun hc0 => ?_)
    ·
      refine HW_seq rfl ?_
      refine HW_text (.pure 0 .done) (by kernel_rfl) ?_
      refine rw_p rfl rfl (y_assign rfl) ?_
      refine rw_done ?_
      refine gn_sq ?_
      refine HW_ret rfl ?_
      refine gr_sq ?_
      refine toR (fin hret rfl (.tmp rfl .nil) .one ?_)
      exact ⟨by rw [show (Pl.japp D f N b S (Pl.jmk S k cu of bs)) = (2, D, S) from if_neg (fun h9 => by have h8 : (bs.length : Int) ≤ b := h9.2; simp only [decide_eq_true_eq] at hc0; omega)], Z, p0, c0, by rw [show (Pl.japp D f N b S (Pl.jmk S k cu of bs)) = (2, D, S) from if_neg (fun h9 => by have h8 : (bs.length : Int) ≤ b := h9.2; simp only [decide_eq_true_eq] at hc0; omega)]; exact hz, by rw [show (Pl.japp D f N b S (Pl.jmk S k cu of bs)) = (2, D, S) from if_neg (fun h9 => by have h8 : (bs.length : Int) ≤ b := h9.2; simp only [decide_eq_true_eq] at hc0; omega)]; exact (hm.withZ hZ).right, by rw [show (Pl.japp D f N b S (Pl.jmk S k cu of bs)) = (2, D, S) from if_neg (fun h9 => by have h8 : (bs.length : Int) ≤ b := h9.2; simp only [decide_eq_true_eq] at hc0; omega)]; exact .inl ⟨rfl, rfl, rfl⟩⟩
    ·
      simp only [decide_eq_false_iff_not] at hc0
      have hgo : (Pl.japp D f N b S (Pl.jmk S k cu of bs)) = Pl.jgo D f N S (Pl.jmk S k cu of bs) := if_pos ⟨hr, by show (bs.length : Int) ≤ b; omega⟩
      have hEb : (Pl.renc (Pl.jmk S k cu of bs)).length = 44 + bs.length := Pl.renc_len (Pl.jmk S k cu of bs)
      have hon : Pl.onD D (((Pl.jat D f N (Pl.jslotN S)) : Nat) : Int) ((Pl.renc (Pl.jmk S k cu of bs)).length : Int) = true := Pl.jon hok h2 (Pl.jslot_lt S) (by have h9 := hfit.2.2.2.1; omega)
      have hsn := Pl.s_cnt (sz := D.sz) (a := (Pl.jat D f N (Pl.jslotN S))) (b := (Pl.renc (Pl.jmk S k cu of bs)).length) o1 (show _ ≤ D.cnt * D.sz by have := (Pl.onD_iff.1 hon).2.2.2; omega) o3
      refine HW_skip rfl ?_
      refine gn_sq ?_
      refine HW_seq rfl ?_
      refine HW_draw (.pure 0 (.pure 1 (.pure 2 (.pure 3 (.pure 4 (.pure 5 (.pure 6 (.pure 7 (.pure 8 (.pure 9 (.pure 10 (.pure 11 (.pure 12 (.pure 13 (.pure 14 (.pure 15 (.pure 16 (.pure 17 (.act2 18 (.act 19 (.cut (.act 20 .done))) 19 (.act 18 (.cut (.act 20 .done)))))))))))))))))))))) No mix (by kernel_rfl) hm fun w hw hm0 hh => ?_
      have hm := hm0
      refine rw_p rfl rfl (y_move rfl) ?_
      refine rw_p rfl rfl (y_nil rfl) ?_
      refine rw_p rfl rfl (y_fieldAddr rfl fo80_0) ?_
      refine rw_p rfl rfl (y_load rfl sc28 (fun u hu => ((hm0.to.trans hu).same _ (Array.getElem?_eq_some_iff.1 hJ).1 id).trans hJ) rfl) ?_
      refine rw_p rfl rfl (y_move rfl) ?_
      refine rw_p rfl rfl (y_nil rfl) ?_
      refine rw_p rfl rfl (y_fieldAddr rfl fo80_1) ?_
      refine rw_p rfl rfl (y_load rfl sc3 (fun u hu => ((hm0.to.trans hu).same _ (Array.getElem?_eq_some_iff.1 hJ).1 id).trans hJ) rfl) ?_
      refine rw_p rfl rfl (y_move rfl) ?_
      refine rw_p rfl rfl (y_nil rfl) ?_
      refine rw_p rfl rfl (y_fieldAddr rfl fo80_2) ?_
      refine rw_p rfl rfl (y_load rfl sc3 (fun u hu => ((hm0.to.trans hu).same _ (Array.getElem?_eq_some_iff.1 hJ).1 id).trans hJ) rfl) ?_
      refine rw_p rfl rfl (y_move rfl) ?_
      refine rw_p rfl rfl (y_nil rfl) ?_
      refine rw_p rfl rfl (y_fieldAddr rfl fo80_4) ?_
      refine rw_p rfl rfl (y_load rfl sc23 (fun u hu => ((hm0.to.trans hu).same _ (Array.getElem?_eq_some_iff.1 hJ).1 id).trans hJ) rfl) ?_
      refine rw_p rfl rfl (y_rem rfl rfl (by omega) rfl) ?_
      refine rw_p rfl rfl (y_conv rfl is23 it3 hmod) ?_
      refine a_two ?_ ?_
      ·
        refine a_call rfl rfl rfl go31 (r22_slotB D m Z _ (hZd.ext hm.to) hz f N b hb hN (Pl.jslotN S) h2 hlt) fun v w hR => ?_
        obtain ⟨rfl, hE⟩ := hR
        refine ⟨hh.ext hE, ?_⟩
        replace hm := hm.ext hE
        replace hh := hh.ext hE
        refine a_alloc rfl rfl z63 hm hh fun m2 w hg_m2 hm hh => ?_
        refine a_cut ?_
        refine a_store rfl rfl rfl rfl sz63 rfl hm 0 rfl rfl fun w hm => ?_
        refine rw_done ?_
        refine gn_sq ?_
        refine HW_seq rfl ?_
        refine HW_draw (.pure 0 (.pure 1 (.pure 2 (.pure 3 (.pure 4 (.pure 5 (.pure 6 (.act 7 (.cut (.act 8 (.pure 9 .done))))))))))) No mix (by kernel_rfl) hm fun w hw hm0 hh => ?_
        have hm := hm0
        refine rw_p rfl rfl (y_move rfl) ?_
        refine rw_p rfl rfl (y_nil rfl) ?_
        refine rw_p rfl rfl (y_fieldAddr rfl fo80_0) ?_
        refine rw_p rfl rfl (y_load rfl sc28 (fun u hu => ((hm0.to.trans hu).same _ (Array.getElem?_eq_some_iff.1 hJ).1 id).trans hJ) rfl) ?_
        refine rw_p rfl rfl (y_fieldAddr rfl fo63_0) ?_
        refine rw_p rfl rfl (y_load rfl sc3 (hm0.nd 0 rfl id) rfl) ?_
        refine rw_p rfl rfl (y_loadA (s := 5) (vs := [_, _, _, _, _]) rfl ag78 (hm0.nd 1 rfl id) rfl) ?_
        refine a_call rfl rfl rfl go41 (r21_encode (Pl.jmk S k cu of bs) q cq _ (hq.ext0 hm.to) hkr hbl hr) fun v w hR => ?_
        obtain ⟨p_z, cap_z, g_z, b_z, rfl, ha_z, hmc⟩ := hR
        refine ⟨hh.ext hmc.to, ?_⟩
        have hg_z : b_z.real = true → _ := fun hr => (hmc.fresh _ List.mem_cons_self hr).resolve_left id
        replace hh := hh.ext hmc.to
        replace hm := hm.callN hmc
        replace hm := hm.withZ hZ
        refine a_cut ?_
        refine a_call rfl rfl rfl go40 (r20_write D m Z _ (OwnZ.right (A := [_, _, _, _]) hm.ownZ) hz (Pl.jat D f N (Pl.jslotN S)) p_z cap_z (Pl.renc (Pl.jmk S k cu of bs)) hon (ha_z.rd hm 0 rfl) (hm.notR (A := [_, _, _, _]) ha_z 0 rfl) hcl) fun v w hR => ?_
        obtain ⟨rfl, Z2, hz2, hmc⟩ := hR
        refine ⟨trivial, ?_⟩
        replace hm := Mem.callZL (A := [_, _, _, _]) hm hmc
        have hws := (Pl.wrS_ok (Pl.jat D f N (Pl.jslotN S)) (Pl.renc (Pl.jmk S k cu of bs)) (Pl.sN D.sz (Pl.jat D f N (Pl.jslotN S)) (Pl.renc (Pl.jmk S k cu of bs)).length) (Pl.sF D.sz (Pl.jat D f N (Pl.jslotN S)) (Pl.renc (Pl.jmk S k cu of bs)).length) D hok (by omega)).2.2.2
        obtain ⟨⟨e1, D1⟩, hW⟩ : ∃ x : Int × Pl.Dv, (Pl.wrS (Pl.jat D f N (Pl.jslotN S)) (Pl.renc (Pl.jmk S k cu of bs)) (Pl.sN D.sz (Pl.jat D f N (Pl.jslotN S)) (Pl.renc (Pl.jmk S k cu of bs)).length) (Pl.sF D.sz (Pl.jat D f N (Pl.jslotN S)) (Pl.renc (Pl.jmk S k cu of bs)).length) D) = x := ⟨_, rfl⟩
        rw [hW] at hz2 hws ⊢
        have hW2 : Pl.jwr D f N S (Pl.jmk S k cu of bs) = (e1, D1) := hW
        have hg2 : Pl.jgo D f N S (Pl.jmk S k cu of bs) = if e1 ≠ 0 then (e1, D1, S) else if Pl.fCode D1 ≠ 0 then (Pl.fCode D1, Pl.fDv D1, S) else (0, Pl.fDv D1, ⟨IntKind.u64.wrap (S.nx + 1), true, (Pl.jmk S k cu of bs)⟩) := by unfold Pl.jgo; rw [hW2]
        refine rw_p rfl rfl (y_assign rfl) ?_
        refine rw_done ?_
        refine gn_sq ?_
        refine HW_seq rfl ?_
        refine HW_seq rfl ?_
        refine HW_text (.pure 0 (.pure 1 .done)) (by kernel_rfl) ?_
        refine rw_p rfl rfl (y_move rfl) ?_
        refine rw_p rfl rfl (y_eq rfl rfl) ?_
        refine rw_done ?_
        refine gn_sq ?_
        refine HW_cond rfl rfl (fun hc1 => ?_) (fun hc1 => ?_)
        ·
          simp only [decide_eq_true_eq] at hc1
          rw [if_neg (fun h9 => h9 hc1)] at hg2
          refine HW_text (.pure 0 (.pure 1 (.pure 2 (.pure 3 (.act 4 (.pure 5 .done)))))) (by kernel_rfl) ?_
          refine rw_p rfl rfl (y_move rfl) ?_
          refine rw_p rfl rfl (y_nil rfl) ?_
          refine rw_p rfl rfl (y_fieldAddr rfl fo80_0) ?_
          refine rw_p rfl rfl (y_load rfl sc28 (hm.nt 3 rfl) rfl) ?_
          refine a_call rfl rfl rfl go42 (q_flush D1 m Z2 _ (OwnZ.right (A := [_, _, _, _]) hm.ownZ) hz2 (by simp only at hws; omega)) fun v w hR => ?_
          obtain ⟨rfl, Z3, hz3, hmc⟩ := hR
          refine ⟨trivial, ?_⟩
          replace hm := Mem.callZL (A := [_, _, _, _]) hm hmc
          refine rw_p rfl rfl (y_assign rfl) ?_
          refine rw_done ?_
          refine gn_sq ?_
          refine HW_seq rfl ?_
          refine HW_seq rfl ?_
          ·
            refine HW_text (.pure 0 (.pure 1 .done)) (by kernel_rfl) ?_
            refine rw_p rfl rfl (y_move rfl) ?_
            refine rw_p rfl rfl (y_ne rfl rfl) ?_
            refine rw_done ?_
            refine gn_sq ?_
            refine HW_cond rfl rfl (fun hc2 => ?_) (fun hc2 => ?_)
            ·
              simp only [decide_eq_true_eq] at hc2
              rw [if_pos hc2] at hg2
              refine HW_seq rfl ?_
              refine HW_text (.pure 0 (.pure 1 .done)) (by kernel_rfl) ?_
              refine rw_p rfl rfl (y_move rfl) ?_
              refine rw_p rfl rfl (y_assign rfl) ?_
              refine rw_done ?_
              refine gn_sq ?_
              refine HW_ret rfl ?_
              refine gr_sq ?_
              refine toR (fin hret rfl (.tmp rfl .nil) .one ?_)
              exact ⟨by rw [hgo, hg2], Z3, p0, c0, by rw [hgo, hg2]; exact hz3, by rw [hgo, hg2]; exact (hm.pickT [3] 4 rfl), by rw [hgo, hg2]; exact .inl ⟨rfl, rfl, rfl⟩⟩
            ·
              simp only [decide_eq_false_iff_not] at hc2
              rw [if_neg hc2] at hg2
              refine HW_skip rfl ?_
              refine gn_sq ?_
              refine HW_seq rfl ?_
              refine HW_text (.pure 0 (.pure 1 (.pure 2 (.pure 3 (.act 4 .done))))) (by kernel_rfl) ?_
              refine rw_p rfl rfl (y_move rfl) ?_
              refine rw_p rfl rfl (y_loadA (s := 5) (vs := [_, _, _, _, _]) rfl ag78 (hm.nt 2 rfl) rfl) ?_
              refine rw_p rfl rfl (y_nil rfl) ?_
              refine rw_p rfl rfl (y_fieldAddr rfl fo80_6) ?_
              refine a_store rfl rfl rfl rfl sz78 rfl hm 3 rfl rfl fun w hm => ?_
              refine rw_done ?_
              refine gn_sq ?_
              refine HW_seq rfl ?_
              refine HW_text (.pure 0 (.pure 1 (.pure 2 (.act 3 .done)))) (by kernel_rfl) ?_
              refine rw_p rfl rfl (y_move rfl) ?_
              refine rw_p rfl rfl (y_nil rfl) ?_
              refine rw_p rfl rfl (y_fieldAddr rfl fo80_5) ?_
              refine a_store rfl rfl rfl rfl sz4 rfl hm 3 rfl rfl fun w hm => ?_
              refine rw_done ?_
              refine gn_sq ?_
              refine HW_seq rfl ?_
              refine HW_text (.pure 0 (.pure 1 (.pure 2 (.pure 3 (.pure 4 (.pure 5 (.pure 6 (.act 7 .done)))))))) (by kernel_rfl) ?_
              refine rw_p rfl rfl (y_move rfl) ?_
              refine rw_p rfl rfl (y_nil rfl) ?_
              refine rw_p rfl rfl (y_fieldAddr rfl fo80_4) ?_
              refine rw_p rfl rfl (y_load rfl sc23 (hm.nt 3 rfl) rfl) ?_
              refine rw_p rfl rfl (y_add rfl rfl rfl) ?_
              refine rw_p rfl rfl (y_nil rfl) ?_
              refine rw_p rfl rfl (y_fieldAddr rfl fo80_4) ?_
              refine a_store rfl rfl rfl rfl sz23 rfl hm 3 rfl rfl fun w hm => ?_
              refine rw_done ?_
              refine gn_sq ?_
              refine HW_seq rfl ?_
              refine HW_text (.pure 0 .done) (by kernel_rfl) ?_
              refine rw_p rfl rfl (y_assign rfl) ?_
              refine rw_done ?_
              refine gn_sq ?_
              refine HW_ret rfl ?_
              refine toR (fin hret rfl (.tmp rfl .nil) .one ?_)
              exact ⟨by rw [hgo, hg2], Z3, q, cq, by rw [hgo, hg2]; exact hz3, by rw [hgo, hg2]; exact (hm.pickT [3] 4 rfl), by rw [hgo, hg2]; exact .inr ⟨rfl, rfl, rfl⟩⟩
        ·
          simp only [decide_eq_false_iff_not] at hc1
          rw [if_pos hc1] at hg2
          refine HW_skip rfl ?_
          refine gn_sq ?_
          refine HW_seq rfl ?_
          refine HW_seq rfl ?_
          ·
            refine HW_text (.pure 0 (.pure 1 .done)) (by kernel_rfl) ?_
            refine rw_p rfl rfl (y_move rfl) ?_
            refine rw_p rfl rfl (y_as (c := true) (y_ne rfl rfl) (decide_eq_true hc1)) ?_
            refine rw_done ?_
            refine gn_sq ?_
            refine HW_condT rfl rfl rfl ?_
            refine HW_seq rfl ?_
            refine HW_text (.pure 0 (.pure 1 .done)) (by kernel_rfl) ?_
            refine rw_p rfl rfl (y_move rfl) ?_
            refine rw_p rfl rfl (y_assign rfl) ?_
            refine rw_done ?_
            refine gn_sq ?_
            refine HW_ret rfl ?_
            refine gr_sq ?_
            refine toR (fin hret rfl (.tmp rfl .nil) .one ?_)
            exact ⟨by rw [hgo, hg2], Z2, p0, c0, by rw [hgo, hg2]; exact hz2, by rw [hgo, hg2]; exact (hm.pickT [3] 4 rfl), by rw [hgo, hg2]; exact .inl ⟨rfl, rfl, rfl⟩⟩
      ·
        refine a_alloc rfl rfl z63 hm hh fun m2 w hg_m2 hm hh => ?_
        refine a_call rfl rfl rfl go31 (r22_slotB D m Z _ (hZd.ext hm.to) hz f N b hb hN (Pl.jslotN S) h2 hlt) fun v w hR => ?_
        obtain ⟨rfl, hE⟩ := hR
        refine ⟨hh.ext hE, ?_⟩
        replace hm := hm.ext hE
        replace hh := hh.ext hE
        refine a_cut ?_
        refine a_store rfl rfl rfl rfl sz63 rfl hm 0 rfl rfl fun w hm => ?_
        refine rw_done ?_
        refine gn_sq ?_
        refine HW_seq rfl ?_
        refine HW_draw (.pure 0 (.pure 1 (.pure 2 (.pure 3 (.pure 4 (.pure 5 (.pure 6 (.act 7 (.cut (.act 8 (.pure 9 .done))))))))))) No mix (by kernel_rfl) hm fun w hw hm0 hh => ?_
        have hm := hm0
        refine rw_p rfl rfl (y_move rfl) ?_
        refine rw_p rfl rfl (y_nil rfl) ?_
        refine rw_p rfl rfl (y_fieldAddr rfl fo80_0) ?_
        refine rw_p rfl rfl (y_load rfl sc28 (fun u hu => ((hm0.to.trans hu).same _ (Array.getElem?_eq_some_iff.1 hJ).1 id).trans hJ) rfl) ?_
        refine rw_p rfl rfl (y_fieldAddr rfl fo63_0) ?_
        refine rw_p rfl rfl (y_load rfl sc3 (hm0.nd 0 rfl id) rfl) ?_
        refine rw_p rfl rfl (y_loadA (s := 5) (vs := [_, _, _, _, _]) rfl ag78 (hm0.nd 1 rfl id) rfl) ?_
        refine a_call rfl rfl rfl go41 (r21_encode (Pl.jmk S k cu of bs) q cq _ (hq.ext0 hm.to) hkr hbl hr) fun v w hR => ?_
        obtain ⟨p_z, cap_z, g_z, b_z, rfl, ha_z, hmc⟩ := hR
        refine ⟨hh.ext hmc.to, ?_⟩
        have hg_z : b_z.real = true → _ := fun hr => (hmc.fresh _ List.mem_cons_self hr).resolve_left id
        replace hh := hh.ext hmc.to
        replace hm := hm.callN hmc
        replace hm := hm.withZ hZ
        refine a_cut ?_
        refine a_call rfl rfl rfl go40 (r20_write D m Z _ (OwnZ.right (A := [_, _, _, _]) hm.ownZ) hz (Pl.jat D f N (Pl.jslotN S)) p_z cap_z (Pl.renc (Pl.jmk S k cu of bs)) hon (ha_z.rd hm 0 rfl) (hm.notR (A := [_, _, _, _]) ha_z 0 rfl) hcl) fun v w hR => ?_
        obtain ⟨rfl, Z2, hz2, hmc⟩ := hR
        refine ⟨trivial, ?_⟩
        replace hm := Mem.callZL (A := [_, _, _, _]) hm hmc
        have hws := (Pl.wrS_ok (Pl.jat D f N (Pl.jslotN S)) (Pl.renc (Pl.jmk S k cu of bs)) (Pl.sN D.sz (Pl.jat D f N (Pl.jslotN S)) (Pl.renc (Pl.jmk S k cu of bs)).length) (Pl.sF D.sz (Pl.jat D f N (Pl.jslotN S)) (Pl.renc (Pl.jmk S k cu of bs)).length) D hok (by omega)).2.2.2
        obtain ⟨⟨e1, D1⟩, hW⟩ : ∃ x : Int × Pl.Dv, (Pl.wrS (Pl.jat D f N (Pl.jslotN S)) (Pl.renc (Pl.jmk S k cu of bs)) (Pl.sN D.sz (Pl.jat D f N (Pl.jslotN S)) (Pl.renc (Pl.jmk S k cu of bs)).length) (Pl.sF D.sz (Pl.jat D f N (Pl.jslotN S)) (Pl.renc (Pl.jmk S k cu of bs)).length) D) = x := ⟨_, rfl⟩
        rw [hW] at hz2 hws ⊢
        have hW2 : Pl.jwr D f N S (Pl.jmk S k cu of bs) = (e1, D1) := hW
        have hg2 : Pl.jgo D f N S (Pl.jmk S k cu of bs) = if e1 ≠ 0 then (e1, D1, S) else if Pl.fCode D1 ≠ 0 then (Pl.fCode D1, Pl.fDv D1, S) else (0, Pl.fDv D1, ⟨IntKind.u64.wrap (S.nx + 1), true, (Pl.jmk S k cu of bs)⟩) := by unfold Pl.jgo; rw [hW2]
        refine rw_p rfl rfl (y_assign rfl) ?_
        refine rw_done ?_
        refine gn_sq ?_
        refine HW_seq rfl ?_
        refine HW_seq rfl ?_
        refine HW_text (.pure 0 (.pure 1 .done)) (by kernel_rfl) ?_
        refine rw_p rfl rfl (y_move rfl) ?_
        refine rw_p rfl rfl (y_eq rfl rfl) ?_
        refine rw_done ?_
        refine gn_sq ?_
        refine HW_cond rfl rfl (fun hc1 => ?_) (fun hc1 => ?_)
        ·
          simp only [decide_eq_true_eq] at hc1
          rw [if_neg (fun h9 => h9 hc1)] at hg2
          refine HW_text (.pure 0 (.pure 1 (.pure 2 (.pure 3 (.act 4 (.pure 5 .done)))))) (by kernel_rfl) ?_
          refine rw_p rfl rfl (y_move rfl) ?_
          refine rw_p rfl rfl (y_nil rfl) ?_
          refine rw_p rfl rfl (y_fieldAddr rfl fo80_0) ?_
          refine rw_p rfl rfl (y_load rfl sc28 (hm.nt 3 rfl) rfl) ?_
          refine a_call rfl rfl rfl go42 (q_flush D1 m Z2 _ (OwnZ.right (A := [_, _, _, _]) hm.ownZ) hz2 (by simp only at hws; omega)) fun v w hR => ?_
          obtain ⟨rfl, Z3, hz3, hmc⟩ := hR
          refine ⟨trivial, ?_⟩
          replace hm := Mem.callZL (A := [_, _, _, _]) hm hmc
          refine rw_p rfl rfl (y_assign rfl) ?_
          refine rw_done ?_
          refine gn_sq ?_
          refine HW_seq rfl ?_
          refine HW_seq rfl ?_
          ·
            refine HW_text (.pure 0 (.pure 1 .done)) (by kernel_rfl) ?_
            refine rw_p rfl rfl (y_move rfl) ?_
            refine rw_p rfl rfl (y_ne rfl rfl) ?_
            refine rw_done ?_
            refine gn_sq ?_
            refine HW_cond rfl rfl (fun hc2 => ?_) (fun hc2 => ?_)
            ·
              simp only [decide_eq_true_eq] at hc2
              rw [if_pos hc2] at hg2
              refine HW_seq rfl ?_
              refine HW_text (.pure 0 (.pure 1 .done)) (by kernel_rfl) ?_
              refine rw_p rfl rfl (y_move rfl) ?_
              refine rw_p rfl rfl (y_assign rfl) ?_
              refine rw_done ?_
              refine gn_sq ?_
              refine HW_ret rfl ?_
              refine gr_sq ?_
              refine toR (fin hret rfl (.tmp rfl .nil) .one ?_)
              exact ⟨by rw [hgo, hg2], Z3, p0, c0, by rw [hgo, hg2]; exact hz3, by rw [hgo, hg2]; exact (hm.pickT [3] 4 rfl), by rw [hgo, hg2]; exact .inl ⟨rfl, rfl, rfl⟩⟩
            ·
              simp only [decide_eq_false_iff_not] at hc2
              rw [if_neg hc2] at hg2
              refine HW_skip rfl ?_
              refine gn_sq ?_
              refine HW_seq rfl ?_
              refine HW_text (.pure 0 (.pure 1 (.pure 2 (.pure 3 (.act 4 .done))))) (by kernel_rfl) ?_
              refine rw_p rfl rfl (y_move rfl) ?_
              refine rw_p rfl rfl (y_loadA (s := 5) (vs := [_, _, _, _, _]) rfl ag78 (hm.nt 2 rfl) rfl) ?_
              refine rw_p rfl rfl (y_nil rfl) ?_
              refine rw_p rfl rfl (y_fieldAddr rfl fo80_6) ?_
              refine a_store rfl rfl rfl rfl sz78 rfl hm 3 rfl rfl fun w hm => ?_
              refine rw_done ?_
              refine gn_sq ?_
              refine HW_seq rfl ?_
              refine HW_text (.pure 0 (.pure 1 (.pure 2 (.act 3 .done)))) (by kernel_rfl) ?_
              refine rw_p rfl rfl (y_move rfl) ?_
              refine rw_p rfl rfl (y_nil rfl) ?_
              refine rw_p rfl rfl (y_fieldAddr rfl fo80_5) ?_
              refine a_store rfl rfl rfl rfl sz4 rfl hm 3 rfl rfl fun w hm => ?_
              refine rw_done ?_
              refine gn_sq ?_
              refine HW_seq rfl ?_
              refine HW_text (.pure 0 (.pure 1 (.pure 2 (.pure 3 (.pure 4 (.pure 5 (.pure 6 (.act 7 .done)))))))) (by kernel_rfl) ?_
              refine rw_p rfl rfl (y_move rfl) ?_
              refine rw_p rfl rfl (y_nil rfl) ?_
              refine rw_p rfl rfl (y_fieldAddr rfl fo80_4) ?_
              refine rw_p rfl rfl (y_load rfl sc23 (hm.nt 3 rfl) rfl) ?_
              refine rw_p rfl rfl (y_add rfl rfl rfl) ?_
              refine rw_p rfl rfl (y_nil rfl) ?_
              refine rw_p rfl rfl (y_fieldAddr rfl fo80_4) ?_
              refine a_store rfl rfl rfl rfl sz23 rfl hm 3 rfl rfl fun w hm => ?_
              refine rw_done ?_
              refine gn_sq ?_
              refine HW_seq rfl ?_
              refine HW_text (.pure 0 .done) (by kernel_rfl) ?_
              refine rw_p rfl rfl (y_assign rfl) ?_
              refine rw_done ?_
              refine gn_sq ?_
              refine HW_ret rfl ?_
              refine toR (fin hret rfl (.tmp rfl .nil) .one ?_)
              exact ⟨by rw [hgo, hg2], Z3, q, cq, by rw [hgo, hg2]; exact hz3, by rw [hgo, hg2]; exact (hm.pickT [3] 4 rfl), by rw [hgo, hg2]; exact .inr ⟨rfl, rfl, rfl⟩⟩
        ·
          simp only [decide_eq_false_iff_not] at hc1
          rw [if_pos hc1] at hg2
          refine HW_skip rfl ?_
          refine gn_sq ?_
          refine HW_seq rfl ?_
          refine HW_seq rfl ?_
          ·
            refine HW_text (.pure 0 (.pure 1 .done)) (by kernel_rfl) ?_
            refine rw_p rfl rfl (y_move rfl) ?_
            refine rw_p rfl rfl (y_as (c := true) (y_ne rfl rfl) (decide_eq_true hc1)) ?_
            refine rw_done ?_
            refine gn_sq ?_
            refine HW_condT rfl rfl rfl ?_
            refine HW_seq rfl ?_
            refine HW_text (.pure 0 (.pure 1 .done)) (by kernel_rfl) ?_
            refine rw_p rfl rfl (y_move rfl) ?_
            refine rw_p rfl rfl (y_assign rfl) ?_
            refine rw_done ?_
            refine gn_sq ?_
            refine HW_ret rfl ?_
            refine gr_sq ?_
            refine toR (fin hret rfl (.tmp rfl .nil) .one ?_)
            exact ⟨by rw [hgo, hg2], Z2, p0, c0, by rw [hgo, hg2]; exact hz2, by rw [hgo, hg2]; exact (hm.pickT [3] 4 rfl), by rw [hgo, hg2]; exact .inl ⟨rfl, rfl, rfl⟩⟩

end Go.Proofs.YthailbggeafckaaGreat
