/- Contracts of functions of the program: what each returns. Conditions: the hypotheses of each theorem. -/
import Derived.Test.YtpandemmaoeioaaLawB
import Derived.Test.YtpandemmaoeioaaCxU
set_option linter.unusedVariables false
set_option linter.unusedSimpArgs false
namespace Go.Proofs.Ytpandemmaoeioaa
open Go Go.Cx



theorem p_bytesB (i : Int) (r : Option Addr) (cr : Nat) (f : List UInt8) (m : Nat) (s : Int) (pf : Option Addr) (cf : Nat) (pb : Option Addr) (cb : Nat) (pl : Option Addr) (cl : Nat) (xs : List CmdV) (w0 : World) (hP : w0.heap[m]? = some (Blk.row 64 (plV s pf (firstL s (xs.map CmdV.cm)).length cf pb cb pl xs.length cl)).toObj) (hF : Rd w0 pf ((firstL s (xs.map CmdV.cm)).flatMap encI)) (hB : Rd w0 pb ((beforeL (xs.map CmdV.cm)).flatMap encI)) (hL : Rd w0 pl (xs.flatMap encC)) (hfw : Pl.fewC s (xs.map CmdV.cm)) (hmx : (xs.map CmdV.cm).length ≤ 1000000 ∧ Pl.first s (xs.map CmdV.cm) (xs.map CmdV.cm).length ≤ 4611686018427387903) (hD : ∀ x ∈ xs, x.d.okN w0 ∧ x.d.bs.length ≤ 140737488355328) (hs : Pl.I64 s ∧ 1 ≤ s) (hi64 : Pl.I64 i) (hg : ¬ (0 ≤ i ∧ i < Pl.first s (xs.map CmdV.cm) (xs.map CmdV.cm).length)) : C Try.prog 21 [.pointer (some ⟨m, 0, none⟩), .slice r f.length cr, .int .i64 i] w0 fun v w' => ∃ cp, v = .tuple ⟨[.slice none 0 cp, .bool false]⟩ ∧ Ext No w0 w' := by
  refine C_of Try.func21 rfl rfl rfl fun κ hret hnorm => ?_
  have hm := Mem.start w0
  refine HW_seq rfl ?_
  refine HW_text (.pure 0 (.pure 1 .done)) (by kernel_rfl) ?_
  refine rw_p rfl rfl (y_assign rfl) ?_
  refine rw_p rfl rfl (y_assign rfl) ?_
  refine rw_done ?_
  refine gn_sq ?_
  refine HW_seq rfl ?_
  refine HW_text (.pure 0 (.pure 1 (.act 2 (.pure 3 (.pure 4 (.pure 5 (.act 6 (.act 7 (.pure 8 .done))))))))) (by kernel_rfl) ?_
  refine rw_p rfl rfl (y_move rfl) ?_
  refine rw_p rfl rfl (y_move rfl) ?_
  refine a_call rfl rfl rfl go15 (p_atB i m s pf cf pb cb pl cl xs _ ((hm.to.same _ (Array.getElem?_eq_some_iff.1 hP).1 id).trans hP) (hF.ext0 hm.to) (hB.ext0 hm.to) (hL.ext0 hm.to) hfw hmx (fun y hy => ⟨(hD y hy).1.ext hm.to, (hD y hy).2⟩) hs hi64 hg) fun v w hR => ?_
  obtain ⟨p_t, n_t, cap_t, g_t, b_t, rfl, ha_t, hmc⟩ := hR
  refine ⟨trivial, ?_⟩
  replace hm := hm.callN hmc
  obtain rfl := ha_t.lenB
  refine rw_p rfl rfl (y_move rfl) ?_
  refine rw_p rfl rfl (y_extract rfl rfl) ?_
  refine rw_p rfl rfl (y_extract rfl rfl) ?_
  refine a_alloc rfl rfl z36 hm trivial fun m1 w hg_m1 hm hh => ?_
  refine a_store rfl rfl rfl rfl sz36 rfl hm 0 rfl rfl fun w hm => ?_
  refine rw_p rfl rfl (y_assign rfl) ?_
  refine rw_done ?_
  refine gn_sq ?_
  refine HW_seq rfl ?_
  refine HW_seq rfl ?_
  refine HW_text (.pure 0 (.pure 1 .done)) (by kernel_rfl) ?_
  refine rw_p rfl rfl (y_move rfl) ?_
  refine rw_p rfl rfl (y_not rfl) ?_
  refine rw_done ?_
  refine gn_sq ?_
  refine HW_condT rfl rfl rfl ?_
  refine HW_seq rfl ?_
  refine HW_text (.pure 0 (.pure 1 .done)) (by kernel_rfl) ?_
  refine rw_p rfl rfl (y_assign rfl) ?_
  refine rw_p rfl rfl (y_assign rfl) ?_
  refine rw_done ?_
  refine gn_sq ?_
  refine HW_ret rfl ?_
  refine gr_sq ?_
  refine toR (fin hret rfl (.tmp rfl (.tmp rfl .nil)) .more ?_)
  exact ⟨_, rfl, hm.to⟩

set_option maxHeartbeats 800000 in
theorem p_bytesG (i : Int) (r : Option Addr) (cr : Nat) (f : List UInt8) (m : Nat) (s : Int) (pf : Option Addr) (cf : Nat) (pb : Option Addr) (cb : Nat) (pl : Option Addr) (cl : Nat) (xs : List CmdV) (w0 : World) (hP : w0.heap[m]? = some (Blk.row 64 (plV s pf (firstL s (xs.map CmdV.cm)).length cf pb cb pl xs.length cl)).toObj) (hF : Rd w0 pf ((firstL s (xs.map CmdV.cm)).flatMap encI)) (hB : Rd w0 pb ((beforeL (xs.map CmdV.cm)).flatMap encI)) (hL : Rd w0 pl (xs.flatMap encC)) (hfw : Pl.fewC s (xs.map CmdV.cm)) (hmx : (xs.map CmdV.cm).length ≤ 1000000 ∧ Pl.first s (xs.map CmdV.cm) (xs.map CmdV.cm).length ≤ 4611686018427387903) (hD : ∀ x ∈ xs, x.d.okN w0 ∧ x.d.bs.length ≤ 140737488355328) (hs : Pl.I64 s ∧ 1 ≤ s) (hf : Rd w0 r (f.flatMap encB)) (hf2 : f.length ≤ cr ∧ f.length ≤ 140737488355328) (hfs : cr ≠ 0 → ∀ ad, r = some ad → ad.spot = none) (hi64 : Pl.I64 i) (hg : 0 ≤ i ∧ i < Pl.first s (xs.map CmdV.cm) (xs.map CmdV.cm).length) : C Try.prog 21 [.pointer (some ⟨m, 0, none⟩), .slice r f.length cr, .int .i64 i] w0 fun v w' => ∃ (k : Nat) (d : Pl.Cm) (q : Option Addr) (cp g : Nat) (bb : Blk), (Pl.steps s 0 (xs.map CmdV.cm))[i.toNat]? = some (k, d) ∧ v = .tuple ⟨[.slice q ((Pl.bytesOf f d).getD []).length cp, .bool (Pl.bytesOf f d).isSome]⟩ ∧ Acc 5 1 q ((Pl.bytesOf f d).getD []).length cp (((Pl.bytesOf f d).getD []).flatMap encB) g bb ∧ Mem w0 w' No [(g, bb)] := by
  refine C_of Try.func21 rfl rfl rfl fun κ hret hnorm => ?_
  have hm := Mem.start w0
  refine HW_seq rfl ?_
  refine HW_text (.pure 0 (.pure 1 .done)) (by kernel_rfl) ?_
  refine rw_p rfl rfl (y_assign rfl) ?_
  refine rw_p rfl rfl (y_assign rfl) ?_
  refine rw_done ?_
  refine gn_sq ?_
  refine HW_seq rfl ?_
  refine HW_text (.pure 0 (.pure 1 (.act 2 (.pure 3 (.pure 4 (.pure 5 (.act 6 (.act 7 (.pure 8 .done))))))))) (by kernel_rfl) ?_
  refine rw_p rfl rfl (y_move rfl) ?_
  refine rw_p rfl rfl (y_move rfl) ?_
  refine a_call rfl rfl rfl go15 (p_atG i m s pf cf pb cb pl cl xs _ ((hm.to.same _ (Array.getElem?_eq_some_iff.1 hP).1 id).trans hP) (hF.ext0 hm.to) (hB.ext0 hm.to) (hL.ext0 hm.to) hfw hmx (fun y hy => ⟨(hD y hy).1.ext hm.to, (hD y hy).2⟩) hs hi64 hg) fun v w hR => ?_
  obtain ⟨k_t, d_t, p_t, n_t, cap_t, g_t, b_t, rfl, ha_t, hst_t, hmc⟩ := hR
  refine ⟨trivial, ?_⟩
  replace hm := hm.callN hmc
  obtain rfl := ha_t.lenB
  have hdc := (Pl.steps_ok (b := 0) (fun c hc => (hfw c hc).1) _ (List.mem_of_getElem? hst_t)).1
  simp only at hdc
  have hdk := Pl.ccheck_ok hdc
  have hbo : Pl.bytesOf f d_t = if d_t.k = 1 then (if d_t.fr + d_t.ln ≤ f.length then some ((f.drop d_t.fr.toNat).take d_t.ln.toNat) else none) else some d_t.bs := rfl
  refine rw_p rfl rfl (y_move rfl) ?_
  refine rw_p rfl rfl (y_extract rfl rfl) ?_
  refine rw_p rfl rfl (y_extract rfl rfl) ?_
  refine a_alloc rfl rfl z36 hm trivial fun m1 w hg_m1 hm hh => ?_
  refine a_store rfl rfl rfl rfl sz36 rfl hm 0 rfl rfl fun w hm => ?_
  refine rw_p rfl rfl (y_assign rfl) ?_
  refine rw_done ?_
  refine gn_sq ?_
  refine HW_seq rfl ?_
  refine HW_seq rfl ?_
  refine HW_text (.pure 0 (.pure 1 .done)) (by kernel_rfl) ?_
  refine rw_p rfl rfl (y_move rfl) ?_
  refine rw_p rfl rfl (y_not rfl) ?_
  refine rw_done ?_
  refine gn_sq ?_
  refine HW_condF rfl rfl rfl ?_
  refine HW_skip rfl ?_
  refine gn_sq ?_
  refine HW_seq rfl ?_
  refine HW_text (.pure 0 (.pure 1 (.act 2 (.pure 3 (.pure 4 (.pure 5 (.act 6 (.act 7 (.pure 8 .done))))))))) (by kernel_rfl) ?_
  refine rw_p rfl rfl (y_fieldAddr rfl fo36_2) ?_
  refine rw_p rfl rfl (y_loadA (s := 5) (vs := [_, _, _, _, _]) rfl ag34 (hm.nt 0 rfl) rfl) ?_
  refine a_call rfl rfl rfl go41 (c_source d_t p_t cap_t _) fun v w hR => ?_
  obtain ⟨rfl, hE⟩ := hR
  refine ⟨trivial, ?_⟩
  replace hm := hm.ext hE
  have hsr : Pl.csrc d_t = if d_t.k = 1 then (d_t.fr, d_t.ln) else (0, 0) := rfl
  refine rw_p rfl rfl (y_move rfl) ?_
  refine rw_p rfl rfl (y_extract rfl rfl) ?_
  refine rw_p rfl rfl (y_extract rfl rfl) ?_
  refine a_alloc rfl rfl z67 hm trivial fun m2 w hg_m2 hm hh => ?_
  refine a_store rfl rfl rfl rfl sz67 rfl hm 0 rfl rfl fun w hm => ?_
  refine rw_p rfl rfl (y_assign rfl) ?_
  refine rw_done ?_
  refine gn_sq ?_
  refine HW_seq rfl ?_
  refine HW_block rfl ?_
  refine HW_seq rfl ?_
  refine HW_text (.pure 0 (.pure 1 (.pure 2 .done))) (by kernel_rfl) ?_
  refine rw_p rfl rfl (y_move rfl) ?_
  refine rw_p rfl rfl (y_not rfl) ?_
  refine rw_p rfl rfl (y_assign rfl) ?_
  refine rw_done ?_
  refine gn_sq ?_
  refine HW_cond rfl rfl (fun hc1 => ?_) (fun hc1 => ?_)
  ·
    have hk1 : ¬ d_t.k = 1 := by simpa using hc1
    rw [if_neg hk1] at hbo
    refine HW_seq rfl ?_
    refine HW_text (.pure 0 (.pure 1 (.pure 2 (.pure 3 (.pure 4 .done))))) (by kernel_rfl) ?_
    refine rw_p rfl rfl (y_fieldAddr rfl fo36_2) ?_
    refine rw_p rfl rfl (y_fieldAddr rfl fo34_4) ?_
    refine rw_p rfl rfl (y_load rfl sc32 (hm.nt 1 rfl) rfl) ?_
    refine rw_p rfl rfl (y_assign rfl) ?_
    refine rw_p rfl rfl (y_assign rfl) ?_
    refine rw_done ?_
    refine gn_sq ?_
    refine HW_ret rfl ?_
    refine gr_bl (gr_sq ?_)
    refine toR (fin hret rfl (.tmp rfl (.tmp rfl .nil)) .more ?_)
    exact ⟨k_t, d_t, p_t, cap_t, g_t, b_t, hst_t, by rw [hbo]; rfl, by rw [hbo]; exact ha_t, (hm.pick [2] rfl)⟩
  ·
    have hk1 : d_t.k = 1 := by simpa using hc1
    rw [if_pos hk1] at hsr hbo
    refine HW_seq rfl ?_
    refine HW_text (.pure 0 (.act 1 (.pure 2 (.pure 3 (.pure 4 (.pure 5 .done)))))) (by kernel_rfl) ?_
    refine rw_p rfl rfl (y_loadA (s := 2) (vs := [_, _]) rfl ag67 (hm.nt 0 rfl) rfl) ?_
    refine a_call rfl rfl rfl go42 (C.eqv (ext_end d_t.fr d_t.ln _ (by simp only [Pl.I64]; omega)) (by rw [hsr])) fun v w hR => ?_
    obtain ⟨rfl, hE⟩ := hR
    refine ⟨trivial, ?_⟩
    replace hm := hm.ext hE
    refine rw_p rfl rfl (y_move rfl) ?_
    refine rw_p rfl rfl (y_len rfl rfl sl32) ?_
    refine rw_p rfl rfl (y_gt rfl rfl) ?_
    refine rw_p rfl rfl (y_assign rfl) ?_
    refine rw_done ?_
    refine gn_sq ?_
    refine HW_cond rfl rfl (fun hc2 => ?_) (fun hc2 => ?_)
    ·
      simp only [decide_eq_true_eq] at hc2
      rw [if_neg (by omega)] at hbo
      refine HW_seq rfl ?_
      refine HW_text (.pure 0 (.pure 1 .done)) (by kernel_rfl) ?_
      refine rw_p rfl rfl (y_assign rfl) ?_
      refine rw_p rfl rfl (y_assign rfl) ?_
      refine rw_done ?_
      refine gn_sq ?_
      refine HW_ret rfl ?_
      refine gr_bl (gr_sq ?_)
      refine toR (fin hret rfl (.tmp rfl (.tmp rfl .nil)) .more ?_)
      exact ⟨k_t, d_t, none, 0, 0, .gap, hst_t, by rw [hbo]; rfl, by rw [hbo]; exact .nil _ _ _ _, (hm.drop (List.nil_sublist _)).gapIn⟩
    ·
      simp only [decide_eq_false_iff_not] at hc2
      rw [if_pos (by omega)] at hbo
      have hcl : ((f.drop d_t.fr.toNat).take d_t.ln.toNat).length = d_t.ln.toNat := by rw [List.length_take, List.length_drop]; omega
      refine HW_skip rfl ?_
      refine gn_bl ?_
      refine gn_sq ?_
      refine HW_seq rfl ?_
      refine HW_draw (.pure 0 (.pure 1 (.pure 2 (.pure 3 (.act 4 (.cut (.pure 5 (.act 6 (.pure 7 (.pure 8 .done)))))))))) No mix (by kernel_rfl) hm fun w hw hm0 hh => ?_
      have hm := hm0
      refine rw_p rfl rfl (y_move rfl) ?_
      refine rw_p rfl rfl (y_fieldAddr rfl fo67_0) ?_
      refine rw_p rfl rfl (y_load rfl sc3 (hm0.nd 0 rfl id) rfl) ?_
      refine rw_p rfl rfl (y_loadA (s := 2) (vs := [_, _]) rfl ag67 (hm0.nd 0 rfl id) rfl) ?_
      refine a_call rfl rfl rfl go42 (C.eqv (ext_end d_t.fr d_t.ln _ (by simp only [Pl.I64]; omega)) (by rw [hsr])) fun v w hR => ?_
      obtain ⟨rfl, hE⟩ := hR
      refine ⟨hh.ext hE, ?_⟩
      replace hm := hm.ext hE
      replace hh := hh.ext hE
      refine a_cut ?_
      refine rw_p rfl rfl (y_v (y_slice (ln := d_t.fr.toNat) (hn := (d_t.fr.toNat + d_t.ln.toNat)) rfl sl32 ⟨_, congrArg (fun x => some (Value.int .i64 x)) (by rw [hsr]; simp only; omega)⟩ ⟨_, congrArg (fun x => some (Value.int .i64 x)) (by omega)⟩ (by omega) (by omega) (fun h => hfs (by omega))) (show _ = Value.slice (slp r cr d_t.fr.toNat 1) ((f.drop d_t.fr.toNat).take d_t.ln.toNat).length (cr - d_t.fr.toNat) by rw [hcl, Nat.add_sub_cancel_left])) ?_
      refine a_call rfl rfl rfl go43 (clone_b (slp r cr d_t.fr.toNat 1) (cr - d_t.fr.toNat) ((f.drop d_t.fr.toNat).take d_t.ln.toNat) _ ((hf.ext0 hm.to).sub hf2.1) (by rw [hcl]; omega)) fun v w hR => ?_
      obtain ⟨p_s, cap_s, g_s, b_s, rfl, ha_s, hmc⟩ := hR
      refine ⟨trivial, ?_⟩
      have hg_s : b_s.real = true → _ := fun hr => (hmc.fresh _ List.mem_cons_self hr).resolve_left id
      replace hm := hm.callN hmc
      refine rw_p rfl rfl (y_assign rfl) ?_
      refine rw_p rfl rfl (y_assign rfl) ?_
      refine rw_done ?_
      refine gn_sq ?_
      refine HW_ret rfl ?_
      refine toR (fin hret rfl (.tmp rfl (.tmp rfl .nil)) .more ?_)
      exact ⟨k_t, d_t, p_s, cap_s, g_s, b_s, hst_t, by rw [hbo]; rfl, by rw [hbo]; exact ha_s, (hm.pick [0] rfl)⟩

end Go.Proofs.Ytpandemmaoeioaa
