/- Contracts of functions of the program: what each returns. Conditions: the hypotheses of each theorem. -/
import Derived.Test.YtdiklnekplhhgaaLawB
set_option linter.unusedVariables false
set_option linter.unusedSimpArgs false
namespace Go.Proofs.Ytdiklnekplhhgaa
open Go Go.Cx

theorem go16 : isGo Try.prog 16 = true := by kernel_rfl
theorem go17 : isGo Try.prog 17 = true := by kernel_rfl
theorem go19 : isGo Try.prog 19 = true := by kernel_rfl
theorem go20 : isGo Try.prog 20 = true := by kernel_rfl
theorem un4 : Try.prog.underlying 4 = some .bool := by kernel_rfl

set_option maxHeartbeats 1600000 in
theorem law_clones (p0 : Option Addr) (c0 : Nat) (a : List UInt8) (p1 : Option Addr) (c1 : Nat) (b : List UInt8) (p2 : Option Addr) (c2 : Nat) (d : List UInt8) (w0 : World) (ha : SB.ok w0 ⟨p0, c0, a⟩) (hb : SB.ok w0 ⟨p1, c1, b⟩) (hd : SB.ok w0 ⟨p2, c2, d⟩) : C Try.prog 6 [.slice p0 a.length c0, .slice p1 b.length c1, .slice p2 d.length c2] w0 fun v w' => v = .bool true ∧ Ext No w0 w' := by
  refine C_of Try.func6 rfl rfl rfl fun κ hret hnorm => ?_
  have hm := Mem.start w0
  refine HW_seq rfl ?_
  refine HW_text (.pure 0 .done) (by kernel_rfl) ?_
  refine rw_p rfl rfl (y_assign rfl) ?_
  refine rw_done ?_
  refine gn_sq ?_
  refine HW_seq rfl ?_
  refine HW_seq rfl ?_
  refine HW_text (.pure 0 (.pure 1 (.pure 2 (.pure 3 (.pure 4 (.pure 5 (.pure 6 (.pure 7 (.pure 8 (.pure 9 (.pure 10 (.pure 11 (.pure 12 .done))))))))))))) (by kernel_rfl) ?_
  refine rw_p rfl rfl (y_move rfl) ?_
  refine rw_p rfl rfl (y_len rfl rfl sl22) ?_
  refine rw_p rfl rfl (y_gt rfl rfl) ?_
  refine rw_p rfl rfl (y_move rfl) ?_
  refine rw_g rfl rfl rfl (fun hc => (y_move rfl)) ?_
  refine rw_g rfl rfl rfl (fun hc => (y_len (gx hc rfl) rfl sl22)) ?_
  refine rw_g rfl rfl rfl (fun hc => (y_gt (gx hc rfl) rfl)) ?_
  refine rw_p rfl rfl (y_or rfl rfl rfl) ?_
  refine rw_p rfl rfl (y_move rfl) ?_
  refine rw_g rfl rfl rfl (fun hc => (y_move rfl)) ?_
  refine rw_g rfl rfl rfl (fun hc => (y_len (gx hc rfl) rfl sl22)) ?_
  refine rw_g rfl rfl rfl (fun hc => (y_gt (gx hc rfl) rfl)) ?_
  refine rw_p rfl rfl (y_or rfl rfl rfl) ?_
  refine rw_done ?_
  refine gn_sq ?_
  refine HW_cond rfl rfl (fun hc0 => ?_) (fun hc0 => ?_)
  ·
    simp only [Bool.and_eq_true, Bool.or_eq_true, Bool.and_eq_false_iff, Bool.or_eq_false_iff, Bool.not_eq_true', Bool.not_eq_false', decide_eq_true_eq, decide_eq_false_iff_not] at hc0
    refine HW_seq rfl ?_
    refine HW_text (.act 0 (.pure 1 .done)) (by kernel_rfl) ?_
    refine a_call rfl rfl rfl go9 (C.as (v := .bool true) (law_alive _) (congrArg Value.bool rfl)) fun v w hR => ?_
    obtain ⟨rfl, hE⟩ := hR
    refine ⟨trivial, ?_⟩
    replace hm := hm.ext hE
    refine rw_p rfl rfl (y_assign rfl) ?_
    refine rw_done ?_
    refine gn_sq ?_
    refine HW_ret rfl ?_
    refine gr_sq ?_
    refine toR (fin hret rfl (.tmp rfl .nil) .one ?_)
    exact ⟨rfl, hm.to⟩
  ·
    simp only [Bool.and_eq_true, Bool.or_eq_true, Bool.and_eq_false_iff, Bool.or_eq_false_iff, Bool.not_eq_true', Bool.not_eq_false', decide_eq_true_eq, decide_eq_false_iff_not] at hc0
    refine HW_skip rfl ?_
    refine gn_sq ?_
    refine HW_seq rfl ?_
    refine HW_text (.act 0 (.pure 1 .done)) (by kernel_rfl) ?_
    refine a_call rfl rfl rfl go12 (h_new _) fun v w hR => ?_
    obtain ⟨m_h, Z_h, rfl, hz_h, hmc⟩ := hR
    refine ⟨trivial, ?_⟩
    replace hm := Mem.callTZ hm hmc
    refine rw_p rfl rfl (y_assign rfl) ?_
    refine rw_done ?_
    refine gn_sq ?_
    refine HW_seq rfl ?_
    refine HW_seq rfl ?_
    refine HW_text (.pure 0 (.pure 1 .done)) (by kernel_rfl) ?_
    refine rw_p rfl rfl (y_move rfl) ?_
    refine rw_p rfl rfl (y_pnil rfl rfl pb28) ?_
    refine rw_done ?_
    refine gn_sq ?_
    refine HW_condF rfl rfl rfl ?_
    refine HW_skip rfl ?_
    refine gn_sq ?_
    refine HW_seq rfl ?_
    refine HW_text (.pure 0 (.pure 1 (.act 2 (.act 3 .done)))) (by kernel_rfl) ?_
    refine rw_p rfl rfl (y_move rfl) ?_
    refine rw_p rfl rfl (y_move rfl) ?_
    refine a_buildSlice (l := [_]) rfl rfl sl34 z22 rfl rfl rfl rfl rfl rfl rfl hm trivial fun m1 w hg_m1 hm hh => ?_
    refine a_call rfl rfl rfl go13 (h_write _ 1 [⟨p0, c0, a⟩] 54 m_h [] Z_h _ (OwnZ.right (A := [_]) hm.ownZ) hz_h (by simp <;> omega) (Rd.row0 (hm.get (k := 0) rfl)) (by simp only [List.mem_singleton]; rintro _ rfl; exact (ha.rd.ext0 hm.to)) (hm.notS (A := [_]) 0 rfl) (by simp only [List.mem_singleton]; rintro _ rfl; exact ((Mem.right (L := [_]) hm).apartX ha.rd (fun _ _ _ h => h))) (by simp) (by first | (simp only [List.flatMap_cons, List.flatMap_nil, List.append_nil]; omega) | (simp <;> omega))) fun v w hR => ?_
    obtain ⟨rfl, Z_h, hz_h, hmc⟩ := hR
    refine ⟨trivial, ?_⟩
    replace hm := Mem.callZL (A := [_]) hm hmc
    rw [List.nil_append] at hz_h
    simp only [List.flatMap_cons, List.flatMap_nil, List.append_nil] at hz_h
    refine rw_done ?_
    refine gn_sq ?_
    refine HW_seq rfl ?_
    refine HW_text (.pure 0 (.act 1 (.pure 2 .done))) (by kernel_rfl) ?_
    refine rw_p rfl rfl (y_move rfl) ?_
    refine a_call rfl rfl rfl go16 (h_clone 54 m_h a Z_h _ (OwnZ.right (A := [_]) hm.ownZ) hz_h (by omega)) fun v w hR => ?_
    obtain ⟨m_g, Z_g, rfl, hz_g, hmc⟩ := hR
    refine ⟨trivial, ?_⟩
    replace hm := Mem.callD2 (A := [_]) hm hmc
    refine rw_p rfl rfl (y_assign rfl) ?_
    refine rw_done ?_
    refine gn_sq ?_
    refine HW_seq rfl ?_
    refine HW_seq rfl ?_
    refine HW_text (.pure 0 (.pure 1 .done)) (by kernel_rfl) ?_
    refine rw_p rfl rfl (y_move rfl) ?_
    refine rw_p rfl rfl (y_pnil rfl rfl pb28) ?_
    refine rw_done ?_
    refine gn_sq ?_
    refine HW_condF rfl rfl rfl ?_
    refine HW_skip rfl ?_
    refine gn_sq ?_
    refine HW_seq rfl ?_
    refine HW_text (.pure 0 (.pure 1 (.act 2 (.act 3 .done)))) (by kernel_rfl) ?_
    refine rw_p rfl rfl (y_move rfl) ?_
    refine rw_p rfl rfl (y_move rfl) ?_
    refine a_buildSlice (l := [_]) rfl rfl sl34 z22 rfl rfl rfl rfl rfl rfl rfl hm trivial fun m2 w hg_m2 hm hh => ?_
    refine a_call rfl rfl rfl go13 (h_write _ 1 [⟨p1, c1, b⟩] 54 m_g a Z_g _ (OwnZ.end (A := [_, _]) hm.ownZ) hz_g (by omega) (Rd.row0 (hm.get (k := 0) rfl)) (by simp only [List.mem_singleton]; rintro _ rfl; exact (hb.rd.ext0 hm.to)) (hm.notSr (A := [_, _]) 0 rfl) (by simp only [List.mem_singleton]; rintro _ rfl; exact ((Mem.right (L := [_, _]) hm).right.apartX hb.rd (fun _ _ _ h => h))) (by simp) (by first | (simp only [List.flatMap_cons, List.flatMap_nil, List.append_nil]; omega) | (simp <;> omega))) fun v w hR => ?_
    obtain ⟨rfl, Z_g, hz_g, hmc⟩ := hR
    refine ⟨trivial, ?_⟩
    replace hm := Mem.callR (A := [_, _]) hm hmc
    simp only [List.flatMap_cons, List.flatMap_nil, List.append_nil] at hz_g
    refine rw_done ?_
    refine gn_sq ?_
    refine HW_seq rfl ?_
    refine HW_text (.pure 0 (.pure 1 (.act 2 (.act 3 .done)))) (by kernel_rfl) ?_
    refine rw_p rfl rfl (y_move rfl) ?_
    refine rw_p rfl rfl (y_move rfl) ?_
    refine a_buildSlice (l := [_]) rfl rfl sl34 z22 rfl rfl rfl rfl rfl rfl rfl hm trivial fun m3 w hg_m3 hm hh => ?_
    refine a_call rfl rfl rfl go13 (h_write _ 1 [⟨p2, c2, d⟩] 54 m_h a Z_h _ (OwnZ.mid (A := [_, _, _]) hm.ownZ) hz_h (by omega) (Rd.row0 (hm.get (k := 0) rfl)) (by simp only [List.mem_singleton]; rintro _ rfl; exact (hd.rd.ext0 hm.to)) (hm.notSw (A := [_, _, _]) 0 rfl) (by simp only [List.mem_singleton]; rintro _ rfl; exact ((Mem.right (L := [_, _, _]) hm).left.apartX hd.rd (fun _ _ _ h => h))) (by simp) (by first | (simp only [List.flatMap_cons, List.flatMap_nil, List.append_nil]; omega) | (simp <;> omega))) fun v w hR => ?_
    obtain ⟨rfl, Z_h, hz_h, hmc⟩ := hR
    refine ⟨trivial, ?_⟩
    replace hm := Mem.callM (A := [_, _, _]) hm hmc
    simp only [List.flatMap_cons, List.flatMap_nil, List.append_nil] at hz_h
    refine rw_done ?_
    refine gn_sq ?_
    refine HW_seq rfl ?_
    refine HW_text (.act 0 (.pure 1 (.pure 2 (.act 3 (.pure 4 (.pure 5 (.act 6 (.act 7 (.pure 8 (.pure 9 (.pure 10 (.pure 11 (.act 12 (.pure 13 (.pure 14 (.act 15 (.act 16 (.pure 17 (.pure 18 (.pure 19 (.pure 20 (.act 21 (.pure 22 (.pure 23 (.pure 24 (.pure 25 (.pure 26 (.pure 27 (.pure 28 (.pure 29 .done)))))))))))))))))))))))))))))) (by kernel_rfl) ?_
    refine a_call rfl rfl rfl go9 (C.as (v := .bool true) (law_alive _) (congrArg Value.bool rfl)) fun v w hR => ?_
    obtain ⟨rfl, hE⟩ := hR
    refine ⟨trivial, ?_⟩
    replace hm := hm.ext hE
    refine rw_p rfl rfl (y_move rfl) ?_
    refine rw_p rfl rfl (y_move rfl) ?_
    refine a_call rfl rfl rfl go14 (h_sum 54 m_g (a ++ b) Z_g _ (OwnZ.end (A := [_, _, _]) hm.ownZ) hz_g (by rw [List.length_append]; omega)) fun v w hR => ?_
    obtain ⟨rfl, hE⟩ := hR
    refine ⟨trivial, ?_⟩
    replace hm := hm.ext hE
    refine rw_p rfl rfl (y_move rfl) ?_
    refine rw_p rfl rfl (y_move rfl) ?_
    refine a_buildSlice (l := [_, _]) rfl rfl sl34 z22 rfl rfl rfl rfl rfl rfl rfl hm trivial fun m4 w hg_m4 hm hh => ?_
    refine a_call rfl rfl rfl go10 (C.as (v := .agg ⟨(Pl.sha (a ++ b)).flatMap encB⟩) (h_of _ 2 [⟨p0, c0, a⟩, ⟨p1, c1, b⟩] _ (Rd.row0 (hm.get (k := 0) rfl)) (by simp only [List.mem_cons, List.not_mem_nil, or_false]; rintro _ (rfl | rfl) <;> first | exact (ha.rd.ext0 hm.to) | exact (hb.rd.ext0 hm.to)) (by simp) (by first | (simp only [List.flatMap_cons, List.flatMap_nil, List.append_nil]; omega) | (simp <;> omega))) (by simp only [List.flatMap_cons, List.flatMap_nil, List.append_nil])) fun v w hR => ?_
    obtain ⟨rfl, hE⟩ := hR
    refine ⟨trivial, ?_⟩
    replace hm := hm.ext hE
    refine rw_p rfl rfl (y_as (c := true) (y_eqF rfl rfl fl24 (fitB (n := 32) (Pl.sha_len _)) (fitB (n := 32) (Pl.sha_len _))) (by rw [eqLB]; exact decide_eq_true rfl)) ?_
    refine rw_p rfl rfl (y_pickT rfl rfl) ?_
    refine rw_p rfl rfl (y_move rfl) ?_
    refine rw_p rfl rfl (y_move rfl) ?_
    refine a_call rfl rfl rfl go14 (h_sum 54 m_h (a ++ d) Z_h _ (OwnZ.mid (A := [_, _, _, _]) hm.ownZ) hz_h (by rw [List.length_append]; omega)) fun v w hR => ?_
    obtain ⟨rfl, hE⟩ := hR
    refine ⟨trivial, ?_⟩
    replace hm := hm.ext hE
    refine rw_p rfl rfl (y_move rfl) ?_
    refine rw_p rfl rfl (y_move rfl) ?_
    refine a_buildSlice (l := [_, _]) rfl rfl sl34 z22 rfl rfl rfl rfl rfl rfl rfl hm trivial fun m5 w hg_m5 hm hh => ?_
    refine a_call rfl rfl rfl go10 (C.as (v := .agg ⟨(Pl.sha (a ++ d)).flatMap encB⟩) (h_of _ 2 [⟨p0, c0, a⟩, ⟨p2, c2, d⟩] _ (Rd.row0 (hm.get (k := 0) rfl)) (by simp only [List.mem_cons, List.not_mem_nil, or_false]; rintro _ (rfl | rfl) <;> first | exact (ha.rd.ext0 hm.to) | exact (hd.rd.ext0 hm.to)) (by simp) (by first | (simp only [List.flatMap_cons, List.flatMap_nil, List.append_nil]; omega) | (simp <;> omega))) (by simp only [List.flatMap_cons, List.flatMap_nil, List.append_nil])) fun v w hR => ?_
    obtain ⟨rfl, hE⟩ := hR
    refine ⟨trivial, ?_⟩
    replace hm := hm.ext hE
    refine rw_p rfl rfl (y_as (c := true) (y_eqF rfl rfl fl24 (fitB (n := 32) (Pl.sha_len _)) (fitB (n := 32) (Pl.sha_len _))) (by rw [eqLB]; exact decide_eq_true rfl)) ?_
    refine rw_p rfl rfl (y_pickT rfl rfl) ?_
    refine rw_p rfl rfl (y_move rfl) ?_
    refine rw_p rfl rfl (y_move rfl) ?_
    refine a_call rfl rfl rfl go15 (h_len 54 m_g (a ++ b) Z_g _ (OwnZ.end (A := [_, _, _, _, _]) hm.ownZ) hz_g (by rw [List.length_append]; omega)) fun v w hR => ?_
    obtain ⟨rfl, hE⟩ := hR
    refine ⟨trivial, ?_⟩
    replace hm := hm.ext hE
    refine rw_p rfl rfl (y_move rfl) ?_
    refine rw_p rfl rfl (y_len rfl rfl sl22) ?_
    refine rw_p rfl rfl (y_move rfl) ?_
    refine rw_p rfl rfl (y_len rfl rfl sl22) ?_
    refine rw_p rfl rfl (y_add rfl rfl (addK b.length (by omega))) ?_
    refine rw_p rfl rfl (y_as (c := true) (y_eq rfl rfl) (decide_eq_true (by rw [List.length_append]))) ?_
    refine rw_p rfl rfl (y_pickT rfl rfl) ?_
    refine rw_p rfl rfl (y_assign rfl) ?_
    refine rw_done ?_
    refine gn_sq ?_
    refine HW_ret rfl ?_
    refine toR (fin hret rfl (.tmp rfl .nil) .one ?_)
    exact ⟨rfl, hm.to⟩

set_option maxHeartbeats 1600000 in
theorem law_nil (p : Option Addr) (cap : Nat) (bs : List UInt8) (w0 : World) (hb : SB.ok w0 ⟨p, cap, bs⟩) : C Try.prog 7 [.slice p bs.length cap] w0 fun v w' => v = .bool true ∧ Ext No w0 w' := by
  refine C_of Try.func7 rfl rfl rfl fun κ hret hnorm => ?_
  have hm := Mem.start w0
  refine HW_seq rfl ?_
  refine HW_text (.pure 0 .done) (by kernel_rfl) ?_
  refine rw_p rfl rfl (y_assign rfl) ?_
  refine rw_done ?_
  refine gn_sq ?_
  refine HW_seq rfl ?_
  refine HW_seq rfl ?_
  refine HW_text (.pure 0 (.pure 1 (.pure 2 .done))) (by kernel_rfl) ?_
  refine rw_p rfl rfl (y_move rfl) ?_
  refine rw_p rfl rfl (y_len rfl rfl sl22) ?_
  refine rw_p rfl rfl (y_gt rfl rfl) ?_
  refine rw_done ?_
  refine gn_sq ?_
  refine HW_cond rfl rfl (fun hc0 => ?_) (fun hc0 => ?_)
  ·
    refine HW_seq rfl ?_
    refine HW_text (.act 0 (.pure 1 .done)) (by kernel_rfl) ?_
    refine a_call rfl rfl rfl go9 (C.as (v := .bool true) (law_alive _) (congrArg Value.bool rfl)) fun v w hR => ?_
    obtain ⟨rfl, hE⟩ := hR
    refine ⟨trivial, ?_⟩
    replace hm := hm.ext hE
    refine rw_p rfl rfl (y_assign rfl) ?_
    refine rw_done ?_
    refine gn_sq ?_
    refine HW_ret rfl ?_
    refine gr_sq ?_
    refine toR (fin hret rfl (.tmp rfl .nil) .one ?_)
    exact ⟨rfl, hm.to⟩
  ·
    simp only [decide_eq_false_iff_not] at hc0
    refine HW_skip rfl ?_
    refine gn_sq ?_
    refine HW_seq rfl ?_
    refine HW_text (.pure 0 .done) (by kernel_rfl) ?_
    refine rw_p rfl rfl (y_assign rfl) ?_
    refine rw_done ?_
    refine gn_sq ?_
    refine HW_seq rfl ?_
    refine HW_text (.act 0 (.pure 1 .done)) (by kernel_rfl) ?_
    refine a_call rfl rfl rfl go12 (h_new _) fun v w hR => ?_
    obtain ⟨m_h, Z_h, rfl, hz_h, hmc⟩ := hR
    refine ⟨trivial, ?_⟩
    replace hm := Mem.callTZ hm hmc
    refine rw_p rfl rfl (y_assign rfl) ?_
    refine rw_done ?_
    refine gn_sq ?_
    refine HW_seq rfl ?_
    refine HW_seq rfl ?_
    refine HW_text (.pure 0 (.pure 1 .done)) (by kernel_rfl) ?_
    refine rw_p rfl rfl (y_move rfl) ?_
    refine rw_p rfl rfl (y_pnil rfl rfl pb28) ?_
    refine rw_done ?_
    refine gn_sq ?_
    refine HW_condF rfl rfl rfl ?_
    refine HW_skip rfl ?_
    refine gn_sq ?_
    refine HW_seq rfl ?_
    refine HW_text (.act 0 (.pure 1 (.act 2 (.pure 3 .done)))) (by kernel_rfl) ?_
    refine a_buildSlice (l := []) rfl rfl sl22 z5 rfl rfl rfl rfl rfl rfl rfl hm trivial fun m1 w hg_m1 hm hh => ?_
    refine rw_p rfl rfl (y_move rfl) ?_
    refine a_append rfl rfl rfl rfl rfl rfl sl22 sl22 z5 rfl (oneB bs) (hb.rd.ext0 hm.to) (lenB bs) (Acc.row rfl) hm 0 rfl (by omega) (by omega) fun p_s cap_s g_s b_s w ha_s hm => ?_
    rw [Nat.zero_add bs.length] at ha_s ⊢
    replace ha_s := ha_s.to (show _ = bs.flatMap encB from List.nil_append _)
    refine rw_p rfl rfl (y_assign rfl) ?_
    refine rw_done ?_
    refine gn_sq ?_
    refine HW_seq rfl ?_
    refine HW_text (.pure 0 (.pure 1 (.act 2 (.act 3 .done)))) (by kernel_rfl) ?_
    refine rw_p rfl rfl (y_move rfl) ?_
    refine rw_p rfl rfl (y_move rfl) ?_
    refine a_buildSlice (l := [_]) rfl rfl sl34 z22 rfl rfl rfl rfl rfl rfl rfl hm trivial fun m2 w hg_m2 hm hh => ?_
    refine a_call rfl rfl rfl go13 (h_write _ 1 [⟨p_s, cap_s, bs⟩] 54 m_h [] Z_h _ (OwnZ.right (A := [_, _]) hm.ownZ) hz_h (by simp <;> omega) (Rd.row0 (hm.get (k := 0) rfl)) (by simp only [List.mem_singleton]; rintro _ rfl; exact (ha_s.rd hm 1 rfl)) (hm.notS (A := [_, _]) 0 rfl) (by simp only [List.mem_singleton]; rintro _ rfl; exact (hm.notR (A := [_, _]) ha_s 1 rfl)) (by simp) (by first | (simp only [List.flatMap_cons, List.flatMap_nil, List.append_nil]; omega) | (simp <;> omega))) fun v w hR => ?_
    obtain ⟨rfl, Z_h, hz_h, hmc⟩ := hR
    refine ⟨trivial, ?_⟩
    replace hm := Mem.callZL (A := [_, _]) hm hmc
    rw [List.nil_append] at hz_h
    simp only [List.flatMap_cons, List.flatMap_nil, List.append_nil] at hz_h
    refine rw_done ?_
    refine gn_sq ?_
    refine HW_seq rfl ?_
    refine HW_seq rfl ?_
    refine HW_text (.pure 0 (.pure 1 (.pure 2 .done))) (by kernel_rfl) ?_
    refine rw_p rfl rfl (y_move rfl) ?_
    refine rw_p rfl rfl (y_len rfl rfl sl22) ?_
    refine rw_p rfl rfl (y_move rfl) ?_
    refine rw_done ?_
    refine gn_sq ?_
    refine HW_block rfl ?_
    refine HW_loopK (ι := Nat × List UInt8 × Blk) rfl (ks := [0, 2, 3, 4, 5, 22]) (.cons rfl (.cons rfl (.cons rfl (.cons rfl (.cons rfl (.cons rfl .nil)))))) (fun x => [(23, .int .i64 x.1)]) (fun x w => Mem w0 w No ((g_s, x.2.2) :: Z_h) ∧ Acc 5 1 p_s bs.length cap_s (x.2.1.flatMap encB) g_s x.2.2 ∧ x.2.1.length = bs.length ∧ x.1 ≤ bs.length) (fun x => bs.length - x.1) (0, bs, b_s) (⟨(hm.pickT [1] 2 rfl), ha_s, rfl, Nat.zero_le _⟩) ⟨rfl, trivial⟩ (fun x w hM => ?_)
    obtain ⟨hm, ha_s, hxl, hk⟩ := hM
    refine HW_seq rfl ?_
    refine HW_text (.pure 0 .done) (by kernel_rfl) ?_
    refine rw_p rfl rfl (y_lt rfl rfl) ?_
    refine rw_done ?_
    refine gn_sq ?_
    refine HW_seq rfl ?_
    refine HW_cond rfl rfl (fun hc2 => ?_) (fun hc2 => ?_)
    ·
      obtain ⟨i, xs, b_s⟩ := x
      simp only at hm ha_s hxl hk hc2 ⊢
      simp only [decide_eq_true_eq] at hc2
      obtain ⟨c, hi⟩ : ∃ y_, xs[i]? = some y_ := ⟨_, List.getElem?_eq_getElem (by omega)⟩
      refine HW_skip rfl ?_
      refine gn_sq ?_
      refine HW_seq rfl ?_
      refine HW_block rfl ?_
      refine HW_seq rfl ?_
      refine HW_text (.pure 0 (.pure 1 .done)) (by kernel_rfl) ?_
      refine rw_p rfl rfl (y_move rfl) ?_
      refine rw_p rfl rfl (y_assign rfl) ?_
      refine rw_done ?_
      refine gn_sq ?_
      refine HW_text (.pure 0 (.pure 1 (.pure 2 (.pure 3 (.pure 4 (.pure 5 (.act 6 .done))))))) (by kernel_rfl) ?_
      refine rw_p rfl rfl (y_move rfl) ?_
      refine rw_p rfl rfl (y_move rfl) ?_
      refine rw_p rfl rfl (y_index rfl rfl sl22 (ha_s.ptr (by omega)) (by omega) (by omega)) ?_
      refine rw_p rfl rfl (y_el1 rfl sc5 ((ha_s.ptr (by omega)) ▸ ha_s.rd hm 0 rfl).nt encB_len hi rfl) ?_
      refine rw_p rfl rfl (y_add rfl rfl (u8inc c)) ?_
      refine rw_p rfl rfl (y_index rfl rfl sl22 (ha_s.ptr (by omega)) (by omega) (by omega)) ?_
      refine a_storeE rfl rfl rfl rfl sz5 rfl rfl ha_s (by omega) hm 0 rfl fun b_s w ha_s hm => ?_
      replace ha_s := ha_s.to (updB _ _ _)
      refine rw_done ?_
      refine gn_bl ?_
      refine gn_sq ?_
      refine HW_text (.pure 0 (.pure 1 .done)) (by kernel_rfl) ?_
      refine rw_p rfl rfl (y_add rfl rfl (i64w (by omega) (by omega))) ?_
      refine rw_p rfl rfl (y_move rfl) ?_
      refine rw_done ?_
      exact next (i + 1, _, b_s) (by simp only; omega) ⟨(hm.pickT [0] 1 rfl), ha_s, by rw [List.length_set]; exact hxl, by simp only; omega⟩ ⟨nx i, rfl, rfl, rfl, rfl, rfl, rfl, trivial⟩
    ·
      refine HW_exit rfl ?_
      refine gx_sq (gx_lp ?_)
      refine gx_here ?_
      refine gn_sq ?_
      refine HW_seq rfl ?_
      refine HW_text (.act 0 (.pure 1 (.pure 2 (.act 3 (.pure 4 (.act 5 (.act 6 (.pure 7 (.pure 8 (.pure 9 (.pure 10 (.pure 11 (.act 12 (.act 13 (.pure 14 (.pure 15 (.pure 16 (.pure 17 (.act 18 (.pure 19 (.pure 20 (.pure 21 (.pure 22 (.pure 23 (.act 24 (.pure 25 (.pure 26 (.pure 27 (.pure 28 (.act 29 (.pure 30 (.pure 31 (.pure 32 .done))))))))))))))))))))))))))))))))) (by kernel_rfl) ?_
      refine a_call rfl rfl rfl go9 (C.as (v := .bool true) (law_alive _) (congrArg Value.bool rfl)) fun v w hR => ?_
      obtain ⟨rfl, hE⟩ := hR
      refine ⟨trivial, ?_⟩
      replace hm := hm.ext hE
      refine rw_p rfl rfl (y_move rfl) ?_
      refine rw_p rfl rfl (y_move rfl) ?_
      refine a_call rfl rfl rfl go14 (h_sum 54 m_h bs Z_h _ (OwnZ.right (A := [_]) hm.ownZ) hz_h (by omega)) fun v w hR => ?_
      obtain ⟨rfl, hE⟩ := hR
      refine ⟨trivial, ?_⟩
      replace hm := hm.ext hE
      refine rw_p rfl rfl (y_move rfl) ?_
      refine a_buildSlice (l := [_]) rfl rfl sl34 z22 rfl rfl rfl rfl rfl rfl rfl hm trivial fun m3 w hg_m3 hm hh => ?_
      refine a_call rfl rfl rfl go10 (C.as (v := .agg ⟨(Pl.sha bs).flatMap encB⟩) (h_of _ 1 [⟨p, cap, bs⟩] _ (Rd.row0 (hm.get (k := 0) rfl)) (by simp only [List.mem_singleton]; rintro _ rfl; exact (hb.rd.ext0 hm.to)) (by simp) (by first | (simp only [List.flatMap_cons, List.flatMap_nil, List.append_nil]; omega) | (simp <;> omega))) (by simp only [List.flatMap_cons, List.flatMap_nil, List.append_nil])) fun v w hR => ?_
      obtain ⟨rfl, hE⟩ := hR
      refine ⟨trivial, ?_⟩
      replace hm := hm.ext hE
      refine rw_p rfl rfl (y_as (c := true) (y_eqF rfl rfl fl24 (fitB (n := 32) (Pl.sha_len _)) (fitB (n := 32) (Pl.sha_len _))) (by rw [eqLB]; exact decide_eq_true rfl)) ?_
      refine rw_p rfl rfl (y_pickT rfl rfl) ?_
      refine rw_p rfl rfl (y_move rfl) ?_
      refine rw_p rfl rfl (y_move rfl) ?_
      refine rw_p rfl rfl (y_move rfl) ?_
      refine a_buildSlice (l := [_]) rfl rfl sl34 z22 rfl rfl rfl rfl rfl rfl rfl hm trivial fun m4 w hg_m4 hm hh => ?_
      refine a_call rfl rfl rfl go13 (h_writeN _ _ _ _) fun v w hR => ?_
      obtain ⟨rfl, hE⟩ := hR
      refine ⟨trivial, ?_⟩
      replace hm := hm.ext hE
      refine rw_p rfl rfl (y_as (c := true) (y_eq rfl rfl) rfl) ?_
      refine rw_p rfl rfl (y_pickT rfl rfl) ?_
      refine rw_p rfl rfl (y_move rfl) ?_
      refine rw_p rfl rfl (y_move rfl) ?_
      refine a_call rfl rfl rfl go14 (h_sumN _) fun v w hR => ?_
      obtain ⟨rfl, hE⟩ := hR
      refine ⟨trivial, ?_⟩
      replace hm := hm.ext hE
      refine rw_p rfl rfl (y_build (cs := [_, _, _, _, _, _, _, _, _, _, _, _, _, _, _, _, _, _, _, _, _, _, _, _, _, _, _, _, _, _, _, _]) z24 ft24 rfl rfl rfl rfl rfl) ?_
      refine rw_p rfl rfl (y_as (c := true) (y_eqF rfl rfl fl24 (fitB (n := 32) (List.length_replicate)) rfl) rfl) ?_
      refine rw_p rfl rfl (y_pickT rfl rfl) ?_
      refine rw_p rfl rfl (y_move rfl) ?_
      refine rw_p rfl rfl (y_move rfl) ?_
      refine a_call rfl rfl rfl go15 (h_lenN _) fun v w hR => ?_
      obtain ⟨rfl, hE⟩ := hR
      refine ⟨trivial, ?_⟩
      replace hm := hm.ext hE
      refine rw_p rfl rfl (y_as (c := true) (y_eq rfl rfl) rfl) ?_
      refine rw_p rfl rfl (y_pickT rfl rfl) ?_
      refine rw_p rfl rfl (y_move rfl) ?_
      refine rw_p rfl rfl (y_move rfl) ?_
      refine a_call rfl rfl rfl go16 (h_cloneN _) fun v w hR => ?_
      obtain ⟨rfl, hE⟩ := hR
      refine ⟨trivial, ?_⟩
      replace hm := hm.ext hE
      refine rw_p rfl rfl (y_as (c := true) (y_pnil rfl rfl pb28) rfl) ?_
      refine rw_p rfl rfl (y_pickT rfl rfl) ?_
      refine rw_p rfl rfl (y_assign rfl) ?_
      refine rw_done ?_
      refine gn_sq ?_
      refine HW_ret rfl ?_
      refine toR (fin hret rfl (.tmp rfl .nil) .one ?_)
      exact ⟨rfl, hm.to⟩

set_option maxHeartbeats 1600000 in
theorem law_digits (bs : List UInt8) (xs : List UInt8) (w0 : World) (hl : bs.length = 32) : C Try.prog 8 [.agg ⟨bs.flatMap encB⟩, .string (bstr xs)] w0 fun v w' => v = .bool true ∧ Ext No w0 w' := by
  refine C_of Try.func8 rfl rfl rfl fun κ hret hnorm => ?_
  have hm := Mem.start w0
  refine HW_seq rfl ?_
  refine HW_text (.act 0 (.pure 1 .done)) (by kernel_rfl) ?_
  refine a_box rfl rfl rfl rfl hm trivial fun m1 w hg_m1 hm hh => ?_
  refine rw_p rfl rfl (y_assign rfl) ?_
  refine rw_done ?_
  refine gn_sq ?_
  refine HW_seq rfl ?_
  refine HW_seq rfl ?_
  refine HW_text (.pure 0 (.pure 1 (.pure 2 .done))) (by kernel_rfl) ?_
  refine rw_p rfl rfl (y_move rfl) ?_
  refine rw_p rfl rfl (y_lenS rfl rfl us9) ?_
  refine rw_p rfl rfl (y_gt rfl rfl) ?_
  refine rw_done ?_
  refine gn_sq ?_
  refine HW_cond rfl rfl (fun hc0 => ?_) (fun hc0 => ?_)
  ·
    refine HW_seq rfl ?_
    refine HW_text (.act 0 (.pure 1 .done)) (by kernel_rfl) ?_
    refine a_call rfl rfl rfl go9 (C.as (v := .bool true) (law_alive _) (congrArg Value.bool rfl)) fun v w hR => ?_
    obtain ⟨rfl, hE⟩ := hR
    refine ⟨trivial, ?_⟩
    replace hm := hm.ext hE
    refine rw_p rfl rfl (y_assign rfl) ?_
    refine rw_done ?_
    refine gn_sq ?_
    refine HW_ret rfl ?_
    refine gr_sq ?_
    refine toR (fin hret rfl (.tmp rfl .nil) .one ?_)
    exact ⟨rfl, hm.to⟩
  ·
    simp only [decide_eq_false_iff_not] at hc0
    have h300 : xs.length ≤ 300 := by have : ¬ (300 : Int) < ((bstr xs).size : Int) := hc0; rw [bstr_size] at this; omega
    refine HW_skip rfl ?_
    refine gn_sq ?_
    refine HW_seq rfl ?_
    refine HW_text (.pure 0 (.act 1 (.act 2 (.pure 3 (.pure 4 (.pure 5 (.act 6 (.act 7 (.pure 8 .done))))))))) (by kernel_rfl) ?_
    refine rw_p rfl rfl (y_loadA (s := 32) (vs := ((bs).flatMap encB)) rfl ag24 (hm.nt 0 rfl) (nthsB hl)) ?_
    refine a_call rfl rfl rfl go18 (h_format bs _ hl) fun v w hR => ?_
    obtain ⟨rfl, hE⟩ := hR
    refine ⟨trivial, ?_⟩
    replace hm := hm.ext hE
    refine a_call rfl rfl rfl go17 (C.as (v := .tuple ⟨[.agg ⟨bs.flatMap encB⟩, .bool true]⟩) (h_parse (Pl.fmt bs) _) (by rw [(Pl.parse_fmt hl).1, (Pl.parse_fmt hl).2])) fun v w hR => ?_
    obtain ⟨rfl, hE⟩ := hR
    refine ⟨trivial, ?_⟩
    replace hm := hm.ext hE
    refine rw_p rfl rfl (y_move rfl) ?_
    refine rw_p rfl rfl (y_extract rfl rfl) ?_
    refine rw_p rfl rfl (y_extract rfl rfl) ?_
    refine a_alloc rfl rfl z24 hm trivial fun m2 w hg_m2 hm hh => ?_
    refine a_store rfl rfl rfl rfl (sz24.trans (congrArg some (lenB32 hl).symm)) (oneB _) hm 0 rfl (by rw [Nat.ble_eq, lenB32 hl]; exact Nat.le_refl 32) fun w hm => ?_
    rw [upds_z32 hl] at hm
    refine rw_p rfl rfl (y_assign rfl) ?_
    refine rw_done ?_
    refine gn_sq ?_
    refine HW_seq rfl ?_
    refine HW_text (.pure 0 (.act 1 (.pure 2 (.pure 3 (.pure 4 (.act 5 (.act 6 (.pure 7 .done)))))))) (by kernel_rfl) ?_
    refine rw_p rfl rfl (y_move rfl) ?_
    refine a_call rfl rfl rfl go17 (h_parse xs _) fun v w hR => ?_
    obtain ⟨rfl, hE⟩ := hR
    refine ⟨trivial, ?_⟩
    replace hm := hm.ext hE
    refine rw_p rfl rfl (y_move rfl) ?_
    refine rw_p rfl rfl (y_extract rfl rfl) ?_
    refine rw_p rfl rfl (y_extract rfl rfl) ?_
    refine a_alloc rfl rfl z24 hm trivial fun m3 w hg_m3 hm hh => ?_
    have hpl := Pl.parse_len xs
    refine a_store rfl rfl rfl rfl (sz24.trans (congrArg some (lenB32 hpl).symm)) (oneB _) hm 0 rfl (by rw [Nat.ble_eq, lenB32 hpl]; exact Nat.le_refl 32) fun w hm => ?_
    rw [upds_z32 hpl] at hm
    refine rw_p rfl rfl (y_assign rfl) ?_
    refine rw_done ?_
    refine gn_sq ?_
    refine HW_seq rfl ?_
    refine HW_seq rfl ?_
    cases ho : Pl.okP xs
    ·
      have hp : Pl.parse xs = (List.replicate 32 (0 : UInt8)) := by unfold Pl.parse; rw [ho]; rfl
      refine HW_draw (.pure 0 (.pure 2 (.act 1 (.act 3 (.pure 4 (.pure 5 (.pure 6 (.pure 7 (.pure 8 (.pure 9 (.pure 10 (.pure 11 (.pure 12 (.pure 13 (.pure 14 (.pure 15 (.pure 16 (.cut (.act 17 (.pure 18 (.pure 19 .done))))))))))))))))))))) No mix (by kernel_rfl) hm fun w hw hm0 hh => ?_
      have hm := hm0
      refine rw_p rfl rfl (y_loadA (s := 32) (vs := ((bs).flatMap encB)) rfl ag24 (hm0.nd 2 rfl id) (nthsB hl)) ?_
      refine rw_p rfl rfl (y_loadA (s := 32) (vs := ((bs).flatMap encB)) rfl ag24 (hm0.nd 2 rfl id) (nthsB hl)) ?_
      refine a_call rfl rfl rfl go18 (h_format bs _ hl) fun v w hR => ?_
      obtain ⟨rfl, hE⟩ := hR
      refine ⟨hh.ext hE, ?_⟩
      replace hm := hm.ext hE
      replace hh := hh.ext hE
      refine a_call rfl rfl rfl go19 (r2_format bs _ hl) fun v w hR => ?_
      obtain ⟨rfl, hE⟩ := hR
      refine ⟨hh.ext hE, ?_⟩
      replace hm := hm.ext hE
      replace hh := hh.ext hE
      refine rw_p rfl rfl (y_as (c := false) (y_snqB rfl rfl) (by simp)) ?_
      refine rw_p rfl rfl (y_move rfl) ?_
      refine rw_p rfl rfl (y_move rfl) ?_
      refine rw_p rfl rfl (y_not rfl) ?_
      refine rw_p rfl rfl (y_pickF rfl rfl) ?_
      refine rw_p rfl rfl (y_move rfl) ?_
      refine rw_p rfl rfl (y_loadA (s := 32) (vs := ((bs).flatMap encB)) rfl ag24 (hm0.nd 1 rfl id) (nthsB hl)) ?_
      refine rw_p rfl rfl (y_loadA (s := 32) (vs := ((bs).flatMap encB)) rfl ag24 (hm0.nd 2 rfl id) (nthsB hl)) ?_
      refine rw_p rfl rfl (y_as (c := false) (y_neF rfl rfl fl24 (fitB (n := 32) hl) (fitB (n := 32) hl)) (by rw [eqLB]; simp)) ?_
      refine rw_p rfl rfl (y_pickF rfl rfl) ?_
      refine rw_p rfl rfl (y_move rfl) ?_
      refine rw_p rfl rfl (y_move rfl) ?_
      refine rw_p rfl rfl (y_move rfl) ?_
      refine a_cut ?_
      refine a_call rfl rfl rfl go20 (C.as (v := .bool false) (r2_right xs _ h300) (by rw [ho])) fun v w hR => ?_
      obtain ⟨rfl, hE⟩ := hR
      refine ⟨trivial, ?_⟩
      replace hm := hm.ext hE
      refine rw_p rfl rfl (y_as (c := false) (y_bneq rfl rfl un4) rfl) ?_
      refine rw_p rfl rfl (y_pickF rfl rfl) ?_
      refine rw_done ?_
      refine gn_sq ?_
      refine HW_condF rfl rfl rfl ?_
      refine HW_skip rfl ?_
      refine gn_sq ?_
      refine HW_seq rfl ?_
      refine HW_text (.act 0 (.pure 1 (.pure 2 (.pure 3 (.pure 4 (.act 5 (.pure 6 (.pure 7 (.pure 8 (.pure 9 (.pure 10 (.pure 11 (.pure 12 (.pure 13 (.pure 14 (.pure 15 (.pure 16 (.pure 17 (.pure 18 (.pure 19 .done)))))))))))))))))))) (by kernel_rfl) ?_
      refine a_call rfl rfl rfl go9 (C.as (v := .bool true) (law_alive _) (congrArg Value.bool rfl)) fun v w hR => ?_
      obtain ⟨rfl, hE⟩ := hR
      refine ⟨trivial, ?_⟩
      replace hm := hm.ext hE
      refine rw_p rfl rfl (y_move rfl) ?_
      refine rw_p rfl rfl (y_move rfl) ?_
      refine rw_p rfl rfl (y_move rfl) ?_
      refine rw_gf rfl rfl (by decide) rfl ?_
      refine a_gf rfl rfl (by decide) rfl trivial ?_
      refine rw_gf rfl rfl (by decide) rfl ?_
      refine rw_gf rfl rfl (by decide) rfl ?_
      refine rw_p rfl rfl (y_pickF rfl rfl) ?_
      refine rw_p rfl rfl (y_move rfl) ?_
      refine rw_p rfl rfl (y_move rfl) ?_
      refine rw_p rfl rfl (y_not rfl) ?_
      refine rw_p rfl rfl (y_move rfl) ?_
      refine rw_p rfl rfl (y_loadA (s := 32) (vs := (((Pl.parse xs)).flatMap encB)) rfl ag24 (hm.nt 0 rfl) (nthsB (Pl.parse_len _))) ?_
      refine rw_p rfl rfl (y_build (cs := [_, _, _, _, _, _, _, _, _, _, _, _, _, _, _, _, _, _, _, _, _, _, _, _, _, _, _, _, _, _, _, _]) z24 ft24 rfl rfl rfl rfl rfl) ?_
      refine rw_p rfl rfl (y_as (c := true) (y_eqF rfl rfl fl24 (fitB (n := 32) (Pl.parse_len _)) rfl) (by rw [hp]; rfl)) ?_
      refine rw_p rfl rfl (y_pickT rfl rfl) ?_
      refine rw_p rfl rfl (y_pickF rfl rfl) ?_
      refine rw_p rfl rfl (y_pickT rfl rfl) ?_
      refine rw_p rfl rfl (y_assign rfl) ?_
      refine rw_done ?_
      refine gn_sq ?_
      refine HW_ret rfl ?_
      refine toR (fin hret rfl (.tmp rfl .nil) .one ?_)
      exact ⟨rfl, hm.to⟩
    ·
      refine HW_draw (.pure 0 (.pure 2 (.act 1 (.act 3 (.pure 4 (.pure 5 (.pure 6 (.pure 7 (.pure 8 (.pure 9 (.pure 10 (.pure 11 (.pure 12 (.pure 13 (.pure 14 (.pure 15 (.pure 16 (.cut (.act 17 (.pure 18 (.pure 19 .done))))))))))))))))))))) No mix (by kernel_rfl) hm fun w hw hm0 hh => ?_
      have hm := hm0
      refine rw_p rfl rfl (y_loadA (s := 32) (vs := ((bs).flatMap encB)) rfl ag24 (hm0.nd 2 rfl id) (nthsB hl)) ?_
      refine rw_p rfl rfl (y_loadA (s := 32) (vs := ((bs).flatMap encB)) rfl ag24 (hm0.nd 2 rfl id) (nthsB hl)) ?_
      refine a_call rfl rfl rfl go18 (h_format bs _ hl) fun v w hR => ?_
      obtain ⟨rfl, hE⟩ := hR
      refine ⟨hh.ext hE, ?_⟩
      replace hm := hm.ext hE
      replace hh := hh.ext hE
      refine a_call rfl rfl rfl go19 (r2_format bs _ hl) fun v w hR => ?_
      obtain ⟨rfl, hE⟩ := hR
      refine ⟨hh.ext hE, ?_⟩
      replace hm := hm.ext hE
      replace hh := hh.ext hE
      refine rw_p rfl rfl (y_as (c := false) (y_snqB rfl rfl) (by simp)) ?_
      refine rw_p rfl rfl (y_move rfl) ?_
      refine rw_p rfl rfl (y_move rfl) ?_
      refine rw_p rfl rfl (y_not rfl) ?_
      refine rw_p rfl rfl (y_pickF rfl rfl) ?_
      refine rw_p rfl rfl (y_move rfl) ?_
      refine rw_p rfl rfl (y_loadA (s := 32) (vs := ((bs).flatMap encB)) rfl ag24 (hm0.nd 1 rfl id) (nthsB hl)) ?_
      refine rw_p rfl rfl (y_loadA (s := 32) (vs := ((bs).flatMap encB)) rfl ag24 (hm0.nd 2 rfl id) (nthsB hl)) ?_
      refine rw_p rfl rfl (y_as (c := false) (y_neF rfl rfl fl24 (fitB (n := 32) hl) (fitB (n := 32) hl)) (by rw [eqLB]; simp)) ?_
      refine rw_p rfl rfl (y_pickF rfl rfl) ?_
      refine rw_p rfl rfl (y_move rfl) ?_
      refine rw_p rfl rfl (y_move rfl) ?_
      refine rw_p rfl rfl (y_move rfl) ?_
      refine a_cut ?_
      refine a_call rfl rfl rfl go20 (C.as (v := .bool true) (r2_right xs _ h300) (by rw [ho])) fun v w hR => ?_
      obtain ⟨rfl, hE⟩ := hR
      refine ⟨trivial, ?_⟩
      replace hm := hm.ext hE
      refine rw_p rfl rfl (y_as (c := false) (y_bneq rfl rfl un4) rfl) ?_
      refine rw_p rfl rfl (y_pickF rfl rfl) ?_
      refine rw_done ?_
      refine gn_sq ?_
      refine HW_condF rfl rfl rfl ?_
      refine HW_skip rfl ?_
      refine gn_sq ?_
      refine HW_seq rfl ?_
      refine HW_text (.act 0 (.pure 1 (.pure 2 (.pure 3 (.pure 4 (.act 5 (.pure 6 (.pure 7 (.pure 8 (.pure 9 (.pure 10 (.pure 11 (.pure 12 (.pure 13 (.pure 14 (.pure 15 (.pure 16 (.pure 17 (.pure 18 (.pure 19 .done)))))))))))))))))))) (by kernel_rfl) ?_
      refine a_call rfl rfl rfl go9 (C.as (v := .bool true) (law_alive _) (congrArg Value.bool rfl)) fun v w hR => ?_
      obtain ⟨rfl, hE⟩ := hR
      refine ⟨trivial, ?_⟩
      replace hm := hm.ext hE
      refine rw_p rfl rfl (y_move rfl) ?_
      refine rw_p rfl rfl (y_move rfl) ?_
      refine rw_p rfl rfl (y_move rfl) ?_
      refine rw_p rfl rfl (y_loadA (s := 32) (vs := (((Pl.parse xs)).flatMap encB)) rfl ag24 (hm.nt 0 rfl) (nthsB (Pl.parse_len _))) ?_
      refine a_call rfl rfl rfl go18 (h_format (Pl.parse xs) _ (Pl.parse_len _)) fun v w hR => ?_
      obtain ⟨rfl, hE⟩ := hR
      refine ⟨trivial, ?_⟩
      replace hm := hm.ext hE
      refine rw_p rfl rfl (y_move rfl) ?_
      refine rw_p rfl rfl (y_as (c := true) (y_seqB rfl rfl) (by rw [Pl.fmt_parse ho]; simp)) ?_
      refine rw_p rfl rfl (y_pickT rfl rfl) ?_
      refine rw_p rfl rfl (y_move rfl) ?_
      refine rw_gf rfl rfl (by decide) rfl ?_
      refine rw_gf rfl rfl (by decide) rfl ?_
      refine rw_gf rfl rfl (by decide) rfl ?_
      refine rw_gu rfl rfl rfl ?_
      refine rw_gu rfl rfl rfl ?_
      refine rw_gu rfl rfl rfl ?_
      refine rw_gf rfl rfl (by decide) rfl ?_
      refine rw_p rfl rfl (y_pickT rfl rfl) ?_
      refine rw_p rfl rfl (y_pickT rfl rfl) ?_
      refine rw_p rfl rfl (y_assign rfl) ?_
      refine rw_done ?_
      refine gn_sq ?_
      refine HW_ret rfl ?_
      refine toR (fin hret rfl (.tmp rfl .nil) .one ?_)
      exact ⟨rfl, hm.to⟩

end Go.Proofs.Ytdiklnekplhhgaa
