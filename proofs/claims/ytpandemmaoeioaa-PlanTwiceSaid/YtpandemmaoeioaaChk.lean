/- Contracts of functions of the program: what each returns. Conditions: the hypotheses of each theorem. -/
import Derived.Test.YtpandemmaoeioaaCmdB
set_option linter.unusedVariables false
set_option linter.unusedSimpArgs false
namespace Go.Proofs.Ytpandemmaoeioaa
open Go Go.Cx

theorem go67 : isGo Try.prog 67 = true := by kernel_rfl
theorem go26 : isGo Try.prog 26 = true := by kernel_rfl
theorem go64 : isGo Try.prog 64 = true := by kernel_rfl
theorem sc4 : scal Try.prog 4 = true := by kernel_rfl
theorem go33 : isGo Try.prog 33 = true := by kernel_rfl
theorem go62 : isGo Try.prog 62 = true := by kernel_rfl
theorem sz3 : szO Try.prog 3 = some 1 := by kernel_rfl
theorem sz4 : szO Try.prog 4 = some 1 := by kernel_rfl
theorem z3 : zer Try.prog 3 = some [.int .i64 0] := by kernel_rfl
theorem z4 : zer Try.prog 4 = some [.bool false] := by kernel_rfl
theorem go55 : isGo Try.prog 55 = true := by kernel_rfl
theorem go63 : isGo Try.prog 63 = true := by kernel_rfl
theorem go28 : isGo Try.prog 28 = true := by kernel_rfl
theorem go59 : isGo Try.prog 59 = true := by kernel_rfl
theorem go60 : isGo Try.prog 60 = true := by kernel_rfl
theorem go61 : isGo Try.prog 61 = true := by kernel_rfl

theorem ch_count (c : Pl.Cm) (p : Option Addr) (cap : Nat) (s : Int) (w0 : World) (hc : Pl.ccheck c = 0) (hs : Pl.I64 s)  : C Try.prog 33 [.agg ⟨cmV c p c.bs.length cap⟩, .int .i64 s] w0 fun v w' => v = .int .i64 (Pl.chCount c s) ∧ Ext No w0 w' := by
  have hk := Pl.ccheck_ok hc
  refine C_of Try.func33 rfl rfl rfl fun κ hret hnorm => ?_
  have hm := Mem.start w0
  refine HW_seq rfl ?_
  refine HW_text (.act 0 (.pure 1 .done)) (by kernel_rfl) ?_
  refine a_box rfl rfl rfl rfl hm trivial fun m1 w hg_m1 hm hh => ?_
  refine rw_p rfl rfl (y_assign rfl) ?_
  refine rw_done ?_
  refine gn_sq ?_
  refine HW_seq rfl ?_
  refine HW_seq rfl ?_
  refine HW_text (.pure 0 (.pure 1 .done)) (by kernel_rfl) ?_
  refine rw_p rfl rfl (y_move rfl) ?_
  refine rw_p rfl rfl (y_lt rfl rfl) ?_
  refine rw_done ?_
  refine gn_sq ?_
  refine HW_cond rfl rfl (fun hc0 => ?_) (fun hc0 => ?_)
  ·
    simp only [Bool.and_eq_true, Bool.or_eq_true, Bool.and_eq_false_iff, Bool.or_eq_false_iff, Bool.not_eq_true', Bool.not_eq_false', decide_eq_true_eq, decide_eq_false_iff_not] at hc0
    refine HW_seq rfl ?_
    refine HW_text (.pure 0 .done) (by kernel_rfl) ?_
    refine rw_p rfl rfl (y_assign rfl) ?_
    refine rw_done ?_
    refine gn_sq ?_
    refine HW_ret rfl ?_
    refine gr_sq ?_
    refine toR (fin hret rfl (.tmp rfl .nil) .one ?_)
    exact ⟨by unfold Pl.chCount; rw [if_pos hc0], hm.to⟩
  ·
    simp only [Bool.and_eq_true, Bool.or_eq_true, Bool.and_eq_false_iff, Bool.or_eq_false_iff, Bool.not_eq_true', Bool.not_eq_false', decide_eq_true_eq, decide_eq_false_iff_not] at hc0
    refine HW_skip rfl ?_
    refine gn_sq ?_
    refine HW_seq rfl ?_
    refine HW_text (.pure 0 (.act 1 (.pure 2 (.pure 3 (.pure 4 (.pure 5 (.pure 6 (.pure 7 .done)))))))) (by kernel_rfl) ?_
    refine rw_p rfl rfl (y_loadA (s := 5) (vs := [_, _, _, _, _]) rfl ag34 (hm.nt 0 rfl) rfl) ?_
    refine a_call rfl rfl rfl go30 (c_target _ _ _ _) fun v w hR => ?_
    obtain ⟨rfl, hE⟩ := hR
    refine ⟨trivial, ?_⟩
    replace hm := hm.ext hE
    refine rw_p rfl rfl (y_fieldV rfl fv67_1 rfl) ?_
    refine rw_p rfl rfl (y_sub rfl rfl (i64w (by omega) (by omega))) ?_
    refine rw_p rfl rfl (y_move rfl) ?_
    refine rw_p rfl rfl (y_quo rfl rfl (by omega) (tdivw (by omega) (by omega) (by omega))) ?_
    refine rw_p rfl rfl (y_add rfl rfl (i64w (by have := Pl.chCount_pos hc (s := s) (by omega); omega) (by have := Pl.chCount_pos hc (s := s) (by omega); omega))) ?_
    refine rw_p rfl rfl (y_assign rfl) ?_
    refine rw_done ?_
    refine gn_sq ?_
    refine HW_ret rfl ?_
    refine toR (fin hret rfl (.tmp rfl .nil) .one ?_)
    exact ⟨by unfold Pl.chCount; rw [if_neg hc0], hm.to⟩

theorem r17_count (c : Pl.Cm) (p : Option Addr) (cap : Nat) (s : Int) (w0 : World) (hc : Pl.ccheck c = 0) (hs : Pl.I64 s)  : C Try.prog 28 [.agg ⟨cmV c p c.bs.length cap⟩, .int .i64 s] w0 fun v w' => v = .int .i64 (Pl.chCount c s) ∧ Ext No w0 w' := by
  have hk := Pl.ccheck_ok hc
  refine C_of Try.func28 rfl rfl rfl fun κ hret hnorm => ?_
  have hm := Mem.start w0
  refine HW_seq rfl ?_
  refine HW_text (.act 0 (.pure 1 .done)) (by kernel_rfl) ?_
  refine a_box rfl rfl rfl rfl hm trivial fun m1 w hg_m1 hm hh => ?_
  refine rw_p rfl rfl (y_assign rfl) ?_
  refine rw_done ?_
  refine gn_sq ?_
  refine HW_seq rfl ?_
  refine HW_seq rfl ?_
  refine HW_text (.pure 0 (.pure 1 .done)) (by kernel_rfl) ?_
  refine rw_p rfl rfl (y_move rfl) ?_
  refine rw_p rfl rfl (y_lt rfl rfl) ?_
  refine rw_done ?_
  refine gn_sq ?_
  refine HW_cond rfl rfl (fun hc0 => ?_) (fun hc0 => ?_)
  ·
    simp only [Bool.and_eq_true, Bool.or_eq_true, Bool.and_eq_false_iff, Bool.or_eq_false_iff, Bool.not_eq_true', Bool.not_eq_false', decide_eq_true_eq, decide_eq_false_iff_not] at hc0
    refine HW_seq rfl ?_
    refine HW_text (.pure 0 .done) (by kernel_rfl) ?_
    refine rw_p rfl rfl (y_assign rfl) ?_
    refine rw_done ?_
    refine gn_sq ?_
    refine HW_ret rfl ?_
    refine gr_sq ?_
    refine toR (fin hret rfl (.tmp rfl .nil) .one ?_)
    exact ⟨by unfold Pl.chCount; rw [if_pos hc0], hm.to⟩
  ·
    simp only [Bool.and_eq_true, Bool.or_eq_true, Bool.and_eq_false_iff, Bool.or_eq_false_iff, Bool.not_eq_true', Bool.not_eq_false', decide_eq_true_eq, decide_eq_false_iff_not] at hc0
    refine HW_skip rfl ?_
    refine gn_sq ?_
    refine HW_seq rfl ?_
    refine HW_text (.pure 0 (.act 1 (.pure 2 (.pure 3 (.pure 4 (.pure 5 (.pure 6 .done))))))) (by kernel_rfl) ?_
    refine rw_p rfl rfl (y_loadA (s := 5) (vs := [_, _, _, _, _]) rfl ag34 (hm.nt 0 rfl) rfl) ?_
    refine a_call rfl rfl rfl go40 (r4_len _ _ _ _) fun v w hR => ?_
    obtain ⟨rfl, hE⟩ := hR
    refine ⟨trivial, ?_⟩
    replace hm := hm.ext hE
    refine rw_p rfl rfl (y_sub rfl rfl (i64w (by omega) (by omega))) ?_
    refine rw_p rfl rfl (y_move rfl) ?_
    refine rw_p rfl rfl (y_quo rfl rfl (by omega) (tdivw (by omega) (by omega) (by omega))) ?_
    refine rw_p rfl rfl (y_add rfl rfl (i64w (by have := Pl.chCount_pos hc (s := s) (by omega); omega) (by have := Pl.chCount_pos hc (s := s) (by omega); omega))) ?_
    refine rw_p rfl rfl (y_assign rfl) ?_
    refine rw_done ?_
    refine gn_sq ?_
    refine HW_ret rfl ?_
    refine toR (fin hret rfl (.tmp rfl .nil) .one ?_)
    exact ⟨by unfold Pl.chCount; rw [if_neg hc0], hm.to⟩

theorem ch_down (c : Pl.Cm) (p : Option Addr) (cap : Nat) (w0 : World) (hc : Pl.ccheck c = 0) : C Try.prog 62 [.agg ⟨cmV c p c.bs.length cap⟩] w0 fun v w' => v = .bool (Pl.cdown c) ∧ Ext No w0 w' := by
  refine C_of Try.func62 rfl rfl rfl fun κ hret hnorm => ?_
  have hm := Mem.start w0
  refine HW_seq rfl ?_
  refine HW_text (.act 0 (.pure 1 .done)) (by kernel_rfl) ?_
  refine a_box rfl rfl rfl rfl hm trivial fun m1 w hg_m1 hm hh => ?_
  refine rw_p rfl rfl (y_assign rfl) ?_
  refine rw_done ?_
  refine gn_sq ?_
  refine HW_seq rfl ?_
  refine HW_text (.pure 0 (.act 1 (.pure 2 (.pure 3 (.pure 4 (.pure 5 (.pure 6 (.pure 7 (.pure 8 (.pure 9 .done)))))))))) (by kernel_rfl) ?_
  refine rw_p rfl rfl (y_loadA (s := 5) (vs := [_, _, _, _, _]) rfl ag34 (hm.nt 0 rfl) rfl) ?_
  refine a_call rfl rfl rfl go67 (c_overlaps c p cap _ hc) fun v w hR => ?_
  obtain ⟨rfl, hE⟩ := hR
  refine ⟨trivial, ?_⟩
  replace hm := hm.ext hE
  refine rw_p rfl rfl (y_move rfl) ?_
  refine rw_g rfl rfl rfl (fun hc => (y_fieldAddr rfl fo34_1)) ?_
  refine rw_g rfl rfl rfl (fun hc => (y_load (gx hc rfl) sc3 (hm.nt 0 rfl) rfl)) ?_
  refine rw_g rfl rfl rfl (fun hc => (y_fieldAddr rfl fo34_2)) ?_
  refine rw_g rfl rfl rfl (fun hc => (y_load (gx hc rfl) sc3 (hm.nt 0 rfl) rfl)) ?_
  refine rw_g rfl rfl rfl (fun hc => (y_gt (gx hc rfl) (gx hc rfl))) ?_
  refine rw_p rfl rfl (y_and rfl rfl rfl) ?_
  refine rw_p rfl rfl (y_assign rfl) ?_
  refine rw_done ?_
  refine gn_sq ?_
  refine HW_ret rfl ?_
  refine toR (fin hret rfl (.tmp rfl .nil) .one ?_)
  exact ⟨rfl, hm.to⟩

theorem r17_down (c : Pl.Cm) (p : Option Addr) (cap : Nat) (w0 : World) (hC : Pl.ccheck c = 0) : C Try.prog 59 [.agg ⟨cmV c p c.bs.length cap⟩] w0 fun v w' => v = .bool (Pl.cdown c) ∧ Ext No w0 w' := by
  refine C_of Try.func59 rfl rfl rfl fun κ hret hnorm => ?_
  have hm := Mem.start w0
  refine HW_seq rfl ?_
  refine HW_text (.act 0 (.pure 1 .done)) (by kernel_rfl) ?_
  refine a_box rfl rfl rfl rfl hm trivial fun m1 w hg_m1 hm hh => ?_
  refine rw_p rfl rfl (y_assign rfl) ?_
  refine rw_done ?_
  refine gn_sq ?_
  refine HW_seq rfl ?_
  refine HW_text (.pure 0 (.pure 1 (.pure 2 (.pure 3 (.pure 4 (.pure 5 (.pure 6 (.pure 7 (.pure 8 (.pure 9 (.pure 10 (.pure 11 (.act 12 (.pure 13 (.pure 14 .done))))))))))))))) (by kernel_rfl) ?_
  refine rw_p rfl rfl (y_fieldAddr rfl fo34_0) ?_
  refine rw_p rfl rfl (y_load rfl sc3 (hm.nt 0 rfl) rfl) ?_
  refine rw_p rfl rfl (y_eq rfl rfl) ?_
  refine rw_p rfl rfl (y_move rfl) ?_
  refine rw_g rfl rfl rfl (fun hc => (y_fieldAddr rfl fo34_1)) ?_
  refine rw_g rfl rfl rfl (fun hc => (y_load (gx hc rfl) sc3 (hm.nt 0 rfl) rfl)) ?_
  refine rw_g rfl rfl rfl (fun hc => (y_fieldAddr rfl fo34_2)) ?_
  refine rw_g rfl rfl rfl (fun hc => (y_load (gx hc rfl) sc3 (hm.nt 0 rfl) rfl)) ?_
  refine rw_g rfl rfl rfl (fun hc => (y_gt (gx hc rfl) (gx hc rfl))) ?_
  refine rw_p rfl rfl (y_and rfl rfl rfl) ?_
  refine rw_p rfl rfl (y_move rfl) ?_
  refine rw_g rfl rfl rfl (fun hc => (y_loadA (s := 5) (vs := [_, _, _, _, _]) rfl ag34 (hm.nt 0 rfl) rfl)) ?_
  refine a_callG rfl rfl rfl (fun hc => (evs_c (gx hc rfl) evs_n)) go26 (fun hc => (r4_overlaps c p cap _ hC)) trivial fun w hE hh => ?_
  replace hm := hm.ext hE
  refine rw_p rfl rfl (y_and rfl rfl rfl) ?_
  refine rw_p rfl rfl (y_assign rfl) ?_
  refine rw_done ?_
  refine gn_sq ?_
  refine HW_ret rfl ?_
  refine toR (fin hret rfl (.tmp rfl .nil) .one ?_)
  exact ⟨congrArg Value.bool (by clear hret hnorm hm; unfold Pl.cdown Pl.covl; rw [Bool.eq_iff_iff]; simp only [Bool.and_eq_true, decide_eq_true_eq]; grind), hm.to⟩

set_option maxHeartbeats 800000 in
theorem ch_piece1 (c : Pl.Cm) (p : Option Addr) (cap : Nat) (s k : Int) (m1 m2 m3 m4 m5 : Nat) (w0 : World) (h1 : w0.heap[m1]? = some (Blk.row 4 [.bool (Pl.cdown c)]).toObj) (h2 : w0.heap[m2]? = some (Blk.row 3 [.int .i64 (Pl.chCount c s)]).toObj) (h3 : w0.heap[m3]? = some (Blk.row 34 (cmV c p c.bs.length cap)).toObj) (h4 : w0.heap[m4]? = some (Blk.row 67 [.int .i64 c.to, .int .i64 (Pl.clen c)]).toObj) (h5 : w0.heap[m5]? = some (Blk.row 3 [.int .i64 s]).toObj) (hc : Pl.ccheck c = 0) (hr : Rd w0 p (c.bs.flatMap encB)) (hle : c.bs.length ≤ cap) (hsp : cap ≠ 0 → ∀ ad, p = some ad → ad.spot = none) (hl : c.bs.length ≤ 140737488355328) (hs : Pl.I64 s) (hk : 0 ≤ k ∧ k < Pl.chCount c s) : C Try.prog 63 [.int .i64 k, .pointer (some ⟨m1, 0, none⟩), .pointer (some ⟨m2, 0, none⟩), .pointer (some ⟨m3, 0, none⟩), .pointer (some ⟨m4, 0, none⟩), .pointer (some ⟨m5, 0, none⟩)] w0 fun v w' => ∃ p n cap g bb, v = .agg ⟨cmV (Pl.chAt c s k) p n cap⟩ ∧ Acc 5 1 p n cap ((Pl.chAt c s k).bs.flatMap encB) g bb ∧ Mem w0 w' No [(g, bb)] := by
  have hb := Pl.chAt_ok hc hk
  have hcn := Pl.chCount_nonneg (s := s) hc
  have hkk := Pl.ccheck_ok hc
  have hcd : Pl.chAt c s k = Pl.cpartD c (c.to + Pl.chIx c s k * s) (min s (Pl.clen c - Pl.chIx c s k * s)) := rfl
  refine C_of Try.func63 rfl rfl rfl fun κ hret hnorm => ?_
  have hm := Mem.start w0
  refine HW_seq rfl ?_
  refine HW_text (.act 0 .done) (by kernel_rfl) ?_
  refine a_alloc rfl rfl z34 hm trivial fun m1 w hg_m1 hm hh => ?_
  refine rw_done ?_
  refine gn_sq ?_
  refine HW_seq rfl ?_
  refine HW_seq rfl ?_
  refine HW_text (.pure 0 .done) (by kernel_rfl) ?_
  refine rw_p rfl rfl (y_load rfl sc4 (nowT ((hm.to.same _ (Array.getElem?_eq_some_iff.1 h1).1 id).trans h1)) rfl) ?_
  refine rw_done ?_
  refine gn_sq ?_
  refine HW_cond rfl rfl (fun hc0 => ?_) (fun hc0 => ?_)
  ·
    have hix : Pl.chIx c s k = Pl.chCount c s - 1 - k := by simp [Pl.chIx, hc0]
    rw [hix] at hb hcd
    refine HW_text (.pure 0 (.pure 1 (.pure 2 (.pure 3 (.pure 4 .done))))) (by kernel_rfl) ?_
    refine rw_p rfl rfl (y_load rfl sc3 (nowT ((hm.to.same _ (Array.getElem?_eq_some_iff.1 h2).1 id).trans h2)) rfl) ?_
    refine rw_p rfl rfl (y_sub rfl rfl (i64w (by omega) (by omega))) ?_
    refine rw_p rfl rfl (y_move rfl) ?_
    refine rw_p rfl rfl (y_sub rfl rfl (i64w (by omega) (by omega))) ?_
    refine rw_p rfl rfl (y_assign rfl) ?_
    refine rw_done ?_
    refine gn_sq ?_
    refine HW_seq rfl ?_
    refine HW_draw (.pure 0 (.pure 1 (.pure 2 (.pure 3 (.pure 4 (.pure 5 (.pure 6 (.pure 7 (.pure 8 (.pure 10 (.pure 11 (.pure 13 (.pure 14 (.pure 15 (.act2 9 (.pure 12 (.pure 16 (.pure 17 (.pure 18 (.act2 19 (.pure 20 (.pure 21 (.pure 22 (.act 23 (.act 24 (.pure 25 .done)))))) 23 (.act 19 (.pure 20 (.pure 21 (.pure 22 (.act 24 (.pure 25 .done))))))))))) 23 (.act 9 (.pure 12 (.pure 16 (.pure 17 (.pure 18 (.act 19 (.pure 20 (.pure 21 (.pure 22 (.act 24 (.pure 25 .done)))))))))))))))))))))))))) No mix (by kernel_rfl) hm fun w hw hm0 hh => ?_
    have hm := hm0
    refine rw_p rfl rfl (y_loadA (s := 5) (vs := [_, _, _, _, _]) rfl ag34 (fun u hu => ((hm0.to.trans hu).same _ (Array.getElem?_eq_some_iff.1 h3).1 id).trans h3) rfl) ?_
    refine rw_p rfl rfl (y_fieldAddr rfl fo67_0) ?_
    refine rw_p rfl rfl (y_load rfl sc3 (fun u hu => ((hm0.to.trans hu).same _ (Array.getElem?_eq_some_iff.1 h4).1 id).trans h4) rfl) ?_
    refine rw_p rfl rfl (y_move rfl) ?_
    refine rw_p rfl rfl (y_load rfl sc3 (fun u hu => ((hm0.to.trans hu).same _ (Array.getElem?_eq_some_iff.1 h5).1 id).trans h5) rfl) ?_
    refine rw_p rfl rfl (y_mul rfl rfl (i64w (by omega) (by omega))) ?_
    refine rw_p rfl rfl (y_add rfl rfl (i64w (by omega) (by omega))) ?_
    refine rw_p rfl rfl (y_load rfl sc3 (fun u hu => ((hm0.to.trans hu).same _ (Array.getElem?_eq_some_iff.1 h5).1 id).trans h5) rfl) ?_
    refine rw_p rfl rfl (y_loadA (s := 2) (vs := [_, _]) rfl ag67 (fun u hu => ((hm0.to.trans hu).same _ (Array.getElem?_eq_some_iff.1 h4).1 id).trans h4) rfl) ?_
    refine rw_p rfl rfl (y_fieldAddr rfl fo67_0) ?_
    refine rw_p rfl rfl (y_load rfl sc3 (fun u hu => ((hm0.to.trans hu).same _ (Array.getElem?_eq_some_iff.1 h4).1 id).trans h4) rfl) ?_
    refine rw_p rfl rfl (y_move rfl) ?_
    refine rw_p rfl rfl (y_load rfl sc3 (fun u hu => ((hm0.to.trans hu).same _ (Array.getElem?_eq_some_iff.1 h5).1 id).trans h5) rfl) ?_
    refine rw_p rfl rfl (y_mul rfl rfl (i64w (by omega) (by omega))) ?_
    refine a_two ?_ ?_
    ·
      refine a_call rfl rfl rfl go42 (ext_end _ _ _ (by omega)) fun v w hR => ?_
      obtain ⟨rfl, hE⟩ := hR
      refine ⟨hh.ext hE, ?_⟩
      replace hm := hm.ext hE
      replace hh := hh.ext hE
      refine rw_p rfl rfl (y_sub rfl rfl ((i64w (by omega) (by omega)).trans (by omega : c.to + Pl.clen c - c.to = Pl.clen c))) ?_
      refine rw_p rfl rfl (y_sub rfl rfl (i64w (by omega) (by omega))) ?_
      refine rw_p rfl rfl (y_min rfl rfl) ?_
      refine rw_p rfl rfl (y_build (cs := [_, _]) z67 ft67 rfl rfl rfl rfl rfl) ?_
      refine a_two ?_ ?_
      ·
        refine a_call rfl rfl rfl go64 (c_part c p cap _ _ _ hc (hr.ext0 hm.to) hle hsp hl (by omega)) fun v w hR => ?_
        obtain ⟨p_s, n_s, cap_s, g_s, b_s, rfl, ha_s, hmc⟩ := hR
        refine ⟨hh.ext hmc.to, ?_⟩
        replace hh := hh.ext hmc.to
        replace hm := hm.callN hmc
        obtain rfl := ha_s.lenB
        refine rw_p rfl rfl (y_move rfl) ?_
        refine rw_p rfl rfl (y_extract rfl rfl) ?_
        refine rw_p rfl rfl (y_extract rfl rfl) ?_
        refine a_alloc rfl rfl z34 hm hh fun m2 w hg_m2 hm hh => ?_
        refine a_storeN rfl rfl rfl rfl sz34 rfl hm 0 rfl rfl hh (.inl hg_m2) fun w hm hh => ?_
        refine rw_p rfl rfl (y_assign rfl) ?_
        refine rw_done ?_
        refine gn_sq ?_
        refine HW_seq rfl ?_
        refine HW_text (.pure 0 (.act 1 .done)) (by kernel_rfl) ?_
        refine rw_p rfl rfl (y_loadA (s := 5) (vs := [_, _, _, _, _]) rfl ag34 (hm.nt 0 rfl) rfl) ?_
        refine a_store rfl rfl rfl rfl sz34 rfl hm 2 rfl rfl fun w hm => ?_
        refine rw_done ?_
        refine gn_sq ?_
        refine HW_ret rfl ?_
        refine toR (fin hret rfl (.cell rfl (run_loadVar_a (vs := [_, _, _, _, _]) ag34 (hm.get (k := 2) rfl) rfl) .nil) .one ?_)
        exact ⟨p_s, (Pl.chAt c s k).bs.length, cap_s, g_s, b_s, by rw [hcd]; rfl, by rw [hcd]; exact ha_s, (hm.pick [1] rfl)⟩
      ·
        refine a_alloc rfl rfl z34 hm hh fun m2 w hg_m2 hm hh => ?_
        refine a_call rfl rfl rfl go64 (c_part c p cap _ _ _ hc (hr.ext0 hm.to) hle hsp hl (by omega)) fun v w hR => ?_
        obtain ⟨p_s, n_s, cap_s, g_s, b_s, rfl, ha_s, hmc⟩ := hR
        refine ⟨hh.ext hmc.to, ?_⟩
        replace hh := hh.ext hmc.to
        replace hm := hm.callN hmc
        obtain rfl := ha_s.lenB
        refine rw_p rfl rfl (y_move rfl) ?_
        refine rw_p rfl rfl (y_extract rfl rfl) ?_
        refine rw_p rfl rfl (y_extract rfl rfl) ?_
        refine a_storeN rfl rfl rfl rfl sz34 rfl hm 1 rfl rfl hh (.inl hg_m2) fun w hm hh => ?_
        refine rw_p rfl rfl (y_assign rfl) ?_
        refine rw_done ?_
        refine gn_sq ?_
        refine HW_seq rfl ?_
        refine HW_text (.pure 0 (.act 1 .done)) (by kernel_rfl) ?_
        refine rw_p rfl rfl (y_loadA (s := 5) (vs := [_, _, _, _, _]) rfl ag34 (hm.nt 1 rfl) rfl) ?_
        refine a_store rfl rfl rfl rfl sz34 rfl hm 2 rfl rfl fun w hm => ?_
        refine rw_done ?_
        refine gn_sq ?_
        refine HW_ret rfl ?_
        refine toR (fin hret rfl (.cell rfl (run_loadVar_a (vs := [_, _, _, _, _]) ag34 (hm.get (k := 2) rfl) rfl) .nil) .one ?_)
        exact ⟨p_s, (Pl.chAt c s k).bs.length, cap_s, g_s, b_s, by rw [hcd]; rfl, by rw [hcd]; exact ha_s, (hm.pick [0] rfl)⟩
    ·
      refine a_alloc rfl rfl z34 hm hh fun m2 w hg_m2 hm hh => ?_
      refine a_call rfl rfl rfl go42 (ext_end _ _ _ (by omega)) fun v w hR => ?_
      obtain ⟨rfl, hE⟩ := hR
      refine ⟨hh.ext hE, ?_⟩
      replace hm := hm.ext hE
      replace hh := hh.ext hE
      refine rw_p rfl rfl (y_sub rfl rfl ((i64w (by omega) (by omega)).trans (by omega : c.to + Pl.clen c - c.to = Pl.clen c))) ?_
      refine rw_p rfl rfl (y_sub rfl rfl (i64w (by omega) (by omega))) ?_
      refine rw_p rfl rfl (y_min rfl rfl) ?_
      refine rw_p rfl rfl (y_build (cs := [_, _]) z67 ft67 rfl rfl rfl rfl rfl) ?_
      refine a_call rfl rfl rfl go64 (c_part c p cap _ _ _ hc (hr.ext0 hm.to) hle hsp hl (by omega)) fun v w hR => ?_
      obtain ⟨p_s, n_s, cap_s, g_s, b_s, rfl, ha_s, hmc⟩ := hR
      refine ⟨hh.ext hmc.to, ?_⟩
      replace hh := hh.ext hmc.to
      replace hm := hm.callN hmc
      obtain rfl := ha_s.lenB
      refine rw_p rfl rfl (y_move rfl) ?_
      refine rw_p rfl rfl (y_extract rfl rfl) ?_
      refine rw_p rfl rfl (y_extract rfl rfl) ?_
      refine a_storeN rfl rfl rfl rfl sz34 rfl hm 1 rfl rfl hh (.inl hg_m2) fun w hm hh => ?_
      refine rw_p rfl rfl (y_assign rfl) ?_
      refine rw_done ?_
      refine gn_sq ?_
      refine HW_seq rfl ?_
      refine HW_text (.pure 0 (.act 1 .done)) (by kernel_rfl) ?_
      refine rw_p rfl rfl (y_loadA (s := 5) (vs := [_, _, _, _, _]) rfl ag34 (hm.nt 1 rfl) rfl) ?_
      refine a_store rfl rfl rfl rfl sz34 rfl hm 2 rfl rfl fun w hm => ?_
      refine rw_done ?_
      refine gn_sq ?_
      refine HW_ret rfl ?_
      refine toR (fin hret rfl (.cell rfl (run_loadVar_a (vs := [_, _, _, _, _]) ag34 (hm.get (k := 2) rfl) rfl) .nil) .one ?_)
      exact ⟨p_s, (Pl.chAt c s k).bs.length, cap_s, g_s, b_s, by rw [hcd]; rfl, by rw [hcd]; exact ha_s, (hm.pick [0] rfl)⟩
  ·
    have hix : Pl.chIx c s k = k := by simp [Pl.chIx, hc0]
    rw [hix] at hb hcd
    refine HW_skip rfl ?_
    refine gn_sq ?_
    refine HW_seq rfl ?_
    refine HW_draw (.pure 0 (.pure 1 (.pure 2 (.pure 3 (.pure 4 (.pure 5 (.pure 6 (.pure 7 (.pure 8 (.pure 10 (.pure 11 (.pure 13 (.pure 14 (.pure 15 (.act2 9 (.pure 12 (.pure 16 (.pure 17 (.pure 18 (.act2 19 (.pure 20 (.pure 21 (.pure 22 (.act 23 (.act 24 (.pure 25 .done)))))) 23 (.act 19 (.pure 20 (.pure 21 (.pure 22 (.act 24 (.pure 25 .done))))))))))) 23 (.act 9 (.pure 12 (.pure 16 (.pure 17 (.pure 18 (.act 19 (.pure 20 (.pure 21 (.pure 22 (.act 24 (.pure 25 .done)))))))))))))))))))))))))) No mix (by kernel_rfl) hm fun w hw hm0 hh => ?_
    have hm := hm0
    refine rw_p rfl rfl (y_loadA (s := 5) (vs := [_, _, _, _, _]) rfl ag34 (fun u hu => ((hm0.to.trans hu).same _ (Array.getElem?_eq_some_iff.1 h3).1 id).trans h3) rfl) ?_
    refine rw_p rfl rfl (y_fieldAddr rfl fo67_0) ?_
    refine rw_p rfl rfl (y_load rfl sc3 (fun u hu => ((hm0.to.trans hu).same _ (Array.getElem?_eq_some_iff.1 h4).1 id).trans h4) rfl) ?_
    refine rw_p rfl rfl (y_move rfl) ?_
    refine rw_p rfl rfl (y_load rfl sc3 (fun u hu => ((hm0.to.trans hu).same _ (Array.getElem?_eq_some_iff.1 h5).1 id).trans h5) rfl) ?_
    refine rw_p rfl rfl (y_mul rfl rfl (i64w (by omega) (by omega))) ?_
    refine rw_p rfl rfl (y_add rfl rfl (i64w (by omega) (by omega))) ?_
    refine rw_p rfl rfl (y_load rfl sc3 (fun u hu => ((hm0.to.trans hu).same _ (Array.getElem?_eq_some_iff.1 h5).1 id).trans h5) rfl) ?_
    refine rw_p rfl rfl (y_loadA (s := 2) (vs := [_, _]) rfl ag67 (fun u hu => ((hm0.to.trans hu).same _ (Array.getElem?_eq_some_iff.1 h4).1 id).trans h4) rfl) ?_
    refine rw_p rfl rfl (y_fieldAddr rfl fo67_0) ?_
    refine rw_p rfl rfl (y_load rfl sc3 (fun u hu => ((hm0.to.trans hu).same _ (Array.getElem?_eq_some_iff.1 h4).1 id).trans h4) rfl) ?_
    refine rw_p rfl rfl (y_move rfl) ?_
    refine rw_p rfl rfl (y_load rfl sc3 (fun u hu => ((hm0.to.trans hu).same _ (Array.getElem?_eq_some_iff.1 h5).1 id).trans h5) rfl) ?_
    refine rw_p rfl rfl (y_mul rfl rfl (i64w (by omega) (by omega))) ?_
    refine a_two ?_ ?_
    ·
      refine a_call rfl rfl rfl go42 (ext_end _ _ _ (by omega)) fun v w hR => ?_
      obtain ⟨rfl, hE⟩ := hR
      refine ⟨hh.ext hE, ?_⟩
      replace hm := hm.ext hE
      replace hh := hh.ext hE
      refine rw_p rfl rfl (y_sub rfl rfl ((i64w (by omega) (by omega)).trans (by omega : c.to + Pl.clen c - c.to = Pl.clen c))) ?_
      refine rw_p rfl rfl (y_sub rfl rfl (i64w (by omega) (by omega))) ?_
      refine rw_p rfl rfl (y_min rfl rfl) ?_
      refine rw_p rfl rfl (y_build (cs := [_, _]) z67 ft67 rfl rfl rfl rfl rfl) ?_
      refine a_two ?_ ?_
      ·
        refine a_call rfl rfl rfl go64 (c_part c p cap _ _ _ hc (hr.ext0 hm.to) hle hsp hl (by omega)) fun v w hR => ?_
        obtain ⟨p_s, n_s, cap_s, g_s, b_s, rfl, ha_s, hmc⟩ := hR
        refine ⟨hh.ext hmc.to, ?_⟩
        replace hh := hh.ext hmc.to
        replace hm := hm.callN hmc
        obtain rfl := ha_s.lenB
        refine rw_p rfl rfl (y_move rfl) ?_
        refine rw_p rfl rfl (y_extract rfl rfl) ?_
        refine rw_p rfl rfl (y_extract rfl rfl) ?_
        refine a_alloc rfl rfl z34 hm hh fun m2 w hg_m2 hm hh => ?_
        refine a_storeN rfl rfl rfl rfl sz34 rfl hm 0 rfl rfl hh (.inl hg_m2) fun w hm hh => ?_
        refine rw_p rfl rfl (y_assign rfl) ?_
        refine rw_done ?_
        refine gn_sq ?_
        refine HW_seq rfl ?_
        refine HW_text (.pure 0 (.act 1 .done)) (by kernel_rfl) ?_
        refine rw_p rfl rfl (y_loadA (s := 5) (vs := [_, _, _, _, _]) rfl ag34 (hm.nt 0 rfl) rfl) ?_
        refine a_store rfl rfl rfl rfl sz34 rfl hm 2 rfl rfl fun w hm => ?_
        refine rw_done ?_
        refine gn_sq ?_
        refine HW_ret rfl ?_
        refine toR (fin hret rfl (.cell rfl (run_loadVar_a (vs := [_, _, _, _, _]) ag34 (hm.get (k := 2) rfl) rfl) .nil) .one ?_)
        exact ⟨p_s, (Pl.chAt c s k).bs.length, cap_s, g_s, b_s, by rw [hcd]; rfl, by rw [hcd]; exact ha_s, (hm.pick [1] rfl)⟩
      ·
        refine a_alloc rfl rfl z34 hm hh fun m2 w hg_m2 hm hh => ?_
        refine a_call rfl rfl rfl go64 (c_part c p cap _ _ _ hc (hr.ext0 hm.to) hle hsp hl (by omega)) fun v w hR => ?_
        obtain ⟨p_s, n_s, cap_s, g_s, b_s, rfl, ha_s, hmc⟩ := hR
        refine ⟨hh.ext hmc.to, ?_⟩
        replace hh := hh.ext hmc.to
        replace hm := hm.callN hmc
        obtain rfl := ha_s.lenB
        refine rw_p rfl rfl (y_move rfl) ?_
        refine rw_p rfl rfl (y_extract rfl rfl) ?_
        refine rw_p rfl rfl (y_extract rfl rfl) ?_
        refine a_storeN rfl rfl rfl rfl sz34 rfl hm 1 rfl rfl hh (.inl hg_m2) fun w hm hh => ?_
        refine rw_p rfl rfl (y_assign rfl) ?_
        refine rw_done ?_
        refine gn_sq ?_
        refine HW_seq rfl ?_
        refine HW_text (.pure 0 (.act 1 .done)) (by kernel_rfl) ?_
        refine rw_p rfl rfl (y_loadA (s := 5) (vs := [_, _, _, _, _]) rfl ag34 (hm.nt 1 rfl) rfl) ?_
        refine a_store rfl rfl rfl rfl sz34 rfl hm 2 rfl rfl fun w hm => ?_
        refine rw_done ?_
        refine gn_sq ?_
        refine HW_ret rfl ?_
        refine toR (fin hret rfl (.cell rfl (run_loadVar_a (vs := [_, _, _, _, _]) ag34 (hm.get (k := 2) rfl) rfl) .nil) .one ?_)
        exact ⟨p_s, (Pl.chAt c s k).bs.length, cap_s, g_s, b_s, by rw [hcd]; rfl, by rw [hcd]; exact ha_s, (hm.pick [0] rfl)⟩
    ·
      refine a_alloc rfl rfl z34 hm hh fun m2 w hg_m2 hm hh => ?_
      refine a_call rfl rfl rfl go42 (ext_end _ _ _ (by omega)) fun v w hR => ?_
      obtain ⟨rfl, hE⟩ := hR
      refine ⟨hh.ext hE, ?_⟩
      replace hm := hm.ext hE
      replace hh := hh.ext hE
      refine rw_p rfl rfl (y_sub rfl rfl ((i64w (by omega) (by omega)).trans (by omega : c.to + Pl.clen c - c.to = Pl.clen c))) ?_
      refine rw_p rfl rfl (y_sub rfl rfl (i64w (by omega) (by omega))) ?_
      refine rw_p rfl rfl (y_min rfl rfl) ?_
      refine rw_p rfl rfl (y_build (cs := [_, _]) z67 ft67 rfl rfl rfl rfl rfl) ?_
      refine a_call rfl rfl rfl go64 (c_part c p cap _ _ _ hc (hr.ext0 hm.to) hle hsp hl (by omega)) fun v w hR => ?_
      obtain ⟨p_s, n_s, cap_s, g_s, b_s, rfl, ha_s, hmc⟩ := hR
      refine ⟨hh.ext hmc.to, ?_⟩
      replace hh := hh.ext hmc.to
      replace hm := hm.callN hmc
      obtain rfl := ha_s.lenB
      refine rw_p rfl rfl (y_move rfl) ?_
      refine rw_p rfl rfl (y_extract rfl rfl) ?_
      refine rw_p rfl rfl (y_extract rfl rfl) ?_
      refine a_storeN rfl rfl rfl rfl sz34 rfl hm 1 rfl rfl hh (.inl hg_m2) fun w hm hh => ?_
      refine rw_p rfl rfl (y_assign rfl) ?_
      refine rw_done ?_
      refine gn_sq ?_
      refine HW_seq rfl ?_
      refine HW_text (.pure 0 (.act 1 .done)) (by kernel_rfl) ?_
      refine rw_p rfl rfl (y_loadA (s := 5) (vs := [_, _, _, _, _]) rfl ag34 (hm.nt 1 rfl) rfl) ?_
      refine a_store rfl rfl rfl rfl sz34 rfl hm 2 rfl rfl fun w hm => ?_
      refine rw_done ?_
      refine gn_sq ?_
      refine HW_ret rfl ?_
      refine toR (fin hret rfl (.cell rfl (run_loadVar_a (vs := [_, _, _, _, _]) ag34 (hm.get (k := 2) rfl) rfl) .nil) .one ?_)
      exact ⟨p_s, (Pl.chAt c s k).bs.length, cap_s, g_s, b_s, by rw [hcd]; rfl, by rw [hcd]; exact ha_s, (hm.pick [0] rfl)⟩

theorem ch_piece (c : Pl.Cm) (p : Option Addr) (cap : Nat) (s : Int) (w0 : World) (hc : Pl.ccheck c = 0) (hs : Pl.I64 s)  : C Try.prog 55 [.agg ⟨cmV c p c.bs.length cap⟩, .int .i64 s] w0 fun v w' => ∃ m1 m2 m3 m4 m5, v = .func (.func 63) #[] ⟨[.pointer (some ⟨m1, 0, none⟩), .pointer (some ⟨m2, 0, none⟩), .pointer (some ⟨m3, 0, none⟩), .pointer (some ⟨m4, 0, none⟩), .pointer (some ⟨m5, 0, none⟩)]⟩ ∧ Mem w0 w' No [(m1, .row 4 [.bool (Pl.cdown c)]), (m2, .row 3 [.int .i64 (Pl.chCount c s)]), (m4, .row 67 [.int .i64 c.to, .int .i64 (Pl.clen c)]), (m5, .row 3 [.int .i64 s]), (m3, .row 34 (cmV c p c.bs.length cap))] := by
  refine C_of Try.func55 rfl rfl rfl fun κ hret hnorm => ?_
  have hm := Mem.start w0
  refine HW_seq rfl ?_
  refine HW_text (.act 0 (.act 1 (.pure 2 .done))) (by kernel_rfl) ?_
  refine a_box rfl rfl rfl rfl hm trivial fun m1 w hg_m1 hm hh => ?_
  refine a_box rfl rfl rfl rfl hm trivial fun m2 w hg_m2 hm hh => ?_
  refine rw_p rfl rfl (y_assign rfl) ?_
  refine rw_done ?_
  refine gn_sq ?_
  refine HW_seq rfl ?_
  refine HW_text (.pure 0 (.act 1 (.act 2 (.act 3 .done)))) (by kernel_rfl) ?_
  refine rw_p rfl rfl (y_loadA (s := 5) (vs := [_, _, _, _, _]) rfl ag34 (hm.nt 1 rfl) rfl) ?_
  refine a_call rfl rfl rfl go30 (c_target _ _ _ _) fun v w hR => ?_
  obtain ⟨rfl, hE⟩ := hR
  refine ⟨trivial, ?_⟩
  replace hm := hm.ext hE
  refine a_alloc rfl rfl z67 hm trivial fun m3 w hg_m3 hm hh => ?_
  refine a_store rfl rfl rfl rfl sz67 rfl hm 0 rfl rfl fun w hm => ?_
  refine rw_done ?_
  refine gn_sq ?_
  refine HW_seq rfl ?_
  refine HW_text (.pure 0 (.pure 1 (.act 2 (.act 3 (.act 4 .done))))) (by kernel_rfl) ?_
  refine rw_p rfl rfl (y_loadA (s := 5) (vs := [_, _, _, _, _]) rfl ag34 (hm.nt 2 rfl) rfl) ?_
  refine rw_p rfl rfl (y_load rfl sc3 (hm.nt 1 rfl) rfl) ?_
  refine a_call rfl rfl rfl go33 (ch_count c p cap s _ hc hs) fun v w hR => ?_
  obtain ⟨rfl, hE⟩ := hR
  refine ⟨trivial, ?_⟩
  replace hm := hm.ext hE
  refine a_alloc rfl rfl z3 hm trivial fun m4 w hg_m4 hm hh => ?_
  refine a_store rfl rfl rfl rfl sz3 rfl hm 0 rfl rfl fun w hm => ?_
  refine rw_done ?_
  refine gn_sq ?_
  refine HW_seq rfl ?_
  refine HW_text (.pure 0 (.act 1 (.act 2 (.act 3 .done)))) (by kernel_rfl) ?_
  refine rw_p rfl rfl (y_loadA (s := 5) (vs := [_, _, _, _, _]) rfl ag34 (hm.nt 3 rfl) rfl) ?_
  refine a_call rfl rfl rfl go62 (ch_down c p cap _ hc) fun v w hR => ?_
  obtain ⟨rfl, hE⟩ := hR
  refine ⟨trivial, ?_⟩
  replace hm := hm.ext hE
  refine a_alloc rfl rfl z4 hm trivial fun m5 w hg_m5 hm hh => ?_
  refine a_store rfl rfl rfl rfl sz4 rfl hm 0 rfl rfl fun w hm => ?_
  refine rw_done ?_
  refine gn_sq ?_
  refine HW_seq rfl ?_
  refine HW_text (.pure 0 (.pure 1 .done)) (by kernel_rfl) ?_
  refine rw_p rfl rfl (y_func rfl rfl) ?_
  refine rw_p rfl rfl (y_assign rfl) ?_
  refine rw_done ?_
  refine gn_sq ?_
  refine HW_ret rfl ?_
  refine toR (fin hret rfl (.tmp rfl .nil) .one ?_)
  exact ⟨_, _, _, _, _, rfl, hm⟩

theorem ch_at (c : Pl.Cm) (p : Option Addr) (cap : Nat) (s k : Int) (w0 : World) (hc : Pl.ccheck c = 0) (hr : Rd w0 p (c.bs.flatMap encB)) (hle : c.bs.length ≤ cap) (hsp : cap ≠ 0 → ∀ ad, p = some ad → ad.spot = none) (hl : c.bs.length ≤ 140737488355328) (hs : Pl.I64 s) (hk : Pl.I64 k) : C Try.prog 39 [.agg ⟨cmV c p c.bs.length cap⟩, .int .i64 s, .int .i64 k] w0 fun v w' => ∃ p n cap g bb, v = .tuple ⟨[.agg ⟨cmV (if 0 ≤ k ∧ k < Pl.chCount c s then Pl.chAt c s k else Pl.cm0) p n cap⟩, .bool (decide (0 ≤ k ∧ k < Pl.chCount c s))]⟩ ∧ Acc 5 1 p n cap ((if 0 ≤ k ∧ k < Pl.chCount c s then Pl.chAt c s k else Pl.cm0).bs.flatMap encB) g bb ∧ Mem w0 w' No [(g, bb)] := by
  refine C_of Try.func39 rfl rfl rfl fun κ hret hnorm => ?_
  have hm := Mem.start w0
  refine HW_seq rfl ?_
  refine HW_text (.act 0 (.act 1 (.pure 2 .done))) (by kernel_rfl) ?_
  refine a_box rfl rfl rfl rfl hm trivial fun m1 w hg_m1 hm hh => ?_
  refine a_alloc rfl rfl z34 hm trivial fun m2 w hg_m2 hm hh => ?_
  refine rw_p rfl rfl (y_assign rfl) ?_
  refine rw_done ?_
  refine gn_sq ?_
  refine HW_seq rfl ?_
  refine HW_seq rfl ?_
  by_cases hk0 : k < 0
  ·
    refine HW_text (.pure 0 (.pure 1 (.pure 2 (.pure 3 (.pure 4 (.pure 5 (.act 6 (.pure 7 (.pure 8 .done))))))))) (by kernel_rfl) ?_
    refine rw_p rfl rfl (y_move rfl) ?_
    refine rw_p rfl rfl (y_as (c := true) (y_lt rfl rfl) (by simpa using hk0)) ?_
    refine rw_p rfl rfl (y_move rfl) ?_
    refine rw_gf rfl rfl (by decide) rfl ?_
    refine rw_gf rfl rfl (by decide) rfl ?_
    refine rw_gf rfl rfl (by decide) rfl ?_
    refine a_gf rfl rfl (by decide) rfl trivial ?_
    refine rw_gf rfl rfl (by decide) rfl ?_
    refine rw_p rfl rfl (y_pickT rfl rfl) ?_
    refine rw_done ?_
    refine gn_sq ?_
    refine HW_condT rfl rfl rfl ?_
    refine HW_seq rfl ?_
    refine HW_text (.pure 0 (.act 1 (.pure 2 .done))) (by kernel_rfl) ?_
    refine rw_p rfl rfl (y_build (cs := [_, _, _, _, _]) z34 ft34 rfl rfl rfl rfl rfl) ?_
    refine a_store rfl rfl rfl rfl sz34 rfl hm 0 rfl rfl fun w hm => ?_
    refine rw_p rfl rfl (y_assign rfl) ?_
    refine rw_done ?_
    refine gn_sq ?_
    refine HW_ret rfl ?_
    refine gr_sq ?_
    refine toR (fin hret rfl (.cell rfl (run_loadVar_a (vs := [_, _, _, _, _]) ag34 (hm.get (k := 0) rfl) rfl) (.tmp rfl .nil)) .more ?_)
    have hno : ¬ (0 ≤ k ∧ k < Pl.chCount c s) := by omega
    exact ⟨none, 0, 0, 0, .gap, by rw [if_neg hno, decide_eq_false hno]; rfl, by rw [if_neg hno]; exact .nil _ _ _ _, (hm.drop (List.nil_sublist _)).gapIn⟩
  ·
    refine HW_text (.pure 0 (.pure 1 (.pure 2 (.pure 3 (.pure 4 (.pure 5 (.act 6 (.pure 7 (.pure 8 .done))))))))) (by kernel_rfl) ?_
    refine rw_p rfl rfl (y_move rfl) ?_
    refine rw_p rfl rfl (y_as (c := false) (y_lt rfl rfl) (by simpa using hk0)) ?_
    refine rw_p rfl rfl (y_move rfl) ?_
    refine rw_p rfl rfl (y_move rfl) ?_
    refine rw_p rfl rfl (y_loadA (s := 5) (vs := [_, _, _, _, _]) rfl ag34 (hm.nt 1 rfl) rfl) ?_
    refine rw_p rfl rfl (y_move rfl) ?_
    refine a_call rfl rfl rfl go33 (ch_count c p cap s _ hc hs) fun v w hR => ?_
    obtain ⟨rfl, hE⟩ := hR
    refine ⟨trivial, ?_⟩
    replace hm := hm.ext hE
    refine rw_p rfl rfl (y_ge rfl rfl) ?_
    refine rw_p rfl rfl (y_pickF rfl rfl) ?_
    refine rw_done ?_
    refine gn_sq ?_
    refine HW_cond rfl rfl (fun hc0 => ?_) (fun hc0 => ?_)
    ·
      simp only [decide_eq_true_eq] at hc0
      refine HW_seq rfl ?_
      refine HW_text (.pure 0 (.act 1 (.pure 2 .done))) (by kernel_rfl) ?_
      refine rw_p rfl rfl (y_build (cs := [_, _, _, _, _]) z34 ft34 rfl rfl rfl rfl rfl) ?_
      refine a_store rfl rfl rfl rfl sz34 rfl hm 0 rfl rfl fun w hm => ?_
      refine rw_p rfl rfl (y_assign rfl) ?_
      refine rw_done ?_
      refine gn_sq ?_
      refine HW_ret rfl ?_
      refine gr_sq ?_
      refine toR (fin hret rfl (.cell rfl (run_loadVar_a (vs := [_, _, _, _, _]) ag34 (hm.get (k := 0) rfl) rfl) (.tmp rfl .nil)) .more ?_)
      have hno : ¬ (0 ≤ k ∧ k < Pl.chCount c s) := by omega
      exact ⟨none, 0, 0, 0, .gap, by rw [if_neg hno, decide_eq_false hno]; rfl, by rw [if_neg hno]; exact .nil _ _ _ _, (hm.drop (List.nil_sublist _)).gapIn⟩
    ·
      simp only [decide_eq_false_iff_not] at hc0
      have hin : 0 ≤ k ∧ k < Pl.chCount c s := by omega
      refine HW_skip rfl ?_
      refine gn_sq ?_
      refine HW_seq rfl ?_
      refine HW_text (.pure 0 (.pure 1 (.act 2 (.pure 3 (.act 4 (.act 5 (.pure 6 .done))))))) (by kernel_rfl) ?_
      refine rw_p rfl rfl (y_loadA (s := 5) (vs := [_, _, _, _, _]) rfl ag34 (hm.nt 1 rfl) rfl) ?_
      refine rw_p rfl rfl (y_move rfl) ?_
      refine a_call rfl rfl rfl go55 (ch_piece c p cap s _ hc hs) fun v w hR => ?_
      obtain ⟨q1, q2, q3, q4, q5, rfl, hmc⟩ := hR
      refine ⟨trivial, ?_⟩
      replace hm := hm.callN hmc
      refine rw_p rfl rfl (y_move rfl) ?_
      refine a_callV rfl rfl rfl rfl go63 (ch_piece1 c p cap s k q1 q2 q3 q4 q5 _ (hm.get (k := 0) rfl) (hm.get (k := 1) rfl) (hm.get (k := 4) rfl) (hm.get (k := 2) rfl) (hm.get (k := 3) rfl) hc (hr.ext0 hm.to) hle hsp hl hs hin) fun v w hR => ?_
      obtain ⟨p_s, n_s, cap_s, g_s, b_s, rfl, ha_s, hmc⟩ := hR
      refine ⟨trivial, ?_⟩
      replace hm := hm.callN hmc
      obtain rfl := ha_s.lenB
      refine a_store rfl rfl rfl rfl sz34 rfl hm 6 rfl rfl fun w hm => ?_
      refine rw_p rfl rfl (y_assign rfl) ?_
      refine rw_done ?_
      refine gn_sq ?_
      refine HW_ret rfl ?_
      refine toR (fin hret rfl (.cell rfl (run_loadVar_a (vs := [_, _, _, _, _]) ag34 (hm.get (k := 6) rfl) rfl) (.tmp rfl .nil)) .more ?_)
      exact ⟨p_s, (Pl.chAt c s k).bs.length, cap_s, g_s, b_s, by rw [if_pos hin, decide_eq_true hin]; rfl, by rw [if_pos hin]; exact ha_s, (hm.pick [0] rfl)⟩

set_option maxHeartbeats 800000 in
theorem r17_at (c : Pl.Cm) (p : Option Addr) (cap : Nat) (s k : Int) (w0 : World) (hc : Pl.ccheck c = 0) (hr : Rd w0 p (c.bs.flatMap encB)) (hle : c.bs.length ≤ cap) (hsp : cap ≠ 0 → ∀ ad, p = some ad → ad.spot = none) (hl : c.bs.length ≤ 140737488355328) (hs : Pl.I64 s) (hk : 0 ≤ k ∧ k < Pl.chCount c s) : C Try.prog 52 [.agg ⟨cmV c p c.bs.length cap⟩, .int .i64 s, .int .i64 k] w0 fun v w' => ∃ p n cap g bb, v = .agg ⟨cmV (Pl.chAt c s k) p n cap⟩ ∧ Acc 5 1 p n cap ((Pl.chAt c s k).bs.flatMap encB) g bb ∧ Mem w0 w' No [(g, bb)] := by
  have hb := Pl.chAt_ok hc hk
  have hcn := Pl.chCount_nonneg (s := s) hc
  have hkk := Pl.ccheck_ok hc
  have hcd : Pl.chAt c s k = Pl.cpartD c (c.to + Pl.chIx c s k * s) (min s (Pl.clen c - Pl.chIx c s k * s)) := rfl
  refine C_of Try.func52 rfl rfl rfl fun κ hret hnorm => ?_
  have hm := Mem.start w0
  refine HW_seq rfl ?_
  refine HW_text (.act 0 (.act 1 .done)) (by kernel_rfl) ?_
  refine a_box rfl rfl rfl rfl hm trivial fun m1 w hg_m1 hm hh => ?_
  refine a_alloc rfl rfl z34 hm trivial fun m2 w hg_m2 hm hh => ?_
  refine rw_done ?_
  refine gn_sq ?_
  refine HW_seq rfl ?_
  refine HW_seq rfl ?_
  refine HW_text (.pure 0 (.act 1 .done)) (by kernel_rfl) ?_
  refine rw_p rfl rfl (y_loadA (s := 5) (vs := [_, _, _, _, _]) rfl ag34 (hm.nt 1 rfl) rfl) ?_
  refine a_call rfl rfl rfl go59 (r17_down c p cap _ hc) fun v w hR => ?_
  obtain ⟨rfl, hE⟩ := hR
  refine ⟨trivial, ?_⟩
  replace hm := hm.ext hE
  refine rw_done ?_
  refine gn_sq ?_
  refine HW_cond rfl rfl (fun hc0 => ?_) (fun hc0 => ?_)
  ·
    have hix : Pl.chIx c s k = Pl.chCount c s - 1 - k := by simp [Pl.chIx, hc0]
    obtain ⟨ix, hxx⟩ : ∃ ix : Nat, Pl.chIx c s k = ix := ⟨(Pl.chIx c s k).toNat, by omega⟩
    rw [hxx] at hb hcd
    refine HW_text (.pure 0 (.pure 1 (.act 2 (.pure 3 (.pure 4 (.pure 5 (.pure 6 .done))))))) (by kernel_rfl) ?_
    refine rw_p rfl rfl (y_loadA (s := 5) (vs := [_, _, _, _, _]) rfl ag34 (hm.nt 1 rfl) rfl) ?_
    refine rw_p rfl rfl (y_move rfl) ?_
    refine a_call rfl rfl rfl go28 (r17_count c p cap s _ hc hs) fun v w hR => ?_
    obtain ⟨rfl, hE⟩ := hR
    refine ⟨trivial, ?_⟩
    replace hm := hm.ext hE
    refine rw_p rfl rfl (y_sub rfl rfl (i64w (by omega) (by omega))) ?_
    refine rw_p rfl rfl (y_move rfl) ?_
    refine rw_p rfl rfl (y_sub rfl rfl (i64w (by omega) (by omega))) ?_
    refine rw_p rfl rfl (y_assign rfl) ?_
    refine rw_done ?_
    refine gn_sq ?_
    refine HW_seq rfl ?_
    refine HW_draw (.pure 0 (.pure 1 (.pure 3 (.pure 4 (.act 2 (.act 5 (.cut (.act 6 (.act 7 .done))))))))) No mix (by kernel_rfl) hm fun w hw hm0 hh => ?_
    have hm := hm0
    refine rw_p rfl rfl (y_loadA (s := 5) (vs := [_, _, _, _, _]) rfl ag34 (hm0.nd 1 rfl id) rfl) ?_
    refine rw_p rfl rfl (y_loadA (s := 5) (vs := [_, _, _, _, _]) rfl ag34 (hm0.nd 1 rfl id) rfl) ?_
    refine rw_p rfl rfl (y_move rfl) ?_
    refine rw_p rfl rfl (y_v (y_move rfl) (show _ = Value.int .i64 (ix : Int) by rw [← hxx, hix])) ?_
    refine a_call rfl rfl rfl go34 (r4_target _ _ _ _) fun v w hR => ?_
    obtain ⟨rfl, hE⟩ := hR
    refine ⟨hh.ext hE, ?_⟩
    replace hm := hm.ext hE
    replace hh := hh.ext hE
    refine a_call rfl rfl rfl go61 (r1_piece c.to (Pl.clen c) s ix _ (by omega) (by omega) (by omega)) fun v w hR => ?_
    obtain ⟨rfl, hE⟩ := hR
    refine ⟨hh.ext hE, ?_⟩
    replace hm := hm.ext hE
    replace hh := hh.ext hE
    refine a_cut ?_
    refine a_call rfl rfl rfl go60 (r4_part c p cap _ _ _ hc (hr.ext0 hm.to) hle hsp hl hb.2.2.2.2.2) fun v w hR => ?_
    obtain ⟨p_s, n_s, cap_s, g_s, b_s, rfl, ha_s, hmc⟩ := hR
    refine ⟨trivial, ?_⟩
    replace hm := hm.callN hmc
    obtain rfl := ha_s.lenB
    refine a_store rfl rfl rfl rfl sz34 rfl hm 1 rfl rfl fun w hm => ?_
    refine rw_done ?_
    refine gn_sq ?_
    refine HW_ret rfl ?_
    refine toR (fin hret rfl (.cell rfl (run_loadVar_a (vs := [_, _, _, _, _]) ag34 (hm.get (k := 1) rfl) rfl) .nil) .one ?_)
    exact ⟨p_s, (Pl.chAt c s k).bs.length, cap_s, g_s, b_s, by rw [hcd]; rfl, by rw [hcd]; exact ha_s, (hm.pick [0] rfl)⟩
  ·
    have hix : Pl.chIx c s k = k := by simp [Pl.chIx, hc0]
    obtain ⟨ix, hxx⟩ : ∃ ix : Nat, Pl.chIx c s k = ix := ⟨(Pl.chIx c s k).toNat, by omega⟩
    rw [hxx] at hb hcd
    refine HW_skip rfl ?_
    refine gn_sq ?_
    refine HW_seq rfl ?_
    refine HW_draw (.pure 0 (.pure 1 (.pure 3 (.pure 4 (.act 2 (.act 5 (.cut (.act 6 (.act 7 .done))))))))) No mix (by kernel_rfl) hm fun w hw hm0 hh => ?_
    have hm := hm0
    refine rw_p rfl rfl (y_loadA (s := 5) (vs := [_, _, _, _, _]) rfl ag34 (hm0.nd 1 rfl id) rfl) ?_
    refine rw_p rfl rfl (y_loadA (s := 5) (vs := [_, _, _, _, _]) rfl ag34 (hm0.nd 1 rfl id) rfl) ?_
    refine rw_p rfl rfl (y_move rfl) ?_
    refine rw_p rfl rfl (y_v (y_move rfl) (show _ = Value.int .i64 (ix : Int) by rw [← hxx, hix])) ?_
    refine a_call rfl rfl rfl go34 (r4_target _ _ _ _) fun v w hR => ?_
    obtain ⟨rfl, hE⟩ := hR
    refine ⟨hh.ext hE, ?_⟩
    replace hm := hm.ext hE
    replace hh := hh.ext hE
    refine a_call rfl rfl rfl go61 (r1_piece c.to (Pl.clen c) s ix _ (by omega) (by omega) (by omega)) fun v w hR => ?_
    obtain ⟨rfl, hE⟩ := hR
    refine ⟨hh.ext hE, ?_⟩
    replace hm := hm.ext hE
    replace hh := hh.ext hE
    refine a_cut ?_
    refine a_call rfl rfl rfl go60 (r4_part c p cap _ _ _ hc (hr.ext0 hm.to) hle hsp hl hb.2.2.2.2.2) fun v w hR => ?_
    obtain ⟨p_s, n_s, cap_s, g_s, b_s, rfl, ha_s, hmc⟩ := hR
    refine ⟨trivial, ?_⟩
    replace hm := hm.callN hmc
    obtain rfl := ha_s.lenB
    refine a_store rfl rfl rfl rfl sz34 rfl hm 1 rfl rfl fun w hm => ?_
    refine rw_done ?_
    refine gn_sq ?_
    refine HW_ret rfl ?_
    refine toR (fin hret rfl (.cell rfl (run_loadVar_a (vs := [_, _, _, _, _]) ag34 (hm.get (k := 1) rfl) rfl) .nil) .one ?_)
    exact ⟨p_s, (Pl.chAt c s k).bs.length, cap_s, g_s, b_s, by rw [hcd]; rfl, by rw [hcd]; exact ha_s, (hm.pick [0] rfl)⟩

end Go.Proofs.Ytpandemmaoeioaa
