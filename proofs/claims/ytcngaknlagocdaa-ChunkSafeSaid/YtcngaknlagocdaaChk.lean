/- Contracts of functions of the program: what each returns. Conditions: the hypotheses of each theorem. -/
import Derived.Test.YtcngaknlagocdaaCmdB
set_option linter.unusedVariables false
set_option linter.unusedSimpArgs false
namespace Go.Proofs.Ytcngaknlagocdaa
open Go Go.Cx

theorem go37 : isGo Try.prog 37 = true := by kernel_rfl
theorem go38 : isGo Try.prog 38 = true := by kernel_rfl
theorem go63 : isGo Try.prog 63 = true := by kernel_rfl
theorem sc4 : scal Try.prog 4 = true := by kernel_rfl
theorem go14 : isGo Try.prog 14 = true := by kernel_rfl
theorem go15 : isGo Try.prog 15 = true := by kernel_rfl
theorem sz3 : szO Try.prog 3 = some 1 := by kernel_rfl
theorem sz4 : szO Try.prog 4 = some 1 := by kernel_rfl
theorem z3 : zer Try.prog 3 = some [.int .i64 0] := by kernel_rfl
theorem z4 : zer Try.prog 4 = some [.bool false] := by kernel_rfl
theorem go43 : isGo Try.prog 43 = true := by kernel_rfl
theorem go62 : isGo Try.prog 62 = true := by kernel_rfl
theorem go16 : isGo Try.prog 16 = true := by kernel_rfl
theorem go19 : isGo Try.prog 19 = true := by kernel_rfl
theorem go44 : isGo Try.prog 44 = true := by kernel_rfl
theorem go45 : isGo Try.prog 45 = true := by kernel_rfl
theorem go23 : isGo Try.prog 23 = true := by kernel_rfl
theorem sl27 : slcO Try.prog 27 = some (24, 5, 56) := by kernel_rfl
theorem go24 : isGo Try.prog 24 = true := by kernel_rfl
theorem go13 : isGo Try.prog 13 = true := by kernel_rfl
theorem go42 : isGo Try.prog 42 = true := by kernel_rfl
theorem go61 : isGo Try.prog 61 = true := by kernel_rfl
theorem sc27 : scal Try.prog 27 = true := by kernel_rfl
theorem sz27 : szO Try.prog 27 = some 1 := by kernel_rfl
theorem z27 : zer Try.prog 27 = some [.slice none 0 0] := by kernel_rfl
theorem go20 : isGo Try.prog 20 = true := by kernel_rfl

theorem ch_count (c : Pl.Cm) (p : Option Addr) (cap : Nat) (s : Int) (w0 : World) (hc : Pl.ccheck c = 0) (hs : Pl.I64 s)  : C Try.prog 14 [.agg ⟨cmV c p c.bs.length cap⟩, .int .i64 s] w0 fun v w' => v = .int .i64 (Pl.chCount c s) ∧ Ext No w0 w' := by
  have hk := Pl.ccheck_ok hc
  refine C_of Try.func14 rfl rfl rfl fun κ hret hnorm => ?_
  have hm := Mem.start w0
  refine HW_seq rfl ?_
  refine HW_text (.act 0 (.pure 1 .done)) (by kernel_rfl) ?_
  refine a_box rfl rfl rfl rfl hm trivial fun m1 w hg_m1 hm hh => ?_
  refine rw_p rfl rfl (y_assign rfl) ?_
  refine rw_done ?_
  refine gn_sq ?_
  refine HW_seq rfl ?_
  refine HW_seq rfl ?_
  refine HW_text (.pure 0 (.pure 1 .done)) (by kernel_rfl) ?_
  refine rw_p rfl rfl (y_move rfl) ?_
  refine rw_p rfl rfl (y_lt rfl rfl) ?_
  refine rw_done ?_
  refine gn_sq ?_
  refine HW_cond rfl rfl (fun hc0 => ?_) (fun hc0 => ?_)
  ·
    simp only [Bool.and_eq_true, Bool.or_eq_true, Bool.and_eq_false_iff, Bool.or_eq_false_iff, Bool.not_eq_true', Bool.not_eq_false', decide_eq_true_eq, decide_eq_false_iff_not] at hc0
    refine HW_seq rfl ?_
    refine HW_text (.pure 0 .done) (by kernel_rfl) ?_
    refine rw_p rfl rfl (y_assign rfl) ?_
    refine rw_done ?_
    refine gn_sq ?_
    refine HW_ret rfl ?_
    refine gr_sq ?_
    refine toR (fin hret rfl (.tmp rfl .nil) .one ?_)
    exact ⟨by unfold Pl.chCount; rw [if_pos hc0], hm.to⟩
  ·
    simp only [Bool.and_eq_true, Bool.or_eq_true, Bool.and_eq_false_iff, Bool.or_eq_false_iff, Bool.not_eq_true', Bool.not_eq_false', decide_eq_true_eq, decide_eq_false_iff_not] at hc0
    refine HW_skip rfl ?_
    refine gn_sq ?_
    refine HW_seq rfl ?_
    refine HW_text (.pure 0 (.act 1 (.pure 2 (.pure 3 (.pure 4 (.pure 5 (.pure 6 (.pure 7 .done)))))))) (by kernel_rfl) ?_
    refine rw_p rfl rfl (y_loadA (s := 5) (vs := [_, _, _, _, _]) rfl ag24 (hm.nt 0 rfl) rfl) ?_
    refine a_call rfl rfl rfl go36 (c_target _ _ _ _) fun v w hR => ?_
    obtain ⟨rfl, hE⟩ := hR
    refine ⟨trivial, ?_⟩
    replace hm := hm.ext hE
    refine rw_p rfl rfl (y_fieldV rfl fv61_1 rfl) ?_
    refine rw_p rfl rfl (y_sub rfl rfl (i64w (by omega) (by omega))) ?_
    refine rw_p rfl rfl (y_move rfl) ?_
    refine rw_p rfl rfl (y_quo rfl rfl (by omega) (tdivw (by omega) (by omega) (by omega))) ?_
    refine rw_p rfl rfl (y_add rfl rfl (i64w (by have := Pl.chCount_pos hc (s := s) (by omega); omega) (by have := Pl.chCount_pos hc (s := s) (by omega); omega))) ?_
    refine rw_p rfl rfl (y_assign rfl) ?_
    refine rw_done ?_
    refine gn_sq ?_
    refine HW_ret rfl ?_
    refine toR (fin hret rfl (.tmp rfl .nil) .one ?_)
    exact ⟨by unfold Pl.chCount; rw [if_neg hc0], hm.to⟩

theorem r17_count (c : Pl.Cm) (p : Option Addr) (cap : Nat) (s : Int) (w0 : World) (hc : Pl.ccheck c = 0) (hs : Pl.I64 s)  : C Try.prog 19 [.agg ⟨cmV c p c.bs.length cap⟩, .int .i64 s] w0 fun v w' => v = .int .i64 (Pl.chCount c s) ∧ Ext No w0 w' := by
  have hk := Pl.ccheck_ok hc
  refine C_of Try.func19 rfl rfl rfl fun κ hret hnorm => ?_
  have hm := Mem.start w0
  refine HW_seq rfl ?_
  refine HW_text (.act 0 (.pure 1 .done)) (by kernel_rfl) ?_
  refine a_box rfl rfl rfl rfl hm trivial fun m1 w hg_m1 hm hh => ?_
  refine rw_p rfl rfl (y_assign rfl) ?_
  refine rw_done ?_
  refine gn_sq ?_
  refine HW_seq rfl ?_
  refine HW_seq rfl ?_
  refine HW_text (.pure 0 (.pure 1 .done)) (by kernel_rfl) ?_
  refine rw_p rfl rfl (y_move rfl) ?_
  refine rw_p rfl rfl (y_lt rfl rfl) ?_
  refine rw_done ?_
  refine gn_sq ?_
  refine HW_cond rfl rfl (fun hc0 => ?_) (fun hc0 => ?_)
  ·
    simp only [Bool.and_eq_true, Bool.or_eq_true, Bool.and_eq_false_iff, Bool.or_eq_false_iff, Bool.not_eq_true', Bool.not_eq_false', decide_eq_true_eq, decide_eq_false_iff_not] at hc0
    refine HW_seq rfl ?_
    refine HW_text (.pure 0 .done) (by kernel_rfl) ?_
    refine rw_p rfl rfl (y_assign rfl) ?_
    refine rw_done ?_
    refine gn_sq ?_
    refine HW_ret rfl ?_
    refine gr_sq ?_
    refine toR (fin hret rfl (.tmp rfl .nil) .one ?_)
    exact ⟨by unfold Pl.chCount; rw [if_pos hc0], hm.to⟩
  ·
    simp only [Bool.and_eq_true, Bool.or_eq_true, Bool.and_eq_false_iff, Bool.or_eq_false_iff, Bool.not_eq_true', Bool.not_eq_false', decide_eq_true_eq, decide_eq_false_iff_not] at hc0
    refine HW_skip rfl ?_
    refine gn_sq ?_
    refine HW_seq rfl ?_
    refine HW_text (.pure 0 (.act 1 (.pure 2 (.pure 3 (.pure 4 (.pure 5 (.pure 6 .done))))))) (by kernel_rfl) ?_
    refine rw_p rfl rfl (y_loadA (s := 5) (vs := [_, _, _, _, _]) rfl ag24 (hm.nt 0 rfl) rfl) ?_
    refine a_call rfl rfl rfl go18 (r4_len _ _ _ _) fun v w hR => ?_
    obtain ⟨rfl, hE⟩ := hR
    refine ⟨trivial, ?_⟩
    replace hm := hm.ext hE
    refine rw_p rfl rfl (y_sub rfl rfl (i64w (by omega) (by omega))) ?_
    refine rw_p rfl rfl (y_move rfl) ?_
    refine rw_p rfl rfl (y_quo rfl rfl (by omega) (tdivw (by omega) (by omega) (by omega))) ?_
    refine rw_p rfl rfl (y_add rfl rfl (i64w (by have := Pl.chCount_pos hc (s := s) (by omega); omega) (by have := Pl.chCount_pos hc (s := s) (by omega); omega))) ?_
    refine rw_p rfl rfl (y_assign rfl) ?_
    refine rw_done ?_
    refine gn_sq ?_
    refine HW_ret rfl ?_
    refine toR (fin hret rfl (.tmp rfl .nil) .one ?_)
    exact ⟨by unfold Pl.chCount; rw [if_neg hc0], hm.to⟩

theorem ch_down (c : Pl.Cm) (p : Option Addr) (cap : Nat) (w0 : World) (hc : Pl.ccheck c = 0) : C Try.prog 15 [.agg ⟨cmV c p c.bs.length cap⟩] w0 fun v w' => v = .bool (Pl.cdown c) ∧ Ext No w0 w' := by
  refine C_of Try.func15 rfl rfl rfl fun κ hret hnorm => ?_
  have hm := Mem.start w0
  refine HW_seq rfl ?_
  refine HW_text (.act 0 (.pure 1 .done)) (by kernel_rfl) ?_
  refine a_box rfl rfl rfl rfl hm trivial fun m1 w hg_m1 hm hh => ?_
  refine rw_p rfl rfl (y_assign rfl) ?_
  refine rw_done ?_
  refine gn_sq ?_
  refine HW_seq rfl ?_
  refine HW_text (.pure 0 (.act 1 (.pure 2 (.pure 3 (.pure 4 (.pure 5 (.pure 6 (.pure 7 (.pure 8 (.pure 9 .done)))))))))) (by kernel_rfl) ?_
  refine rw_p rfl rfl (y_loadA (s := 5) (vs := [_, _, _, _, _]) rfl ag24 (hm.nt 0 rfl) rfl) ?_
  refine a_call rfl rfl rfl go37 (c_overlaps c p cap _ hc) fun v w hR => ?_
  obtain ⟨rfl, hE⟩ := hR
  refine ⟨trivial, ?_⟩
  replace hm := hm.ext hE
  refine rw_p rfl rfl (y_move rfl) ?_
  refine rw_g rfl rfl rfl (fun hc => (y_fieldAddr rfl fo24_1)) ?_
  refine rw_g rfl rfl rfl (fun hc => (y_load (gx hc rfl) sc3 (hm.nt 0 rfl) rfl)) ?_
  refine rw_g rfl rfl rfl (fun hc => (y_fieldAddr rfl fo24_2)) ?_
  refine rw_g rfl rfl rfl (fun hc => (y_load (gx hc rfl) sc3 (hm.nt 0 rfl) rfl)) ?_
  refine rw_g rfl rfl rfl (fun hc => (y_gt (gx hc rfl) (gx hc rfl))) ?_
  refine rw_p rfl rfl (y_and rfl rfl rfl) ?_
  refine rw_p rfl rfl (y_assign rfl) ?_
  refine rw_done ?_
  refine gn_sq ?_
  refine HW_ret rfl ?_
  refine toR (fin hret rfl (.tmp rfl .nil) .one ?_)
  exact ⟨rfl, hm.to⟩

theorem r17_down (c : Pl.Cm) (p : Option Addr) (cap : Nat) (w0 : World) (hC : Pl.ccheck c = 0) : C Try.prog 16 [.agg ⟨cmV c p c.bs.length cap⟩] w0 fun v w' => v = .bool (Pl.cdown c) ∧ Ext No w0 w' := by
  refine C_of Try.func16 rfl rfl rfl fun κ hret hnorm => ?_
  have hm := Mem.start w0
  refine HW_seq rfl ?_
  refine HW_text (.act 0 (.pure 1 .done)) (by kernel_rfl) ?_
  refine a_box rfl rfl rfl rfl hm trivial fun m1 w hg_m1 hm hh => ?_
  refine rw_p rfl rfl (y_assign rfl) ?_
  refine rw_done ?_
  refine gn_sq ?_
  refine HW_seq rfl ?_
  refine HW_text (.pure 0 (.pure 1 (.pure 2 (.pure 3 (.pure 4 (.pure 5 (.pure 6 (.pure 7 (.pure 8 (.pure 9 (.pure 10 (.pure 11 (.act 12 (.pure 13 (.pure 14 .done))))))))))))))) (by kernel_rfl) ?_
  refine rw_p rfl rfl (y_fieldAddr rfl fo24_0) ?_
  refine rw_p rfl rfl (y_load rfl sc3 (hm.nt 0 rfl) rfl) ?_
  refine rw_p rfl rfl (y_eq rfl rfl) ?_
  refine rw_p rfl rfl (y_move rfl) ?_
  refine rw_g rfl rfl rfl (fun hc => (y_fieldAddr rfl fo24_1)) ?_
  refine rw_g rfl rfl rfl (fun hc => (y_load (gx hc rfl) sc3 (hm.nt 0 rfl) rfl)) ?_
  refine rw_g rfl rfl rfl (fun hc => (y_fieldAddr rfl fo24_2)) ?_
  refine rw_g rfl rfl rfl (fun hc => (y_load (gx hc rfl) sc3 (hm.nt 0 rfl) rfl)) ?_
  refine rw_g rfl rfl rfl (fun hc => (y_gt (gx hc rfl) (gx hc rfl))) ?_
  refine rw_p rfl rfl (y_and rfl rfl rfl) ?_
  refine rw_p rfl rfl (y_move rfl) ?_
  refine rw_g rfl rfl rfl (fun hc => (y_loadA (s := 5) (vs := [_, _, _, _, _]) rfl ag24 (hm.nt 0 rfl) rfl)) ?_
  refine a_callG rfl rfl rfl (fun hc => (evs_c (gx hc rfl) evs_n)) go38 (fun hc => (r4_overlaps c p cap _ hC)) trivial fun w hE hh => ?_
  replace hm := hm.ext hE
  refine rw_p rfl rfl (y_and rfl rfl rfl) ?_
  refine rw_p rfl rfl (y_assign rfl) ?_
  refine rw_done ?_
  refine gn_sq ?_
  refine HW_ret rfl ?_
  refine toR (fin hret rfl (.tmp rfl .nil) .one ?_)
  exact ⟨congrArg Value.bool (by clear hret hnorm hm; unfold Pl.cdown Pl.covl; rw [Bool.eq_iff_iff]; simp only [Bool.and_eq_true, decide_eq_true_eq]; grind), hm.to⟩

set_option maxHeartbeats 800000 in
theorem ch_piece1 (c : Pl.Cm) (p : Option Addr) (cap : Nat) (s k : Int) (m1 m2 m3 m4 m5 : Nat) (w0 : World) (h1 : w0.heap[m1]? = some (Blk.row 4 [.bool (Pl.cdown c)]).toObj) (h2 : w0.heap[m2]? = some (Blk.row 3 [.int .i64 (Pl.chCount c s)]).toObj) (h3 : w0.heap[m3]? = some (Blk.row 24 (cmV c p c.bs.length cap)).toObj) (h4 : w0.heap[m4]? = some (Blk.row 61 [.int .i64 c.to, .int .i64 (Pl.clen c)]).toObj) (h5 : w0.heap[m5]? = some (Blk.row 3 [.int .i64 s]).toObj) (hc : Pl.ccheck c = 0) (hr : Rd w0 p (c.bs.flatMap encB)) (hle : c.bs.length ≤ cap) (hsp : cap ≠ 0 → ∀ ad, p = some ad → ad.spot = none) (hl : c.bs.length ≤ 140737488355328) (hs : Pl.I64 s) (hk : 0 ≤ k ∧ k < Pl.chCount c s) : C Try.prog 62 [.int .i64 k, .pointer (some ⟨m1, 0, none⟩), .pointer (some ⟨m2, 0, none⟩), .pointer (some ⟨m3, 0, none⟩), .pointer (some ⟨m4, 0, none⟩), .pointer (some ⟨m5, 0, none⟩)] w0 fun v w' => ∃ p n cap g bb, v = .agg ⟨cmV (Pl.chAt c s k) p n cap⟩ ∧ Acc 5 1 p n cap ((Pl.chAt c s k).bs.flatMap encB) g bb ∧ Mem w0 w' No [(g, bb)] := by
  have hb := Pl.chAt_ok hc hk
  have hcn := Pl.chCount_nonneg (s := s) hc
  have hkk := Pl.ccheck_ok hc
  have hcd : Pl.chAt c s k = Pl.cpartD c (c.to + Pl.chIx c s k * s) (min s (Pl.clen c - Pl.chIx c s k * s)) := rfl
  refine C_of Try.func62 rfl rfl rfl fun κ hret hnorm => ?_
  have hm := Mem.start w0
  refine HW_seq rfl ?_
  refine HW_text (.act 0 .done) (by kernel_rfl) ?_
  refine a_alloc rfl rfl z24 hm trivial fun m1 w hg_m1 hm hh => ?_
  refine rw_done ?_
  refine gn_sq ?_
  refine HW_seq rfl ?_
  refine HW_seq rfl ?_
  refine HW_text (.pure 0 .done) (by kernel_rfl) ?_
  refine rw_p rfl rfl (y_load rfl sc4 (nowT ((hm.to.same _ (Array.getElem?_eq_some_iff.1 h1).1 id).trans h1)) rfl) ?_
  refine rw_done ?_
  refine gn_sq ?_
  refine HW_cond rfl rfl (fun hc0 => ?_) (fun hc0 => ?_)
  ·
    have hix : Pl.chIx c s k = Pl.chCount c s - 1 - k := by simp [Pl.chIx, hc0]
    rw [hix] at hb hcd
    refine HW_text (.pure 0 (.pure 1 (.pure 2 (.pure 3 (.pure 4 .done))))) (by kernel_rfl) ?_
    refine rw_p rfl rfl (y_load rfl sc3 (nowT ((hm.to.same _ (Array.getElem?_eq_some_iff.1 h2).1 id).trans h2)) rfl) ?_
    refine rw_p rfl rfl (y_sub rfl rfl (i64w (by omega) (by omega))) ?_
    refine rw_p rfl rfl (y_move rfl) ?_
    refine rw_p rfl rfl (y_sub rfl rfl (i64w (by omega) (by omega))) ?_
    refine rw_p rfl rfl (y_assign rfl) ?_
    refine rw_done ?_
    refine gn_sq ?_
    refine HW_seq rfl ?_
    refine HW_draw (.pure 0 (.pure 1 (.pure 2 (.pure 3 (.pure 4 (.pure 5 (.pure 6 (.pure 7 (.pure 8 (.pure 10 (.pure 11 (.pure 13 (.pure 14 (.pure 15 (.act2 9 (.pure 12 (.pure 16 (.pure 17 (.pure 18 (.act2 19 (.pure 20 (.pure 21 (.pure 22 (.act 23 (.act 24 (.pure 25 .done)))))) 23 (.act 19 (.pure 20 (.pure 21 (.pure 22 (.act 24 (.pure 25 .done))))))))))) 23 (.act 9 (.pure 12 (.pure 16 (.pure 17 (.pure 18 (.act 19 (.pure 20 (.pure 21 (.pure 22 (.act 24 (.pure 25 .done)))))))))))))))))))))))))) No mix (by kernel_rfl) hm fun w hw hm0 hh => ?_
    have hm := hm0
    refine rw_p rfl rfl (y_loadA (s := 5) (vs := [_, _, _, _, _]) rfl ag24 (fun u hu => ((hm0.to.trans hu).same _ (Array.getElem?_eq_some_iff.1 h3).1 id).trans h3) rfl) ?_
    refine rw_p rfl rfl (y_fieldAddr rfl fo61_0) ?_
    refine rw_p rfl rfl (y_load rfl sc3 (fun u hu => ((hm0.to.trans hu).same _ (Array.getElem?_eq_some_iff.1 h4).1 id).trans h4) rfl) ?_
    refine rw_p rfl rfl (y_move rfl) ?_
    refine rw_p rfl rfl (y_load rfl sc3 (fun u hu => ((hm0.to.trans hu).same _ (Array.getElem?_eq_some_iff.1 h5).1 id).trans h5) rfl) ?_
    refine rw_p rfl rfl (y_mul rfl rfl (i64w (by omega) (by omega))) ?_
    refine rw_p rfl rfl (y_add rfl rfl (i64w (by omega) (by omega))) ?_
    refine rw_p rfl rfl (y_load rfl sc3 (fun u hu => ((hm0.to.trans hu).same _ (Array.getElem?_eq_some_iff.1 h5).1 id).trans h5) rfl) ?_
    refine rw_p rfl rfl (y_loadA (s := 2) (vs := [_, _]) rfl ag61 (fun u hu => ((hm0.to.trans hu).same _ (Array.getElem?_eq_some_iff.1 h4).1 id).trans h4) rfl) ?_
    refine rw_p rfl rfl (y_fieldAddr rfl fo61_0) ?_
    refine rw_p rfl rfl (y_load rfl sc3 (fun u hu => ((hm0.to.trans hu).same _ (Array.getElem?_eq_some_iff.1 h4).1 id).trans h4) rfl) ?_
    refine rw_p rfl rfl (y_move rfl) ?_
    refine rw_p rfl rfl (y_load rfl sc3 (fun u hu => ((hm0.to.trans hu).same _ (Array.getElem?_eq_some_iff.1 h5).1 id).trans h5) rfl) ?_
    refine rw_p rfl rfl (y_mul rfl rfl (i64w (by omega) (by omega))) ?_
    refine a_two ?_ ?_
    ·
      refine a_call rfl rfl rfl go54 (ext_end _ _ _ (by omega)) fun v w hR => ?_
      obtain ⟨rfl, hE⟩ := hR
      refine ⟨hh.ext hE, ?_⟩
      replace hm := hm.ext hE
      replace hh := hh.ext hE
      refine rw_p rfl rfl (y_sub rfl rfl ((i64w (by omega) (by omega)).trans (by omega : c.to + Pl.clen c - c.to = Pl.clen c))) ?_
      refine rw_p rfl rfl (y_sub rfl rfl (i64w (by omega) (by omega))) ?_
      refine rw_p rfl rfl (y_min rfl rfl) ?_
      refine rw_p rfl rfl (y_build (cs := [_, _]) z61 ft61 rfl rfl rfl rfl rfl) ?_
      refine a_two ?_ ?_
      ·
        refine a_call rfl rfl rfl go63 (c_part c p cap _ _ _ hc (hr.ext0 hm.to) hle hsp hl (by omega)) fun v w hR => ?_
        obtain ⟨p_s, n_s, cap_s, g_s, b_s, rfl, ha_s, hmc⟩ := hR
        refine ⟨hh.ext hmc.to, ?_⟩
        replace hh := hh.ext hmc.to
        replace hm := hm.callN hmc
        obtain rfl := ha_s.lenB
        refine rw_p rfl rfl (y_move rfl) ?_
        refine rw_p rfl rfl (y_extract rfl rfl) ?_
        refine rw_p rfl rfl (y_extract rfl rfl) ?_
        refine a_alloc rfl rfl z24 hm hh fun m2 w hg_m2 hm hh => ?_
        refine a_storeN rfl rfl rfl rfl sz24 rfl hm 0 rfl rfl hh (.inl hg_m2) fun w hm hh => ?_
        refine rw_p rfl rfl (y_assign rfl) ?_
        refine rw_done ?_
        refine gn_sq ?_
        refine HW_seq rfl ?_
        refine HW_text (.pure 0 (.act 1 .done)) (by kernel_rfl) ?_
        refine rw_p rfl rfl (y_loadA (s := 5) (vs := [_, _, _, _, _]) rfl ag24 (hm.nt 0 rfl) rfl) ?_
        refine a_store rfl rfl rfl rfl sz24 rfl hm 2 rfl rfl fun w hm => ?_
        refine rw_done ?_
        refine gn_sq ?_
        refine HW_ret rfl ?_
        refine toR (fin hret rfl (.cell rfl (run_loadVar_a (vs := [_, _, _, _, _]) ag24 (hm.get (k := 2) rfl) rfl) .nil) .one ?_)
        exact ⟨p_s, (Pl.chAt c s k).bs.length, cap_s, g_s, b_s, by rw [hcd]; rfl, by rw [hcd]; exact ha_s, (hm.pick [1] rfl)⟩
      ·
        refine a_alloc rfl rfl z24 hm hh fun m2 w hg_m2 hm hh => ?_
        refine a_call rfl rfl rfl go63 (c_part c p cap _ _ _ hc (hr.ext0 hm.to) hle hsp hl (by omega)) fun v w hR => ?_
        obtain ⟨p_s, n_s, cap_s, g_s, b_s, rfl, ha_s, hmc⟩ := hR
        refine ⟨hh.ext hmc.to, ?_⟩
        replace hh := hh.ext hmc.to
        replace hm := hm.callN hmc
        obtain rfl := ha_s.lenB
        refine rw_p rfl rfl (y_move rfl) ?_
        refine rw_p rfl rfl (y_extract rfl rfl) ?_
        refine rw_p rfl rfl (y_extract rfl rfl) ?_
        refine a_storeN rfl rfl rfl rfl sz24 rfl hm 1 rfl rfl hh (.inl hg_m2) fun w hm hh => ?_
        refine rw_p rfl rfl (y_assign rfl) ?_
        refine rw_done ?_
        refine gn_sq ?_
        refine HW_seq rfl ?_
        refine HW_text (.pure 0 (.act 1 .done)) (by kernel_rfl) ?_
        refine rw_p rfl rfl (y_loadA (s := 5) (vs := [_, _, _, _, _]) rfl ag24 (hm.nt 1 rfl) rfl) ?_
        refine a_store rfl rfl rfl rfl sz24 rfl hm 2 rfl rfl fun w hm => ?_
        refine rw_done ?_
        refine gn_sq ?_
        refine HW_ret rfl ?_
        refine toR (fin hret rfl (.cell rfl (run_loadVar_a (vs := [_, _, _, _, _]) ag24 (hm.get (k := 2) rfl) rfl) .nil) .one ?_)
        exact ⟨p_s, (Pl.chAt c s k).bs.length, cap_s, g_s, b_s, by rw [hcd]; rfl, by rw [hcd]; exact ha_s, (hm.pick [0] rfl)⟩
    ·
      refine a_alloc rfl rfl z24 hm hh fun m2 w hg_m2 hm hh => ?_
      refine a_call rfl rfl rfl go54 (ext_end _ _ _ (by omega)) fun v w hR => ?_
      obtain ⟨rfl, hE⟩ := hR
      refine ⟨hh.ext hE, ?_⟩
      replace hm := hm.ext hE
      replace hh := hh.ext hE
      refine rw_p rfl rfl (y_sub rfl rfl ((i64w (by omega) (by omega)).trans (by omega : c.to + Pl.clen c - c.to = Pl.clen c))) ?_
      refine rw_p rfl rfl (y_sub rfl rfl (i64w (by omega) (by omega))) ?_
      refine rw_p rfl rfl (y_min rfl rfl) ?_
      refine rw_p rfl rfl (y_build (cs := [_, _]) z61 ft61 rfl rfl rfl rfl rfl) ?_
      refine a_call rfl rfl rfl go63 (c_part c p cap _ _ _ hc (hr.ext0 hm.to) hle hsp hl (by omega)) fun v w hR => ?_
      obtain ⟨p_s, n_s, cap_s, g_s, b_s, rfl, ha_s, hmc⟩ := hR
      refine ⟨hh.ext hmc.to, ?_⟩
      replace hh := hh.ext hmc.to
      replace hm := hm.callN hmc
      obtain rfl := ha_s.lenB
      refine rw_p rfl rfl (y_move rfl) ?_
      refine rw_p rfl rfl (y_extract rfl rfl) ?_
      refine rw_p rfl rfl (y_extract rfl rfl) ?_
      refine a_storeN rfl rfl rfl rfl sz24 rfl hm 1 rfl rfl hh (.inl hg_m2) fun w hm hh => ?_
      refine rw_p rfl rfl (y_assign rfl) ?_
      refine rw_done ?_
      refine gn_sq ?_
      refine HW_seq rfl ?_
      refine HW_text (.pure 0 (.act 1 .done)) (by kernel_rfl) ?_
      refine rw_p rfl rfl (y_loadA (s := 5) (vs := [_, _, _, _, _]) rfl ag24 (hm.nt 1 rfl) rfl) ?_
      refine a_store rfl rfl rfl rfl sz24 rfl hm 2 rfl rfl fun w hm => ?_
      refine rw_done ?_
      refine gn_sq ?_
      refine HW_ret rfl ?_
      refine toR (fin hret rfl (.cell rfl (run_loadVar_a (vs := [_, _, _, _, _]) ag24 (hm.get (k := 2) rfl) rfl) .nil) .one ?_)
      exact ⟨p_s, (Pl.chAt c s k).bs.length, cap_s, g_s, b_s, by rw [hcd]; rfl, by rw [hcd]; exact ha_s, (hm.pick [0] rfl)⟩
  ·
    have hix : Pl.chIx c s k = k := by simp [Pl.chIx, hc0]
    rw [hix] at hb hcd
    refine HW_skip rfl ?_
    refine gn_sq ?_
    refine HW_seq rfl ?_
    refine HW_draw (.pure 0 (.pure 1 (.pure 2 (.pure 3 (.pure 4 (.pure 5 (.pure 6 (.pure 7 (.pure 8 (.pure 10 (.pure 11 (.pure 13 (.pure 14 (.pure 15 (.act2 9 (.pure 12 (.pure 16 (.pure 17 (.pure 18 (.act2 19 (.pure 20 (.pure 21 (.pure 22 (.act 23 (.act 24 (.pure 25 .done)))))) 23 (.act 19 (.pure 20 (.pure 21 (.pure 22 (.act 24 (.pure 25 .done))))))))))) 23 (.act 9 (.pure 12 (.pure 16 (.pure 17 (.pure 18 (.act 19 (.pure 20 (.pure 21 (.pure 22 (.act 24 (.pure 25 .done)))))))))))))))))))))))))) No mix (by kernel_rfl) hm fun w hw hm0 hh => ?_
    have hm := hm0
    refine rw_p rfl rfl (y_loadA (s := 5) (vs := [_, _, _, _, _]) rfl ag24 (fun u hu => ((hm0.to.trans hu).same _ (Array.getElem?_eq_some_iff.1 h3).1 id).trans h3) rfl) ?_
    refine rw_p rfl rfl (y_fieldAddr rfl fo61_0) ?_
    refine rw_p rfl rfl (y_load rfl sc3 (fun u hu => ((hm0.to.trans hu).same _ (Array.getElem?_eq_some_iff.1 h4).1 id).trans h4) rfl) ?_
    refine rw_p rfl rfl (y_move rfl) ?_
    refine rw_p rfl rfl (y_load rfl sc3 (fun u hu => ((hm0.to.trans hu).same _ (Array.getElem?_eq_some_iff.1 h5).1 id).trans h5) rfl) ?_
    refine rw_p rfl rfl (y_mul rfl rfl (i64w (by omega) (by omega))) ?_
    refine rw_p rfl rfl (y_add rfl rfl (i64w (by omega) (by omega))) ?_
    refine rw_p rfl rfl (y_load rfl sc3 (fun u hu => ((hm0.to.trans hu).same _ (Array.getElem?_eq_some_iff.1 h5).1 id).trans h5) rfl) ?_
    refine rw_p rfl rfl (y_loadA (s := 2) (vs := [_, _]) rfl ag61 (fun u hu => ((hm0.to.trans hu).same _ (Array.getElem?_eq_some_iff.1 h4).1 id).trans h4) rfl) ?_
    refine rw_p rfl rfl (y_fieldAddr rfl fo61_0) ?_
    refine rw_p rfl rfl (y_load rfl sc3 (fun u hu => ((hm0.to.trans hu).same _ (Array.getElem?_eq_some_iff.1 h4).1 id).trans h4) rfl) ?_
    refine rw_p rfl rfl (y_move rfl) ?_
    refine rw_p rfl rfl (y_load rfl sc3 (fun u hu => ((hm0.to.trans hu).same _ (Array.getElem?_eq_some_iff.1 h5).1 id).trans h5) rfl) ?_
    refine rw_p rfl rfl (y_mul rfl rfl (i64w (by omega) (by omega))) ?_
    refine a_two ?_ ?_
    ·
      refine a_call rfl rfl rfl go54 (ext_end _ _ _ (by omega)) fun v w hR => ?_
      obtain ⟨rfl, hE⟩ := hR
      refine ⟨hh.ext hE, ?_⟩
      replace hm := hm.ext hE
      replace hh := hh.ext hE
      refine rw_p rfl rfl (y_sub rfl rfl ((i64w (by omega) (by omega)).trans (by omega : c.to + Pl.clen c - c.to = Pl.clen c))) ?_
      refine rw_p rfl rfl (y_sub rfl rfl (i64w (by omega) (by omega))) ?_
      refine rw_p rfl rfl (y_min rfl rfl) ?_
      refine rw_p rfl rfl (y_build (cs := [_, _]) z61 ft61 rfl rfl rfl rfl rfl) ?_
      refine a_two ?_ ?_
      ·
        refine a_call rfl rfl rfl go63 (c_part c p cap _ _ _ hc (hr.ext0 hm.to) hle hsp hl (by omega)) fun v w hR => ?_
        obtain ⟨p_s, n_s, cap_s, g_s, b_s, rfl, ha_s, hmc⟩ := hR
        refine ⟨hh.ext hmc.to, ?_⟩
        replace hh := hh.ext hmc.to
        replace hm := hm.callN hmc
        obtain rfl := ha_s.lenB
        refine rw_p rfl rfl (y_move rfl) ?_
        refine rw_p rfl rfl (y_extract rfl rfl) ?_
        refine rw_p rfl rfl (y_extract rfl rfl) ?_
        refine a_alloc rfl rfl z24 hm hh fun m2 w hg_m2 hm hh => ?_
        refine a_storeN rfl rfl rfl rfl sz24 rfl hm 0 rfl rfl hh (.inl hg_m2) fun w hm hh => ?_
        refine rw_p rfl rfl (y_assign rfl) ?_
        refine rw_done ?_
        refine gn_sq ?_
        refine HW_seq rfl ?_
        refine HW_text (.pure 0 (.act 1 .done)) (by kernel_rfl) ?_
        refine rw_p rfl rfl (y_loadA (s := 5) (vs := [_, _, _, _, _]) rfl ag24 (hm.nt 0 rfl) rfl) ?_
        refine a_store rfl rfl rfl rfl sz24 rfl hm 2 rfl rfl fun w hm => ?_
        refine rw_done ?_
        refine gn_sq ?_
        refine HW_ret rfl ?_
        refine toR (fin hret rfl (.cell rfl (run_loadVar_a (vs := [_, _, _, _, _]) ag24 (hm.get (k := 2) rfl) rfl) .nil) .one ?_)
        exact ⟨p_s, (Pl.chAt c s k).bs.length, cap_s, g_s, b_s, by rw [hcd]; rfl, by rw [hcd]; exact ha_s, (hm.pick [1] rfl)⟩
      ·
        refine a_alloc rfl rfl z24 hm hh fun m2 w hg_m2 hm hh => ?_
        refine a_call rfl rfl rfl go63 (c_part c p cap _ _ _ hc (hr.ext0 hm.to) hle hsp hl (by omega)) fun v w hR => ?_
        obtain ⟨p_s, n_s, cap_s, g_s, b_s, rfl, ha_s, hmc⟩ := hR
        refine ⟨hh.ext hmc.to, ?_⟩
        replace hh := hh.ext hmc.to
        replace hm := hm.callN hmc
        obtain rfl := ha_s.lenB
        refine rw_p rfl rfl (y_move rfl) ?_
        refine rw_p rfl rfl (y_extract rfl rfl) ?_
        refine rw_p rfl rfl (y_extract rfl rfl) ?_
        refine a_storeN rfl rfl rfl rfl sz24 rfl hm 1 rfl rfl hh (.inl hg_m2) fun w hm hh => ?_
        refine rw_p rfl rfl (y_assign rfl) ?_
        refine rw_done ?_
        refine gn_sq ?_
        refine HW_seq rfl ?_
        refine HW_text (.pure 0 (.act 1 .done)) (by kernel_rfl) ?_
        refine rw_p rfl rfl (y_loadA (s := 5) (vs := [_, _, _, _, _]) rfl ag24 (hm.nt 1 rfl) rfl) ?_
        refine a_store rfl rfl rfl rfl sz24 rfl hm 2 rfl rfl fun w hm => ?_
        refine rw_done ?_
        refine gn_sq ?_
        refine HW_ret rfl ?_
        refine toR (fin hret rfl (.cell rfl (run_loadVar_a (vs := [_, _, _, _, _]) ag24 (hm.get (k := 2) rfl) rfl) .nil) .one ?_)
        exact ⟨p_s, (Pl.chAt c s k).bs.length, cap_s, g_s, b_s, by rw [hcd]; rfl, by rw [hcd]; exact ha_s, (hm.pick [0] rfl)⟩
    ·
      refine a_alloc rfl rfl z24 hm hh fun m2 w hg_m2 hm hh => ?_
      refine a_call rfl rfl rfl go54 (ext_end _ _ _ (by omega)) fun v w hR => ?_
      obtain ⟨rfl, hE⟩ := hR
      refine ⟨hh.ext hE, ?_⟩
      replace hm := hm.ext hE
      replace hh := hh.ext hE
      refine rw_p rfl rfl (y_sub rfl rfl ((i64w (by omega) (by omega)).trans (by omega : c.to + Pl.clen c - c.to = Pl.clen c))) ?_
      refine rw_p rfl rfl (y_sub rfl rfl (i64w (by omega) (by omega))) ?_
      refine rw_p rfl rfl (y_min rfl rfl) ?_
      refine rw_p rfl rfl (y_build (cs := [_, _]) z61 ft61 rfl rfl rfl rfl rfl) ?_
      refine a_call rfl rfl rfl go63 (c_part c p cap _ _ _ hc (hr.ext0 hm.to) hle hsp hl (by omega)) fun v w hR => ?_
      obtain ⟨p_s, n_s, cap_s, g_s, b_s, rfl, ha_s, hmc⟩ := hR
      refine ⟨hh.ext hmc.to, ?_⟩
      replace hh := hh.ext hmc.to
      replace hm := hm.callN hmc
      obtain rfl := ha_s.lenB
      refine rw_p rfl rfl (y_move rfl) ?_
      refine rw_p rfl rfl (y_extract rfl rfl) ?_
      refine rw_p rfl rfl (y_extract rfl rfl) ?_
      refine a_storeN rfl rfl rfl rfl sz24 rfl hm 1 rfl rfl hh (.inl hg_m2) fun w hm hh => ?_
      refine rw_p rfl rfl (y_assign rfl) ?_
      refine rw_done ?_
      refine gn_sq ?_
      refine HW_seq rfl ?_
      refine HW_text (.pure 0 (.act 1 .done)) (by kernel_rfl) ?_
      refine rw_p rfl rfl (y_loadA (s := 5) (vs := [_, _, _, _, _]) rfl ag24 (hm.nt 1 rfl) rfl) ?_
      refine a_store rfl rfl rfl rfl sz24 rfl hm 2 rfl rfl fun w hm => ?_
      refine rw_done ?_
      refine gn_sq ?_
      refine HW_ret rfl ?_
      refine toR (fin hret rfl (.cell rfl (run_loadVar_a (vs := [_, _, _, _, _]) ag24 (hm.get (k := 2) rfl) rfl) .nil) .one ?_)
      exact ⟨p_s, (Pl.chAt c s k).bs.length, cap_s, g_s, b_s, by rw [hcd]; rfl, by rw [hcd]; exact ha_s, (hm.pick [0] rfl)⟩

theorem ch_piece (c : Pl.Cm) (p : Option Addr) (cap : Nat) (s : Int) (w0 : World) (hc : Pl.ccheck c = 0) (hs : Pl.I64 s)  : C Try.prog 43 [.agg ⟨cmV c p c.bs.length cap⟩, .int .i64 s] w0 fun v w' => ∃ m1 m2 m3 m4 m5, v = .func (.func 62) #[] ⟨[.pointer (some ⟨m1, 0, none⟩), .pointer (some ⟨m2, 0, none⟩), .pointer (some ⟨m3, 0, none⟩), .pointer (some ⟨m4, 0, none⟩), .pointer (some ⟨m5, 0, none⟩)]⟩ ∧ Mem w0 w' No [(m1, .row 4 [.bool (Pl.cdown c)]), (m2, .row 3 [.int .i64 (Pl.chCount c s)]), (m4, .row 61 [.int .i64 c.to, .int .i64 (Pl.clen c)]), (m5, .row 3 [.int .i64 s]), (m3, .row 24 (cmV c p c.bs.length cap))] := by
  refine C_of Try.func43 rfl rfl rfl fun κ hret hnorm => ?_
  have hm := Mem.start w0
  refine HW_seq rfl ?_
  refine HW_text (.act 0 (.act 1 (.pure 2 .done))) (by kernel_rfl) ?_
  refine a_box rfl rfl rfl rfl hm trivial fun m1 w hg_m1 hm hh => ?_
  refine a_box rfl rfl rfl rfl hm trivial fun m2 w hg_m2 hm hh => ?_
  refine rw_p rfl rfl (y_assign rfl) ?_
  refine rw_done ?_
  refine gn_sq ?_
  refine HW_seq rfl ?_
  refine HW_text (.pure 0 (.act 1 (.act 2 (.act 3 .done)))) (by kernel_rfl) ?_
  refine rw_p rfl rfl (y_loadA (s := 5) (vs := [_, _, _, _, _]) rfl ag24 (hm.nt 1 rfl) rfl) ?_
  refine a_call rfl rfl rfl go36 (c_target _ _ _ _) fun v w hR => ?_
  obtain ⟨rfl, hE⟩ := hR
  refine ⟨trivial, ?_⟩
  replace hm := hm.ext hE
  refine a_alloc rfl rfl z61 hm trivial fun m3 w hg_m3 hm hh => ?_
  refine a_store rfl rfl rfl rfl sz61 rfl hm 0 rfl rfl fun w hm => ?_
  refine rw_done ?_
  refine gn_sq ?_
  refine HW_seq rfl ?_
  refine HW_text (.pure 0 (.pure 1 (.act 2 (.act 3 (.act 4 .done))))) (by kernel_rfl) ?_
  refine rw_p rfl rfl (y_loadA (s := 5) (vs := [_, _, _, _, _]) rfl ag24 (hm.nt 2 rfl) rfl) ?_
  refine rw_p rfl rfl (y_load rfl sc3 (hm.nt 1 rfl) rfl) ?_
  refine a_call rfl rfl rfl go14 (ch_count c p cap s _ hc hs) fun v w hR => ?_
  obtain ⟨rfl, hE⟩ := hR
  refine ⟨trivial, ?_⟩
  replace hm := hm.ext hE
  refine a_alloc rfl rfl z3 hm trivial fun m4 w hg_m4 hm hh => ?_
  refine a_store rfl rfl rfl rfl sz3 rfl hm 0 rfl rfl fun w hm => ?_
  refine rw_done ?_
  refine gn_sq ?_
  refine HW_seq rfl ?_
  refine HW_text (.pure 0 (.act 1 (.act 2 (.act 3 .done)))) (by kernel_rfl) ?_
  refine rw_p rfl rfl (y_loadA (s := 5) (vs := [_, _, _, _, _]) rfl ag24 (hm.nt 3 rfl) rfl) ?_
  refine a_call rfl rfl rfl go15 (ch_down c p cap _ hc) fun v w hR => ?_
  obtain ⟨rfl, hE⟩ := hR
  refine ⟨trivial, ?_⟩
  replace hm := hm.ext hE
  refine a_alloc rfl rfl z4 hm trivial fun m5 w hg_m5 hm hh => ?_
  refine a_store rfl rfl rfl rfl sz4 rfl hm 0 rfl rfl fun w hm => ?_
  refine rw_done ?_
  refine gn_sq ?_
  refine HW_seq rfl ?_
  refine HW_text (.pure 0 (.pure 1 .done)) (by kernel_rfl) ?_
  refine rw_p rfl rfl (y_func rfl rfl) ?_
  refine rw_p rfl rfl (y_assign rfl) ?_
  refine rw_done ?_
  refine gn_sq ?_
  refine HW_ret rfl ?_
  refine toR (fin hret rfl (.tmp rfl .nil) .one ?_)
  exact ⟨_, _, _, _, _, rfl, hm⟩

theorem ch_at (c : Pl.Cm) (p : Option Addr) (cap : Nat) (s k : Int) (w0 : World) (hc : Pl.ccheck c = 0) (hr : Rd w0 p (c.bs.flatMap encB)) (hle : c.bs.length ≤ cap) (hsp : cap ≠ 0 → ∀ ad, p = some ad → ad.spot = none) (hl : c.bs.length ≤ 140737488355328) (hs : Pl.I64 s) (hk : Pl.I64 k) : C Try.prog 22 [.agg ⟨cmV c p c.bs.length cap⟩, .int .i64 s, .int .i64 k] w0 fun v w' => ∃ p n cap g bb, v = .tuple ⟨[.agg ⟨cmV (if 0 ≤ k ∧ k < Pl.chCount c s then Pl.chAt c s k else Pl.cm0) p n cap⟩, .bool (decide (0 ≤ k ∧ k < Pl.chCount c s))]⟩ ∧ Acc 5 1 p n cap ((if 0 ≤ k ∧ k < Pl.chCount c s then Pl.chAt c s k else Pl.cm0).bs.flatMap encB) g bb ∧ Mem w0 w' No [(g, bb)] := by
  refine C_of Try.func22 rfl rfl rfl fun κ hret hnorm => ?_
  have hm := Mem.start w0
  refine HW_seq rfl ?_
  refine HW_text (.act 0 (.act 1 (.pure 2 .done))) (by kernel_rfl) ?_
  refine a_box rfl rfl rfl rfl hm trivial fun m1 w hg_m1 hm hh => ?_
  refine a_alloc rfl rfl z24 hm trivial fun m2 w hg_m2 hm hh => ?_
  refine rw_p rfl rfl (y_assign rfl) ?_
  refine rw_done ?_
  refine gn_sq ?_
  refine HW_seq rfl ?_
  refine HW_seq rfl ?_
  by_cases hk0 : k < 0
  ·
    refine HW_text (.pure 0 (.pure 1 (.pure 2 (.pure 3 (.pure 4 (.pure 5 (.act 6 (.pure 7 (.pure 8 .done))))))))) (by kernel_rfl) ?_
    refine rw_p rfl rfl (y_move rfl) ?_
    refine rw_p rfl rfl (y_as (c := true) (y_lt rfl rfl) (by simpa using hk0)) ?_
    refine rw_p rfl rfl (y_move rfl) ?_
    refine rw_gf rfl rfl (by decide) rfl ?_
    refine rw_gf rfl rfl (by decide) rfl ?_
    refine rw_gf rfl rfl (by decide) rfl ?_
    refine a_gf rfl rfl (by decide) rfl trivial ?_
    refine rw_gf rfl rfl (by decide) rfl ?_
    refine rw_p rfl rfl (y_pickT rfl rfl) ?_
    refine rw_done ?_
    refine gn_sq ?_
    refine HW_condT rfl rfl rfl ?_
    refine HW_seq rfl ?_
    refine HW_text (.pure 0 (.act 1 (.pure 2 .done))) (by kernel_rfl) ?_
    refine rw_p rfl rfl (y_build (cs := [_, _, _, _, _]) z24 ft24 rfl rfl rfl rfl rfl) ?_
    refine a_store rfl rfl rfl rfl sz24 rfl hm 0 rfl rfl fun w hm => ?_
    refine rw_p rfl rfl (y_assign rfl) ?_
    refine rw_done ?_
    refine gn_sq ?_
    refine HW_ret rfl ?_
    refine gr_sq ?_
    refine toR (fin hret rfl (.cell rfl (run_loadVar_a (vs := [_, _, _, _, _]) ag24 (hm.get (k := 0) rfl) rfl) (.tmp rfl .nil)) .more ?_)
    have hno : ¬ (0 ≤ k ∧ k < Pl.chCount c s) := by omega
    exact ⟨none, 0, 0, 0, .gap, by rw [if_neg hno, decide_eq_false hno]; rfl, by rw [if_neg hno]; exact .nil _ _ _ _, (hm.drop (List.nil_sublist _)).gapIn⟩
  ·
    refine HW_text (.pure 0 (.pure 1 (.pure 2 (.pure 3 (.pure 4 (.pure 5 (.act 6 (.pure 7 (.pure 8 .done))))))))) (by kernel_rfl) ?_
    refine rw_p rfl rfl (y_move rfl) ?_
    refine rw_p rfl rfl (y_as (c := false) (y_lt rfl rfl) (by simpa using hk0)) ?_
    refine rw_p rfl rfl (y_move rfl) ?_
    refine rw_p rfl rfl (y_move rfl) ?_
    refine rw_p rfl rfl (y_loadA (s := 5) (vs := [_, _, _, _, _]) rfl ag24 (hm.nt 1 rfl) rfl) ?_
    refine rw_p rfl rfl (y_move rfl) ?_
    refine a_call rfl rfl rfl go14 (ch_count c p cap s _ hc hs) fun v w hR => ?_
    obtain ⟨rfl, hE⟩ := hR
    refine ⟨trivial, ?_⟩
    replace hm := hm.ext hE
    refine rw_p rfl rfl (y_ge rfl rfl) ?_
    refine rw_p rfl rfl (y_pickF rfl rfl) ?_
    refine rw_done ?_
    refine gn_sq ?_
    refine HW_cond rfl rfl (fun hc0 => ?_) (fun hc0 => ?_)
    ·
      simp only [decide_eq_true_eq] at hc0
      refine HW_seq rfl ?_
      refine HW_text (.pure 0 (.act 1 (.pure 2 .done))) (by kernel_rfl) ?_
      refine rw_p rfl rfl (y_build (cs := [_, _, _, _, _]) z24 ft24 rfl rfl rfl rfl rfl) ?_
      refine a_store rfl rfl rfl rfl sz24 rfl hm 0 rfl rfl fun w hm => ?_
      refine rw_p rfl rfl (y_assign rfl) ?_
      refine rw_done ?_
      refine gn_sq ?_
      refine HW_ret rfl ?_
      refine gr_sq ?_
      refine toR (fin hret rfl (.cell rfl (run_loadVar_a (vs := [_, _, _, _, _]) ag24 (hm.get (k := 0) rfl) rfl) (.tmp rfl .nil)) .more ?_)
      have hno : ¬ (0 ≤ k ∧ k < Pl.chCount c s) := by omega
      exact ⟨none, 0, 0, 0, .gap, by rw [if_neg hno, decide_eq_false hno]; rfl, by rw [if_neg hno]; exact .nil _ _ _ _, (hm.drop (List.nil_sublist _)).gapIn⟩
    ·
      simp only [decide_eq_false_iff_not] at hc0
      have hin : 0 ≤ k ∧ k < Pl.chCount c s := by omega
      refine HW_skip rfl ?_
      refine gn_sq ?_
      refine HW_seq rfl ?_
      refine HW_text (.pure 0 (.pure 1 (.act 2 (.pure 3 (.act 4 (.act 5 (.pure 6 .done))))))) (by kernel_rfl) ?_
      refine rw_p rfl rfl (y_loadA (s := 5) (vs := [_, _, _, _, _]) rfl ag24 (hm.nt 1 rfl) rfl) ?_
      refine rw_p rfl rfl (y_move rfl) ?_
      refine a_call rfl rfl rfl go43 (ch_piece c p cap s _ hc hs) fun v w hR => ?_
      obtain ⟨q1, q2, q3, q4, q5, rfl, hmc⟩ := hR
      refine ⟨trivial, ?_⟩
      replace hm := hm.callN hmc
      refine rw_p rfl rfl (y_move rfl) ?_
      refine a_callV rfl rfl rfl rfl go62 (ch_piece1 c p cap s k q1 q2 q3 q4 q5 _ (hm.get (k := 0) rfl) (hm.get (k := 1) rfl) (hm.get (k := 4) rfl) (hm.get (k := 2) rfl) (hm.get (k := 3) rfl) hc (hr.ext0 hm.to) hle hsp hl hs hin) fun v w hR => ?_
      obtain ⟨p_s, n_s, cap_s, g_s, b_s, rfl, ha_s, hmc⟩ := hR
      refine ⟨trivial, ?_⟩
      replace hm := hm.callN hmc
      obtain rfl := ha_s.lenB
      refine a_store rfl rfl rfl rfl sz24 rfl hm 6 rfl rfl fun w hm => ?_
      refine rw_p rfl rfl (y_assign rfl) ?_
      refine rw_done ?_
      refine gn_sq ?_
      refine HW_ret rfl ?_
      refine toR (fin hret rfl (.cell rfl (run_loadVar_a (vs := [_, _, _, _, _]) ag24 (hm.get (k := 6) rfl) rfl) (.tmp rfl .nil)) .more ?_)
      exact ⟨p_s, (Pl.chAt c s k).bs.length, cap_s, g_s, b_s, by rw [if_pos hin, decide_eq_true hin]; rfl, by rw [if_pos hin]; exact ha_s, (hm.pick [0] rfl)⟩

set_option maxHeartbeats 800000 in
theorem r17_at (c : Pl.Cm) (p : Option Addr) (cap : Nat) (s k : Int) (w0 : World) (hc : Pl.ccheck c = 0) (hr : Rd w0 p (c.bs.flatMap encB)) (hle : c.bs.length ≤ cap) (hsp : cap ≠ 0 → ∀ ad, p = some ad → ad.spot = none) (hl : c.bs.length ≤ 140737488355328) (hs : Pl.I64 s) (hk : 0 ≤ k ∧ k < Pl.chCount c s) : C Try.prog 24 [.agg ⟨cmV c p c.bs.length cap⟩, .int .i64 s, .int .i64 k] w0 fun v w' => ∃ p n cap g bb, v = .agg ⟨cmV (Pl.chAt c s k) p n cap⟩ ∧ Acc 5 1 p n cap ((Pl.chAt c s k).bs.flatMap encB) g bb ∧ Mem w0 w' No [(g, bb)] := by
  have hb := Pl.chAt_ok hc hk
  have hcn := Pl.chCount_nonneg (s := s) hc
  have hkk := Pl.ccheck_ok hc
  have hcd : Pl.chAt c s k = Pl.cpartD c (c.to + Pl.chIx c s k * s) (min s (Pl.clen c - Pl.chIx c s k * s)) := rfl
  refine C_of Try.func24 rfl rfl rfl fun κ hret hnorm => ?_
  have hm := Mem.start w0
  refine HW_seq rfl ?_
  refine HW_text (.act 0 (.act 1 .done)) (by kernel_rfl) ?_
  refine a_box rfl rfl rfl rfl hm trivial fun m1 w hg_m1 hm hh => ?_
  refine a_alloc rfl rfl z24 hm trivial fun m2 w hg_m2 hm hh => ?_
  refine rw_done ?_
  refine gn_sq ?_
  refine HW_seq rfl ?_
  refine HW_seq rfl ?_
  refine HW_text (.pure 0 (.act 1 .done)) (by kernel_rfl) ?_
  refine rw_p rfl rfl (y_loadA (s := 5) (vs := [_, _, _, _, _]) rfl ag24 (hm.nt 1 rfl) rfl) ?_
  refine a_call rfl rfl rfl go16 (r17_down c p cap _ hc) fun v w hR => ?_
  obtain ⟨rfl, hE⟩ := hR
  refine ⟨trivial, ?_⟩
  replace hm := hm.ext hE
  refine rw_done ?_
  refine gn_sq ?_
  refine HW_cond rfl rfl (fun hc0 => ?_) (fun hc0 => ?_)
  ·
    have hix : Pl.chIx c s k = Pl.chCount c s - 1 - k := by simp [Pl.chIx, hc0]
    obtain ⟨ix, hxx⟩ : ∃ ix : Nat, Pl.chIx c s k = ix := ⟨(Pl.chIx c s k).toNat, by omega⟩
    rw [hxx] at hb hcd
    refine HW_text (.pure 0 (.pure 1 (.act 2 (.pure 3 (.pure 4 (.pure 5 (.pure 6 .done))))))) (by kernel_rfl) ?_
    refine rw_p rfl rfl (y_loadA (s := 5) (vs := [_, _, _, _, _]) rfl ag24 (hm.nt 1 rfl) rfl) ?_
    refine rw_p rfl rfl (y_move rfl) ?_
    refine a_call rfl rfl rfl go19 (r17_count c p cap s _ hc hs) fun v w hR => ?_
    obtain ⟨rfl, hE⟩ := hR
    refine ⟨trivial, ?_⟩
    replace hm := hm.ext hE
    refine rw_p rfl rfl (y_sub rfl rfl (i64w (by omega) (by omega))) ?_
    refine rw_p rfl rfl (y_move rfl) ?_
    refine rw_p rfl rfl (y_sub rfl rfl (i64w (by omega) (by omega))) ?_
    refine rw_p rfl rfl (y_assign rfl) ?_
    refine rw_done ?_
    refine gn_sq ?_
    refine HW_seq rfl ?_
    refine HW_draw (.pure 0 (.pure 1 (.pure 3 (.pure 4 (.act 2 (.act 5 (.cut (.act 6 (.act 7 .done))))))))) No mix (by kernel_rfl) hm fun w hw hm0 hh => ?_
    have hm := hm0
    refine rw_p rfl rfl (y_loadA (s := 5) (vs := [_, _, _, _, _]) rfl ag24 (hm0.nd 1 rfl id) rfl) ?_
    refine rw_p rfl rfl (y_loadA (s := 5) (vs := [_, _, _, _, _]) rfl ag24 (hm0.nd 1 rfl id) rfl) ?_
    refine rw_p rfl rfl (y_move rfl) ?_
    refine rw_p rfl rfl (y_v (y_move rfl) (show _ = Value.int .i64 (ix : Int) by rw [← hxx, hix])) ?_
    refine a_call rfl rfl rfl go40 (r4_target _ _ _ _) fun v w hR => ?_
    obtain ⟨rfl, hE⟩ := hR
    refine ⟨hh.ext hE, ?_⟩
    replace hm := hm.ext hE
    replace hh := hh.ext hE
    refine a_call rfl rfl rfl go45 (r1_piece c.to (Pl.clen c) s ix _ (by omega) (by omega) (by omega)) fun v w hR => ?_
    obtain ⟨rfl, hE⟩ := hR
    refine ⟨hh.ext hE, ?_⟩
    replace hm := hm.ext hE
    replace hh := hh.ext hE
    refine a_cut ?_
    refine a_call rfl rfl rfl go44 (r4_part c p cap _ _ _ hc (hr.ext0 hm.to) hle hsp hl hb.2.2.2.2.2) fun v w hR => ?_
    obtain ⟨p_s, n_s, cap_s, g_s, b_s, rfl, ha_s, hmc⟩ := hR
    refine ⟨trivial, ?_⟩
    replace hm := hm.callN hmc
    obtain rfl := ha_s.lenB
    refine a_store rfl rfl rfl rfl sz24 rfl hm 1 rfl rfl fun w hm => ?_
    refine rw_done ?_
    refine gn_sq ?_
    refine HW_ret rfl ?_
    refine toR (fin hret rfl (.cell rfl (run_loadVar_a (vs := [_, _, _, _, _]) ag24 (hm.get (k := 1) rfl) rfl) .nil) .one ?_)
    exact ⟨p_s, (Pl.chAt c s k).bs.length, cap_s, g_s, b_s, by rw [hcd]; rfl, by rw [hcd]; exact ha_s, (hm.pick [0] rfl)⟩
  ·
    have hix : Pl.chIx c s k = k := by simp [Pl.chIx, hc0]
    obtain ⟨ix, hxx⟩ : ∃ ix : Nat, Pl.chIx c s k = ix := ⟨(Pl.chIx c s k).toNat, by omega⟩
    rw [hxx] at hb hcd
    refine HW_skip rfl ?_
    refine gn_sq ?_
    refine HW_seq rfl ?_
    refine HW_draw (.pure 0 (.pure 1 (.pure 3 (.pure 4 (.act 2 (.act 5 (.cut (.act 6 (.act 7 .done))))))))) No mix (by kernel_rfl) hm fun w hw hm0 hh => ?_
    have hm := hm0
    refine rw_p rfl rfl (y_loadA (s := 5) (vs := [_, _, _, _, _]) rfl ag24 (hm0.nd 1 rfl id) rfl) ?_
    refine rw_p rfl rfl (y_loadA (s := 5) (vs := [_, _, _, _, _]) rfl ag24 (hm0.nd 1 rfl id) rfl) ?_
    refine rw_p rfl rfl (y_move rfl) ?_
    refine rw_p rfl rfl (y_v (y_move rfl) (show _ = Value.int .i64 (ix : Int) by rw [← hxx, hix])) ?_
    refine a_call rfl rfl rfl go40 (r4_target _ _ _ _) fun v w hR => ?_
    obtain ⟨rfl, hE⟩ := hR
    refine ⟨hh.ext hE, ?_⟩
    replace hm := hm.ext hE
    replace hh := hh.ext hE
    refine a_call rfl rfl rfl go45 (r1_piece c.to (Pl.clen c) s ix _ (by omega) (by omega) (by omega)) fun v w hR => ?_
    obtain ⟨rfl, hE⟩ := hR
    refine ⟨hh.ext hE, ?_⟩
    replace hm := hm.ext hE
    replace hh := hh.ext hE
    refine a_cut ?_
    refine a_call rfl rfl rfl go44 (r4_part c p cap _ _ _ hc (hr.ext0 hm.to) hle hsp hl hb.2.2.2.2.2) fun v w hR => ?_
    obtain ⟨p_s, n_s, cap_s, g_s, b_s, rfl, ha_s, hmc⟩ := hR
    refine ⟨trivial, ?_⟩
    replace hm := hm.callN hmc
    obtain rfl := ha_s.lenB
    refine a_store rfl rfl rfl rfl sz24 rfl hm 1 rfl rfl fun w hm => ?_
    refine rw_done ?_
    refine gn_sq ?_
    refine HW_ret rfl ?_
    refine toR (fin hret rfl (.cell rfl (run_loadVar_a (vs := [_, _, _, _, _]) ag24 (hm.get (k := 1) rfl) rfl) .nil) .one ?_)
    exact ⟨p_s, (Pl.chAt c s k).bs.length, cap_s, g_s, b_s, by rw [hcd]; rfl, by rw [hcd]; exact ha_s, (hm.pick [0] rfl)⟩

set_option maxHeartbeats 400000 in
theorem r4_all (p q : Option Addr) (c1 c2 : Nat) (xs ys : List CmdV) (w0 : World) (hx : Rd w0 p (xs.flatMap encC)) (hy : Rd w0 q (ys.flatMap encC)) (hdx : ∀ x ∈ xs, Rd w0 x.d.p (x.d.bs.flatMap encB)) (hdy : ∀ x ∈ ys, Rd w0 x.d.p (x.d.bs.flatMap encB)) (h1 : xs.length ≤ 4611686018427387903) (h2 : ys.length ≤ 4611686018427387903) : C Try.prog 12 [.slice p xs.length c1, .slice q ys.length c2] w0 fun v w' => v = .bool (decide (xs.map CmdV.cm = ys.map CmdV.cm)) ∧ Ext No w0 w' := by
  refine C_of Try.func12 rfl rfl rfl fun κ hret hnorm => ?_
  have hm := Mem.start w0
  refine HW_seq rfl ?_
  refine HW_text (.pure 0 .done) (by kernel_rfl) ?_
  refine rw_p rfl rfl (y_assign rfl) ?_
  refine rw_done ?_
  refine gn_sq ?_
  refine HW_seq rfl ?_
  refine HW_seq rfl ?_
  refine HW_text (.pure 0 (.pure 1 (.pure 2 (.pure 3 (.pure 4 .done))))) (by kernel_rfl) ?_
  refine rw_p rfl rfl (y_move rfl) ?_
  refine rw_p rfl rfl (y_len rfl rfl sl27) ?_
  refine rw_p rfl rfl (y_move rfl) ?_
  refine rw_p rfl rfl (y_len rfl rfl sl27) ?_
  refine rw_p rfl rfl (y_ne rfl rfl) ?_
  refine rw_done ?_
  refine gn_sq ?_
  refine HW_cond rfl rfl (fun hc0 => ?_) (fun hc0 => ?_)
  ·
    simp only [decide_eq_true_eq] at hc0
    refine HW_seq rfl ?_
    refine HW_text (.pure 0 .done) (by kernel_rfl) ?_
    refine rw_p rfl rfl (y_assign rfl) ?_
    refine rw_done ?_
    refine gn_sq ?_
    refine HW_ret rfl ?_
    refine gr_sq ?_
    refine toR (fin hret rfl (.tmp rfl .nil) .one ?_)
    exact ⟨by rw [decide_eq_false fun e => hc0 (by have := congrArg List.length e; simp only [List.length_map] at this; rw [this])], hm.to⟩
  ·
    simp only [decide_eq_false_iff_not] at hc0
    have hl : xs.length = ys.length := by omega
    refine HW_skip rfl ?_
    refine gn_sq ?_
    refine HW_seq rfl ?_
    refine HW_seq rfl ?_
    refine HW_text (.pure 0 .done) (by kernel_rfl) ?_
    refine rw_p rfl rfl (y_assign rfl) ?_
    refine rw_done ?_
    refine gn_sq ?_
    refine HW_block rfl ?_
    refine HW_loopK (ι := Nat) rfl (ks := [0, 1]) (.cons rfl (.cons rfl .nil)) (fun k => [(5, .int .i64 k)]) (fun k w => Mem w0 w No [] ∧ k ≤ xs.length ∧ ∀ j, j < k → (xs.map CmdV.cm)[j]? = (ys.map CmdV.cm)[j]?) (fun k => xs.length - k) 0 (⟨hm, Nat.zero_le _, fun _ h => absurd h (Nat.not_lt_zero _)⟩) ⟨rfl, trivial⟩ (fun k w hM => ?_)
    obtain ⟨hm, hk, hno⟩ := hM
    refine HW_seq rfl ?_
    refine HW_seq rfl ?_
    refine HW_text (.pure 0 (.pure 1 (.pure 2 (.pure 3 .done)))) (by kernel_rfl) ?_
    refine rw_p rfl rfl (y_move rfl) ?_
    refine rw_p rfl rfl (y_move rfl) ?_
    refine rw_p rfl rfl (y_len rfl rfl sl27) ?_
    refine rw_p rfl rfl (y_lt rfl rfl) ?_
    refine rw_done ?_
    refine gn_sq ?_
    refine HW_cond rfl rfl (fun hc1 => ?_) (fun hc1 => ?_)
    ·
      simp only [decide_eq_true_eq] at hc1
      obtain ⟨x, hi⟩ : ∃ y_, xs[k]? = some y_ := ⟨_, List.getElem?_eq_getElem (by omega)⟩
      obtain ⟨qb, qo, rfl⟩ := hx.atI encC_len (by decide) hi
      obtain ⟨y, hj1⟩ : ∃ y_, ys[k]? = some y_ := ⟨_, List.getElem?_eq_getElem (by omega)⟩
      obtain ⟨b2, o2, rfl⟩ := hy.atI encC_len (by decide) hj1
      refine HW_skip rfl ?_
      refine gn_sq ?_
      refine HW_seq rfl ?_
      refine HW_block rfl ?_
      refine HW_seq rfl ?_
      refine HW_draw (.pure 0 (.pure 1 (.pure 2 (.pure 3 (.pure 4 (.pure 5 (.pure 6 (.pure 7 (.cut (.act 8 (.pure 9 .done))))))))))) No mix (by kernel_rfl) hm fun w hw hm0 hh => ?_
      have hm := hm0
      refine rw_p rfl rfl (y_move rfl) ?_
      refine rw_p rfl rfl (y_move rfl) ?_
      refine rw_p rfl rfl (y_index rfl rfl sl27 rfl (by omega) (by omega)) ?_
      refine rw_p rfl rfl (y_elA rfl ag24 (hx.ext0 hm0.to).nd encC_len hi) ?_
      refine rw_p rfl rfl (y_move rfl) ?_
      refine rw_p rfl rfl (y_move rfl) ?_
      refine rw_p rfl rfl (y_index rfl rfl sl27 rfl (by omega) (by omega)) ?_
      refine rw_p rfl rfl (y_elA rfl ag24 (hy.ext0 hm0.to).nd encC_len hj1) ?_
      refine a_cut ?_
      refine a_call rfl rfl rfl go23 (r4_same x.cm y.cm x.d.p y.d.p x.d.cap y.d.cap _ ((hdx x (List.mem_of_getElem? hi)).ext0 hm.to) ((hdy y (List.mem_of_getElem? hj1)).ext0 hm.to)) fun v w hR => ?_
      obtain ⟨rfl, hE⟩ := hR
      refine ⟨trivial, ?_⟩
      replace hm := hm.ext hE
      refine rw_p rfl rfl (y_not rfl) ?_
      refine rw_done ?_
      refine gn_sq ?_
      refine HW_cond rfl rfl (fun hc2 => ?_) (fun hc2 => ?_)
      ·
        simp only [Bool.not_eq_true'] at hc2
        refine HW_seq rfl ?_
        refine HW_text (.pure 0 .done) (by kernel_rfl) ?_
        refine rw_p rfl rfl (y_assign rfl) ?_
        refine rw_done ?_
        refine gn_sq ?_
        refine HW_ret rfl ?_
        refine gr_bl (gr_sq (gr_lp (gr_bl (gr_sq ?_))))
        refine toR (fin hret rfl (.tmp rfl .nil) .one ?_)
        exact ⟨by rw [decide_eq_false (cms_ne hi hj1 hc2)], hm.to⟩
      ·
        simp only [Bool.not_eq_false'] at hc2
        refine HW_skip rfl ?_
        refine gn_bl ?_
        refine gn_sq ?_
        refine HW_text (.pure 0 (.pure 1 (.pure 2 .done))) (by kernel_rfl) ?_
        refine rw_p rfl rfl (y_move rfl) ?_
        refine rw_p rfl rfl (y_add rfl rfl (i64w (by omega) (by omega))) ?_
        refine rw_p rfl rfl (y_assign rfl) ?_
        refine rw_done ?_
        refine next (k + 1) (by omega) ⟨hm, by omega, fun j hj => ?_⟩ ⟨nx k, rfl, rfl, trivial⟩
        rcases Nat.lt_or_ge j k with h | h
        · exact hno j h
        · obtain rfl : j = k := by omega
          rw [List.getElem?_map, List.getElem?_map, hi, hj1]; exact congrArg some (Pl.csame_iff.1 hc2)
    ·
      simp only [decide_eq_false_iff_not] at hc1
      have hk : k = xs.length := by omega
      subst hk
      refine HW_exit rfl ?_
      refine gx_sq (gx_lp ?_)
      refine gx_here ?_
      refine gn_sq ?_
      refine HW_seq rfl ?_
      refine HW_text (.pure 0 .done) (by kernel_rfl) ?_
      refine rw_p rfl rfl (y_assign rfl) ?_
      refine rw_done ?_
      refine gn_sq ?_
      refine HW_ret rfl ?_
      refine toR (fin hret rfl (.tmp rfl .nil) .one ?_)
      exact ⟨by rw [decide_eq_true (Pl.eq_of (by simpa using hl) (by simpa using hno))], hm.to⟩

set_option maxHeartbeats 400000 in
theorem r17_split (c : Pl.Cm) (p : Option Addr) (cap : Nat) (s : Int) (w0 : World) (hc : Pl.ccheck c = 0) (hr : Rd w0 p (c.bs.flatMap encB)) (hle : c.bs.length ≤ cap) (hsp : cap ≠ 0 → ∀ ad, p = some ad → ad.spot = none) (hl : c.bs.length ≤ 140737488355328) (hs : Pl.I64 s)  : C Try.prog 13 [.agg ⟨cmV c p c.bs.length cap⟩, .int .i64 s] w0 fun v w' => ∃ (xs : List CmdV) (p : Option Addr) (n cap g : Nat) (b : Blk) (B : List (Nat × Blk)), v = .slice p n cap ∧ Acc 24 5 p n cap (xs.flatMap encC) g b ∧ xs.map CmdV.cm = (Pl.chunks c s) ∧ (∀ x ∈ xs, Held B 5 x.d) ∧ Mem w0 w' No ((g, b) :: B) := by
  have hcn := Pl.chCount_nonneg (s := s) hc
  refine C_of Try.func13 rfl rfl rfl fun κ hret hnorm => ?_
  have hm := Mem.start w0
  refine HW_seq rfl ?_
  refine HW_text (.act 0 (.pure 1 .done)) (by kernel_rfl) ?_
  refine a_box rfl rfl rfl rfl hm trivial fun m1 w hg_m1 hm hh => ?_
  refine rw_p rfl rfl (y_assign rfl) ?_
  refine rw_done ?_
  refine gn_sq ?_
  refine HW_seq rfl ?_
  refine HW_text (.pure 0 (.pure 1 (.act 2 (.pure 3 .done)))) (by kernel_rfl) ?_
  refine rw_p rfl rfl (y_loadA (s := 5) (vs := [_, _, _, _, _]) rfl ag24 (hm.nt 0 rfl) rfl) ?_
  refine rw_p rfl rfl (y_move rfl) ?_
  refine a_call rfl rfl rfl go19 (r17_count c p cap s _ hc hs) fun v w hR => ?_
  obtain ⟨rfl, hE⟩ := hR
  refine ⟨trivial, ?_⟩
  replace hm := hm.ext hE
  refine rw_p rfl rfl (y_assign rfl) ?_
  refine rw_done ?_
  refine gn_sq ?_
  refine HW_seq rfl ?_
  refine HW_seq rfl ?_
  refine HW_text (.pure 0 (.pure 1 .done)) (by kernel_rfl) ?_
  refine rw_p rfl rfl (y_move rfl) ?_
  refine rw_p rfl rfl (y_gt rfl rfl) ?_
  refine rw_done ?_
  refine gn_sq ?_
  refine HW_cond rfl rfl (fun hc0 => ?_) (fun hc0 => ?_)
  ·
    simp only [decide_eq_true_eq] at hc0
    have hch : Pl.chunks c s = [] := by unfold Pl.chunks; rw [if_pos (by omega)]
    refine HW_seq rfl ?_
    refine HW_text (.pure 0 .done) (by kernel_rfl) ?_
    refine rw_p rfl rfl (y_assign rfl) ?_
    refine rw_done ?_
    refine gn_sq ?_
    refine HW_ret rfl ?_
    refine gr_sq ?_
    refine toR (fin hret rfl (.tmp rfl .nil) .one ?_)
    exact ⟨[], none, 0, 0, 0, .gap, [], rfl, .nil _ _ _ _, by rw [hch]; rfl, by simp, (hm.drop (List.nil_sublist _)).gapIn⟩
  ·
    simp only [decide_eq_false_iff_not] at hc0
    obtain ⟨N, hN⟩ : ∃ N : Nat, Pl.chCount c s = N := ⟨(Pl.chCount c s).toNat, by omega⟩
    have hch : Pl.chunks c s = (List.range N).map fun k => Pl.chAt c s (k : Nat) := by unfold Pl.chunks; rw [if_neg (by omega), hN, Int.toNat_natCast]
    refine HW_skip rfl ?_
    refine gn_sq ?_
    refine HW_seq rfl ?_
    refine HW_text (.pure 0 .done) (by kernel_rfl) ?_
    refine rw_p rfl rfl (y_assign rfl) ?_
    replace hm := hm.gapIn
    have ha_o := Acc.nil 24 5 none 0
    refine rw_done ?_
    refine gn_sq ?_
    refine HW_seq rfl ?_
    refine HW_seq rfl ?_
    refine HW_text (.pure 0 .done) (by kernel_rfl) ?_
    refine rw_p rfl rfl (y_assign rfl) ?_
    refine rw_done ?_
    refine gn_sq ?_
    refine HW_block rfl ?_
    refine HW_loopK (ι := Nat × Ow × List CmdV × List (Nat × Blk)) rfl (ks := [1, 2, 4, 5]) (.cons rfl (.cons rfl (.cons rfl (.cons rfl .nil)))) (fun x => [(7, .int .i64 x.1), (6, .slice x.2.1.p x.2.1.n x.2.1.cap)]) (fun x w => Mem w0 w No ((x.2.1.g, x.2.1.b) :: (m1, .row 24 (cmV c p c.bs.length cap)) :: x.2.2.2) ∧ Acc 24 5 x.2.1.p x.2.1.n x.2.1.cap (x.2.2.1.flatMap encC) x.2.1.g x.2.1.b ∧ x.2.2.1.map CmdV.cm = (List.range x.1).map (fun k => Pl.chAt c s (k : Nat)) ∧ (∀ y ∈ x.2.2.1, Held x.2.2.2 5 y.d) ∧ x.1 ≤ N ∧ x.2.1.n = x.1) (fun x => N - x.1) (0, ⟨none, 0, 0, 0, .gap⟩, [], []) (⟨(hm.pick [0, 1] rfl), ha_o, rfl, by simp, Nat.zero_le _, rfl⟩) ⟨rfl, rfl, trivial⟩ (fun x w hM => ?_)
    obtain ⟨hm, ha_o, hxm, hH, hk, hn⟩ := hM
    refine HW_seq rfl ?_
    refine HW_seq rfl ?_
    refine HW_text (.pure 0 (.pure 1 (.pure 2 .done))) (by kernel_rfl) ?_
    refine rw_p rfl rfl (y_move rfl) ?_
    refine rw_p rfl rfl (y_move rfl) ?_
    refine rw_p rfl rfl (y_lt rfl rfl) ?_
    refine rw_done ?_
    refine gn_sq ?_
    refine HW_cond rfl rfl (fun hc1 => ?_) (fun hc1 => ?_)
    ·
      simp only [decide_eq_true_eq] at hc1
      refine HW_skip rfl ?_
      refine gn_sq ?_
      refine HW_seq rfl ?_
      refine HW_block rfl ?_
      refine HW_text (.pure 0 (.pure 1 (.pure 2 (.pure 3 (.act 4 (.act 5 (.act 6 (.pure 7 .done)))))))) (by kernel_rfl) ?_
      refine rw_p rfl rfl (y_move rfl) ?_
      refine rw_p rfl rfl (y_loadA (s := 5) (vs := [_, _, _, _, _]) rfl ag24 (hm.nt 1 rfl) rfl) ?_
      refine rw_p rfl rfl (y_move rfl) ?_
      refine rw_p rfl rfl (y_move rfl) ?_
      refine a_call rfl rfl rfl go24 (r17_at c p cap s x.1 _ hc (hr.ext0 hm.to) hle hsp hl hs (by omega)) fun v w hR => ?_
      obtain ⟨p_s, n_s, cap_s, g_s, b_s, rfl, ha_s, hmc⟩ := hR
      refine ⟨trivial, ?_⟩
      replace hm := hm.callN hmc
      obtain rfl := ha_s.lenB
      refine a_buildSlice (l := [_, _, _, _, _]) rfl rfl sl27 z24 rfl rfl rfl rfl rfl rfl rfl hm trivial fun m2 w hg_m2 hm hh => ?_
      refine a_append rfl rfl rfl rfl rfl rfl sl27 sl27 z24 rfl rfl (Rd.row0 (hm.get (k := 0) rfl)) rfl ha_o hm 2 rfl (by omega) (by omega) fun p_o cap_o g_o b_o w ha_o hm => ?_
      replace hm := hm.stow 1 rfl
      refine rw_p rfl rfl (y_assign rfl) ?_
      refine rw_done ?_
      refine gn_bl ?_
      refine gn_sq ?_
      refine HW_text (.pure 0 (.pure 1 (.pure 2 .done))) (by kernel_rfl) ?_
      refine rw_p rfl rfl (y_move rfl) ?_
      refine rw_p rfl rfl (y_add rfl rfl (i64w (by omega) (by omega))) ?_
      refine rw_p rfl rfl (y_assign rfl) ?_
      refine rw_done ?_
      refine next (x.1 + 1, ⟨p_o, _, cap_o, g_o, b_o⟩, x.2.2.1 ++ [mkC (Pl.chAt c s x.1) p_s cap_s], x.2.2.2 ++ [(g_s, b_s)]) (by simp only; omega) ⟨(hm.pickT [1, 2] 3 rfl), ha_o.to ?_, ?_, heldAdd hH (ha_s.held (by simp)), by simp only; omega, by simp only; omega⟩ ⟨nx x.1, rfl, rfl, rfl, rfl, rfl, trivial⟩
      · simp only [List.flatMap_append, List.flatMap_cons, List.flatMap_nil, List.append_nil]; rfl
      · rw [List.map_append, hxm, Pl.chunks_next]; rfl
    ·
      simp only [decide_eq_false_iff_not] at hc1
      have hke : x.1 = N := by omega
      rw [hke] at hxm
      refine HW_exit rfl ?_
      refine gx_sq (gx_lp ?_)
      refine gx_here ?_
      refine gn_sq ?_
      refine HW_seq rfl ?_
      refine HW_text (.pure 0 (.pure 1 .done)) (by kernel_rfl) ?_
      refine rw_p rfl rfl (y_move rfl) ?_
      refine rw_p rfl rfl (y_assign rfl) ?_
      refine rw_done ?_
      refine gn_sq ?_
      refine HW_ret rfl ?_
      refine toR (fin hret rfl (.tmp rfl .nil) .one ?_)
      exact ⟨x.2.2.1, _, _, _, _, _, x.2.2.2, rfl, ha_o, by rw [hxm, hch], hH, (hm.pickT [0] 2 rfl)⟩

set_option maxHeartbeats 400000 in
theorem r17_all (s : Int) (q : Option Addr) (cq : Nat) (cs : List CmdV) (w0 : World) (hq : Rd w0 q (cs.flatMap encC)) (hok : ∀ c ∈ cs, Pl.ccheck c.cm = 0 ∧ c.d.ok w0 ∧ c.d.bs.length ≤ 140737488355328) (hs : Pl.I64 s) (hl : cs.length ≤ 4611686018427387903) (hb : (Pl.chAll s (cs.map CmdV.cm)).length ≤ 1048576) : C Try.prog 21 [.int .i64 s, .slice q cs.length cq] w0 fun v w' => ∃ (xs : List CmdV) (p : Option Addr) (n cap g : Nat) (b : Blk) (B : List (Nat × Blk)), v = .slice p n cap ∧ Acc 24 5 p n cap (xs.flatMap encC) g b ∧ xs.map CmdV.cm = (Pl.chAll s (cs.map CmdV.cm)) ∧ (∀ x ∈ xs, Held B 5 x.d) ∧ Mem w0 w' No ((g, b) :: B) := by
  refine C_of Try.func21 rfl rfl rfl fun κ hret hnorm => ?_
  have hm := Mem.start w0
  refine HW_seq rfl ?_
  refine HW_text (.pure 0 .done) (by kernel_rfl) ?_
  refine rw_p rfl rfl (y_assign rfl) ?_
  refine rw_done ?_
  refine gn_sq ?_
  refine HW_seq rfl ?_
  refine HW_text (.pure 0 .done) (by kernel_rfl) ?_
  refine rw_p rfl rfl (y_assign rfl) ?_
  replace hm := hm.gapIn
  have ha_o := Acc.nil 24 5 none 0
  refine rw_done ?_
  refine gn_sq ?_
  refine HW_seq rfl ?_
  refine HW_seq rfl ?_
  refine HW_text (.pure 0 .done) (by kernel_rfl) ?_
  refine rw_p rfl rfl (y_assign rfl) ?_
  refine rw_done ?_
  refine gn_sq ?_
  refine HW_block rfl ?_
  refine HW_loopK (ι := Nat × Ow × List CmdV × List (Nat × Blk)) rfl (ks := [0, 1, 4]) (.cons rfl (.cons rfl (.cons rfl .nil))) (fun x => [(6, .int .i64 x.1), (5, .slice x.2.1.p x.2.1.n x.2.1.cap)]) (fun x w => Mem w0 w No ((x.2.1.g, x.2.1.b) :: x.2.2.2) ∧ Acc 24 5 x.2.1.p x.2.1.n x.2.1.cap (x.2.2.1.flatMap encC) x.2.1.g x.2.1.b ∧ x.2.2.1.map CmdV.cm = Pl.chAll s ((cs.take x.1).map CmdV.cm) ∧ (∀ y ∈ x.2.2.1, Held x.2.2.2 5 y.d) ∧ x.1 ≤ cs.length ∧ x.2.1.n = x.2.2.1.length) (fun x => cs.length - x.1) (0, ⟨none, 0, 0, 0, .gap⟩, [], []) (⟨hm, ha_o, rfl, by simp, Nat.zero_le _, rfl⟩) ⟨rfl, rfl, trivial⟩ (fun x w hM => ?_)
  obtain ⟨hm, ha_o, hxm, hH, hk, hn⟩ := hM
  refine HW_seq rfl ?_
  refine HW_seq rfl ?_
  refine HW_text (.pure 0 (.pure 1 (.pure 2 (.pure 3 .done)))) (by kernel_rfl) ?_
  refine rw_p rfl rfl (y_move rfl) ?_
  refine rw_p rfl rfl (y_move rfl) ?_
  refine rw_p rfl rfl (y_len rfl rfl sl27) ?_
  refine rw_p rfl rfl (y_lt rfl rfl) ?_
  refine rw_done ?_
  refine gn_sq ?_
  refine HW_cond rfl rfl (fun hc0 => ?_) (fun hc0 => ?_)
  ·
    simp only [decide_eq_true_eq] at hc0
    obtain ⟨c, hi⟩ : ∃ y_, cs[x.1]? = some y_ := ⟨_, List.getElem?_eq_getElem (by omega)⟩
    obtain ⟨qb, qo, rfl⟩ := hq.atI encC_len (by decide) hi
    obtain ⟨hc, hcd, hcl⟩ := hok c (List.mem_of_getElem? hi)
    have hbn := Pl.chAll_take s (cs.map CmdV.cm) (x.1 + 1)
    rw [← List.map_take, List.take_add_one, hi] at hbn
    simp only [Option.toList, List.map_append, List.map_cons, List.map_nil, Pl.chAll_app, List.length_append, Pl.chAll_one] at hbn
    have hx9 := congrArg List.length hxm
    simp only [List.length_map] at hx9
    refine HW_skip rfl ?_
    refine gn_sq ?_
    refine HW_seq rfl ?_
    refine HW_block rfl ?_
    refine HW_text (.pure 0 (.pure 1 (.pure 2 (.pure 3 (.pure 4 (.pure 5 (.act 6 (.act 7 (.pure 8 .done))))))))) (by kernel_rfl) ?_
    refine rw_p rfl rfl (y_move rfl) ?_
    refine rw_p rfl rfl (y_move rfl) ?_
    refine rw_p rfl rfl (y_move rfl) ?_
    refine rw_p rfl rfl (y_index rfl rfl sl27 rfl (by omega) (by omega)) ?_
    refine rw_p rfl rfl (y_elA rfl ag24 (hq.ext0 hm.to).nt encC_len hi) ?_
    refine rw_p rfl rfl (y_move rfl) ?_
    refine a_call rfl rfl rfl go13 (r17_split c.cm c.d.p c.d.cap s _ hc (hcd.rd.ext0 hm.to) hcd.le hcd.spot hcl hs) fun v w hR => ?_
    obtain ⟨xs_t, p_t, n_t, cap_t, g_t, b_t, B_t, rfl, ha_t, hx_t, hh_t, hmc⟩ := hR
    refine ⟨trivial, ?_⟩
    replace hm := hm.callT1 hmc
    obtain rfl := ha_t.lenE encC_len (by decide)
    have hx8 := congrArg List.length hx_t
    simp only [List.length_map] at hx8
    refine a_append rfl rfl rfl rfl rfl rfl sl27 sl27 z24 rfl (oneC xs_t) (ha_t.rd hm 0 rfl) (lenC xs_t) ha_o hm 1 rfl (by omega) (by omega) fun p_o cap_o g_o b_o w ha_o hm => ?_
    refine rw_p rfl rfl (y_assign rfl) ?_
    refine rw_done ?_
    refine gn_bl ?_
    refine gn_sq ?_
    refine HW_text (.pure 0 (.pure 1 (.pure 2 .done))) (by kernel_rfl) ?_
    refine rw_p rfl rfl (y_move rfl) ?_
    refine rw_p rfl rfl (y_add rfl rfl (i64w (by omega) (by omega))) ?_
    refine rw_p rfl rfl (y_assign rfl) ?_
    refine rw_done ?_
    refine next (x.1 + 1, ⟨p_o, _, cap_o, g_o, b_o⟩, x.2.2.1 ++ xs_t, x.2.2.2 ++ B_t) (by simp only; omega) ⟨(hm.pickT [1] 2 rfl), ha_o.to (by simp), ?_, heldApp hH hh_t, by simp only; omega, by simp only [List.length_append]; omega⟩ ⟨nx x.1, rfl, rfl, rfl, rfl, trivial⟩
    rw [List.map_append, hxm, hx_t, List.take_add_one, hi]; simp [Pl.chAll]
  ·
    simp only [decide_eq_false_iff_not] at hc0
    have hke : x.1 = cs.length := by omega
    rw [hke, List.take_length] at hxm
    refine HW_exit rfl ?_
    refine gx_sq (gx_lp ?_)
    refine gx_here ?_
    refine gn_sq ?_
    refine HW_seq rfl ?_
    refine HW_text (.pure 0 (.pure 1 .done)) (by kernel_rfl) ?_
    refine rw_p rfl rfl (y_move rfl) ?_
    refine rw_p rfl rfl (y_assign rfl) ?_
    refine rw_done ?_
    refine gn_sq ?_
    refine HW_ret rfl ?_
    refine toR (fin hret rfl (.tmp rfl .nil) .one ?_)
    exact ⟨x.2.2.1, _, _, _, _, _, x.2.2.2, rfl, ha_o, hxm, hH, hm⟩

theorem ch_chunks (c : Pl.Cm) (p : Option Addr) (cap : Nat) (s : Int) (w0 : World) : C Try.prog 42 [.agg ⟨cmV c p c.bs.length cap⟩, .int .i64 s] w0 fun v w' => ∃ m1 m2, v = .func (.func 61) #[] ⟨[.pointer (some ⟨m1, 0, none⟩), .pointer (some ⟨m2, 0, none⟩)]⟩ ∧ Mem w0 w' No [(m2, .row 3 [.int .i64 s]), (m1, .row 24 (cmV c p c.bs.length cap))] := by
  refine C_of Try.func42 rfl rfl rfl fun κ hret hnorm => ?_
  have hm := Mem.start w0
  refine HW_seq rfl ?_
  refine HW_text (.act 0 (.act 1 (.pure 2 .done))) (by kernel_rfl) ?_
  refine a_box rfl rfl rfl rfl hm trivial fun m1 w hg_m1 hm hh => ?_
  refine a_box rfl rfl rfl rfl hm trivial fun m2 w hg_m2 hm hh => ?_
  refine rw_p rfl rfl (y_assign rfl) ?_
  refine rw_done ?_
  refine gn_sq ?_
  refine HW_seq rfl ?_
  refine HW_text (.pure 0 (.pure 1 .done)) (by kernel_rfl) ?_
  refine rw_p rfl rfl (y_func rfl rfl) ?_
  refine rw_p rfl rfl (y_assign rfl) ?_
  refine rw_done ?_
  refine gn_sq ?_
  refine HW_ret rfl ?_
  refine toR (fin hret rfl (.tmp rfl .nil) .one ?_)
  exact ⟨_, _, rfl, hm⟩

set_option maxHeartbeats 400000 in
theorem ch_chunks1 (c : Pl.Cm) (p : Option Addr) (cap : Nat) (s : Int) (m1 m2 yl : Nat) (I : List (Nat × Blk) → Nat → World → Prop) (F0 : List (Nat × Blk)) (w0 : World) (hc : Pl.ccheck c = 0) (hs : Pl.I64 s) (hle : c.bs.length ≤ cap) (hsp : cap ≠ 0 → ∀ ad, p = some ad → ad.spot = none) (hl : c.bs.length ≤ 140737488355328)
    (hrd : ∀ F i w, I F i w → Rd w p (c.bs.flatMap encB)) (hrow : ∀ F i w, I F i w → w.heap[m1]? = some (Blk.row 24 (cmV c p c.bs.length cap)).toObj ∧ w.heap[m2]? = some (Blk.row 3 [.int .i64 s]).toObj)
    (hext : ∀ F i w w' N, I F i w → Mem w w' No N → I (F ++ N) i w') (hown : ∀ F i w, I F i w → ∀ e, e ∈ F → e.2.real = true → w.heap[e.1]? = some e.2.toObj)
    (hy : ∀ F i w q n cp g bb, I F i w → ((i : Nat) : Int) < Pl.chCount c s → Pl.chCount c s ≤ 1048576 → (g, bb) ∈ F → Acc 5 1 q n cp ((Pl.chAt c s i).bs.flatMap encB) g bb → Yw Try.prog yl [.agg ⟨cmV (Pl.chAt c s i) q n cp⟩] w fun v w' => v = .bool true ∧ I F (i + 1) w') (h0 : I F0 0 w0) : C Try.prog 61 [.func (.yield yl) #[] #[], .pointer (some ⟨m1, 0, none⟩), .pointer (some ⟨m2, 0, none⟩)] w0 fun v w' => ∃ F i, I F i w' ∧ (i : Int) = if Pl.chCount c s > 1048576 then 0 else Pl.chCount c s := by
  have hcn := Pl.chCount_nonneg (s := s) hc
  refine C_of Try.func61 rfl rfl rfl fun κ hret hnorm => ?_
  have hm := Mem.start w0
  refine HW_seq rfl ?_
  refine HW_text (.pure 0 (.pure 1 (.act 2 (.pure 3 .done)))) (by kernel_rfl) ?_
  refine rw_p rfl rfl (y_loadA (s := 5) (vs := [_, _, _, _, _]) rfl ag24 (nowT ((hm.to.same _ (Array.getElem?_eq_some_iff.1 (hrow _ _ _ h0).1).1 id).trans (hrow _ _ _ h0).1)) rfl) ?_
  refine rw_p rfl rfl (y_load rfl sc3 (nowT ((hm.to.same _ (Array.getElem?_eq_some_iff.1 (hrow _ _ _ h0).2).1 id).trans (hrow _ _ _ h0).2)) rfl) ?_
  refine a_call rfl rfl rfl go14 (ch_count c p cap s _ hc hs) fun v w hR => ?_
  obtain ⟨rfl, hE⟩ := hR
  refine ⟨trivial, ?_⟩
  replace hm := hm.ext hE
  refine rw_p rfl rfl (y_assign rfl) ?_
  refine rw_done ?_
  refine gn_sq ?_
  refine HW_seq rfl ?_
  refine HW_seq rfl ?_
  refine HW_text (.pure 0 (.pure 1 .done)) (by kernel_rfl) ?_
  refine rw_p rfl rfl (y_move rfl) ?_
  refine rw_p rfl rfl (y_gt rfl rfl) ?_
  refine rw_done ?_
  refine gn_sq ?_
  refine HW_cond rfl rfl (fun hc0 => ?_) (fun hc0 => ?_)
  ·
    simp only [decide_eq_true_eq] at hc0
    refine HW_ret rfl ?_
    refine gr_sq ?_
    refine toR (fin hret rfl .nil .nil ?_)
    refine ⟨_, 0, hext _ _ _ _ _ h0 hm, by rw [if_pos (by omega)]; rfl⟩
  ·
    simp only [decide_eq_false_iff_not] at hc0
    obtain ⟨N, hN⟩ : ∃ N : Nat, Pl.chCount c s = N := ⟨(Pl.chCount c s).toNat, by omega⟩
    refine HW_skip rfl ?_
    refine gn_sq ?_
    refine HW_seq rfl ?_
    refine HW_text (.pure 0 (.pure 1 (.act 2 (.pure 3 .done)))) (by kernel_rfl) ?_
    refine rw_p rfl rfl (y_loadA (s := 5) (vs := [_, _, _, _, _]) rfl ag24 (nowT ((hm.to.same _ (Array.getElem?_eq_some_iff.1 (hrow _ _ _ h0).1).1 id).trans (hrow _ _ _ h0).1)) rfl) ?_
    refine rw_p rfl rfl (y_load rfl sc3 (nowT ((hm.to.same _ (Array.getElem?_eq_some_iff.1 (hrow _ _ _ h0).2).1 id).trans (hrow _ _ _ h0).2)) rfl) ?_
    refine a_call rfl rfl rfl go43 (ch_piece c p cap s _ hc hs) fun v w hR => ?_
    obtain ⟨q1, q2, q3, q4, q5, rfl, hmc⟩ := hR
    refine ⟨trivial, ?_⟩
    replace hm := hm.callN hmc
    refine rw_p rfl rfl (y_assign rfl) ?_
    refine rw_done ?_
    refine gn_sq ?_
    refine HW_seq rfl ?_
    refine HW_text (.pure 0 (.pure 1 .done)) (by kernel_rfl) ?_
    refine rw_p rfl rfl (y_move rfl) ?_
    refine rw_p rfl rfl (y_move rfl) ?_
    refine rw_done ?_
    refine gn_sq ?_
    refine HW_block rfl ?_
    refine HW_loopK (ι := List (Nat × Blk) × Nat) rfl (ks := [0, 5, 15]) (.cons rfl (.cons rfl (.cons rfl .nil))) (fun x => [(16, .int .i64 x.2)]) (fun x w => I x.1 x.2 w ∧ x.2 ≤ N ∧ ∀ e, e ∈ [(q1, Blk.row 4 [.bool (Pl.cdown c)]), (q2, .row 3 [.int .i64 (Pl.chCount c s)]), (q4, .row 61 [.int .i64 c.to, .int .i64 (Pl.clen c)]), (q5, .row 3 [.int .i64 s]), (q3, .row 24 (cmV c p c.bs.length cap))] → e ∈ x.1) (fun x => N - x.2) (F0 ++ _, 0) (⟨hext _ _ _ _ _ h0 hm, Nat.zero_le _, fun e he => List.mem_append_right _ he⟩) ⟨rfl, trivial⟩ (fun x w hM => ?_)
    obtain ⟨hI, hk, hF⟩ := hM
    refine HW_seq rfl ?_
    refine HW_text (.pure 0 .done) (by kernel_rfl) ?_
    refine rw_p rfl rfl (y_lt rfl rfl) ?_
    refine rw_done ?_
    refine gn_sq ?_
    refine HW_seq rfl ?_
    refine HW_cond rfl rfl (fun hc1 => ?_) (fun hc1 => ?_)
    ·
      simp only [decide_eq_true_eq] at hc1
      refine HW_skip rfl ?_
      refine gn_sq ?_
      refine HW_seq rfl ?_
      refine HW_block rfl ?_
      refine HW_seq rfl ?_
      refine HW_text (.pure 0 (.pure 1 .done)) (by kernel_rfl) ?_
      refine rw_p rfl rfl (y_move rfl) ?_
      refine rw_p rfl rfl (y_assign rfl) ?_
      refine rw_done ?_
      refine gn_sq ?_
      refine HW_seq rfl ?_
      refine HW_text (.pure 0 (.pure 1 (.pure 2 (.act 3 (.act 4 (.pure 5 .done)))))) (by kernel_rfl) ?_
      refine rw_p rfl rfl (y_move rfl) ?_
      refine rw_p rfl rfl (y_move rfl) ?_
      refine rw_p rfl rfl (y_move rfl) ?_
      refine a_callV rfl rfl rfl rfl go62 (ch_piece1 c p cap s x.2 q1 q2 q3 q4 q5 _ (hown _ _ _ hI (q1, _) (hF _ (by simp)) rfl) (hown _ _ _ hI (q2, _) (hF _ (by simp)) rfl) (hown _ _ _ hI (q3, _) (hF _ (by simp)) rfl) (hown _ _ _ hI (q4, _) (hF _ (by simp)) rfl) (hown _ _ _ hI (q5, _) (hF _ (by simp)) rfl) hc (hrd _ _ _ hI) hle hsp hl hs (by omega)) fun v w hR => ?_
      obtain ⟨p_s, n_s, cap_s, g_s, b_s, rfl, ha_s, hmc⟩ := hR
      refine ⟨trivial, ?_⟩
      have hI2 := hext _ _ _ _ _ hI hmc
      refine a_yield rfl rfl rfl rfl (hy _ _ _ p_s n_s cap_s g_s b_s hI2 (by omega) (by omega) (by simp) ha_s) fun v w hR => ?_
      obtain ⟨rfl, hJ⟩ := hR
      refine ⟨trivial, ?_⟩
      refine rw_p rfl rfl (y_not rfl) ?_
      refine rw_done ?_
      refine gn_sq ?_
      refine HW_condF rfl rfl rfl ?_
      refine HW_skip rfl ?_
      refine gn_bl ?_
      refine gn_sq ?_
      refine HW_text (.pure 0 (.pure 1 .done)) (by kernel_rfl) ?_
      refine rw_p rfl rfl (y_add rfl rfl (i64w (by omega) (by omega))) ?_
      refine rw_p rfl rfl (y_move rfl) ?_
      refine rw_done ?_
      refine next (x.1 ++ [(g_s, b_s)], x.2 + 1) (by simp only; omega) ⟨hJ, by simp only; omega, fun e he => List.mem_append_left _ (hF e he)⟩ ⟨nx x.2, rfl, rfl, rfl, trivial⟩
    ·
      simp only [decide_eq_false_iff_not] at hc1
      refine HW_exit rfl ?_
      refine gx_sq (gx_lp ?_)
      refine gx_here ?_
      refine toN (fin hnorm rfl .nil .nil ?_)
      exact ⟨x.1, x.2, hI, by rw [if_neg (by omega)]; omega⟩

set_option maxHeartbeats 800000 in
theorem ch_all (s : Int) (q : Option Addr) (cq : Nat) (cs : List CmdV) (w0 : World) (hq : Rd w0 q (cs.flatMap encC)) (hok : ∀ c ∈ cs, Pl.ccheck c.cm = 0 ∧ c.d.ok w0 ∧ c.d.bs.length ≤ 140737488355328) (hs : Pl.I64 s) (hl : cs.length ≤ 4611686018427387903) (hb : (Pl.chAll s (cs.map CmdV.cm)).length ≤ 1048576) : C Try.prog 20 [.int .i64 s, .slice q cs.length cq] w0 fun v w' => ∃ (xs : List CmdV) (p : Option Addr) (n cap g : Nat) (b : Blk) (B : List (Nat × Blk)), v = .slice p n cap ∧ Acc 24 5 p n cap (xs.flatMap encC) g b ∧ xs.map CmdV.cm = (Pl.chAll s (cs.map CmdV.cm)) ∧ (∀ x ∈ xs, Held B 5 x.d) ∧ Mem w0 w' No ((g, b) :: B) := by
  refine C_ofM Try.func20 rfl rfl rfl fun κ hret hnorm => ?_
  have hm := Mem.start w0
  refine HW_seq rfl ?_
  refine HW_text (.pure 0 .done) (by kernel_rfl) ?_
  refine rw_p rfl rfl (y_assign rfl) ?_
  refine rw_done ?_
  refine gn_sq ?_
  refine HW_seq rfl ?_
  refine HW_text (.act 0 .done) (by kernel_rfl) ?_
  refine a_alloc rfl rfl z27 hm trivial fun m1 w hg_m1 hm hh => ?_
  replace hm := hm.gapIn
  have ha_o := Acc.nil 24 5 none 0
  refine rw_done ?_
  refine gn_sq ?_
  refine HW_seq rfl ?_
  refine HW_seq rfl ?_
  refine HW_text (.pure 0 (.pure 1 (.pure 2 .done))) (by kernel_rfl) ?_
  refine rw_p rfl rfl (y_move rfl) ?_
  refine rw_p rfl rfl (y_len rfl rfl sl27) ?_
  refine rw_p rfl rfl (y_move rfl) ?_
  refine rw_done ?_
  refine gn_sq ?_
  refine HW_block rfl ?_
  refine HW_loopD (ι := Nat × Ow × List CmdV × List (Nat × Blk) × List Nat) rfl (ks := [0, 4, 5, 9, 10]) (.cons rfl (.cons rfl (.cons rfl (.cons rfl (.cons rfl .nil))))) (fun x => [(11, .int .i64 x.1)]) (fun x w => Mem w0 w No ((x.2.1.g, x.2.1.b) :: (m1, .row 27 [.slice x.2.1.p x.2.1.n x.2.1.cap]) :: x.2.2.2.1) ∧ Acc 24 5 x.2.1.p x.2.1.n x.2.1.cap (x.2.2.1.flatMap encC) x.2.1.g x.2.1.b ∧ x.2.2.1.map CmdV.cm = Pl.chAll s ((cs.take x.1).map CmdV.cm) ∧ (∀ y ∈ x.2.2.1, Held x.2.2.2.1 5 y.d) ∧ x.1 ≤ cs.length ∧ x.2.1.n = x.2.2.1.length ∧ (∀ r ∈ x.2.2.2.2, (r, dblk (some [])) ∈ x.2.2.2.1) ∧ x.2.2.2.2.Nodup) (fun x => cs.length - x.1) (fun x => x.2.2.2.2.map Cx.mark) ((0, ⟨none, 0, 0, 0, .gap⟩, [], [], [])) ⟨(hm.pick [0, 1] rfl), ha_o, rfl, by simp, Nat.zero_le _, rfl, by simp, List.nodup_nil⟩ rfl ⟨rfl, trivial⟩ (fun x w hM => ?_)
  obtain ⟨hm, ha_o, hxm, hH, hk, hn, hmk, hnd⟩ := hM
  refine HW_seq rfl ?_
  refine HW_text (.pure 0 .done) (by kernel_rfl) ?_
  refine rw_p rfl rfl (y_lt rfl rfl) ?_
  refine rw_done ?_
  refine gn_sq ?_
  refine HW_seq rfl ?_
  refine HW_cond rfl rfl (fun hc0 => ?_) (fun hc0 => ?_)
  ·
    simp only [decide_eq_true_eq] at hc0
    obtain ⟨c, hi⟩ : ∃ y_, cs[x.1]? = some y_ := ⟨_, List.getElem?_eq_getElem (by omega)⟩
    obtain ⟨qb, qo, rfl⟩ := hq.atI encC_len (by decide) hi
    obtain ⟨hc, hcd, hcl⟩ := hok c (List.mem_of_getElem? hi)
    have hbn := Pl.chAll_take s (cs.map CmdV.cm) x.1
    rw [← List.map_take] at hbn
    have hx9 := congrArg List.length hxm
    simp only [List.length_map] at hx9
    refine HW_skip rfl ?_
    refine gn_sq ?_
    refine HW_seq rfl ?_
    refine HW_block rfl ?_
    refine HW_seq rfl ?_
    refine HW_text (.pure 0 (.pure 1 (.act 2 (.act 3 .done)))) (by kernel_rfl) ?_
    refine rw_p rfl rfl (y_index rfl rfl sl27 rfl (by omega) (by omega)) ?_
    refine rw_p rfl rfl (y_elA rfl ag24 (hq.ext0 hm.to).nt encC_len hi) ?_
    refine a_alloc rfl rfl z24 hm trivial fun m2 w hg_m2 hm hh => ?_
    refine a_store rfl rfl rfl rfl sz24 rfl hm 0 rfl rfl fun w hm => ?_
    refine rw_done ?_
    refine gn_sq ?_
    refine HW_seq rfl ?_
    refine HW_text (.pure 0 (.pure 1 (.act 2 .done))) (by kernel_rfl) ?_
    refine rw_p rfl rfl (y_loadA (s := 5) (vs := [_, _, _, _, _]) rfl ag24 (hm.nt 0 rfl) rfl) ?_
    refine rw_p rfl rfl (y_move rfl) ?_
    refine a_call rfl rfl rfl go42 (ch_chunks c.cm c.d.p c.d.cap s _) fun v w hR => ?_
    obtain ⟨q1, q2, rfl, hmc⟩ := hR
    refine ⟨trivial, ?_⟩
    replace hm := hm.callN hmc
    refine rw_done ?_
    refine gn_sq ?_
    refine HW_block rfl ?_
    refine HW_range rfl rfl go61 hm fun a_ fn r0 l w LB hLB hfr hl_ hs_ hm => ?_
    refine C.mono (ch_chunks1 c.cm c.d.p c.d.cap s q1 q2 l (fun F i w => ∃ ys p n cap g b, Mem w0 w No ((l, LB .ready none) :: (r0, dblk (some [])) :: (q2, .row 3 [.int .i64 s]) :: (q1, .row 24 (cmV c.cm c.d.p c.cm.bs.length c.d.cap)) :: (m2, .row 24 (encC c)) :: (g, b) :: (m1, .row 27 [.slice p n cap]) :: F) ∧ Acc 24 5 p n cap ((x.2.2.1 ++ ys).flatMap encC) g b ∧ ys.map CmdV.cm = (List.range i).map (fun k => Pl.chAt c.cm s (k : Nat)) ∧ (∀ y ∈ ys, Held F 5 y.d) ∧ (∀ e, e ∈ x.2.2.2.1 → e ∈ F) ∧ n = x.2.2.1.length + i) x.2.2.2.1 _ hc hs hcd.le hcd.spot hcl
      (by rintro F i w ⟨ys, p, n, cap, g, b, hm, -⟩; exact hcd.rd.ext0 hm.to)
      (by rintro F i w ⟨ys, p, n, cap, g, b, hm, -⟩; exact ⟨hm.get (k := 3) rfl, hm.get (k := 2) rfl⟩)
      (by rintro F i w w' N ⟨ys, p, n, cap, g, b, hm, ha, h1, h2, h3, h4⟩ hc; exact ⟨ys, p, n, cap, g, b, Mem.callT (N1 := []) hm hc, ha, h1, fun y hy => (h2 y hy).left, fun e he => List.mem_append_left _ (h3 e he), h4⟩)
      (by rintro F i w ⟨ys, p, n, cap, g, b, hm, -⟩ e he hr; exact hm.own e (by simp [he]) hr)
      (fun F i w q n cp g bb hI hlt hcb hin hacc => ?_) ⟨[], x.2.1.p, x.2.1.n, x.2.1.cap, x.2.1.g, x.2.1.b, hm, by simpa using ha_o, rfl, by simp, fun _ h => h, by omega⟩) (fun v w hR => ?_)
    ·
      subst hLB
      obtain ⟨ys, p_o, n_o, cap_o, g_o, b_o, hm, ha_o, hys, hhy, hBF, hnn⟩ := hI
      obtain rfl := hacc.lenB
      refine Yw.of hfr (hm.get (k := 0) rfl) rfl rfl ?_
      refine HW_text (.act 0 (.act 1 .done)) (by kernel_rfl) ?_
      refine a_alloc rfl rfl z24 hm trivial fun m3 w hg_m3 hm hh => ?_
      refine a_store rfl rfl rfl rfl sz24 rfl hm 0 rfl rfl fun w hm => ?_
      refine rw_done ?_
      refine g_begin hm 1 rfl fun w hm => ?_
      refine HW_block rfl ?_
      refine HW_text (.pure 0 (.pure 1 (.act 2 (.act 3 (.act 4 .done))))) (by kernel_rfl) ?_
      refine rw_p rfl rfl (y_load rfl sc27 (hm.nt 7 rfl) rfl) ?_
      refine rw_p rfl rfl (y_loadA (s := 5) (vs := [_, _, _, _, _]) rfl ag24 (hm.nt 0 rfl) rfl) ?_
      refine a_buildSlice (l := [_, _, _, _, _]) rfl rfl sl27 z24 rfl rfl rfl rfl rfl rfl rfl hm trivial fun m4 w hg_m4 hm hh => ?_
      refine a_append rfl rfl rfl rfl rfl rfl sl27 sl27 z24 rfl rfl (Rd.row0 (hm.get (k := 0) rfl)) rfl ha_o hm 7 rfl (by omega) (by omega) fun p_o cap_o g_o b_o w ha_o hm => ?_
      refine a_store rfl rfl rfl rfl sz27 rfl hm 8 rfl rfl fun w hm => ?_
      refine rw_done ?_
      refine gn_bl ?_
      refine g_end hm 2 rfl fun w hm => ?_
      refine ⟨rfl, ys ++ [mkC (Pl.chAt c.cm s i) q cp], p_o, _, cap_o, g_o, b_o, (hm.pickT [2, 3, 4, 5, 6, 7, 8] 9 rfl), ?_, ?_, ?_, hBF, by omega⟩
      · rw [← List.append_assoc, List.flatMap_append]; simpa [encC_mk, cmV] using ha_o
      · rw [List.map_append, hys, Pl.chunks_next]; rfl
      · exact fun y hy => (List.mem_append.1 hy).elim (hhy y) fun h => by rw [List.mem_singleton.1 h]; exact hacc.held hin
    ·
      subst hLB
      obtain ⟨F, i, ⟨ys, p_o, n_o, cap_o, g_o, b_o, hm, ha_o, hys, hhy, hBF, hnn⟩, hi2⟩ := hR
      have hch : ys.map CmdV.cm = Pl.chunks c.cm s := hys.trans (Pl.chunks_of hi2)
      have hyl := congrArg List.length hys
      simp only [List.length_map, List.length_range] at hyl
      refine ⟨.ready, none, nofun, hm.get (k := 0) rfl, fun w4 hw4 => ?_⟩
      replace hm := g_over hm hw4
      refine gn_bl ?_
      refine gn_bl ?_
      refine gn_sq ?_
      refine HW_text (.pure 0 (.pure 1 .done)) (by kernel_rfl) ?_
      refine rw_p rfl rfl (y_add rfl rfl (i64w (by omega) (by omega))) ?_
      have hne : ∀ r ∈ x.2.2.2.2, r0 ≠ r := fun r hr => hm.headNe (c := dblk (some [])) (by simp [hBF _ (hmk r hr)])
      replace hm := hm.stow 0 rfl
      refine rw_p rfl rfl (y_move rfl) ?_
      refine rw_done ?_
      refine nextD (x.1 + 1, ⟨p_o, n_o, cap_o, g_o, b_o⟩, x.2.2.1 ++ ys, F ++ [(r0, dblk (some []))], r0 :: x.2.2.2.2) (by simp only; omega) ⟨(hm.pickT [3, 4] 5 rfl), ha_o, ?_, ?_, by simp only; omega, by simp only [List.length_append]; omega, marksAdd fun r hr => hBF _ (hmk r hr), List.nodup_cons.2 ⟨fun hr => hne _ hr rfl, hnd⟩⟩ rfl ⟨nx x.1, rfl, rfl, rfl, rfl, rfl, trivial⟩
      · rw [List.map_append, hxm, hch, List.take_add_one, hi]; simp [Pl.chAll]
      · exact fun y hy => (List.mem_append.1 hy).elim (fun h => ((hH y h).mono hBF).left) fun h => (hhy y h).left
  ·
    simp only [decide_eq_false_iff_not] at hc0
    have hke : x.1 = cs.length := by omega
    rw [hke, List.take_length] at hxm
    refine HW_exit rfl ?_
    refine gx_sq (gx_lpD ?_)
    refine gx_here ?_
    refine gn_sq ?_
    refine HW_seq rfl ?_
    refine HW_text (.pure 0 (.pure 1 .done)) (by kernel_rfl) ?_
    refine rw_p rfl rfl (y_load rfl sc27 (hm.nt 1 rfl) rfl) ?_
    refine rw_p rfl rfl (y_assign rfl) ?_
    refine rw_done ?_
    refine gn_sq ?_
    refine HW_ret rfl ?_
    refine toR (finN hret rfl (rs := x.2.2.2.2) hm (fun r hr => by simp [hmk r hr]) hnd .one (L' := _ :: _ :: noDef x.2.2.2.1) (by rw [noDef_cons ha_o.nd, noDef_cons rfl]) fun w hm => ⟨(.tmp rfl .nil), ?_⟩)
    exact ⟨x.2.2.1, _, _, _, _, _, noDef x.2.2.2.1, rfl, ha_o, hxm, fun y hy => (hH y hy).noDef, (hm.pickT [0] 2 rfl)⟩

theorem ch_split (c : Pl.Cm) (p : Option Addr) (cap : Nat) (s : Int) (w0 : World) (hb : SB.ok w0 ⟨p, cap, c.bs⟩) (hl : c.bs.length ≤ 140737488355328) (hc : Pl.ccheck c = 0) (hs : Pl.I64 s)  : C Try.prog 11 [.agg ⟨cmV c p c.bs.length cap⟩, .int .i64 s] w0 fun v w' => ∃ (xs : List CmdV) (p : Option Addr) (n cap g : Nat) (b : Blk) (B : List (Nat × Blk)), v = .slice p n cap ∧ Acc 24 5 p n cap (xs.flatMap encC) g b ∧ xs.map CmdV.cm = (Pl.chunks c s) ∧ (∀ x ∈ xs, Held B 5 x.d) ∧ Mem w0 w' No ((g, b) :: B) := by
  refine C_of Try.func11 rfl rfl rfl fun κ hret hnorm => ?_
  have hm := Mem.start w0
  refine HW_seq rfl ?_
  refine HW_text (.act 0 (.pure 1 .done)) (by kernel_rfl) ?_
  refine a_box rfl rfl rfl rfl hm trivial fun m1 w hg_m1 hm hh => ?_
  refine rw_p rfl rfl (y_assign rfl) ?_
  refine rw_done ?_
  refine gn_sq ?_
  refine HW_seq rfl ?_
  refine HW_text (.pure 0 (.pure 1 (.act 2 (.act 3 (.pure 4 .done))))) (by kernel_rfl) ?_
  refine rw_p rfl rfl (y_move rfl) ?_
  refine rw_p rfl rfl (y_loadA (s := 5) (vs := [_, _, _, _, _]) rfl ag24 (hm.nt 0 rfl) rfl) ?_
  refine a_buildSlice (l := [_, _, _, _, _]) rfl rfl sl27 z24 rfl rfl rfl rfl rfl rfl rfl hm trivial fun m2 w hg_m2 hm hh => ?_
  refine a_call rfl rfl rfl go20 (ch_all s _ 1 [mkC c p cap] _ (Rd.row0 (hm.get (k := 0) rfl)) (by simp only [List.mem_singleton]; rintro _ rfl; exact ⟨hc, hb.ext hm.to, hl⟩) hs (by simp) (by simp only [List.map_cons, List.map_nil, mkC_cm, Pl.chAll_one]; exact Pl.chunks_len c s)) fun v w hR => ?_
  obtain ⟨xs_t, p_t, n_t, cap_t, g_t, b_t, B_t, rfl, ha_t, hx_t, hh_t, hmc⟩ := hR
  refine ⟨trivial, ?_⟩
  replace hm := hm.callT1 hmc
  obtain rfl := ha_t.lenE encC_len (by decide)
  refine rw_p rfl rfl (y_assign rfl) ?_
  refine rw_done ?_
  refine gn_sq ?_
  refine HW_ret rfl ?_
  refine toR (fin hret rfl (.tmp rfl .nil) .one ?_)
  exact ⟨xs_t, _, _, _, _, _, B_t, rfl, ha_t, by rw [hx_t]; simp only [List.map_cons, List.map_nil, mkC_cm, Pl.chAll_one], hh_t, (hm.pickT [0] 3 rfl)⟩

end Go.Proofs.Ytcngaknlagocdaa
