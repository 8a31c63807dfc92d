/- Contracts of functions of the program: what each returns. Conditions: the hypotheses of each theorem. -/
import Derived.Test.YtoemhcpmdeinfaaByt
set_option linter.unusedVariables false
set_option linter.unusedSimpArgs false
namespace Go.Proofs.Ytoemhcpmdeinfaa
open Go Go.Cx

theorem fo36_0 : fldO Try.prog 36 0 = some 0 := by kernel_rfl
theorem fo36_1 : fldO Try.prog 36 1 = some 1 := by kernel_rfl
theorem sc3 : scal Try.prog 3 = true := by kernel_rfl
theorem sc34 : scal Try.prog 34 = true := by kernel_rfl
theorem fo41_0 : fldO Try.prog 41 0 = some 0 := by kernel_rfl
theorem fo59_2 : fldO Try.prog 59 2 = some 2 := by kernel_rfl
theorem ft41 : fldT Try.prog 41 = some [(0, 1), (1, 1)] := by kernel_rfl
theorem sc39 : scal Try.prog 39 = true := by kernel_rfl
theorem sz41 : szO Try.prog 41 = some 2 := by kernel_rfl
theorem z41 : zer Try.prog 41 = some [.int .i64 0, .int .i64 0] := by kernel_rfl
theorem fo59_0 : fldO Try.prog 59 0 = some 0 := by kernel_rfl
theorem fo59_1 : fldO Try.prog 59 1 = some 1 := by kernel_rfl
theorem go27 : isGo Try.prog 27 = true := by kernel_rfl
theorem sc22 : scal Try.prog 22 = true := by kernel_rfl
theorem sz3 : szO Try.prog 3 = some 1 := by kernel_rfl
theorem is5 : (Try.prog.underlying 5).isSome = true := by kernel_rfl
theorem it34 : intO Try.prog 34 = some .u64 := by kernel_rfl
theorem sz34 : szO Try.prog 34 = some 1 := by kernel_rfl
theorem z34 : zer Try.prog 34 = some [.int .u64 0] := by kernel_rfl
theorem fo61_0 : fldO Try.prog 61 0 = some 0 := by kernel_rfl
theorem go25 : isGo Try.prog 25 = true := by kernel_rfl
theorem go26 : isGo Try.prog 26 = true := by kernel_rfl
theorem pb32 : ptrB Try.prog 32 = true := by kernel_rfl
theorem go29 : isGo Try.prog 29 = true := by kernel_rfl

theorem w_fits (x n : Int) (w0 : World) (hv : 0 ≤ x ∧ x ≤ 18446744073709551615) (hn : Pl.I64 n) : C Try.prog 24 [.agg ⟨[.int .u64 x, .int .i64 n]⟩] w0 fun v w' => v = .bool (Pl.fits x n) ∧ Ext No w0 w' := by
  refine C_of Try.func24 rfl rfl rfl fun k hret hnorm => ?_
  have hm := Mem.start w0
  refine HW_seq rfl ?_
  refine HW_text (.act 0 (.pure 1 .done)) (by kernel_rfl) ?_
  refine a_box rfl rfl rfl rfl hm trivial fun m1 w hg_m1 hm hh => ?_
  refine rw_p rfl rfl (y_assign rfl) ?_
  refine rw_done ?_
  refine gn_sq ?_
  refine HW_seq rfl ?_
  refine HW_text (.pure 0 (.pure 1 (.pure 2 (.pure 3 (.pure 4 (.pure 5 (.pure 6 (.pure 7 (.pure 8 (.pure 9 (.pure 10 (.pure 11 (.pure 12 (.pure 13 (.pure 14 (.pure 15 (.pure 16 (.pure 17 (.pure 18 (.pure 19 .done)))))))))))))))))))) (by kernel_rfl) ?_
  refine rw_p rfl rfl (y_fieldAddr rfl fo36_1) ?_
  refine rw_p rfl rfl (y_load rfl sc3 (hm.nt 0 rfl) rfl) ?_
  refine rw_p rfl rfl (y_ge rfl rfl) ?_
  refine rw_p rfl rfl (y_move rfl) ?_
  refine rw_g rfl rfl rfl (fun hc => (y_fieldAddr rfl fo36_1)) ?_
  refine rw_g rfl rfl rfl (fun hc => (y_load (gx hc rfl) sc3 (hm.nt 0 rfl) rfl)) ?_
  refine rw_g rfl rfl rfl (fun hc => (y_le (gx hc rfl) rfl)) ?_
  refine rw_p rfl rfl (y_and rfl rfl rfl) ?_
  refine rw_p rfl rfl (y_move rfl) ?_
  refine rw_g rfl rfl rfl (fun hc => (y_fieldAddr rfl fo36_0)) ?_
  refine rw_g rfl rfl rfl (fun hc => (y_load (gx hc rfl) sc34 (hm.nt 0 rfl) rfl)) ?_
  refine rw_g rfl rfl rfl (fun hc => (y_fieldAddr rfl fo36_1)) ?_
  refine rw_g rfl rfl rfl (fun hc => (y_load (gx hc rfl) sc3 (hm.nt 0 rfl) rfl)) ?_
  refine rw_g rfl rfl rfl (fun hc => (y_mul rfl (gx hc rfl) (i64w (by simp at hc; omega) (by simp at hc; omega)))) ?_
  refine rw_g rfl rfl rfl (fun hc => (y_sub (gx hc rfl) rfl (i64w (by simp at hc; omega) (by simp at hc; omega)))) ?_
  refine rw_g rfl rfl rfl (fun hc => (y_shr (gx hc rfl) (gx hc rfl) (by simp at hc; omega) rfl)) ?_
  refine rw_g rfl rfl rfl (fun hc => (y_shr (gx hc rfl) rfl (by decide) rfl)) ?_
  refine rw_g rfl rfl rfl (fun hc => (y_eq (gx hc rfl) rfl)) ?_
  refine rw_p rfl rfl (y_and rfl rfl rfl) ?_
  refine rw_p rfl rfl (y_assign rfl) ?_
  refine rw_done ?_
  refine gn_sq ?_
  refine HW_ret rfl ?_
  refine toR (fin hret rfl (.tmp rfl .nil) .one ?_)
  exact ⟨congrArg Value.bool (Pl.fits_eq hv), hm.to⟩

theorem r6_fits (x n : Int) (w0 : World) (hv : 0 ≤ x ∧ x ≤ 18446744073709551615) (hn : Pl.I64 n) : C Try.prog 21 [.int .u64 x, .int .i64 n] w0 fun v w' => v = .bool (Pl.fits x n) ∧ Ext No w0 w' := by
  refine C_of Try.func21 rfl rfl rfl fun k hret hnorm => ?_
  have hm := Mem.start w0
  refine HW_seq rfl ?_
  refine HW_text (.pure 0 .done) (by kernel_rfl) ?_
  refine rw_p rfl rfl (y_assign rfl) ?_
  refine rw_done ?_
  refine gn_sq ?_
  refine HW_seq rfl ?_
  refine HW_text (.pure 0 (.pure 1 (.pure 2 (.pure 3 (.pure 4 (.pure 5 (.pure 6 (.pure 7 (.pure 8 (.pure 9 (.pure 10 (.pure 11 (.pure 12 (.pure 13 (.pure 14 (.pure 15 (.pure 16 (.pure 17 .done)))))))))))))))))) (by kernel_rfl) ?_
  refine rw_p rfl rfl (y_move rfl) ?_
  refine rw_p rfl rfl (y_ge rfl rfl) ?_
  refine rw_p rfl rfl (y_move rfl) ?_
  refine rw_g rfl rfl rfl (fun hc => (y_move rfl)) ?_
  refine rw_g rfl rfl rfl (fun hc => (y_le (gx hc rfl) rfl)) ?_
  refine rw_p rfl rfl (y_and rfl rfl rfl) ?_
  refine rw_p rfl rfl (y_move rfl) ?_
  refine rw_g rfl rfl rfl (fun hc => (y_move rfl)) ?_
  refine rw_g rfl rfl rfl (fun hc => (y_eq (gx hc rfl) rfl)) ?_
  refine rw_g rfl rfl rfl (fun hc => (y_move (gx hc rfl))) ?_
  refine rw_gg rfl rfl rfl (fun hc => (y_move rfl)) ?_
  refine rw_gg rfl rfl rfl (fun hc => (y_move rfl)) ?_
  refine rw_gg rfl rfl rfl (fun hc => (y_mul rfl (gx hc rfl) (i64w (by simp at hc; omega) (by simp at hc; omega)))) ?_
  refine rw_gg rfl rfl rfl (fun hc => (y_shr (gx hc rfl) (gx hc rfl) (by simp at hc; omega) rfl)) ?_
  refine rw_gg rfl rfl rfl (fun hc => (y_eq (gx hc rfl) rfl)) ?_
  refine rw_g rfl rfl rfl (fun hc => (y_or (gx hc rfl) rfl (gvn hc rfl))) ?_
  refine rw_p rfl rfl (y_and rfl rfl rfl) ?_
  refine rw_p rfl rfl (y_assign rfl) ?_
  refine rw_done ?_
  refine gn_sq ?_
  refine HW_ret rfl ?_
  refine toR (fin hret rfl (.tmp rfl .nil) .one ?_)
  exact ⟨congrArg Value.bool (Pl.fits_eq' hv), hm.to⟩

theorem w_fail (r e : Nat) (p : Option Addr) (n cap : Nat) (s : Pl.RS) (c a : Int) (w0 : World) (hr : w0.heap[r]? = some (Blk.row e (rdV p n cap s)).toObj) : C Try.prog 27 [.pointer (some ⟨r, 0, none⟩), .int .i64 c, .int .i64 a] w0 fun v w' => v = .tuple ⟨[]⟩ ∧ Mem w0 w' (fun k => k = r) [(r, .row e (rdV p n cap (s.fail c a)))] := by
  refine C_of Try.func27 rfl rfl rfl fun k hret hnorm => ?_
  have hm := Mem.start1 hr
  refine HW_seq rfl ?_
  refine HW_text (.pure 0 (.pure 1 (.pure 2 (.pure 3 (.pure 4 (.pure 5 (.pure 6 (.pure 7 (.pure 8 (.pure 9 .done)))))))))) (by kernel_rfl) ?_
  refine rw_p rfl rfl (y_move rfl) ?_
  refine rw_p rfl rfl (y_nil rfl) ?_
  refine rw_p rfl rfl (y_fieldAddr rfl fo59_2) ?_
  refine rw_p rfl rfl (y_fieldAddr rfl fo41_0) ?_
  refine rw_p rfl rfl (y_load rfl sc39 (hm.nt 0 rfl) rfl) ?_
  refine rw_p rfl rfl (y_eq rfl rfl) ?_
  refine rw_p rfl rfl (y_move rfl) ?_
  refine rw_g rfl rfl rfl (fun hc => (y_move rfl)) ?_
  refine rw_g rfl rfl rfl (fun hc => (y_ne (gx hc rfl) rfl)) ?_
  refine rw_p rfl rfl (y_and rfl rfl rfl) ?_
  refine rw_done ?_
  refine gn_sq ?_
  refine HW_cond rfl rfl (fun hc0 => ?_) (fun hc0 => ?_)
  ·
    simp only [Bool.and_eq_true, Bool.or_eq_true, Bool.and_eq_false_iff, Bool.or_eq_false_iff, Bool.not_eq_true', Bool.not_eq_false', decide_eq_true_eq, decide_eq_false_iff_not] at hc0
    refine HW_text (.pure 0 (.pure 1 (.pure 2 (.pure 3 (.pure 4 (.pure 5 (.act 6 .done))))))) (by kernel_rfl) ?_
    refine rw_p rfl rfl (y_move rfl) ?_
    refine rw_p rfl rfl (y_move rfl) ?_
    refine rw_p rfl rfl (y_move rfl) ?_
    refine rw_p rfl rfl (y_build (cs := [_, _]) z41 ft41 rfl rfl rfl rfl rfl) ?_
    refine rw_p rfl rfl (y_nil rfl) ?_
    refine rw_p rfl rfl (y_fieldAddr rfl fo59_2) ?_
    refine a_store rfl rfl rfl rfl sz41 rfl hm 0 rfl rfl fun w hm => ?_
    refine rw_done ?_
    refine toN (fin hnorm rfl .nil .nil ?_)
    have e : s.fail c a = if s.code = 0 ∧ c ≠ 0 then { s with code := c, fat := a } else s := rfl
    first | (rw [if_pos (by omega)] at e; rw [e]; exact ⟨rfl, hm⟩) | (rw [if_neg (by omega)] at e; rw [e]; exact ⟨rfl, hm⟩)
  ·
    simp only [Bool.and_eq_true, Bool.or_eq_true, Bool.and_eq_false_iff, Bool.or_eq_false_iff, Bool.not_eq_true', Bool.not_eq_false', decide_eq_true_eq, decide_eq_false_iff_not] at hc0
    refine HW_skip rfl ?_
    refine toN (fin hnorm rfl .nil .nil ?_)
    have e : s.fail c a = if s.code = 0 ∧ c ≠ 0 then { s with code := c, fat := a } else s := rfl
    first | (rw [if_pos (by omega)] at e; rw [e]; exact ⟨rfl, hm⟩) | (rw [if_neg (by omega)] at e; rw [e]; exact ⟨rfl, hm⟩)

theorem w_take (r e : Nat) (p : Option Addr) (n cap : Nat) (s : Pl.RS) (m : Int) (w0 : World) (hr : w0.heap[r]? = some (Blk.row e (rdV p n cap s)).toObj) (hcap : n ≤ cap) (hsp : cap ≠ 0 → ∀ ad, p = some ad → ad.spot = none) (hat : s.at_ ≤ n) (hlen : n ≤ 140737488355328) (hm64 : Pl.I64 m) : C Try.prog 25 [.pointer (some ⟨r, 0, none⟩), .int .i64 m] w0 fun v w' => v = .tuple ⟨[tkV p cap s.at_ m (Pl.rtake n s m).2, .bool (Pl.rtake n s m).2]⟩ ∧ Mem w0 w' (fun k => k = r) [(r, .row e (rdV p n cap (Pl.rtake n s m).1))] := by
  refine C_of Try.func25 rfl rfl rfl fun k hret hnorm => ?_
  have hm := Mem.start1 hr
  refine HW_seq rfl ?_
  refine HW_text (.pure 0 (.pure 1 .done)) (by kernel_rfl) ?_
  refine rw_p rfl rfl (y_assign rfl) ?_
  refine rw_p rfl rfl (y_assign rfl) ?_
  refine rw_done ?_
  refine gn_sq ?_
  refine HW_seq rfl ?_
  refine HW_block rfl ?_
  refine HW_seq rfl ?_
  refine HW_text (.pure 0 (.pure 1 (.pure 2 (.pure 3 (.pure 4 (.pure 5 (.pure 6 .done))))))) (by kernel_rfl) ?_
  refine rw_p rfl rfl (y_move rfl) ?_
  refine rw_p rfl rfl (y_nil rfl) ?_
  refine rw_p rfl rfl (y_fieldAddr rfl fo59_2) ?_
  refine rw_p rfl rfl (y_fieldAddr rfl fo41_0) ?_
  refine rw_p rfl rfl (y_load rfl sc39 (hm.nt 0 rfl) rfl) ?_
  refine rw_p rfl rfl (y_ne rfl rfl) ?_
  refine rw_p rfl rfl (y_assign rfl) ?_
  refine rw_done ?_
  refine gn_sq ?_
  refine HW_cond rfl rfl (fun hc0 => ?_) (fun hc0 => ?_)
  ·
    simp only [Bool.and_eq_true, Bool.or_eq_true, Bool.and_eq_false_iff, Bool.or_eq_false_iff, Bool.not_eq_true', Bool.not_eq_false', decide_eq_true_eq, decide_eq_false_iff_not] at hc0
    refine HW_seq rfl ?_
    refine HW_text (.pure 0 (.pure 1 .done)) (by kernel_rfl) ?_
    refine rw_p rfl rfl (y_assign rfl) ?_
    refine rw_p rfl rfl (y_assign rfl) ?_
    refine rw_done ?_
    refine gn_sq ?_
    refine HW_ret rfl ?_
    refine gr_bl (gr_sq ?_)
    refine toR (fin hret rfl (.tmp rfl (.tmp rfl .nil)) .more ?_)
    have e : Pl.rtake n s m = (s, false) := by unfold Pl.rtake; rw [if_pos hc0]
    rw [e]; exact ⟨rfl, hm⟩
  ·
    simp only [Bool.and_eq_true, Bool.or_eq_true, Bool.and_eq_false_iff, Bool.or_eq_false_iff, Bool.not_eq_true', Bool.not_eq_false', decide_eq_true_eq, decide_eq_false_iff_not] at hc0
    refine HW_seq rfl ?_
    refine HW_text (.pure 0 (.pure 1 (.pure 2 .done))) (by kernel_rfl) ?_
    refine rw_p rfl rfl (y_move rfl) ?_
    refine rw_p rfl rfl (y_lt rfl rfl) ?_
    refine rw_p rfl rfl (y_assign rfl) ?_
    refine rw_done ?_
    refine gn_sq ?_
    refine HW_cond rfl rfl (fun hc1 => ?_) (fun hc1 => ?_)
    ·
      simp only [Bool.and_eq_true, Bool.or_eq_true, Bool.and_eq_false_iff, Bool.or_eq_false_iff, Bool.not_eq_true', Bool.not_eq_false', decide_eq_true_eq, decide_eq_false_iff_not] at hc1
      refine HW_seq rfl ?_
      refine HW_text (.pure 0 (.pure 1 (.pure 2 (.pure 3 (.pure 4 (.act 5 .done)))))) (by kernel_rfl) ?_
      refine rw_p rfl rfl (y_move rfl) ?_
      refine rw_p rfl rfl (y_move rfl) ?_
      refine rw_p rfl rfl (y_nil rfl) ?_
      refine rw_p rfl rfl (y_fieldAddr rfl fo59_1) ?_
      refine rw_p rfl rfl (y_load rfl sc3 (hm.nt 0 rfl) rfl) ?_
      refine a_call rfl rfl rfl go27 (w_fail _ _ _ _ _ s _ _ _ (hm.get (k := 0) rfl)) fun v w hR => ?_
      obtain ⟨rfl, hmc⟩ := hR
      refine ⟨trivial, ?_⟩
      replace hm := hm.callJ 0 rfl hmc
      refine rw_done ?_
      refine gn_sq ?_
      refine HW_seq rfl ?_
      refine HW_text (.pure 0 (.pure 1 .done)) (by kernel_rfl) ?_
      refine rw_p rfl rfl (y_assign rfl) ?_
      refine rw_p rfl rfl (y_assign rfl) ?_
      refine rw_done ?_
      refine gn_sq ?_
      refine HW_ret rfl ?_
      refine gr_bl (gr_sq ?_)
      refine toR (fin hret rfl (.tmp rfl (.tmp rfl .nil)) .more ?_)
      have e : Pl.rtake n s m = (s.fail 2 s.at_, false) := by unfold Pl.rtake; rw [if_neg hc0, if_pos hc1]
      rw [e]; exact ⟨rfl, hm⟩
    ·
      simp only [Bool.and_eq_true, Bool.or_eq_true, Bool.and_eq_false_iff, Bool.or_eq_false_iff, Bool.not_eq_true', Bool.not_eq_false', decide_eq_true_eq, decide_eq_false_iff_not] at hc1
      refine HW_seq rfl ?_
      refine HW_draw (.pure 0 (.pure 1 (.pure 2 (.pure 3 (.pure 4 (.pure 5 (.pure 6 (.pure 7 (.pure 8 (.pure 9 (.pure 10 (.pure 11 (.pure 12 .done))))))))))))) No mix (by kernel_rfl) hm fun w hw hm0 hh => ?_
      have hm := hm0
      refine rw_p rfl rfl (y_move rfl) ?_
      refine rw_p rfl rfl (y_move rfl) ?_
      refine rw_p rfl rfl (y_nil rfl) ?_
      refine rw_p rfl rfl (y_fieldAddr rfl fo59_0) ?_
      refine rw_p rfl rfl (y_load rfl sc22 (hm0.nd 0 rfl id) rfl) ?_
      refine rw_p rfl rfl (y_len rfl rfl sl22) ?_
      refine rw_p rfl rfl (y_move rfl) ?_
      refine rw_p rfl rfl (y_nil rfl) ?_
      refine rw_p rfl rfl (y_fieldAddr rfl fo59_1) ?_
      refine rw_p rfl rfl (y_load rfl sc3 (hm0.nd 0 rfl id) rfl) ?_
      refine rw_p rfl rfl (y_sub rfl rfl (i64w (by omega) (by omega))) ?_
      refine rw_p rfl rfl (y_gt rfl rfl) ?_
      refine rw_p rfl rfl (y_assign rfl) ?_
      refine rw_done ?_
      refine gn_sq ?_
      refine HW_cond rfl rfl (fun hc2 => ?_) (fun hc2 => ?_)
      ·
        simp only [Bool.and_eq_true, Bool.or_eq_true, Bool.and_eq_false_iff, Bool.or_eq_false_iff, Bool.not_eq_true', Bool.not_eq_false', decide_eq_true_eq, decide_eq_false_iff_not] at hc2
        refine HW_seq rfl ?_
        refine HW_text (.pure 0 (.pure 1 (.pure 2 (.pure 3 (.pure 4 (.pure 5 (.act 6 .done))))))) (by kernel_rfl) ?_
        refine rw_p rfl rfl (y_move rfl) ?_
        refine rw_p rfl rfl (y_move rfl) ?_
        refine rw_p rfl rfl (y_nil rfl) ?_
        refine rw_p rfl rfl (y_fieldAddr rfl fo59_0) ?_
        refine rw_p rfl rfl (y_load rfl sc22 (hm.nt 0 rfl) rfl) ?_
        refine rw_p rfl rfl (y_len rfl rfl sl22) ?_
        refine a_call rfl rfl rfl go27 (w_fail _ _ _ _ _ s _ _ _ (hm.get (k := 0) rfl)) fun v w hR => ?_
        obtain ⟨rfl, hmc⟩ := hR
        refine ⟨trivial, ?_⟩
        replace hm := hm.callJ 0 rfl hmc
        refine rw_done ?_
        refine gn_sq ?_
        refine HW_seq rfl ?_
        refine HW_text (.pure 0 (.pure 1 .done)) (by kernel_rfl) ?_
        refine rw_p rfl rfl (y_assign rfl) ?_
        refine rw_p rfl rfl (y_assign rfl) ?_
        refine rw_done ?_
        refine gn_sq ?_
        refine HW_ret rfl ?_
        refine gr_bl (gr_sq ?_)
        refine toR (fin hret rfl (.tmp rfl (.tmp rfl .nil)) .more ?_)
        have e : Pl.rtake n s m = (s.fail 8 n, false) := by unfold Pl.rtake; rw [if_neg hc0, if_neg hc1, if_pos hc2]
        rw [e]; exact ⟨rfl, hm⟩
      ·
        simp only [Bool.and_eq_true, Bool.or_eq_true, Bool.and_eq_false_iff, Bool.or_eq_false_iff, Bool.not_eq_true', Bool.not_eq_false', decide_eq_true_eq, decide_eq_false_iff_not] at hc2
        refine HW_skip rfl ?_
        refine gn_bl ?_
        refine gn_sq ?_
        refine HW_seq rfl ?_
        refine HW_text (.pure 0 (.pure 1 (.pure 2 (.pure 3 (.pure 4 (.pure 5 (.pure 6 (.pure 7 (.act 8 .done))))))))) (by kernel_rfl) ?_
        refine rw_p rfl rfl (y_move rfl) ?_
        refine rw_p rfl rfl (y_nil rfl) ?_
        refine rw_p rfl rfl (y_fieldAddr rfl fo59_1) ?_
        refine rw_p rfl rfl (y_load rfl sc3 (hm.nt 0 rfl) rfl) ?_
        refine rw_p rfl rfl (y_move rfl) ?_
        refine rw_p rfl rfl (y_add rfl rfl (i64w (by omega) (by omega))) ?_
        refine rw_p rfl rfl (y_nil rfl) ?_
        refine rw_p rfl rfl (y_fieldAddr rfl fo59_1) ?_
        refine a_store rfl rfl rfl rfl sz3 rfl hm 0 rfl rfl fun w hm => ?_
        refine rw_done ?_
        refine gn_sq ?_
        refine HW_seq rfl ?_
        refine HW_draw (.pure 0 (.pure 1 (.pure 2 (.pure 3 (.pure 4 (.pure 5 (.pure 6 (.pure 7 (.pure 8 (.pure 9 (.pure 10 (.pure 11 (.pure 12 (.pure 13 (.pure 14 (.pure 15 (.pure 16 .done))))))))))))))))) No mix (by kernel_rfl) hm fun w hw hm0 hh => ?_
        have hm := hm0
        refine rw_p rfl rfl (y_move rfl) ?_
        refine rw_p rfl rfl (y_nil rfl) ?_
        refine rw_p rfl rfl (y_fieldAddr rfl fo59_0) ?_
        refine rw_p rfl rfl (y_load rfl sc22 (hm0.nd 0 rfl id) rfl) ?_
        refine rw_p rfl rfl (y_move rfl) ?_
        refine rw_p rfl rfl (y_nil rfl) ?_
        refine rw_p rfl rfl (y_fieldAddr rfl fo59_1) ?_
        refine rw_p rfl rfl (y_load rfl sc3 (hm0.nd 0 rfl id) rfl) ?_
        refine rw_p rfl rfl (y_move rfl) ?_
        refine rw_p rfl rfl (y_sub rfl rfl ((i64w (by omega) (by omega)).trans (by omega : (s.at_ : Int) + m - m = (s.at_ : Int)))) ?_
        refine rw_p rfl rfl (y_move rfl) ?_
        refine rw_p rfl rfl (y_nil rfl) ?_
        refine rw_p rfl rfl (y_fieldAddr rfl fo59_1) ?_
        refine rw_p rfl rfl (y_load rfl sc3 (hm0.nd 0 rfl id) rfl) ?_
        refine rw_p rfl rfl (y_slice (ln := s.at_) (hn := s.at_ + m.toNat) rfl sl22 ⟨_, rfl⟩ ⟨_, congrArg (fun x => some (Value.int .i64 x)) (by omega)⟩ (by omega) (by omega) (fun h => hsp (by omega))) ?_
        refine rw_p rfl rfl (y_assign rfl) ?_
        refine rw_p rfl rfl (y_assign rfl) ?_
        refine rw_done ?_
        refine gn_sq ?_
        refine HW_ret rfl ?_
        refine toR (fin hret rfl (.tmp rfl (.tmp rfl .nil)) .more ?_)
        have e : Pl.rtake n s m = ({ s with at_ := s.at_ + m.toNat }, true) := by unfold Pl.rtake; rw [if_neg hc0, if_neg hc1, if_neg hc2]
        have h9 : (s.at_ : Int) + m = ((s.at_ + m.toNat : Nat) : Int) := by omega
        rw [h9] at hm
        rw [e]; exact ⟨by simp only [tkV, cond_true]; rw [Nat.add_sub_cancel_left], hm⟩

theorem w_num1 (x c : Int) (r : Nat) (w0 : World) (hr : w0.heap[r]? = some (Blk.row 34 [.int .u64 x]).toObj) (hx : 0 ≤ x ∧ x < 72057594037927936) (hc : 0 ≤ c ∧ c < 256) : C Try.prog 29 [.int .u8 c, .pointer (some ⟨r, 0, none⟩)] w0 fun v w' => v = .int .u64 (x * 256 + c) ∧ Mem w0 w' (fun k => k = r) [(r, .row 34 [.int .u64 (x * 256 + c)])] := by
  refine C_of Try.func29 rfl rfl rfl fun k hret hnorm => ?_
  have hm := Mem.start1 hr
  refine HW_seq rfl ?_
  refine HW_text (.pure 0 .done) (by kernel_rfl) ?_
  refine rw_p rfl rfl (y_assign rfl) ?_
  refine rw_done ?_
  refine gn_sq ?_
  refine HW_seq rfl ?_
  refine HW_text (.pure 0 (.pure 1 (.pure 2 (.pure 3 (.pure 4 (.act 5 .done)))))) (by kernel_rfl) ?_
  refine rw_p rfl rfl (y_load rfl sc34 (hm.nt 0 rfl) rfl) ?_
  refine rw_p rfl rfl (y_shl rfl rfl (by decide) (shl8 hx)) ?_
  refine rw_p rfl rfl (y_move rfl) ?_
  refine rw_p rfl rfl (y_conv rfl is5 it34 (u64w (by omega) (by omega))) ?_
  refine rw_p rfl rfl (y_or_ rfl rfl (or8 (by omega) (by omega))) ?_
  refine a_store rfl rfl rfl rfl sz34 rfl hm 0 rfl rfl fun w hm => ?_
  refine rw_done ?_
  refine gn_sq ?_
  refine HW_seq rfl ?_
  refine HW_text (.pure 0 (.pure 1 .done)) (by kernel_rfl) ?_
  refine rw_p rfl rfl (y_load rfl sc34 (hm.nt 0 rfl) rfl) ?_
  refine rw_p rfl rfl (y_assign rfl) ?_
  refine rw_done ?_
  refine gn_sq ?_
  refine HW_ret rfl ?_
  refine toR (fin hret rfl (.tmp rfl .nil) .one ?_)
  exact ⟨rfl, hm⟩

theorem w_num (w0 : World) : C Try.prog 26 [] w0 fun v w' => ∃ m, v = .func (.func 29) #[] ⟨[.pointer (some ⟨m, 0, none⟩)]⟩ ∧ Mem w0 w' No [(m, .row 34 [.int .u64 0])] := by
  refine C_of Try.func26 rfl rfl rfl fun k hret hnorm => ?_
  have hm := Mem.start w0
  refine HW_seq rfl ?_
  refine HW_text (.pure 0 .done) (by kernel_rfl) ?_
  refine rw_p rfl rfl (y_assign rfl) ?_
  refine rw_done ?_
  refine gn_sq ?_
  refine HW_seq rfl ?_
  refine HW_text (.act 0 (.act 1 .done)) (by kernel_rfl) ?_
  refine a_alloc rfl rfl z34 hm trivial fun m1 w hg_m1 hm hh => ?_
  refine a_store rfl rfl rfl rfl sz34 rfl hm 0 rfl rfl fun w hm => ?_
  refine rw_done ?_
  refine gn_sq ?_
  refine HW_seq rfl ?_
  refine HW_text (.pure 0 (.pure 1 .done)) (by kernel_rfl) ?_
  refine rw_p rfl rfl (y_func rfl rfl) ?_
  refine rw_p rfl rfl (y_assign rfl) ?_
  refine rw_done ?_
  refine gn_sq ?_
  refine HW_ret rfl ?_
  refine toR (fin hret rfl (.tmp rfl .nil) .one ?_)
  exact ⟨_, rfl, hm⟩

set_option maxHeartbeats 400000 in
theorem w_uint (r e : Nat) (p : Option Addr) (cap : Nat) (bs : List UInt8) (s : Pl.RS) (m : Int) (w0 : World) (hr : w0.heap[r]? = some (Blk.row e (rdV p bs.length cap s)).toObj) (hd : Rd w0 p (bs.flatMap encB)) (hne : bs.flatMap encB ≠ [] → ∀ ad, p = some ad → ad.block ≠ r) (hcap : bs.length ≤ cap) (hsp : cap ≠ 0 → ∀ ad, p = some ad → ad.spot = none) (hat : s.at_ ≤ bs.length) (hlen : bs.length ≤ 140737488355328) (hm64 : Pl.I64 m) : C Try.prog 12 [.pointer (some ⟨r, 0, none⟩), .int .i64 m] w0 fun v w' => v = .int .u64 (Pl.ruint bs s m).2 ∧ Mem w0 w' (fun k => k = r) [(r, .row e (rdV p bs.length cap (Pl.ruint bs s m).1))] := by
  refine C_of Try.func12 rfl rfl rfl fun k hret hnorm => ?_
  have hm := Mem.start1 hr
  refine HW_seq rfl ?_
  refine HW_text (.pure 0 .done) (by kernel_rfl) ?_
  refine rw_p rfl rfl (y_assign rfl) ?_
  refine rw_done ?_
  refine gn_sq ?_
  refine HW_seq rfl ?_
  refine HW_seq rfl ?_
  refine HW_text (.pure 0 (.pure 1 .done)) (by kernel_rfl) ?_
  refine rw_p rfl rfl (y_move rfl) ?_
  refine rw_p rfl rfl (y_pnil rfl rfl pb32) ?_
  refine rw_done ?_
  refine gn_sq ?_
  refine HW_condF rfl rfl rfl ?_
  refine HW_skip rfl ?_
  refine gn_sq ?_
  refine HW_via (ι := Unit) rfl (ks := [0, 4]) (.cons rfl (.cons rfl .nil)) (fun x => [(1, .int .i64 (Pl.usize m))]) (fun x w => Mem w0 w (fun k => k = r) [(r, .row e (rdV p bs.length cap s))]) ?_ (fun x w hM => ?_)
  ·
    refine HW_seq rfl ?_
    refine HW_text (.pure 0 (.pure 1 (.pure 2 (.pure 3 (.pure 4 (.pure 5 .done)))))) (by kernel_rfl) ?_
    refine rw_p rfl rfl (y_move rfl) ?_
    refine rw_p rfl rfl (y_lt rfl rfl) ?_
    refine rw_p rfl rfl (y_move rfl) ?_
    refine rw_g rfl rfl rfl (fun hc => (y_move rfl)) ?_
    refine rw_g rfl rfl rfl (fun hc => (y_gt (gx hc rfl) rfl)) ?_
    refine rw_p rfl rfl (y_or rfl rfl rfl) ?_
    refine rw_done ?_
    refine gn_sq ?_
    refine HW_cond rfl rfl (fun hc1 => ?_) (fun hc1 => ?_)
    ·
      simp only [Bool.and_eq_true, Bool.or_eq_true, Bool.and_eq_false_iff, Bool.or_eq_false_iff, Bool.not_eq_true', Bool.not_eq_false', decide_eq_true_eq, decide_eq_false_iff_not] at hc1
      refine HW_text (.pure 0 .done) (by kernel_rfl) ?_
      refine rw_p rfl rfl (y_assign rfl) ?_
      refine rw_done ?_
      exact gn_vi () hm ⟨by unfold Pl.usize; first | (rw [if_pos (by omega)]; rfl) | (rw [if_neg (by omega)]; rfl), rfl, rfl, trivial⟩
    ·
      simp only [Bool.and_eq_true, Bool.or_eq_true, Bool.and_eq_false_iff, Bool.or_eq_false_iff, Bool.not_eq_true', Bool.not_eq_false', decide_eq_true_eq, decide_eq_false_iff_not] at hc1
      refine HW_skip rfl ?_
      exact gn_vi () hm ⟨by unfold Pl.usize; first | (rw [if_pos (by omega)]; rfl) | (rw [if_neg (by omega)]; rfl), rfl, rfl, trivial⟩
  ·
    have hm := hM
    refine HW_seq rfl ?_
    refine HW_text (.pure 0 (.pure 1 (.pure 2 (.pure 3 (.act 4 (.pure 5 (.pure 6 (.pure 7 (.pure 8 (.pure 9 .done)))))))))) (by kernel_rfl) ?_
    refine rw_p rfl rfl (y_move rfl) ?_
    refine rw_p rfl rfl (y_nil rfl) ?_
    refine rw_p rfl rfl (y_fieldAddr rfl fo61_0) ?_
    refine rw_p rfl rfl (y_move rfl) ?_
    refine a_call rfl rfl rfl go25 (w_take r e p bs.length cap s (Pl.usize m) _ (hm.get (k := 0) rfl) hcap hsp hat hlen (by unfold Pl.usize; split <;> omega)) fun v w hR => ?_
    obtain ⟨rfl, hmc⟩ := hR
    refine ⟨trivial, ?_⟩
    replace hm := hm.callJ 0 rfl hmc
    refine rw_p rfl rfl (y_move rfl) ?_
    refine rw_p rfl rfl (y_extract rfl rfl) ?_
    refine rw_p rfl rfl (y_extract rfl rfl) ?_
    refine rw_p rfl rfl (y_assign rfl) ?_
    refine rw_p rfl rfl (y_assign rfl) ?_
    refine rw_done ?_
    refine gn_sq ?_
    refine HW_seq rfl ?_
    refine HW_seq rfl ?_
    refine HW_text (.pure 0 (.pure 1 .done)) (by kernel_rfl) ?_
    refine rw_p rfl rfl (y_move rfl) ?_
    refine rw_p rfl rfl (y_not rfl) ?_
    refine rw_done ?_
    refine gn_sq ?_
    refine HW_cond rfl rfl (fun hc2 => ?_) (fun hc2 => ?_)
    ·
      have hok : (Pl.rtake bs.length s (Pl.usize m)).2 = false := by simpa using hc2
      refine HW_seq rfl ?_
      refine HW_text (.pure 0 .done) (by kernel_rfl) ?_
      refine rw_p rfl rfl (y_assign rfl) ?_
      refine rw_done ?_
      refine gn_sq ?_
      refine HW_ret rfl ?_
      refine gr_sq ?_
      refine toR (fin hret rfl (.tmp rfl .nil) .one ?_)
      exact ⟨by unfold Pl.ruint; rw [hok]; rfl, by rw [Pl.ruint_fst]; exact hm⟩
    ·
      have hok : (Pl.rtake bs.length s (Pl.usize m)).2 = true := by simpa using hc2
      obtain ⟨hc0, hu0, hu1, hst⟩ := Pl.rtake_ok hok
      have hu8 : Pl.usize m ≤ 8 := by unfold Pl.usize; split <;> omega
      have hcs : Rd w0 (slp p cap s.at_ 1) (((bs.drop s.at_).take (Pl.usize m).toNat).flatMap encB) := hd.sub hcap
      have hcl : ((bs.drop s.at_).take (Pl.usize m).toNat).length = (Pl.usize m).toNat := by rw [List.length_take, List.length_drop]; omega
      generalize hbs : (bs.drop s.at_).take (Pl.usize m).toNat = cs at hcs hcl
      obtain ⟨pp, hpp⟩ : ∃ pp, slp p cap s.at_ 1 = pp := ⟨_, rfl⟩
      rw [hpp] at hcs
      have hne' : cs.flatMap encB ≠ [] → ∀ ad, pp = some ad → ¬ ad.block = r := fun h ad e => by
        obtain ⟨a2, e2, e3⟩ := slp_block (hpp.trans e)
        rw [← e3]
        exact hne (fun e4 => by rw [nilB e4] at hbs; simp at hbs; rw [hbs] at h; exact h rfl) a2 e2
      refine HW_skip rfl ?_
      refine gn_sq ?_
      refine HW_seq rfl ?_
      refine HW_text (.pure 0 .done) (by kernel_rfl) ?_
      refine rw_p rfl rfl (y_assign rfl) ?_
      refine rw_done ?_
      refine gn_sq ?_
      refine HW_seq rfl ?_
      refine HW_text (.act 0 (.pure 1 .done)) (by kernel_rfl) ?_
      refine a_call rfl rfl rfl go26 (w_num _) fun v w hR => ?_
      obtain ⟨m_x, rfl, hmc⟩ := hR
      refine ⟨trivial, ?_⟩
      replace hm := hm.callN hmc
      refine rw_p rfl rfl (y_assign rfl) ?_
      refine rw_done ?_
      refine gn_sq ?_
      refine HW_seq rfl ?_
      refine HW_seq rfl ?_
      refine HW_text (.pure 0 (.pure 1 (.pure 2 .done))) (by kernel_rfl) ?_
      refine rw_p rfl rfl (y_v (y_move rfl) (show _ = Value.slice pp cs.length (cap - s.at_) by rw [hok, hcl, ← hpp]; rfl)) ?_
      refine rw_p rfl rfl (y_len rfl rfl sl22) ?_
      refine rw_p rfl rfl (y_move rfl) ?_
      refine rw_done ?_
      refine gn_sq ?_
      refine HW_block rfl ?_
      refine HW_loopK (ι := Nat) rfl (ks := [4, 8, 30, 31]) (.cons rfl (.cons rfl (.cons rfl (.cons rfl .nil)))) (fun k => [(32, .int .i64 k), (7, .int .u64 (Pl.num 0 (cs.take k)))]) (fun k w => Mem w0 w (fun k => k = r) [(m_x, .row 34 [.int .u64 (Pl.num 0 (cs.take k))]), (r, .row e (rdV p bs.length cap (Pl.rtake bs.length s (Pl.usize m)).1))] ∧ k ≤ cs.length) (fun k => cs.length - k) 0 (⟨hm, Nat.zero_le _⟩) ⟨rfl, rfl, trivial⟩ (fun k w hM => ?_)
      obtain ⟨hm, hk⟩ := hM
      refine HW_seq rfl ?_
      refine HW_text (.pure 0 .done) (by kernel_rfl) ?_
      refine rw_p rfl rfl (y_lt rfl rfl) ?_
      refine rw_done ?_
      refine gn_sq ?_
      refine HW_seq rfl ?_
      refine HW_cond rfl rfl (fun hc3 => ?_) (fun hc3 => ?_)
      ·
        simp only [decide_eq_true_eq] at hc3
        obtain ⟨x, hi⟩ : ∃ y_, cs[k]? = some y_ := ⟨_, List.getElem?_eq_getElem (by omega)⟩
        obtain ⟨qb, qo, rfl⟩ := hcs.atI encB_len (by decide) hi
        have hnx : Pl.num 0 (cs.take (k + 1)) = Pl.num 0 (cs.take k) * 256 + x.toNat := by rw [List.take_add_one, hi, Pl.num_app]; rfl
        have hxl : x.toNat < 256 := UInt8.toNat_lt x
        have hnb := Pl.num_bnd (cs.take k) 0 (Int.le_refl _)
        have hpw : (256 : Int) ^ (cs.take k).length ≤ 256 ^ 7 := Pl.pow_le (by rw [List.length_take]; omega)
        have hp7 : (256 : Int) ^ 7 = 72057594037927936 := by decide
        refine HW_skip rfl ?_
        refine gn_sq ?_
        refine HW_seq rfl ?_
        refine HW_block rfl ?_
        refine HW_seq rfl ?_
        refine HW_text (.pure 0 (.pure 1 (.pure 2 .done))) (by kernel_rfl) ?_
        refine rw_p rfl rfl (y_index rfl rfl sl22 rfl (by omega) (by omega)) ?_
        refine rw_p rfl rfl (y_el1 rfl sc5 (hcs.extN hm.to hne').nt encB_len hi rfl) ?_
        refine rw_p rfl rfl (y_assign rfl) ?_
        refine rw_done ?_
        refine gn_sq ?_
        refine HW_text (.pure 0 (.pure 1 (.act 2 (.pure 3 .done)))) (by kernel_rfl) ?_
        refine rw_p rfl rfl (y_move rfl) ?_
        refine rw_p rfl rfl (y_move rfl) ?_
        refine a_callV rfl rfl rfl rfl go29 (w_num1 _ _ m_x _ (hm.get (k := 0) rfl) (by omega) (by omega)) fun v w hR => ?_
        obtain ⟨rfl, hmc⟩ := hR
        refine ⟨trivial, ?_⟩
        replace hm := hm.callJ 0 rfl hmc
        refine rw_p rfl rfl (y_assign rfl) ?_
        refine rw_done ?_
        refine gn_bl ?_
        refine gn_sq ?_
        refine HW_text (.pure 0 (.pure 1 .done)) (by kernel_rfl) ?_
        refine rw_p rfl rfl (y_add rfl rfl (i64w (by omega) (by omega))) ?_
        refine rw_p rfl rfl (y_move rfl) ?_
        refine rw_done ?_
        refine next (k + 1) (by omega) ⟨by rw [hnx]; exact hm, by omega⟩ ⟨nx k, by rw [hnx]; rfl, rfl, rfl, rfl, rfl, trivial⟩
      ·
        simp only [decide_eq_false_iff_not] at hc3
        obtain rfl : k = cs.length := by omega
        rw [List.take_length] at hm
        refine HW_exit rfl ?_
        refine gx_sq (gx_lp ?_)
        refine gx_here ?_
        refine gn_sq ?_
        refine HW_seq rfl ?_
        refine HW_text (.pure 0 (.pure 1 .done)) (by kernel_rfl) ?_
        refine rw_p rfl rfl (y_move rfl) ?_
        refine rw_p rfl rfl (y_assign rfl) ?_
        refine rw_done ?_
        refine gn_sq ?_
        refine HW_ret rfl ?_
        refine toR (fin hret rfl (.tmp rfl .nil) .one ?_)
        have e2 : (Pl.ruint bs s m).2 = Pl.num 0 cs := by unfold Pl.ruint; rw [if_pos hok, hbs]
        rw [e2, Pl.ruint_fst]
        exact ⟨by rw [List.take_length], hm.tail⟩

end Go.Proofs.Ytoemhcpmdeinfaa
