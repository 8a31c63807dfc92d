/- Contracts of functions of the program: what each returns. Conditions: the hypotheses of each theorem. -/
import Derived.Test.YthailbggeafckaaGreatByt
set_option linter.unusedVariables false
set_option linter.unusedSimpArgs false
namespace Go.Proofs.YthailbggeafckaaGreat
open Go Go.Cx

theorem fo145_0 : fldO Tryz.prog 145 0 = some 0 := by kernel_rfl
theorem fo145_1 : fldO Tryz.prog 145 1 = some 1 := by kernel_rfl
theorem sc23 : scal Tryz.prog 23 = true := by kernel_rfl
theorem fo123_0 : fldO Tryz.prog 123 0 = some 0 := by kernel_rfl
theorem fo160_2 : fldO Tryz.prog 160 2 = some 2 := by kernel_rfl
theorem ft123 : fldT Tryz.prog 123 = some [(0, 1), (1, 1)] := by kernel_rfl
theorem sc34 : scal Tryz.prog 34 = true := by kernel_rfl
theorem sz123 : szO Tryz.prog 123 = some 2 := by kernel_rfl
theorem z123 : zer Tryz.prog 123 = some [.int .i64 0, .int .i64 0] := by kernel_rfl
theorem fo160_0 : fldO Tryz.prog 160 0 = some 0 := by kernel_rfl
theorem fo160_1 : fldO Tryz.prog 160 1 = some 1 := by kernel_rfl
theorem go93 : isGo Tryz.prog 93 = true := by kernel_rfl
theorem sc22 : scal Tryz.prog 22 = true := by kernel_rfl
theorem sz3 : szO Tryz.prog 3 = some 1 := by kernel_rfl
theorem is5 : (Tryz.prog.underlying 5).isSome = true := by kernel_rfl
theorem it23 : intO Tryz.prog 23 = some .u64 := by kernel_rfl
theorem sz23 : szO Tryz.prog 23 = some 1 := by kernel_rfl
theorem z23 : zer Tryz.prog 23 = some [.int .u64 0] := by kernel_rfl
theorem fo162_0 : fldO Tryz.prog 162 0 = some 0 := by kernel_rfl
theorem go94 : isGo Tryz.prog 94 = true := by kernel_rfl
theorem go95 : isGo Tryz.prog 95 = true := by kernel_rfl
theorem pb118 : ptrB Tryz.prog 118 = true := by kernel_rfl
theorem go105 : isGo Tryz.prog 105 = true := by kernel_rfl
theorem ag145 : aggS Tryz.prog 145 = some 2 := by kernel_rfl
theorem go101 : isGo Tryz.prog 101 = true := by kernel_rfl
theorem go43 : isGo Tryz.prog 43 = true := by kernel_rfl
theorem is23 : (Tryz.prog.underlying 23).isSome = true := by kernel_rfl
theorem it5 : intO Tryz.prog 5 = some .u8 := by kernel_rfl
theorem sl174 : slcO Tryz.prog 174 = some (145, 2, 16) := by kernel_rfl
theorem sz145 : szO Tryz.prog 145 = some 2 := by kernel_rfl
theorem z145 : zer Tryz.prog 145 = some [.int .u64 0, .int .i64 0] := by kernel_rfl
theorem bt22_9 : bts Tryz.prog 22 9 = true := by kernel_rfl
theorem go45 : isGo Tryz.prog 45 = true := by kernel_rfl
theorem ag123 : aggS Tryz.prog 123 = some 2 := by kernel_rfl
theorem go56 : isGo Tryz.prog 56 = true := by kernel_rfl
theorem it3 : intO Tryz.prog 3 = some .i64 := by kernel_rfl
theorem go92 : isGo Tryz.prog 92 = true := by kernel_rfl
theorem ft160 : fldT Tryz.prog 160 = some [(0, 1), (1, 1), (2, 2)] := by kernel_rfl
theorem ft162 : fldT Tryz.prog 162 = some [(0, 4)] := by kernel_rfl
theorem z160 : zer Tryz.prog 160 = some [.slice none 0 0, .int .i64 0, .int .i64 0, .int .i64 0] := by kernel_rfl
theorem z162 : zer Tryz.prog 162 = some [.slice none 0 0, .int .i64 0, .int .i64 0, .int .i64 0] := by kernel_rfl

theorem w_fits (x n : Int) (w0 : World) (hv : 0 ≤ x ∧ x ≤ 18446744073709551615) (hn : Pl.I64 n) : C Tryz.prog 101 [.agg ⟨[.int .u64 x, .int .i64 n]⟩] w0 fun v w' => v = .bool (Pl.fits x n) ∧ Ext No w0 w' := by
  refine C_of Tryz.func101 rfl rfl rfl fun κ hret hnorm => ?_
  have hm := Mem.start w0
  refine HW_seq rfl ?_
  refine HW_text (.act 0 (.pure 1 .done)) (by kernel_rfl) ?_
  refine a_box rfl rfl rfl rfl hm trivial fun m1 w hg_m1 hm hh => ?_
  refine rw_p rfl rfl (y_assign rfl) ?_
  refine rw_done ?_
  refine gn_sq ?_
  refine HW_seq rfl ?_
  refine HW_text (.pure 0 (.pure 1 (.pure 2 (.pure 3 (.pure 4 (.pure 5 (.pure 6 (.pure 7 (.pure 8 (.pure 9 (.pure 10 (.pure 11 (.pure 12 (.pure 13 (.pure 14 (.pure 15 (.pure 16 (.pure 17 (.pure 18 (.pure 19 .done)))))))))))))))))))) (by kernel_rfl) ?_
  refine rw_p rfl rfl (y_fieldAddr rfl fo145_1) ?_
  refine rw_p rfl rfl (y_load rfl sc3 (hm.nt 0 rfl) rfl) ?_
  refine rw_p rfl rfl (y_ge rfl rfl) ?_
  refine rw_p rfl rfl (y_move rfl) ?_
  refine rw_g rfl rfl rfl (fun hc => (y_fieldAddr rfl fo145_1)) ?_
  refine rw_g rfl rfl rfl (fun hc => (y_load (gx hc rfl) sc3 (hm.nt 0 rfl) rfl)) ?_
  refine rw_g rfl rfl rfl (fun hc => (y_le (gx hc rfl) rfl)) ?_
  refine rw_p rfl rfl (y_and rfl rfl rfl) ?_
  refine rw_p rfl rfl (y_move rfl) ?_
  refine rw_g rfl rfl rfl (fun hc => (y_fieldAddr rfl fo145_0)) ?_
  refine rw_g rfl rfl rfl (fun hc => (y_load (gx hc rfl) sc23 (hm.nt 0 rfl) rfl)) ?_
  refine rw_g rfl rfl rfl (fun hc => (y_fieldAddr rfl fo145_1)) ?_
  refine rw_g rfl rfl rfl (fun hc => (y_load (gx hc rfl) sc3 (hm.nt 0 rfl) rfl)) ?_
  refine rw_g rfl rfl rfl (fun hc => (y_mul rfl (gx hc rfl) (i64w (by simp at hc; omega) (by simp at hc; omega)))) ?_
  refine rw_g rfl rfl rfl (fun hc => (y_sub (gx hc rfl) rfl (i64w (by simp at hc; omega) (by simp at hc; omega)))) ?_
  refine rw_g rfl rfl rfl (fun hc => (y_shr (gx hc rfl) (gx hc rfl) (by simp at hc; omega) rfl)) ?_
  refine rw_g rfl rfl rfl (fun hc => (y_shr (gx hc rfl) rfl (by decide) rfl)) ?_
  refine rw_g rfl rfl rfl (fun hc => (y_eq (gx hc rfl) rfl)) ?_
  refine rw_p rfl rfl (y_and rfl rfl rfl) ?_
  refine rw_p rfl rfl (y_assign rfl) ?_
  refine rw_done ?_
  refine gn_sq ?_
  refine HW_ret rfl ?_
  refine toR (fin hret rfl (.tmp rfl .nil) .one ?_)
  exact ⟨congrArg Value.bool (Pl.fits_eq hv), hm.to⟩

theorem w_fail (r e : Nat) (p : Option Addr) (n cap : Nat) (s : Pl.RS) (c a : Int) (w0 : World) (hr : w0.heap[r]? = some (Blk.row e (rdV p n cap s)).toObj) : C Tryz.prog 93 [.pointer (some ⟨r, 0, none⟩), .int .i64 c, .int .i64 a] w0 fun v w' => v = .tuple ⟨[]⟩ ∧ Mem w0 w' (fun k => k = r) [(r, .row e (rdV p n cap (s.fail c a)))] := by
  refine C_of Tryz.func93 rfl rfl rfl fun κ hret hnorm => ?_
  have hm := Mem.start1 hr
  refine HW_seq rfl ?_
  refine HW_text (.pure 0 (.pure 1 (.pure 2 (.pure 3 (.pure 4 (.pure 5 (.pure 6 (.pure 7 (.pure 8 (.pure 9 .done)))))))))) (by kernel_rfl) ?_
  refine rw_p rfl rfl (y_move rfl) ?_
  refine rw_p rfl rfl (y_nil rfl) ?_
  refine rw_p rfl rfl (y_fieldAddr rfl fo160_2) ?_
  refine rw_p rfl rfl (y_fieldAddr rfl fo123_0) ?_
  refine rw_p rfl rfl (y_load rfl sc34 (hm.nt 0 rfl) rfl) ?_
  refine rw_p rfl rfl (y_eq rfl rfl) ?_
  refine rw_p rfl rfl (y_move rfl) ?_
  refine rw_g rfl rfl rfl (fun hc => (y_move rfl)) ?_
  refine rw_g rfl rfl rfl (fun hc => (y_ne (gx hc rfl) rfl)) ?_
  refine rw_p rfl rfl (y_and rfl rfl rfl) ?_
  refine rw_done ?_
  refine gn_sq ?_
  refine HW_cond rfl rfl (fun hc0 => ?_) (fun hc0 => ?_)
  ·
    simp only [Bool.and_eq_true, Bool.or_eq_true, Bool.and_eq_false_iff, Bool.or_eq_false_iff, Bool.not_eq_true', Bool.not_eq_false', decide_eq_true_eq, decide_eq_false_iff_not] at hc0
    refine HW_text (.pure 0 (.pure 1 (.pure 2 (.pure 3 (.pure 4 (.pure 5 (.act 6 .done))))))) (by kernel_rfl) ?_
    refine rw_p rfl rfl (y_move rfl) ?_
    refine rw_p rfl rfl (y_move rfl) ?_
    refine rw_p rfl rfl (y_move rfl) ?_
    refine rw_p rfl rfl (y_build (cs := [_, _]) z123 ft123 rfl rfl rfl rfl rfl) ?_
    refine rw_p rfl rfl (y_nil rfl) ?_
    refine rw_p rfl rfl (y_fieldAddr rfl fo160_2) ?_
    refine a_store rfl rfl rfl rfl sz123 rfl hm 0 rfl rfl fun w hm => ?_
    refine rw_done ?_
    refine toN (fin hnorm rfl .nil .nil ?_)
    have e : s.fail c a = if s.code = 0 ∧ c ≠ 0 then { s with code := c, fat := a } else s := rfl
    first | (rw [if_pos (by omega)] at e; rw [e]; exact ⟨rfl, hm⟩) | (rw [if_neg (by omega)] at e; rw [e]; exact ⟨rfl, hm⟩)
  ·
    simp only [Bool.and_eq_true, Bool.or_eq_true, Bool.and_eq_false_iff, Bool.or_eq_false_iff, Bool.not_eq_true', Bool.not_eq_false', decide_eq_true_eq, decide_eq_false_iff_not] at hc0
    refine HW_skip rfl ?_
    refine toN (fin hnorm rfl .nil .nil ?_)
    have e : s.fail c a = if s.code = 0 ∧ c ≠ 0 then { s with code := c, fat := a } else s := rfl
    first | (rw [if_pos (by omega)] at e; rw [e]; exact ⟨rfl, hm⟩) | (rw [if_neg (by omega)] at e; rw [e]; exact ⟨rfl, hm⟩)

theorem w_take (r e : Nat) (p : Option Addr) (n cap : Nat) (s : Pl.RS) (m : Int) (w0 : World) (hr : w0.heap[r]? = some (Blk.row e (rdV p n cap s)).toObj) (hcap : n ≤ cap) (hsp : cap ≠ 0 → ∀ ad, p = some ad → ad.spot = none) (hat : s.at_ ≤ n) (hlen : n ≤ 140737488355328) (hm64 : Pl.I64 m) : C Tryz.prog 94 [.pointer (some ⟨r, 0, none⟩), .int .i64 m] w0 fun v w' => v = .tuple ⟨[tkV p cap s.at_ m (Pl.rtake n s m).2, .bool (Pl.rtake n s m).2]⟩ ∧ Mem w0 w' (fun k => k = r) [(r, .row e (rdV p n cap (Pl.rtake n s m).1))] := by
  refine C_of Tryz.func94 rfl rfl rfl fun κ hret hnorm => ?_
  have hm := Mem.start1 hr
  refine HW_seq rfl ?_
  refine HW_text (.pure 0 (.pure 1 .done)) (by kernel_rfl) ?_
  refine rw_p rfl rfl (y_assign rfl) ?_
  refine rw_p rfl rfl (y_assign rfl) ?_
  refine rw_done ?_
  refine gn_sq ?_
  refine HW_seq rfl ?_
  refine HW_block rfl ?_
  refine HW_seq rfl ?_
  refine HW_text (.pure 0 (.pure 1 (.pure 2 (.pure 3 (.pure 4 (.pure 5 (.pure 6 .done))))))) (by kernel_rfl) ?_
  refine rw_p rfl rfl (y_move rfl) ?_
  refine rw_p rfl rfl (y_nil rfl) ?_
  refine rw_p rfl rfl (y_fieldAddr rfl fo160_2) ?_
  refine rw_p rfl rfl (y_fieldAddr rfl fo123_0) ?_
  refine rw_p rfl rfl (y_load rfl sc34 (hm.nt 0 rfl) rfl) ?_
  refine rw_p rfl rfl (y_ne rfl rfl) ?_
  refine rw_p rfl rfl (y_assign rfl) ?_
  refine rw_done ?_
  refine gn_sq ?_
  refine HW_cond rfl rfl (fun hc0 => ?_) (fun hc0 => ?_)
  ·
    simp only [Bool.and_eq_true, Bool.or_eq_true, Bool.and_eq_false_iff, Bool.or_eq_false_iff, Bool.not_eq_true', Bool.not_eq_false', decide_eq_true_eq, decide_eq_false_iff_not] at hc0
    refine HW_seq rfl ?_
    refine HW_text (.pure 0 (.pure 1 .done)) (by kernel_rfl) ?_
    refine rw_p rfl rfl (y_assign rfl) ?_
    refine rw_p rfl rfl (y_assign rfl) ?_
    refine rw_done ?_
    refine gn_sq ?_
    refine HW_ret rfl ?_
    refine gr_bl (gr_sq ?_)
    refine toR (fin hret rfl (.tmp rfl (.tmp rfl .nil)) .more ?_)
    have e : Pl.rtake n s m = (s, false) := by unfold Pl.rtake; rw [if_pos hc0]
    rw [e]; exact ⟨rfl, hm⟩
  ·
    simp only [Bool.and_eq_true, Bool.or_eq_true, Bool.and_eq_false_iff, Bool.or_eq_false_iff, Bool.not_eq_true', Bool.not_eq_false', decide_eq_true_eq, decide_eq_false_iff_not] at hc0
    refine HW_seq rfl ?_
    refine HW_text (.pure 0 (.pure 1 (.pure 2 .done))) (by kernel_rfl) ?_
    refine rw_p rfl rfl (y_move rfl) ?_
    refine rw_p rfl rfl (y_lt rfl rfl) ?_
    refine rw_p rfl rfl (y_assign rfl) ?_
    refine rw_done ?_
    refine gn_sq ?_
    refine HW_cond rfl rfl (fun hc1 => ?_) (fun hc1 => ?_)
    ·
      simp only [Bool.and_eq_true, Bool.or_eq_true, Bool.and_eq_false_iff, Bool.or_eq_false_iff, Bool.not_eq_true', Bool.not_eq_false', decide_eq_true_eq, decide_eq_false_iff_not] at hc1
      refine HW_seq rfl ?_
      refine HW_text (.pure 0 (.pure 1 (.pure 2 (.pure 3 (.pure 4 (.act 5 .done)))))) (by kernel_rfl) ?_
      refine rw_p rfl rfl (y_move rfl) ?_
      refine rw_p rfl rfl (y_move rfl) ?_
      refine rw_p rfl rfl (y_nil rfl) ?_
      refine rw_p rfl rfl (y_fieldAddr rfl fo160_1) ?_
      refine rw_p rfl rfl (y_load rfl sc3 (hm.nt 0 rfl) rfl) ?_
      refine a_call rfl rfl rfl go93 (w_fail _ _ _ _ _ s _ _ _ (hm.get (k := 0) rfl)) fun v w hR => ?_
      obtain ⟨rfl, hmc⟩ := hR
      refine ⟨trivial, ?_⟩
      replace hm := hm.callJ 0 rfl hmc
      refine rw_done ?_
      refine gn_sq ?_
      refine HW_seq rfl ?_
      refine HW_text (.pure 0 (.pure 1 .done)) (by kernel_rfl) ?_
      refine rw_p rfl rfl (y_assign rfl) ?_
      refine rw_p rfl rfl (y_assign rfl) ?_
      refine rw_done ?_
      refine gn_sq ?_
      refine HW_ret rfl ?_
      refine gr_bl (gr_sq ?_)
      refine toR (fin hret rfl (.tmp rfl (.tmp rfl .nil)) .more ?_)
      have e : Pl.rtake n s m = (s.fail 2 s.at_, false) := by unfold Pl.rtake; rw [if_neg hc0, if_pos hc1]
      rw [e]; exact ⟨rfl, hm⟩
    ·
      simp only [Bool.and_eq_true, Bool.or_eq_true, Bool.and_eq_false_iff, Bool.or_eq_false_iff, Bool.not_eq_true', Bool.not_eq_false', decide_eq_true_eq, decide_eq_false_iff_not] at hc1
      refine HW_seq rfl ?_
      refine HW_draw (.pure 0 (.pure 1 (.pure 2 (.pure 3 (.pure 4 (.pure 5 (.pure 6 (.pure 7 (.pure 8 (.pure 9 (.pure 10 (.pure 11 (.pure 12 .done))))))))))))) No mix (by kernel_rfl) hm fun w hw hm0 hh => ?_
      have hm := hm0
      refine rw_p rfl rfl (y_move rfl) ?_
      refine rw_p rfl rfl (y_move rfl) ?_
      refine rw_p rfl rfl (y_nil rfl) ?_
      refine rw_p rfl rfl (y_fieldAddr rfl fo160_0) ?_
      refine rw_p rfl rfl (y_load rfl sc22 (hm0.nd 0 rfl id) rfl) ?_
      refine rw_p rfl rfl (y_len rfl rfl sl22) ?_
      refine rw_p rfl rfl (y_move rfl) ?_
      refine rw_p rfl rfl (y_nil rfl) ?_
      refine rw_p rfl rfl (y_fieldAddr rfl fo160_1) ?_
      refine rw_p rfl rfl (y_load rfl sc3 (hm0.nd 0 rfl id) rfl) ?_
      refine rw_p rfl rfl (y_sub rfl rfl (i64w (by omega) (by omega))) ?_
      refine rw_p rfl rfl (y_gt rfl rfl) ?_
      refine rw_p rfl rfl (y_assign rfl) ?_
      refine rw_done ?_
      refine gn_sq ?_
      refine HW_cond rfl rfl (fun hc2 => ?_) (fun hc2 => ?_)
      ·
        simp only [Bool.and_eq_true, Bool.or_eq_true, Bool.and_eq_false_iff, Bool.or_eq_false_iff, Bool.not_eq_true', Bool.not_eq_false', decide_eq_true_eq, decide_eq_false_iff_not] at hc2
        refine HW_seq rfl ?_
        refine HW_text (.pure 0 (.pure 1 (.pure 2 (.pure 3 (.pure 4 (.pure 5 (.act 6 .done))))))) (by kernel_rfl) ?_
        refine rw_p rfl rfl (y_move rfl) ?_
        refine rw_p rfl rfl (y_move rfl) ?_
        refine rw_p rfl rfl (y_nil rfl) ?_
        refine rw_p rfl rfl (y_fieldAddr rfl fo160_0) ?_
        refine rw_p rfl rfl (y_load rfl sc22 (hm.nt 0 rfl) rfl) ?_
        refine rw_p rfl rfl (y_len rfl rfl sl22) ?_
        refine a_call rfl rfl rfl go93 (w_fail _ _ _ _ _ s _ _ _ (hm.get (k := 0) rfl)) fun v w hR => ?_
        obtain ⟨rfl, hmc⟩ := hR
        refine ⟨trivial, ?_⟩
        replace hm := hm.callJ 0 rfl hmc
        refine rw_done ?_
        refine gn_sq ?_
        refine HW_seq rfl ?_
        refine HW_text (.pure 0 (.pure 1 .done)) (by kernel_rfl) ?_
        refine rw_p rfl rfl (y_assign rfl) ?_
        refine rw_p rfl rfl (y_assign rfl) ?_
        refine rw_done ?_
        refine gn_sq ?_
        refine HW_ret rfl ?_
        refine gr_bl (gr_sq ?_)
        refine toR (fin hret rfl (.tmp rfl (.tmp rfl .nil)) .more ?_)
        have e : Pl.rtake n s m = (s.fail 8 n, false) := by unfold Pl.rtake; rw [if_neg hc0, if_neg hc1, if_pos hc2]
        rw [e]; exact ⟨rfl, hm⟩
      ·
        simp only [Bool.and_eq_true, Bool.or_eq_true, Bool.and_eq_false_iff, Bool.or_eq_false_iff, Bool.not_eq_true', Bool.not_eq_false', decide_eq_true_eq, decide_eq_false_iff_not] at hc2
        refine HW_skip rfl ?_
        refine gn_bl ?_
        refine gn_sq ?_
        refine HW_seq rfl ?_
        refine HW_text (.pure 0 (.pure 1 (.pure 2 (.pure 3 (.pure 4 (.pure 5 (.pure 6 (.pure 7 (.act 8 .done))))))))) (by kernel_rfl) ?_
        refine rw_p rfl rfl (y_move rfl) ?_
        refine rw_p rfl rfl (y_nil rfl) ?_
        refine rw_p rfl rfl (y_fieldAddr rfl fo160_1) ?_
        refine rw_p rfl rfl (y_load rfl sc3 (hm.nt 0 rfl) rfl) ?_
        refine rw_p rfl rfl (y_move rfl) ?_
        refine rw_p rfl rfl (y_add rfl rfl (i64w (by omega) (by omega))) ?_
        refine rw_p rfl rfl (y_nil rfl) ?_
        refine rw_p rfl rfl (y_fieldAddr rfl fo160_1) ?_
        refine a_store rfl rfl rfl rfl sz3 rfl hm 0 rfl rfl fun w hm => ?_
        refine rw_done ?_
        refine gn_sq ?_
        refine HW_seq rfl ?_
        refine HW_draw (.pure 0 (.pure 1 (.pure 2 (.pure 3 (.pure 4 (.pure 5 (.pure 6 (.pure 7 (.pure 8 (.pure 9 (.pure 10 (.pure 11 (.pure 12 (.pure 13 (.pure 14 (.pure 15 (.pure 16 .done))))))))))))))))) No mix (by kernel_rfl) hm fun w hw hm0 hh => ?_
        have hm := hm0
        refine rw_p rfl rfl (y_move rfl) ?_
        refine rw_p rfl rfl (y_nil rfl) ?_
        refine rw_p rfl rfl (y_fieldAddr rfl fo160_0) ?_
        refine rw_p rfl rfl (y_load rfl sc22 (hm0.nd 0 rfl id) rfl) ?_
        refine rw_p rfl rfl (y_move rfl) ?_
        refine rw_p rfl rfl (y_nil rfl) ?_
        refine rw_p rfl rfl (y_fieldAddr rfl fo160_1) ?_
        refine rw_p rfl rfl (y_load rfl sc3 (hm0.nd 0 rfl id) rfl) ?_
        refine rw_p rfl rfl (y_move rfl) ?_
        refine rw_p rfl rfl (y_sub rfl rfl ((i64w (by omega) (by omega)).trans (by omega : (s.at_ : Int) + m - m = (s.at_ : Int)))) ?_
        refine rw_p rfl rfl (y_move rfl) ?_
        refine rw_p rfl rfl (y_nil rfl) ?_
        refine rw_p rfl rfl (y_fieldAddr rfl fo160_1) ?_
        refine rw_p rfl rfl (y_load rfl sc3 (hm0.nd 0 rfl id) rfl) ?_
        refine rw_p rfl rfl (y_slice (ln := s.at_) (hn := s.at_ + m.toNat) rfl sl22 ⟨_, rfl⟩ ⟨_, congrArg (fun x => some (Value.int .i64 x)) (by omega)⟩ (by omega) (by omega) (fun h => hsp (by omega))) ?_
        refine rw_p rfl rfl (y_assign rfl) ?_
        refine rw_p rfl rfl (y_assign rfl) ?_
        refine rw_done ?_
        refine gn_sq ?_
        refine HW_ret rfl ?_
        refine toR (fin hret rfl (.tmp rfl (.tmp rfl .nil)) .more ?_)
        have e : Pl.rtake n s m = ({ s with at_ := s.at_ + m.toNat }, true) := by unfold Pl.rtake; rw [if_neg hc0, if_neg hc1, if_neg hc2]
        have h9 : (s.at_ : Int) + m = ((s.at_ + m.toNat : Nat) : Int) := by omega
        rw [h9] at hm
        rw [e]; exact ⟨by simp only [tkV, cond_true]; rw [Nat.add_sub_cancel_left], hm⟩

theorem w_num1 (x c : Int) (r : Nat) (w0 : World) (hr : w0.heap[r]? = some (Blk.row 23 [.int .u64 x]).toObj) (hx : 0 ≤ x ∧ x < 72057594037927936) (hc : 0 ≤ c ∧ c < 256) : C Tryz.prog 105 [.int .u8 c, .pointer (some ⟨r, 0, none⟩)] w0 fun v w' => v = .int .u64 (x * 256 + c) ∧ Mem w0 w' (fun k => k = r) [(r, .row 23 [.int .u64 (x * 256 + c)])] := by
  refine C_of Tryz.func105 rfl rfl rfl fun κ hret hnorm => ?_
  have hm := Mem.start1 hr
  refine HW_seq rfl ?_
  refine HW_text (.pure 0 .done) (by kernel_rfl) ?_
  refine rw_p rfl rfl (y_assign rfl) ?_
  refine rw_done ?_
  refine gn_sq ?_
  refine HW_seq rfl ?_
  refine HW_text (.pure 0 (.pure 1 (.pure 2 (.pure 3 (.pure 4 (.act 5 .done)))))) (by kernel_rfl) ?_
  refine rw_p rfl rfl (y_load rfl sc23 (hm.nt 0 rfl) rfl) ?_
  refine rw_p rfl rfl (y_shl rfl rfl (by decide) (shl8 hx)) ?_
  refine rw_p rfl rfl (y_move rfl) ?_
  refine rw_p rfl rfl (y_conv rfl is5 it23 (u64w (by omega) (by omega))) ?_
  refine rw_p rfl rfl (y_or_ rfl rfl (or8 (by omega) (by omega))) ?_
  refine a_store rfl rfl rfl rfl sz23 rfl hm 0 rfl rfl fun w hm => ?_
  refine rw_done ?_
  refine gn_sq ?_
  refine HW_seq rfl ?_
  refine HW_text (.pure 0 (.pure 1 .done)) (by kernel_rfl) ?_
  refine rw_p rfl rfl (y_load rfl sc23 (hm.nt 0 rfl) rfl) ?_
  refine rw_p rfl rfl (y_assign rfl) ?_
  refine rw_done ?_
  refine gn_sq ?_
  refine HW_ret rfl ?_
  refine toR (fin hret rfl (.tmp rfl .nil) .one ?_)
  exact ⟨rfl, hm⟩

theorem w_num (w0 : World) : C Tryz.prog 95 [] w0 fun v w' => ∃ m, v = .func (.func 105) #[] ⟨[.pointer (some ⟨m, 0, none⟩)]⟩ ∧ Mem w0 w' No [(m, .row 23 [.int .u64 0])] := by
  refine C_of Tryz.func95 rfl rfl rfl fun κ hret hnorm => ?_
  have hm := Mem.start w0
  refine HW_seq rfl ?_
  refine HW_text (.pure 0 .done) (by kernel_rfl) ?_
  refine rw_p rfl rfl (y_assign rfl) ?_
  refine rw_done ?_
  refine gn_sq ?_
  refine HW_seq rfl ?_
  refine HW_text (.act 0 (.act 1 .done)) (by kernel_rfl) ?_
  refine a_alloc rfl rfl z23 hm trivial fun m1 w hg_m1 hm hh => ?_
  refine a_store rfl rfl rfl rfl sz23 rfl hm 0 rfl rfl fun w hm => ?_
  refine rw_done ?_
  refine gn_sq ?_
  refine HW_seq rfl ?_
  refine HW_text (.pure 0 (.pure 1 .done)) (by kernel_rfl) ?_
  refine rw_p rfl rfl (y_func rfl rfl) ?_
  refine rw_p rfl rfl (y_assign rfl) ?_
  refine rw_done ?_
  refine gn_sq ?_
  refine HW_ret rfl ?_
  refine toR (fin hret rfl (.tmp rfl .nil) .one ?_)
  exact ⟨_, rfl, hm⟩

set_option maxHeartbeats 400000 in
theorem w_uint (r e : Nat) (p : Option Addr) (cap : Nat) (bs : List UInt8) (s : Pl.RS) (m : Int) (w0 : World) (hr : w0.heap[r]? = some (Blk.row e (rdV p bs.length cap s)).toObj) (hd : Rd w0 p (bs.flatMap encB)) (hne : bs.flatMap encB ≠ [] → ∀ ad, p = some ad → ad.block ≠ r) (hcap : bs.length ≤ cap) (hsp : cap ≠ 0 → ∀ ad, p = some ad → ad.spot = none) (hat : s.at_ ≤ bs.length) (hlen : bs.length ≤ 140737488355328) (hm64 : Pl.I64 m) : C Tryz.prog 56 [.pointer (some ⟨r, 0, none⟩), .int .i64 m] w0 fun v w' => v = .int .u64 (Pl.ruint bs s m).2 ∧ Mem w0 w' (fun k => k = r) [(r, .row e (rdV p bs.length cap (Pl.ruint bs s m).1))] := by
  refine C_of Tryz.func56 rfl rfl rfl fun κ hret hnorm => ?_
  have hm := Mem.start1 hr
  refine HW_seq rfl ?_
  refine HW_text (.pure 0 .done) (by kernel_rfl) ?_
  refine rw_p rfl rfl (y_assign rfl) ?_
  refine rw_done ?_
  refine gn_sq ?_
  refine HW_seq rfl ?_
  refine HW_seq rfl ?_
  refine HW_text (.pure 0 (.pure 1 .done)) (by kernel_rfl) ?_
  refine rw_p rfl rfl (y_move rfl) ?_
  refine rw_p rfl rfl (y_pnil rfl rfl pb118) ?_
  refine rw_done ?_
  refine gn_sq ?_
  refine HW_condF rfl rfl rfl ?_
  refine HW_skip rfl ?_
  refine gn_sq ?_
  refine HW_via (ι := Unit) rfl (ks := [0, 4]) (.cons rfl (.cons rfl .nil)) (fun x => [(1, .int .i64 (Pl.usize m))]) (fun x w => Mem w0 w (fun k => k = r) [(r, .row e (rdV p bs.length cap s))]) ?_ (fun x w hM => ?_)
  ·
    refine HW_seq rfl ?_
    refine HW_text (.pure 0 (.pure 1 (.pure 2 (.pure 3 (.pure 4 (.pure 5 .done)))))) (by kernel_rfl) ?_
    refine rw_p rfl rfl (y_move rfl) ?_
    refine rw_p rfl rfl (y_lt rfl rfl) ?_
    refine rw_p rfl rfl (y_move rfl) ?_
    refine rw_g rfl rfl rfl (fun hc => (y_move rfl)) ?_
    refine rw_g rfl rfl rfl (fun hc => (y_gt (gx hc rfl) rfl)) ?_
    refine rw_p rfl rfl (y_or rfl rfl rfl) ?_
    refine rw_done ?_
    refine gn_sq ?_
    refine HW_cond rfl rfl (fun hc1 => ?_) (fun hc1 => ?_)
    ·
      simp only [Bool.and_eq_true, Bool.or_eq_true, Bool.and_eq_false_iff, Bool.or_eq_false_iff, Bool.not_eq_true', Bool.not_eq_false', decide_eq_true_eq, decide_eq_false_iff_not] at hc1
      refine HW_text (.pure 0 .done) (by kernel_rfl) ?_
      refine rw_p rfl rfl (y_assign rfl) ?_
      refine rw_done ?_
      exact gn_vi () hm ⟨by unfold Pl.usize; first | (rw [if_pos (by omega)]; rfl) | (rw [if_neg (by omega)]; rfl), rfl, rfl, trivial⟩
    ·
      simp only [Bool.and_eq_true, Bool.or_eq_true, Bool.and_eq_false_iff, Bool.or_eq_false_iff, Bool.not_eq_true', Bool.not_eq_false', decide_eq_true_eq, decide_eq_false_iff_not] at hc1
      refine HW_skip rfl ?_
      exact gn_vi () hm ⟨by unfold Pl.usize; first | (rw [if_pos (by omega)]; rfl) | (rw [if_neg (by omega)]; rfl), rfl, rfl, trivial⟩
  ·
    have hm := hM
    refine HW_seq rfl ?_
    refine HW_text (.pure 0 (.pure 1 (.pure 2 (.pure 3 (.act 4 (.pure 5 (.pure 6 (.pure 7 (.pure 8 (.pure 9 .done)))))))))) (by kernel_rfl) ?_
    refine rw_p rfl rfl (y_move rfl) ?_
    refine rw_p rfl rfl (y_nil rfl) ?_
    refine rw_p rfl rfl (y_fieldAddr rfl fo162_0) ?_
    refine rw_p rfl rfl (y_move rfl) ?_
    refine a_call rfl rfl rfl go94 (w_take r e p bs.length cap s (Pl.usize m) _ (hm.get (k := 0) rfl) hcap hsp hat hlen (by unfold Pl.usize; split <;> omega)) fun v w hR => ?_
    obtain ⟨rfl, hmc⟩ := hR
    refine ⟨trivial, ?_⟩
    replace hm := hm.callJ 0 rfl hmc
    refine rw_p rfl rfl (y_move rfl) ?_
    refine rw_p rfl rfl (y_extract rfl rfl) ?_
    refine rw_p rfl rfl (y_extract rfl rfl) ?_
    refine rw_p rfl rfl (y_assign rfl) ?_
    refine rw_p rfl rfl (y_assign rfl) ?_
    refine rw_done ?_
    refine gn_sq ?_
    refine HW_seq rfl ?_
    refine HW_seq rfl ?_
    refine HW_text (.pure 0 (.pure 1 .done)) (by kernel_rfl) ?_
    refine rw_p rfl rfl (y_move rfl) ?_
    refine rw_p rfl rfl (y_not rfl) ?_
    refine rw_done ?_
    refine gn_sq ?_
    refine HW_cond rfl rfl (fun hc2 => ?_) (fun hc2 => ?_)
    ·
      have hok : (Pl.rtake bs.length s (Pl.usize m)).2 = false := by simpa using hc2
      refine HW_seq rfl ?_
      refine HW_text (.pure 0 .done) (by kernel_rfl) ?_
      refine rw_p rfl rfl (y_assign rfl) ?_
      refine rw_done ?_
      refine gn_sq ?_
      refine HW_ret rfl ?_
      refine gr_sq ?_
      refine toR (fin hret rfl (.tmp rfl .nil) .one ?_)
      exact ⟨by unfold Pl.ruint; rw [hok]; rfl, by rw [Pl.ruint_fst]; exact hm⟩
    ·
      have hok : (Pl.rtake bs.length s (Pl.usize m)).2 = true := by simpa using hc2
      obtain ⟨hc0, hu0, hu1, hst⟩ := Pl.rtake_ok hok
      have hu8 : Pl.usize m ≤ 8 := by unfold Pl.usize; split <;> omega
      have hcs : Rd w0 (slp p cap s.at_ 1) (((bs.drop s.at_).take (Pl.usize m).toNat).flatMap encB) := hd.sub hcap
      have hcl : ((bs.drop s.at_).take (Pl.usize m).toNat).length = (Pl.usize m).toNat := by rw [List.length_take, List.length_drop]; omega
      generalize hbs : (bs.drop s.at_).take (Pl.usize m).toNat = cs at hcs hcl
      obtain ⟨pp, hpp⟩ : ∃ pp, slp p cap s.at_ 1 = pp := ⟨_, rfl⟩
      rw [hpp] at hcs
      have hne' : cs.flatMap encB ≠ [] → ∀ ad, pp = some ad → ¬ ad.block = r := fun h ad e => by
        obtain ⟨a2, e2, e3⟩ := slp_block (hpp.trans e)
        rw [← e3]
        exact hne (fun e4 => by rw [nilB e4] at hbs; simp at hbs; rw [hbs] at h; exact h rfl) a2 e2
      refine HW_skip rfl ?_
      refine gn_sq ?_
      refine HW_seq rfl ?_
      refine HW_text (.pure 0 .done) (by kernel_rfl) ?_
      refine rw_p rfl rfl (y_assign rfl) ?_
      refine rw_done ?_
      refine gn_sq ?_
      refine HW_seq rfl ?_
      refine HW_text (.act 0 (.pure 1 .done)) (by kernel_rfl) ?_
      refine a_call rfl rfl rfl go95 (w_num _) fun v w hR => ?_
      obtain ⟨m_x, rfl, hmc⟩ := hR
      refine ⟨trivial, ?_⟩
      replace hm := hm.callN hmc
      refine rw_p rfl rfl (y_assign rfl) ?_
      refine rw_done ?_
      refine gn_sq ?_
      refine HW_seq rfl ?_
      refine HW_seq rfl ?_
      refine HW_text (.pure 0 (.pure 1 (.pure 2 .done))) (by kernel_rfl) ?_
      refine rw_p rfl rfl (y_v (y_move rfl) (show _ = Value.slice pp cs.length (cap - s.at_) by rw [hok, hcl, ← hpp]; rfl)) ?_
      refine rw_p rfl rfl (y_len rfl rfl sl22) ?_
      refine rw_p rfl rfl (y_move rfl) ?_
      refine rw_done ?_
      refine gn_sq ?_
      refine HW_block rfl ?_
      refine HW_loopK (ι := Nat) rfl (ks := [4, 8, 30, 31]) (.cons rfl (.cons rfl (.cons rfl (.cons rfl .nil)))) (fun k => [(32, .int .i64 k), (7, .int .u64 (Pl.num 0 (cs.take k)))]) (fun k w => Mem w0 w (fun k => k = r) [(m_x, .row 23 [.int .u64 (Pl.num 0 (cs.take k))]), (r, .row e (rdV p bs.length cap (Pl.rtake bs.length s (Pl.usize m)).1))] ∧ k ≤ cs.length) (fun k => cs.length - k) 0 (⟨hm, Nat.zero_le _⟩) ⟨rfl, rfl, trivial⟩ (fun k w hM => ?_)
      obtain ⟨hm, hk⟩ := hM
      refine HW_seq rfl ?_
      refine HW_text (.pure 0 .done) (by kernel_rfl) ?_
      refine rw_p rfl rfl (y_lt rfl rfl) ?_
      refine rw_done ?_
      refine gn_sq ?_
      refine HW_seq rfl ?_
      refine HW_cond rfl rfl (fun hc3 => ?_) (fun hc3 => ?_)
      ·
        simp only [decide_eq_true_eq] at hc3
        obtain ⟨x, hi⟩ : ∃ y_, cs[k]? = some y_ := ⟨_, List.getElem?_eq_getElem (by omega)⟩
        obtain ⟨qb, qo, rfl⟩ := hcs.atI encB_len (by decide) hi
        have hnx : Pl.num 0 (cs.take (k + 1)) = Pl.num 0 (cs.take k) * 256 + x.toNat := by rw [List.take_add_one, hi, Pl.num_app]; rfl
        have hxl : x.toNat < 256 := UInt8.toNat_lt x
        have hnb := Pl.num_bnd (cs.take k) 0 (Int.le_refl _)
        have hpw : (256 : Int) ^ (cs.take k).length ≤ 256 ^ 7 := Pl.pow_le (by rw [List.length_take]; omega)
        have hp7 : (256 : Int) ^ 7 = 72057594037927936 := by decide
        refine HW_skip rfl ?_
        refine gn_sq ?_
        refine HW_seq rfl ?_
        refine HW_block rfl ?_
        refine HW_seq rfl ?_
        refine HW_text (.pure 0 (.pure 1 (.pure 2 .done))) (by kernel_rfl) ?_
        refine rw_p rfl rfl (y_index rfl rfl sl22 rfl (by omega) (by omega)) ?_
        refine rw_p rfl rfl (y_el1 rfl sc5 (hcs.extN hm.to hne').nt encB_len hi rfl) ?_
        refine rw_p rfl rfl (y_assign rfl) ?_
        refine rw_done ?_
        refine gn_sq ?_
        refine HW_text (.pure 0 (.pure 1 (.act 2 (.pure 3 .done)))) (by kernel_rfl) ?_
        refine rw_p rfl rfl (y_move rfl) ?_
        refine rw_p rfl rfl (y_move rfl) ?_
        refine a_callV rfl rfl rfl rfl go105 (w_num1 _ _ m_x _ (hm.get (k := 0) rfl) (by omega) (by omega)) fun v w hR => ?_
        obtain ⟨rfl, hmc⟩ := hR
        refine ⟨trivial, ?_⟩
        replace hm := hm.callJ 0 rfl hmc
        refine rw_p rfl rfl (y_assign rfl) ?_
        refine rw_done ?_
        refine gn_bl ?_
        refine gn_sq ?_
        refine HW_text (.pure 0 (.pure 1 .done)) (by kernel_rfl) ?_
        refine rw_p rfl rfl (y_add rfl rfl (i64w (by omega) (by omega))) ?_
        refine rw_p rfl rfl (y_move rfl) ?_
        refine rw_done ?_
        refine next (k + 1) (by omega) ⟨by rw [hnx]; exact hm, by omega⟩ ⟨nx k, by rw [hnx]; rfl, rfl, rfl, rfl, rfl, trivial⟩
      ·
        simp only [decide_eq_false_iff_not] at hc3
        obtain rfl : k = cs.length := by omega
        rw [List.take_length] at hm
        refine HW_exit rfl ?_
        refine gx_sq (gx_lp ?_)
        refine gx_here ?_
        refine gn_sq ?_
        refine HW_seq rfl ?_
        refine HW_text (.pure 0 (.pure 1 .done)) (by kernel_rfl) ?_
        refine rw_p rfl rfl (y_move rfl) ?_
        refine rw_p rfl rfl (y_assign rfl) ?_
        refine rw_done ?_
        refine gn_sq ?_
        refine HW_ret rfl ?_
        refine toR (fin hret rfl (.tmp rfl .nil) .one ?_)
        have e2 : (Pl.ruint bs s m).2 = Pl.num 0 cs := by unfold Pl.ruint; rw [if_pos hok, hbs]
        rw [e2, Pl.ruint_fst]
        exact ⟨by rw [List.take_length], hm.tail⟩

set_option maxHeartbeats 400000 in
theorem w_append (p : Option Addr) (cap : Nat) (bs : List UInt8) (q : Option Addr) (cq : Nat) (fs : List (Int × Int)) (w0 : World) (hx : Rd w0 p (bs.flatMap encB)) (hy : Rd w0 q (fs.flatMap encF)) (hlen : bs.length ≤ 1099511627776) (hl : fs.length ≤ 1099511627776) (hok : ∀ f ∈ fs, Pl.okF f) : C Tryz.prog 73 [.slice p bs.length cap, .slice q fs.length cq] w0 fun v w' => ∃ p n cap g b, v = .tuple ⟨[.slice p n cap, .bool (Pl.fitA fs)]⟩ ∧ Acc 5 1 p n cap ((Pl.wout bs fs).flatMap encB) g b ∧ Mem w0 w' No [(g, b)] := by
  refine C_of Tryz.func73 rfl rfl rfl fun κ hret hnorm => ?_
  have hm := Mem.start w0
  refine HW_seq rfl ?_
  refine HW_text (.pure 0 (.pure 1 .done)) (by kernel_rfl) ?_
  refine rw_p rfl rfl (y_assign rfl) ?_
  refine rw_p rfl rfl (y_assign rfl) ?_
  refine rw_done ?_
  refine gn_sq ?_
  refine HW_seq rfl ?_
  refine HW_text (.pure 0 (.act 1 (.pure 2 .done))) (by kernel_rfl) ?_
  refine rw_p rfl rfl (y_move rfl) ?_
  refine a_call rfl rfl rfl go43 (clone_b p cap bs _ (hx.ext0 hm.to) (by omega)) fun v w hR => ?_
  obtain ⟨p_s, cap_s, g_s, b_s, rfl, ha_s, hmc⟩ := hR
  refine ⟨trivial, ?_⟩
  have hg_s : b_s.real = true → _ := fun hr => (hmc.fresh _ List.mem_cons_self hr).resolve_left id
  replace hm := hm.callN hmc
  refine rw_p rfl rfl (y_assign rfl) ?_
  refine rw_done ?_
  refine gn_sq ?_
  refine HW_seq rfl ?_
  refine HW_seq rfl ?_
  refine HW_text (.pure 0 (.pure 1 (.pure 2 .done))) (by kernel_rfl) ?_
  refine rw_p rfl rfl (y_move rfl) ?_
  refine rw_p rfl rfl (y_len rfl rfl sl174) ?_
  refine rw_p rfl rfl (y_move rfl) ?_
  refine rw_done ?_
  refine gn_sq ?_
  refine HW_block rfl ?_
  refine HW_loopK (ι := Nat × Ow) rfl (ks := [12, 13]) (.cons rfl (.cons rfl .nil)) (fun x => [(14, .int .i64 x.1), (6, .slice x.2.p x.2.n x.2.cap)]) (fun x w => Mem w0 w No [(x.2.g, x.2.b)] ∧ Acc 5 1 x.2.p x.2.n x.2.cap ((bs ++ Pl.putB (fs.take x.1)).flatMap encB) x.2.g x.2.b ∧ x.1 ≤ fs.length ∧ Pl.fitA (fs.take x.1) = true ∧ x.2.n ≤ bs.length + 8 * x.1) (fun x => fs.length - x.1) (0, ⟨p_s, _, cap_s, g_s, b_s⟩) (⟨hm, by simpa [Pl.putB] using ha_s, Nat.zero_le _, rfl, Nat.le_refl _⟩) ⟨rfl, rfl, trivial⟩ (fun x w hM => ?_)
  obtain ⟨hm, ha_s, hk, hfit, hn⟩ := hM
  refine HW_seq rfl ?_
  refine HW_text (.pure 0 .done) (by kernel_rfl) ?_
  refine rw_p rfl rfl (y_lt rfl rfl) ?_
  refine rw_done ?_
  refine gn_sq ?_
  refine HW_seq rfl ?_
  refine HW_cond rfl rfl (fun hc0 => ?_) (fun hc0 => ?_)
  ·
    simp only [decide_eq_true_eq] at hc0
    obtain ⟨f, hi⟩ : ∃ y_, fs[x.1]? = some y_ := ⟨_, List.getElem?_eq_getElem (by omega)⟩
    obtain ⟨qb, qo, rfl⟩ := hy.atI encF_len (by decide) hi
    have hf := hok f (List.mem_of_getElem? hi)
    unfold Pl.okF at hf
    refine HW_skip rfl ?_
    refine gn_sq ?_
    refine HW_seq rfl ?_
    refine HW_block rfl ?_
    refine HW_seq rfl ?_
    refine HW_text (.pure 0 (.pure 1 (.act 2 (.act 3 .done)))) (by kernel_rfl) ?_
    refine rw_p rfl rfl (y_index rfl rfl sl174 rfl (by omega) (by omega)) ?_
    refine rw_p rfl rfl (y_elA rfl ag145 (hy.ext0 hm.to).nt encF_len hi) ?_
    refine a_alloc rfl rfl z145 hm trivial fun m1 w hg_m1 hm hh => ?_
    refine a_store rfl rfl rfl rfl sz145 rfl hm 0 rfl rfl fun w hm => ?_
    refine rw_done ?_
    refine gn_sq ?_
    refine HW_seq rfl ?_
    refine HW_seq rfl ?_
    refine HW_text (.pure 0 (.act 1 (.pure 2 .done))) (by kernel_rfl) ?_
    refine rw_p rfl rfl (y_loadA (s := 2) (vs := [_, _]) rfl ag145 (hm.nt 0 rfl) rfl) ?_
    refine a_call rfl rfl rfl go101 (w_fits _ _ _ hf.1 hf.2) fun v w hR => ?_
    obtain ⟨rfl, hE⟩ := hR
    refine ⟨trivial, ?_⟩
    replace hm := hm.ext hE
    refine rw_p rfl rfl (y_not rfl) ?_
    refine rw_done ?_
    refine gn_sq ?_
    refine HW_cond rfl rfl (fun hc1 => ?_) (fun hc1 => ?_)
    ·
      simp only [Bool.not_eq_true'] at hc1
      refine HW_seq rfl ?_
      refine HW_text (.pure 0 (.pure 1 .done)) (by kernel_rfl) ?_
      refine rw_p rfl rfl (y_assign rfl) ?_
      refine rw_p rfl rfl (y_assign rfl) ?_
      refine rw_done ?_
      refine gn_sq ?_
      refine HW_ret rfl ?_
      refine gr_sq (gr_bl (gr_sq (gr_lp (gr_bl (gr_sq ?_)))))
      refine toR (fin hret rfl (.tmp rfl (.tmp rfl .nil)) .more ?_)
      have e : Pl.fitA fs = false := Pl.fitA_not hi hc1
      exact ⟨none, 0, 0, 0, .gap, by rw [e], by unfold Pl.wout; rw [e]; exact .nil _ _ _ _, (hm.drop (List.nil_sublist _)).gapIn⟩
    ·
      simp only [Bool.not_eq_false'] at hc1
      obtain ⟨hf1, hf2⟩ := Pl.fits_bnd hc1
      refine HW_skip rfl ?_
      refine gn_sq ?_
      refine HW_seq rfl ?_
      refine HW_text (.pure 0 (.pure 1 (.pure 2 (.pure 3 .done)))) (by kernel_rfl) ?_
      refine rw_p rfl rfl (y_fieldAddr rfl fo145_1) ?_
      refine rw_p rfl rfl (y_load rfl sc3 (hm.nt 0 rfl) rfl) ?_
      refine rw_p rfl rfl (y_sub rfl rfl (i64w (by omega) (by omega))) ?_
      refine rw_p rfl rfl (y_assign rfl) ?_
      refine rw_done ?_
      refine gn_sq ?_
      refine HW_block rfl ?_
      refine HW_loopK (ι := Nat × Ow × List UInt8) rfl (ks := [8, 12, 13, 14]) (.cons rfl (.cons rfl (.cons rfl (.cons rfl .nil)))) (fun y => [(9, .int .i64 ((y.1 : Int) - 1)), (6, .slice y.2.1.p y.2.1.n y.2.1.cap)]) (fun y w => Mem w0 w No [(m1, .row 145 (encF f)), (y.2.1.g, y.2.1.b)] ∧ Acc 5 1 y.2.1.p y.2.1.n y.2.1.cap ((bs ++ Pl.putB (fs.take x.1) ++ y.2.2).flatMap encB) y.2.1.g y.2.1.b ∧ y.2.2 ++ Pl.be f.1 y.1 = Pl.be f.1 f.2.toNat ∧ y.1 ≤ 8 ∧ y.2.1.n + y.1 ≤ bs.length + 8 * x.1 + 8) (fun y => y.1) (f.2.toNat, x.2, []) (⟨hm, by simpa using ha_s, rfl, by omega, by simp only; omega⟩) ⟨(congrArg (fun z => some (Value.int .i64 z)) (by simp only; omega)), rfl, trivial⟩ (fun y w hM => ?_)
      obtain ⟨hm, ha_s, hpre, hj, hn2⟩ := hM
      refine HW_seq rfl ?_
      refine HW_seq rfl ?_
      refine HW_text (.pure 0 (.pure 1 .done)) (by kernel_rfl) ?_
      refine rw_p rfl rfl (y_move rfl) ?_
      refine rw_p rfl rfl (y_ge rfl rfl) ?_
      refine rw_done ?_
      refine gn_sq ?_
      refine HW_cond rfl rfl (fun hc2 => ?_) (fun hc2 => ?_)
      ·
        simp only [decide_eq_true_eq] at hc2
        refine HW_skip rfl ?_
        refine gn_sq ?_
        refine HW_seq rfl ?_
        refine HW_block rfl ?_
        refine HW_text (.pure 0 (.pure 1 (.pure 2 (.pure 3 (.pure 4 (.pure 5 (.pure 6 (.act 7 (.act 8 (.pure 9 .done)))))))))) (by kernel_rfl) ?_
        refine rw_p rfl rfl (y_move rfl) ?_
        refine rw_p rfl rfl (y_fieldAddr rfl fo145_0) ?_
        refine rw_p rfl rfl (y_load rfl sc23 (hm.nt 0 rfl) rfl) ?_
        refine rw_p rfl rfl (y_move rfl) ?_
        refine rw_p rfl rfl (y_mul rfl rfl (i64w (by omega) (by omega))) ?_
        refine rw_p rfl rfl (y_shr rfl rfl (by omega) rfl) ?_
        refine rw_p rfl rfl (y_conv rfl is23 it5 (shrB (k := y.1 - 1) hf.1.1 (by omega) (by omega))) ?_
        refine a_buildSlice (l := [_]) rfl rfl sl22 z5 rfl rfl rfl rfl rfl rfl rfl hm trivial fun m2 w hg_m2 hm hh => ?_
        refine a_append rfl rfl rfl rfl rfl rfl sl22 sl22 z5 rfl rfl (Rd.row0 (hm.get (k := 0) rfl)) rfl ha_s hm 2 rfl (by omega) (by omega) fun p_s cap_s g_s b_s w ha_s hm => ?_
        refine rw_p rfl rfl (y_assign rfl) ?_
        refine rw_done ?_
        refine gn_bl ?_
        refine gn_sq ?_
        refine HW_text (.pure 0 (.pure 1 (.pure 2 .done))) (by kernel_rfl) ?_
        refine rw_p rfl rfl (y_move rfl) ?_
        refine rw_p rfl rfl (y_sub rfl rfl (i64w (by omega) (by omega))) ?_
        refine rw_p rfl rfl (y_assign rfl) ?_
        refine rw_done ?_
        refine next (y.1 - 1, ⟨p_s, _, cap_s, g_s, b_s⟩, y.2.2 ++ [Pl.byt f.1 (y.1 - 1)]) (by simp only; omega) ⟨hm.tail, ha_s.to ?_, ?_, by simp only; omega, by simp only; omega⟩ ⟨nx1 y.1 (by omega), rfl, rfl, rfl, rfl, rfl, trivial⟩
        · simp [encB]
        · rw [← hpre]; simp only [List.append_assoc, List.singleton_append]; rw [show y.1 = (y.1 - 1) + 1 by omega]; rfl
      ·
        simp only [decide_eq_false_iff_not] at hc2
        refine HW_exit rfl ?_
        refine gx_sq (gx_lp ?_)
        refine gx_here ?_
        refine gn_bl ?_
        refine gn_sq ?_
        refine HW_text (.pure 0 (.pure 1 .done)) (by kernel_rfl) ?_
        refine rw_p rfl rfl (y_add rfl rfl (i64w (by omega) (by omega))) ?_
        refine rw_p rfl rfl (y_move rfl) ?_
        refine rw_done ?_
        refine next (x.1 + 1, y.2.1) (by simp only; omega) ⟨hm.tail, ha_s.to ?_, by simp only; omega, ?_, by simp only; omega⟩ ⟨nx x.1, rfl, rfl, rfl, trivial⟩
        · have hy0 : y.1 = 0 := by omega
          rw [hy0, Pl.be, List.append_nil] at hpre
          simp only [Pl.putB_next hi, ← hpre, List.append_assoc]
        · simp only [Pl.fitA_next hi, hfit, hc1]; rfl
  ·
    simp only [decide_eq_false_iff_not] at hc0
    have hk : x.1 = fs.length := by omega
    rw [hk, List.take_length] at ha_s hfit
    refine HW_exit rfl ?_
    refine gx_sq (gx_lp ?_)
    refine gx_here ?_
    refine gn_sq ?_
    refine HW_seq rfl ?_
    refine HW_text (.pure 0 (.pure 1 (.pure 2 .done))) (by kernel_rfl) ?_
    refine rw_p rfl rfl (y_move rfl) ?_
    refine rw_p rfl rfl (y_assign rfl) ?_
    refine rw_p rfl rfl (y_assign rfl) ?_
    refine rw_done ?_
    refine gn_sq ?_
    refine HW_ret rfl ?_
    refine toR (fin hret rfl (.tmp rfl (.tmp rfl .nil)) .more ?_)
    exact ⟨_, _, _, _, _, by rw [hfit], by unfold Pl.wout; rw [hfit]; exact ha_s, hm⟩

theorem b_equal (p q : Option Addr) (c1 c2 : Nat) (xs ys : List UInt8) (w0 : World) (hx : Rd w0 p (xs.flatMap encB)) (hy : Rd w0 q (ys.flatMap encB)) : C Tryz.prog 45 [.slice p xs.length c1, .slice q ys.length c2] w0 fun v w' => v = .bool (decide (xs = ys)) ∧ Ext No w0 w' := by
  refine C_of Tryz.func45 rfl rfl rfl fun κ hret hnorm => ?_
  have hm := Mem.start w0
  refine HW_seq rfl ?_
  refine HW_text (.pure 0 .done) (by kernel_rfl) ?_
  refine rw_p rfl rfl (y_assign rfl) ?_
  refine rw_done ?_
  refine gn_sq ?_
  refine HW_seq rfl ?_
  refine HW_text (.pure 0 (.pure 1 (.pure 2 (.pure 3 (.pure 4 (.pure 5 .done)))))) (by kernel_rfl) ?_
  refine rw_p rfl rfl (y_move rfl) ?_
  refine rw_p rfl rfl (y_cvs rfl bt22_9 ((hx.ext0 hm.to).nt) rfl) ?_
  refine rw_p rfl rfl (y_move rfl) ?_
  refine rw_p rfl rfl (y_cvs rfl bt22_9 ((hy.ext0 hm.to).nt) rfl) ?_
  refine rw_p rfl rfl (y_seqB rfl rfl) ?_
  refine rw_p rfl rfl (y_assign rfl) ?_
  refine rw_done ?_
  refine gn_sq ?_
  refine HW_ret rfl ?_
  refine toR (fin hret rfl (.tmp rfl .nil) .one ?_)
  exact ⟨rfl, hm.to⟩

theorem b_prefix (p q : Option Addr) (c1 c2 : Nat) (xs ys : List UInt8) (w0 : World) (hx : Rd w0 p (xs.flatMap encB)) (hy : Rd w0 q (ys.flatMap encB)) (hc : xs.length ≤ c1) (hsp : c1 ≠ 0 → ∀ ad, p = some ad → ad.spot = none) : C Tryz.prog 92 [.slice p xs.length c1, .slice q ys.length c2] w0 fun v w' => v = .bool (decide (ys.length ≤ xs.length) && decide (xs.take ys.length = ys)) ∧ Ext No w0 w' := by
  refine C_of Tryz.func92 rfl rfl rfl fun κ hret hnorm => ?_
  have hm := Mem.start w0
  refine HW_seq rfl ?_
  refine HW_text (.pure 0 .done) (by kernel_rfl) ?_
  refine rw_p rfl rfl (y_assign rfl) ?_
  refine rw_done ?_
  refine gn_sq ?_
  refine HW_seq rfl ?_
  refine HW_text (.pure 0 (.pure 1 (.pure 2 (.pure 3 (.pure 4 (.pure 5 (.pure 6 (.pure 7 (.pure 8 (.pure 9 (.pure 10 (.act 11 (.pure 12 (.pure 13 .done)))))))))))))) (by kernel_rfl) ?_
  refine rw_p rfl rfl (y_move rfl) ?_
  refine rw_p rfl rfl (y_len rfl rfl sl22) ?_
  refine rw_p rfl rfl (y_move rfl) ?_
  refine rw_p rfl rfl (y_len rfl rfl sl22) ?_
  refine rw_p rfl rfl (y_ge rfl rfl) ?_
  refine rw_p rfl rfl (y_move rfl) ?_
  refine rw_g rfl rfl rfl (fun hc => (y_move rfl)) ?_
  refine rw_g rfl rfl rfl (fun hc => (y_move rfl)) ?_
  refine rw_g rfl rfl rfl (fun hc => (y_len (gx hc rfl) rfl sl22)) ?_
  refine rw_g rfl rfl rfl (fun hc => (y_slice (ln := 0) (hn := ys.length) (gx hc rfl) sl22 rfl ⟨_, (gx hc rfl)⟩ (Nat.zero_le _) (by simp at hc; omega) (fun h => hsp (by omega)))) ?_
  refine rw_g rfl rfl rfl (fun hc => (y_move rfl)) ?_
  refine a_callG rfl rfl rfl (fun hc => (evs_c (gx hc rfl) (evs_c (gx hc rfl) evs_n))) go45 (fun hc => (C.eqv (b_equal p q c1 c2 (xs.take ys.length) ys _ ((hx.ext0 hm.to).takeB _) (hy.ext0 hm.to)) (by simp at hc; rw [List.length_take, Nat.min_eq_left (by omega), slp_zero' hsp]; rfl))) trivial fun w hE hh => ?_
  replace hm := hm.ext hE
  refine rw_p rfl rfl (y_and rfl rfl rfl) ?_
  refine rw_p rfl rfl (y_assign rfl) ?_
  refine rw_done ?_
  refine gn_sq ?_
  refine HW_ret rfl ?_
  refine toR (fin hret rfl (.tmp rfl .nil) .one ?_)
  exact ⟨congrArg Value.bool (by simp only [Int.ofNat_le]), hm.to⟩

theorem w_fault (r e : Nat) (p : Option Addr) (n cap : Nat) (s : Pl.RS) (w0 : World) (hr : w0.heap[r]? = some (Blk.row e (rdV p n cap s)).toObj) : C Tryz.prog 58 [.pointer (some ⟨r, 0, none⟩)] w0 fun v w' => v = .agg ⟨[.int .i64 s.code, .int .i64 s.fat]⟩ ∧ Ext No w0 w' := by
  refine C_of Tryz.func58 rfl rfl rfl fun κ hret hnorm => ?_
  have hm := Mem.start w0
  refine HW_seq rfl ?_
  refine HW_text (.act 0 .done) (by kernel_rfl) ?_
  refine a_alloc rfl rfl z123 hm trivial fun m1 w hg_m1 hm hh => ?_
  refine rw_done ?_
  refine gn_sq ?_
  refine HW_seq rfl ?_
  refine HW_seq rfl ?_
  refine HW_text (.pure 0 (.pure 1 .done)) (by kernel_rfl) ?_
  refine rw_p rfl rfl (y_move rfl) ?_
  refine rw_p rfl rfl (y_pnil rfl rfl pb118) ?_
  refine rw_done ?_
  refine gn_sq ?_
  refine HW_condF rfl rfl rfl ?_
  refine HW_skip rfl ?_
  refine gn_sq ?_
  refine HW_seq rfl ?_
  refine HW_text (.pure 0 (.pure 1 (.pure 2 (.pure 3 (.pure 4 (.act 5 .done)))))) (by kernel_rfl) ?_
  refine rw_p rfl rfl (y_move rfl) ?_
  refine rw_p rfl rfl (y_nil rfl) ?_
  refine rw_p rfl rfl (y_fieldAddr rfl fo162_0) ?_
  refine rw_p rfl rfl (y_fieldAddr rfl fo160_2) ?_
  refine rw_p rfl rfl (y_loadA (s := 2) (vs := [_, _]) rfl ag123 (nowT ((hm.to.same _ (Array.getElem?_eq_some_iff.1 hr).1 id).trans hr)) rfl) ?_
  refine a_store rfl rfl rfl rfl sz123 rfl hm 0 rfl rfl fun w hm => ?_
  refine rw_done ?_
  refine gn_sq ?_
  refine HW_ret rfl ?_
  refine toR (fin hret rfl (.cell rfl (run_loadVar_a (vs := [_, _]) ag123 (hm.get (k := 0) rfl) rfl) .nil) .one ?_)
  exact ⟨rfl, hm.to⟩

theorem w_length (r e : Nat) (p : Option Addr) (cap : Nat) (bs : List UInt8) (s : Pl.RS) (w0 : World) (hr : w0.heap[r]? = some (Blk.row e (rdV p bs.length cap s)).toObj) (hd : Rd w0 p (bs.flatMap encB)) (hne : bs.flatMap encB ≠ [] → ∀ ad, p = some ad → ad.block ≠ r) (hcap : bs.length ≤ cap) (hsp : cap ≠ 0 → ∀ ad, p = some ad → ad.spot = none) (hat : s.at_ ≤ bs.length) (hlen : bs.length ≤ 140737488355328) : C Tryz.prog 57 [.pointer (some ⟨r, 0, none⟩)] w0 fun v w' => v = .int .i64 (Pl.rlength bs s).2 ∧ Mem w0 w' (fun k => k = r) [(r, .row e (rdV p bs.length cap (Pl.rlength bs s).1))] := by
  refine C_of Tryz.func57 rfl rfl rfl fun κ hret hnorm => ?_
  have hm := Mem.start1 hr
  refine HW_seq rfl ?_
  refine HW_text (.pure 0 .done) (by kernel_rfl) ?_
  refine rw_p rfl rfl (y_assign rfl) ?_
  refine rw_done ?_
  refine gn_sq ?_
  refine HW_seq rfl ?_
  refine HW_seq rfl ?_
  refine HW_text (.pure 0 (.pure 1 .done)) (by kernel_rfl) ?_
  refine rw_p rfl rfl (y_move rfl) ?_
  refine rw_p rfl rfl (y_pnil rfl rfl pb118) ?_
  refine rw_done ?_
  refine gn_sq ?_
  refine HW_condF rfl rfl rfl ?_
  refine HW_skip rfl ?_
  refine gn_sq ?_
  refine HW_seq rfl ?_
  refine HW_text (.pure 0 (.pure 1 (.pure 2 (.pure 3 (.pure 4 (.pure 5 .done)))))) (by kernel_rfl) ?_
  refine rw_p rfl rfl (y_move rfl) ?_
  refine rw_p rfl rfl (y_nil rfl) ?_
  refine rw_p rfl rfl (y_fieldAddr rfl fo162_0) ?_
  refine rw_p rfl rfl (y_fieldAddr rfl fo160_1) ?_
  refine rw_p rfl rfl (y_load rfl sc3 (hm.nt 0 rfl) rfl) ?_
  refine rw_p rfl rfl (y_assign rfl) ?_
  refine rw_done ?_
  refine gn_sq ?_
  refine HW_seq rfl ?_
  refine HW_text (.pure 0 (.act 1 (.pure 2 .done))) (by kernel_rfl) ?_
  refine rw_p rfl rfl (y_move rfl) ?_
  refine a_call rfl rfl rfl go56 (w_uint r e p cap bs s 8 _ (hm.get (k := 0) rfl) (hd.extN hm.to hne) hne hcap hsp hat hlen (by omega)) fun v w hR => ?_
  obtain ⟨rfl, hmc⟩ := hR
  refine ⟨trivial, ?_⟩
  replace hm := hm.callJ 0 rfl hmc
  have hub := Pl.ruint_bnd bs s 8
  refine rw_p rfl rfl (y_assign rfl) ?_
  refine rw_done ?_
  refine gn_sq ?_
  refine HW_seq rfl ?_
  refine HW_seq rfl ?_
  refine HW_text (.pure 0 (.pure 1 .done)) (by kernel_rfl) ?_
  refine rw_p rfl rfl (y_move rfl) ?_
  refine rw_p rfl rfl (y_gt rfl rfl) ?_
  refine rw_done ?_
  refine gn_sq ?_
  refine HW_cond rfl rfl (fun hc1 => ?_) (fun hc1 => ?_)
  ·
    simp only [Bool.and_eq_true, Bool.or_eq_true, Bool.and_eq_false_iff, Bool.or_eq_false_iff, Bool.not_eq_true', Bool.not_eq_false', decide_eq_true_eq, decide_eq_false_iff_not] at hc1
    refine HW_seq rfl ?_
    refine HW_text (.pure 0 (.pure 1 (.pure 2 (.pure 3 (.act 4 .done))))) (by kernel_rfl) ?_
    refine rw_p rfl rfl (y_move rfl) ?_
    refine rw_p rfl rfl (y_nil rfl) ?_
    refine rw_p rfl rfl (y_fieldAddr rfl fo162_0) ?_
    refine rw_p rfl rfl (y_move rfl) ?_
    refine a_call rfl rfl rfl go93 (w_fail r e p bs.length cap (Pl.ruint bs s 8).1 2 s.at_ _ (hm.get (k := 0) rfl)) fun v w hR => ?_
    obtain ⟨rfl, hmc⟩ := hR
    refine ⟨trivial, ?_⟩
    replace hm := hm.callJ 0 rfl hmc
    refine rw_done ?_
    refine gn_sq ?_
    refine HW_seq rfl ?_
    refine HW_text (.pure 0 .done) (by kernel_rfl) ?_
    refine rw_p rfl rfl (y_assign rfl) ?_
    refine rw_done ?_
    refine gn_sq ?_
    refine HW_ret rfl ?_
    refine gr_sq ?_
    refine toR (fin hret rfl (.tmp rfl .nil) .one ?_)
    have e2 : Pl.rlength bs s = ((Pl.ruint bs s 8).1.fail 2 s.at_, 0) := by unfold Pl.rlength; rw [if_pos hc1]
    rw [e2]; exact ⟨rfl, hm⟩
  ·
    simp only [Bool.and_eq_true, Bool.or_eq_true, Bool.and_eq_false_iff, Bool.or_eq_false_iff, Bool.not_eq_true', Bool.not_eq_false', decide_eq_true_eq, decide_eq_false_iff_not] at hc1
    refine HW_skip rfl ?_
    refine gn_sq ?_
    refine HW_seq rfl ?_
    refine HW_text (.pure 0 (.pure 1 (.pure 2 .done))) (by kernel_rfl) ?_
    refine rw_p rfl rfl (y_move rfl) ?_
    refine rw_p rfl rfl (y_conv rfl is23 it3 (i64w (by omega) (by omega))) ?_
    refine rw_p rfl rfl (y_assign rfl) ?_
    refine rw_done ?_
    refine gn_sq ?_
    refine HW_ret rfl ?_
    refine toR (fin hret rfl (.tmp rfl .nil) .one ?_)
    have e2 : Pl.rlength bs s = Pl.ruint bs s 8 := by unfold Pl.rlength; rw [if_neg hc1]
    rw [e2]; exact ⟨rfl, hm⟩

theorem w_expect (r e : Nat) (p : Option Addr) (cap : Nat) (bs : List UInt8) (s : Pl.RS) (q : Option Addr) (cq : Nat) (ds : List UInt8) (c : Int) (w0 : World) (hr : w0.heap[r]? = some (Blk.row e (rdV p bs.length cap s)).toObj) (hd : Rd w0 p (bs.flatMap encB)) (hne : bs.flatMap encB ≠ [] → ∀ ad, p = some ad → ad.block ≠ r) (hcap : bs.length ≤ cap) (hsp : cap ≠ 0 → ∀ ad, p = some ad → ad.spot = none) (hat : s.at_ ≤ bs.length) (hlen : bs.length ≤ 140737488355328) (hds : Rd w0 q (ds.flatMap encB)) (hqr : ds.flatMap encB ≠ [] → ∀ ad, q = some ad → ad.block ≠ r) (hdl : ds.length ≤ 140737488355328) (hdc : ds.length ≤ cq) (hdp : cq ≠ 0 → ∀ ad, q = some ad → ad.spot = none) : C Tryz.prog 55 [.pointer (some ⟨r, 0, none⟩), .slice q ds.length cq, .int .i64 c] w0 fun v w' => v = .bool (Pl.rexpect bs s ds c).2 ∧ Mem w0 w' (fun k => k = r) [(r, .row e (rdV p bs.length cap (Pl.rexpect bs s ds c).1))] := by
  refine C_of Tryz.func55 rfl rfl rfl fun κ hret hnorm => ?_
  have hm := Mem.start1 hr
  refine HW_seq rfl ?_
  refine HW_text (.pure 0 .done) (by kernel_rfl) ?_
  refine rw_p rfl rfl (y_assign rfl) ?_
  refine rw_done ?_
  refine gn_sq ?_
  refine HW_seq rfl ?_
  refine HW_seq rfl ?_
  refine HW_text (.pure 0 (.pure 1 (.pure 2 (.pure 3 (.pure 4 (.pure 5 (.pure 6 (.pure 7 (.pure 8 (.pure 9 (.pure 10 .done))))))))))) (by kernel_rfl) ?_
  refine rw_p rfl rfl (y_move rfl) ?_
  refine rw_p rfl rfl (y_pnil rfl rfl pb118) ?_
  refine rw_p rfl rfl (y_move rfl) ?_
  refine rw_p rfl rfl (y_move rfl) ?_
  refine rw_p rfl rfl (y_nil rfl) ?_
  refine rw_p rfl rfl (y_fieldAddr rfl fo162_0) ?_
  refine rw_p rfl rfl (y_fieldAddr rfl fo160_2) ?_
  refine rw_p rfl rfl (y_fieldAddr rfl fo123_0) ?_
  refine rw_p rfl rfl (y_load rfl sc34 (hm.nt 0 rfl) rfl) ?_
  refine rw_p rfl rfl (y_ne rfl rfl) ?_
  refine rw_p rfl rfl (y_pickF rfl rfl) ?_
  refine rw_done ?_
  refine gn_sq ?_
  refine HW_cond rfl rfl (fun hc0 => ?_) (fun hc0 => ?_)
  ·
    simp only [Bool.and_eq_true, Bool.or_eq_true, Bool.and_eq_false_iff, Bool.or_eq_false_iff, Bool.not_eq_true', Bool.not_eq_false', decide_eq_true_eq, decide_eq_false_iff_not] at hc0
    refine HW_seq rfl ?_
    refine HW_text (.pure 0 .done) (by kernel_rfl) ?_
    refine rw_p rfl rfl (y_assign rfl) ?_
    refine rw_done ?_
    refine gn_sq ?_
    refine HW_ret rfl ?_
    refine gr_sq ?_
    refine toR (fin hret rfl (.tmp rfl .nil) .one ?_)
    exact ⟨by rw [Pl.rexpect_bad hc0], by rw [Pl.rexpect_bad hc0]; exact hm⟩
  ·
    simp only [Bool.and_eq_true, Bool.or_eq_true, Bool.and_eq_false_iff, Bool.or_eq_false_iff, Bool.not_eq_true', Bool.not_eq_false', decide_eq_true_eq, decide_eq_false_iff_not] at hc0
    refine HW_skip rfl ?_
    refine gn_sq ?_
    refine HW_seq rfl ?_
    refine HW_seq rfl ?_
    refine HW_draw (.pure 0 (.pure 1 (.pure 2 (.pure 3 (.pure 4 (.pure 5 (.pure 6 (.pure 7 (.pure 8 (.pure 9 (.pure 10 (.pure 11 .done)))))))))))) No mix (by kernel_rfl) hm fun w hw hm0 hh => ?_
    have hm := hm0
    refine rw_p rfl rfl (y_move rfl) ?_
    refine rw_p rfl rfl (y_nil rfl) ?_
    refine rw_p rfl rfl (y_fieldAddr rfl fo162_0) ?_
    refine rw_p rfl rfl (y_fieldAddr rfl fo160_0) ?_
    refine rw_p rfl rfl (y_load rfl sc22 (hm0.nd 0 rfl id) rfl) ?_
    refine rw_p rfl rfl (y_move rfl) ?_
    refine rw_p rfl rfl (y_nil rfl) ?_
    refine rw_p rfl rfl (y_fieldAddr rfl fo162_0) ?_
    refine rw_p rfl rfl (y_fieldAddr rfl fo160_1) ?_
    refine rw_p rfl rfl (y_load rfl sc3 (hm0.nd 0 rfl id) rfl) ?_
    refine rw_p rfl rfl (y_slice (ln := s.at_) (hn := bs.length) rfl sl22 ⟨_, rfl⟩ rfl (by omega) hcap (fun h => hsp (by omega))) ?_
    refine rw_p rfl rfl (y_assign rfl) ?_
    refine rw_done ?_
    refine gn_sq ?_
    refine HW_seq rfl ?_
    have hl2 : ((bs.drop s.at_).take (min ds.length (bs.length - s.at_))).length = min ds.length (bs.length - s.at_) := by rw [List.length_take, List.length_drop]; omega
    ·
      refine HW_text (.pure 0 (.pure 1 (.pure 2 (.pure 3 (.pure 4 (.pure 5 (.pure 6 (.pure 7 (.act 8 (.pure 9 .done)))))))))) (by kernel_rfl) ?_
      refine rw_p rfl rfl (y_move rfl) ?_
      refine rw_p rfl rfl (y_move rfl) ?_
      refine rw_p rfl rfl (y_move rfl) ?_
      refine rw_p rfl rfl (y_len rfl rfl sl22) ?_
      refine rw_p rfl rfl (y_move rfl) ?_
      refine rw_p rfl rfl (y_len rfl rfl sl22) ?_
      refine rw_p rfl rfl (y_min rfl rfl) ?_
      refine rw_p rfl rfl (y_slice (ln := 0) (hn := min ds.length (bs.length - s.at_)) rfl sl22 rfl ⟨_, congrArg (fun x => some (Value.int .i64 x)) (by omega)⟩ (Nat.zero_le _) (by omega) (fun h ad e => slp_spot (fun _ => hsp (by omega)) (show cap ≠ s.at_ by omega) e)) ?_
      refine a_call rfl rfl rfl go92 (C.eqv (b_prefix q (slp p cap s.at_ 1) cq (cap - s.at_) ds ((bs.drop s.at_).take (min ds.length (bs.length - s.at_))) _ (hds.extN hm.to hqr) ((hd.extN hm.to hne).sub hcap) hdc hdp) (by rw [hl2, slp_zero' (fun h ad e => slp_spot (fun _ => hsp (by omega)) (show cap ≠ s.at_ by omega) e)]; rfl)) fun v w hR => ?_
      obtain ⟨rfl, hE⟩ := hR
      refine ⟨trivial, ?_⟩
      replace hm := hm.ext hE
      refine rw_p rfl rfl (y_not rfl) ?_
      refine rw_done ?_
      refine gn_sq ?_
      refine HW_cond rfl rfl (fun hc1 => ?_) (fun hc1 => ?_)
      ·
        simp only [Bool.not_eq_true', hl2] at hc1
        have hne2 : ds.take (min ds.length (bs.length - s.at_)) ≠ (bs.drop s.at_).take (min ds.length (bs.length - s.at_)) := fun e => by rw [decide_eq_true e, decide_eq_true (Nat.min_le_left _ _)] at hc1; cases hc1
        refine HW_seq rfl ?_
        refine HW_draw (.pure 0 (.pure 1 (.pure 2 (.pure 3 (.pure 4 (.pure 5 (.pure 6 (.pure 7 (.act 8 (.act 9 .done)))))))))) (fun j => j = r) mix (by kernel_rfl) hm fun w hw hm0 hh => ?_
        have hm := hm0
        refine rw_p rfl rfl (y_move rfl) ?_
        refine rw_p rfl rfl (y_nil rfl) ?_
        refine rw_p rfl rfl (y_fieldAddr rfl fo162_0) ?_
        refine rw_p rfl rfl (y_move rfl) ?_
        refine rw_p rfl rfl (y_move rfl) ?_
        refine rw_p rfl rfl (y_nil rfl) ?_
        refine rw_p rfl rfl (y_fieldAddr rfl fo162_0) ?_
        refine rw_p rfl rfl (y_fieldAddr rfl fo160_1) ?_
        refine a_pure rfl rfl rfl (y_load rfl sc3 (hm.nt 0 rfl) rfl) hh ?_
        refine a_call rfl rfl rfl go93 (w_fail _ _ _ _ _ s _ _ _ (hm.get (k := 0) rfl)) fun v w hR => ?_
        obtain ⟨rfl, hmc⟩ := hR
        refine ⟨hh.turn hmc.to fun _ h => h, ?_⟩
        replace hh := hh.turn hmc.to fun _ h => h
        replace hm := hm.callJ 0 rfl hmc
        refine rw_done ?_
        refine gn_sq ?_
        refine HW_seq rfl ?_
        refine HW_text (.pure 0 .done) (by kernel_rfl) ?_
        refine rw_p rfl rfl (y_assign rfl) ?_
        refine rw_done ?_
        refine gn_sq ?_
        refine HW_ret rfl ?_
        refine gr_sq ?_
        refine toR (fin hret rfl (.tmp rfl .nil) .one ?_)
        have e2 : Pl.rexpect bs s ds c = (s.fail c s.at_, false) := by unfold Pl.rexpect; rw [if_neg hc0, if_pos hne2]
        rw [e2]; exact ⟨rfl, hm⟩
      ·
        simp only [Bool.not_eq_false', Bool.and_eq_true, decide_eq_true_eq, hl2] at hc1
        refine HW_skip rfl ?_
        refine gn_sq ?_
        refine HW_seq rfl ?_
        refine HW_text (.pure 0 (.pure 1 (.pure 2 (.pure 3 (.pure 4 (.act 5 (.pure 6 (.pure 7 (.pure 8 (.pure 9 (.pure 10 .done))))))))))) (by kernel_rfl) ?_
        refine rw_p rfl rfl (y_move rfl) ?_
        refine rw_p rfl rfl (y_nil rfl) ?_
        refine rw_p rfl rfl (y_fieldAddr rfl fo162_0) ?_
        refine rw_p rfl rfl (y_move rfl) ?_
        refine rw_p rfl rfl (y_len rfl rfl sl22) ?_
        refine a_call rfl rfl rfl go94 (w_take r e p bs.length cap s ds.length _ (hm.get (k := 0) rfl) hcap hsp hat hlen (by omega)) fun v w hR => ?_
        obtain ⟨rfl, hmc⟩ := hR
        refine ⟨trivial, ?_⟩
        replace hm := hm.callJ 0 rfl hmc
        refine rw_p rfl rfl (y_move rfl) ?_
        refine rw_p rfl rfl (y_extract rfl rfl) ?_
        refine rw_p rfl rfl (y_extract rfl rfl) ?_
        refine rw_p rfl rfl (y_assign rfl) ?_
        refine rw_p rfl rfl (y_assign rfl) ?_
        refine rw_done ?_
        refine gn_sq ?_
        refine HW_seq rfl ?_
        refine HW_text (.pure 0 (.pure 1 .done)) (by kernel_rfl) ?_
        refine rw_p rfl rfl (y_move rfl) ?_
        refine rw_p rfl rfl (y_assign rfl) ?_
        refine rw_done ?_
        refine gn_sq ?_
        refine HW_ret rfl ?_
        refine toR (fin hret rfl (.tmp rfl .nil) .one ?_)
        have e2 : Pl.rexpect bs s ds c = Pl.rtake bs.length s ds.length := by unfold Pl.rexpect; rw [if_neg hc0, if_neg (not_not_intro hc1.2)]
        rw [e2]; exact ⟨rfl, hm⟩

theorem w_uint0 (m : Int) (w0 : World) : C Tryz.prog 56 [.pointer none, .int .i64 m] w0 fun v w' => v = .int .u64 0 ∧ Ext No w0 w' := by
  refine C_of Tryz.func56 rfl rfl rfl fun κ hret hnorm => ?_
  have hm := Mem.start w0
  refine HW_seq rfl ?_
  refine HW_text (.pure 0 .done) (by kernel_rfl) ?_
  refine rw_p rfl rfl (y_assign rfl) ?_
  refine rw_done ?_
  refine gn_sq ?_
  refine HW_seq rfl ?_
  refine HW_seq rfl ?_
  refine HW_text (.pure 0 (.pure 1 .done)) (by kernel_rfl) ?_
  refine rw_p rfl rfl (y_move rfl) ?_
  refine rw_p rfl rfl (y_pnil rfl rfl pb118) ?_
  refine rw_done ?_
  refine gn_sq ?_
  refine HW_condT rfl rfl rfl ?_
  refine HW_seq rfl ?_
  refine HW_text (.pure 0 .done) (by kernel_rfl) ?_
  refine rw_p rfl rfl (y_assign rfl) ?_
  refine rw_done ?_
  refine gn_sq ?_
  refine HW_ret rfl ?_
  refine gr_sq ?_
  refine toR (fin hret rfl (.tmp rfl .nil) .one ?_)
  exact ⟨rfl, hm.to⟩

theorem w_length0 (w0 : World) : C Tryz.prog 57 [.pointer none] w0 fun v w' => v = .int .i64 0 ∧ Ext No w0 w' := by
  refine C_of Tryz.func57 rfl rfl rfl fun κ hret hnorm => ?_
  have hm := Mem.start w0
  refine HW_seq rfl ?_
  refine HW_text (.pure 0 .done) (by kernel_rfl) ?_
  refine rw_p rfl rfl (y_assign rfl) ?_
  refine rw_done ?_
  refine gn_sq ?_
  refine HW_seq rfl ?_
  refine HW_seq rfl ?_
  refine HW_text (.pure 0 (.pure 1 .done)) (by kernel_rfl) ?_
  refine rw_p rfl rfl (y_move rfl) ?_
  refine rw_p rfl rfl (y_pnil rfl rfl pb118) ?_
  refine rw_done ?_
  refine gn_sq ?_
  refine HW_condT rfl rfl rfl ?_
  refine HW_seq rfl ?_
  refine HW_text (.pure 0 .done) (by kernel_rfl) ?_
  refine rw_p rfl rfl (y_assign rfl) ?_
  refine rw_done ?_
  refine gn_sq ?_
  refine HW_ret rfl ?_
  refine gr_sq ?_
  refine toR (fin hret rfl (.tmp rfl .nil) .one ?_)
  exact ⟨rfl, hm.to⟩

theorem w_expect0 (x y : Value) (w0 : World) : C Tryz.prog 55 [.pointer none, x, y] w0 fun v w' => v = .bool false ∧ Ext No w0 w' := by
  refine C_of Tryz.func55 rfl rfl rfl fun κ hret hnorm => ?_
  have hm := Mem.start w0
  refine HW_seq rfl ?_
  refine HW_text (.pure 0 .done) (by kernel_rfl) ?_
  refine rw_p rfl rfl (y_assign rfl) ?_
  refine rw_done ?_
  refine gn_sq ?_
  refine HW_seq rfl ?_
  refine HW_seq rfl ?_
  refine HW_text (.pure 0 (.pure 1 (.pure 2 (.pure 3 (.pure 4 (.pure 5 (.pure 6 (.pure 7 (.pure 8 (.pure 9 (.pure 10 .done))))))))))) (by kernel_rfl) ?_
  refine rw_p rfl rfl (y_move rfl) ?_
  refine rw_p rfl rfl (y_pnil rfl rfl pb118) ?_
  refine rw_p rfl rfl (y_move rfl) ?_
  refine rw_gf rfl rfl (by decide) rfl ?_
  refine rw_gf rfl rfl (by decide) rfl ?_
  refine rw_gf rfl rfl (by decide) rfl ?_
  refine rw_gf rfl rfl (by decide) rfl ?_
  refine rw_gf rfl rfl (by decide) rfl ?_
  refine rw_gf rfl rfl (by decide) rfl ?_
  refine rw_gf rfl rfl (by decide) rfl ?_
  refine rw_p rfl rfl (y_pickT rfl rfl) ?_
  refine rw_done ?_
  refine gn_sq ?_
  refine HW_condT rfl rfl rfl ?_
  refine HW_seq rfl ?_
  refine HW_text (.pure 0 .done) (by kernel_rfl) ?_
  refine rw_p rfl rfl (y_assign rfl) ?_
  refine rw_done ?_
  refine gn_sq ?_
  refine HW_ret rfl ?_
  refine gr_sq ?_
  refine toR (fin hret rfl (.tmp rfl .nil) .one ?_)
  exact ⟨rfl, hm.to⟩

theorem w_fault0 (w0 : World) : C Tryz.prog 58 [.pointer none] w0 fun v w' => v = .agg ⟨[.int .i64 1, .int .i64 0]⟩ ∧ Ext No w0 w' := by
  refine C_of Tryz.func58 rfl rfl rfl fun κ hret hnorm => ?_
  have hm := Mem.start w0
  refine HW_seq rfl ?_
  refine HW_text (.act 0 .done) (by kernel_rfl) ?_
  refine a_alloc rfl rfl z123 hm trivial fun m1 w hg_m1 hm hh => ?_
  refine rw_done ?_
  refine gn_sq ?_
  refine HW_seq rfl ?_
  refine HW_seq rfl ?_
  refine HW_text (.pure 0 (.pure 1 .done)) (by kernel_rfl) ?_
  refine rw_p rfl rfl (y_move rfl) ?_
  refine rw_p rfl rfl (y_pnil rfl rfl pb118) ?_
  refine rw_done ?_
  refine gn_sq ?_
  refine HW_condT rfl rfl rfl ?_
  refine HW_seq rfl ?_
  refine HW_text (.pure 0 (.act 1 .done)) (by kernel_rfl) ?_
  refine rw_p rfl rfl (y_build (cs := [_, _]) z123 ft123 rfl rfl rfl rfl rfl) ?_
  refine a_store rfl rfl rfl rfl sz123 rfl hm 0 rfl rfl fun w hm => ?_
  refine rw_done ?_
  refine gn_sq ?_
  refine HW_ret rfl ?_
  refine gr_sq ?_
  refine toR (fin hret rfl (.cell rfl (run_loadVar_a (vs := [_, _]) ag123 (hm.get (k := 0) rfl) rfl) .nil) .one ?_)
  exact ⟨rfl, hm.to⟩

theorem w_new (p : Option Addr) (cap : Nat) (bs : List UInt8) (w0 : World) (hx : Rd w0 p (bs.flatMap encB)) (hlen : bs.length ≤ 140737488355328) : C Tryz.prog 54 [.slice p bs.length cap] w0 fun v w' => ∃ m q c g b, v = .pointer (some ⟨m, 0, none⟩) ∧ Acc 5 1 q bs.length c (bs.flatMap encB) g b ∧ Mem w0 w' No [(m, .row 162 (rdV q bs.length c ⟨0, 0, 0⟩)), (g, b)] := by
  refine C_of Tryz.func54 rfl rfl rfl fun κ hret hnorm => ?_
  have hm := Mem.start w0
  refine HW_seq rfl ?_
  refine HW_text (.pure 0 .done) (by kernel_rfl) ?_
  refine rw_p rfl rfl (y_assign rfl) ?_
  refine rw_done ?_
  refine gn_sq ?_
  refine HW_seq rfl ?_
  refine HW_text (.pure 0 (.act 1 (.pure 2 (.pure 3 (.act 4 (.pure 5 .done)))))) (by kernel_rfl) ?_
  refine rw_p rfl rfl (y_move rfl) ?_
  refine a_call rfl rfl rfl go43 (clone_b p cap bs _ (hx.ext0 hm.to) (by omega)) fun v w hR => ?_
  obtain ⟨p_s, cap_s, g_s, b_s, rfl, ha_s, hmc⟩ := hR
  refine ⟨trivial, ?_⟩
  have hg_s : b_s.real = true → _ := fun hr => (hmc.fresh _ List.mem_cons_self hr).resolve_left id
  replace hm := hm.callN hmc
  refine rw_p rfl rfl (y_build (cs := [_, _, _, _]) z160 ft160 rfl rfl rfl rfl rfl) ?_
  refine rw_p rfl rfl (y_build (cs := [_, _, _, _]) z162 ft162 rfl rfl rfl rfl rfl) ?_
  refine a_box rfl rfl rfl rfl hm trivial fun m1 w hg_m1 hm hh => ?_
  refine rw_p rfl rfl (y_assign rfl) ?_
  refine rw_done ?_
  refine gn_sq ?_
  refine HW_ret rfl ?_
  refine toR (fin hret rfl (.tmp rfl .nil) .one ?_)
  exact ⟨_, _, _, _, _, rfl, ha_s, hm⟩

theorem r6_append (p : Option Addr) (cap : Nat) (bs : List UInt8) (x n : Int) (w0 : World) (hx : Rd w0 p (bs.flatMap encB)) (hlen : bs.length ≤ 1099511627776) (hv : 0 ≤ x ∧ x ≤ 18446744073709551615) (hn : 1 ≤ n ∧ n ≤ 8) : C Tryz.prog 84 [.slice p bs.length cap, .int .u64 x, .int .i64 n] w0 fun v w' => ∃ p n' cap g b, v = .slice p n' cap ∧ Acc 5 1 p n' cap ((bs ++ Pl.be x n.toNat).flatMap encB) g b ∧ Mem w0 w' No [(g, b)] := by
  refine C_of Tryz.func84 rfl rfl rfl fun κ hret hnorm => ?_
  have hm := Mem.start w0
  refine HW_seq rfl ?_
  refine HW_text (.pure 0 .done) (by kernel_rfl) ?_
  refine rw_p rfl rfl (y_assign rfl) ?_
  refine rw_done ?_
  refine gn_sq ?_
  refine HW_seq rfl ?_
  refine HW_text (.act 0 (.pure 1 (.act 2 (.pure 3 .done)))) (by kernel_rfl) ?_
  refine a_buildSlice (l := []) rfl rfl sl22 z5 rfl rfl rfl rfl rfl rfl rfl hm trivial fun m1 w hg_m1 hm hh => ?_
  refine rw_p rfl rfl (y_move rfl) ?_
  refine a_append rfl rfl rfl rfl rfl rfl sl22 sl22 z5 rfl (oneB bs) (hx.ext0 hm.to) (lenB bs) (Acc.row rfl) hm 0 rfl (by omega) (by omega) fun p_s cap_s g_s b_s w ha_s hm => ?_
  refine rw_p rfl rfl (y_assign rfl) ?_
  refine rw_done ?_
  refine gn_sq ?_
  refine HW_seq rfl ?_
  refine HW_seq rfl ?_
  refine HW_text (.pure 0 (.pure 1 (.pure 2 .done))) (by kernel_rfl) ?_
  refine rw_p rfl rfl (y_move rfl) ?_
  refine rw_p rfl rfl (y_sub rfl rfl (i64w (by omega) (by omega))) ?_
  refine rw_p rfl rfl (y_assign rfl) ?_
  refine rw_done ?_
  refine gn_sq ?_
  refine HW_block rfl ?_
  refine HW_loopK (ι := Nat × Ow × List UInt8) rfl (ks := [1, 6]) (.cons rfl (.cons rfl .nil)) (fun y => [(8, .int .i64 ((y.1 : Int) - 1)), (7, .slice y.2.1.p y.2.1.n y.2.1.cap)]) (fun y w => Mem w0 w No [(y.2.1.g, y.2.1.b)] ∧ Acc 5 1 y.2.1.p y.2.1.n y.2.1.cap ((bs ++ y.2.2).flatMap encB) y.2.1.g y.2.1.b ∧ y.2.2 ++ Pl.be x y.1 = Pl.be x n.toNat ∧ y.1 ≤ 8 ∧ y.2.1.n + y.1 ≤ bs.length + 8) (fun y => y.1) (n.toNat, ⟨p_s, _, cap_s, g_s, b_s⟩, []) (⟨hm, by simpa using ha_s, rfl, by omega, by simp only; omega⟩) ⟨(congrArg (fun z => some (Value.int .i64 z)) (by simp only; omega)), rfl, trivial⟩ (fun y w hM => ?_)
  obtain ⟨hm, ha_s, hpre, hj, hn2⟩ := hM
  refine HW_seq rfl ?_
  refine HW_seq rfl ?_
  refine HW_text (.pure 0 (.pure 1 .done)) (by kernel_rfl) ?_
  refine rw_p rfl rfl (y_move rfl) ?_
  refine rw_p rfl rfl (y_ge rfl rfl) ?_
  refine rw_done ?_
  refine gn_sq ?_
  refine HW_cond rfl rfl (fun hc0 => ?_) (fun hc0 => ?_)
  ·
    simp only [decide_eq_true_eq] at hc0
    refine HW_skip rfl ?_
    refine gn_sq ?_
    refine HW_seq rfl ?_
    refine HW_block rfl ?_
    refine HW_text (.pure 0 (.pure 1 (.pure 2 (.pure 3 (.pure 4 (.pure 5 (.act 6 (.act 7 (.pure 8 .done))))))))) (by kernel_rfl) ?_
    refine rw_p rfl rfl (y_move rfl) ?_
    refine rw_p rfl rfl (y_move rfl) ?_
    refine rw_p rfl rfl (y_move rfl) ?_
    refine rw_p rfl rfl (y_mul rfl rfl (i64w (by omega) (by omega))) ?_
    refine rw_p rfl rfl (y_shr rfl rfl (by omega) rfl) ?_
    refine rw_p rfl rfl (y_conv rfl is23 it5 (shrB (k := y.1 - 1) hv.1 (by omega) (by omega))) ?_
    refine a_buildSlice (l := [_]) rfl rfl sl22 z5 rfl rfl rfl rfl rfl rfl rfl hm trivial fun m2 w hg_m2 hm hh => ?_
    refine a_append rfl rfl rfl rfl rfl rfl sl22 sl22 z5 rfl rfl (Rd.row0 (hm.get (k := 0) rfl)) rfl ha_s hm 1 rfl (by omega) (by omega) fun p_s cap_s g_s b_s w ha_s hm => ?_
    refine rw_p rfl rfl (y_assign rfl) ?_
    refine rw_done ?_
    refine gn_bl ?_
    refine gn_sq ?_
    refine HW_text (.pure 0 (.pure 1 (.pure 2 .done))) (by kernel_rfl) ?_
    refine rw_p rfl rfl (y_move rfl) ?_
    refine rw_p rfl rfl (y_sub rfl rfl (i64w (by omega) (by omega))) ?_
    refine rw_p rfl rfl (y_assign rfl) ?_
    refine rw_done ?_
    refine next (y.1 - 1, ⟨p_s, _, cap_s, g_s, b_s⟩, y.2.2 ++ [Pl.byt x (y.1 - 1)]) (by simp only; omega) ⟨hm.tail, ha_s.to ?_, ?_, by simp only; omega, by simp only; omega⟩ ⟨nx1 y.1 (by omega), rfl, rfl, rfl, trivial⟩
    · simp [encB]
    · rw [← hpre]; simp only [List.append_assoc, List.singleton_append]; rw [show y.1 = (y.1 - 1) + 1 by omega]; rfl
  ·
    simp only [decide_eq_false_iff_not] at hc0
    refine HW_exit rfl ?_
    refine gx_sq (gx_lp ?_)
    refine gx_here ?_
    refine gn_sq ?_
    refine HW_seq rfl ?_
    refine HW_text (.pure 0 (.pure 1 .done)) (by kernel_rfl) ?_
    refine rw_p rfl rfl (y_move rfl) ?_
    refine rw_p rfl rfl (y_assign rfl) ?_
    refine rw_done ?_
    refine gn_sq ?_
    refine HW_ret rfl ?_
    refine toR (fin hret rfl (.tmp rfl .nil) .one ?_)
    have hy0 : y.1 = 0 := by omega
    rw [hy0, Pl.be, List.append_nil] at hpre
    exact ⟨_, _, _, _, _, rfl, ha_s.to (by rw [← hpre]), hm⟩

end Go.Proofs.YthailbggeafckaaGreat
