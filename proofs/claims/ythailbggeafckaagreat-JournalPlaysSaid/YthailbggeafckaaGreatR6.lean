/- Contracts of functions of the program: what each returns. Conditions: the hypotheses of each theorem. -/
import Derived.Test.YthailbggeafckaaGreatChk
set_option linter.unusedVariables false
set_option linter.unusedSimpArgs false
namespace Go.Proofs.YthailbggeafckaaGreat
open Go Go.Cx

theorem fo135_2 : fldO Tryz.prog 135 2 = some 2 := by kernel_rfl
theorem fo135_3 : fldO Tryz.prog 135 3 = some 3 := by kernel_rfl
theorem fo135_0 : fldO Tryz.prog 135 0 = some 0 := by kernel_rfl
theorem fo135_1 : fldO Tryz.prog 135 1 = some 1 := by kernel_rfl
theorem go100 : isGo Tryz.prog 100 = true := by kernel_rfl
theorem go67 : isGo Tryz.prog 67 = true := by kernel_rfl

theorem r6_fail (r e : Nat) (p : Option Addr) (n cap : Nat) (s : Pl.RS) (c a : Int) (w0 : World) (hr : w0.heap[r]? = some (Blk.row e (rdV p n cap s)).toObj) : C Tryz.prog 100 [.pointer (some ⟨r, 0, none⟩), .int .i64 c, .int .i64 a] w0 fun v w' => v = .tuple ⟨[]⟩ ∧ Mem w0 w' (fun k => k = r) [(r, .row e (rdV p n cap (s.fail c a)))] := by
  refine C_of Tryz.func100 rfl rfl rfl fun κ hret hnorm => ?_
  have hm := Mem.start1 hr
  refine HW_seq rfl ?_
  refine HW_text (.pure 0 (.pure 1 (.pure 2 (.pure 3 (.pure 4 (.pure 5 (.pure 6 (.pure 7 (.pure 8 .done))))))))) (by kernel_rfl) ?_
  refine rw_p rfl rfl (y_move rfl) ?_
  refine rw_p rfl rfl (y_nil rfl) ?_
  refine rw_p rfl rfl (y_fieldAddr rfl fo135_2) ?_
  refine rw_p rfl rfl (y_load rfl sc3 (hm.nt 0 rfl) rfl) ?_
  refine rw_p rfl rfl (y_eq rfl rfl) ?_
  refine rw_p rfl rfl (y_move rfl) ?_
  refine rw_g rfl rfl rfl (fun hc => (y_move rfl)) ?_
  refine rw_g rfl rfl rfl (fun hc => (y_ne (gx hc rfl) rfl)) ?_
  refine rw_p rfl rfl (y_and rfl rfl rfl) ?_
  refine rw_done ?_
  refine gn_sq ?_
  refine HW_cond rfl rfl (fun hc0 => ?_) (fun hc0 => ?_)
  ·
    simp only [Bool.and_eq_true, Bool.or_eq_true, Bool.and_eq_false_iff, Bool.or_eq_false_iff, Bool.not_eq_true', Bool.not_eq_false', decide_eq_true_eq, decide_eq_false_iff_not] at hc0
    refine HW_seq rfl ?_
    refine HW_text (.pure 0 (.pure 1 (.pure 2 (.pure 3 (.act 4 .done))))) (by kernel_rfl) ?_
    refine rw_p rfl rfl (y_move rfl) ?_
    refine rw_p rfl rfl (y_move rfl) ?_
    refine rw_p rfl rfl (y_nil rfl) ?_
    refine rw_p rfl rfl (y_fieldAddr rfl fo135_2) ?_
    refine a_store rfl rfl rfl rfl sz3 rfl hm 0 rfl rfl fun w hm => ?_
    refine rw_done ?_
    refine gn_sq ?_
    refine HW_text (.pure 0 (.pure 1 (.pure 2 (.pure 3 (.act 4 .done))))) (by kernel_rfl) ?_
    refine rw_p rfl rfl (y_move rfl) ?_
    refine rw_p rfl rfl (y_move rfl) ?_
    refine rw_p rfl rfl (y_nil rfl) ?_
    refine rw_p rfl rfl (y_fieldAddr rfl fo135_3) ?_
    refine a_store rfl rfl rfl rfl sz3 rfl hm 0 rfl rfl fun w hm => ?_
    refine rw_done ?_
    refine toN (fin hnorm rfl .nil .nil ?_)
    have e : s.fail c a = if s.code = 0 ∧ c ≠ 0 then { s with code := c, fat := a } else s := rfl
    first | (rw [if_pos (by omega)] at e; rw [e]; exact ⟨rfl, hm⟩) | (rw [if_neg (by omega)] at e; rw [e]; exact ⟨rfl, hm⟩)
  ·
    simp only [Bool.and_eq_true, Bool.or_eq_true, Bool.and_eq_false_iff, Bool.or_eq_false_iff, Bool.not_eq_true', Bool.not_eq_false', decide_eq_true_eq, decide_eq_false_iff_not] at hc0
    refine HW_skip rfl ?_
    refine toN (fin hnorm rfl .nil .nil ?_)
    have e : s.fail c a = if s.code = 0 ∧ c ≠ 0 then { s with code := c, fat := a } else s := rfl
    first | (rw [if_pos (by omega)] at e; rw [e]; exact ⟨rfl, hm⟩) | (rw [if_neg (by omega)] at e; rw [e]; exact ⟨rfl, hm⟩)

set_option maxHeartbeats 800000 in
theorem r6_uint (r e : Nat) (p : Option Addr) (cap : Nat) (bs : List UInt8) (s : Pl.RS) (m : Int) (w0 : World) (hr : w0.heap[r]? = some (Blk.row e (rdV p bs.length cap s)).toObj) (hd : Rd w0 p (bs.flatMap encB)) (hne : bs.flatMap encB ≠ [] → ∀ ad, p = some ad → ad.block ≠ r) (hcap : bs.length ≤ cap) (hsp : cap ≠ 0 → ∀ ad, p = some ad → ad.spot = none) (hat : s.at_ ≤ bs.length) (hlen : bs.length ≤ 140737488355328) (hm64 : Pl.I64 m) : C Tryz.prog 67 [.pointer (some ⟨r, 0, none⟩), .int .i64 m] w0 fun v w' => v = .int .u64 (Pl.ruint bs s m).2 ∧ Mem w0 w' (fun k => k = r) [(r, .row e (rdV p bs.length cap (Pl.ruint bs s m).1))] := by
  have hU : Pl.ruint bs s m = if (Pl.rtake bs.length s (Pl.usize m)).2 = true then ((Pl.rtake bs.length s (Pl.usize m)).1, Pl.num 0 ((bs.drop s.at_).take (Pl.usize m).toNat)) else ((Pl.rtake bs.length s (Pl.usize m)).1, 0) := rfl
  refine C_of Tryz.func67 rfl rfl rfl fun κ hret hnorm => ?_
  have hm := Mem.start1 hr
  refine HW_seq rfl ?_
  refine HW_text (.pure 0 .done) (by kernel_rfl) ?_
  refine rw_p rfl rfl (y_assign rfl) ?_
  refine rw_done ?_
  refine gn_sq ?_
  refine HW_seq rfl ?_
  refine HW_seq rfl ?_
  refine HW_text (.pure 0 (.pure 1 (.pure 2 (.pure 3 (.pure 4 .done))))) (by kernel_rfl) ?_
  refine rw_p rfl rfl (y_move rfl) ?_
  refine rw_p rfl rfl (y_nil rfl) ?_
  refine rw_p rfl rfl (y_fieldAddr rfl fo135_2) ?_
  refine rw_p rfl rfl (y_load rfl sc3 (hm.nt 0 rfl) rfl) ?_
  refine rw_p rfl rfl (y_ne rfl rfl) ?_
  refine rw_done ?_
  refine gn_sq ?_
  refine HW_cond rfl rfl (fun hc0 => ?_) (fun hc0 => ?_)
  ·
    simp only [decide_eq_true_eq] at hc0
    have hT : Pl.rtake bs.length s (Pl.usize m) = (s, false) := by unfold Pl.rtake; rw [if_pos hc0]
    rw [hT] at hU
    refine HW_seq rfl ?_
    refine HW_text (.pure 0 .done) (by kernel_rfl) ?_
    refine rw_p rfl rfl (y_assign rfl) ?_
    refine rw_done ?_
    refine gn_sq ?_
    refine HW_ret rfl ?_
    refine gr_sq ?_
    refine toR (fin hret rfl (.tmp rfl .nil) .one ?_)
    exact ⟨by rw [hU]; rfl, by rw [hU]; exact hm⟩
  ·
    simp only [decide_eq_false_iff_not, Decidable.not_not] at hc0
    refine HW_skip rfl ?_
    refine gn_sq ?_
    refine HW_seq rfl ?_
    refine HW_seq rfl ?_
    refine HW_text (.pure 0 (.pure 1 (.pure 2 (.pure 3 (.pure 4 (.pure 5 .done)))))) (by kernel_rfl) ?_
    refine rw_p rfl rfl (y_move rfl) ?_
    refine rw_p rfl rfl (y_lt rfl rfl) ?_
    refine rw_p rfl rfl (y_move rfl) ?_
    refine rw_g rfl rfl rfl (fun hc => (y_move rfl)) ?_
    refine rw_g rfl rfl rfl (fun hc => (y_gt (gx hc rfl) rfl)) ?_
    refine rw_p rfl rfl (y_or rfl rfl rfl) ?_
    refine rw_done ?_
    refine gn_sq ?_
    refine HW_cond rfl rfl (fun hc1 => ?_) (fun hc1 => ?_)
    ·
      simp only [Bool.or_eq_true, decide_eq_true_eq] at hc1
      have hus : Pl.usize m = -1 := by unfold Pl.usize; rw [if_pos (by omega)]
      have hT : Pl.rtake bs.length s (Pl.usize m) = (s.fail 2 s.at_, false) := by unfold Pl.rtake; rw [if_neg (by omega), if_pos (by omega)]
      rw [hT] at hU
      refine HW_seq rfl ?_
      refine HW_text (.pure 0 (.pure 1 (.pure 2 (.pure 3 (.pure 4 (.act 5 .done)))))) (by kernel_rfl) ?_
      refine rw_p rfl rfl (y_move rfl) ?_
      refine rw_p rfl rfl (y_move rfl) ?_
      refine rw_p rfl rfl (y_nil rfl) ?_
      refine rw_p rfl rfl (y_fieldAddr rfl fo135_1) ?_
      refine rw_p rfl rfl (y_load rfl sc3 (hm.nt 0 rfl) rfl) ?_
      refine a_call rfl rfl rfl go100 (r6_fail r e p bs.length cap s 2 s.at_ _ (hm.get (k := 0) rfl)) fun v w hR => ?_
      obtain ⟨rfl, hmc⟩ := hR
      refine ⟨trivial, ?_⟩
      replace hm := hm.callJ 0 rfl hmc
      refine rw_done ?_
      refine gn_sq ?_
      refine HW_seq rfl ?_
      refine HW_text (.pure 0 .done) (by kernel_rfl) ?_
      refine rw_p rfl rfl (y_assign rfl) ?_
      refine rw_done ?_
      refine gn_sq ?_
      refine HW_ret rfl ?_
      refine gr_sq ?_
      refine toR (fin hret rfl (.tmp rfl .nil) .one ?_)
      exact ⟨by rw [hU]; rfl, by rw [hU]; exact hm⟩
    ·
      simp only [Bool.or_eq_false_iff, decide_eq_false_iff_not] at hc1
      have hus : Pl.usize m = m := by unfold Pl.usize; rw [if_neg (by omega)]
      rw [hus] at hU
      refine HW_skip rfl ?_
      refine gn_sq ?_
      refine HW_seq rfl ?_
      refine HW_seq rfl ?_
      refine HW_draw (.pure 0 (.pure 1 (.pure 2 (.pure 3 (.pure 4 (.pure 5 (.pure 6 (.pure 7 (.pure 8 (.pure 9 (.pure 10 (.pure 11 .done)))))))))))) No mix (by kernel_rfl) hm fun w hw hm0 hh => ?_
      have hm := hm0
      refine rw_p rfl rfl (y_move rfl) ?_
      refine rw_p rfl rfl (y_nil rfl) ?_
      refine rw_p rfl rfl (y_fieldAddr rfl fo135_0) ?_
      refine rw_p rfl rfl (y_load rfl sc22 (hm0.nd 0 rfl id) rfl) ?_
      refine rw_p rfl rfl (y_len rfl rfl sl22) ?_
      refine rw_p rfl rfl (y_move rfl) ?_
      refine rw_p rfl rfl (y_nil rfl) ?_
      refine rw_p rfl rfl (y_fieldAddr rfl fo135_1) ?_
      refine rw_p rfl rfl (y_load rfl sc3 (hm0.nd 0 rfl id) rfl) ?_
      refine rw_p rfl rfl (y_sub rfl rfl (i64w (by omega) (by omega))) ?_
      refine rw_p rfl rfl (y_move rfl) ?_
      refine rw_p rfl rfl (y_lt rfl rfl) ?_
      refine rw_done ?_
      refine gn_sq ?_
      refine HW_cond rfl rfl (fun hc2 => ?_) (fun hc2 => ?_)
      ·
        simp only [decide_eq_true_eq] at hc2
        have hT : Pl.rtake bs.length s m = (s.fail 8 bs.length, false) := by unfold Pl.rtake; rw [if_neg (by omega), if_neg (by omega), if_pos (by omega)]
        rw [hT] at hU
        refine HW_seq rfl ?_
        refine HW_text (.pure 0 (.pure 1 (.pure 2 (.pure 3 (.pure 4 (.pure 5 (.act 6 .done))))))) (by kernel_rfl) ?_
        refine rw_p rfl rfl (y_move rfl) ?_
        refine rw_p rfl rfl (y_move rfl) ?_
        refine rw_p rfl rfl (y_nil rfl) ?_
        refine rw_p rfl rfl (y_fieldAddr rfl fo135_0) ?_
        refine rw_p rfl rfl (y_load rfl sc22 (hm.nt 0 rfl) rfl) ?_
        refine rw_p rfl rfl (y_len rfl rfl sl22) ?_
        refine a_call rfl rfl rfl go100 (r6_fail r e p bs.length cap s 8 bs.length _ (hm.get (k := 0) rfl)) fun v w hR => ?_
        obtain ⟨rfl, hmc⟩ := hR
        refine ⟨trivial, ?_⟩
        replace hm := hm.callJ 0 rfl hmc
        refine rw_done ?_
        refine gn_sq ?_
        refine HW_seq rfl ?_
        refine HW_text (.pure 0 .done) (by kernel_rfl) ?_
        refine rw_p rfl rfl (y_assign rfl) ?_
        refine rw_done ?_
        refine gn_sq ?_
        refine HW_ret rfl ?_
        refine gr_sq ?_
        refine toR (fin hret rfl (.tmp rfl .nil) .one ?_)
        exact ⟨by rw [hU]; rfl, by rw [hU]; exact hm⟩
      ·
        simp only [decide_eq_false_iff_not] at hc2
        have hT : Pl.rtake bs.length s m = ({ s with at_ := s.at_ + m.toNat }, true) := by unfold Pl.rtake; rw [if_neg (by omega), if_neg (by omega), if_neg (by omega)]
        rw [hT] at hU
        have hcl : ((bs.drop s.at_).take m.toNat).length = m.toNat := by rw [List.length_take, List.length_drop]; omega
        generalize hbs : (bs.drop s.at_).take m.toNat = cs at hcl
        rw [hbs] at hU
        refine HW_skip rfl ?_
        refine gn_sq ?_
        refine HW_seq rfl ?_
        refine HW_text (.pure 0 .done) (by kernel_rfl) ?_
        refine rw_p rfl rfl (y_assign rfl) ?_
        refine rw_done ?_
        refine gn_sq ?_
        refine HW_seq rfl ?_
        refine HW_seq rfl ?_
        refine HW_text (.pure 0 .done) (by kernel_rfl) ?_
        refine rw_p rfl rfl (y_assign rfl) ?_
        refine rw_done ?_
        refine gn_sq ?_
        refine HW_block rfl ?_
        refine HW_loopK (ι := Nat) rfl (ks := [0, 1, 4]) (.cons rfl (.cons rfl (.cons rfl .nil))) (fun k => [(6, .int .i64 k), (5, .int .u64 (Pl.num 0 (cs.take k)))]) (fun k w => Mem w0 w (fun k => k = r) [(r, .row e (rdV p bs.length cap { s with at_ := s.at_ + k }))] ∧ k ≤ m.toNat) (fun k => m.toNat - k) 0 (⟨hm, Nat.zero_le _⟩) ⟨rfl, rfl, trivial⟩ (fun k w hM => ?_)
        obtain ⟨hm, hk⟩ := hM
        refine HW_seq rfl ?_
        refine HW_seq rfl ?_
        refine HW_text (.pure 0 (.pure 1 (.pure 2 .done))) (by kernel_rfl) ?_
        refine rw_p rfl rfl (y_move rfl) ?_
        refine rw_p rfl rfl (y_move rfl) ?_
        refine rw_p rfl rfl (y_lt rfl rfl) ?_
        refine rw_done ?_
        refine gn_sq ?_
        refine HW_cond rfl rfl (fun hc3 => ?_) (fun hc3 => ?_)
        ·
          simp only [decide_eq_true_eq] at hc3
          obtain ⟨x, hi⟩ : ∃ y_, bs[s.at_ + k]? = some y_ := ⟨_, List.getElem?_eq_getElem (by omega)⟩
          have hic : cs[k]? = some x := by rw [← hbs, List.getElem?_take, if_pos (by omega), List.getElem?_drop]; exact hi
          obtain ⟨qb, qo, rfl⟩ := hd.atI encB_len (by decide) hi
          have hnx : Pl.num 0 (cs.take (k + 1)) = Pl.num 0 (cs.take k) * 256 + x.toNat := by rw [List.take_add_one, hic, Pl.num_app]; rfl
          have hxl : x.toNat < 256 := UInt8.toNat_lt x
          have hnb := Pl.num_bnd (cs.take k) 0 (Int.le_refl _)
          have hpw : (256 : Int) ^ (cs.take k).length ≤ 256 ^ 7 := Pl.pow_le (by rw [List.length_take]; omega)
          have hp7 : (256 : Int) ^ 7 = 72057594037927936 := by decide
          refine HW_skip rfl ?_
          refine gn_sq ?_
          refine HW_seq rfl ?_
          refine HW_block rfl ?_
          refine HW_seq rfl ?_
          refine HW_draw (.pure 0 (.pure 1 (.pure 2 (.pure 3 (.pure 4 (.pure 5 (.pure 6 (.pure 7 (.pure 8 (.pure 9 (.pure 10 (.pure 11 (.pure 12 (.pure 13 (.pure 14 .done))))))))))))))) No mix (by kernel_rfl) hm fun w hw hm0 hh => ?_
          have hm := hm0
          refine rw_p rfl rfl (y_move rfl) ?_
          refine rw_p rfl rfl (y_mul rfl rfl (u64w (by omega) (by omega))) ?_
          refine rw_p rfl rfl (y_move rfl) ?_
          refine rw_p rfl rfl (y_nil rfl) ?_
          refine rw_p rfl rfl (y_fieldAddr rfl fo135_0) ?_
          refine rw_p rfl rfl (y_load rfl sc22 (hm0.nd 0 rfl id) rfl) ?_
          refine rw_p rfl rfl (y_move rfl) ?_
          refine rw_p rfl rfl (y_nil rfl) ?_
          refine rw_p rfl rfl (y_fieldAddr rfl fo135_1) ?_
          refine rw_p rfl rfl (y_load rfl sc3 (hm0.nd 0 rfl id) rfl) ?_
          refine rw_p rfl rfl (y_index rfl rfl sl22 rfl (by simp only; omega) (by simp only; omega)) ?_
          refine rw_p rfl rfl (y_el1 rfl sc5 (hd.extN hm0.to hne).nd encB_len hi rfl) ?_
          refine rw_p rfl rfl (y_conv rfl is5 it23 (u64w (by omega) (by omega))) ?_
          refine rw_p rfl rfl (y_add rfl rfl (u64w (by omega) (by omega))) ?_
          refine rw_p rfl rfl (y_assign rfl) ?_
          refine rw_done ?_
          refine gn_sq ?_
          refine HW_text (.pure 0 (.pure 1 (.pure 2 (.pure 3 (.pure 4 (.pure 5 (.pure 6 (.act 7 .done)))))))) (by kernel_rfl) ?_
          refine rw_p rfl rfl (y_move rfl) ?_
          refine rw_p rfl rfl (y_nil rfl) ?_
          refine rw_p rfl rfl (y_fieldAddr rfl fo135_1) ?_
          refine rw_p rfl rfl (y_load rfl sc3 (hm.nt 0 rfl) rfl) ?_
          refine rw_p rfl rfl (y_add rfl rfl ((i64w (by simp only; omega) (by simp only; omega)).trans (show _ = ((s.at_ + (k + 1) : Nat) : Int) by simp only; omega))) ?_
          refine rw_p rfl rfl (y_nil rfl) ?_
          refine rw_p rfl rfl (y_fieldAddr rfl fo135_1) ?_
          refine a_store rfl rfl rfl rfl sz3 rfl hm 0 rfl rfl fun w hm => ?_
          refine rw_done ?_
          refine gn_bl ?_
          refine gn_sq ?_
          refine HW_text (.pure 0 (.pure 1 (.pure 2 .done))) (by kernel_rfl) ?_
          refine rw_p rfl rfl (y_move rfl) ?_
          refine rw_p rfl rfl (y_add rfl rfl (i64w (by omega) (by omega))) ?_
          refine rw_p rfl rfl (y_assign rfl) ?_
          refine rw_done ?_
          refine next (k + 1) (by omega) ⟨hm, by omega⟩ ⟨nx k, by rw [hnx, Int.mul_comm]; rfl, rfl, rfl, rfl, trivial⟩
        ·
          simp only [decide_eq_false_iff_not] at hc3
          obtain rfl : k = m.toNat := by omega
          rw [List.take_of_length_le (by omega)]
          refine HW_exit rfl ?_
          refine gx_sq (gx_lp ?_)
          refine gx_here ?_
          refine gn_sq ?_
          refine HW_seq rfl ?_
          refine HW_text (.pure 0 (.pure 1 .done)) (by kernel_rfl) ?_
          refine rw_p rfl rfl (y_move rfl) ?_
          refine rw_p rfl rfl (y_assign rfl) ?_
          refine rw_done ?_
          refine gn_sq ?_
          refine HW_ret rfl ?_
          refine toR (fin hret rfl (.tmp rfl .nil) .one ?_)
          exact ⟨by rw [hU]; rfl, by rw [hU]; exact hm⟩

theorem r6_length (r e : Nat) (p : Option Addr) (cap : Nat) (bs : List UInt8) (s : Pl.RS) (w0 : World) (hr : w0.heap[r]? = some (Blk.row e (rdV p bs.length cap s)).toObj) (hd : Rd w0 p (bs.flatMap encB)) (hne : bs.flatMap encB ≠ [] → ∀ ad, p = some ad → ad.block ≠ r) (hcap : bs.length ≤ cap) (hsp : cap ≠ 0 → ∀ ad, p = some ad → ad.spot = none) (hat : s.at_ ≤ bs.length) (hlen : bs.length ≤ 140737488355328) : C Tryz.prog 68 [.pointer (some ⟨r, 0, none⟩)] w0 fun v w' => v = .int .i64 (Pl.rlength bs s).2 ∧ Mem w0 w' (fun k => k = r) [(r, .row e (rdV p bs.length cap (Pl.rlength bs s).1))] := by
  refine C_of Tryz.func68 rfl rfl rfl fun κ hret hnorm => ?_
  have hm := Mem.start1 hr
  refine HW_seq rfl ?_
  refine HW_text (.pure 0 .done) (by kernel_rfl) ?_
  refine rw_p rfl rfl (y_assign rfl) ?_
  refine rw_done ?_
  refine gn_sq ?_
  refine HW_seq rfl ?_
  refine HW_text (.pure 0 (.pure 1 (.pure 2 (.pure 3 (.pure 4 .done))))) (by kernel_rfl) ?_
  refine rw_p rfl rfl (y_move rfl) ?_
  refine rw_p rfl rfl (y_nil rfl) ?_
  refine rw_p rfl rfl (y_fieldAddr rfl fo135_1) ?_
  refine rw_p rfl rfl (y_load rfl sc3 (hm.nt 0 rfl) rfl) ?_
  refine rw_p rfl rfl (y_assign rfl) ?_
  refine rw_done ?_
  refine gn_sq ?_
  refine HW_seq rfl ?_
  refine HW_text (.pure 0 (.act 1 (.pure 2 .done))) (by kernel_rfl) ?_
  refine rw_p rfl rfl (y_move rfl) ?_
  refine a_call rfl rfl rfl go67 (r6_uint r e p cap bs s 8 _ (hm.get (k := 0) rfl) (hd.extN hm.to hne) hne hcap hsp hat hlen (by omega)) fun v w hR => ?_
  obtain ⟨rfl, hmc⟩ := hR
  refine ⟨trivial, ?_⟩
  replace hm := hm.callJ 0 rfl hmc
  have hub := Pl.ruint_bnd bs s 8
  refine rw_p rfl rfl (y_assign rfl) ?_
  refine rw_done ?_
  refine gn_sq ?_
  refine HW_seq rfl ?_
  refine HW_seq rfl ?_
  refine HW_text (.pure 0 (.pure 1 .done)) (by kernel_rfl) ?_
  refine rw_p rfl rfl (y_move rfl) ?_
  refine rw_p rfl rfl (y_gt rfl rfl) ?_
  refine rw_done ?_
  refine gn_sq ?_
  refine HW_cond rfl rfl (fun hc0 => ?_) (fun hc0 => ?_)
  ·
    simp only [Bool.and_eq_true, Bool.or_eq_true, Bool.and_eq_false_iff, Bool.or_eq_false_iff, Bool.not_eq_true', Bool.not_eq_false', decide_eq_true_eq, decide_eq_false_iff_not] at hc0
    refine HW_seq rfl ?_
    refine HW_text (.pure 0 (.pure 1 (.act 2 .done))) (by kernel_rfl) ?_
    refine rw_p rfl rfl (y_move rfl) ?_
    refine rw_p rfl rfl (y_move rfl) ?_
    refine a_call rfl rfl rfl go100 (r6_fail r e p bs.length cap (Pl.ruint bs s 8).1 2 s.at_ _ (hm.get (k := 0) rfl)) fun v w hR => ?_
    obtain ⟨rfl, hmc⟩ := hR
    refine ⟨trivial, ?_⟩
    replace hm := hm.callJ 0 rfl hmc
    refine rw_done ?_
    refine gn_sq ?_
    refine HW_seq rfl ?_
    refine HW_text (.pure 0 .done) (by kernel_rfl) ?_
    refine rw_p rfl rfl (y_assign rfl) ?_
    refine rw_done ?_
    refine gn_sq ?_
    refine HW_ret rfl ?_
    refine gr_sq ?_
    refine toR (fin hret rfl (.tmp rfl .nil) .one ?_)
    have e2 : Pl.rlength bs s = ((Pl.ruint bs s 8).1.fail 2 s.at_, 0) := by unfold Pl.rlength; rw [if_pos hc0]
    rw [e2]; exact ⟨rfl, hm⟩
  ·
    simp only [Bool.and_eq_true, Bool.or_eq_true, Bool.and_eq_false_iff, Bool.or_eq_false_iff, Bool.not_eq_true', Bool.not_eq_false', decide_eq_true_eq, decide_eq_false_iff_not] at hc0
    refine HW_skip rfl ?_
    refine gn_sq ?_
    refine HW_seq rfl ?_
    refine HW_text (.pure 0 (.pure 1 (.pure 2 .done))) (by kernel_rfl) ?_
    refine rw_p rfl rfl (y_move rfl) ?_
    refine rw_p rfl rfl (y_conv rfl is23 it3 (i64w (by omega) (by omega))) ?_
    refine rw_p rfl rfl (y_assign rfl) ?_
    refine rw_done ?_
    refine gn_sq ?_
    refine HW_ret rfl ?_
    refine toR (fin hret rfl (.tmp rfl .nil) .one ?_)
    have e2 : Pl.rlength bs s = Pl.ruint bs s 8 := by unfold Pl.rlength; rw [if_neg hc0]
    rw [e2]; exact ⟨rfl, hm⟩

theorem r6_bytes (r e : Nat) (p : Option Addr) (cap : Nat) (bs : List UInt8) (s : Pl.RS) (m : Int) (w0 : World) (hr : w0.heap[r]? = some (Blk.row e (rdV p bs.length cap s)).toObj) (hcap : bs.length ≤ cap) (hsp : cap ≠ 0 → ∀ ad, p = some ad → ad.spot = none) (hat : s.at_ ≤ bs.length) (hlen : bs.length ≤ 140737488355328) (hm64 : Pl.I64 m) : C Tryz.prog 69 [.pointer (some ⟨r, 0, none⟩), .int .i64 m] w0 fun v w' => v = tkV p cap s.at_ m (Pl.rtake bs.length s m).2 ∧ Mem w0 w' (fun k => k = r) [(r, .row e (rdV p bs.length cap (Pl.rtake bs.length s m).1))] := by
  refine C_of Tryz.func69 rfl rfl rfl fun κ hret hnorm => ?_
  have hm := Mem.start1 hr
  refine HW_seq rfl ?_
  refine HW_text (.pure 0 .done) (by kernel_rfl) ?_
  refine rw_p rfl rfl (y_assign rfl) ?_
  refine rw_done ?_
  refine gn_sq ?_
  refine HW_seq rfl ?_
  refine HW_seq rfl ?_
  refine HW_text (.pure 0 (.pure 1 (.pure 2 (.pure 3 (.pure 4 .done))))) (by kernel_rfl) ?_
  refine rw_p rfl rfl (y_move rfl) ?_
  refine rw_p rfl rfl (y_nil rfl) ?_
  refine rw_p rfl rfl (y_fieldAddr rfl fo135_2) ?_
  refine rw_p rfl rfl (y_load rfl sc3 (hm.nt 0 rfl) rfl) ?_
  refine rw_p rfl rfl (y_ne rfl rfl) ?_
  refine rw_done ?_
  refine gn_sq ?_
  refine HW_cond rfl rfl (fun hc0 => ?_) (fun hc0 => ?_)
  ·
    simp only [decide_eq_true_eq] at hc0
    have hT : Pl.rtake bs.length s m = (s, false) := by unfold Pl.rtake; rw [if_pos hc0]
    refine HW_seq rfl ?_
    refine HW_text (.pure 0 .done) (by kernel_rfl) ?_
    refine rw_p rfl rfl (y_assign rfl) ?_
    refine rw_done ?_
    refine gn_sq ?_
    refine HW_ret rfl ?_
    refine gr_sq ?_
    refine toR (fin hret rfl (.tmp rfl .nil) .one ?_)
    exact ⟨by rw [hT]; rfl, by rw [hT]; exact hm⟩
  ·
    simp only [decide_eq_false_iff_not, Decidable.not_not] at hc0
    refine HW_skip rfl ?_
    refine gn_sq ?_
    refine HW_seq rfl ?_
    refine HW_seq rfl ?_
    refine HW_text (.pure 0 (.pure 1 .done)) (by kernel_rfl) ?_
    refine rw_p rfl rfl (y_move rfl) ?_
    refine rw_p rfl rfl (y_lt rfl rfl) ?_
    refine rw_done ?_
    refine gn_sq ?_
    refine HW_cond rfl rfl (fun hc1 => ?_) (fun hc1 => ?_)
    ·
      simp only [decide_eq_true_eq] at hc1
      have hT : Pl.rtake bs.length s m = (s.fail 2 s.at_, false) := by unfold Pl.rtake; rw [if_neg (by omega), if_pos (by omega)]
      refine HW_seq rfl ?_
      refine HW_text (.pure 0 (.pure 1 (.pure 2 (.pure 3 (.pure 4 (.act 5 .done)))))) (by kernel_rfl) ?_
      refine rw_p rfl rfl (y_move rfl) ?_
      refine rw_p rfl rfl (y_move rfl) ?_
      refine rw_p rfl rfl (y_nil rfl) ?_
      refine rw_p rfl rfl (y_fieldAddr rfl fo135_1) ?_
      refine rw_p rfl rfl (y_load rfl sc3 (hm.nt 0 rfl) rfl) ?_
      refine a_call rfl rfl rfl go100 (r6_fail r e p bs.length cap s 2 s.at_ _ (hm.get (k := 0) rfl)) fun v w hR => ?_
      obtain ⟨rfl, hmc⟩ := hR
      refine ⟨trivial, ?_⟩
      replace hm := hm.callJ 0 rfl hmc
      refine rw_done ?_
      refine gn_sq ?_
      refine HW_seq rfl ?_
      refine HW_text (.pure 0 .done) (by kernel_rfl) ?_
      refine rw_p rfl rfl (y_assign rfl) ?_
      refine rw_done ?_
      refine gn_sq ?_
      refine HW_ret rfl ?_
      refine gr_sq ?_
      refine toR (fin hret rfl (.tmp rfl .nil) .one ?_)
      exact ⟨by rw [hT]; rfl, by rw [hT]; exact hm⟩
    ·
      simp only [decide_eq_false_iff_not] at hc1
      refine HW_skip rfl ?_
      refine gn_sq ?_
      refine HW_seq rfl ?_
      refine HW_seq rfl ?_
      refine HW_draw (.pure 0 (.pure 1 (.pure 2 (.pure 3 (.pure 4 (.pure 5 (.pure 6 (.pure 7 (.pure 8 (.pure 9 (.pure 10 (.pure 11 .done)))))))))))) No mix (by kernel_rfl) hm fun w hw hm0 hh => ?_
      have hm := hm0
      refine rw_p rfl rfl (y_move rfl) ?_
      refine rw_p rfl rfl (y_nil rfl) ?_
      refine rw_p rfl rfl (y_fieldAddr rfl fo135_0) ?_
      refine rw_p rfl rfl (y_load rfl sc22 (hm0.nd 0 rfl id) rfl) ?_
      refine rw_p rfl rfl (y_len rfl rfl sl22) ?_
      refine rw_p rfl rfl (y_move rfl) ?_
      refine rw_p rfl rfl (y_nil rfl) ?_
      refine rw_p rfl rfl (y_fieldAddr rfl fo135_1) ?_
      refine rw_p rfl rfl (y_load rfl sc3 (hm0.nd 0 rfl id) rfl) ?_
      refine rw_p rfl rfl (y_sub rfl rfl (i64w (by omega) (by omega))) ?_
      refine rw_p rfl rfl (y_move rfl) ?_
      refine rw_p rfl rfl (y_lt rfl rfl) ?_
      refine rw_done ?_
      refine gn_sq ?_
      refine HW_cond rfl rfl (fun hc2 => ?_) (fun hc2 => ?_)
      ·
        simp only [decide_eq_true_eq] at hc2
        have hT : Pl.rtake bs.length s m = (s.fail 8 bs.length, false) := by unfold Pl.rtake; rw [if_neg (by omega), if_neg (by omega), if_pos (by omega)]
        refine HW_seq rfl ?_
        refine HW_text (.pure 0 (.pure 1 (.pure 2 (.pure 3 (.pure 4 (.pure 5 (.act 6 .done))))))) (by kernel_rfl) ?_
        refine rw_p rfl rfl (y_move rfl) ?_
        refine rw_p rfl rfl (y_move rfl) ?_
        refine rw_p rfl rfl (y_nil rfl) ?_
        refine rw_p rfl rfl (y_fieldAddr rfl fo135_0) ?_
        refine rw_p rfl rfl (y_load rfl sc22 (hm.nt 0 rfl) rfl) ?_
        refine rw_p rfl rfl (y_len rfl rfl sl22) ?_
        refine a_call rfl rfl rfl go100 (r6_fail r e p bs.length cap s 8 bs.length _ (hm.get (k := 0) rfl)) fun v w hR => ?_
        obtain ⟨rfl, hmc⟩ := hR
        refine ⟨trivial, ?_⟩
        replace hm := hm.callJ 0 rfl hmc
        refine rw_done ?_
        refine gn_sq ?_
        refine HW_seq rfl ?_
        refine HW_text (.pure 0 .done) (by kernel_rfl) ?_
        refine rw_p rfl rfl (y_assign rfl) ?_
        refine rw_done ?_
        refine gn_sq ?_
        refine HW_ret rfl ?_
        refine gr_sq ?_
        refine toR (fin hret rfl (.tmp rfl .nil) .one ?_)
        exact ⟨by rw [hT]; rfl, by rw [hT]; exact hm⟩
      ·
        simp only [decide_eq_false_iff_not] at hc2
        have hT : Pl.rtake bs.length s m = ({ s with at_ := s.at_ + m.toNat }, true) := by unfold Pl.rtake; rw [if_neg (by omega), if_neg (by omega), if_neg (by omega)]
        refine HW_skip rfl ?_
        refine gn_sq ?_
        refine HW_seq rfl ?_
        refine HW_draw (.pure 0 (.pure 1 (.pure 2 (.pure 3 (.pure 4 (.pure 5 (.pure 6 (.pure 7 (.pure 8 (.pure 9 (.pure 10 (.pure 11 (.pure 12 (.pure 13 (.pure 14 (.pure 15 .done)))))))))))))))) No mix (by kernel_rfl) hm fun w hw hm0 hh => ?_
        have hm := hm0
        refine rw_p rfl rfl (y_move rfl) ?_
        refine rw_p rfl rfl (y_nil rfl) ?_
        refine rw_p rfl rfl (y_fieldAddr rfl fo135_0) ?_
        refine rw_p rfl rfl (y_load rfl sc22 (hm0.nd 0 rfl id) rfl) ?_
        refine rw_p rfl rfl (y_move rfl) ?_
        refine rw_p rfl rfl (y_nil rfl) ?_
        refine rw_p rfl rfl (y_fieldAddr rfl fo135_1) ?_
        refine rw_p rfl rfl (y_load rfl sc3 (hm0.nd 0 rfl id) rfl) ?_
        refine rw_p rfl rfl (y_move rfl) ?_
        refine rw_p rfl rfl (y_nil rfl) ?_
        refine rw_p rfl rfl (y_fieldAddr rfl fo135_1) ?_
        refine rw_p rfl rfl (y_load rfl sc3 (hm0.nd 0 rfl id) rfl) ?_
        refine rw_p rfl rfl (y_move rfl) ?_
        refine rw_p rfl rfl (y_add rfl rfl (i64w (by omega) (by omega))) ?_
        refine rw_p rfl rfl (y_slice (ln := s.at_) (hn := s.at_ + m.toNat) rfl sl22 ⟨_, rfl⟩ ⟨_, congrArg (fun x => some (Value.int .i64 x)) (by omega)⟩ (by omega) (by omega) (fun h => hsp (by omega))) ?_
        refine rw_p rfl rfl (y_assign rfl) ?_
        refine rw_done ?_
        refine gn_sq ?_
        refine HW_seq rfl ?_
        refine HW_text (.pure 0 (.pure 1 (.pure 2 (.pure 3 (.pure 4 (.pure 5 (.pure 6 (.pure 7 (.pure 8 (.act 9 .done)))))))))) (by kernel_rfl) ?_
        refine rw_p rfl rfl (y_move rfl) ?_
        refine rw_p rfl rfl (y_move rfl) ?_
        refine rw_p rfl rfl (y_nil rfl) ?_
        refine rw_p rfl rfl (y_fieldAddr rfl fo135_1) ?_
        refine rw_p rfl rfl (y_load rfl sc3 (hm.nt 0 rfl) rfl) ?_
        refine rw_p rfl rfl (y_move rfl) ?_
        refine rw_p rfl rfl (y_add rfl rfl ((i64w (by omega) (by omega)).trans (show _ = ((s.at_ + m.toNat : Nat) : Int) by omega))) ?_
        refine rw_p rfl rfl (y_nil rfl) ?_
        refine rw_p rfl rfl (y_fieldAddr rfl fo135_1) ?_
        refine a_store rfl rfl rfl rfl sz3 rfl hm 0 rfl rfl fun w hm => ?_
        refine rw_done ?_
        refine gn_sq ?_
        refine HW_seq rfl ?_
        refine HW_text (.pure 0 (.pure 1 .done)) (by kernel_rfl) ?_
        refine rw_p rfl rfl (y_move rfl) ?_
        refine rw_p rfl rfl (y_assign rfl) ?_
        refine rw_done ?_
        refine gn_sq ?_
        refine HW_ret rfl ?_
        refine toR (fin hret rfl (.tmp rfl .nil) .one ?_)
        exact ⟨by rw [hT]; simp only [tkV, cond_true]; rw [Nat.add_sub_cancel_left], by rw [hT]; exact hm⟩

set_option maxHeartbeats 800000 in
theorem r6_expect (r e : Nat) (p : Option Addr) (cap : Nat) (bs : List UInt8) (s : Pl.RS) (q : Option Addr) (cq : Nat) (ds : List UInt8) (c : Int) (w0 : World) (hr : w0.heap[r]? = some (Blk.row e (rdV p bs.length cap s)).toObj) (hd : Rd w0 p (bs.flatMap encB)) (hne : bs.flatMap encB ≠ [] → ∀ ad, p = some ad → ad.block ≠ r) (hcap : bs.length ≤ cap) (hsp : cap ≠ 0 → ∀ ad, p = some ad → ad.spot = none) (hat : s.at_ ≤ bs.length) (hlen : bs.length ≤ 140737488355328) (hds : Rd w0 q (ds.flatMap encB)) (hqr : ds.flatMap encB ≠ [] → ∀ ad, q = some ad → ad.block ≠ r) (hdl : ds.length ≤ 140737488355328) (hdc : ds.length ≤ cq) (hdp : cq ≠ 0 → ∀ ad, q = some ad → ad.spot = none) : C Tryz.prog 66 [.pointer (some ⟨r, 0, none⟩), .slice q ds.length cq, .int .i64 c] w0 fun v w' => v = .bool (Pl.rexpect bs s ds c).2 ∧ Mem w0 w' (fun k => k = r) [(r, .row e (rdV p bs.length cap (Pl.rexpect bs s ds c).1))] := by
  have hl2 : ((bs.drop s.at_).take (min ds.length (bs.length - s.at_))).length = (min ds.length (bs.length - s.at_)) := by rw [List.length_take, List.length_drop]; omega
  have hl3 : (ds.take (min ds.length (bs.length - s.at_))).length = (min ds.length (bs.length - s.at_)) := by rw [List.length_take]; omega
  have hE : Pl.rexpect bs s ds c = if s.code ≠ 0 then (s, false) else if ds.take (min ds.length (bs.length - s.at_)) ≠ ((bs.drop s.at_).take (min ds.length (bs.length - s.at_))) then (s.fail c s.at_, false) else Pl.rtake bs.length s ds.length := rfl
  refine C_of Tryz.func66 rfl rfl rfl fun κ hret hnorm => ?_
  have hm := Mem.start1 hr
  refine HW_seq rfl ?_
  refine HW_text (.pure 0 .done) (by kernel_rfl) ?_
  refine rw_p rfl rfl (y_assign rfl) ?_
  refine rw_done ?_
  refine gn_sq ?_
  refine HW_seq rfl ?_
  refine HW_seq rfl ?_
  refine HW_text (.pure 0 (.pure 1 (.pure 2 (.pure 3 (.pure 4 .done))))) (by kernel_rfl) ?_
  refine rw_p rfl rfl (y_move rfl) ?_
  refine rw_p rfl rfl (y_nil rfl) ?_
  refine rw_p rfl rfl (y_fieldAddr rfl fo135_2) ?_
  refine rw_p rfl rfl (y_load rfl sc3 (hm.nt 0 rfl) rfl) ?_
  refine rw_p rfl rfl (y_ne rfl rfl) ?_
  refine rw_done ?_
  refine gn_sq ?_
  refine HW_cond rfl rfl (fun hc0 => ?_) (fun hc0 => ?_)
  ·
    simp only [decide_eq_true_eq] at hc0
    rw [if_pos hc0] at hE
    refine HW_seq rfl ?_
    refine HW_text (.pure 0 .done) (by kernel_rfl) ?_
    refine rw_p rfl rfl (y_assign rfl) ?_
    refine rw_done ?_
    refine gn_sq ?_
    refine HW_ret rfl ?_
    refine gr_sq ?_
    refine toR (fin hret rfl (.tmp rfl .nil) .one ?_)
    exact ⟨by rw [hE], by rw [hE]; exact hm⟩
  ·
    simp only [decide_eq_false_iff_not] at hc0
    rw [if_neg hc0] at hE
    refine HW_skip rfl ?_
    refine gn_sq ?_
    refine HW_seq rfl ?_
    refine HW_draw (.pure 0 (.pure 1 (.pure 2 (.pure 3 (.pure 4 (.pure 5 (.pure 6 (.pure 7 (.pure 8 (.pure 9 (.pure 10 (.pure 11 (.pure 12 (.pure 13 .done)))))))))))))) No mix (by kernel_rfl) hm fun w hw hm0 hh => ?_
    have hm := hm0
    refine rw_p rfl rfl (y_move rfl) ?_
    refine rw_p rfl rfl (y_len rfl rfl sl22) ?_
    refine rw_p rfl rfl (y_move rfl) ?_
    refine rw_p rfl rfl (y_nil rfl) ?_
    refine rw_p rfl rfl (y_fieldAddr rfl fo135_0) ?_
    refine rw_p rfl rfl (y_load rfl sc22 (hm0.nd 0 rfl id) rfl) ?_
    refine rw_p rfl rfl (y_len rfl rfl sl22) ?_
    refine rw_p rfl rfl (y_move rfl) ?_
    refine rw_p rfl rfl (y_nil rfl) ?_
    refine rw_p rfl rfl (y_fieldAddr rfl fo135_1) ?_
    refine rw_p rfl rfl (y_load rfl sc3 (hm0.nd 0 rfl id) rfl) ?_
    refine rw_p rfl rfl (y_sub rfl rfl (i64w (by omega) (by omega))) ?_
    refine rw_p rfl rfl (y_v (y_min rfl rfl) (show _ = Value.int .i64 (((min ds.length (bs.length - s.at_)) : Nat) : Int) from congrArg (Value.int .i64) (by omega))) ?_
    refine rw_p rfl rfl (y_assign rfl) ?_
    refine rw_done ?_
    refine gn_sq ?_
    refine HW_seq rfl ?_
    refine HW_seq rfl ?_
    refine HW_draw (.pure 0 (.pure 1 (.pure 2 (.pure 3 (.pure 4 (.pure 5 (.pure 6 (.pure 7 (.pure 8 (.pure 9 (.pure 10 (.pure 11 (.pure 12 (.pure 13 (.pure 14 (.pure 15 (.pure 16 (.pure 17 (.pure 18 (.pure 19 (.pure 20 .done))))))))))))))))))))) No mix (by kernel_rfl) hm fun w hw hm0 hh => ?_
    have hm := hm0
    refine rw_p rfl rfl (y_move rfl) ?_
    refine rw_p rfl rfl (y_nil rfl) ?_
    refine rw_p rfl rfl (y_fieldAddr rfl fo135_0) ?_
    refine rw_p rfl rfl (y_load rfl sc22 (hm0.nd 0 rfl id) rfl) ?_
    refine rw_p rfl rfl (y_move rfl) ?_
    refine rw_p rfl rfl (y_nil rfl) ?_
    refine rw_p rfl rfl (y_fieldAddr rfl fo135_1) ?_
    refine rw_p rfl rfl (y_load rfl sc3 (hm0.nd 0 rfl id) rfl) ?_
    refine rw_p rfl rfl (y_move rfl) ?_
    refine rw_p rfl rfl (y_nil rfl) ?_
    refine rw_p rfl rfl (y_fieldAddr rfl fo135_1) ?_
    refine rw_p rfl rfl (y_load rfl sc3 (hm0.nd 0 rfl id) rfl) ?_
    refine rw_p rfl rfl (y_move rfl) ?_
    refine rw_p rfl rfl (y_add rfl rfl (i64w (by omega) (by omega))) ?_
    refine rw_p rfl rfl (y_v (y_slice (ln := s.at_) (hn := s.at_ + (min ds.length (bs.length - s.at_))) rfl sl22 ⟨_, rfl⟩ ⟨_, rfl⟩ (by omega) (by omega) (fun h => hsp (by omega))) (show _ = Value.slice (slp p cap s.at_ 1) ((bs.drop s.at_).take (min ds.length (bs.length - s.at_))).length (cap - s.at_) by rw [hl2, Nat.add_sub_cancel_left])) ?_
    refine rw_p rfl rfl (y_cvs rfl bt22_9 (((hd.extN hm0.to hne).sub (l := s.at_) (m := (min ds.length (bs.length - s.at_))) hcap).nd) rfl) ?_
    refine rw_p rfl rfl (y_move rfl) ?_
    refine rw_p rfl rfl (y_move rfl) ?_
    refine rw_p rfl rfl (y_v (y_slice (ln := 0) (hn := (min ds.length (bs.length - s.at_))) rfl sl22 rfl ⟨_, rfl⟩ (Nat.zero_le _) (by omega) (fun h => hdp (by omega))) (show _ = Value.slice (slp q cq 0 1) (ds.take (min ds.length (bs.length - s.at_))).length cq by rw [hl3]; rfl)) ?_
    refine rw_p rfl rfl (y_cvs rfl bt22_9 (((hds.extN hm0.to hqr).takeV (m := (min ds.length (bs.length - s.at_))) hdc).nd) rfl) ?_
    refine rw_p rfl rfl (y_snqB rfl rfl) ?_
    refine rw_done ?_
    refine gn_sq ?_
    refine HW_cond rfl rfl (fun hc1 => ?_) (fun hc1 => ?_)
    ·
      have hne2 : ds.take (min ds.length (bs.length - s.at_)) ≠ ((bs.drop s.at_).take (min ds.length (bs.length - s.at_))) := fun e9 => by rw [e9] at hc1; simp at hc1
      rw [if_pos hne2] at hE
      refine HW_seq rfl ?_
      refine HW_text (.pure 0 (.pure 1 (.pure 2 (.pure 3 (.pure 4 (.pure 5 (.act 6 .done))))))) (by kernel_rfl) ?_
      refine rw_p rfl rfl (y_move rfl) ?_
      refine rw_p rfl rfl (y_move rfl) ?_
      refine rw_p rfl rfl (y_move rfl) ?_
      refine rw_p rfl rfl (y_nil rfl) ?_
      refine rw_p rfl rfl (y_fieldAddr rfl fo135_1) ?_
      refine rw_p rfl rfl (y_load rfl sc3 (hm.nt 0 rfl) rfl) ?_
      refine a_call rfl rfl rfl go100 (r6_fail r e p bs.length cap s c s.at_ _ (hm.get (k := 0) rfl)) fun v w hR => ?_
      obtain ⟨rfl, hmc⟩ := hR
      refine ⟨trivial, ?_⟩
      replace hm := hm.callJ 0 rfl hmc
      refine rw_done ?_
      refine gn_sq ?_
      refine HW_seq rfl ?_
      refine HW_text (.pure 0 .done) (by kernel_rfl) ?_
      refine rw_p rfl rfl (y_assign rfl) ?_
      refine rw_done ?_
      refine gn_sq ?_
      refine HW_ret rfl ?_
      refine gr_sq ?_
      refine toR (fin hret rfl (.tmp rfl .nil) .one ?_)
      exact ⟨by rw [hE], by rw [hE]; exact hm⟩
    ·
      have hne2 := (Decidable.not_not.1 (of_decide_eq_false hc1)).symm
      rw [if_neg (fun h9 => h9 hne2)] at hE
      refine HW_skip rfl ?_
      refine gn_sq ?_
      refine HW_seq rfl ?_
      refine HW_seq rfl ?_
      refine HW_text (.pure 0 (.pure 1 (.pure 2 (.pure 3 .done)))) (by kernel_rfl) ?_
      refine rw_p rfl rfl (y_move rfl) ?_
      refine rw_p rfl rfl (y_move rfl) ?_
      refine rw_p rfl rfl (y_len rfl rfl sl22) ?_
      refine rw_p rfl rfl (y_lt rfl rfl) ?_
      refine rw_done ?_
      refine gn_sq ?_
      refine HW_cond rfl rfl (fun hc2 => ?_) (fun hc2 => ?_)
      ·
        simp only [decide_eq_true_eq] at hc2
        have hT : Pl.rtake bs.length s ds.length = (s.fail 8 bs.length, false) := by unfold Pl.rtake; rw [if_neg hc0, if_neg (by omega), if_pos (by omega)]
        rw [hT] at hE
        refine HW_seq rfl ?_
        refine HW_text (.pure 0 (.pure 1 (.pure 2 (.pure 3 (.pure 4 (.pure 5 (.act 6 .done))))))) (by kernel_rfl) ?_
        refine rw_p rfl rfl (y_move rfl) ?_
        refine rw_p rfl rfl (y_move rfl) ?_
        refine rw_p rfl rfl (y_nil rfl) ?_
        refine rw_p rfl rfl (y_fieldAddr rfl fo135_0) ?_
        refine rw_p rfl rfl (y_load rfl sc22 (hm.nt 0 rfl) rfl) ?_
        refine rw_p rfl rfl (y_len rfl rfl sl22) ?_
        refine a_call rfl rfl rfl go100 (r6_fail r e p bs.length cap s 8 bs.length _ (hm.get (k := 0) rfl)) fun v w hR => ?_
        obtain ⟨rfl, hmc⟩ := hR
        refine ⟨trivial, ?_⟩
        replace hm := hm.callJ 0 rfl hmc
        refine rw_done ?_
        refine gn_sq ?_
        refine HW_seq rfl ?_
        refine HW_text (.pure 0 .done) (by kernel_rfl) ?_
        refine rw_p rfl rfl (y_assign rfl) ?_
        refine rw_done ?_
        refine gn_sq ?_
        refine HW_ret rfl ?_
        refine gr_sq ?_
        refine toR (fin hret rfl (.tmp rfl .nil) .one ?_)
        exact ⟨by rw [hE], by rw [hE]; exact hm⟩
      ·
        simp only [decide_eq_false_iff_not] at hc2
        have hT : Pl.rtake bs.length s ds.length = ({ s with at_ := s.at_ + (ds.length : Int).toNat }, true) := by unfold Pl.rtake; rw [if_neg hc0, if_neg (by omega), if_neg (by omega)]
        rw [hT] at hE
        refine HW_skip rfl ?_
        refine gn_sq ?_
        refine HW_seq rfl ?_
        refine HW_text (.pure 0 (.pure 1 (.pure 2 (.pure 3 (.pure 4 (.pure 5 (.pure 6 (.pure 7 (.pure 8 (.act 9 .done)))))))))) (by kernel_rfl) ?_
        refine rw_p rfl rfl (y_move rfl) ?_
        refine rw_p rfl rfl (y_move rfl) ?_
        refine rw_p rfl rfl (y_nil rfl) ?_
        refine rw_p rfl rfl (y_fieldAddr rfl fo135_1) ?_
        refine rw_p rfl rfl (y_load rfl sc3 (hm.nt 0 rfl) rfl) ?_
        refine rw_p rfl rfl (y_move rfl) ?_
        refine rw_p rfl rfl (y_add rfl rfl ((i64w (by omega) (by omega)).trans (show _ = ((s.at_ + (ds.length : Int).toNat : Nat) : Int) by omega))) ?_
        refine rw_p rfl rfl (y_nil rfl) ?_
        refine rw_p rfl rfl (y_fieldAddr rfl fo135_1) ?_
        refine a_store rfl rfl rfl rfl sz3 rfl hm 0 rfl rfl fun w hm => ?_
        refine rw_done ?_
        refine gn_sq ?_
        refine HW_seq rfl ?_
        refine HW_text (.pure 0 .done) (by kernel_rfl) ?_
        refine rw_p rfl rfl (y_assign rfl) ?_
        refine rw_done ?_
        refine gn_sq ?_
        refine HW_ret rfl ?_
        refine toR (fin hret rfl (.tmp rfl .nil) .one ?_)
        exact ⟨by rw [hE], by rw [hE]; exact hm⟩

end Go.Proofs.YthailbggeafckaaGreat
