/- Contracts of functions of the program: what each returns. Conditions: the hypotheses of each theorem. -/
import Derived.Test.YtlgkhajmjgepaaaChkS
set_option linter.unusedVariables false
set_option linter.unusedSimpArgs false
namespace Go.Proofs.Ytlgkhajmjgepaaa
open Go Go.Cx

theorem go48 : isGo Try.prog 48 = true := by kernel_rfl
theorem go44 : isGo Try.prog 44 = true := by kernel_rfl
theorem go31 : isGo Try.prog 31 = true := by kernel_rfl

set_option maxHeartbeats 800000 in
theorem r3_extend (sum : UInt32) (p : Option Addr) (cap : Nat) (bs : List UInt8) (w0 : World) (hx : Rd w0 p (bs.flatMap encB)) (hl : bs.length ≤ 4611686018427387903) : C Try.prog 48 [.int .u32 ((sum).toNat : Int), .slice p bs.length cap] w0 fun v w' => v = .int .u32 ((~~~ (Pl.crcReg (~~~ sum) bs)).toNat : Int) ∧ Ext No w0 w' := by
  refine C_of Try.func48 rfl rfl rfl fun κ hret hnorm => ?_
  have hm := Mem.start w0
  refine HW_seq rfl ?_
  refine HW_text (.pure 0 .done) (by kernel_rfl) ?_
  refine rw_p rfl rfl (y_assign (cW 0 rfl)) ?_
  refine rw_done ?_
  refine gn_sq ?_
  refine HW_seq rfl ?_
  refine HW_text (.pure 0 (.pure 1 (.pure 2 .done))) (by kernel_rfl) ?_
  refine rw_p rfl rfl (y_move rfl) ?_
  refine rw_p rfl rfl (y_com rfl rfl w_com) ?_
  refine rw_p rfl rfl (y_assign rfl) ?_
  refine rw_done ?_
  refine gn_sq ?_
  refine HW_seq rfl ?_
  refine HW_seq rfl ?_
  refine HW_text (.pure 0 .done) (by kernel_rfl) ?_
  refine rw_p rfl rfl (y_assign rfl) ?_
  refine rw_done ?_
  refine gn_sq ?_
  refine HW_block rfl ?_
  refine HW_loopK (ι := Nat) rfl (ks := [1, 4]) (.cons rfl (.cons rfl .nil)) (fun x => [(6, .int .i64 x), (5, .int .u32 ((Pl.crcReg (~~~ sum) (bs.take x)).toNat : Int))]) (fun x w => Mem w0 w No [] ∧ x ≤ bs.length) (fun x => bs.length - x) 0 (⟨hm, Nat.zero_le _⟩) ⟨rfl, rfl, trivial⟩ (fun x w hM => ?_)
  obtain ⟨hm, hk⟩ := hM
  refine HW_seq rfl ?_
  refine HW_seq rfl ?_
  refine HW_text (.pure 0 (.pure 1 (.pure 2 (.pure 3 .done)))) (by kernel_rfl) ?_
  refine rw_p rfl rfl (y_move rfl) ?_
  refine rw_p rfl rfl (y_move rfl) ?_
  refine rw_p rfl rfl (y_len rfl rfl sl23) ?_
  refine rw_p rfl rfl (y_lt rfl rfl) ?_
  refine rw_done ?_
  refine gn_sq ?_
  refine HW_cond rfl rfl (fun hc0 => ?_) (fun hc0 => ?_)
  ·
    simp only [decide_eq_true_eq] at hc0
    obtain ⟨c, hi⟩ : ∃ y_, bs[x]? = some y_ := ⟨_, List.getElem?_eq_getElem (by omega)⟩
    obtain ⟨qb, qo, rfl⟩ := hx.atI encB_len (by decide) hi
    refine HW_skip rfl ?_
    refine gn_sq ?_
    refine HW_seq rfl ?_
    refine HW_block rfl ?_
    refine HW_seq rfl ?_
    refine HW_text (.pure 0 (.pure 1 (.pure 2 (.pure 3 (.pure 4 (.pure 5 (.pure 6 (.pure 7 .done)))))))) (by kernel_rfl) ?_
    refine rw_p rfl rfl (y_move rfl) ?_
    refine rw_p rfl rfl (y_move rfl) ?_
    refine rw_p rfl rfl (y_move rfl) ?_
    refine rw_p rfl rfl (y_index rfl rfl sl23 rfl (by omega) (by omega)) ?_
    refine rw_p rfl rfl (y_el1 rfl sc5 (hx.ext0 hm.to).nt encB_len hi rfl) ?_
    refine rw_p rfl rfl (y_conv rfl is5 it74 w_of8) ?_
    refine rw_p rfl rfl (y_xor_ rfl rfl w_xor) ?_
    refine rw_p rfl rfl (y_assign rfl) ?_
    refine rw_done ?_
    refine gn_sq ?_
    refine HW_seq rfl ?_
    refine HW_text (.pure 0 .done) (by kernel_rfl) ?_
    refine rw_p rfl rfl (y_assign rfl) ?_
    refine rw_done ?_
    refine gn_sq ?_
    refine HW_block rfl ?_
    refine HW_loopK (ι := Nat) rfl (ks := [1, 4, 6]) (.cons rfl (.cons rfl (.cons rfl .nil))) (fun y => [(7, .int .i64 y), (5, .int .u32 ((crcN y (Pl.crcReg (~~~ sum) (bs.take x) ^^^ c.toUInt32)).toNat : Int))]) (fun y w => Mem w0 w No [] ∧ y ≤ 8) (fun y => 8 - y) 0 (⟨hm, Nat.zero_le _⟩) ⟨rfl, rfl, trivial⟩ (fun y w hM => ?_)
    obtain ⟨hm, hy⟩ := hM
    refine HW_seq rfl ?_
    refine HW_seq rfl ?_
    refine HW_text (.pure 0 (.pure 1 .done)) (by kernel_rfl) ?_
    refine rw_p rfl rfl (y_move rfl) ?_
    refine rw_p rfl rfl (y_lt rfl rfl) ?_
    refine rw_done ?_
    refine gn_sq ?_
    refine HW_cond rfl rfl (fun hc1 => ?_) (fun hc1 => ?_)
    ·
      simp only [decide_eq_true_eq] at hc1
      refine HW_skip rfl ?_
      refine gn_sq ?_
      refine HW_seq rfl ?_
      refine HW_block rfl ?_
      refine HW_seq rfl ?_
      refine HW_text (.pure 0 (.pure 1 (.pure 2 .done))) (by kernel_rfl) ?_
      refine rw_p rfl rfl (y_move rfl) ?_
      refine rw_p rfl rfl (y_and_ rfl (cW 1 rfl) w_and) ?_
      refine rw_p rfl rfl (y_assign rfl) ?_
      refine rw_done ?_
      refine gn_sq ?_
      refine HW_seq rfl ?_
      refine HW_text (.pure 0 (.pure 1 (.pure 2 .done))) (by kernel_rfl) ?_
      refine rw_p rfl rfl (y_move rfl) ?_
      refine rw_p rfl rfl (y_shr rfl rfl (by decide) (w_shr 1 rfl (by decide))) ?_
      refine rw_p rfl rfl (y_assign rfl) ?_
      refine rw_done ?_
      refine gn_sq ?_
      refine HW_seq rfl ?_
      refine HW_text (.pure 0 (.pure 1 .done)) (by kernel_rfl) ?_
      refine rw_p rfl rfl (y_move rfl) ?_
      refine rw_p rfl rfl (y_eq rfl (cW 1 rfl)) ?_
      refine rw_done ?_
      refine gn_sq ?_
      refine HW_cond rfl rfl (fun hc2 => ?_) (fun hc2 => ?_)
      ·
        simp only [decide_eq_true_eq] at hc2
        replace hc2 := UInt32.toNat_inj.1 (Int.ofNat_inj.1 hc2)
        refine HW_text (.pure 0 (.pure 1 (.pure 2 .done))) (by kernel_rfl) ?_
        refine rw_p rfl rfl (y_move rfl) ?_
        refine rw_p rfl rfl (y_xor_ rfl (cW 3988292384 rfl) w_xor) ?_
        refine rw_p rfl rfl (y_assign rfl) ?_
        refine rw_done ?_
        refine gn_bl ?_
        refine gn_sq ?_
        refine HW_text (.pure 0 (.pure 1 (.pure 2 .done))) (by kernel_rfl) ?_
        refine rw_p rfl rfl (y_move rfl) ?_
        refine rw_p rfl rfl (y_add rfl rfl (i64w (by omega) (by omega))) ?_
        refine rw_p rfl rfl (y_assign rfl) ?_
        refine rw_done ?_
        refine next (y + 1) (by omega) ⟨hm, by omega⟩ ⟨nx y, by rw [show crcN (y + 1) (Pl.crcReg (~~~ sum) (bs.take x) ^^^ c.toUInt32) = Pl.crcBit (crcN y (Pl.crcReg (~~~ sum) (bs.take x) ^^^ c.toUInt32)) from rfl, ← bit_ref]; first | (rw [if_pos hc2]; rfl) | (rw [if_neg hc2]; rfl), rfl, rfl, rfl, trivial⟩
      ·
        simp only [decide_eq_false_iff_not] at hc2
        replace hc2 : ¬ (crcN y (Pl.crcReg (~~~ sum) (bs.take x) ^^^ c.toUInt32) &&& 1) = 1 := fun e => hc2 (by rw [e])
        refine HW_skip rfl ?_
        refine gn_bl ?_
        refine gn_sq ?_
        refine HW_text (.pure 0 (.pure 1 (.pure 2 .done))) (by kernel_rfl) ?_
        refine rw_p rfl rfl (y_move rfl) ?_
        refine rw_p rfl rfl (y_add rfl rfl (i64w (by omega) (by omega))) ?_
        refine rw_p rfl rfl (y_assign rfl) ?_
        refine rw_done ?_
        refine next (y + 1) (by omega) ⟨hm, by omega⟩ ⟨nx y, by rw [show crcN (y + 1) (Pl.crcReg (~~~ sum) (bs.take x) ^^^ c.toUInt32) = Pl.crcBit (crcN y (Pl.crcReg (~~~ sum) (bs.take x) ^^^ c.toUInt32)) from rfl, ← bit_ref]; first | (rw [if_pos hc2]; rfl) | (rw [if_neg hc2]; rfl), rfl, rfl, rfl, trivial⟩
    ·
      simp only [decide_eq_false_iff_not] at hc1
      obtain rfl : y = 8 := by omega
      refine HW_exit rfl ?_
      refine gx_sq (gx_lp ?_)
      refine gx_here ?_
      refine gn_bl ?_
      refine gn_sq ?_
      refine HW_text (.pure 0 (.pure 1 (.pure 2 .done))) (by kernel_rfl) ?_
      refine rw_p rfl rfl (y_move rfl) ?_
      refine rw_p rfl rfl (y_add rfl rfl (i64w (by omega) (by omega))) ?_
      refine rw_p rfl rfl (y_assign rfl) ?_
      refine rw_done ?_
      refine next (x + 1) (by omega) ⟨hm, by omega⟩ ⟨nx x, by rw [crcReg_next hi]; rfl, rfl, rfl, trivial⟩
  ·
    simp only [decide_eq_false_iff_not] at hc0
    obtain rfl : x = bs.length := by omega
    refine HW_exit rfl ?_
    refine gx_sq (gx_lp ?_)
    refine gx_here ?_
    refine gn_sq ?_
    refine HW_seq rfl ?_
    refine HW_text (.pure 0 (.pure 1 (.pure 2 .done))) (by kernel_rfl) ?_
    refine rw_p rfl rfl (y_move rfl) ?_
    refine rw_p rfl rfl (y_com rfl rfl w_com) ?_
    refine rw_p rfl rfl (y_assign rfl) ?_
    refine rw_done ?_
    refine gn_sq ?_
    refine HW_ret rfl ?_
    refine toR (fin hret rfl (.tmp rfl .nil) .one ?_)
    exact ⟨by rw [List.take_length], hm.to⟩

theorem r3_of (p : Option Addr) (cap : Nat) (bs : List UInt8) (w0 : World) (hx : Rd w0 p (bs.flatMap encB)) (hl : bs.length ≤ 4611686018427387903) : C Try.prog 44 [.slice p bs.length cap] w0 fun v w' => v = .int .u32 ((Pl.crc bs).toNat : Int) ∧ Ext No w0 w' := by
  refine C_of Try.func44 rfl rfl rfl fun κ hret hnorm => ?_
  have hm := Mem.start w0
  refine HW_seq rfl ?_
  refine HW_text (.pure 0 .done) (by kernel_rfl) ?_
  refine rw_p rfl rfl (y_assign (cW 0 rfl)) ?_
  refine rw_done ?_
  refine gn_sq ?_
  refine HW_seq rfl ?_
  refine HW_text (.pure 0 (.act 1 (.pure 2 .done))) (by kernel_rfl) ?_
  refine rw_p rfl rfl (y_move rfl) ?_
  refine a_call rfl rfl (evs_c (cW 0 rfl) (evs_c rfl evs_n)) go48 (r3_extend 0 p cap bs _ (hx.ext0 hm.to) hl) fun v w hR => ?_
  obtain ⟨rfl, hE⟩ := hR
  refine ⟨trivial, ?_⟩
  replace hm := hm.ext hE
  refine rw_p rfl rfl (y_assign rfl) ?_
  refine rw_done ?_
  refine gn_sq ?_
  refine HW_ret rfl ?_
  refine toR (fin hret rfl (.tmp rfl .nil) .one ?_)
  exact ⟨rfl, hm.to⟩

set_option maxHeartbeats 400000 in
theorem r3_seal (p : Option Addr) (cap : Nat) (bs : List UInt8) (w0 : World) (hx : Rd w0 p (bs.flatMap encB)) (hl : bs.length ≤ 70368744177664) : C Try.prog 31 [.slice p bs.length cap] w0 fun v w' => ∃ q c g b, v = .slice q (bs ++ Pl.leS (Pl.crc bs)).length c ∧ Acc 5 1 q (bs ++ Pl.leS (Pl.crc bs)).length c ((bs ++ Pl.leS (Pl.crc bs)).flatMap encB) g b ∧ Mem w0 w' No [(g, b)] := by
  refine C_of Try.func31 rfl rfl rfl fun κ hret hnorm => ?_
  have hm := Mem.start w0
  refine HW_seq rfl ?_
  refine HW_text (.pure 0 .done) (by kernel_rfl) ?_
  refine rw_p rfl rfl (y_assign rfl) ?_
  refine rw_done ?_
  refine gn_sq ?_
  refine HW_seq rfl ?_
  refine HW_text (.pure 0 (.act 1 (.pure 2 .done))) (by kernel_rfl) ?_
  refine rw_p rfl rfl (y_move rfl) ?_
  refine a_call rfl rfl rfl go44 (r3_of p cap bs _ (hx.ext0 hm.to) (by omega)) fun v w hR => ?_
  obtain ⟨rfl, hE⟩ := hR
  refine ⟨trivial, ?_⟩
  replace hm := hm.ext hE
  refine rw_p rfl rfl (y_assign rfl) ?_
  refine rw_done ?_
  refine gn_sq ?_
  refine HW_seq rfl ?_
  refine HW_text (.act 0 (.pure 1 (.act 2 (.pure 3 (.pure 4 (.pure 5 (.pure 6 (.pure 7 (.pure 8 (.pure 9 (.pure 10 (.pure 11 (.pure 12 (.pure 13 (.act 14 (.act 15 (.pure 16 .done))))))))))))))))) (by kernel_rfl) ?_
  refine a_buildSlice (l := []) rfl rfl sl23 z5 rfl rfl rfl rfl rfl rfl rfl hm trivial fun m1 w hg_m1 hm hh => ?_
  refine rw_p rfl rfl (y_move rfl) ?_
  refine a_append rfl rfl rfl rfl rfl rfl sl23 sl23 z5 rfl (oneB bs) (hx.ext0 hm.to) (lenB bs) (Acc.row rfl) hm 0 rfl (by omega) (by omega) fun p_s cap_s g_s b_s w ha_s hm => ?_
  refine rw_p rfl rfl (y_move rfl) ?_
  refine rw_p rfl rfl (y_conv rfl is74 it5 w_u8) ?_
  refine rw_p rfl rfl (y_move rfl) ?_
  refine rw_p rfl rfl (y_shr rfl rfl (by decide) (w_shr 8 rfl (by decide))) ?_
  refine rw_p rfl rfl (y_conv rfl is74 it5 w_u8) ?_
  refine rw_p rfl rfl (y_move rfl) ?_
  refine rw_p rfl rfl (y_shr rfl rfl (by decide) (w_shr 16 rfl (by decide))) ?_
  refine rw_p rfl rfl (y_conv rfl is74 it5 w_u8) ?_
  refine rw_p rfl rfl (y_move rfl) ?_
  refine rw_p rfl rfl (y_shr rfl rfl (by decide) (w_shr 24 rfl (by decide))) ?_
  refine rw_p rfl rfl (y_conv rfl is74 it5 w_u8) ?_
  refine a_buildSlice (l := [_, _, _, _]) rfl rfl sl23 z5 rfl rfl rfl rfl rfl rfl rfl hm trivial fun m2 w hg_m2 hm hh => ?_
  refine a_append rfl rfl rfl rfl rfl rfl sl23 sl23 z5 rfl rfl (Rd.row0 (hm.get (k := 0) rfl)) rfl ha_s hm 1 rfl (by omega) (by omega) fun p_s cap_s g_s b_s w ha_s hm => ?_
  refine rw_p rfl rfl (y_assign rfl) ?_
  refine rw_done ?_
  refine gn_sq ?_
  refine HW_ret rfl ?_
  refine toR (fin hret rfl (.tmp rfl .nil) .one ?_)
  exact ⟨p_s, cap_s, g_s, b_s, by rw [List.length_append, Nat.zero_add]; rfl, by rw [List.length_append]; exact (Nat.zero_add bs.length ▸ ha_s).to (by simp only [List.flatMap_append, List.nil_append]; rfl), (hm.pick [1] rfl)⟩

set_option maxHeartbeats 400000 in
theorem r3_open (p : Option Addr) (cap : Nat) (bs : List UInt8) (w0 : World) (hx : Rd w0 p (bs.flatMap encB)) (hle : bs.length ≤ cap) (hsp : cap ≠ 0 → ∀ ad, p = some ad → ad.spot = none) (hl : bs.length ≤ 70368744177664) : C Try.prog 14 [.slice p bs.length cap] w0 fun v w' => v = .int .i64 (if (decide (4 ≤ bs.length) && decide ((bs.drop (bs.length - 4)) = Pl.leS (Pl.crc (bs.take (bs.length - 4))))) = true then (bs.length : Int) - 4 else -1) ∧ Ext No w0 w' := by
  refine C_of Try.func14 rfl rfl rfl fun κ hret hnorm => ?_
  have hm := Mem.start w0
  refine HW_seq rfl ?_
  refine HW_text (.pure 0 .done) (by kernel_rfl) ?_
  refine rw_p rfl rfl (y_assign rfl) ?_
  refine rw_done ?_
  refine gn_sq ?_
  refine HW_seq rfl ?_
  refine HW_text (.pure 0 (.pure 1 (.pure 2 (.pure 3 .done)))) (by kernel_rfl) ?_
  refine rw_p rfl rfl (y_move rfl) ?_
  refine rw_p rfl rfl (y_len rfl rfl sl23) ?_
  refine rw_p rfl rfl (y_sub rfl rfl (i64w (by omega) (by omega))) ?_
  refine rw_p rfl rfl (y_assign rfl) ?_
  refine rw_done ?_
  refine gn_sq ?_
  refine HW_seq rfl ?_
  refine HW_seq rfl ?_
  by_cases h4 : (bs.length : Int) - 4 < 0
  ·
    have hop : (decide (4 ≤ bs.length) && decide ((bs.drop (bs.length - 4)) = Pl.leS (Pl.crc (bs.take (bs.length - 4))))) = false := by rw [decide_eq_false (by omega)]; rfl
    refine HW_draw (.pure 0 (.pure 1 (.pure 2 (.pure 3 (.pure 4 (.pure 5 (.pure 8 (.pure 9 (.act 6 (.pure 7 (.pure 10 (.pure 11 .done)))))))))))) No mix (by kernel_rfl) hm fun w hw hm0 hh => ?_
    have hm := hm0
    refine rw_p rfl rfl (y_move rfl) ?_
    refine rw_p rfl rfl (y_as (c := true) (y_lt rfl rfl) (decide_eq_true h4)) ?_
    refine rw_p rfl rfl (y_move rfl) ?_
    refine rw_gf rfl rfl (by decide) rfl ?_
    refine rw_gf rfl rfl (by decide) rfl ?_
    refine rw_gf rfl rfl (by decide) rfl ?_
    refine rw_gf rfl rfl (by decide) rfl ?_
    refine rw_gf rfl rfl (by decide) rfl ?_
    refine a_gf rfl rfl (by decide) rfl hh ?_
    refine rw_gf rfl rfl (by decide) rfl ?_
    refine rw_gf rfl rfl (by decide) rfl ?_
    refine rw_p rfl rfl (y_pickT rfl rfl) ?_
    refine rw_done ?_
    refine gn_sq ?_
    refine HW_condT rfl rfl rfl ?_
    refine HW_seq rfl ?_
    refine HW_text (.pure 0 .done) (by kernel_rfl) ?_
    refine rw_p rfl rfl (y_assign rfl) ?_
    refine rw_done ?_
    refine gn_sq ?_
    refine HW_ret rfl ?_
    refine gr_sq ?_
    refine toR (fin hret rfl (.tmp rfl .nil) .one ?_)
    exact ⟨by rw [hop]; rfl, hm.to⟩
  ·
    have htl : (bs.take (bs.length - 4)).length = bs.length - 4 := by rw [List.length_take]; omega
    have hdl : (bs.drop (bs.length - 4)).length = 4 := by rw [List.length_drop]; omega
    have hcat : bs = (bs.take (bs.length - 4)) ++ (bs.drop (bs.length - 4)) := (List.take_append_drop _ _).symm
    refine HW_draw (.pure 0 (.pure 1 (.pure 2 (.pure 3 (.pure 4 (.pure 5 (.pure 8 (.pure 9 (.act 6 (.act 7 (.pure 10 (.pure 11 .done)))))))))))) No mix (by kernel_rfl) hm fun w hw hm0 hh => ?_
    have hm := hm0
    refine rw_p rfl rfl (y_move rfl) ?_
    refine rw_p rfl rfl (y_as (c := false) (y_lt rfl rfl) (decide_eq_false h4)) ?_
    refine rw_p rfl rfl (y_move rfl) ?_
    refine rw_p rfl rfl (y_move rfl) ?_
    refine rw_p rfl rfl (y_move rfl) ?_
    refine rw_p rfl rfl (y_v (y_slice (ln := 0) (hn := (bs.length - 4)) rfl sl23 rfl ⟨_, congrArg (fun x => some (Value.int .i64 x)) (by omega)⟩ (by omega) (by omega) (fun h => hsp (by omega))) (show _ = Value.slice (slp p cap 0 1) (bs.take (bs.length - 4)).length cap by rw [htl, Nat.sub_zero, Nat.sub_zero])) ?_
    refine rw_p rfl rfl (y_move rfl) ?_
    refine rw_p rfl rfl (y_cvs rfl bt23_9 ((hx.ext0 hm0.to).nd) rfl) ?_
    refine a_call rfl rfl rfl go31 (r3_seal (slp p cap 0 1) cap (bs.take (bs.length - 4)) _ ((hx.ext0 hm.to).takeS hle) (by omega)) fun v w hR => ?_
    obtain ⟨p_z, cap_z, g_z, b_z, rfl, ha_z, hmc⟩ := hR
    refine ⟨hh.ext hmc.to, ?_⟩
    have hg_z : b_z.real = true → _ := fun hr => (hmc.fresh _ List.mem_cons_self hr).resolve_left id
    replace hh := hh.ext hmc.to
    replace hm := hm.callN hmc
    refine a_pure rfl rfl rfl (y_cvs rfl bt23_9 ((ha_z.rd hm 0 rfl).nt) ha_z.lenB) hh ?_
    refine rw_p rfl rfl (y_snqB rfl rfl) ?_
    refine rw_p rfl rfl (y_pickF rfl rfl) ?_
    refine rw_done ?_
    refine gn_sq ?_
    refine HW_cond rfl rfl (fun hc0 => ?_) (fun hc0 => ?_)
    ·
      simp only [decide_eq_true_eq] at hc0
      have hop : (decide (4 ≤ bs.length) && decide ((bs.drop (bs.length - 4)) = Pl.leS (Pl.crc (bs.take (bs.length - 4))))) = false := by simp only [Bool.and_eq_false_iff, decide_eq_false_iff_not]; exact .inr fun e => hc0 (by rw [← e]; exact hcat.symm)
      refine HW_seq rfl ?_
      refine HW_text (.pure 0 .done) (by kernel_rfl) ?_
      refine rw_p rfl rfl (y_assign rfl) ?_
      refine rw_done ?_
      refine gn_sq ?_
      refine HW_ret rfl ?_
      refine gr_sq ?_
      refine toR (fin hret rfl (.tmp rfl .nil) .one ?_)
      exact ⟨by rw [hop]; rfl, hm.to⟩
    ·
      simp only [decide_eq_false_iff_not, Decidable.not_not] at hc0
      have hop : (decide (4 ≤ bs.length) && decide ((bs.drop (bs.length - 4)) = Pl.leS (Pl.crc (bs.take (bs.length - 4))))) = true := by rw [decide_eq_true (by omega), decide_eq_true (List.append_cancel_left (hc0.trans hcat)).symm]; rfl
      refine HW_skip rfl ?_
      refine gn_sq ?_
      refine HW_seq rfl ?_
      refine HW_text (.pure 0 (.pure 1 .done)) (by kernel_rfl) ?_
      refine rw_p rfl rfl (y_move rfl) ?_
      refine rw_p rfl rfl (y_assign rfl) ?_
      refine rw_done ?_
      refine gn_sq ?_
      refine HW_ret rfl ?_
      refine toR (fin hret rfl (.tmp rfl .nil) .one ?_)
      exact ⟨by rw [hop, if_pos rfl], hm.to⟩

end Go.Proofs.Ytlgkhajmjgepaaa
