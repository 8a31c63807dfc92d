/- Contracts of functions of the program: what each returns. Conditions: the hypotheses of each theorem. -/
import Derived.Test.YtoemhcpmdeinfaaLaw
set_option linter.unusedVariables false
set_option linter.unusedSimpArgs false
namespace Go.Proofs.Ytoemhcpmdeinfaa
open Go Go.Cx

theorem go14 : isGo Try.prog 14 = true := by kernel_rfl
theorem go17 : isGo Try.prog 17 = true := by kernel_rfl
theorem go18 : isGo Try.prog 18 = true := by kernel_rfl
theorem go19 : isGo Try.prog 19 = true := by kernel_rfl
theorem go20 : isGo Try.prog 20 = true := by kernel_rfl
theorem sz5 : szO Try.prog 5 = some 1 := by kernel_rfl

set_option maxHeartbeats 1600000 in
theorem law_keeps (p : Option Addr) (cap : Nat) (bs : List UInt8) (n : Int) (w0 : World) (hb : SB.ok w0 ⟨p, cap, bs⟩) (hn : 0 ≤ n ∧ n ≤ 255) : C Try.prog 6 [.slice p bs.length cap, .int .u8 n] w0 fun v w' => v = .bool true ∧ Ext No w0 w' := by
  have hb1 := hb.le
  have hb2 := hb.max
  simp only at hb1 hb2
  have hbr : Rd w0 p (bs.flatMap encB) := hb.rd
  have hbs : cap ≠ 0 → ∀ ad, p = some ad → ad.spot = none := hb.spot
  refine C_of Try.func6 rfl rfl rfl fun k hret hnorm => ?_
  have hm := Mem.start w0
  refine HW_seq rfl ?_
  refine HW_text (.pure 0 .done) (by kernel_rfl) ?_
  refine rw_p rfl rfl (y_assign rfl) ?_
  refine rw_done ?_
  refine gn_sq ?_
  refine HW_seq rfl ?_
  refine HW_seq rfl ?_
  refine HW_text (.pure 0 (.pure 1 (.pure 2 .done))) (by kernel_rfl) ?_
  refine rw_p rfl rfl (y_move rfl) ?_
  refine rw_p rfl rfl (y_len rfl rfl sl22) ?_
  refine rw_p rfl rfl (y_gt rfl rfl) ?_
  refine rw_done ?_
  refine gn_sq ?_
  refine HW_cond rfl rfl (fun hc0 => ?_) (fun hc0 => ?_)
  ·
    simp only [Bool.and_eq_true, Bool.or_eq_true, Bool.and_eq_false_iff, Bool.or_eq_false_iff, Bool.not_eq_true', Bool.not_eq_false', decide_eq_true_eq, decide_eq_false_iff_not] at hc0
    refine HW_seq rfl ?_
    refine HW_text (.act 0 (.pure 1 .done)) (by kernel_rfl) ?_
    refine a_call rfl rfl rfl go7 (law_alive _) fun v w hR => ?_
    obtain ⟨rfl, hE⟩ := hR
    refine ⟨trivial, ?_⟩
    replace hm := hm.ext hE
    refine rw_p rfl rfl (y_assign rfl) ?_
    refine rw_done ?_
    refine gn_sq ?_
    refine HW_ret rfl ?_
    refine gr_sq ?_
    refine toR (fin hret rfl (.tmp rfl .nil) .one ?_)
    exact ⟨rfl, hm.to⟩
  ·
    simp only [Bool.and_eq_true, Bool.or_eq_true, Bool.and_eq_false_iff, Bool.or_eq_false_iff, Bool.not_eq_true', Bool.not_eq_false', decide_eq_true_eq, decide_eq_false_iff_not] at hc0
    refine HW_skip rfl ?_
    refine gn_sq ?_
    refine HW_seq rfl ?_
    refine HW_text (.act 0 (.pure 1 (.act 2 (.pure 3 .done)))) (by kernel_rfl) ?_
    refine a_buildSlice (l := []) rfl rfl sl22 z5 rfl rfl rfl rfl rfl rfl rfl hm trivial fun m1 w hg_m1 hm hh => ?_
    refine rw_p rfl rfl (y_move rfl) ?_
    refine a_append rfl rfl rfl rfl rfl rfl sl22 sl22 z5 rfl (oneB bs) (hbr.ext0 hm.to) (lenB bs) (Acc.row rfl) hm 0 rfl (by omega) (by omega) fun p_o cap_o g_o b_o w ha_o hm => ?_
    rw [Nat.zero_add, List.nil_append] at ha_o
    refine rw_p rfl rfl (y_v (y_assign rfl) (show _ = Value.slice p_o bs.length cap_o by rw [Nat.zero_add])) ?_
    refine rw_done ?_
    refine gn_sq ?_
    refine HW_seq rfl ?_
    refine HW_text (.pure 0 (.act 1 (.pure 2 (.act 3 (.pure 4 (.pure 5 .done)))))) (by kernel_rfl) ?_
    refine rw_p rfl rfl (y_move rfl) ?_
    refine a_call rfl rfl rfl go11 (w_new p_o cap_o bs _ (ha_o.rd hm 0 rfl) (by omega)) fun v w hR => ?_
    obtain ⟨r, p_rb, cap_rb, g_rb, b_rb, rfl, ha_rb, hmc⟩ := hR
    refine ⟨trivial, ?_⟩
    replace hm := hm.callN hmc
    refine rw_p rfl rfl (y_move rfl) ?_
    refine a_call rfl rfl rfl go11 (w_new p cap bs _ (hbr.ext0 hm.to) (by omega)) fun v w hR => ?_
    obtain ⟨s, p_sb, cap_sb, g_sb, b_sb, rfl, ha_sb, hmc⟩ := hR
    refine ⟨trivial, ?_⟩
    replace hm := hm.callN hmc
    refine rw_p rfl rfl (y_assign rfl) ?_
    refine rw_p rfl rfl (y_assign rfl) ?_
    refine rw_done ?_
    refine gn_sq ?_
    refine HW_seq rfl ?_
    refine HW_seq rfl ?_
    refine HW_text (.pure 0 (.pure 1 (.pure 2 (.pure 3 (.pure 4 (.pure 5 .done)))))) (by kernel_rfl) ?_
    refine rw_p rfl rfl (y_move rfl) ?_
    refine rw_p rfl rfl (y_pnil rfl rfl pb32) ?_
    refine rw_p rfl rfl (y_move rfl) ?_
    refine rw_p rfl rfl (y_move rfl) ?_
    refine rw_p rfl rfl (y_pnil rfl rfl pb32) ?_
    refine rw_p rfl rfl (y_pickF rfl rfl) ?_
    refine rw_done ?_
    refine gn_sq ?_
    refine HW_condF rfl rfl rfl ?_
    refine HW_skip rfl ?_
    refine gn_sq ?_
    refine HW_seq rfl ?_
    refine HW_seq rfl ?_
    refine HW_text (.pure 0 (.pure 1 (.pure 2 .done))) (by kernel_rfl) ?_
    refine rw_p rfl rfl (y_move rfl) ?_
    refine rw_p rfl rfl (y_len rfl rfl sl22) ?_
    refine rw_p rfl rfl (y_move rfl) ?_
    refine rw_done ?_
    refine gn_sq ?_
    refine HW_block rfl ?_
    refine HW_loopK (ι := Nat × Blk × List UInt8) rfl (ks := [0, 1, 4, 5, 6, 7, 32]) (.cons rfl (.cons rfl (.cons rfl (.cons rfl (.cons rfl (.cons rfl (.cons rfl .nil))))))) (fun x => [(33, .int .i64 x.1)]) (fun x w => Mem w0 w No [(g_o, x.2.1), (s, .row 61 (rdV p_sb bs.length cap_sb ⟨0, 0, 0⟩)), (g_sb, b_sb), (r, .row 61 (rdV p_rb bs.length cap_rb ⟨0, 0, 0⟩)), (g_rb, b_rb)] ∧ Acc 5 1 p_o bs.length cap_o (x.2.2.flatMap encB) g_o x.2.1 ∧ x.2.2.length = bs.length ∧ x.1 ≤ bs.length) (fun x => bs.length - x.1) (0, b_o, bs) (⟨(hm.pick [4, 0, 1, 2, 3] rfl), ha_o, rfl, Nat.zero_le _⟩) ⟨rfl, trivial⟩ (fun x w hM => ?_)
    obtain ⟨hm, ha_o, hxl, hk⟩ := hM
    refine HW_seq rfl ?_
    refine HW_text (.pure 0 .done) (by kernel_rfl) ?_
    refine rw_p rfl rfl (y_lt rfl rfl) ?_
    refine rw_done ?_
    refine gn_sq ?_
    refine HW_seq rfl ?_
    refine HW_cond rfl rfl (fun hc2 => ?_) (fun hc2 => ?_)
    ·
      simp only [decide_eq_true_eq] at hc2
      obtain ⟨y, hy⟩ : ∃ y_, x.2.2[x.1]? = some y_ := ⟨_, List.getElem?_eq_getElem (by omega)⟩
      obtain rfl := ha_o.ptr (by omega)
      refine HW_skip rfl ?_
      refine gn_sq ?_
      refine HW_seq rfl ?_
      refine HW_block rfl ?_
      refine HW_seq rfl ?_
      refine HW_text (.pure 0 (.pure 1 .done)) (by kernel_rfl) ?_
      refine rw_p rfl rfl (y_move rfl) ?_
      refine rw_p rfl rfl (y_assign rfl) ?_
      refine rw_done ?_
      refine gn_sq ?_
      refine HW_text (.pure 0 (.pure 1 (.pure 2 (.pure 3 (.pure 4 (.pure 5 (.act 6 .done))))))) (by kernel_rfl) ?_
      refine rw_p rfl rfl (y_move rfl) ?_
      refine rw_p rfl rfl (y_move rfl) ?_
      refine rw_p rfl rfl (y_index rfl rfl sl22 rfl (by omega) (by omega)) ?_
      refine rw_p rfl rfl (y_el1 rfl sc5 (ha_o.rd hm 0 rfl).nt encB_len hy rfl) ?_
      refine rw_p rfl rfl (y_add rfl rfl (u8inc y)) ?_
      refine rw_p rfl rfl (y_index rfl rfl sl22 rfl (by omega) (by omega)) ?_
      refine a_storeE rfl rfl rfl rfl sz5 rfl rfl ha_o (by omega) hm 0 rfl fun b_o w ha_o hm => ?_
      replace ha_o := ha_o.to (show _ = (x.2.2.set x.1 (y + 1)).flatMap encB from updB _ _ _)
      refine rw_done ?_
      refine gn_bl ?_
      refine gn_sq ?_
      refine HW_text (.pure 0 (.pure 1 .done)) (by kernel_rfl) ?_
      refine rw_p rfl rfl (y_add rfl rfl (i64w (by omega) (by omega))) ?_
      refine rw_p rfl rfl (y_move rfl) ?_
      refine rw_done ?_
      refine next (x.1 + 1, b_o, x.2.2.set x.1 (y + 1)) (by simp only; omega) ⟨(hm.pick [0, 1, 2, 3, 4] rfl), ha_o, by simp [hxl], by simp only; omega⟩ ⟨nx x.1, rfl, rfl, rfl, rfl, rfl, rfl, rfl, trivial⟩
    ·
      simp only [decide_eq_false_iff_not] at hc2
      refine HW_exit rfl ?_
      refine gx_sq (gx_lp ?_)
      refine gx_here ?_
      refine gn_sq ?_
      refine HW_seq rfl ?_
      obtain ⟨kk, hkk, hkl⟩ : ∃ kk : Nat, n.tmod ((bs.length : Int) + 1) = (kk : Int) ∧ kk ≤ bs.length := by
        have h1 := Int.tmod_eq_emod_of_nonneg (b := (bs.length : Int) + 1) hn.1
        have h2 := Int.emod_nonneg n (show (bs.length : Int) + 1 ≠ 0 by omega)
        have h3 := Int.emod_lt_of_pos n (show (0 : Int) < (bs.length : Int) + 1 by omega)
        exact ⟨(n % ((bs.length : Int) + 1)).toNat, by omega, by omega⟩
      ·
        refine HW_text (.pure 0 (.pure 1 (.pure 2 (.pure 3 (.pure 4 (.pure 5 (.pure 6 .done))))))) (by kernel_rfl) ?_
        refine rw_p rfl rfl (y_move rfl) ?_
        refine rw_p rfl rfl (y_conv rfl is5 it3 (i64w (by omega) (by omega))) ?_
        refine rw_p rfl rfl (y_move rfl) ?_
        refine rw_p rfl rfl (y_len rfl rfl sl22) ?_
        refine rw_p rfl rfl (y_add rfl rfl (i64w (by omega) (by omega))) ?_
        refine rw_p rfl rfl (y_v (y_rem rfl rfl (by omega) rfl) (show _ = Value.int .i64 (kk : Int) by rw [hkk])) ?_
        refine rw_p rfl rfl (y_assign rfl) ?_
        refine rw_done ?_
        refine gn_sq ?_
        refine HW_seq rfl ?_
        refine HW_text (.pure 0 (.pure 1 (.act 2 (.pure 3 .done)))) (by kernel_rfl) ?_
        refine rw_p rfl rfl (y_move rfl) ?_
        refine rw_p rfl rfl (y_move rfl) ?_
        refine a_call rfl rfl rfl go19 (w_bytes r _ p_rb cap_rb bs ⟨0, 0, 0⟩ kk _ (hm.get (k := 3) rfl) (ha_rb.rd hm 4 rfl) (ha_rb.apart hm 4 3 rfl rfl rfl) ha_rb.le ha_rb.spot (Nat.zero_le _) (by omega) (by omega)) fun v w hR => ?_
        obtain ⟨p_y, n_y, cap_y, g_y, b_y, rfl, ha_y, hmc⟩ := hR
        refine ⟨trivial, ?_⟩
        replace hm := hm.callJ 3 rfl hmc
        obtain rfl := ha_y.lenB
        have hrb : Pl.rbytes bs ⟨0, 0, 0⟩ kk = (⟨kk, 0, 0⟩, bs.take kk) := by have := Pl.rbytes_at (bs := bs) (s := 0) (k := kk) (by omega); simpa using this
        generalize hX : Pl.rbytes bs ⟨0, 0, 0⟩ kk = X at *
        obtain rfl := hrb
        simp only [List.length_take, Nat.min_eq_left hkl] at ha_y
        refine rw_p rfl rfl (y_v (y_assign rfl) (show _ = Value.slice p_y kk cap_y by simp only [List.length_take, Nat.min_eq_left hkl])) ?_
        refine rw_done ?_
        refine gn_sq ?_
        refine HW_seq rfl ?_
        refine HW_text (.pure 0 (.pure 1 (.pure 2 (.pure 3 (.act 4 (.pure 5 .done)))))) (by kernel_rfl) ?_
        refine rw_p rfl rfl (y_move rfl) ?_
        refine rw_p rfl rfl (y_move rfl) ?_
        refine rw_p rfl rfl (y_move rfl) ?_
        refine rw_p rfl rfl (y_slice (ln := 0) (hn := kk) rfl sl22 rfl ⟨_, rfl⟩ (Nat.zero_le _) (by omega) (fun h => hbs (by omega))) ?_
        refine a_call rfl rfl rfl go10 (C.as (v := .bool true) (C.eqv (eq_b p_y p cap_y cap (bs.take kk) (bs.take kk) _ (ha_y.rd hm 0 rfl) ((hbr.ext0 hm.to).takeB kk) (by rw [List.length_take]; omega) (by rw [List.length_take]; omega)) (by rw [slp_zero' hbs, List.length_take, Nat.min_eq_left hkl]; rfl)) (congrArg Value.bool (by simp))) fun v w hR => ?_
        obtain ⟨rfl, hE⟩ := hR
        refine ⟨trivial, ?_⟩
        replace hm := hm.ext hE
        refine rw_p rfl rfl (y_assign rfl) ?_
        refine rw_done ?_
        refine gn_sq ?_
        refine HW_seq rfl ?_
        refine HW_seq rfl ?_
        refine HW_text (.pure 0 (.pure 1 (.pure 2 .done))) (by kernel_rfl) ?_
        refine rw_p rfl rfl (y_move rfl) ?_
        refine rw_p rfl rfl (y_len rfl rfl sl22) ?_
        refine rw_p rfl rfl (y_move rfl) ?_
        refine rw_done ?_
        refine gn_sq ?_
        refine HW_block rfl ?_
        refine HW_loopK (ι := Nat × Blk × List UInt8) rfl (ks := [0, 4, 6, 7, 9, 10, 11, 58]) (.cons rfl (.cons rfl (.cons rfl (.cons rfl (.cons rfl (.cons rfl (.cons rfl (.cons rfl .nil)))))))) (fun x => [(59, .int .i64 x.1)]) (fun x w => Mem w0 w No [(g_y, x.2.1), (s, .row 61 (rdV p_sb bs.length cap_sb ⟨0, 0, 0⟩)), (g_sb, b_sb), (r, .row 61 (rdV p_rb bs.length cap_rb ⟨kk, 0, 0⟩)), (g_rb, b_rb)] ∧ Acc 5 1 p_y kk cap_y (x.2.2.flatMap encB) g_y x.2.1 ∧ x.2.2.length = kk ∧ x.1 ≤ kk) (fun x => kk - x.1) (0, b_y, bs.take kk) (⟨(hm.pick [0, 2, 3, 4, 5] rfl), ha_y, by rw [List.length_take]; omega, Nat.zero_le _⟩) ⟨rfl, trivial⟩ (fun x w hM => ?_)
        obtain ⟨hm, ha_y, hxl, hk⟩ := hM
        refine HW_seq rfl ?_
        refine HW_text (.pure 0 .done) (by kernel_rfl) ?_
        refine rw_p rfl rfl (y_lt rfl rfl) ?_
        refine rw_done ?_
        refine gn_sq ?_
        refine HW_seq rfl ?_
        refine HW_cond rfl rfl (fun hc3 => ?_) (fun hc3 => ?_)
        ·
          simp only [decide_eq_true_eq] at hc3
          obtain ⟨z, hz⟩ : ∃ y_, x.2.2[x.1]? = some y_ := ⟨_, List.getElem?_eq_getElem (by omega)⟩
          obtain rfl := ha_y.ptr (by omega)
          refine HW_skip rfl ?_
          refine gn_sq ?_
          refine HW_seq rfl ?_
          refine HW_block rfl ?_
          refine HW_seq rfl ?_
          refine HW_text (.pure 0 (.pure 1 .done)) (by kernel_rfl) ?_
          refine rw_p rfl rfl (y_move rfl) ?_
          refine rw_p rfl rfl (y_assign rfl) ?_
          refine rw_done ?_
          refine gn_sq ?_
          refine HW_text (.pure 0 (.pure 1 (.pure 2 (.pure 3 (.pure 4 (.pure 5 (.act 6 .done))))))) (by kernel_rfl) ?_
          refine rw_p rfl rfl (y_move rfl) ?_
          refine rw_p rfl rfl (y_move rfl) ?_
          refine rw_p rfl rfl (y_index rfl rfl sl22 rfl (by omega) (by omega)) ?_
          refine rw_p rfl rfl (y_el1 rfl sc5 (ha_y.rd hm 0 rfl).nt encB_len hz rfl) ?_
          refine rw_p rfl rfl (y_add rfl rfl (u8inc z)) ?_
          refine rw_p rfl rfl (y_index rfl rfl sl22 rfl (by omega) (by omega)) ?_
          refine a_storeE rfl rfl rfl rfl sz5 rfl rfl ha_y (by omega) hm 0 rfl fun b_y w ha_y hm => ?_
          replace ha_y := ha_y.to (show _ = (x.2.2.set x.1 (z + 1)).flatMap encB from updB _ _ _)
          refine rw_done ?_
          refine gn_bl ?_
          refine gn_sq ?_
          refine HW_text (.pure 0 (.pure 1 .done)) (by kernel_rfl) ?_
          refine rw_p rfl rfl (y_add rfl rfl (i64w (by omega) (by omega))) ?_
          refine rw_p rfl rfl (y_move rfl) ?_
          refine rw_done ?_
          refine next (x.1 + 1, b_y, x.2.2.set x.1 (z + 1)) (by simp only; omega) ⟨(hm.pick [0, 1, 2, 3, 4] rfl), ha_y, by simp [hxl], by simp only; omega⟩ ⟨nx x.1, rfl, rfl, rfl, rfl, rfl, rfl, rfl, rfl, trivial⟩
        ·
          simp only [decide_eq_false_iff_not] at hc3
          refine HW_exit rfl ?_
          refine gx_sq (gx_lp ?_)
          refine gx_here ?_
          refine gn_sq ?_
          refine HW_seq rfl ?_
          refine HW_draw (.pure 0 (.pure 1 (.pure 2 (.pure 3 (.pure 4 (.pure 6 (.act 5 (.act 7 (.pure 8 (.pure 9 (.pure 10 (.pure 11 (.pure 14 (.pure 15 (.pure 16 (.act 12 (.act 13 (.act 17 (.pure 18 (.pure 19 .done)))))))))))))))))))) (fun j => j = r ∨ j = s) mix (by kernel_rfl) hm fun w hw hm0 hh => ?_
          have hm := hm0
          refine rw_p rfl rfl (y_move rfl) ?_
          refine rw_p rfl rfl (y_move rfl) ?_
          refine rw_p rfl rfl (y_move rfl) ?_
          refine rw_p rfl rfl (y_move rfl) ?_
          refine rw_p rfl rfl (y_len rfl rfl sl22) ?_
          refine rw_p rfl rfl (y_move rfl) ?_
          refine a_call rfl rfl rfl go19 (w_bytes s _ p_sb cap_sb bs ⟨0, 0, 0⟩ bs.length _ (hm.get (k := 1) rfl) (ha_sb.rd hm 2 rfl) (ha_sb.apart hm 2 1 rfl rfl rfl) ha_sb.le ha_sb.spot (Nat.zero_le _) (by omega) (by omega)) fun v w hR => ?_
          obtain ⟨p_u, n_u, cap_u, g_u, b_u, rfl, ha_u, hmc⟩ := hR
          refine ⟨hh.turn hmc.to fun _ h =>  (.inr h), ?_⟩
          replace hh := hh.turn hmc.to fun _ h =>  (.inr h)
          replace hm := hm.callJ 1 rfl hmc
          obtain rfl := ha_u.lenB
          have hrs : Pl.rbytes bs ⟨0, 0, 0⟩ bs.length = (⟨bs.length, 0, 0⟩, bs) := by have := Pl.rbytes_at (bs := bs) (s := 0) (k := bs.length) (by omega); simpa using this
          generalize hX2 : Pl.rbytes bs ⟨0, 0, 0⟩ bs.length = X2 at *
          obtain rfl := hrs
          refine a_call rfl rfl rfl go10 (C.as (v := .bool true) (eq_b p_u p cap_u cap bs bs _ (ha_u.rd hm 0 rfl) (hbr.ext0 hm.to) (by omega) (by omega)) (congrArg Value.bool (by simp))) fun v w hR => ?_
          obtain ⟨rfl, hE⟩ := hR
          refine ⟨hh.ext hE, ?_⟩
          replace hm := hm.ext hE
          replace hh := hh.ext hE
          refine rw_p rfl rfl (y_pickT rfl rfl) ?_
          refine rw_p rfl rfl (y_move rfl) ?_
          refine rw_p rfl rfl (y_move rfl) ?_
          refine rw_p rfl rfl (y_move rfl) ?_
          refine rw_p rfl rfl (y_move rfl) ?_
          refine rw_p rfl rfl (y_move rfl) ?_
          refine rw_p rfl rfl (y_slice (ln := kk) (hn := bs.length) rfl sl22 ⟨_, rfl⟩ rfl hkl hb1 (fun h => hbs (by omega))) ?_
          refine a_call rfl rfl rfl go13 (w_rest r _ p_rb bs.length cap_rb ⟨kk, 0, 0⟩ _ (hm.get (k := 4) rfl) hkl (by omega)) fun v w hR => ?_
          obtain ⟨rfl, hE⟩ := hR
          refine ⟨hh.ext hE, ?_⟩
          replace hm := hm.ext hE
          replace hh := hh.ext hE
          refine a_call rfl rfl rfl go19 (w_bytes r _ p_rb cap_rb bs ⟨kk, 0, 0⟩ ((bs.length : Int) - kk) _ (hm.get (k := 4) rfl) (ha_rb.rd hm 5 rfl) (ha_rb.apart hm 5 4 rfl rfl rfl) ha_rb.le ha_rb.spot hkl (by omega) (by omega)) fun v w hR => ?_
          obtain ⟨p_t, n_t, cap_t, g_t, b_t, rfl, ha_t, hmc⟩ := hR
          refine ⟨hh.turn hmc.to fun _ h =>  (.inl h), ?_⟩
          replace hh := hh.turn hmc.to fun _ h =>  (.inl h)
          replace hm := hm.callJ 4 rfl hmc
          obtain rfl := ha_t.lenB
          have hrt : Pl.rbytes bs ⟨kk, 0, 0⟩ ((bs.length : Int) - kk) = (⟨bs.length, 0, 0⟩, bs.drop kk) := by
            have e : (bs.length : Int) - kk = ((bs.length - kk : Nat) : Int) := by omega
            rw [e, Pl.rbytes_at (bs := bs) (s := kk) (k := bs.length - kk) (by omega), Nat.add_sub_cancel' hkl, List.take_of_length_le (by rw [List.length_drop]; omega)]
          generalize hX3 : Pl.rbytes bs ⟨kk, 0, 0⟩ ((bs.length : Int) - kk) = X3 at *
          obtain rfl := hrt
          refine a_call rfl rfl rfl go10 (C.as (v := .bool true) (C.eqv (eq_b p_t (slp p cap kk 1) cap_t (cap - kk) (bs.drop kk) (bs.drop kk) _ (ha_t.rd hm 0 rfl) (by have := (hbr.ext0 hm.to).sub (l := kk) (m := bs.length) hb1; rwa [List.take_of_length_le (by rw [List.length_drop]; omega)] at this) (by rw [List.length_drop]; omega) (by rw [List.length_drop]; omega)) (by rw [List.length_drop])) (congrArg Value.bool (by simp))) fun v w hR => ?_
          obtain ⟨rfl, hE⟩ := hR
          refine ⟨hh.ext hE, ?_⟩
          replace hm := hm.ext hE
          replace hh := hh.ext hE
          refine rw_p rfl rfl (y_pickT rfl rfl) ?_
          refine rw_p rfl rfl (y_assign rfl) ?_
          refine rw_done ?_
          refine gn_sq ?_
          refine HW_seq rfl ?_
          refine HW_text (.pure 0 .done) (by kernel_rfl) ?_
          refine rw_p rfl rfl (y_assign rfl) ?_
          refine rw_done ?_
          refine gn_sq ?_
          refine HW_seq rfl ?_
          refine HW_text (.pure 0 (.act 1 .done)) (by kernel_rfl) ?_
          refine rw_p rfl rfl (y_move rfl) ?_
          refine a_call rfl rfl rfl go17 (w_Fail0 _ _ _) fun v w hR => ?_
          obtain ⟨rfl, hE⟩ := hR
          refine ⟨trivial, ?_⟩
          replace hm := hm.ext hE
          refine rw_done ?_
          refine gn_sq ?_
          refine HW_seq rfl ?_
          refine HW_text (.act 0 (.pure 1 (.pure 2 (.pure 3 (.pure 4 (.pure 5 (.act 6 (.pure 7 (.pure 8 (.pure 9 (.pure 10 (.act 11 (.pure 12 (.pure 13 (.pure 14 (.pure 15 (.act 16 (.pure 17 (.pure 18 (.pure 19 (.pure 20 (.pure 21 (.act 22 (.pure 23 (.pure 24 (.pure 25 (.pure 26 (.act 27 (.pure 28 (.pure 29 (.pure 30 (.pure 31 (.act 32 (.pure 33 (.pure 34 (.pure 35 (.pure 36 (.act 37 (.pure 38 (.pure 39 (.pure 40 (.pure 41 .done)))))))))))))))))))))))))))))))))))))))))) (by kernel_rfl) ?_
          refine a_call rfl rfl rfl go7 (law_alive _) fun v w hR => ?_
          obtain ⟨rfl, hE⟩ := hR
          refine ⟨trivial, ?_⟩
          replace hm := hm.ext hE
          refine rw_p rfl rfl (y_move rfl) ?_
          refine rw_p rfl rfl (y_move rfl) ?_
          refine rw_p rfl rfl (y_pickT rfl rfl) ?_
          refine rw_p rfl rfl (y_move rfl) ?_
          refine rw_p rfl rfl (y_move rfl) ?_
          refine a_call rfl rfl rfl go12 (w_uint0 _ _) fun v w hR => ?_
          obtain ⟨rfl, hE⟩ := hR
          refine ⟨trivial, ?_⟩
          replace hm := hm.ext hE
          refine rw_p rfl rfl (y_as (c := true) (y_eq rfl rfl) (by decide)) ?_
          refine rw_p rfl rfl (y_pickT rfl rfl) ?_
          refine rw_p rfl rfl (y_move rfl) ?_
          refine rw_p rfl rfl (y_move rfl) ?_
          refine a_call rfl rfl rfl go18 (w_length0 _) fun v w hR => ?_
          obtain ⟨rfl, hE⟩ := hR
          refine ⟨trivial, ?_⟩
          replace hm := hm.ext hE
          refine rw_p rfl rfl (y_as (c := true) (y_eq rfl rfl) (by decide)) ?_
          refine rw_p rfl rfl (y_pickT rfl rfl) ?_
          refine rw_p rfl rfl (y_move rfl) ?_
          refine rw_p rfl rfl (y_move rfl) ?_
          refine a_call rfl rfl rfl go19 (w_bytes0 _ _) fun v w hR => ?_
          obtain ⟨rfl, hE⟩ := hR
          refine ⟨trivial, ?_⟩
          replace hm := hm.ext hE
          refine rw_p rfl rfl (y_len rfl rfl sl22) ?_
          refine rw_p rfl rfl (y_as (c := true) (y_eq rfl rfl) (by decide)) ?_
          refine rw_p rfl rfl (y_pickT rfl rfl) ?_
          refine rw_p rfl rfl (y_move rfl) ?_
          refine rw_p rfl rfl (y_move rfl) ?_
          refine a_call rfl rfl rfl go20 (w_expect0 _ _ _) fun v w hR => ?_
          obtain ⟨rfl, hE⟩ := hR
          refine ⟨trivial, ?_⟩
          replace hm := hm.ext hE
          refine rw_p rfl rfl (y_not rfl) ?_
          refine rw_p rfl rfl (y_pickT rfl rfl) ?_
          refine rw_p rfl rfl (y_move rfl) ?_
          refine rw_p rfl rfl (y_move rfl) ?_
          refine a_call rfl rfl rfl go14 (w_at0 _) fun v w hR => ?_
          obtain ⟨rfl, hE⟩ := hR
          refine ⟨trivial, ?_⟩
          replace hm := hm.ext hE
          refine rw_p rfl rfl (y_as (c := true) (y_eq rfl rfl) (by decide)) ?_
          refine rw_p rfl rfl (y_pickT rfl rfl) ?_
          refine rw_p rfl rfl (y_move rfl) ?_
          refine rw_p rfl rfl (y_move rfl) ?_
          refine a_call rfl rfl rfl go13 (w_rest0 _) fun v w hR => ?_
          obtain ⟨rfl, hE⟩ := hR
          refine ⟨trivial, ?_⟩
          replace hm := hm.ext hE
          refine rw_p rfl rfl (y_as (c := true) (y_eq rfl rfl) (by decide)) ?_
          refine rw_p rfl rfl (y_pickT rfl rfl) ?_
          refine rw_p rfl rfl (y_move rfl) ?_
          refine rw_p rfl rfl (y_move rfl) ?_
          refine a_call rfl rfl rfl go15 (w_fault0 _) fun v w hR => ?_
          obtain ⟨rfl, hE⟩ := hR
          refine ⟨trivial, ?_⟩
          replace hm := hm.ext hE
          refine rw_p rfl rfl (y_build (cs := [_, _]) z41 ft41 rfl rfl rfl rfl rfl) ?_
          refine rw_p rfl rfl (y_as (c := true) (y_eq2 rfl rfl iii41) (by decide)) ?_
          refine rw_p rfl rfl (y_pickT rfl rfl) ?_
          refine rw_p rfl rfl (y_assign rfl) ?_
          refine rw_done ?_
          refine gn_sq ?_
          refine HW_ret rfl ?_
          refine toR (fin hret rfl (.tmp rfl .nil) .one ?_)
          exact ⟨rfl, hm.to⟩

end Go.Proofs.Ytoemhcpmdeinfaa
