/- Contracts of functions of the program: what each returns. Conditions: the hypotheses of each theorem. -/
import Derived.Test.YtlgkhajmjgepaaaChkR
set_option linter.unusedVariables false
set_option linter.unusedSimpArgs false
namespace Go.Proofs.Ytlgkhajmjgepaaa
open Go Go.Cx

theorem go39 : isGo Try.prog 39 = true := by kernel_rfl
theorem is74 : (Try.prog.underlying 74).isSome = true := by kernel_rfl
theorem z23 : zer Try.prog 23 = some [.slice none 0 0] := by kernel_rfl

set_option maxHeartbeats 400000 in
theorem k_seal (p : Option Addr) (cap : Nat) (bs : List UInt8) (w0 : World) (hx : Rd w0 p (bs.flatMap encB)) (hle : bs.length ≤ cap) (hsp : cap ≠ 0 → ∀ ad, p = some ad → ad.spot = none) (hl : bs.length ≤ 70368744177664) : C Try.prog 23 [.slice p bs.length cap] w0 fun v w' => ∃ q c g b, v = .slice q (bs ++ Pl.leS (Pl.crc bs)).length c ∧ Acc 5 1 q (bs ++ Pl.leS (Pl.crc bs)).length c ((bs ++ Pl.leS (Pl.crc bs)).flatMap encB) g b ∧ Mem w0 w' No [(g, b)] := by
  refine C_of Try.func23 rfl rfl rfl fun κ hret hnorm => ?_
  have hm := Mem.start w0
  refine HW_seq rfl ?_
  refine HW_text (.pure 0 .done) (by kernel_rfl) ?_
  refine rw_p rfl rfl (y_assign rfl) ?_
  refine rw_done ?_
  refine gn_sq ?_
  refine HW_seq rfl ?_
  refine HW_text (.pure 0 (.act 1 (.act 2 (.pure 3 .done)))) (by kernel_rfl) ?_
  refine rw_p rfl rfl (y_move rfl) ?_
  refine a_buildSlice (l := [_]) rfl rfl sl88 z23 rfl rfl rfl rfl rfl rfl rfl hm trivial fun m1 w hg_m1 hm hh => ?_
  refine a_call rfl rfl rfl go39 (C.as (v := .int .u32 ((Pl.crc bs).toNat : Int)) (k_of _ 1 [⟨p, cap, bs⟩] _ (Rd.row0 (hm.get (k := 0) rfl)) (by simp only [List.mem_singleton]; rintro _ rfl; exact hx.ext0 hm.to) (by simp) (by simp only [List.mem_singleton]; rintro _ rfl; simp only; omega)) (by simp only [List.flatMap_cons, List.flatMap_nil, List.append_nil])) fun v w hR => ?_
  obtain ⟨rfl, hE⟩ := hR
  refine ⟨trivial, ?_⟩
  replace hm := hm.ext hE
  refine rw_p rfl rfl (y_assign rfl) ?_
  refine rw_done ?_
  refine gn_sq ?_
  refine HW_seq rfl ?_
  refine HW_text (.pure 0 (.pure 1 (.pure 2 (.pure 3 (.pure 4 (.pure 5 (.pure 6 (.pure 7 (.pure 8 (.pure 9 (.pure 10 (.pure 11 (.pure 12 (.pure 13 (.pure 14 (.pure 15 (.pure 16 (.act 17 (.act 18 (.pure 19 .done)))))))))))))))))))) (by kernel_rfl) ?_
  refine rw_p rfl rfl (y_move rfl) ?_
  refine rw_p rfl rfl (y_move rfl) ?_
  refine rw_p rfl rfl (y_len rfl rfl sl23) ?_
  refine rw_p rfl rfl (y_move rfl) ?_
  refine rw_p rfl rfl (y_len rfl rfl sl23) ?_
  refine rw_p rfl rfl (y_slice3 rfl sl23 rfl rfl (Nat.le_refl _) hle) ?_
  refine rw_p rfl rfl (y_move rfl) ?_
  refine rw_p rfl rfl (y_conv rfl is74 it5 w_u8) ?_
  refine rw_p rfl rfl (y_move rfl) ?_
  refine rw_p rfl rfl (y_shr rfl rfl (by decide) (w_shr 8 rfl (by decide))) ?_
  refine rw_p rfl rfl (y_conv rfl is74 it5 w_u8) ?_
  refine rw_p rfl rfl (y_move rfl) ?_
  refine rw_p rfl rfl (y_shr rfl rfl (by decide) (w_shr 16 rfl (by decide))) ?_
  refine rw_p rfl rfl (y_conv rfl is74 it5 w_u8) ?_
  refine rw_p rfl rfl (y_move rfl) ?_
  refine rw_p rfl rfl (y_shr rfl rfl (by decide) (w_shr 24 rfl (by decide))) ?_
  refine rw_p rfl rfl (y_conv rfl is74 it5 w_u8) ?_
  refine a_buildSlice (l := [_, _, _, _]) rfl rfl sl23 z5 rfl rfl rfl rfl rfl rfl rfl hm trivial fun m2 w hg_m2 hm hh => ?_
  refine a_appendF rfl rfl rfl rfl rfl rfl sl23 sl23 z5 rfl (Rd.row0 (hm.get (k := 0) rfl)) rfl (hx.ext0 hm.to) (lenB bs) (by omega) hm (by omega) (by omega) fun cap_s g_s b_s w ha_s hm => ?_
  refine rw_p rfl rfl (y_assign rfl) ?_
  refine rw_done ?_
  refine gn_sq ?_
  refine HW_ret rfl ?_
  refine toR (fin hret rfl (.tmp rfl .nil) .one ?_)
  exact ⟨_, cap_s, g_s, b_s, by rw [List.length_append]; rfl, by rw [List.length_append]; exact ha_s.to (by simp only [List.flatMap_append]; rfl), (hm.pick [0] rfl)⟩

set_option maxHeartbeats 800000 in
theorem k_open (p : Option Addr) (cap : Nat) (bs : List UInt8) (w0 : World) (hx : Rd w0 p (bs.flatMap encB)) (hle : bs.length ≤ cap) (hsp : cap ≠ 0 → ∀ ad, p = some ad → ad.spot = none) (hl : bs.length ≤ 70368744177664) : C Try.prog 29 [.slice p bs.length cap] w0 fun v w' => ∃ q c g b, v = .tuple ⟨[.slice q (if (decide (4 ≤ bs.length) && decide ((bs.drop (bs.length - 4)) = Pl.leS (Pl.crc (bs.take (bs.length - 4))))) = true then (bs.take (bs.length - 4)) else []).length c, .bool (decide (4 ≤ bs.length) && decide ((bs.drop (bs.length - 4)) = Pl.leS (Pl.crc (bs.take (bs.length - 4)))))]⟩ ∧ Acc 5 1 q (if (decide (4 ≤ bs.length) && decide ((bs.drop (bs.length - 4)) = Pl.leS (Pl.crc (bs.take (bs.length - 4))))) = true then (bs.take (bs.length - 4)) else []).length c ((if (decide (4 ≤ bs.length) && decide ((bs.drop (bs.length - 4)) = Pl.leS (Pl.crc (bs.take (bs.length - 4))))) = true then (bs.take (bs.length - 4)) else []).flatMap encB) g b ∧ Mem w0 w' No [(g, b)] := by
  refine C_of Try.func29 rfl rfl rfl fun κ hret hnorm => ?_
  have hm := Mem.start w0
  refine HW_seq rfl ?_
  refine HW_text (.pure 0 (.pure 1 .done)) (by kernel_rfl) ?_
  refine rw_p rfl rfl (y_assign rfl) ?_
  refine rw_p rfl rfl (y_assign rfl) ?_
  refine rw_done ?_
  refine gn_sq ?_
  refine HW_seq rfl ?_
  refine HW_text (.pure 0 (.pure 1 (.pure 2 (.pure 3 .done)))) (by kernel_rfl) ?_
  refine rw_p rfl rfl (y_move rfl) ?_
  refine rw_p rfl rfl (y_len rfl rfl sl23) ?_
  refine rw_p rfl rfl (y_sub rfl rfl (i64w (by omega) (by omega))) ?_
  refine rw_p rfl rfl (y_assign rfl) ?_
  refine rw_done ?_
  refine gn_sq ?_
  refine HW_seq rfl ?_
  refine HW_seq rfl ?_
  refine HW_text (.pure 0 (.pure 1 .done)) (by kernel_rfl) ?_
  refine rw_p rfl rfl (y_move rfl) ?_
  refine rw_p rfl rfl (y_lt rfl rfl) ?_
  refine rw_done ?_
  refine gn_sq ?_
  refine HW_cond rfl rfl (fun hc0 => ?_) (fun hc0 => ?_)
  ·
    simp only [decide_eq_true_eq] at hc0
    have hop : (decide (4 ≤ bs.length) && decide ((bs.drop (bs.length - 4)) = Pl.leS (Pl.crc (bs.take (bs.length - 4))))) = false := by rw [decide_eq_false (by omega)]; rfl
    refine HW_seq rfl ?_
    refine HW_text (.pure 0 (.pure 1 .done)) (by kernel_rfl) ?_
    refine rw_p rfl rfl (y_assign rfl) ?_
    refine rw_p rfl rfl (y_assign rfl) ?_
    refine rw_done ?_
    refine gn_sq ?_
    refine HW_ret rfl ?_
    refine gr_sq ?_
    refine toR (fin hret rfl (.tmp rfl (.tmp rfl .nil)) .more ?_)
    exact ⟨none, 0, 0, .gap, by rw [hop]; rfl, by rw [hop]; exact .nil _ _ _ _, (hm.drop (List.nil_sublist _)).gapIn⟩
  ·
    simp only [decide_eq_false_iff_not] at hc0
    have htl : (bs.take (bs.length - 4)).length = bs.length - 4 := by rw [List.length_take]; omega
    have hdl : (bs.drop (bs.length - 4)).length = 4 := by rw [List.length_drop]; omega
    refine HW_skip rfl ?_
    refine gn_sq ?_
    refine HW_seq rfl ?_
    refine HW_text (.pure 0 (.pure 1 (.pure 2 (.act 3 (.act 4 (.pure 5 .done)))))) (by kernel_rfl) ?_
    refine rw_p rfl rfl (y_move rfl) ?_
    refine rw_p rfl rfl (y_move rfl) ?_
    refine rw_p rfl rfl (y_v (y_slice (ln := 0) (hn := (bs.length - 4)) rfl sl23 rfl ⟨_, congrArg (fun x => some (Value.int .i64 x)) (by omega)⟩ (by omega) (by omega) (fun h => hsp (by omega))) (show _ = Value.slice (slp p cap 0 1) (bs.take (bs.length - 4)).length cap by rw [htl, Nat.sub_zero, Nat.sub_zero])) ?_
    refine a_buildSlice (l := [_]) rfl rfl sl88 z23 rfl rfl rfl rfl rfl rfl rfl hm trivial fun m1 w hg_m1 hm hh => ?_
    refine a_call rfl rfl rfl go39 (C.as (v := .int .u32 ((Pl.crc (bs.take (bs.length - 4))).toNat : Int)) (k_of _ 1 [⟨(slp p cap 0 1), cap, (bs.take (bs.length - 4))⟩] _ (Rd.row0 (hm.get (k := 0) rfl)) (by simp only [List.mem_singleton]; rintro _ rfl; exact (hx.ext0 hm.to).takeS hle) (by simp) (by simp only [List.mem_singleton]; rintro _ rfl; simp only; omega)) (by simp only [List.flatMap_cons, List.flatMap_nil, List.append_nil])) fun v w hR => ?_
    obtain ⟨rfl, hE⟩ := hR
    refine ⟨trivial, ?_⟩
    replace hm := hm.ext hE
    refine rw_p rfl rfl (y_assign rfl) ?_
    refine rw_done ?_
    refine gn_sq ?_
    refine HW_seq rfl ?_
    refine HW_seq rfl ?_
    refine HW_text (.pure 0 (.pure 1 (.pure 2 (.pure 3 (.pure 4 .done))))) (by kernel_rfl) ?_
    refine rw_p rfl rfl (y_move rfl) ?_
    refine rw_p rfl rfl (y_move rfl) ?_
    refine rw_p rfl rfl (y_v (y_slice (ln := (bs.length - 4)) (hn := bs.length) rfl sl23 ⟨_, congrArg (fun x => some (Value.int .i64 x)) (by omega)⟩ rfl (by omega) hle (fun h => hsp (by omega))) (show _ = Value.slice (slp p cap (bs.length - 4) 1) (bs.drop (bs.length - 4)).length (cap - (bs.length - 4)) by rw [hdl]; congr 1; omega)) ?_
    refine rw_p rfl rfl (y_len rfl rfl sl23) ?_
    refine rw_p rfl rfl (y_move rfl) ?_
    refine rw_done ?_
    refine gn_sq ?_
    refine HW_block rfl ?_
    refine HW_loopK (ι := Nat) rfl (ks := [0, 4, 5, 20, 21]) (.cons rfl (.cons rfl (.cons rfl (.cons rfl (.cons rfl .nil))))) (fun x => [(22, .int .i64 x)]) (fun x w => Mem w0 w No [] ∧ x ≤ 4 ∧ ∀ j, j < x → (bs.drop (bs.length - 4))[j]? = (Pl.leS (Pl.crc (bs.take (bs.length - 4))))[j]?) (fun x => 4 - x) 0 (⟨(hm.pick [] rfl), Nat.zero_le _, fun _ h => absurd h (Nat.not_lt_zero _)⟩) ⟨rfl, trivial⟩ (fun x w hM => ?_)
    obtain ⟨hm, hk, hno⟩ := hM
    refine HW_seq rfl ?_
    refine HW_text (.pure 0 .done) (by kernel_rfl) ?_
    refine rw_p rfl rfl (y_lt rfl rfl) ?_
    refine rw_done ?_
    refine gn_sq ?_
    refine HW_seq rfl ?_
    refine HW_cond rfl rfl (fun hc1 => ?_) (fun hc1 => ?_)
    ·
      simp only [decide_eq_true_eq] at hc1
      obtain ⟨c, hi⟩ : ∃ y_, (bs.drop (bs.length - 4))[x]? = some y_ := ⟨_, List.getElem?_eq_getElem (by omega)⟩
      obtain ⟨b2, o2, hp2⟩ := (hx.dropB hle).atI encB_len (by decide) hi
      refine HW_skip rfl ?_
      refine gn_sq ?_
      refine HW_seq rfl ?_
      refine HW_block rfl ?_
      refine HW_seq rfl ?_
      refine HW_text (.pure 0 (.pure 1 (.pure 2 (.pure 3 (.pure 4 .done))))) (by kernel_rfl) ?_
      refine rw_p rfl rfl (y_move rfl) ?_
      refine rw_p rfl rfl (y_index rfl rfl sl23 hp2 (by omega) (by omega)) ?_
      refine rw_p rfl rfl (y_el1 rfl sc5 (hp2 ▸ (hx.ext0 hm.to).dropB hle).nt encB_len hi rfl) ?_
      refine rw_p rfl rfl (y_assign rfl) ?_
      refine rw_p rfl rfl (y_assign rfl) ?_
      refine rw_done ?_
      refine gn_sq ?_
      refine HW_seq rfl ?_
      refine HW_text (.pure 0 (.pure 1 (.pure 2 (.pure 3 (.pure 4 (.pure 5 (.pure 6 .done))))))) (by kernel_rfl) ?_
      refine rw_p rfl rfl (y_move rfl) ?_
      refine rw_p rfl rfl (y_move rfl) ?_
      refine rw_p rfl rfl (y_move rfl) ?_
      refine rw_p rfl rfl (y_mul rfl rfl (i64w (by omega) (by omega))) ?_
      refine rw_p rfl rfl (y_shr rfl rfl (by omega) (w_shr (UInt32.ofNat (8 * x)) (by rw [UInt32.toNat_ofNat']; omega) (by rw [UInt32.toNat_ofNat']; omega))) ?_
      refine rw_p rfl rfl (y_conv rfl is74 it5 w_u8) ?_
      refine rw_p rfl rfl (y_ne rfl rfl) ?_
      refine rw_done ?_
      refine gn_sq ?_
      refine HW_cond rfl rfl (fun hc2 => ?_) (fun hc2 => ?_)
      ·
        simp only [decide_eq_true_eq] at hc2
        have hop : (decide (4 ≤ bs.length) && decide ((bs.drop (bs.length - 4)) = Pl.leS (Pl.crc (bs.take (bs.length - 4))))) = false := by simp only [Bool.and_eq_false_iff, decide_eq_false_iff_not]; exact .inr fun e => hc2 (by have h9 := congrArg (fun l => l[x]?) e; simp only [hi, leS_get (show x < 4 by omega)] at h9; rw [Option.some.inj h9])
        refine HW_seq rfl ?_
        refine HW_text (.pure 0 (.pure 1 .done)) (by kernel_rfl) ?_
        refine rw_p rfl rfl (y_assign rfl) ?_
        refine rw_p rfl rfl (y_assign rfl) ?_
        refine rw_done ?_
        refine gn_sq ?_
        refine HW_ret rfl ?_
        refine gr_bl (gr_sq (gr_lp (gr_bl (gr_sq ?_))))
        refine toR (fin hret rfl (.tmp rfl (.tmp rfl .nil)) .more ?_)
        exact ⟨none, 0, 0, .gap, by rw [hop]; rfl, by rw [hop]; exact .nil _ _ _ _, (hm.drop (List.nil_sublist _)).gapIn⟩
      ·
        simp only [decide_eq_false_iff_not, Decidable.not_not] at hc2
        have hcc : c = (Pl.crc (bs.take (bs.length - 4)) >>> UInt32.ofNat (8 * x)).toUInt8 := UInt8.toNat_inj.1 (by omega)
        refine HW_skip rfl ?_
        refine gn_bl ?_
        refine gn_sq ?_
        refine HW_text (.pure 0 (.pure 1 .done)) (by kernel_rfl) ?_
        refine rw_p rfl rfl (y_add rfl rfl (i64w (by omega) (by omega))) ?_
        refine rw_p rfl rfl (y_move rfl) ?_
        refine rw_done ?_
        refine next (x + 1) (by omega) ⟨hm, by omega, fun j hj => ?_⟩ ⟨nx x, rfl, rfl, rfl, rfl, rfl, trivial⟩
        rcases Nat.lt_or_ge j x with h | h
        · exact hno j h
        · obtain rfl : j = x := by omega
          rw [hi, leS_get (by omega)]; exact congrArg some hcc
    ·
      simp only [decide_eq_false_iff_not] at hc1
      obtain rfl : x = 4 := by omega
      have hop : (decide (4 ≤ bs.length) && decide ((bs.drop (bs.length - 4)) = Pl.leS (Pl.crc (bs.take (bs.length - 4))))) = true := by rw [decide_eq_true (by omega), decide_eq_true (Pl.eq_of (by rw [hdl]; rfl) (by rw [hdl]; exact hno))]; rfl
      refine HW_exit rfl ?_
      refine gx_sq (gx_lp ?_)
      refine gx_here ?_
      refine gn_sq ?_
      refine HW_seq rfl ?_
      refine HW_text (.pure 0 (.pure 1 (.pure 2 (.act 3 (.pure 4 (.pure 5 .done)))))) (by kernel_rfl) ?_
      refine rw_p rfl rfl (y_move rfl) ?_
      refine rw_p rfl rfl (y_move rfl) ?_
      refine rw_p rfl rfl (y_v (y_slice (ln := 0) (hn := (bs.length - 4)) rfl sl23 rfl ⟨_, congrArg (fun x => some (Value.int .i64 x)) (by omega)⟩ (by omega) (by omega) (fun h => hsp (by omega))) (show _ = Value.slice (slp p cap 0 1) (bs.take (bs.length - 4)).length cap by rw [htl, Nat.sub_zero, Nat.sub_zero])) ?_
      replace hm := hm.gapIn
      refine a_append rfl rfl rfl rfl rfl rfl sl23 sl23 z5 rfl (oneB _) ((hx.ext0 hm.to).takeS hle) (lenB _) (Acc.nil 5 1 none 0) hm 0 rfl (by omega) (by omega) fun p_s cap_s g_s b_s w ha_s hm => ?_
      refine rw_p rfl rfl (y_assign rfl) ?_
      refine rw_p rfl rfl (y_assign rfl) ?_
      refine rw_done ?_
      refine gn_sq ?_
      refine HW_ret rfl ?_
      refine toR (fin hret rfl (.tmp rfl (.tmp rfl .nil)) .more ?_)
      exact ⟨p_s, cap_s, g_s, b_s, by rw [hop, if_pos rfl, Nat.zero_add], by rw [hop, if_pos rfl]; simpa only [Nat.zero_add, List.nil_append] using ha_s, (hm.pick [0] rfl)⟩

end Go.Proofs.Ytlgkhajmjgepaaa
