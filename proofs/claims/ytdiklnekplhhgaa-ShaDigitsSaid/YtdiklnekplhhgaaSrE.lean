/- Contracts of functions of the program: what each returns. Conditions: the hypotheses of each theorem. -/
import Derived.Test.YtdiklnekplhhgaaSrD
set_option linter.unusedVariables false
set_option linter.unusedSimpArgs false
namespace Go.Proofs.Ytdiklnekplhhgaa
open Go Go.Cx

theorem fo46_0 : fldO Try.prog 46 0 = some 0 := by kernel_rfl
theorem fo46_1 : fldO Try.prog 46 1 = some 1 := by kernel_rfl
theorem go30 : isGo Try.prog 30 = true := by kernel_rfl
theorem go31 : isGo Try.prog 31 = true := by kernel_rfl
theorem go32 : isGo Try.prog 32 = true := by kernel_rfl
theorem sc44 : scal Try.prog 44 = true := by kernel_rfl
theorem go22 : isGo Try.prog 22 = true := by kernel_rfl
theorem go23 : isGo Try.prog 23 = true := by kernel_rfl

set_option maxHeartbeats 3200000 in
theorem r2_block (p q u : Option Addr) (c1 c2 c3 : Nat) (s : Pl.S8) (ws : List UInt32) (w0 : World) (hx : Rd w0 p (s.l.flatMap encW)) (hy : Rd w0 q (ws.flatMap encW)) (hz : Rd w0 u (Pl.shK.flatMap encW)) (hwl : ws.length = 64) : C Try.prog 31 [.slice p 8 c1, .slice q 64 c2, .slice u 64 c3] w0 fun v w' => ∃ q c g d, v = .slice q 8 c ∧ Acc 48 1 q 8 c ((s.add (Pl.rnds Pl.shK ws s 64)).l.flatMap encW) g d ∧ Mem w0 w' No [(g, d)] := by
  obtain ⟨b1, o1, hps⟩ := hx.atI encW_len (by decide) (show s.l[0]? = some s.a from rfl)
  obtain ⟨w1_, hw1_⟩ : ∃ y_, ws[0]? = some y_ := ⟨_, List.getElem?_eq_getElem (by omega)⟩
  obtain ⟨b2, o2, hpw⟩ := hy.atI encW_len (by decide) hw1_
  obtain ⟨b3, o3, hpk⟩ := hz.atI encW_len (by decide) (show Pl.shK[0]? = some _ from rfl)
  refine C_of Try.func31 rfl rfl rfl fun κ hret hnorm => ?_
  have hm := Mem.start w0
  refine HW_seq rfl ?_
  refine HW_text (.pure 0 .done) (by kernel_rfl) ?_
  refine rw_p rfl rfl (y_assign rfl) ?_
  refine rw_done ?_
  refine gn_sq ?_
  refine HW_seq rfl ?_
  refine HW_text (.act 0 (.pure 1 (.act 2 (.pure 3 .done)))) (by kernel_rfl) ?_
  refine a_buildSlice (l := []) rfl rfl sl44 z48 rfl rfl rfl rfl rfl rfl rfl hm trivial fun m1 w hg_m1 hm hh => ?_
  refine rw_p rfl rfl (y_move rfl) ?_
  refine a_append rfl rfl rfl rfl rfl rfl sl44 sl44 z48 rfl (oneW _) (hx.ext0 hm.to) rfl (Acc.row rfl) hm 0 rfl (by omega) (by omega) fun p_v cap_v g_v b_v w ha_v hm => ?_
  replace ha_v := ha_v.to (show _ = (Pl.rnds Pl.shK ws s 0).l.flatMap encW from rfl)
  refine rw_p rfl rfl (y_assign rfl) ?_
  refine rw_done ?_
  refine gn_sq ?_
  refine HW_seq rfl ?_
  refine HW_seq rfl ?_
  refine HW_text (.pure 0 .done) (by kernel_rfl) ?_
  refine rw_p rfl rfl (y_assign rfl) ?_
  refine rw_done ?_
  refine gn_sq ?_
  refine HW_block rfl ?_
  refine HW_loopK (ι := Nat × Option Addr × Nat × Nat × Blk) rfl (ks := [0, 1, 2, 6]) (.cons rfl (.cons rfl (.cons rfl (.cons rfl .nil)))) (fun x => [(8, .int .i64 x.1), (7, .slice x.2.1 8 x.2.2.1)]) (fun x w => Mem w0 w No [(x.2.2.2.1, x.2.2.2.2)] ∧ Acc 48 1 x.2.1 8 x.2.2.1 ((Pl.rnds Pl.shK ws s x.1).l.flatMap encW) x.2.2.2.1 x.2.2.2.2 ∧ x.1 ≤ 64) (fun x => 64 - x.1) (0, p_v, cap_v, g_v, b_v) (⟨(hm.pick [0] rfl), ha_v, Nat.zero_le _⟩) ⟨rfl, rfl, trivial⟩ (fun x w hM => ?_)
  obtain ⟨hm, ha_v, hk⟩ := hM
  refine HW_seq rfl ?_
  refine HW_seq rfl ?_
  refine HW_text (.pure 0 (.pure 1 .done)) (by kernel_rfl) ?_
  refine rw_p rfl rfl (y_move rfl) ?_
  refine rw_p rfl rfl (y_lt rfl rfl) ?_
  refine rw_done ?_
  refine gn_sq ?_
  refine HW_cond rfl rfl (fun hc0 => ?_) (fun hc0 => ?_)
  ·
    obtain ⟨t, p_v, cap_v, g_v, b_v⟩ := x
    simp only at hm ha_v hk hc0 ⊢
    simp only [decide_eq_true_eq] at hc0
    have hki : Pl.shK[t]? = some (Pl.shK.getD t 0) := by rw [List.getD_eq_getElem?_getD, List.getElem?_eq_getElem (by rw [Pl.shK_len]; omega)]; rfl
    have hwi : ws[t]? = some (ws.getD t 0) := by rw [List.getD_eq_getElem?_getD, List.getElem?_eq_getElem (by omega)]; rfl
    refine HW_skip rfl ?_
    refine gn_sq ?_
    refine HW_seq rfl ?_
    refine HW_block rfl ?_
    refine HW_seq rfl ?_
    refine HW_text (.pure 0 (.pure 1 (.pure 2 (.pure 3 .done)))) (by kernel_rfl) ?_
    refine rw_p rfl rfl (y_move rfl) ?_
    refine rw_p rfl rfl (y_index rfl rfl sl44 (ha_v.ptr (by decide)) (by decide) (by decide)) ?_
    refine rw_p rfl rfl (y_el1 rfl sc48 ((ha_v.ptr (by decide)) ▸ ha_v.rd hm 0 rfl).nt encW_len (show (Pl.rnds Pl.shK ws s t).l[_]? = some _ from rfl) rfl) ?_
    refine rw_p rfl rfl (y_assign rfl) ?_
    refine rw_done ?_
    refine gn_sq ?_
    refine HW_seq rfl ?_
    refine HW_text (.pure 0 (.pure 1 (.pure 2 (.pure 3 .done)))) (by kernel_rfl) ?_
    refine rw_p rfl rfl (y_move rfl) ?_
    refine rw_p rfl rfl (y_index rfl rfl sl44 (ha_v.ptr (by decide)) (by decide) (by decide)) ?_
    refine rw_p rfl rfl (y_el1 rfl sc48 ((ha_v.ptr (by decide)) ▸ ha_v.rd hm 0 rfl).nt encW_len (show (Pl.rnds Pl.shK ws s t).l[_]? = some _ from rfl) rfl) ?_
    refine rw_p rfl rfl (y_assign rfl) ?_
    refine rw_done ?_
    refine gn_sq ?_
    refine HW_via (ι := Unit) rfl (ks := [0, 1, 2, 6, 7, 8, 9, 10]) (.cons rfl (.cons rfl (.cons rfl (.cons rfl (.cons rfl (.cons rfl (.cons rfl (.cons rfl .nil)))))))) (fun u9 => [(11, .int .u32 ((Pl.shT1 (Pl.rnds Pl.shK ws s t) (Pl.shK.getD t 0) (ws.getD t 0)).toNat : Int))]) (fun u9 w => Mem w0 w No [(g_v, b_v)]) ?_ (fun u9 w hM => ?_)
    ·
      refine HW_draw (.pure 0 (.pure 1 (.pure 2 (.pure 3 (.pure 5 (.pure 8 (.pure 12 (.pure 13 (.pure 14 (.pure 15 (.pure 16 (.pure 17 (.pure 18 (.pure 19 (.pure 20 (.pure 21 (.pure 22 (.pure 23 (.pure 25 (.pure 26 (.pure 27 (.pure 28 (.pure 30 (.pure 31 (.pure 32 (.pure 33 (.act 4 (.act 6 (.pure 7 (.act 9 (.pure 10 (.pure 11 (.pure 24 (.pure 29 (.pure 34 (.pure 35 .done)))))))))))))))))))))))))))))))))))) No mix (by kernel_rfl) hm fun w hw hm0 hh => ?_
      have hm := hm0
      refine rw_p rfl rfl (y_move rfl) ?_
      refine rw_p rfl rfl (y_index rfl rfl sl44 (ha_v.ptr (by decide)) (by decide) (by decide)) ?_
      refine rw_p rfl rfl (y_el1 rfl sc48 ((ha_v.ptr (by decide)) ▸ ha_v.rd hm0 0 rfl).nd encW_len (show (Pl.rnds Pl.shK ws s t).l[_]? = some _ from rfl) rfl) ?_
      refine rw_p rfl rfl (y_move rfl) ?_
      refine rw_p rfl rfl (y_move rfl) ?_
      refine rw_p rfl rfl (y_move rfl) ?_
      refine rw_p rfl rfl (y_move rfl) ?_
      refine rw_p rfl rfl (y_move rfl) ?_
      refine rw_p rfl rfl (y_index rfl rfl sl44 (ha_v.ptr (by decide)) (by decide) (by decide)) ?_
      refine rw_p rfl rfl (y_el1 rfl sc48 ((ha_v.ptr (by decide)) ▸ ha_v.rd hm0 0 rfl).nd encW_len (show (Pl.rnds Pl.shK ws s t).l[_]? = some _ from rfl) rfl) ?_
      refine rw_p rfl rfl (y_and_ rfl rfl w_and) ?_
      refine rw_p rfl rfl (y_move rfl) ?_
      refine rw_p rfl rfl (y_com rfl rfl w_com) ?_
      refine rw_p rfl rfl (y_move rfl) ?_
      refine rw_p rfl rfl (y_index rfl rfl sl44 (ha_v.ptr (by decide)) (by decide) (by decide)) ?_
      refine rw_p rfl rfl (y_el1 rfl sc48 ((ha_v.ptr (by decide)) ▸ ha_v.rd hm0 0 rfl).nd encW_len (show (Pl.rnds Pl.shK ws s t).l[_]? = some _ from rfl) rfl) ?_
      refine rw_p rfl rfl (y_and_ rfl rfl w_and) ?_
      refine rw_p rfl rfl (y_xor_ rfl rfl w_xor) ?_
      refine rw_p rfl rfl (y_move rfl) ?_
      refine rw_p rfl rfl (y_move rfl) ?_
      refine rw_p rfl rfl (y_index rfl rfl sl44 hpk (by omega) (by omega)) ?_
      refine rw_p rfl rfl (y_el1 rfl sc48 (hpk ▸ hz.ext0 hm0.to).nd encW_len hki rfl) ?_
      refine rw_p rfl rfl (y_move rfl) ?_
      refine rw_p rfl rfl (y_move rfl) ?_
      refine rw_p rfl rfl (y_index rfl rfl sl44 hpw (by omega) (by omega)) ?_
      refine rw_p rfl rfl (y_el1 rfl sc48 (hpw ▸ hy.ext0 hm0.to).nd encW_len hwi rfl) ?_
      refine a_call rfl rfl rfl go36 (r2_rot _ 6 _ (by decide) (by decide)) fun v w hR => ?_
      obtain ⟨rfl, hE⟩ := hR
      refine ⟨hh.ext hE, ?_⟩
      replace hm := hm.ext hE
      replace hh := hh.ext hE
      refine a_call rfl rfl rfl go36 (r2_rot _ 11 _ (by decide) (by decide)) fun v w hR => ?_
      obtain ⟨rfl, hE⟩ := hR
      refine ⟨hh.ext hE, ?_⟩
      replace hm := hm.ext hE
      replace hh := hh.ext hE
      refine rw_p rfl rfl (y_xor_ rfl rfl w_xor) ?_
      refine a_call rfl rfl rfl go36 (r2_rot _ 25 _ (by decide) (by decide)) fun v w hR => ?_
      obtain ⟨rfl, hE⟩ := hR
      refine ⟨hh.ext hE, ?_⟩
      replace hm := hm.ext hE
      replace hh := hh.ext hE
      refine rw_p rfl rfl (y_xor_ rfl rfl w_xor) ?_
      refine rw_p rfl rfl (y_add rfl rfl w_add) ?_
      refine rw_p rfl rfl (y_add rfl rfl w_add) ?_
      refine rw_p rfl rfl (y_add rfl rfl w_add) ?_
      refine rw_p rfl rfl (y_add rfl rfl w_add) ?_
      refine rw_p rfl rfl (y_assign rfl) ?_
      refine rw_done ?_
      exact gn_vi () hm ⟨rfl, rfl, rfl, rfl, rfl, rfl, rfl, rfl, rfl, trivial⟩
    ·
      have hm := hM
      refine HW_via (ι := Unit) rfl (ks := [0, 1, 2, 6, 7, 8, 10, 11]) (.cons rfl (.cons rfl (.cons rfl (.cons rfl (.cons rfl (.cons rfl (.cons rfl (.cons rfl .nil)))))))) (fun u8 => [(12, .int .u32 ((Pl.shT2 (Pl.rnds Pl.shK ws s t)).toNat : Int))]) (fun u8 w => Mem w0 w No [(g_v, b_v)]) ?_ (fun u8 w hM => ?_)
      ·
        refine HW_draw (.pure 0 (.pure 2 (.pure 5 (.pure 8 (.pure 9 (.pure 10 (.pure 11 (.pure 12 (.pure 13 (.pure 14 (.pure 15 (.pure 16 (.pure 17 (.pure 18 (.pure 19 (.pure 20 (.pure 21 (.pure 22 (.pure 23 (.pure 24 (.pure 25 (.pure 26 (.act 1 (.act 3 (.pure 4 (.act 6 (.pure 7 (.pure 27 (.pure 28 .done))))))))))))))))))))))))))))) No mix (by kernel_rfl) hm fun w hw hm0 hh => ?_
        have hm := hm0
        refine rw_p rfl rfl (y_move rfl) ?_
        refine rw_p rfl rfl (y_move rfl) ?_
        refine rw_p rfl rfl (y_move rfl) ?_
        refine rw_p rfl rfl (y_move rfl) ?_
        refine rw_p rfl rfl (y_move rfl) ?_
        refine rw_p rfl rfl (y_index rfl rfl sl44 (ha_v.ptr (by decide)) (by decide) (by decide)) ?_
        refine rw_p rfl rfl (y_el1 rfl sc48 ((ha_v.ptr (by decide)) ▸ ha_v.rd hm0 0 rfl).nd encW_len (show (Pl.rnds Pl.shK ws s t).l[_]? = some _ from rfl) rfl) ?_
        refine rw_p rfl rfl (y_and_ rfl rfl w_and) ?_
        refine rw_p rfl rfl (y_move rfl) ?_
        refine rw_p rfl rfl (y_move rfl) ?_
        refine rw_p rfl rfl (y_index rfl rfl sl44 (ha_v.ptr (by decide)) (by decide) (by decide)) ?_
        refine rw_p rfl rfl (y_el1 rfl sc48 ((ha_v.ptr (by decide)) ▸ ha_v.rd hm0 0 rfl).nd encW_len (show (Pl.rnds Pl.shK ws s t).l[_]? = some _ from rfl) rfl) ?_
        refine rw_p rfl rfl (y_and_ rfl rfl w_and) ?_
        refine rw_p rfl rfl (y_xor_ rfl rfl w_xor) ?_
        refine rw_p rfl rfl (y_move rfl) ?_
        refine rw_p rfl rfl (y_index rfl rfl sl44 (ha_v.ptr (by decide)) (by decide) (by decide)) ?_
        refine rw_p rfl rfl (y_el1 rfl sc48 ((ha_v.ptr (by decide)) ▸ ha_v.rd hm0 0 rfl).nd encW_len (show (Pl.rnds Pl.shK ws s t).l[_]? = some _ from rfl) rfl) ?_
        refine rw_p rfl rfl (y_move rfl) ?_
        refine rw_p rfl rfl (y_index rfl rfl sl44 (ha_v.ptr (by decide)) (by decide) (by decide)) ?_
        refine rw_p rfl rfl (y_el1 rfl sc48 ((ha_v.ptr (by decide)) ▸ ha_v.rd hm0 0 rfl).nd encW_len (show (Pl.rnds Pl.shK ws s t).l[_]? = some _ from rfl) rfl) ?_
        refine rw_p rfl rfl (y_and_ rfl rfl w_and) ?_
        refine rw_p rfl rfl (y_xor_ rfl rfl w_xor) ?_
        refine a_call rfl rfl rfl go36 (r2_rot _ 2 _ (by decide) (by decide)) fun v w hR => ?_
        obtain ⟨rfl, hE⟩ := hR
        refine ⟨hh.ext hE, ?_⟩
        replace hm := hm.ext hE
        replace hh := hh.ext hE
        refine a_call rfl rfl rfl go36 (r2_rot _ 13 _ (by decide) (by decide)) fun v w hR => ?_
        obtain ⟨rfl, hE⟩ := hR
        refine ⟨hh.ext hE, ?_⟩
        replace hm := hm.ext hE
        replace hh := hh.ext hE
        refine rw_p rfl rfl (y_xor_ rfl rfl w_xor) ?_
        refine a_call rfl rfl rfl go36 (r2_rot _ 22 _ (by decide) (by decide)) fun v w hR => ?_
        obtain ⟨rfl, hE⟩ := hR
        refine ⟨hh.ext hE, ?_⟩
        replace hm := hm.ext hE
        replace hh := hh.ext hE
        refine rw_p rfl rfl (y_xor_ rfl rfl w_xor) ?_
        refine rw_p rfl rfl (y_add rfl rfl w_add) ?_
        refine rw_p rfl rfl (y_assign rfl) ?_
        refine rw_done ?_
        exact gn_vi () hm ⟨rfl, rfl, rfl, rfl, rfl, rfl, rfl, rfl, rfl, trivial⟩
      ·
        have hm := hM
        refine HW_draw (.pure 0 (.pure 1 (.pure 2 (.pure 3 (.pure 4 (.pure 5 (.pure 6 (.pure 7 (.pure 8 (.pure 9 (.pure 10 (.pure 11 (.pure 12 (.pure 13 (.pure 14 (.pure 15 (.pure 16 (.pure 17 (.pure 18 (.pure 19 (.pure 20 (.pure 21 (.pure 22 (.pure 23 (.pure 24 (.pure 25 (.cut (.act 26 (.pure 27 .done))))))))))))))))))))))))))))) No mix (by kernel_rfl) hm fun w hw hm0 hh => ?_
        have hm := hm0
        refine rw_p rfl rfl (y_move rfl) ?_
        refine rw_p rfl rfl (y_move rfl) ?_
        refine rw_p rfl rfl (y_add rfl rfl w_add) ?_
        refine rw_p rfl rfl (y_move rfl) ?_
        refine rw_p rfl rfl (y_index rfl rfl sl44 (ha_v.ptr (by decide)) (by decide) (by decide)) ?_
        refine rw_p rfl rfl (y_el1 rfl sc48 ((ha_v.ptr (by decide)) ▸ ha_v.rd hm0 0 rfl).nd encW_len (show (Pl.rnds Pl.shK ws s t).l[_]? = some _ from rfl) rfl) ?_
        refine rw_p rfl rfl (y_move rfl) ?_
        refine rw_p rfl rfl (y_index rfl rfl sl44 (ha_v.ptr (by decide)) (by decide) (by decide)) ?_
        refine rw_p rfl rfl (y_el1 rfl sc48 ((ha_v.ptr (by decide)) ▸ ha_v.rd hm0 0 rfl).nd encW_len (show (Pl.rnds Pl.shK ws s t).l[_]? = some _ from rfl) rfl) ?_
        refine rw_p rfl rfl (y_move rfl) ?_
        refine rw_p rfl rfl (y_index rfl rfl sl44 (ha_v.ptr (by decide)) (by decide) (by decide)) ?_
        refine rw_p rfl rfl (y_el1 rfl sc48 ((ha_v.ptr (by decide)) ▸ ha_v.rd hm0 0 rfl).nd encW_len (show (Pl.rnds Pl.shK ws s t).l[_]? = some _ from rfl) rfl) ?_
        refine rw_p rfl rfl (y_move rfl) ?_
        refine rw_p rfl rfl (y_index rfl rfl sl44 (ha_v.ptr (by decide)) (by decide) (by decide)) ?_
        refine rw_p rfl rfl (y_el1 rfl sc48 ((ha_v.ptr (by decide)) ▸ ha_v.rd hm0 0 rfl).nd encW_len (show (Pl.rnds Pl.shK ws s t).l[_]? = some _ from rfl) rfl) ?_
        refine rw_p rfl rfl (y_move rfl) ?_
        refine rw_p rfl rfl (y_add rfl rfl w_add) ?_
        refine rw_p rfl rfl (y_move rfl) ?_
        refine rw_p rfl rfl (y_index rfl rfl sl44 (ha_v.ptr (by decide)) (by decide) (by decide)) ?_
        refine rw_p rfl rfl (y_el1 rfl sc48 ((ha_v.ptr (by decide)) ▸ ha_v.rd hm0 0 rfl).nd encW_len (show (Pl.rnds Pl.shK ws s t).l[_]? = some _ from rfl) rfl) ?_
        refine rw_p rfl rfl (y_move rfl) ?_
        refine rw_p rfl rfl (y_index rfl rfl sl44 (ha_v.ptr (by decide)) (by decide) (by decide)) ?_
        refine rw_p rfl rfl (y_el1 rfl sc48 ((ha_v.ptr (by decide)) ▸ ha_v.rd hm0 0 rfl).nd encW_len (show (Pl.rnds Pl.shK ws s t).l[_]? = some _ from rfl) rfl) ?_
        refine rw_p rfl rfl (y_move rfl) ?_
        refine rw_p rfl rfl (y_index rfl rfl sl44 (ha_v.ptr (by decide)) (by decide) (by decide)) ?_
        refine rw_p rfl rfl (y_el1 rfl sc48 ((ha_v.ptr (by decide)) ▸ ha_v.rd hm0 0 rfl).nd encW_len (show (Pl.rnds Pl.shK ws s t).l[_]? = some _ from rfl) rfl) ?_
        refine a_cut ?_
        refine a_buildSlice (l := [_, _, _, _, _, _, _, _]) rfl rfl sl44 z48 rfl rfl rfl rfl rfl rfl rfl hm trivial fun m42 w hg_m42 hm hh => ?_
        refine rw_p rfl rfl (y_assign rfl) ?_
        refine rw_done ?_
        refine gn_bl ?_
        refine gn_sq ?_
        refine HW_text (.pure 0 (.pure 1 (.pure 2 .done))) (by kernel_rfl) ?_
        refine rw_p rfl rfl (y_move rfl) ?_
        refine rw_p rfl rfl (y_add rfl rfl (i64w (by omega) (by omega))) ?_
        refine rw_p rfl rfl (y_assign rfl) ?_
        refine rw_done ?_
        exact next (t + 1, _, 8, m42, _) (by simp only; omega) ⟨(hm.pick [0] rfl), Acc.row rfl, by simp only; omega⟩ ⟨nx t, rfl, rfl, rfl, rfl, rfl, trivial⟩
  ·
    obtain ⟨t, p_v, cap_v, g_v, b_v⟩ := x
    simp only at hm ha_v hk hc0 ⊢
    simp only [decide_eq_false_iff_not] at hc0
    obtain rfl : t = 64 := by omega
    refine HW_exit rfl ?_
    refine gx_sq (gx_lp ?_)
    refine gx_here ?_
    refine gn_sq ?_
    refine HW_seq rfl ?_
    refine HW_text (.pure 0 .done) (by kernel_rfl) ?_
    refine rw_p rfl rfl (y_assign rfl) ?_
    replace hm := hm.gapIn
    have ha_s := Acc.nil 48 1 none 0
    refine rw_done ?_
    refine gn_sq ?_
    refine HW_seq rfl ?_
    refine HW_seq rfl ?_
    refine HW_text (.pure 0 .done) (by kernel_rfl) ?_
    refine rw_p rfl rfl (y_assign rfl) ?_
    refine rw_done ?_
    refine gn_sq ?_
    refine HW_block rfl ?_
    refine HW_loopK (ι := Nat × Option Addr × Nat × Nat × Blk) rfl (ks := [0, 6, 7]) (.cons rfl (.cons rfl (.cons rfl .nil))) (fun x => [(14, .int .i64 x.1), (13, .slice x.2.1 x.1 x.2.2.1)]) (fun x w => Mem w0 w No [(x.2.2.2.1, x.2.2.2.2), (g_v, b_v)] ∧ Acc 48 1 x.2.1 x.1 x.2.2.1 (((s.add (Pl.rnds Pl.shK ws s 64)).l.take x.1).flatMap encW) x.2.2.2.1 x.2.2.2.2 ∧ x.1 ≤ 8) (fun x => 8 - x.1) (0, none, 0, 0, .gap) (⟨(hm.pick [0, 1] rfl), ha_s, Nat.zero_le _⟩) ⟨rfl, rfl, trivial⟩ (fun x w hM => ?_)
    obtain ⟨hm, ha_s, hk⟩ := hM
    refine HW_seq rfl ?_
    refine HW_seq rfl ?_
    refine HW_text (.pure 0 (.pure 1 .done)) (by kernel_rfl) ?_
    refine rw_p rfl rfl (y_move rfl) ?_
    refine rw_p rfl rfl (y_lt rfl rfl) ?_
    refine rw_done ?_
    refine gn_sq ?_
    refine HW_cond rfl rfl (fun hc1 => ?_) (fun hc1 => ?_)
    ·
      obtain ⟨x, p_s, cap_s, g_s, b_s⟩ := x
      simp only at hm ha_s hk hc1 ⊢
      simp only [decide_eq_true_eq] at hc1
      have hsi : s.l[x]? = some (s.l.getD x 0) := by rw [List.getD_eq_getElem?_getD, List.getElem?_eq_getElem (show x < s.l.length from (by omega : x < 8))]; rfl
      have hvi : (Pl.rnds Pl.shK ws s 64).l[x]? = some ((Pl.rnds Pl.shK ws s 64).l.getD x 0) := by rw [List.getD_eq_getElem?_getD, List.getElem?_eq_getElem (show x < ((Pl.rnds Pl.shK ws s 64)).l.length from (by omega : x < 8))]; rfl
      refine HW_skip rfl ?_
      refine gn_sq ?_
      refine HW_seq rfl ?_
      refine HW_block rfl ?_
      refine HW_draw (.pure 0 (.pure 1 (.pure 2 (.pure 3 (.pure 4 (.pure 5 (.pure 6 (.pure 7 (.pure 8 (.cut (.pure 9 (.act 10 (.act 11 (.pure 12 .done)))))))))))))) No mix (by kernel_rfl) hm fun w hw hm0 hh => ?_
      have hm := hm0
      refine rw_p rfl rfl (y_move rfl) ?_
      refine rw_p rfl rfl (y_move rfl) ?_
      refine rw_p rfl rfl (y_move rfl) ?_
      refine rw_p rfl rfl (y_index rfl rfl sl44 hps (by omega) (by omega)) ?_
      refine rw_p rfl rfl (y_el1 rfl sc48 (hps ▸ hx.ext0 hm0.to).nd encW_len hsi rfl) ?_
      refine rw_p rfl rfl (y_move rfl) ?_
      refine rw_p rfl rfl (y_move rfl) ?_
      refine rw_p rfl rfl (y_index rfl rfl sl44 (ha_v.ptr (by decide)) (by omega) (by omega)) ?_
      refine rw_p rfl rfl (y_el1 rfl sc48 ((ha_v.ptr (by decide)) ▸ ha_v.rd hm0 1 rfl).nd encW_len hvi rfl) ?_
      refine a_cut ?_
      refine rw_p rfl rfl (y_add rfl rfl w_add) ?_
      refine a_buildSlice (l := [_]) rfl rfl sl44 z48 rfl rfl rfl rfl rfl rfl rfl hm trivial fun m2 w hg_m2 hm hh => ?_
      refine a_append rfl rfl rfl rfl rfl rfl sl44 sl44 z48 rfl rfl (Rd.row0 (hm.get (k := 0) rfl)) rfl ha_s hm 1 rfl (by omega) (by omega) fun p_s cap_s g_s b_s w ha_s hm => ?_
      replace ha_s := ha_s.to (show _ = ((s.add (Pl.rnds Pl.shK ws s 64)).l.take (x + 1)).flatMap encW by rw [Pl.take_snoc (Pl.S8.add_get s _ x (by omega)), List.flatMap_append]; rfl)
      refine rw_p rfl rfl (y_assign rfl) ?_
      refine rw_done ?_
      refine gn_bl ?_
      refine gn_sq ?_
      refine HW_text (.pure 0 (.pure 1 (.pure 2 .done))) (by kernel_rfl) ?_
      refine rw_p rfl rfl (y_move rfl) ?_
      refine rw_p rfl rfl (y_add rfl rfl (i64w (by omega) (by omega))) ?_
      refine rw_p rfl rfl (y_assign rfl) ?_
      refine rw_done ?_
      exact next (x + 1, p_s, cap_s, g_s, b_s) (by simp only; omega) ⟨(hm.pick [1, 2] rfl), ha_s, by simp only; omega⟩ ⟨nx x, rfl, rfl, rfl, rfl, trivial⟩
    ·
      obtain ⟨x, p_s, cap_s, g_s, b_s⟩ := x
      simp only at hm ha_s hk hc1 ⊢
      simp only [decide_eq_false_iff_not] at hc1
      obtain rfl : x = 8 := by omega
      refine HW_exit rfl ?_
      refine gx_sq (gx_lp ?_)
      refine gx_here ?_
      refine gn_sq ?_
      refine HW_seq rfl ?_
      refine HW_text (.pure 0 (.pure 1 .done)) (by kernel_rfl) ?_
      refine rw_p rfl rfl (y_move rfl) ?_
      refine rw_p rfl rfl (y_assign rfl) ?_
      refine rw_done ?_
      refine gn_sq ?_
      refine HW_ret rfl ?_
      refine toR (fin hret rfl (.tmp rfl .nil) .one ?_)
      exact ⟨p_s, cap_s, g_s, b_s, rfl, ha_s, (hm.pick [0] rfl)⟩

set_option maxHeartbeats 3200000 in
theorem r2_with (p : Option Addr) (cap : Nat) (b : List UInt8) (pS pK : Option Addr) (cS cK : Nat) (w0 : World) (hx : Rd w0 p (b.flatMap encB)) (hy : Rd w0 pS (Pl.shI.l.flatMap encW)) (hz : Rd w0 pK (Pl.shK.flatMap encW)) (hl : b.length ≤ 1000000000000) : C Try.prog 22 [.slice p b.length cap, .agg ⟨[.slice pS 8 cS, .slice pK 64 cK]⟩] w0 fun v w' => v = .agg ⟨(Pl.sha b).flatMap encB⟩ ∧ Ext No w0 w' := by
  have hpl := (Pl.shPad_len b.length).1
  have hpl2 := (Pl.shPad_len b.length).2
  have hml : (b ++ Pl.shPad b.length).length = b.length + (Pl.shPad b.length).length := List.length_append
  refine C_of Try.func22 rfl rfl rfl fun κ hret hnorm => ?_
  have hm := Mem.start w0
  refine HW_seq rfl ?_
  refine HW_text (.act 0 (.act 1 .done)) (by kernel_rfl) ?_
  refine a_box rfl rfl rfl rfl hm trivial fun m1 w hg_m1 hm hh => ?_
  refine a_alloc rfl rfl z24 hm trivial fun m2 w hg_m2 hm hh => ?_
  refine rw_done ?_
  refine gn_sq ?_
  refine HW_seq rfl ?_
  refine HW_text (.pure 0 (.pure 1 (.pure 2 .done))) (by kernel_rfl) ?_
  refine rw_p rfl rfl (y_fieldAddr rfl fo46_0) ?_
  refine rw_p rfl rfl (y_load rfl sc44 (hm.nt 1 rfl) rfl) ?_
  refine rw_p rfl rfl (y_assign rfl) ?_
  refine rw_done ?_
  refine gn_sq ?_
  refine HW_seq rfl ?_
  refine HW_text (.pure 0 (.act 1 (.pure 2 .done))) (by kernel_rfl) ?_
  refine rw_p rfl rfl (y_move rfl) ?_
  refine a_call rfl rfl rfl go30 (r2_pad p cap b _ (hx.ext0 hm.to) hl) fun v w hR => ?_
  obtain ⟨p_m, cap_m, g_m, b_m, rfl, ha_m, hmc⟩ := hR
  refine ⟨trivial, ?_⟩
  replace hm := hm.callN hmc
  have hmle := ha_m.le
  have hmr := ha_m.rd hm 0 rfl
  refine rw_p rfl rfl (y_assign rfl) ?_
  refine rw_done ?_
  refine gn_sq ?_
  refine HW_seq rfl ?_
  refine HW_seq rfl ?_
  refine HW_text (.pure 0 .done) (by kernel_rfl) ?_
  refine rw_p rfl rfl (y_assign rfl) ?_
  refine rw_done ?_
  refine gn_sq ?_
  refine HW_block rfl ?_
  refine HW_loopK (ι := Nat × Option Addr × Nat) rfl (ks := [3, 4, 6]) (.cons rfl (.cons rfl (.cons rfl .nil))) (fun x => [(7, .int .i64 ((64 * x.1 : Nat) : Int)), (5, .slice x.2.1 8 x.2.2)]) (fun x w => (∃ g_s b_s, Mem w0 w No [(g_s, b_s), (g_m, b_m), (m1, .row 46 [.slice pS 8 cS, .slice pK 64 cK]), (m2, .row 24 ((List.replicate 32 (0 : UInt8)).flatMap encB))] ∧ (0 < x.1 → Acc 48 1 x.2.1 8 x.2.2 ((Pl.shFold Pl.shI (b ++ Pl.shPad b.length) x.1).l.flatMap encW) g_s b_s)) ∧ Rd w x.2.1 ((Pl.shFold Pl.shI (b ++ Pl.shPad b.length) x.1).l.flatMap encW) ∧ 64 * x.1 ≤ (b ++ Pl.shPad b.length).length) (fun x => (b ++ Pl.shPad b.length).length - 64 * x.1) (0, pS, cS) (⟨⟨0, .gap, (hm.gapIn.pick [0, 1, 3, 2] rfl), fun h => absurd h (Nat.lt_irrefl 0)⟩, hy.ext0 hm.to, Nat.zero_le _⟩) ⟨rfl, rfl, trivial⟩ (fun x w hM => ?_)
  refine HW_seq rfl ?_
  refine HW_seq rfl ?_
  refine HW_text (.pure 0 (.pure 1 (.pure 2 (.pure 3 .done)))) (by kernel_rfl) ?_
  refine rw_p rfl rfl (y_move rfl) ?_
  refine rw_p rfl rfl (y_move rfl) ?_
  refine rw_p rfl rfl (y_len rfl rfl sl22) ?_
  refine rw_p rfl rfl (y_lt rfl rfl) ?_
  refine rw_done ?_
  refine gn_sq ?_
  refine HW_cond rfl rfl (fun hc0 => ?_) (fun hc0 => ?_)
  ·
    obtain ⟨n, p_s, cap_s⟩ := x
    simp only at hM hc0 ⊢
    obtain ⟨⟨g_s, b_s, hm, hA⟩, hS, hk⟩ := hM
    simp only [decide_eq_true_eq] at hc0
    have hcut : 64 * n + 64 ≤ (b ++ Pl.shPad b.length).length := by omega
    refine HW_skip rfl ?_
    refine gn_sq ?_
    refine HW_seq rfl ?_
    refine HW_block rfl ?_
    refine HW_draw (.pure 0 (.pure 1 (.pure 2 (.pure 3 (.pure 4 (.pure 5 (.pure 7 (.pure 8 (.act 6 (.cut (.act 9 (.pure 10 .done)))))))))))) No mix (by kernel_rfl) hm fun w hw hm0 hh => ?_
    have hm := hm0
    replace hS := hS.heap9 hw
    refine rw_p rfl rfl (y_move rfl) ?_
    refine rw_p rfl rfl (y_move rfl) ?_
    refine rw_p rfl rfl (y_move rfl) ?_
    refine rw_p rfl rfl (y_move rfl) ?_
    refine rw_p rfl rfl (y_add rfl rfl (addK (a := 64 * n) 64 (by omega))) ?_
    refine rw_p rfl rfl (y_v (y_slice (ln := (64 * n)) (hn := (64 * n + 64)) rfl sl22 ⟨_, rfl⟩ ⟨_, rfl⟩ (by omega) (by omega) (fun h => ha_m.spot (by omega))) (show _ = Value.slice (slp p_m cap_m (64 * n) 1) 64 (cap_m - 64 * n) by rw [Nat.add_sub_cancel_left])) ?_
    refine rw_p rfl rfl (y_fieldAddr rfl fo46_1) ?_
    refine rw_p rfl rfl (y_load rfl sc44 (hm0.nd 2 rfl id) rfl) ?_
    refine a_call rfl rfl rfl go32 (r2_sched (slp p_m cap_m (64 * n) 1) (cap_m - 64 * n) (((b ++ Pl.shPad b.length).drop (64 * n)).take 64) _ ((ha_m.rd hm 1 rfl).sub hmle) (by rw [List.length_take, List.length_drop]; omega)) fun v w hR => ?_
    obtain ⟨p_c, cap_c, g_c, b_c, rfl, ha_c, hmc⟩ := hR
    refine ⟨hh.ext hmc.to, ?_⟩
    replace hh := hh.ext hmc.to
    replace hm := hm.callN hmc
    replace hS := hS.ext0 hmc.to
    refine a_cut ?_
    refine a_call rfl rfl rfl go31 (r2_block p_s p_c pK cap_s cap_c cK (Pl.shFold Pl.shI (b ++ Pl.shPad b.length) n) (Pl.schB (((b ++ Pl.shPad b.length).drop (64 * n)).take 64)) _ hS (ha_c.rd hm 0 rfl) (hz.ext0 hm.to) (Pl.schB_len _)) fun v w hR => ?_
    obtain ⟨p_s, cap_s, g_s, b_s, rfl, ha_s, hmc⟩ := hR
    refine ⟨trivial, ?_⟩
    replace hm := hm.callN hmc
    refine rw_p rfl rfl (y_assign rfl) ?_
    refine rw_done ?_
    refine gn_bl ?_
    refine gn_sq ?_
    refine HW_text (.pure 0 (.pure 1 (.pure 2 .done))) (by kernel_rfl) ?_
    refine rw_p rfl rfl (y_move rfl) ?_
    refine rw_p rfl rfl (y_add rfl rfl (addK (a := 64 * n) 64 (by omega))) ?_
    refine rw_p rfl rfl (y_assign rfl) ?_
    refine rw_done ?_
    exact next (n + 1, p_s, cap_s) (by simp only; omega) ⟨⟨g_s, b_s, (hm.pick [0, 3, 4, 5] rfl), fun _ => ha_s⟩, ha_s.rd hm 0 rfl, by simp only; omega⟩ ⟨rfl, rfl, rfl, rfl, rfl, trivial⟩
  ·
    obtain ⟨n, p_s, cap_s⟩ := x
    simp only at hM hc0 ⊢
    obtain ⟨⟨g_s, b_s, hm, hA⟩, hS, hk⟩ := hM
    simp only [decide_eq_false_iff_not] at hc0
    have hpp : 0 < (Pl.shPad b.length).length := by unfold Pl.shPad; simp only [List.length_append, List.length_cons]; omega
    have ha_s := hA (by omega)
    have hne : n = (b ++ Pl.shPad b.length).length / 64 := by omega
    subst hne
    replace ha_s : Acc 48 1 p_s 8 cap_s ((Pl.shSt (b ++ Pl.shPad b.length)).l.flatMap encW) g_s b_s := ha_s
    refine HW_exit rfl ?_
    refine gx_sq (gx_lp ?_)
    refine gx_here ?_
    refine gn_sq ?_
    refine HW_seq rfl ?_
    refine HW_text (.act 0 .done) (by kernel_rfl) ?_
    refine a_alloc rfl rfl z24 hm trivial fun m3 w hg_m3 hm hh => ?_
    refine rw_done ?_
    refine gn_sq ?_
    refine HW_seq rfl ?_
    refine HW_seq rfl ?_
    refine HW_text (.pure 0 .done) (by kernel_rfl) ?_
    refine rw_p rfl rfl (y_assign rfl) ?_
    refine rw_done ?_
    refine gn_sq ?_
    refine HW_block rfl ?_
    refine HW_loopK (ι := Nat) rfl (ks := [4, 5, 8]) (.cons rfl (.cons rfl (.cons rfl .nil))) (fun x => [(9, .int .i64 x)]) (fun x w => Mem w0 w No [(m3, .row 24 (((Pl.sha b).take x ++ List.replicate (32 - x) 0).flatMap encB)), (g_s, b_s), (m2, .row 24 ((List.replicate 32 (0 : UInt8)).flatMap encB))] ∧ x ≤ 32) (fun x => 32 - x) 0 (⟨by rw [List.take_zero, List.nil_append, Nat.sub_zero]; exact (hm.pick [0, 1, 4] rfl), Nat.zero_le _⟩) ⟨rfl, trivial⟩ (fun x w hM => ?_)
    obtain ⟨hm, hk⟩ := hM
    refine HW_seq rfl ?_
    refine HW_seq rfl ?_
    refine HW_text (.pure 0 (.pure 1 .done)) (by kernel_rfl) ?_
    refine rw_p rfl rfl (y_move rfl) ?_
    refine rw_p rfl rfl (y_lt rfl rfl) ?_
    refine rw_done ?_
    refine gn_sq ?_
    refine HW_cond rfl rfl (fun hc1 => ?_) (fun hc1 => ?_)
    ·
      simp only [decide_eq_true_eq] at hc1
      have hog : (Pl.sha b)[x]? = some _ := Pl.shOut_get (Pl.shSt (b ++ Pl.shPad b.length)) (i := x) (by omega)
      have hsi : (Pl.shSt (b ++ Pl.shPad b.length)).l[x / 4]? = some ((Pl.shSt (b ++ Pl.shPad b.length)).l.getD (x / 4) 0) := by rw [List.getD_eq_getElem?_getD, List.getElem?_eq_getElem (show x / 4 < (Pl.shSt (b ++ Pl.shPad b.length)).l.length from (by omega : x / 4 < 8))]; rfl
      refine HW_skip rfl ?_
      refine gn_sq ?_
      refine HW_seq rfl ?_
      refine HW_block rfl ?_
      refine HW_text (.pure 0 (.pure 1 (.pure 2 (.pure 3 (.pure 4 (.pure 5 (.pure 6 (.pure 7 (.pure 8 (.pure 9 (.pure 10 (.pure 11 (.pure 12 (.act 13 .done)))))))))))))) (by kernel_rfl) ?_
      refine rw_p rfl rfl (y_move rfl) ?_
      refine rw_p rfl rfl (y_move rfl) ?_
      refine rw_p rfl rfl (y_move rfl) ?_
      refine rw_p rfl rfl (y_quo rfl rfl (by decide) (quoK x 4 (by omega) (by decide))) ?_
      refine rw_p rfl rfl (y_index rfl rfl sl44 (ha_s.ptr (by decide)) (Int.natCast_nonneg _) (by omega)) ?_
      refine rw_p rfl rfl (y_el1 rfl sc48 ((ha_s.ptr (by decide)) ▸ ha_s.rd hm 1 rfl).nt encW_len hsi rfl) ?_
      refine rw_p rfl rfl (y_move rfl) ?_
      refine rw_p rfl rfl (y_rem rfl rfl (by decide) (remK x 4)) ?_
      refine rw_p rfl rfl (y_mul rfl rfl (mulK 8 (b := x % 4) (by omega))) ?_
      refine rw_p rfl rfl (y_sub rfl rfl (subK (a := 24) _ (by omega) (by decide))) ?_
      refine rw_p rfl rfl (y_shr rfl rfl (Int.natCast_nonneg _) (w_shr (UInt32.ofNat (24 - x % 4 * 8)) (by rw [oN (by omega)]; omega) (by rw [oN (by omega)]; omega))) ?_
      refine rw_p rfl rfl (y_conv rfl is48 it5 w_u8) ?_
      refine rw_p rfl rfl (y_indexP rfl rfl ar24 (Int.natCast_nonneg _) (by omega)) ?_
      refine a_store rfl rfl rfl rfl sz5 rfl hm 0 rfl (by rw [Nat.ble_eq, lenB, List.length_append, List.length_take, List.length_replicate, Pl.sha_len]; simp only [List.length_singleton]; omega) fun w hm => ?_
      have hm2 := hm
      simp only [setB] at hm2
      rw [show (x : Int).toNat = x from rfl, setB0, fill_next (by rw [List.length_take, Pl.sha_len]; omega) (by omega), ← Pl.take_snoc hog] at hm2
      refine rw_done ?_
      refine gn_bl ?_
      refine gn_sq ?_
      refine HW_text (.pure 0 (.pure 1 (.pure 2 .done))) (by kernel_rfl) ?_
      refine rw_p rfl rfl (y_move rfl) ?_
      refine rw_p rfl rfl (y_add rfl rfl (i64w (by omega) (by omega))) ?_
      refine rw_p rfl rfl (y_assign rfl) ?_
      refine rw_done ?_
      refine next (x + 1) (by omega) ⟨hm2, by omega⟩ ⟨nx x, rfl, rfl, rfl, trivial⟩
    ·
      simp only [decide_eq_false_iff_not] at hc1
      obtain rfl : x = 32 := by omega
      rw [Nat.sub_self, List.replicate_zero, List.append_nil, List.take_of_length_le (by rw [Pl.sha_len]; exact Nat.le_refl _)] at hm
      refine HW_exit rfl ?_
      refine gx_sq (gx_lp ?_)
      refine gx_here ?_
      refine gn_sq ?_
      refine HW_seq rfl ?_
      refine HW_text (.pure 0 (.act 1 .done)) (by kernel_rfl) ?_
      refine rw_p rfl rfl (y_loadA (s := 32) (vs := ((Pl.sha b).flatMap encB)) rfl ag24 (hm.nt 0 rfl) (nthsB (Pl.sha_len _))) ?_
      refine a_store rfl rfl rfl rfl (sz24.trans (congrArg some (lenB32 (Pl.sha_len _)).symm)) (oneB _) hm 2 rfl (by rw [Nat.ble_eq, lenB32 (Pl.sha_len _), lenB32 List.length_replicate]; exact Nat.le_refl 32) fun w hm => ?_
      rw [upds_all (by rw [lenB32 (Pl.sha_len _), lenB32 List.length_replicate])] at hm
      refine rw_done ?_
      refine gn_sq ?_
      refine HW_ret rfl ?_
      refine toR (fin hret rfl (.cell rfl (run_loadVar_a (vs := ((Pl.sha b).flatMap encB)) ag24 (hm.get (k := 2) rfl) (nthsB (Pl.sha_len _))) .nil) .one ?_)
      exact ⟨rfl, hm.to⟩

set_option maxHeartbeats 800000 in
theorem r2_of (p : Option Addr) (cap : Nat) (b : List UInt8) (w0 : World) (hx : Rd w0 p (b.flatMap encB)) (hl : b.length ≤ 1000000000000) : C Try.prog 11 [.slice p b.length cap] w0 fun v w' => v = .agg ⟨(Pl.sha b).flatMap encB⟩ ∧ Ext No w0 w' := by
  refine C_of Try.func11 rfl rfl rfl fun κ hret hnorm => ?_
  have hm := Mem.start w0
  refine HW_seq rfl ?_
  refine HW_text (.act 0 .done) (by kernel_rfl) ?_
  refine a_alloc rfl rfl z24 hm trivial fun m1 w hg_m1 hm hh => ?_
  refine rw_done ?_
  refine gn_sq ?_
  refine HW_seq rfl ?_
  refine HW_text (.pure 0 (.act 1 (.act 2 (.act 3 .done)))) (by kernel_rfl) ?_
  refine rw_p rfl rfl (y_move rfl) ?_
  refine a_call rfl rfl rfl go23 (r2_table _) fun v w hR => ?_
  obtain ⟨p_s, cap_s, g_s, b_s, p_q, cap_q, g_q, b_q, rfl, ha_s, ha_q, hmc⟩ := hR
  refine ⟨trivial, ?_⟩
  replace hm := hm.callN hmc
  refine a_call rfl rfl rfl go22 (r2_with p cap b p_s p_q cap_s cap_q _ (hx.ext0 hm.to) (ha_s.rd hm 0 rfl) (ha_q.rd hm 1 rfl) hl) fun v w hR => ?_
  obtain ⟨rfl, hE⟩ := hR
  refine ⟨trivial, ?_⟩
  replace hm := hm.ext hE
  refine a_store rfl rfl rfl rfl (sz24.trans (congrArg some (lenB32 (Pl.sha_len _)).symm)) (oneB _) hm 2 rfl (by rw [Nat.ble_eq, lenB32 (Pl.sha_len _)]; exact Nat.le_refl 32) fun w hm => ?_
  rw [upds_z32 (Pl.sha_len _)] at hm
  refine rw_done ?_
  refine gn_sq ?_
  refine HW_ret rfl ?_
  refine toR (fin hret rfl (.cell rfl (run_loadVar_a (vs := ((Pl.sha b).flatMap encB)) ag24 (hm.get (k := 2) rfl) (nthsB (Pl.sha_len _))) .nil) .one ?_)
  exact ⟨rfl, hm.to⟩

end Go.Proofs.Ytdiklnekplhhgaa
