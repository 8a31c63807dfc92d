/- Contracts of functions of the program: what each returns. Conditions: the hypotheses of each theorem. -/
import Derived.Test.YtdiklnekplhhgaaLaw
import Derived.Test.YtdiklnekplhhgaaRowS
set_option linter.unusedVariables false
set_option linter.unusedSimpArgs false
namespace Go.Proofs.Ytdiklnekplhhgaa
open Go Go.Cx

theorem go10 : isGo Try.prog 10 = true := by kernel_rfl
theorem go18 : isGo Try.prog 18 = true := by kernel_rfl
theorem go21 : isGo Try.prog 21 = true := by kernel_rfl
theorem z22 : zer Try.prog 22 = some [.slice none 0 0] := by kernel_rfl
theorem fl24 : flat Try.prog 24 [.num .u8, .num .u8, .num .u8, .num .u8, .num .u8, .num .u8, .num .u8, .num .u8, .num .u8, .num .u8, .num .u8, .num .u8, .num .u8, .num .u8, .num .u8, .num .u8, .num .u8, .num .u8, .num .u8, .num .u8, .num .u8, .num .u8, .num .u8, .num .u8, .num .u8, .num .u8, .num .u8, .num .u8, .num .u8, .num .u8, .num .u8, .num .u8] = true := by kernel_rfl
theorem go11 : isGo Try.prog 11 = true := by kernel_rfl
theorem go9 : isGo Try.prog 9 = true := by kernel_rfl
theorem go15 : isGo Try.prog 15 = true := by kernel_rfl

set_option maxHeartbeats 400000 in
theorem law_alive (w0 : World) : C Try.prog 9 [] w0 fun v w' => v = .bool true ∧ Ext No w0 w' := by
  refine C_of Try.func9 rfl rfl rfl fun κ hret hnorm => ?_
  have hm := Mem.start w0
  refine HW_seq rfl ?_
  refine HW_text (.pure 0 .done) (by kernel_rfl) ?_
  refine rw_p rfl rfl (y_assign rfl) ?_
  refine rw_done ?_
  refine gn_sq ?_
  refine HW_seq rfl ?_
  refine HW_text (.act 0 (.act 1 (.act 2 (.pure 3 (.act 4 (.act 5 (.act 6 (.act 7 (.act 8 (.act 9 (.pure 10 (.pure 11 .done)))))))))))) (by kernel_rfl) ?_
  refine a_call rfl rfl rfl go10 (h_of none 0 [] _ rfl (by simp) (by decide) (by decide)) fun v w hR => ?_
  obtain ⟨rfl, hE⟩ := hR
  refine ⟨trivial, ?_⟩
  replace hm := hm.ext hE
  refine a_call rfl rfl rfl go18 (h_format (Pl.sha []) _ (Pl.sha_len _)) fun v w hR => ?_
  obtain ⟨rfl, hE⟩ := hR
  refine ⟨trivial, ?_⟩
  replace hm := hm.ext hE
  refine a_call rfl rfl rfl go21 (C.as (v := .bool true) (hp_str (Pl.fmt (Pl.sha [])) [101, 51, 98, 48, 99, 52, 52, 50] _) (congrArg Value.bool (by rw [show ([101, 51, 98, 48, 99, 52, 52, 50] : List UInt8).length = 8 from rfl, Pl.sha_nil, Pl.fmt_len, Pl.sha_len]; rfl))) fun v w hR => ?_
  obtain ⟨rfl, hE⟩ := hR
  refine ⟨trivial, ?_⟩
  replace hm := hm.ext hE
  refine rw_p rfl rfl (y_move rfl) ?_
  refine a_buildSlice (l := [_, _, _]) rfl rfl sl22 z5 rfl rfl rfl rfl rfl rfl rfl hm trivial fun m1 w hg_m1 hm hh => ?_
  refine a_mkd rfl rfl rfl cb22 hm 0 rfl fun w hm => ?_
  refine a_buildSlice (l := [_]) rfl rfl sl34 z22 rfl rfl rfl rfl rfl rfl rfl hm trivial fun m2 w hg_m2 hm hh => ?_
  refine a_call rfl rfl rfl go10 (C.as (v := .agg ⟨(Pl.sha [97, 98, 99]).flatMap encB⟩) (h_of _ 1 [⟨(some ⟨m1, 0, none⟩), 3, [97, 98, 99]⟩] _ (Rd.row0 (hm.get (k := 0) rfl)) (by simp only [List.mem_singleton]; rintro _ rfl; exact (Rd.mkd (hm.get (k := 1) rfl))) (by simp) (by simp <;> omega)) (by simp only [List.flatMap_cons, List.flatMap_nil, List.append_nil])) fun v w hR => ?_
  obtain ⟨rfl, hE⟩ := hR
  refine ⟨trivial, ?_⟩
  replace hm := hm.ext hE
  refine a_call rfl rfl rfl go18 (h_format (Pl.sha [97, 98, 99]) _ (Pl.sha_len _)) fun v w hR => ?_
  obtain ⟨rfl, hE⟩ := hR
  refine ⟨trivial, ?_⟩
  replace hm := hm.ext hE
  refine a_call rfl rfl rfl go21 (C.as (v := .bool true) (hp_str (Pl.fmt (Pl.sha [97, 98, 99])) [98, 97, 55, 56, 49, 54, 98, 102] _) (congrArg Value.bool (by rw [show ([98, 97, 55, 56, 49, 54, 98, 102] : List UInt8).length = 8 from rfl, Pl.sha_abc, Pl.fmt_len, Pl.sha_len]; rfl))) fun v w hR => ?_
  obtain ⟨rfl, hE⟩ := hR
  refine ⟨trivial, ?_⟩
  replace hm := hm.ext hE
  refine rw_p rfl rfl (y_pickT rfl rfl) ?_
  refine rw_p rfl rfl (y_assign rfl) ?_
  refine rw_done ?_
  refine gn_sq ?_
  refine HW_ret rfl ?_
  refine toR (fin hret rfl (.tmp rfl .nil) .one ?_)
  exact ⟨rfl, hm.to⟩

set_option maxHeartbeats 400000 in
theorem law_digests (p : Option Addr) (cap : Nat) (bs : List UInt8) (w0 : World) (hb : SB.ok w0 ⟨p, cap, bs⟩) : C Try.prog 3 [.slice p bs.length cap] w0 fun v w' => v = .bool true ∧ Ext No w0 w' := by
  refine C_of Try.func3 rfl rfl rfl fun κ hret hnorm => ?_
  have hm := Mem.start w0
  refine HW_seq rfl ?_
  refine HW_text (.pure 0 .done) (by kernel_rfl) ?_
  refine rw_p rfl rfl (y_assign rfl) ?_
  refine rw_done ?_
  refine gn_sq ?_
  refine HW_seq rfl ?_
  refine HW_seq rfl ?_
  refine HW_text (.pure 0 (.pure 1 (.pure 2 .done))) (by kernel_rfl) ?_
  refine rw_p rfl rfl (y_move rfl) ?_
  refine rw_p rfl rfl (y_len rfl rfl sl22) ?_
  refine rw_p rfl rfl (y_gt rfl rfl) ?_
  refine rw_done ?_
  refine gn_sq ?_
  refine HW_cond rfl rfl (fun hc0 => ?_) (fun hc0 => ?_)
  ·
    simp only [Bool.and_eq_true, Bool.or_eq_true, Bool.and_eq_false_iff, Bool.or_eq_false_iff, Bool.not_eq_true', Bool.not_eq_false', decide_eq_true_eq, decide_eq_false_iff_not] at hc0
    refine HW_seq rfl ?_
    refine HW_text (.act 0 (.pure 1 .done)) (by kernel_rfl) ?_
    refine a_call rfl rfl rfl go9 (C.as (v := .bool true) (law_alive _) (congrArg Value.bool rfl)) fun v w hR => ?_
    obtain ⟨rfl, hE⟩ := hR
    refine ⟨trivial, ?_⟩
    replace hm := hm.ext hE
    refine rw_p rfl rfl (y_assign rfl) ?_
    refine rw_done ?_
    refine gn_sq ?_
    refine HW_ret rfl ?_
    refine gr_sq ?_
    refine toR (fin hret rfl (.tmp rfl .nil) .one ?_)
    exact ⟨rfl, hm.to⟩
  ·
    simp only [Bool.and_eq_true, Bool.or_eq_true, Bool.and_eq_false_iff, Bool.or_eq_false_iff, Bool.not_eq_true', Bool.not_eq_false', decide_eq_true_eq, decide_eq_false_iff_not] at hc0
    refine HW_skip rfl ?_
    refine gn_sq ?_
    refine HW_seq rfl ?_
    refine HW_text (.act 0 (.pure 1 (.pure 2 (.act 3 (.act 4 (.pure 5 (.act 6 (.pure 7 (.pure 8 (.pure 9 .done)))))))))) (by kernel_rfl) ?_
    refine a_call rfl rfl rfl go9 (C.as (v := .bool true) (law_alive _) (congrArg Value.bool rfl)) fun v w hR => ?_
    obtain ⟨rfl, hE⟩ := hR
    refine ⟨trivial, ?_⟩
    replace hm := hm.ext hE
    refine rw_p rfl rfl (y_move rfl) ?_
    refine rw_p rfl rfl (y_move rfl) ?_
    refine a_buildSlice (l := [_]) rfl rfl sl34 z22 rfl rfl rfl rfl rfl rfl rfl hm trivial fun m1 w hg_m1 hm hh => ?_
    refine a_call rfl rfl rfl go10 (C.as (v := .agg ⟨(Pl.sha bs).flatMap encB⟩) (h_of _ 1 [⟨p, cap, bs⟩] _ (Rd.row0 (hm.get (k := 0) rfl)) (by simp only [List.mem_singleton]; rintro _ rfl; exact (hb.rd.ext0 hm.to)) (by simp) (by simp <;> omega)) (by simp only [List.flatMap_cons, List.flatMap_nil, List.append_nil])) fun v w hR => ?_
    obtain ⟨rfl, hE⟩ := hR
    refine ⟨trivial, ?_⟩
    replace hm := hm.ext hE
    refine rw_p rfl rfl (y_move rfl) ?_
    refine a_call rfl rfl rfl go11 (r2_of p cap bs _ (hb.rd.ext0 hm.to) (by omega)) fun v w hR => ?_
    obtain ⟨rfl, hE⟩ := hR
    refine ⟨trivial, ?_⟩
    replace hm := hm.ext hE
    refine rw_p rfl rfl (y_as (c := true) (y_eqF rfl rfl fl24 (fitB (n := 32) (Pl.sha_len _)) (fitB (n := 32) (Pl.sha_len _))) (by rw [eqLB]; exact decide_eq_true rfl)) ?_
    refine rw_p rfl rfl (y_pickT rfl rfl) ?_
    refine rw_p rfl rfl (y_assign rfl) ?_
    refine rw_done ?_
    refine gn_sq ?_
    refine HW_ret rfl ?_
    refine toR (fin hret rfl (.tmp rfl .nil) .one ?_)
    exact ⟨rfl, hm.to⟩

set_option maxHeartbeats 1600000 in
theorem law_lengths (a0 a1 : Int) (w0 : World) (h0 : 0 ≤ a0 ∧ a0 ≤ 255) (h1 : 0 ≤ a1 ∧ a1 ≤ 255) : C Try.prog 4 [.int .u8 a0, .int .u8 a1] w0 fun v w' => v = .bool true ∧ Ext No w0 w' := by
  obtain ⟨c, rfl⟩ := Row.u8_of h0
  obtain ⟨d, rfl⟩ := Row.u8_of h1
  obtain ⟨k, hk⟩ : ∃ k, d.toNat % 140 = k := ⟨_, rfl⟩
  have hk140 : k < 140 := by omega
  refine C_of Try.func4 rfl rfl rfl fun κ hret hnorm => ?_
  have hm := Mem.start w0
  refine HW_seq rfl ?_
  refine HW_text (.pure 0 .done) (by kernel_rfl) ?_
  refine rw_p rfl rfl (y_assign rfl) ?_
  refine rw_done ?_
  refine gn_sq ?_
  refine HW_seq rfl ?_
  refine HW_text (.pure 0 (.pure 1 (.pure 2 (.act 3 (.pure 4 .done))))) (by kernel_rfl) ?_
  refine rw_p rfl rfl (y_move rfl) ?_
  refine rw_p rfl rfl (y_conv rfl is5 it3 (i64N (n := d.toNat) (by omega))) ?_
  refine rw_p rfl rfl (y_rem rfl rfl (by decide) ((remK d.toNat 140).trans (by rw [hk]))) ?_
  refine a_make rfl rfl rfl rfl sl22 z5 rfl (by omega) (by omega) (by omega) hm trivial fun g_s w hg_s ha_s hm hh => ?_
  replace ha_s := ha_s.to (show _ = (((List.replicate k c).take 0 ++ List.replicate (k - 0) 0).flatMap encB) by rw [repB]; rfl)
  refine rw_p rfl rfl (y_assign rfl) ?_
  refine rw_done ?_
  refine gn_sq ?_
  refine HW_seq rfl ?_
  refine HW_seq rfl ?_
  refine HW_text (.pure 0 (.pure 1 (.pure 2 .done))) (by kernel_rfl) ?_
  refine rw_p rfl rfl (y_move rfl) ?_
  refine rw_p rfl rfl (y_len rfl rfl sl22) ?_
  refine rw_p rfl rfl (y_move rfl) ?_
  refine rw_done ?_
  refine gn_sq ?_
  refine HW_block rfl ?_
  refine HW_loopK (ι := Nat × Blk) rfl (ks := [0, 4, 5, 13]) (.cons rfl (.cons rfl (.cons rfl (.cons rfl .nil)))) (fun x => [(14, .int .i64 x.1)]) (fun x w => Mem w0 w No [(g_s, x.2)] ∧ Acc 5 1 (some ⟨g_s, 0, none⟩) k k (((List.replicate k c).take x.1 ++ List.replicate (k - x.1) 0).flatMap encB) g_s x.2 ∧ x.1 ≤ k) (fun x => k - x.1) (0, _) (⟨(hm.pick [0] rfl), ha_s, Nat.zero_le _⟩) ⟨rfl, trivial⟩ (fun x w hM => ?_)
  obtain ⟨hm, ha_s, hk1⟩ := hM
  refine HW_seq rfl ?_
  refine HW_text (.pure 0 .done) (by kernel_rfl) ?_
  refine rw_p rfl rfl (y_lt rfl rfl) ?_
  refine rw_done ?_
  refine gn_sq ?_
  refine HW_seq rfl ?_
  refine HW_cond rfl rfl (fun hc0 => ?_) (fun hc0 => ?_)
  ·
    obtain ⟨i, b_s⟩ := x
    simp only at hm ha_s hk1 hc0 ⊢
    simp only [decide_eq_true_eq] at hc0
    have hri : (List.replicate k c)[i]? = some c := by rw [List.getElem?_replicate, if_pos (by omega)]
    refine HW_skip rfl ?_
    refine gn_sq ?_
    refine HW_seq rfl ?_
    refine HW_block rfl ?_
    refine HW_seq rfl ?_
    refine HW_text (.pure 0 (.pure 1 .done)) (by kernel_rfl) ?_
    refine rw_p rfl rfl (y_move rfl) ?_
    refine rw_p rfl rfl (y_assign rfl) ?_
    refine rw_done ?_
    refine gn_sq ?_
    refine HW_text (.pure 0 (.pure 1 (.pure 2 (.pure 3 (.act 4 .done))))) (by kernel_rfl) ?_
    refine rw_p rfl rfl (y_move rfl) ?_
    refine rw_p rfl rfl (y_move rfl) ?_
    refine rw_p rfl rfl (y_move rfl) ?_
    refine rw_p rfl rfl (y_index rfl rfl sl22 rfl (by omega) (by omega)) ?_
    refine a_storeE rfl rfl rfl rfl sz5 rfl rfl ha_s (by omega) hm 0 rfl fun b_s w ha_s hm => ?_
    replace ha_s := ha_s.to (show _ = (((List.replicate k c).take (i + 1) ++ List.replicate (k - (i + 1)) 0).flatMap encB) by rw [show (i : Int).toNat = i from rfl, updB, fill_next (by rw [List.length_take, List.length_replicate]; omega) (by omega), ← Pl.take_snoc hri])
    refine rw_done ?_
    refine gn_bl ?_
    refine gn_sq ?_
    refine HW_text (.pure 0 (.pure 1 .done)) (by kernel_rfl) ?_
    refine rw_p rfl rfl (y_add rfl rfl (i64w (by omega) (by omega))) ?_
    refine rw_p rfl rfl (y_move rfl) ?_
    refine rw_done ?_
    exact next (i + 1, b_s) (by simp only; omega) ⟨(hm.pick [0] rfl), ha_s, by simp only; omega⟩ ⟨nx i, rfl, rfl, rfl, rfl, trivial⟩
  ·
    obtain ⟨i, b_s⟩ := x
    simp only at hm ha_s hk1 hc0 ⊢
    simp only [decide_eq_false_iff_not] at hc0
    have hm9 := hm
    obtain rfl : k = i := by omega
    rw [Nat.sub_self, List.replicate_zero, List.append_nil, List.take_of_length_le (by simp)] at ha_s
    obtain ⟨bs, hbs⟩ : ∃ bs, List.replicate k c = bs := ⟨_, rfl⟩
    rw [hbs] at ha_s
    have hbl : k = bs.length := by rw [← hbs, List.length_replicate]
    subst hbl
    have hm := hm9
    refine HW_exit rfl ?_
    refine gx_sq (gx_lp ?_)
    refine gx_here ?_
    refine gn_sq ?_
    refine HW_seq rfl ?_
    refine HW_text (.act 0 (.pure 1 .done)) (by kernel_rfl) ?_
    refine a_call rfl rfl rfl go12 (h_new _) fun v w hR => ?_
    obtain ⟨m_h, Z_h, rfl, hz_h, hmc⟩ := hR
    refine ⟨trivial, ?_⟩
    replace hm := Mem.callTZ hm hmc
    refine rw_p rfl rfl (y_assign rfl) ?_
    refine rw_done ?_
    refine gn_sq ?_
    refine HW_seq rfl ?_
    refine HW_seq rfl ?_
    refine HW_text (.pure 0 (.pure 1 .done)) (by kernel_rfl) ?_
    refine rw_p rfl rfl (y_move rfl) ?_
    refine rw_p rfl rfl (y_pnil rfl rfl pb28) ?_
    refine rw_done ?_
    refine gn_sq ?_
    refine HW_condF rfl rfl rfl ?_
    refine HW_skip rfl ?_
    refine gn_sq ?_
    refine HW_seq rfl ?_
    refine HW_text (.act 0 (.pure 1 (.pure 2 (.pure 3 (.act 4 (.act 5 (.pure 6 (.pure 7 (.pure 8 (.pure 9 (.pure 10 (.pure 11 (.act 12 (.pure 13 (.act 14 (.pure 15 (.pure 16 (.pure 17 (.pure 18 (.act 19 (.pure 20 (.pure 21 (.pure 22 (.pure 23 (.pure 24 .done))))))))))))))))))))))))) (by kernel_rfl) ?_
    refine a_call rfl rfl rfl go9 (C.as (v := .bool true) (law_alive _) (congrArg Value.bool rfl)) fun v w hR => ?_
    obtain ⟨rfl, hE⟩ := hR
    refine ⟨trivial, ?_⟩
    replace hm := hm.ext hE
    refine rw_p rfl rfl (y_move rfl) ?_
    refine rw_p rfl rfl (y_move rfl) ?_
    refine rw_p rfl rfl (y_move rfl) ?_
    refine a_buildSlice (l := [_]) rfl rfl sl34 z22 rfl rfl rfl rfl rfl rfl rfl hm trivial fun m1 w hg_m1 hm hh => ?_
    refine a_call rfl rfl rfl go13 (h_write _ 1 [⟨(some ⟨g_s, 0, none⟩), bs.length, bs⟩] 54 m_h [] Z_h _ (OwnZ.right (A := [_, _]) hm.ownZ) hz_h (by simp <;> omega) (Rd.row0 (hm.get (k := 0) rfl)) (by simp only [List.mem_singleton]; rintro _ rfl; exact (ha_s.rd hm 1 rfl)) (hm.notS (A := [_, _]) 0 rfl) (by simp only [List.mem_singleton]; rintro _ rfl; exact (hm.notR (A := [_, _]) ha_s 1 rfl)) (by simp) (by simp <;> omega)) fun v w hR => ?_
    obtain ⟨rfl, Z_h, hz_h, hmc⟩ := hR
    refine ⟨trivial, ?_⟩
    replace hm := Mem.callZL (A := [_, _]) hm hmc
    rw [List.nil_append] at hz_h
    simp only [List.flatMap_cons, List.flatMap_nil, List.append_nil] at hz_h
    refine rw_p rfl rfl (y_move rfl) ?_
    refine rw_p rfl rfl (y_len rfl rfl sl22) ?_
    refine rw_p rfl rfl (y_as (c := true) (y_eq rfl rfl) (decide_eq_true (by simp))) ?_
    refine rw_p rfl rfl (y_pickT rfl rfl) ?_
    refine rw_p rfl rfl (y_move rfl) ?_
    refine rw_p rfl rfl (y_move rfl) ?_
    refine a_call rfl rfl rfl go14 (h_sum 54 m_h bs Z_h _ (OwnZ.right (A := [_, _]) hm.ownZ) hz_h (by omega)) fun v w hR => ?_
    obtain ⟨rfl, hE⟩ := hR
    refine ⟨trivial, ?_⟩
    replace hm := hm.ext hE
    refine rw_p rfl rfl (y_move rfl) ?_
    refine a_call rfl rfl rfl go11 (r2_of _ bs.length bs _ (ha_s.rd hm 1 rfl) (by omega)) fun v w hR => ?_
    obtain ⟨rfl, hE⟩ := hR
    refine ⟨trivial, ?_⟩
    replace hm := hm.ext hE
    refine rw_p rfl rfl (y_as (c := true) (y_eqF rfl rfl fl24 (fitB (n := 32) (Pl.sha_len _)) (fitB (n := 32) (Pl.sha_len _))) (by rw [eqLB]; exact decide_eq_true rfl)) ?_
    refine rw_p rfl rfl (y_pickT rfl rfl) ?_
    refine rw_p rfl rfl (y_move rfl) ?_
    refine rw_p rfl rfl (y_move rfl) ?_
    refine a_call rfl rfl rfl go15 (h_len 54 m_h bs Z_h _ (OwnZ.right (A := [_, _]) hm.ownZ) hz_h (by omega)) fun v w hR => ?_
    obtain ⟨rfl, hE⟩ := hR
    refine ⟨trivial, ?_⟩
    replace hm := hm.ext hE
    refine rw_p rfl rfl (y_move rfl) ?_
    refine rw_p rfl rfl (y_len rfl rfl sl22) ?_
    refine rw_p rfl rfl (y_as (c := true) (y_eq rfl rfl) (decide_eq_true (rfl))) ?_
    refine rw_p rfl rfl (y_pickT rfl rfl) ?_
    refine rw_p rfl rfl (y_assign rfl) ?_
    refine rw_done ?_
    refine gn_sq ?_
    refine HW_ret rfl ?_
    refine toR (fin hret rfl (.tmp rfl .nil) .one ?_)
    exact ⟨rfl, hm.to⟩

end Go.Proofs.Ytdiklnekplhhgaa
