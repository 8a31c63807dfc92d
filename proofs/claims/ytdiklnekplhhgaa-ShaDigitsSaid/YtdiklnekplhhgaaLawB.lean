/- Contracts of functions of the program: what each returns. Conditions: the hypotheses of each theorem. -/
import Derived.Test.YtdiklnekplhhgaaLaw
import Derived.Test.YtdiklnekplhhgaaRowS
set_option linter.unusedVariables false
set_option linter.unusedSimpArgs false
namespace Go.Proofs.Ytdiklnekplhhgaa
open Go Go.Cx

theorem go10 : isGo Try.prog 10 = true := by kernel_rfl
theorem go18 : isGo Try.prog 18 = true := by kernel_rfl
theorem go21 : isGo Try.prog 21 = true := by kernel_rfl
theorem z22 : zer Try.prog 22 = some [.slice none 0 0] := by kernel_rfl
theorem fl24 : flat Try.prog 24 [.num .u8, .num .u8, .num .u8, .num .u8, .num .u8, .num .u8, .num .u8, .num .u8, .num .u8, .num .u8, .num .u8, .num .u8, .num .u8, .num .u8, .num .u8, .num .u8, .num .u8, .num .u8, .num .u8, .num .u8, .num .u8, .num .u8, .num .u8, .num .u8, .num .u8, .num .u8, .num .u8, .num .u8, .num .u8, .num .u8, .num .u8, .num .u8] = true := by kernel_rfl
theorem go11 : isGo Try.prog 11 = true := by kernel_rfl
theorem go9 : isGo Try.prog 9 = true := by kernel_rfl
theorem go15 : isGo Try.prog 15 = true := by kernel_rfl

set_option maxHeartbeats 400000 in
theorem law_alive (w0 : World) : C Try.prog 9 [] w0 fun v w' => v = .bool true ∧ Ext No w0 w' := by
  refine C_of Try.func9 rfl rfl rfl fun κ hret hnorm => ?_
  have hm := Mem.start w0
  refine HW_seq rfl ?_
  refine HW_text (.pure 0 .done) (by kernel_rfl) ?_
  refine rw_p rfl rfl (y_assign rfl) ?_
  refine rw_done ?_
  refine gn_sq ?_
  refine HW_seq rfl ?_
  refine HW_text (.act 0 (.act 1 (.act 2 (.pure 3 (.act 4 (.act 5 (.act 6 (.act 7 (.act 8 (.act 9 (.pure 10 (.pure 11 .done)))))))))))) (by kernel_rfl) ?_
  refine a_call rfl rfl rfl go10 (h_of none 0 [] _ rfl (by simp) (by decide) (by decide)) fun v w hR => ?_
  obtain ⟨rfl, hE⟩ := hR
  refine ⟨trivial, ?_⟩
  replace hm := hm.ext hE
  refine a_call rfl rfl rfl go18 (h_format (Pl.sha []) _ (Pl.sha_len _)) fun v w hR => ?_
  obtain ⟨rfl, hE⟩ := hR
  refine ⟨trivial, ?_⟩
  replace hm := hm.ext hE
  refine a_call rfl rfl rfl go21 (C.as (v := .bool true) (hp_str (Pl.fmt (Pl.sha [])) [101, 51, 98, 48, 99, 52, 52, 50] _) (congrArg Value.bool (by rw [show ([101, 51, 98, 48, 99, 52, 52, 50] : List UInt8).length = 8 from rfl, Pl.sha_nil, Pl.fmt_len, Pl.sha_len]; rfl))) fun v w hR => ?_
  obtain ⟨rfl, hE⟩ := hR
  refine ⟨trivial, ?_⟩
  replace hm := hm.ext hE
  refine rw_p rfl rfl (y_move rfl) ?_
  refine a_buildSlice (l := [_, _, _]) rfl rfl sl22 z5 rfl rfl rfl rfl rfl rfl rfl hm trivial fun m1 w hg_m1 hm hh => ?_
  refine a_mkd rfl rfl rfl cb22 hm 0 rfl fun w hm => ?_
  refine a_buildSlice (l := [_]) rfl rfl sl34 z22 rfl rfl rfl rfl rfl rfl rfl hm trivial fun m2 w hg_m2 hm hh => ?_
  refine a_call rfl rfl rfl go10 (C.as (v := .agg ⟨(Pl.sha [97, 98, 99]).flatMap encB⟩) (h_of _ 1 [⟨(some ⟨m1, 0, none⟩), 3, [97, 98, 99]⟩] _ (Rd.row0 (hm.get (k := 0) rfl)) (by simp only [List.mem_singleton]; rintro _ rfl; exact (Rd.mkd (hm.get (k := 1) rfl))) (by simp) (by first | (simp only [List.flatMap_cons, List.flatMap_nil, List.append_nil]; omega) | (simp <;> omega))) (by simp only [List.flatMap_cons, List.flatMap_nil, List.append_nil])) fun v w hR => ?_
  obtain ⟨rfl, hE⟩ := hR
  refine ⟨trivial, ?_⟩
  replace hm := hm.ext hE
  refine a_call rfl rfl rfl go18 (h_format (Pl.sha [97, 98, 99]) _ (Pl.sha_len _)) fun v w hR => ?_
  obtain ⟨rfl, hE⟩ := hR
  refine ⟨trivial, ?_⟩
  replace hm := hm.ext hE
  refine a_call rfl rfl rfl go21 (C.as (v := .bool true) (hp_str (Pl.fmt (Pl.sha [97, 98, 99])) [98, 97, 55, 56, 49, 54, 98, 102] _) (congrArg Value.bool (by rw [show ([98, 97, 55, 56, 49, 54, 98, 102] : List UInt8).length = 8 from rfl, Pl.sha_abc, Pl.fmt_len, Pl.sha_len]; rfl))) fun v w hR => ?_
  obtain ⟨rfl, hE⟩ := hR
  refine ⟨trivial, ?_⟩
  replace hm := hm.ext hE
  refine rw_p rfl rfl (y_pickT rfl rfl) ?_
  refine rw_p rfl rfl (y_assign rfl) ?_
  refine rw_done ?_
  refine gn_sq ?_
  refine HW_ret rfl ?_
  refine toR (fin hret rfl (.tmp rfl .nil) .one ?_)
  exact ⟨rfl, hm.to⟩

set_option maxHeartbeats 400000 in
theorem law_digests (p : Option Addr) (cap : Nat) (bs : List UInt8) (w0 : World) (hb : SB.ok w0 ⟨p, cap, bs⟩) : C Try.prog 3 [.slice p bs.length cap] w0 fun v w' => v = .bool true ∧ Ext No w0 w' := by
  refine C_of Try.func3 rfl rfl rfl fun κ hret hnorm => ?_
  have hm := Mem.start w0
  refine HW_seq rfl ?_
  refine HW_text (.pure 0 .done) (by kernel_rfl) ?_
  refine rw_p rfl rfl (y_assign rfl) ?_
  refine rw_done ?_
  refine gn_sq ?_
  refine HW_seq rfl ?_
  refine HW_seq rfl ?_
  refine HW_text (.pure 0 (.pure 1 (.pure 2 .done))) (by kernel_rfl) ?_
  refine rw_p rfl rfl (y_move rfl) ?_
  refine rw_p rfl rfl (y_len rfl rfl sl22) ?_
  refine rw_p rfl rfl (y_gt rfl rfl) ?_
  refine rw_done ?_
  refine gn_sq ?_
  refine HW_cond rfl rfl (fun hc0 => ?_) (fun hc0 => ?_)
  ·
    simp only [Bool.and_eq_true, Bool.or_eq_true, Bool.and_eq_false_iff, Bool.or_eq_false_iff, Bool.not_eq_true', Bool.not_eq_false', decide_eq_true_eq, decide_eq_false_iff_not] at hc0
    refine HW_seq rfl ?_
    refine HW_text (.act 0 (.pure 1 .done)) (by kernel_rfl) ?_
    refine a_call rfl rfl rfl go9 (C.as (v := .bool true) (law_alive _) (congrArg Value.bool rfl)) fun v w hR => ?_
    obtain ⟨rfl, hE⟩ := hR
    refine ⟨trivial, ?_⟩
    replace hm := hm.ext hE
    refine rw_p rfl rfl (y_assign rfl) ?_
    refine rw_done ?_
    refine gn_sq ?_
    refine HW_ret rfl ?_
    refine gr_sq ?_
    refine toR (fin hret rfl (.tmp rfl .nil) .one ?_)
    exact ⟨rfl, hm.to⟩
  ·
    simp only [Bool.and_eq_true, Bool.or_eq_true, Bool.and_eq_false_iff, Bool.or_eq_false_iff, Bool.not_eq_true', Bool.not_eq_false', decide_eq_true_eq, decide_eq_false_iff_not] at hc0
    refine HW_skip rfl ?_
    refine gn_sq ?_
    refine HW_seq rfl ?_
    refine HW_text (.act 0 (.pure 1 (.pure 2 (.act 3 (.act 4 (.pure 5 (.act 6 (.pure 7 (.pure 8 (.pure 9 .done)))))))))) (by kernel_rfl) ?_
    refine a_call rfl rfl rfl go9 (C.as (v := .bool true) (law_alive _) (congrArg Value.bool rfl)) fun v w hR => ?_
    obtain ⟨rfl, hE⟩ := hR
    refine ⟨trivial, ?_⟩
    replace hm := hm.ext hE
    refine rw_p rfl rfl (y_move rfl) ?_
    refine rw_p rfl rfl (y_move rfl) ?_
    refine a_buildSlice (l := [_]) rfl rfl sl34 z22 rfl rfl rfl rfl rfl rfl rfl hm trivial fun m1 w hg_m1 hm hh => ?_
    refine a_call rfl rfl rfl go10 (C.as (v := .agg ⟨(Pl.sha bs).flatMap encB⟩) (h_of _ 1 [⟨p, cap, bs⟩] _ (Rd.row0 (hm.get (k := 0) rfl)) (by simp only [List.mem_singleton]; rintro _ rfl; exact (hb.rd.ext0 hm.to)) (by simp) (by first | (simp only [List.flatMap_cons, List.flatMap_nil, List.append_nil]; omega) | (simp <;> omega))) (by simp only [List.flatMap_cons, List.flatMap_nil, List.append_nil])) fun v w hR => ?_
    obtain ⟨rfl, hE⟩ := hR
    refine ⟨trivial, ?_⟩
    replace hm := hm.ext hE
    refine rw_p rfl rfl (y_move rfl) ?_
    refine a_call rfl rfl rfl go11 (r2_of p cap bs _ (hb.rd.ext0 hm.to) (by omega)) fun v w hR => ?_
    obtain ⟨rfl, hE⟩ := hR
    refine ⟨trivial, ?_⟩
    replace hm := hm.ext hE
    refine rw_p rfl rfl (y_as (c := true) (y_eqF rfl rfl fl24 (fitB (n := 32) (Pl.sha_len _)) (fitB (n := 32) (Pl.sha_len _))) (by rw [eqLB]; exact decide_eq_true rfl)) ?_
    refine rw_p rfl rfl (y_pickT rfl rfl) ?_
    refine rw_p rfl rfl (y_assign rfl) ?_
    refine rw_done ?_
    refine gn_sq ?_
    refine HW_ret rfl ?_
    refine toR (fin hret rfl (.tmp rfl .nil) .one ?_)
    exact ⟨rfl, hm.to⟩

set_option maxHeartbeats 1600000 in
theorem law_lengths (a0 a1 : Int) (w0 : World) (h0 : 0 ≤ a0 ∧ a0 ≤ 255) (h1 : 0 ≤ a1 ∧ a1 ≤ 255) : C Try.prog 4 [.int .u8 a0, .int .u8 a1] w0 fun v w' => v = .bool true ∧ Ext No w0 w' := by
  obtain ⟨c, rfl⟩ := Row.u8_of h0
  obtain ⟨d, rfl⟩ := Row.u8_of h1
  obtain ⟨k, hk⟩ : ∃ k, d.toNat % 140 = k := ⟨_, rfl⟩
  have hk140 : k < 140 := by omega
  refine C_of Try.func4 rfl rfl rfl fun κ hret hnorm => ?_
  have hm := Mem.start w0
  refine HW_seq rfl ?_
  refine HW_text (.pure 0 .done) (by kernel_rfl) ?_
  refine rw_p rfl rfl (y_assign rfl) ?_
  refine rw_done ?_
  refine gn_sq ?_
  refine HW_seq rfl ?_
  refine HW_text (.pure 0 (.pure 1 (.pure 2 (.act 3 (.pure 4 .done))))) (by kernel_rfl) ?_
  refine rw_p rfl rfl (y_move rfl) ?_
  refine rw_p rfl rfl (y_conv rfl is5 it3 (i64N (n := d.toNat) (by omega))) ?_
  refine rw_p rfl rfl (y_rem rfl rfl (by decide) ((remK d.toNat 140).trans (by rw [hk]))) ?_
  refine a_make rfl rfl rfl rfl sl22 z5 rfl (by omega) (by omega) (by omega) hm trivial fun g_s w hg_s ha_s hm hh => ?_
  replace ha_s := ha_s.to (show _ = (((List.replicate k c).take 0 ++ List.replicate (k - 0) 0).flatMap encB) by rw [repB]; rfl)
  refine rw_p rfl rfl (y_assign rfl) ?_
  refine rw_done ?_
  refine gn_sq ?_
  refine HW_seq rfl ?_
  refine HW_seq rfl ?_
  refine HW_text (.pure 0 (.pure 1 (.pure 2 .done))) (by kernel_rfl) ?_
  refine rw_p rfl rfl (y_move rfl) ?_
  refine rw_p rfl rfl (y_len rfl rfl sl22) ?_
  refine rw_p rfl rfl (y_move rfl) ?_
  refine rw_done ?_
  refine gn_sq ?_
  refine HW_block rfl ?_
  refine HW_loopK (ι := Nat × Blk) rfl (ks := [0, 4, 5, 13]) (.cons rfl (.cons rfl (.cons rfl (.cons rfl .nil)))) (fun x => [(14, .int .i64 x.1)]) (fun x w => Mem w0 w No [(g_s, x.2)] ∧ Acc 5 1 (some ⟨g_s, 0, none⟩) k k (((List.replicate k c).take x.1 ++ List.replicate (k - x.1) 0).flatMap encB) g_s x.2 ∧ x.1 ≤ k) (fun x => k - x.1) (0, _) (⟨(hm.pick [0] rfl), ha_s, Nat.zero_le _⟩) ⟨rfl, trivial⟩ (fun x w hM => ?_)
  obtain ⟨hm, ha_s, hk1⟩ := hM
  refine HW_seq rfl ?_
  refine HW_text (.pure 0 .done) (by kernel_rfl) ?_
  refine rw_p rfl rfl (y_lt rfl rfl) ?_
  refine rw_done ?_
  refine gn_sq ?_
  refine HW_seq rfl ?_
  refine HW_cond rfl rfl (fun hc0 => ?_) (fun hc0 => ?_)
  ·
    obtain ⟨i, b_s⟩ := x
    simp only at hm ha_s hk1 hc0 ⊢
    simp only [decide_eq_true_eq] at hc0
    have hri : (List.replicate k c)[i]? = some c := by rw [List.getElem?_replicate, if_pos (by omega)]
    refine HW_skip rfl ?_
    refine gn_sq ?_
    refine HW_seq rfl ?_
    refine HW_block rfl ?_
    refine HW_seq rfl ?_
    refine HW_text (.pure 0 (.pure 1 .done)) (by kernel_rfl) ?_
    refine rw_p rfl rfl (y_move rfl) ?_
    refine rw_p rfl rfl (y_assign rfl) ?_
    refine rw_done ?_
    refine gn_sq ?_
    refine HW_text (.pure 0 (.pure 1 (.pure 2 (.pure 3 (.act 4 .done))))) (by kernel_rfl) ?_
    refine rw_p rfl rfl (y_move rfl) ?_
    refine rw_p rfl rfl (y_move rfl) ?_
    refine rw_p rfl rfl (y_move rfl) ?_
    refine rw_p rfl rfl (y_index rfl rfl sl22 rfl (by omega) (by omega)) ?_
    refine a_storeE rfl rfl rfl rfl sz5 rfl rfl ha_s (by omega) hm 0 rfl fun b_s w ha_s hm => ?_
    replace ha_s := ha_s.to (show _ = (((List.replicate k c).take (i + 1) ++ List.replicate (k - (i + 1)) 0).flatMap encB) by rw [show (i : Int).toNat = i from rfl, updB, fill_next (by rw [List.length_take, List.length_replicate]; omega) (by omega), ← Pl.take_snoc hri])
    refine rw_done ?_
    refine gn_bl ?_
    refine gn_sq ?_
    refine HW_text (.pure 0 (.pure 1 .done)) (by kernel_rfl) ?_
    refine rw_p rfl rfl (y_add rfl rfl (i64w (by omega) (by omega))) ?_
    refine rw_p rfl rfl (y_move rfl) ?_
    refine rw_done ?_
    exact next (i + 1, b_s) (by simp only; omega) ⟨(hm.pick [0] rfl), ha_s, by simp only; omega⟩ ⟨nx i, rfl, rfl, rfl, rfl, trivial⟩
  ·
    obtain ⟨i, b_s⟩ := x
    simp only at hm ha_s hk1 hc0 ⊢
    simp only [decide_eq_false_iff_not] at hc0
    have hm9 := hm
    obtain rfl : k = i := by omega
    rw [Nat.sub_self, List.replicate_zero, List.append_nil, List.take_of_length_le (by simp)] at ha_s
    obtain ⟨bs, hbs⟩ : ∃ bs, List.replicate k c = bs := ⟨_, rfl⟩
    rw [hbs] at ha_s
    have hbl : k = bs.length := by rw [← hbs, List.length_replicate]
    subst hbl
    have hm := hm9
    refine HW_exit rfl ?_
    refine gx_sq (gx_lp ?_)
    refine gx_here ?_
    refine gn_sq ?_
    refine HW_seq rfl ?_
    refine HW_text (.act 0 (.pure 1 .done)) (by kernel_rfl) ?_
    refine a_call rfl rfl rfl go12 (h_new _) fun v w hR => ?_
    obtain ⟨m_h, Z_h, rfl, hz_h, hmc⟩ := hR
    refine ⟨trivial, ?_⟩
    replace hm := Mem.callTZ hm hmc
    refine rw_p rfl rfl (y_assign rfl) ?_
    refine rw_done ?_
    refine gn_sq ?_
    refine HW_seq rfl ?_
    refine HW_seq rfl ?_
    refine HW_text (.pure 0 (.pure 1 .done)) (by kernel_rfl) ?_
    refine rw_p rfl rfl (y_move rfl) ?_
    refine rw_p rfl rfl (y_pnil rfl rfl pb28) ?_
    refine rw_done ?_
    refine gn_sq ?_
    refine HW_condF rfl rfl rfl ?_
    refine HW_skip rfl ?_
    refine gn_sq ?_
    refine HW_seq rfl ?_
    refine HW_text (.act 0 (.pure 1 (.pure 2 (.pure 3 (.act 4 (.act 5 (.pure 6 (.pure 7 (.pure 8 (.pure 9 (.pure 10 (.pure 11 (.act 12 (.pure 13 (.act 14 (.pure 15 (.pure 16 (.pure 17 (.pure 18 (.act 19 (.pure 20 (.pure 21 (.pure 22 (.pure 23 (.pure 24 .done))))))))))))))))))))))))) (by kernel_rfl) ?_
    refine a_call rfl rfl rfl go9 (C.as (v := .bool true) (law_alive _) (congrArg Value.bool rfl)) fun v w hR => ?_
    obtain ⟨rfl, hE⟩ := hR
    refine ⟨trivial, ?_⟩
    replace hm := hm.ext hE
    refine rw_p rfl rfl (y_move rfl) ?_
    refine rw_p rfl rfl (y_move rfl) ?_
    refine rw_p rfl rfl (y_move rfl) ?_
    refine a_buildSlice (l := [_]) rfl rfl sl34 z22 rfl rfl rfl rfl rfl rfl rfl hm trivial fun m1 w hg_m1 hm hh => ?_
    refine a_call rfl rfl rfl go13 (h_write _ 1 [⟨(some ⟨g_s, 0, none⟩), bs.length, bs⟩] 54 m_h [] Z_h _ (OwnZ.right (A := [_, _]) hm.ownZ) hz_h (by simp <;> omega) (Rd.row0 (hm.get (k := 0) rfl)) (by simp only [List.mem_singleton]; rintro _ rfl; exact (ha_s.rd hm 1 rfl)) (hm.notS (A := [_, _]) 0 rfl) (by simp only [List.mem_singleton]; rintro _ rfl; exact (hm.notR (A := [_, _]) ha_s 1 rfl)) (by simp) (by first | (simp only [List.flatMap_cons, List.flatMap_nil, List.append_nil]; omega) | (simp <;> omega))) fun v w hR => ?_
    obtain ⟨rfl, Z_h, hz_h, hmc⟩ := hR
    refine ⟨trivial, ?_⟩
    replace hm := Mem.callZL (A := [_, _]) hm hmc
    rw [List.nil_append] at hz_h
    simp only [List.flatMap_cons, List.flatMap_nil, List.append_nil] at hz_h
    refine rw_p rfl rfl (y_move rfl) ?_
    refine rw_p rfl rfl (y_len rfl rfl sl22) ?_
    refine rw_p rfl rfl (y_as (c := true) (y_eq rfl rfl) (decide_eq_true (by simp))) ?_
    refine rw_p rfl rfl (y_pickT rfl rfl) ?_
    refine rw_p rfl rfl (y_move rfl) ?_
    refine rw_p rfl rfl (y_move rfl) ?_
    refine a_call rfl rfl rfl go14 (h_sum 54 m_h bs Z_h _ (OwnZ.right (A := [_, _]) hm.ownZ) hz_h (by omega)) fun v w hR => ?_
    obtain ⟨rfl, hE⟩ := hR
    refine ⟨trivial, ?_⟩
    replace hm := hm.ext hE
    refine rw_p rfl rfl (y_move rfl) ?_
    refine a_call rfl rfl rfl go11 (r2_of _ bs.length bs _ (ha_s.rd hm 1 rfl) (by omega)) fun v w hR => ?_
    obtain ⟨rfl, hE⟩ := hR
    refine ⟨trivial, ?_⟩
    replace hm := hm.ext hE
    refine rw_p rfl rfl (y_as (c := true) (y_eqF rfl rfl fl24 (fitB (n := 32) (Pl.sha_len _)) (fitB (n := 32) (Pl.sha_len _))) (by rw [eqLB]; exact decide_eq_true rfl)) ?_
    refine rw_p rfl rfl (y_pickT rfl rfl) ?_
    refine rw_p rfl rfl (y_move rfl) ?_
    refine rw_p rfl rfl (y_move rfl) ?_
    refine a_call rfl rfl rfl go15 (h_len 54 m_h bs Z_h _ (OwnZ.right (A := [_, _]) hm.ownZ) hz_h (by omega)) fun v w hR => ?_
    obtain ⟨rfl, hE⟩ := hR
    refine ⟨trivial, ?_⟩
    replace hm := hm.ext hE
    refine rw_p rfl rfl (y_move rfl) ?_
    refine rw_p rfl rfl (y_len rfl rfl sl22) ?_
    refine rw_p rfl rfl (y_as (c := true) (y_eq rfl rfl) (decide_eq_true (rfl))) ?_
    refine rw_p rfl rfl (y_pickT rfl rfl) ?_
    refine rw_p rfl rfl (y_assign rfl) ?_
    refine rw_done ?_
    refine gn_sq ?_
    refine HW_ret rfl ?_
    refine toR (fin hret rfl (.tmp rfl .nil) .one ?_)
    exact ⟨rfl, hm.to⟩

set_option maxHeartbeats 3200000 in
theorem law_parts (q : Option Addr) (cq : Nat) (ps : List SB) (w0 : World) (hq : Rd w0 q (ps.flatMap encS)) (hps : ∀ s ∈ ps, SB.ok w0 s) : C Try.prog 5 [.slice q ps.length cq] w0 fun v w' => v = .bool true ∧ Ext No w0 w' := by
  refine C_of Try.func5 rfl rfl rfl fun κ hret hnorm => ?_
  have hm := Mem.start w0
  refine HW_seq rfl ?_
  refine HW_text (.pure 0 .done) (by kernel_rfl) ?_
  refine rw_p rfl rfl (y_assign rfl) ?_
  refine rw_done ?_
  refine gn_sq ?_
  refine HW_seq rfl ?_
  refine HW_seq rfl ?_
  refine HW_text (.pure 0 (.pure 1 (.pure 2 .done))) (by kernel_rfl) ?_
  refine rw_p rfl rfl (y_move rfl) ?_
  refine rw_p rfl rfl (y_len rfl rfl sl34) ?_
  refine rw_p rfl rfl (y_gt rfl rfl) ?_
  refine rw_done ?_
  refine gn_sq ?_
  refine HW_cond rfl rfl (fun hc0 => ?_) (fun hc0 => ?_)
  ·
    refine HW_seq rfl ?_
    refine HW_text (.act 0 (.pure 1 .done)) (by kernel_rfl) ?_
    refine a_call rfl rfl rfl go9 (C.as (v := .bool true) (law_alive _) (congrArg Value.bool rfl)) fun v w hR => ?_
    obtain ⟨rfl, hE⟩ := hR
    refine ⟨trivial, ?_⟩
    replace hm := hm.ext hE
    refine rw_p rfl rfl (y_assign rfl) ?_
    refine rw_done ?_
    refine gn_sq ?_
    refine HW_ret rfl ?_
    refine gr_sq ?_
    refine toR (fin hret rfl (.tmp rfl .nil) .one ?_)
    exact ⟨rfl, hm.to⟩
  ·
    simp only [decide_eq_false_iff_not] at hc0
    refine HW_skip rfl ?_
    refine gn_sq ?_
    refine HW_seq rfl ?_
    refine HW_text (.pure 0 .done) (by kernel_rfl) ?_
    refine rw_p rfl rfl (y_assign rfl) ?_
    replace hm := hm.gapIn
    have ha_s := Acc.nil 5 1 none 0
    refine rw_done ?_
    refine gn_sq ?_
    refine HW_seq rfl ?_
    refine HW_seq rfl ?_
    refine HW_text (.pure 0 (.pure 1 (.pure 2 .done))) (by kernel_rfl) ?_
    refine rw_p rfl rfl (y_move rfl) ?_
    refine rw_p rfl rfl (y_len rfl rfl sl34) ?_
    refine rw_p rfl rfl (y_move rfl) ?_
    refine rw_done ?_
    refine gn_sq ?_
    refine HW_block rfl ?_
    refine HW_loopK (ι := Nat × Option Addr × Nat × Nat × Blk) rfl (ks := [0, 16, 17]) (.cons rfl (.cons rfl (.cons rfl .nil))) (fun x => [(18, .int .i64 x.1), (3, .slice x.2.1 ((ps.take x.1).flatMap (·.bs)).length x.2.2.1)]) (fun x w => Mem w0 w No [(x.2.2.2.1, x.2.2.2.2)] ∧ Acc 5 1 x.2.1 ((ps.take x.1).flatMap (·.bs)).length x.2.2.1 (((ps.take x.1).flatMap (·.bs)).flatMap encB) x.2.2.2.1 x.2.2.2.2 ∧ x.1 ≤ ps.length ∧ ∀ (j : Nat) z, j < x.1 → ps[j]? = some z → z.bs.length ≤ 200) (fun x => ps.length - x.1) (0, none, 0, 0, .gap) (⟨hm, ha_s, Nat.zero_le _, fun _ _ h => absurd h (Nat.not_lt_zero _)⟩) ⟨rfl, rfl, trivial⟩ (fun x w hM => ?_)
    obtain ⟨hm, ha_s, hk, h200⟩ := hM
    refine HW_seq rfl ?_
    refine HW_text (.pure 0 .done) (by kernel_rfl) ?_
    refine rw_p rfl rfl (y_lt rfl rfl) ?_
    refine rw_done ?_
    refine gn_sq ?_
    refine HW_seq rfl ?_
    refine HW_cond rfl rfl (fun hc1 => ?_) (fun hc1 => ?_)
    ·
      obtain ⟨x, p_s, cap_s, g_s, b_s⟩ := x
      simp only at hm ha_s hk hc1 h200 ⊢
      simp only [decide_eq_true_eq] at hc1
      obtain ⟨s, hi⟩ : ∃ y_, ps[x]? = some y_ := ⟨_, List.getElem?_eq_getElem (by omega)⟩
      obtain ⟨b2, o2, hp2⟩ := hq.atI encS_len (by decide) hi
      have hse := hps s (List.mem_of_getElem? hi)
      have hft := flat_take hi
      have hfx := flat200 h200 (by omega)
      refine HW_skip rfl ?_
      refine gn_sq ?_
      refine HW_seq rfl ?_
      refine HW_block rfl ?_
      refine HW_seq rfl ?_
      refine HW_text (.pure 0 (.pure 1 (.pure 2 .done))) (by kernel_rfl) ?_
      refine rw_p rfl rfl (y_index rfl rfl sl34 hp2 (by omega) (by omega)) ?_
      refine rw_p rfl rfl (y_el1 rfl sc22 (hp2 ▸ hq.ext0 hm.to).nt encS_len hi rfl) ?_
      refine rw_p rfl rfl (y_assign rfl) ?_
      refine rw_done ?_
      refine gn_sq ?_
      refine HW_seq rfl ?_
      refine HW_seq rfl ?_
      refine HW_text (.pure 0 (.pure 1 (.pure 2 .done))) (by kernel_rfl) ?_
      refine rw_p rfl rfl (y_move rfl) ?_
      refine rw_p rfl rfl (y_len rfl rfl sl22) ?_
      refine rw_p rfl rfl (y_gt rfl rfl) ?_
      refine rw_done ?_
      refine gn_sq ?_
      refine HW_cond rfl rfl (fun hc2 => ?_) (fun hc2 => ?_)
      ·
        refine HW_seq rfl ?_
        refine HW_text (.act 0 (.pure 1 .done)) (by kernel_rfl) ?_
        refine a_call rfl rfl rfl go9 (C.as (v := .bool true) (law_alive _) (congrArg Value.bool rfl)) fun v w hR => ?_
        obtain ⟨rfl, hE⟩ := hR
        refine ⟨trivial, ?_⟩
        replace hm := hm.ext hE
        refine rw_p rfl rfl (y_assign rfl) ?_
        refine rw_done ?_
        refine gn_sq ?_
        refine HW_ret rfl ?_
        refine gr_sq (gr_bl (gr_sq (gr_lp (gr_bl (gr_sq ?_)))))
        refine toR (fin hret rfl (.tmp rfl .nil) .one ?_)
        exact ⟨rfl, hm.to⟩
      ·
        simp only [decide_eq_false_iff_not] at hc2
        refine HW_skip rfl ?_
        refine gn_sq ?_
        refine HW_text (.pure 0 (.pure 1 (.act 2 (.pure 3 .done)))) (by kernel_rfl) ?_
        refine rw_p rfl rfl (y_move rfl) ?_
        refine rw_p rfl rfl (y_move rfl) ?_
        refine a_append rfl rfl rfl rfl rfl rfl sl22 sl22 z5 rfl (oneB _) (hse.rd.ext0 hm.to) (lenB _) ha_s hm 0 rfl (by omega) (by omega) fun p_s cap_s g_s b_s w ha_s hm => ?_
        have hne : ((ps.take x).flatMap (·.bs)).length + s.bs.length = ((ps.take (x + 1)).flatMap (·.bs)).length := by rw [hft, List.length_append]
        replace ha_s := ha_s.to (show _ = ((ps.take (x + 1)).flatMap (·.bs)).flatMap encB by rw [hft, List.flatMap_append])
        refine rw_p rfl rfl (y_assign rfl) ?_
        refine rw_done ?_
        refine gn_bl ?_
        refine gn_sq ?_
        refine HW_text (.pure 0 (.pure 1 .done)) (by kernel_rfl) ?_
        refine rw_p rfl rfl (y_add rfl rfl (i64w (by omega) (by omega))) ?_
        refine rw_p rfl rfl (y_move rfl) ?_
        refine rw_done ?_
        refine next (x + 1, p_s, cap_s, g_s, b_s) (by simp only; omega) ⟨(hm.pick [0] rfl), by simp only; rw [← hne]; exact ha_s, by simp only; omega, fun j z hj hz => ?_⟩ ⟨nx x, congrArg (fun z => some (Value.slice p_s z cap_s)) hne, rfl, rfl, rfl, trivial⟩
        simp only at hj
        rcases Nat.lt_or_ge j x with h | h
        · exact h200 j z h hz
        · obtain rfl : j = x := by omega
          rw [hi] at hz; cases hz; omega
    ·
      obtain ⟨x, p_s, cap_s, g_s, b_s⟩ := x
      simp only at hm ha_s hk hc1 h200 ⊢
      simp only [decide_eq_false_iff_not] at hc1
      have hm9 := hm
      obtain rfl : x = ps.length := by omega
      have hfx := flat200 h200 (Nat.le_refl _)
      rw [List.take_length] at ha_s hfx ⊢
      have hall : ∀ z ∈ ps, z.bs.length ≤ 200 := fun z hz => by obtain ⟨j, hj⟩ := List.mem_iff_getElem?.1 hz; exact h200 j z (List.getElem?_eq_some_iff.1 hj).1 hj
      have hm := hm9
      refine HW_exit rfl ?_
      refine gx_sq (gx_lp ?_)
      refine gx_here ?_
      refine gn_sq ?_
      refine HW_seq rfl ?_
      refine HW_text (.act 0 (.act 1 (.pure 2 (.pure 3 .done)))) (by kernel_rfl) ?_
      refine a_call rfl rfl rfl go12 (h_new _) fun v w hR => ?_
      obtain ⟨m_h, Z_h, rfl, hz_h, hmc⟩ := hR
      refine ⟨trivial, ?_⟩
      replace hm := Mem.callTZ hm hmc
      refine a_call rfl rfl rfl go12 (h_new _) fun v w hR => ?_
      obtain ⟨m_g, Z_g, rfl, hz_g, hmc⟩ := hR
      refine ⟨trivial, ?_⟩
      replace hm := Mem.callD2 (A := [_]) hm hmc
      refine rw_p rfl rfl (y_assign rfl) ?_
      refine rw_p rfl rfl (y_assign rfl) ?_
      refine rw_done ?_
      refine gn_sq ?_
      refine HW_seq rfl ?_
      refine HW_seq rfl ?_
      refine HW_text (.pure 0 (.pure 1 (.pure 2 (.pure 3 (.pure 4 (.pure 5 .done)))))) (by kernel_rfl) ?_
      refine rw_p rfl rfl (y_move rfl) ?_
      refine rw_p rfl rfl (y_pnil rfl rfl pb28) ?_
      refine rw_p rfl rfl (y_move rfl) ?_
      refine rw_p rfl rfl (y_move rfl) ?_
      refine rw_p rfl rfl (y_pnil rfl rfl pb28) ?_
      refine rw_p rfl rfl (y_pickF rfl rfl) ?_
      refine rw_done ?_
      refine gn_sq ?_
      refine HW_condF rfl rfl rfl ?_
      refine HW_skip rfl ?_
      refine gn_sq ?_
      refine HW_seq rfl ?_
      refine HW_seq rfl ?_
      refine HW_text (.pure 0 (.pure 1 (.pure 2 .done))) (by kernel_rfl) ?_
      refine rw_p rfl rfl (y_move rfl) ?_
      refine rw_p rfl rfl (y_len rfl rfl sl34) ?_
      refine rw_p rfl rfl (y_move rfl) ?_
      refine rw_done ?_
      refine gn_sq ?_
      refine HW_block rfl ?_
      refine HW_loopK (ι := Nat × List (Nat × Blk)) rfl (ks := [0, 3, 6, 7, 38, 39]) (.cons rfl (.cons rfl (.cons rfl (.cons rfl (.cons rfl (.cons rfl .nil)))))) (fun x => [(40, .int .i64 x.1)]) (fun x w => Mem w0 w No ((g_s, b_s) :: (x.2 ++ Z_g)) ∧ HashZ 54 5 ((ps.take x.1).flatMap (·.bs)) m_h x.2 ∧ x.1 ≤ ps.length) (fun x => ps.length - x.1) (0, Z_h) (⟨(hm.pickT [0] 1 rfl), hz_h, Nat.zero_le _⟩) ⟨rfl, trivial⟩ (fun x w hM => ?_)
      obtain ⟨hm, hz_h, hk1⟩ := hM
      refine HW_seq rfl ?_
      refine HW_text (.pure 0 .done) (by kernel_rfl) ?_
      refine rw_p rfl rfl (y_lt rfl rfl) ?_
      refine rw_done ?_
      refine gn_sq ?_
      refine HW_seq rfl ?_
      refine HW_cond rfl rfl (fun hc4 => ?_) (fun hc4 => ?_)
      ·
        obtain ⟨x, Z_h⟩ := x
        simp only at hm hz_h hk1 hc4 ⊢
        simp only [decide_eq_true_eq] at hc4
        obtain ⟨s, hi⟩ : ∃ y_, ps[x]? = some y_ := ⟨_, List.getElem?_eq_getElem (by omega)⟩
        obtain ⟨b2, o2, hp2⟩ := hq.atI encS_len (by decide) hi
        have hse := hps s (List.mem_of_getElem? hi)
        have hft := flat_take hi
        have hsl := hall s (List.mem_of_getElem? hi)
        have hfl := flat_le ps x
        refine HW_skip rfl ?_
        refine gn_sq ?_
        refine HW_seq rfl ?_
        refine HW_block rfl ?_
        refine HW_seq rfl ?_
        refine HW_text (.pure 0 (.pure 1 (.pure 2 (.pure 3 (.pure 4 .done))))) (by kernel_rfl) ?_
        refine rw_p rfl rfl (y_move rfl) ?_
        refine rw_p rfl rfl (y_index rfl rfl sl34 hp2 (by omega) (by omega)) ?_
        refine rw_p rfl rfl (y_el1 rfl sc22 (hp2 ▸ hq.ext0 hm.to).nt encS_len hi rfl) ?_
        refine rw_p rfl rfl (y_assign rfl) ?_
        refine rw_p rfl rfl (y_assign rfl) ?_
        refine rw_done ?_
        refine gn_sq ?_
        refine HW_seq rfl ?_
        refine HW_seq rfl ?_
        refine HW_text (.pure 0 (.pure 1 (.act 2 (.act 3 (.pure 4 (.pure 5 (.pure 6 .done))))))) (by kernel_rfl) ?_
        refine rw_p rfl rfl (y_move rfl) ?_
        refine rw_p rfl rfl (y_move rfl) ?_
        refine a_buildSlice (l := [_]) rfl rfl sl34 z22 rfl rfl rfl rfl rfl rfl rfl hm trivial fun m1 w hg_m1 hm hh => ?_
        refine a_call rfl rfl rfl go13 (h_write _ 1 [⟨s.p, s.cap, s.bs⟩] 54 m_h ((ps.take x).flatMap (·.bs)) Z_h _ (OwnZ.mid (A := [_, _]) hm.ownZ) hz_h (by omega) (Rd.row0 (hm.get (k := 0) rfl)) (by simp only [List.mem_singleton]; rintro _ rfl; exact (hse.rd.ext0 hm.to)) (hm.notSw (A := [_, _]) 0 rfl) (by simp only [List.mem_singleton]; rintro _ rfl; exact ((Mem.right (L := [_, _]) hm).left.apartX hse.rd (fun _ _ _ h => h))) (by simp) (by first | (simp only [List.flatMap_cons, List.flatMap_nil, List.append_nil]; omega) | (simp <;> omega))) fun v w hR => ?_
        obtain ⟨rfl, Z_h, hz_h, hmc⟩ := hR
        refine ⟨trivial, ?_⟩
        replace hm := Mem.callM (A := [_, _]) hm hmc
        simp only [List.flatMap_cons, List.flatMap_nil, List.append_nil] at hz_h
        refine rw_p rfl rfl (y_move rfl) ?_
        refine rw_p rfl rfl (y_len rfl rfl sl22) ?_
        refine rw_p rfl rfl (y_as (c := false) (y_ne rfl rfl) (decide_eq_false (fun h => h (by simp)))) ?_
        refine rw_done ?_
        refine gn_sq ?_
        refine HW_condF rfl rfl rfl ?_
        refine HW_skip rfl ?_
        refine gn_sq ?_
        refine HW_seq rfl ?_
        refine HW_text (.pure 0 (.pure 1 (.pure 2 .done))) (by kernel_rfl) ?_
        refine rw_p rfl rfl (y_move rfl) ?_
        refine rw_p rfl rfl (y_rem rfl rfl (by decide) rfl) ?_
        refine rw_p rfl rfl (y_eq rfl rfl) ?_
        refine rw_done ?_
        refine gn_sq ?_
        refine HW_cond rfl rfl (fun hc6 => ?_) (fun hc6 => ?_)
        ·
          refine HW_text (.pure 0 (.act 1 .done)) (by kernel_rfl) ?_
          refine rw_p rfl rfl (y_move rfl) ?_
          refine a_call rfl rfl rfl go14 (h_sum 54 m_h (((ps.take x).flatMap (·.bs)) ++ s.bs) Z_h _ (OwnZ.mid (A := [_, _]) hm.ownZ) hz_h (by rw [List.length_append]; omega)) fun v w hR => ?_
          obtain ⟨rfl, hE⟩ := hR
          refine ⟨trivial, ?_⟩
          replace hm := hm.ext hE
          refine rw_done ?_
          refine gn_bl ?_
          refine gn_sq ?_
          refine HW_text (.pure 0 (.pure 1 .done)) (by kernel_rfl) ?_
          refine rw_p rfl rfl (y_add rfl rfl (i64w (by omega) (by omega))) ?_
          refine rw_p rfl rfl (y_move rfl) ?_
          refine rw_done ?_
          refine next (x + 1, Z_h) (by simp only; omega) ⟨(hm.pickT [1] 2 rfl), by simp only; rw [hft]; exact hz_h, by simp only; omega⟩ ⟨nx x, rfl, rfl, rfl, rfl, rfl, rfl, trivial⟩
        ·
          refine HW_skip rfl ?_
          refine gn_bl ?_
          refine gn_sq ?_
          refine HW_text (.pure 0 (.pure 1 .done)) (by kernel_rfl) ?_
          refine rw_p rfl rfl (y_add rfl rfl (i64w (by omega) (by omega))) ?_
          refine rw_p rfl rfl (y_move rfl) ?_
          refine rw_done ?_
          refine next (x + 1, Z_h) (by simp only; omega) ⟨(hm.pickT [1] 2 rfl), by simp only; rw [hft]; exact hz_h, by simp only; omega⟩ ⟨nx x, rfl, rfl, rfl, rfl, rfl, rfl, trivial⟩
      ·
        obtain ⟨x, Z_h⟩ := x
        simp only at hm hz_h hk1 hc4 ⊢
        simp only [decide_eq_false_iff_not] at hc4
        have hm9 := hm
        have hz9 := hz_h
        obtain rfl : x = ps.length := by omega
        have hm := hm9
        have hz_h := hz9
        rw [List.take_length] at hz_h
        refine HW_exit rfl ?_
        refine gx_sq (gx_lp ?_)
        refine gx_here ?_
        refine gn_sq ?_
        refine HW_seq rfl ?_
        refine HW_text (.pure 0 (.pure 1 (.act 2 (.pure 3 .done)))) (by kernel_rfl) ?_
        refine rw_p rfl rfl (y_move rfl) ?_
        refine rw_p rfl rfl (y_move rfl) ?_
        refine a_call rfl rfl rfl go13 (h_write q cq ps 54 m_g [] Z_g _ (OwnZ.end (A := [_]) hm.ownZ) hz_g (Nat.zero_le _) (hq.ext0 hm.to) (fun s hs => (hps s hs).rd.ext0 hm.to) ((Mem.right (L := [_]) hm).right.apartX hq (fun _ _ _ h => h)) (fun s hs => (Mem.right (L := [_]) hm).right.apartX (hps s hs).rd (fun _ _ _ h => h)) (by omega) (by rw [List.length_nil]; omega)) fun v w hR => ?_
        obtain ⟨rfl, Z_g, hz_g, hmc⟩ := hR
        refine ⟨trivial, ?_⟩
        replace hm := Mem.callR (A := [_]) hm hmc
        rw [List.nil_append] at hz_g
        refine rw_p rfl rfl (y_assign rfl) ?_
        refine rw_done ?_
        refine gn_sq ?_
        refine HW_seq rfl ?_
        refine HW_text (.pure 0 (.act 1 (.act 2 (.act 3 (.act 4 .done))))) (by kernel_rfl) ?_
        refine rw_p rfl rfl (y_move rfl) ?_
        refine a_buildSlice (l := [_]) rfl rfl sl34 z22 rfl rfl rfl rfl rfl rfl rfl hm trivial fun m1 w hg_m1 hm hh => ?_
        refine a_call rfl rfl rfl go10 (C.as (v := .agg ⟨(Pl.sha (ps.flatMap (·.bs))).flatMap encB⟩) (h_of _ 1 [⟨p_s, cap_s, (ps.flatMap (·.bs))⟩] _ (Rd.row0 (hm.get (k := 0) rfl)) (by simp only [List.mem_singleton]; rintro _ rfl; exact (ha_s.rd hm 1 rfl)) (by simp) (by first | (simp only [List.flatMap_cons, List.flatMap_nil, List.append_nil]; omega) | (simp <;> omega))) (by simp only [List.flatMap_cons, List.flatMap_nil, List.append_nil])) fun v w hR => ?_
        obtain ⟨rfl, hE⟩ := hR
        refine ⟨trivial, ?_⟩
        replace hm := hm.ext hE
        refine a_alloc rfl rfl z24 hm trivial fun m2 w hg_m2 hm hh => ?_
        refine a_store rfl rfl rfl rfl (sz24.trans (congrArg some (lenB32 (Pl.sha_len _)).symm)) (oneB _) hm 0 rfl (by rw [Nat.ble_eq, lenB32 (Pl.sha_len _)]; exact Nat.le_refl 32) fun w hm => ?_
        rw [upds_z32 (Pl.sha_len _)] at hm
        have hdl := Pl.sha_len (ps.flatMap (·.bs))
        obtain ⟨dg, hdg⟩ : ∃ d, Pl.sha (ps.flatMap (·.bs)) = d := ⟨_, rfl⟩
        rw [hdg] at hm hdl ⊢
        refine rw_done ?_
        refine gn_sq ?_
        refine HW_seq rfl ?_
        refine HW_draw (.act 0 (.pure 1 (.pure 2 (.pure 3 (.pure 4 (.pure 5 (.pure 6 (.pure 7 (.pure 8 (.pure 10 (.act 9 (.pure 11 (.pure 12 (.pure 13 (.pure 14 (.pure 16 (.act 15 (.pure 17 (.pure 18 (.pure 19 (.pure 20 (.pure 22 (.act 21 (.pure 23 (.pure 24 (.pure 25 (.pure 26 (.pure 28 (.act 27 (.pure 29 (.pure 30 (.pure 31 (.pure 32 (.pure 34 (.pure 35 (.act 33 (.pure 36 (.pure 37 (.pure 38 .done))))))))))))))))))))))))))))))))))))))) No mix (by kernel_rfl) hm fun w hw hm0 hh => ?_
        have hm := hm0
        refine a_call rfl rfl rfl go9 (C.as (v := .bool true) (law_alive _) (congrArg Value.bool rfl)) fun v w hR => ?_
        obtain ⟨rfl, hE⟩ := hR
        refine ⟨hh.ext hE, ?_⟩
        replace hm := hm.ext hE
        replace hh := hh.ext hE
        refine rw_p rfl rfl (y_move rfl) ?_
        refine rw_p rfl rfl (y_move rfl) ?_
        refine rw_p rfl rfl (y_move rfl) ?_
        refine rw_p rfl rfl (y_len rfl rfl sl22) ?_
        refine rw_p rfl rfl (y_as (c := true) (y_eq rfl rfl) (decide_eq_true (rfl))) ?_
        refine rw_p rfl rfl (y_pickT rfl rfl) ?_
        refine rw_p rfl rfl (y_move rfl) ?_
        refine rw_p rfl rfl (y_move rfl) ?_
        refine rw_p rfl rfl (y_loadA (s := 32) (vs := (dg.flatMap encB)) rfl ag24 (hm0.nd 0 rfl id) (nthsB hdl)) ?_
        refine a_call rfl rfl rfl go14 (C.as (v := .agg ⟨dg.flatMap encB⟩) (h_sum 54 m_h (ps.flatMap (·.bs)) Z_h _ (OwnZ.mid (A := [_, _, _]) hm.ownZ) hz_h (by omega)) (by rw [hdg])) fun v w hR => ?_
        obtain ⟨rfl, hE⟩ := hR
        refine ⟨hh.ext hE, ?_⟩
        replace hm := hm.ext hE
        replace hh := hh.ext hE
        refine rw_p rfl rfl (y_as (c := true) (y_eqF rfl rfl fl24 (fitB (n := 32) hdl) (fitB (n := 32) hdl)) (by rw [eqLB]; exact decide_eq_true rfl)) ?_
        refine rw_p rfl rfl (y_pickT rfl rfl) ?_
        refine rw_p rfl rfl (y_move rfl) ?_
        refine rw_p rfl rfl (y_move rfl) ?_
        refine rw_p rfl rfl (y_loadA (s := 32) (vs := (dg.flatMap encB)) rfl ag24 (hm0.nd 0 rfl id) (nthsB hdl)) ?_
        refine a_call rfl rfl rfl go14 (C.as (v := .agg ⟨dg.flatMap encB⟩) (h_sum 54 m_g (ps.flatMap (·.bs)) Z_g _ (OwnZ.end (A := [_, _, _]) hm.ownZ) hz_g (by omega)) (by rw [hdg])) fun v w hR => ?_
        obtain ⟨rfl, hE⟩ := hR
        refine ⟨hh.ext hE, ?_⟩
        replace hm := hm.ext hE
        replace hh := hh.ext hE
        refine rw_p rfl rfl (y_as (c := true) (y_eqF rfl rfl fl24 (fitB (n := 32) hdl) (fitB (n := 32) hdl)) (by rw [eqLB]; exact decide_eq_true rfl)) ?_
        refine rw_p rfl rfl (y_pickT rfl rfl) ?_
        refine rw_p rfl rfl (y_move rfl) ?_
        refine rw_p rfl rfl (y_move rfl) ?_
        refine rw_p rfl rfl (y_loadA (s := 32) (vs := (dg.flatMap encB)) rfl ag24 (hm0.nd 0 rfl id) (nthsB hdl)) ?_
        refine a_call rfl rfl rfl go14 (C.as (v := .agg ⟨dg.flatMap encB⟩) (h_sum 54 m_h (ps.flatMap (·.bs)) Z_h _ (OwnZ.mid (A := [_, _, _]) hm.ownZ) hz_h (by omega)) (by rw [hdg])) fun v w hR => ?_
        obtain ⟨rfl, hE⟩ := hR
        refine ⟨hh.ext hE, ?_⟩
        replace hm := hm.ext hE
        replace hh := hh.ext hE
        refine rw_p rfl rfl (y_as (c := true) (y_eqF rfl rfl fl24 (fitB (n := 32) hdl) (fitB (n := 32) hdl)) (by rw [eqLB]; exact decide_eq_true rfl)) ?_
        refine rw_p rfl rfl (y_pickT rfl rfl) ?_
        refine rw_p rfl rfl (y_move rfl) ?_
        refine rw_p rfl rfl (y_move rfl) ?_
        refine rw_p rfl rfl (y_loadA (s := 32) (vs := (dg.flatMap encB)) rfl ag24 (hm0.nd 0 rfl id) (nthsB hdl)) ?_
        refine a_call rfl rfl rfl go10 (C.as (v := .agg ⟨dg.flatMap encB⟩) (h_of q cq ps _ (hq.ext0 hm.to) (fun s hs => (hps s hs).rd.ext0 hm.to) (by omega) (by omega)) (by rw [hdg])) fun v w hR => ?_
        obtain ⟨rfl, hE⟩ := hR
        refine ⟨hh.ext hE, ?_⟩
        replace hm := hm.ext hE
        replace hh := hh.ext hE
        refine rw_p rfl rfl (y_as (c := true) (y_eqF rfl rfl fl24 (fitB (n := 32) hdl) (fitB (n := 32) hdl)) (by rw [eqLB]; exact decide_eq_true rfl)) ?_
        refine rw_p rfl rfl (y_pickT rfl rfl) ?_
        refine rw_p rfl rfl (y_move rfl) ?_
        refine rw_p rfl rfl (y_move rfl) ?_
        refine rw_p rfl rfl (y_move rfl) ?_
        refine rw_p rfl rfl (y_len rfl rfl sl22) ?_
        refine a_call rfl rfl rfl go15 (h_len 54 m_h (ps.flatMap (·.bs)) Z_h _ (OwnZ.mid (A := [_, _, _]) hm.ownZ) hz_h (by omega)) fun v w hR => ?_
        obtain ⟨rfl, hE⟩ := hR
        refine ⟨hh.ext hE, ?_⟩
        replace hm := hm.ext hE
        replace hh := hh.ext hE
        refine rw_p rfl rfl (y_as (c := true) (y_eq rfl rfl) (decide_eq_true (rfl))) ?_
        refine rw_p rfl rfl (y_pickT rfl rfl) ?_
        refine rw_p rfl rfl (y_assign rfl) ?_
        refine rw_done ?_
        refine gn_sq ?_
        refine HW_ret rfl ?_
        refine toR (fin hret rfl (.tmp rfl .nil) .one ?_)
        exact ⟨rfl, hm.to⟩

end Go.Proofs.Ytdiklnekplhhgaa
