/- Contracts of functions of the program: what each returns. Conditions: the hypotheses of each theorem. -/
import Derived.Test.YthailbggeafckaaGreatChk
import Derived.Test.YthailbggeafckaaGreatLay
set_option linter.unusedVariables false
set_option linter.unusedSimpArgs false
namespace Go.Proofs.YthailbggeafckaaGreat
open Go Go.Cx

theorem fo57_0 : fldO Tryz.prog 57 0 = some 0 := by kernel_rfl
theorem fo57_1 : fldO Tryz.prog 57 1 = some 1 := by kernel_rfl
theorem fo57_2 : fldO Tryz.prog 57 2 = some 2 := by kernel_rfl
theorem fo57_3 : fldO Tryz.prog 57 3 = some 3 := by kernel_rfl
theorem fo57_4 : fldO Tryz.prog 57 4 = some 4 := by kernel_rfl
theorem fo78_0 : fldO Tryz.prog 78 0 = some 0 := by kernel_rfl
theorem fo78_1 : fldO Tryz.prog 78 1 = some 1 := by kernel_rfl
theorem fo78_2 : fldO Tryz.prog 78 2 = some 2 := by kernel_rfl
theorem fo78_3 : fldO Tryz.prog 78 3 = some 3 := by kernel_rfl
theorem fo78_4 : fldO Tryz.prog 78 4 = some 4 := by kernel_rfl
theorem cb22 : slB8 Tryz.prog 22 = true := by kernel_rfl
theorem ft145 : fldT Tryz.prog 145 = some [(0, 1), (1, 1)] := by kernel_rfl
theorem go73 : isGo Tryz.prog 73 = true := by kernel_rfl
theorem go74 : isGo Tryz.prog 74 = true := by kernel_rfl
theorem ag57 : aggS Tryz.prog 57 = some 5 := by kernel_rfl
theorem ft57 : fldT Tryz.prog 57 = some [(0, 1), (1, 1), (2, 1), (3, 1), (4, 1)] := by kernel_rfl
theorem go54 : isGo Tryz.prog 54 = true := by kernel_rfl
theorem go55 : isGo Tryz.prog 55 = true := by kernel_rfl
theorem go57 : isGo Tryz.prog 57 = true := by kernel_rfl
theorem go58 : isGo Tryz.prog 58 = true := by kernel_rfl
theorem go59 : isGo Tryz.prog 59 = true := by kernel_rfl
theorem iii123 : int2 Tryz.prog 123 = true := by kernel_rfl
theorem sz22 : szO Tryz.prog 22 = some 1 := by kernel_rfl
theorem sz57 : szO Tryz.prog 57 = some 5 := by kernel_rfl
theorem z57 : zer Tryz.prog 57 = some [.int .u64 0, .int .u64 0, .int .i64 0, .int .i64 0, .slice none 0 0] := by kernel_rfl

theorem k_openT (p : Option Addr) (cap : Nat) (bs : List UInt8) (w0 : World) (hx : Rd w0 p (bs.flatMap encB)) (hle : bs.length ≤ cap) (hsp : cap ≠ 0 → ∀ ad, p = some ad → ad.spot = none) (hl : bs.length ≤ 70368744177664) (h : Pl.sumOk bs = true) : C Tryz.prog 59 [.slice p bs.length cap] w0 fun v w' => ∃ q c g b, v = .tuple ⟨[.slice q (bs.take (bs.length - 4)).length c, .bool true]⟩ ∧ Acc 5 1 q (bs.take (bs.length - 4)).length c ((bs.take (bs.length - 4)).flatMap encB) g b ∧ Mem w0 w' No [(g, b)] :=
  (k_open p cap bs w0 hx hle hsp hl).mono fun v w' hh => by
    have h' : (decide (4 ≤ bs.length) && decide ((bs.drop (bs.length - 4)) = Pl.leS (Pl.crc (bs.take (bs.length - 4))))) = true := h
    obtain ⟨q, c, g, b, h1, h2, h3⟩ := hh
    rw [if_pos h', h'] at h1
    rw [if_pos h'] at h2
    exact ⟨q, c, g, b, h1, h2, h3⟩

theorem k_openF (p : Option Addr) (cap : Nat) (bs : List UInt8) (w0 : World) (hx : Rd w0 p (bs.flatMap encB)) (hle : bs.length ≤ cap) (hsp : cap ≠ 0 → ∀ ad, p = some ad → ad.spot = none) (hl : bs.length ≤ 70368744177664) (h : Pl.sumOk bs = false) : C Tryz.prog 59 [.slice p bs.length cap] w0 fun v w' => (∃ q c, v = .tuple ⟨[.slice q 0 c, .bool false]⟩) ∧ Ext No w0 w' :=
  (k_open p cap bs w0 hx hle hsp hl).mono fun v w' hh => by
    have h' : (decide (4 ≤ bs.length) && decide ((bs.drop (bs.length - 4)) = Pl.leS (Pl.crc (bs.take (bs.length - 4))))) = false := h
    obtain ⟨q, c, g, b, h1, h2, h3⟩ := hh
    rw [if_neg (by rw [h']; simp), h'] at h1
    exact ⟨⟨q, c, h1⟩, h3.to⟩

theorem rec_same (a b : Pl.Rc) (p q : Option Addr) (c1 c2 : Nat) (w0 : World) (hp : Rd w0 p (a.bs.flatMap encB)) (hq : Rd w0 q (b.bs.flatMap encB)) : C Tryz.prog 20 [.agg ⟨rcV a p a.bs.length c1⟩, .agg ⟨rcV b q b.bs.length c2⟩] w0 fun v w' => v = .bool (Pl.rsame a b) ∧ Ext No w0 w' := by
  refine C_of Tryz.func20 rfl rfl rfl fun κ hret hnorm => ?_
  have hm := Mem.start w0
  refine HW_seq rfl ?_
  refine HW_text (.act 0 (.act 1 (.pure 2 .done))) (by kernel_rfl) ?_
  refine a_box rfl rfl rfl rfl hm trivial fun m1 w hg_m1 hm hh => ?_
  refine a_box rfl rfl rfl rfl hm trivial fun m2 w hg_m2 hm hh => ?_
  refine rw_p rfl rfl (y_assign rfl) ?_
  refine rw_done ?_
  refine gn_sq ?_
  refine HW_seq rfl ?_
  refine HW_text (.pure 0 (.pure 1 (.pure 2 (.pure 3 (.pure 4 (.pure 5 (.pure 6 (.pure 7 (.pure 8 (.pure 9 (.pure 10 (.pure 11 (.pure 12 (.pure 13 (.pure 14 (.pure 15 (.pure 16 (.pure 17 (.pure 18 (.pure 19 (.pure 20 (.pure 21 (.pure 22 (.pure 23 (.pure 24 (.pure 25 (.pure 26 (.pure 27 (.pure 28 (.pure 29 (.pure 30 (.act 31 (.pure 32 (.pure 33 .done)))))))))))))))))))))))))))))))))) (by kernel_rfl) ?_
  refine rw_p rfl rfl (y_fieldAddr rfl fo57_0) ?_
  refine rw_p rfl rfl (y_load rfl sc23 (hm.nt 1 rfl) rfl) ?_
  refine rw_p rfl rfl (y_fieldAddr rfl fo57_0) ?_
  refine rw_p rfl rfl (y_load rfl sc23 (hm.nt 0 rfl) rfl) ?_
  refine rw_p rfl rfl (y_eq rfl rfl) ?_
  refine rw_p rfl rfl (y_move rfl) ?_
  refine rw_g rfl rfl rfl (fun hc => (y_fieldAddr rfl fo57_1)) ?_
  refine rw_g rfl rfl rfl (fun hc => (y_load (gx hc rfl) sc23 (hm.nt 1 rfl) rfl)) ?_
  refine rw_g rfl rfl rfl (fun hc => (y_fieldAddr rfl fo57_1)) ?_
  refine rw_g rfl rfl rfl (fun hc => (y_load (gx hc rfl) sc23 (hm.nt 0 rfl) rfl)) ?_
  refine rw_g rfl rfl rfl (fun hc => (y_eq (gx hc rfl) (gx hc rfl))) ?_
  refine rw_p rfl rfl (y_and rfl rfl rfl) ?_
  refine rw_p rfl rfl (y_move rfl) ?_
  refine rw_g rfl rfl rfl (fun hc => (y_fieldAddr rfl fo57_2)) ?_
  refine rw_g rfl rfl rfl (fun hc => (y_load (gx hc rfl) sc3 (hm.nt 1 rfl) rfl)) ?_
  refine rw_g rfl rfl rfl (fun hc => (y_fieldAddr rfl fo57_2)) ?_
  refine rw_g rfl rfl rfl (fun hc => (y_load (gx hc rfl) sc3 (hm.nt 0 rfl) rfl)) ?_
  refine rw_g rfl rfl rfl (fun hc => (y_eq (gx hc rfl) (gx hc rfl))) ?_
  refine rw_p rfl rfl (y_and rfl rfl rfl) ?_
  refine rw_p rfl rfl (y_move rfl) ?_
  refine rw_g rfl rfl rfl (fun hc => (y_fieldAddr rfl fo57_3)) ?_
  refine rw_g rfl rfl rfl (fun hc => (y_load (gx hc rfl) sc3 (hm.nt 1 rfl) rfl)) ?_
  refine rw_g rfl rfl rfl (fun hc => (y_fieldAddr rfl fo57_3)) ?_
  refine rw_g rfl rfl rfl (fun hc => (y_load (gx hc rfl) sc3 (hm.nt 0 rfl) rfl)) ?_
  refine rw_g rfl rfl rfl (fun hc => (y_eq (gx hc rfl) (gx hc rfl))) ?_
  refine rw_p rfl rfl (y_and rfl rfl rfl) ?_
  refine rw_p rfl rfl (y_move rfl) ?_
  refine rw_g rfl rfl rfl (fun hc => (y_fieldAddr rfl fo57_4)) ?_
  refine rw_g rfl rfl rfl (fun hc => (y_load (gx hc rfl) sc22 (hm.nt 1 rfl) rfl)) ?_
  refine rw_g rfl rfl rfl (fun hc => (y_fieldAddr rfl fo57_4)) ?_
  refine rw_g rfl rfl rfl (fun hc => (y_load (gx hc rfl) sc22 (hm.nt 0 rfl) rfl)) ?_
  refine a_callG rfl rfl rfl (fun hc => (evs_c (gx hc rfl) (evs_c (gx hc rfl) evs_n))) go45 (fun hc => (b_equal p q c1 c2 a.bs b.bs _ (hp.ext0 hm.to) (hq.ext0 hm.to))) trivial fun w hE hh => ?_
  replace hm := hm.ext hE
  refine rw_p rfl rfl (y_and rfl rfl rfl) ?_
  refine rw_p rfl rfl (y_assign rfl) ?_
  refine rw_done ?_
  refine gn_sq ?_
  refine HW_ret rfl ?_
  refine toR (fin hret rfl (.tmp rfl .nil) .one ?_)
  exact ⟨rfl, hm.to⟩

theorem r21_same (a b : Pl.Rc) (p q : Option Addr) (c1 c2 : Nat) (w0 : World) (hp : Rd w0 p (a.bs.flatMap encB)) (hq : Rd w0 q (b.bs.flatMap encB)) : C Tryz.prog 34 [.agg ⟨rcV a p a.bs.length c1⟩, .agg ⟨rcV b q b.bs.length c2⟩] w0 fun v w' => v = .bool (Pl.rsame a b) ∧ Ext No w0 w' := by
  refine C_of Tryz.func34 rfl rfl rfl fun κ hret hnorm => ?_
  have hm := Mem.start w0
  refine HW_seq rfl ?_
  refine HW_text (.act 0 (.act 1 (.pure 2 .done))) (by kernel_rfl) ?_
  refine a_box rfl rfl rfl rfl hm trivial fun m1 w hg_m1 hm hh => ?_
  refine a_box rfl rfl rfl rfl hm trivial fun m2 w hg_m2 hm hh => ?_
  refine rw_p rfl rfl (y_assign rfl) ?_
  refine rw_done ?_
  refine gn_sq ?_
  refine HW_seq rfl ?_
  refine HW_text (.pure 0 (.pure 1 (.pure 2 (.pure 3 (.pure 4 (.pure 5 (.pure 6 (.pure 7 (.pure 8 (.pure 9 (.pure 10 (.pure 11 (.pure 12 (.pure 13 (.pure 14 (.pure 15 (.pure 16 (.pure 17 (.pure 18 (.pure 19 (.pure 20 (.pure 21 (.pure 22 (.pure 23 (.pure 24 (.pure 25 (.pure 26 (.pure 27 (.pure 28 (.pure 29 (.pure 30 (.pure 31 (.pure 32 (.pure 33 (.pure 34 (.pure 35 .done)))))))))))))))))))))))))))))))))))) (by kernel_rfl) ?_
  refine rw_p rfl rfl (y_fieldAddr rfl fo78_0) ?_
  refine rw_p rfl rfl (y_load rfl sc23 (hm.nt 1 rfl) rfl) ?_
  refine rw_p rfl rfl (y_fieldAddr rfl fo78_0) ?_
  refine rw_p rfl rfl (y_load rfl sc23 (hm.nt 0 rfl) rfl) ?_
  refine rw_p rfl rfl (y_eq rfl rfl) ?_
  refine rw_p rfl rfl (y_move rfl) ?_
  refine rw_g rfl rfl rfl (fun hc => (y_fieldAddr rfl fo78_1)) ?_
  refine rw_g rfl rfl rfl (fun hc => (y_load (gx hc rfl) sc23 (hm.nt 1 rfl) rfl)) ?_
  refine rw_g rfl rfl rfl (fun hc => (y_fieldAddr rfl fo78_1)) ?_
  refine rw_g rfl rfl rfl (fun hc => (y_load (gx hc rfl) sc23 (hm.nt 0 rfl) rfl)) ?_
  refine rw_g rfl rfl rfl (fun hc => (y_eq (gx hc rfl) (gx hc rfl))) ?_
  refine rw_p rfl rfl (y_and rfl rfl rfl) ?_
  refine rw_p rfl rfl (y_move rfl) ?_
  refine rw_g rfl rfl rfl (fun hc => (y_fieldAddr rfl fo78_2)) ?_
  refine rw_g rfl rfl rfl (fun hc => (y_load (gx hc rfl) sc3 (hm.nt 1 rfl) rfl)) ?_
  refine rw_g rfl rfl rfl (fun hc => (y_fieldAddr rfl fo78_2)) ?_
  refine rw_g rfl rfl rfl (fun hc => (y_load (gx hc rfl) sc3 (hm.nt 0 rfl) rfl)) ?_
  refine rw_g rfl rfl rfl (fun hc => (y_eq (gx hc rfl) (gx hc rfl))) ?_
  refine rw_p rfl rfl (y_and rfl rfl rfl) ?_
  refine rw_p rfl rfl (y_move rfl) ?_
  refine rw_g rfl rfl rfl (fun hc => (y_fieldAddr rfl fo78_3)) ?_
  refine rw_g rfl rfl rfl (fun hc => (y_load (gx hc rfl) sc3 (hm.nt 1 rfl) rfl)) ?_
  refine rw_g rfl rfl rfl (fun hc => (y_fieldAddr rfl fo78_3)) ?_
  refine rw_g rfl rfl rfl (fun hc => (y_load (gx hc rfl) sc3 (hm.nt 0 rfl) rfl)) ?_
  refine rw_g rfl rfl rfl (fun hc => (y_eq (gx hc rfl) (gx hc rfl))) ?_
  refine rw_p rfl rfl (y_and rfl rfl rfl) ?_
  refine rw_p rfl rfl (y_move rfl) ?_
  refine rw_g rfl rfl rfl (fun hc => (y_fieldAddr rfl fo78_4)) ?_
  refine rw_g rfl rfl rfl (fun hc => (y_load (gx hc rfl) sc22 (hm.nt 1 rfl) rfl)) ?_
  refine rw_g rfl rfl rfl (fun hc => (y_cvs (gx hc rfl) bt22_9 ((hp.ext0 hm.to).nt) rfl)) ?_
  refine rw_g rfl rfl rfl (fun hc => (y_fieldAddr rfl fo78_4)) ?_
  refine rw_g rfl rfl rfl (fun hc => (y_load (gx hc rfl) sc22 (hm.nt 0 rfl) rfl)) ?_
  refine rw_g rfl rfl rfl (fun hc => (y_cvs (gx hc rfl) bt22_9 ((hq.ext0 hm.to).nt) rfl)) ?_
  refine rw_g rfl rfl rfl (fun hc => (y_seqB (gx hc rfl) (gx hc rfl))) ?_
  refine rw_p rfl rfl (y_and rfl rfl rfl) ?_
  refine rw_p rfl rfl (y_assign rfl) ?_
  refine rw_done ?_
  refine gn_sq ?_
  refine HW_ret rfl ?_
  refine toR (fin hret rfl (.tmp rfl .nil) .one ?_)
  exact ⟨rfl, hm.to⟩

set_option maxHeartbeats 800000 in
theorem rec_encode (r : Pl.Rc) (p : Option Addr) (cap : Nat) (w0 : World) (hx : Rd w0 p (r.bs.flatMap encB)) (hk : Pl.okRc r) (hl : r.bs.length ≤ 70368744177600) : C Tryz.prog 36 [.agg ⟨rcV r p r.bs.length cap⟩] w0 fun v w' => ∃ q c g b, v = .tuple ⟨[.slice q (if Pl.rright r = true then Pl.renc r else []).length c, .int .i64 (if Pl.rright r = true then 0 else 2)]⟩ ∧ Acc 5 1 q (if Pl.rright r = true then Pl.renc r else []).length c ((if Pl.rright r = true then Pl.renc r else []).flatMap encB) g b ∧ Mem w0 w' No [(g, b)] := by
  have hv : ∀ o, Pl.valid o 0 = true ↔ 0 ≤ o ∧ o ≤ 4611686018427387903 := fun o => by rw [Pl.valid_iff]; omega
  obtain ⟨k1, k2, k3, k4⟩ := id hk
  simp only [Pl.I64] at k3 k4
  refine C_of Tryz.func36 rfl rfl rfl fun κ hret hnorm => ?_
  have hm := Mem.start w0
  refine HW_seq rfl ?_
  refine HW_text (.act 0 (.pure 1 (.pure 2 .done))) (by kernel_rfl) ?_
  refine a_box rfl rfl rfl rfl hm trivial fun m1 w hg_m1 hm hh => ?_
  refine rw_p rfl rfl (y_assign rfl) ?_
  refine rw_p rfl rfl (y_assign rfl) ?_
  refine rw_done ?_
  refine gn_sq ?_
  refine HW_seq rfl ?_
  refine HW_seq rfl ?_
  refine HW_text (.pure 0 (.pure 1 (.pure 2 (.act 3 (.pure 4 (.pure 5 (.pure 6 (.pure 7 (.pure 8 (.act 9 (.pure 10 (.pure 11 (.pure 12 (.pure 13 (.pure 14 (.pure 15 (.pure 16 (.pure 17 .done)))))))))))))))))) (by kernel_rfl) ?_
  refine rw_p rfl rfl (y_fieldAddr rfl fo57_2) ?_
  refine rw_p rfl rfl (y_load rfl sc3 (hm.nt 0 rfl) rfl) ?_
  refine rw_p rfl rfl (y_build (cs := [_, _]) z63 ft63 rfl rfl rfl rfl rfl) ?_
  refine a_call rfl rfl rfl go72 (ext_valid _ _ _ (by omega) (by omega)) fun v w hR => ?_
  obtain ⟨rfl, hE⟩ := hR
  refine ⟨trivial, ?_⟩
  replace hm := hm.ext hE
  refine rw_p rfl rfl (y_not rfl) ?_
  refine rw_p rfl rfl (y_move rfl) ?_
  refine rw_g rfl rfl rfl (fun hc => (y_fieldAddr rfl fo57_3)) ?_
  refine rw_g rfl rfl rfl (fun hc => (y_load (gx hc rfl) sc3 (hm.nt 0 rfl) rfl)) ?_
  refine rw_g rfl rfl rfl (fun hc => (y_build (cs := [_, _]) z63 ft63 rfl rfl (evs_c (gx hc rfl) evs_n) rfl rfl)) ?_
  refine a_callG rfl rfl rfl (fun hc => (evs_c (gx hc rfl) evs_n)) go72 (fun hc => (ext_valid _ _ _ (by omega) (by omega))) trivial fun w hE hh => ?_
  replace hm := hm.ext hE
  refine rw_g rfl rfl rfl (fun hc => (y_not (gx hc rfl))) ?_
  refine rw_p rfl rfl (y_or rfl rfl rfl) ?_
  refine rw_p rfl rfl (y_move rfl) ?_
  refine rw_g rfl rfl rfl (fun hc => (y_fieldAddr rfl fo57_4)) ?_
  refine rw_g rfl rfl rfl (fun hc => (y_load (gx hc rfl) sc22 (hm.nt 0 rfl) rfl)) ?_
  refine rw_g rfl rfl rfl (fun hc => (y_len (gx hc rfl) rfl sl22)) ?_
  refine rw_g rfl rfl rfl (fun hc => (y_gt (gx hc rfl) rfl)) ?_
  refine rw_p rfl rfl (y_or rfl rfl rfl) ?_
  refine rw_done ?_
  refine gn_sq ?_
  refine HW_cond rfl rfl (fun hc0 => ?_) (fun hc0 => ?_)
  ·
    simp only [Bool.or_eq_true, Bool.not_eq_true', decide_eq_true_eq] at hc0
    have hr : Pl.rright r = false := by
      rw [Bool.eq_false_iff]; intro h9; rw [Pl.rright_iff] at h9
      rcases hc0 with (h8 | h8) | h8
      · rw [(hv r.cu).2 (by omega)] at h8; cases h8
      · rw [(hv r.of).2 (by omega)] at h8; cases h8
      · omega
    refine HW_seq rfl ?_
    refine HW_text (.pure 0 (.pure 1 .done)) (by kernel_rfl) ?_
    refine rw_p rfl rfl (y_assign rfl) ?_
    refine rw_p rfl rfl (y_assign rfl) ?_
    refine rw_done ?_
    refine gn_sq ?_
    refine HW_ret rfl ?_
    refine gr_sq ?_
    refine toR (fin hret rfl (.tmp rfl (.tmp rfl .nil)) .more ?_)
    exact ⟨none, 0, 0, .gap, by rw [hr]; rfl, by rw [hr]; exact .nil _ _ _ _, (hm.drop (List.nil_sublist _)).gapIn⟩
  ·
    simp only [Bool.or_eq_false_iff, Bool.not_eq_false', decide_eq_false_iff_not] at hc0
    have v1 := (hv r.cu).1 hc0.1.1
    have v2 := (hv r.of).1 hc0.1.2
    have hr : Pl.rright r = true := by rw [Pl.rright_iff]; omega
    have hfit := Pl.flds_fit hk hr
    have hhl := Pl.head_len r
    have hbl := Pl.rbody_len r
    refine HW_skip rfl ?_
    refine gn_sq ?_
    refine HW_seq rfl ?_
    refine HW_text (.act 0 (.act 1 (.pure 2 (.pure 3 (.pure 4 (.pure 5 (.pure 6 (.pure 7 (.pure 8 (.pure 9 (.pure 10 (.pure 11 (.pure 12 (.pure 13 (.pure 14 (.pure 15 (.pure 16 (.pure 17 (.pure 18 (.pure 19 (.pure 20 (.act 21 (.act 22 (.pure 23 (.pure 24 (.pure 25 (.pure 26 (.pure 27 .done)))))))))))))))))))))))))))) (by kernel_rfl) ?_
    refine a_buildSlice (l := [_, _, _, _]) rfl rfl sl22 z5 rfl rfl rfl rfl rfl rfl rfl hm trivial fun m2 w hg_m2 hm hh => ?_
    refine a_mkd rfl rfl rfl cb22 hm 0 rfl fun w hm => ?_
    refine rw_p rfl rfl (y_fieldAddr rfl fo57_0) ?_
    refine rw_p rfl rfl (y_load rfl sc23 (hm.nt 1 rfl) rfl) ?_
    refine rw_p rfl rfl (y_build (cs := [_, _]) z145 ft145 rfl rfl rfl rfl rfl) ?_
    refine rw_p rfl rfl (y_fieldAddr rfl fo57_1) ?_
    refine rw_p rfl rfl (y_load rfl sc23 (hm.nt 1 rfl) rfl) ?_
    refine rw_p rfl rfl (y_build (cs := [_, _]) z145 ft145 rfl rfl rfl rfl rfl) ?_
    refine rw_p rfl rfl (y_fieldAddr rfl fo57_2) ?_
    refine rw_p rfl rfl (y_load rfl sc3 (hm.nt 1 rfl) rfl) ?_
    refine rw_p rfl rfl (y_conv rfl is3 it23 (u64w (by omega) (by omega))) ?_
    refine rw_p rfl rfl (y_build (cs := [_, _]) z145 ft145 rfl rfl rfl rfl rfl) ?_
    refine rw_p rfl rfl (y_fieldAddr rfl fo57_3) ?_
    refine rw_p rfl rfl (y_load rfl sc3 (hm.nt 1 rfl) rfl) ?_
    refine rw_p rfl rfl (y_conv rfl is3 it23 (u64w (by omega) (by omega))) ?_
    refine rw_p rfl rfl (y_build (cs := [_, _]) z145 ft145 rfl rfl rfl rfl rfl) ?_
    refine rw_p rfl rfl (y_fieldAddr rfl fo57_4) ?_
    refine rw_p rfl rfl (y_load rfl sc22 (hm.nt 1 rfl) rfl) ?_
    refine rw_p rfl rfl (y_len rfl rfl sl22) ?_
    refine rw_p rfl rfl (y_conv rfl is3 it23 (u64w (by omega) (by omega))) ?_
    refine rw_p rfl rfl (y_build (cs := [_, _]) z145 ft145 rfl rfl rfl rfl rfl) ?_
    refine a_buildSlice (l := [_, _, _, _, _, _, _, _, _, _]) rfl rfl sl174 z145 rfl rfl rfl rfl rfl rfl rfl hm trivial fun m3 w hg_m3 hm hh => ?_
    refine a_call rfl rfl rfl go73 (w_append _ _ Pl.magic _ _ (Pl.flds r) _ (Rd.mkd (hm.get (k := 1) rfl)) (Rd.row0 (hm.get (k := 0) rfl)) (by decide) (by simp [Pl.flds]) hfit.2) fun v w hR => ?_
    obtain ⟨p_s, n_s, cap_s, g_s, b_s, rfl, ha_s, hmc⟩ := hR
    refine ⟨trivial, ?_⟩
    replace hm := hm.callN hmc
    obtain rfl := ha_s.lenB
    have hwo : Pl.wout Pl.magic (Pl.flds r) = Pl.magic ++ Pl.putB (Pl.flds r) := by unfold Pl.wout; rw [hfit.1]; rfl
    have hwl : (Pl.wout Pl.magic (Pl.flds r)).length = 40 := by rw [hwo]; exact hhl
    refine rw_p rfl rfl (y_move rfl) ?_
    refine rw_p rfl rfl (y_extract rfl rfl) ?_
    refine rw_p rfl rfl (y_extract rfl rfl) ?_
    refine rw_p rfl rfl (y_assign rfl) ?_
    refine rw_p rfl rfl (y_assign rfl) ?_
    refine rw_done ?_
    refine gn_sq ?_
    refine HW_seq rfl ?_
    refine HW_text (.pure 0 (.pure 1 (.pure 2 (.act 3 (.act 4 (.pure 5 (.pure 6 .done))))))) (by kernel_rfl) ?_
    refine rw_p rfl rfl (y_move rfl) ?_
    refine rw_p rfl rfl (y_fieldAddr rfl fo57_4) ?_
    refine rw_p rfl rfl (y_load rfl sc22 (hm.nt 3 rfl) rfl) ?_
    refine a_append rfl rfl rfl rfl rfl rfl sl22 sl22 z5 rfl (oneB r.bs) (hx.ext0 hm.to) (lenB r.bs) ha_s hm 0 rfl (by rw [hwl]; omega) (by rw [hwl]; omega) fun p_s cap_s g_s b_s w ha_s hm => ?_
    replace ha_s := ha_s.to (show _ = (Pl.rbody r).flatMap encB by simp only [hwo, Pl.rbody, List.flatMap_append])
    have hn9 := ha_s.lenB
    refine a_call rfl rfl rfl go74 (C.eqv (k_seal p_s cap_s (Pl.rbody r) _ (ha_s.rd hm 0 rfl) (by rw [← hn9]; exact ha_s.le) ha_s.spot (by omega)) (by rw [← hn9])) fun v w hR => ?_
    obtain ⟨p_z, cap_z, g_z, b_z, rfl, ha_z, hmc⟩ := hR
    refine ⟨trivial, ?_⟩
    have hg_z : b_z.real = true → _ := fun hr => (hmc.fresh _ List.mem_cons_self hr).resolve_left id
    replace hm := hm.callN hmc
    refine rw_p rfl rfl (y_assign rfl) ?_
    refine rw_p rfl rfl (y_assign rfl) ?_
    refine rw_done ?_
    refine gn_sq ?_
    refine HW_ret rfl ?_
    refine toR (fin hret rfl (.tmp rfl (.tmp rfl .nil)) .more ?_)
    exact ⟨p_z, cap_z, g_z, b_z, by rw [hr]; rfl, by rw [hr]; exact ha_z, (hm.pick [0] rfl)⟩

set_option maxHeartbeats 1600000 in
theorem rec_decode (p : Option Addr) (cap : Nat) (bs : List UInt8) (w0 : World) (hx : Rd w0 p (bs.flatMap encB)) (hle : bs.length ≤ cap) (hsp : cap ≠ 0 → ∀ ad, p = some ad → ad.spot = none) (hl : bs.length ≤ 70368744177664) : C Tryz.prog 27 [.slice p bs.length cap] w0 fun v w' => ∃ (pa : Option Addr) (ca g : Nat) (b : Blk) (al : List UInt8), v = .tuple ⟨[.agg ⟨rcV ((Pl.rdec bs).getD Pl.rc0) (slp pa ca 40 1) ((Pl.rdec bs).getD Pl.rc0).bs.length (ca - 40)⟩, .int .i64 (if (Pl.rdec bs).isSome = true then 0 else 19)]⟩ ∧ Acc 5 1 pa al.length ca (al.flatMap encB) g b ∧ al.drop 40 = ((Pl.rdec bs).getD Pl.rc0).bs ∧ Mem w0 w' No [(g, b)] := by
  have hhl : (bs.take 40).length ≤ bs.length ∧ (bs.take 40).length ≤ 40 := by rw [List.length_take]; omega
  refine C_of Tryz.func27 rfl rfl rfl fun κ hret hnorm => ?_
  have hm := Mem.start w0
  refine HW_seq rfl ?_
  refine HW_text (.act 0 (.pure 1 .done)) (by kernel_rfl) ?_
  refine a_alloc rfl rfl z57 hm trivial fun m1 w hg_m1 hm hh => ?_
  refine rw_p rfl rfl (y_assign rfl) ?_
  refine rw_done ?_
  refine gn_sq ?_
  refine HW_seq rfl ?_
  refine HW_text (.pure 0 (.pure 1 (.pure 2 (.pure 3 (.pure 4 (.act 5 (.pure 6 .done))))))) (by kernel_rfl) ?_
  refine rw_p rfl rfl (y_move rfl) ?_
  refine rw_p rfl rfl (y_move rfl) ?_
  refine rw_p rfl rfl (y_len rfl rfl sl22) ?_
  refine rw_p rfl rfl (y_min rfl rfl) ?_
  refine rw_p rfl rfl (y_v (y_slice (ln := 0) (hn := (min bs.length 40)) rfl sl22 rfl ⟨_, congrArg (fun x => some (Value.int .i64 x)) (by omega)⟩ (by omega) (by omega) (fun h => hsp (by omega))) (show _ = Value.slice (slp p cap 0 1) (bs.take 40).length cap by rw [List.length_take, Nat.sub_zero, Nat.sub_zero, Nat.min_comm])) ?_
  refine a_call rfl rfl rfl go54 (w_new (slp p cap 0 1) cap (bs.take 40) _ ((hx.ext0 hm.to).takeS hle) (by omega)) fun v w hR => ?_
  obtain ⟨r, p_rb, cap_rb, g_rb, b_rb, rfl, ha_rb, hmc⟩ := hR
  refine ⟨trivial, ?_⟩
  replace hm := hm.callN hmc
  refine rw_p rfl rfl (y_assign rfl) ?_
  refine rw_done ?_
  refine gn_sq ?_
  refine HW_seq rfl ?_
  refine HW_seq rfl ?_
  refine HW_text (.pure 0 (.act 1 (.act 2 (.act 3 (.pure 4 .done))))) (by kernel_rfl) ?_
  refine rw_p rfl rfl (y_move rfl) ?_
  refine a_buildSlice (l := [_, _, _, _]) rfl rfl sl22 z5 rfl rfl rfl rfl rfl rfl rfl hm trivial fun m2 w hg_m2 hm hh => ?_
  refine a_mkd rfl rfl rfl cb22 hm 0 rfl fun w hm => ?_
  refine a_call rfl rfl rfl go55 (w_expect r _ p_rb cap_rb (bs.take 40) ⟨0, 0, 0⟩ _ 4 Pl.magic 19 _ (hm.get (k := 1) rfl) (ha_rb.rd hm 2 rfl) (ha_rb.apart hm 2 1 rfl rfl rfl) ha_rb.le ha_rb.spot (Nat.zero_le _) (by omega) (Rd.mkd (hm.get (k := 0) rfl)) (fun _ ad e => by cases e; exact hm.ne 0 1 rfl rfl rfl) (by decide) (by decide) (fun _ ad e => by cases e; rfl)) fun v w hR => ?_
  obtain ⟨rfl, hmc⟩ := hR
  refine ⟨trivial, ?_⟩
  replace hm := hm.callJ 1 rfl hmc
  obtain ⟨s1, e1⟩ : ∃ s_, (Pl.rexpect (bs.take 40) ⟨0, 0, 0⟩ Pl.magic 19).1 = s_ := ⟨_, rfl⟩
  rw [e1] at hm
  have a1 : s1.at_ ≤ (bs.take 40).length := by rw [← e1]; exact Pl.rexpect_at (Nat.zero_le _)
  refine rw_p rfl rfl (y_not rfl) ?_
  refine rw_done ?_
  refine gn_sq ?_
  refine HW_cond rfl rfl (fun hc0 => ?_) (fun hc0 => ?_)
  ·
    simp only [Bool.not_eq_true'] at hc0
    have hD : Pl.rdec bs = none := by unfold Pl.rdec Pl.rd5; simp only; rw [if_pos (.inl hc0)]
    refine HW_seq rfl ?_
    refine HW_text (.pure 0 (.act 1 (.pure 2 .done))) (by kernel_rfl) ?_
    refine rw_p rfl rfl (y_build (cs := [_, _, _, _, _]) z57 ft57 rfl rfl rfl rfl rfl) ?_
    refine a_store rfl rfl rfl rfl sz57 rfl hm 3 rfl rfl fun w hm => ?_
    refine rw_p rfl rfl (y_assign rfl) ?_
    refine rw_done ?_
    refine gn_sq ?_
    refine HW_ret rfl ?_
    refine gr_sq ?_
    refine toR (fin hret rfl (.cell rfl (run_loadVar_a (vs := [_, _, _, _, _]) ag57 (hm.get (k := 3) rfl) rfl) (.tmp rfl .nil)) .more ?_)
    exact ⟨none, 0, 0, .gap, [], by rw [hD]; rfl, .nil _ _ _ _, by rw [hD]; rfl, (hm.drop (List.nil_sublist _)).gapIn⟩
  ·
    simp only [Bool.not_eq_false'] at hc0
    refine HW_skip rfl ?_
    refine gn_sq ?_
    refine HW_seq rfl ?_
    refine HW_text (.pure 0 (.act 1 (.pure 2 (.act 3 (.pure 4 (.act 5 (.pure 6 (.act 7 (.pure 8 (.act 9 (.act 10 .done))))))))))) (by kernel_rfl) ?_
    refine rw_p rfl rfl (y_move rfl) ?_
    refine a_call rfl rfl rfl go56 (w_uint r _ p_rb cap_rb (bs.take 40) s1 8 _ (hm.get (k := 1) rfl) (ha_rb.rd hm 2 rfl) (ha_rb.apart hm 2 1 rfl rfl rfl) ha_rb.le ha_rb.spot a1 (by omega) (by omega)) fun v w hR => ?_
    obtain ⟨rfl, hmc⟩ := hR
    refine ⟨trivial, ?_⟩
    replace hm := hm.callJ 1 rfl hmc
    obtain ⟨s2, e2⟩ : ∃ s_, (Pl.ruint (bs.take 40) s1 8).1 = s_ := ⟨_, rfl⟩
    rw [e2] at hm
    have a2 : s2.at_ ≤ (bs.take 40).length := by rw [← e2]; exact Pl.ruint_at a1
    refine rw_p rfl rfl (y_move rfl) ?_
    refine a_call rfl rfl rfl go56 (w_uint r _ p_rb cap_rb (bs.take 40) s2 8 _ (hm.get (k := 1) rfl) (ha_rb.rd hm 2 rfl) (ha_rb.apart hm 2 1 rfl rfl rfl) ha_rb.le ha_rb.spot a2 (by omega) (by omega)) fun v w hR => ?_
    obtain ⟨rfl, hmc⟩ := hR
    refine ⟨trivial, ?_⟩
    replace hm := hm.callJ 1 rfl hmc
    obtain ⟨s3, e3⟩ : ∃ s_, (Pl.ruint (bs.take 40) s2 8).1 = s_ := ⟨_, rfl⟩
    rw [e3] at hm
    have a3 : s3.at_ ≤ (bs.take 40).length := by rw [← e3]; exact Pl.ruint_at a2
    refine rw_p rfl rfl (y_move rfl) ?_
    refine a_call rfl rfl rfl go57 (w_length r _ p_rb cap_rb (bs.take 40) s3  _ (hm.get (k := 1) rfl) (ha_rb.rd hm 2 rfl) (ha_rb.apart hm 2 1 rfl rfl rfl) ha_rb.le ha_rb.spot a3 (by omega)) fun v w hR => ?_
    obtain ⟨rfl, hmc⟩ := hR
    refine ⟨trivial, ?_⟩
    replace hm := hm.callJ 1 rfl hmc
    obtain ⟨s4, e4⟩ : ∃ s_, (Pl.rlength (bs.take 40) s3).1 = s_ := ⟨_, rfl⟩
    rw [e4] at hm
    have a4 : s4.at_ ≤ (bs.take 40).length := by rw [← e4]; exact Pl.rlength_at a3
    refine rw_p rfl rfl (y_move rfl) ?_
    refine a_call rfl rfl rfl go57 (w_length r _ p_rb cap_rb (bs.take 40) s4  _ (hm.get (k := 1) rfl) (ha_rb.rd hm 2 rfl) (ha_rb.apart hm 2 1 rfl rfl rfl) ha_rb.le ha_rb.spot a4 (by omega)) fun v w hR => ?_
    obtain ⟨rfl, hmc⟩ := hR
    refine ⟨trivial, ?_⟩
    replace hm := hm.callJ 1 rfl hmc
    obtain ⟨s5, e5⟩ : ∃ s_, (Pl.rlength (bs.take 40) s4).1 = s_ := ⟨_, rfl⟩
    rw [e5] at hm
    have a5 : s5.at_ ≤ (bs.take 40).length := by rw [← e5]; exact Pl.rlength_at a4
    refine rw_p rfl rfl (y_build (cs := [_, _, _, _, _]) z57 ft57 rfl rfl rfl rfl rfl) ?_
    refine a_alloc rfl rfl z57 hm trivial fun m3 w hg_m3 hm hh => ?_
    refine a_store rfl rfl rfl rfl sz57 rfl hm 0 rfl rfl fun w hm => ?_
    refine rw_done ?_
    refine gn_sq ?_
    refine HW_seq rfl ?_
    refine HW_text (.pure 0 (.act 1 (.pure 2 (.act 3 (.pure 4 .done))))) (by kernel_rfl) ?_
    refine rw_p rfl rfl (y_move rfl) ?_
    refine a_call rfl rfl rfl go56 (w_uint r _ p_rb cap_rb (bs.take 40) s5 4 _ (hm.get (k := 2) rfl) (ha_rb.rd hm 3 rfl) (ha_rb.apart hm 3 2 rfl rfl rfl) ha_rb.le ha_rb.spot a5 (by omega) (by omega)) fun v w hR => ?_
    obtain ⟨rfl, hmc⟩ := hR
    refine ⟨trivial, ?_⟩
    replace hm := hm.callJ 2 rfl hmc
    obtain ⟨s6, e6⟩ : ∃ s_, (Pl.ruint (bs.take 40) s5 4).1 = s_ := ⟨_, rfl⟩
    rw [e6] at hm
    have a6 : s6.at_ ≤ (bs.take 40).length := by rw [← e6]; exact Pl.ruint_at a5
    have hn4 := Pl.ruint4 (bs.take 40) s5
    have hD0 : Pl.rdec bs = if (Pl.rexpect (bs.take 40) ⟨0, 0, 0⟩ Pl.magic 19).2 = false ∨ ¬ (s6.code = 0 ∧ s6.fat = 0) ∨ (Pl.rsize (Pl.ruint (bs.take 40) s5 4).2) = 0 ∨ (bs.length : Int) < (Pl.rsize (Pl.ruint (bs.take 40) s5 4).2) then none else if Pl.sumOk (bs.take (Pl.rsize (Pl.ruint (bs.take 40) s5 4).2).toNat) = true then some ⟨(Pl.ruint (bs.take 40) s1 8).2, (Pl.ruint (bs.take 40) s2 8).2, (Pl.rlength (bs.take 40) s3).2, (Pl.rlength (bs.take 40) s4).2, ((bs.take (Pl.rsize (Pl.ruint (bs.take 40) s5 4).2).toNat).take ((bs.take (Pl.rsize (Pl.ruint (bs.take 40) s5 4).2).toNat).length - 4)).drop 40⟩ else none := by unfold Pl.rdec Pl.rd5; simp only [e1, e2, e3, e4, e5, e6]
    refine rw_p rfl rfl (y_conv rfl is23 it3 (i64w (by omega) (by omega))) ?_
    refine a_call rfl rfl rfl go44 (rec_size (Pl.ruint (bs.take 40) s5 4).2 _ (by simp only [Pl.I64]; omega)) fun v w hR => ?_
    obtain ⟨rfl, hE⟩ := hR
    refine ⟨trivial, ?_⟩
    replace hm := hm.ext hE
    refine rw_p rfl rfl (y_assign rfl) ?_
    refine rw_done ?_
    refine gn_sq ?_
    refine HW_seq rfl ?_
    refine HW_seq rfl ?_
    refine HW_text (.pure 0 (.act 1 (.pure 2 (.pure 3 (.pure 4 (.pure 5 (.pure 6 (.pure 7 (.pure 8 (.pure 9 (.pure 10 (.pure 11 (.pure 12 (.pure 13 .done)))))))))))))) (by kernel_rfl) ?_
    refine rw_p rfl rfl (y_move rfl) ?_
    refine a_call rfl rfl rfl go58 (w_fault r _ p_rb (bs.take 40).length cap_rb s6 _ (hm.get (k := 2) rfl)) fun v w hR => ?_
    obtain ⟨rfl, hE⟩ := hR
    refine ⟨trivial, ?_⟩
    replace hm := hm.ext hE
    refine rw_p rfl rfl (y_build (cs := [_, _]) z123 ft123 rfl rfl rfl rfl rfl) ?_
    refine rw_p rfl rfl (y_ne2 rfl rfl iii123) ?_
    refine rw_p rfl rfl (y_move rfl) ?_
    refine rw_g rfl rfl rfl (fun hc => (y_move rfl)) ?_
    refine rw_g rfl rfl rfl (fun hc => (y_eq (gx hc rfl) rfl)) ?_
    refine rw_p rfl rfl (y_or rfl rfl rfl) ?_
    refine rw_p rfl rfl (y_move rfl) ?_
    refine rw_g rfl rfl rfl (fun hc => (y_move rfl)) ?_
    refine rw_g rfl rfl rfl (fun hc => (y_move rfl)) ?_
    refine rw_g rfl rfl rfl (fun hc => (y_len (gx hc rfl) rfl sl22)) ?_
    refine rw_g rfl rfl rfl (fun hc => (y_gt (gx hc rfl) (gx hc rfl))) ?_
    refine rw_p rfl rfl (y_or rfl rfl rfl) ?_
    refine rw_done ?_
    refine gn_sq ?_
    refine HW_cond rfl rfl (fun hc1 => ?_) (fun hc1 => ?_)
    ·
      simp only [Bool.or_eq_true, decide_eq_true_eq] at hc1
      have hD : Pl.rdec bs = none := by rw [hD0, if_pos (hc1.elim (fun h => h.elim (fun h9 => .inr (.inl h9)) (fun h9 => .inr (.inr (.inl h9)))) (fun h9 => .inr (.inr (.inr h9))))]
      refine HW_seq rfl ?_
      refine HW_text (.pure 0 (.act 1 (.pure 2 .done))) (by kernel_rfl) ?_
      refine rw_p rfl rfl (y_build (cs := [_, _, _, _, _]) z57 ft57 rfl rfl rfl rfl rfl) ?_
      refine a_store rfl rfl rfl rfl sz57 rfl hm 4 rfl rfl fun w hm => ?_
      refine rw_p rfl rfl (y_assign rfl) ?_
      refine rw_done ?_
      refine gn_sq ?_
      refine HW_ret rfl ?_
      refine gr_sq ?_
      refine toR (fin hret rfl (.cell rfl (run_loadVar_a (vs := [_, _, _, _, _]) ag57 (hm.get (k := 4) rfl) rfl) (.tmp rfl .nil)) .more ?_)
      exact ⟨none, 0, 0, .gap, [], by rw [hD]; rfl, .nil _ _ _ _, by rw [hD]; rfl, (hm.drop (List.nil_sublist _)).gapIn⟩
    ·
      simp only [Bool.or_eq_false_iff, decide_eq_false_iff_not, Decidable.not_not] at hc1
      obtain ⟨⟨g1, g2⟩, g3⟩ := hc1
      rw [if_neg (by rw [hc0]; simp [g1, g2]; omega)] at hD0
      have hrz : (Pl.rsize (Pl.ruint (bs.take 40) s5 4).2) = 0 ∨ 44 ≤ (Pl.rsize (Pl.ruint (bs.take 40) s5 4).2) := by unfold Pl.rsize; split <;> omega
      have hNl : (bs.take (Pl.rsize (Pl.ruint (bs.take 40) s5 4).2).toNat).length = (Pl.rsize (Pl.ruint (bs.take 40) s5 4).2).toNat := by rw [List.length_take]; omega
      refine HW_skip rfl ?_
      refine gn_sq ?_
      refine HW_seq rfl ?_
      cases hso : Pl.sumOk (bs.take (Pl.rsize (Pl.ruint (bs.take 40) s5 4).2).toNat)
      ·
        have hD : Pl.rdec bs = none := by rw [hD0, hso]; rfl
        refine HW_text (.pure 0 (.pure 1 (.pure 2 (.act 3 (.pure 4 (.pure 5 (.pure 6 (.pure 7 (.pure 8 .done))))))))) (by kernel_rfl) ?_
        refine rw_p rfl rfl (y_move rfl) ?_
        refine rw_p rfl rfl (y_move rfl) ?_
        refine rw_p rfl rfl (y_v (y_slice (ln := 0) (hn := (Pl.rsize (Pl.ruint (bs.take 40) s5 4).2).toNat) rfl sl22 rfl ⟨_, congrArg (fun x => some (Value.int .i64 x)) (by omega)⟩ (by omega) (by omega) (fun h => hsp (by omega))) (show _ = Value.slice (slp p cap 0 1) (bs.take (Pl.rsize (Pl.ruint (bs.take 40) s5 4).2).toNat).length cap by rw [hNl, Nat.sub_zero, Nat.sub_zero])) ?_
        refine a_call rfl rfl rfl go59 (k_openF (slp p cap 0 1) cap (bs.take (Pl.rsize (Pl.ruint (bs.take 40) s5 4).2).toNat) _ ((hx.ext0 hm.to).takeS hle) (by omega) (fun h ad e => slp_spot0 hsp h e) (by omega) hso) fun v w hR => ?_
        obtain ⟨⟨q_, c_, rfl⟩, hE⟩ := hR
        refine ⟨trivial, ?_⟩
        replace hm := hm.ext hE
        refine rw_p rfl rfl (y_move rfl) ?_
        refine rw_p rfl rfl (y_extract rfl rfl) ?_
        refine rw_p rfl rfl (y_extract rfl rfl) ?_
        refine rw_p rfl rfl (y_assign rfl) ?_
        refine rw_p rfl rfl (y_assign rfl) ?_
        refine rw_done ?_
        refine gn_sq ?_
        refine HW_seq rfl ?_
        refine HW_seq rfl ?_
        refine HW_text (.pure 0 (.pure 1 .done)) (by kernel_rfl) ?_
        refine rw_p rfl rfl (y_move rfl) ?_
        refine rw_p rfl rfl (y_not rfl) ?_
        refine rw_done ?_
        refine gn_sq ?_
        refine HW_condT rfl rfl rfl ?_
        refine HW_seq rfl ?_
        refine HW_text (.pure 0 (.act 1 (.pure 2 .done))) (by kernel_rfl) ?_
        refine rw_p rfl rfl (y_build (cs := [_, _, _, _, _]) z57 ft57 rfl rfl rfl rfl rfl) ?_
        refine a_store rfl rfl rfl rfl sz57 rfl hm 4 rfl rfl fun w hm => ?_
        refine rw_p rfl rfl (y_assign rfl) ?_
        refine rw_done ?_
        refine gn_sq ?_
        refine HW_ret rfl ?_
        refine gr_sq ?_
        refine toR (fin hret rfl (.cell rfl (run_loadVar_a (vs := [_, _, _, _, _]) ag57 (hm.get (k := 4) rfl) rfl) (.tmp rfl .nil)) .more ?_)
        exact ⟨none, 0, 0, .gap, [], by rw [hD]; rfl, .nil _ _ _ _, by rw [hD]; rfl, (hm.drop (List.nil_sublist _)).gapIn⟩
      ·
        rw [if_pos hso] at hD0
        have hsz := hso
        unfold Pl.sumOk at hsz
        simp only [Bool.and_eq_true, decide_eq_true_eq] at hsz
        have hTl : ((bs.take (Pl.rsize (Pl.ruint (bs.take 40) s5 4).2).toNat).take ((bs.take (Pl.rsize (Pl.ruint (bs.take 40) s5 4).2).toNat).length - 4)).length = (Pl.rsize (Pl.ruint (bs.take 40) s5 4).2).toNat - 4 := by rw [List.length_take]; omega
        refine HW_text (.pure 0 (.pure 1 (.pure 2 (.act 3 (.pure 4 (.pure 5 (.pure 6 (.pure 7 (.pure 8 .done))))))))) (by kernel_rfl) ?_
        refine rw_p rfl rfl (y_move rfl) ?_
        refine rw_p rfl rfl (y_move rfl) ?_
        refine rw_p rfl rfl (y_v (y_slice (ln := 0) (hn := (Pl.rsize (Pl.ruint (bs.take 40) s5 4).2).toNat) rfl sl22 rfl ⟨_, congrArg (fun x => some (Value.int .i64 x)) (by omega)⟩ (by omega) (by omega) (fun h => hsp (by omega))) (show _ = Value.slice (slp p cap 0 1) (bs.take (Pl.rsize (Pl.ruint (bs.take 40) s5 4).2).toNat).length cap by rw [hNl, Nat.sub_zero, Nat.sub_zero])) ?_
        refine a_call rfl rfl rfl go59 (k_openT (slp p cap 0 1) cap (bs.take (Pl.rsize (Pl.ruint (bs.take 40) s5 4).2).toNat) _ ((hx.ext0 hm.to).takeS hle) (by omega) (fun h ad e => slp_spot0 hsp h e) (by omega) hso) fun v w hR => ?_
        obtain ⟨p_z, cap_z, g_z, b_z, rfl, ha_z, hmc⟩ := hR
        refine ⟨trivial, ?_⟩
        replace hm := hm.callN hmc
        have hzle := ha_z.le
        refine rw_p rfl rfl (y_move rfl) ?_
        refine rw_p rfl rfl (y_extract rfl rfl) ?_
        refine rw_p rfl rfl (y_extract rfl rfl) ?_
        refine rw_p rfl rfl (y_assign rfl) ?_
        refine rw_p rfl rfl (y_assign rfl) ?_
        refine rw_done ?_
        refine gn_sq ?_
        refine HW_seq rfl ?_
        refine HW_seq rfl ?_
        refine HW_text (.pure 0 (.pure 1 .done)) (by kernel_rfl) ?_
        refine rw_p rfl rfl (y_move rfl) ?_
        refine rw_p rfl rfl (y_not rfl) ?_
        refine rw_done ?_
        refine gn_sq ?_
        refine HW_condF rfl rfl rfl ?_
        refine HW_skip rfl ?_
        refine gn_sq ?_
        refine HW_seq rfl ?_
        refine HW_text (.pure 0 (.pure 1 (.pure 2 (.act 3 .done)))) (by kernel_rfl) ?_
        refine rw_p rfl rfl (y_move rfl) ?_
        refine rw_p rfl rfl (y_slice (ln := 40) (hn := _) rfl sl22 ⟨_, congrArg (fun x => some (Value.int .i64 x)) (by omega)⟩ rfl (by omega) (by omega) (fun h => ha_z.spot (by omega))) ?_
        refine rw_p rfl rfl (y_fieldAddr rfl fo57_4) ?_
        refine a_store rfl rfl rfl rfl sz22 rfl hm 1 rfl rfl fun w hm => ?_
        refine rw_done ?_
        refine gn_sq ?_
        refine HW_seq rfl ?_
        refine HW_text (.pure 0 (.act 1 (.pure 2 .done))) (by kernel_rfl) ?_
        refine rw_p rfl rfl (y_loadA (s := 5) (vs := [_, _, _, _, _]) rfl ag57 (hm.nt 1 rfl) rfl) ?_
        refine a_store rfl rfl rfl rfl sz57 rfl hm 5 rfl rfl fun w hm => ?_
        refine rw_p rfl rfl (y_assign rfl) ?_
        refine rw_done ?_
        refine gn_sq ?_
        refine HW_ret rfl ?_
        refine toR (fin hret rfl (.cell rfl (run_loadVar_a (vs := [_, _, _, _, _]) ag57 (hm.get (k := 5) rfl) rfl) (.tmp rfl .nil)) .more ?_)
        exact ⟨p_z, cap_z, g_z, b_z, (bs.take (Pl.rsize (Pl.ruint (bs.take 40) s5 4).2).toNat).take ((bs.take (Pl.rsize (Pl.ruint (bs.take 40) s5 4).2).toNat).length - 4), by rw [hD0]; simp only [Option.getD_some, Option.isSome_some, if_true, rcV, List.length_drop], ha_z, by rw [hD0]; rfl, (hm.pick [0] rfl)⟩

end Go.Proofs.YthailbggeafckaaGreat
