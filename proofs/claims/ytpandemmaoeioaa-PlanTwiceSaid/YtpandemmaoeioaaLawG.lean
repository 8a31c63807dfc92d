/- Contracts of functions of the program: what each returns. Conditions: the hypotheses of each theorem. -/
import Derived.Test.YtpandemmaoeioaaLawE
set_option linter.unusedVariables false
set_option linter.unusedSimpArgs false
namespace Go.Proofs.Ytpandemmaoeioaa
open Go Go.Cx

theorem sc25 : scal Try.prog 25 = true := by kernel_rfl
theorem go44 : isGo Try.prog 44 = true := by kernel_rfl
theorem go45 : isGo Try.prog 45 = true := by kernel_rfl
theorem go56 : isGo Try.prog 56 = true := by kernel_rfl
theorem z22 : zer Try.prog 22 = some [.slice none 0 0] := by kernel_rfl

theorem p_chunks (m : Nat) (a b : Int) (w0 : World) : C Try.prog 44 [.pointer (some ⟨m, 0, none⟩), .int .i64 a, .int .i64 b] w0 fun v w' => ∃ m1 m2 m3, v = .func (.func 56) #[] ⟨[.pointer (some ⟨m2, 0, none⟩), .pointer (some ⟨m3, 0, none⟩), .pointer (some ⟨m1, 0, none⟩)]⟩ ∧ Mem w0 w' No [(m3, .row 3 [.int .i64 b]), (m2, .row 3 [.int .i64 a]), (m1, .row 25 [.pointer (some ⟨m, 0, none⟩)])] := by
  refine C_of Try.func44 rfl rfl rfl fun κ hret hnorm => ?_
  have hm := Mem.start w0
  refine HW_seq rfl ?_
  refine HW_text (.act 0 (.act 1 (.act 2 (.pure 3 .done)))) (by kernel_rfl) ?_
  refine a_box rfl rfl rfl rfl hm trivial fun m1 w hg_m1 hm hh => ?_
  refine a_box rfl rfl rfl rfl hm trivial fun m2 w hg_m2 hm hh => ?_
  refine a_box rfl rfl rfl rfl hm trivial fun m3 w hg_m3 hm hh => ?_
  refine rw_p rfl rfl (y_assign rfl) ?_
  refine rw_done ?_
  refine gn_sq ?_
  refine HW_seq rfl ?_
  refine HW_text (.pure 0 (.pure 1 .done)) (by kernel_rfl) ?_
  refine rw_p rfl rfl (y_func rfl rfl) ?_
  refine rw_p rfl rfl (y_assign rfl) ?_
  refine rw_done ?_
  refine gn_sq ?_
  refine HW_ret rfl ?_
  refine toR (fin hret rfl (.tmp rfl .nil) .one ?_)
  exact ⟨_, _, _, rfl, hm⟩

set_option maxHeartbeats 400000 in
theorem p_chunks1 (a b : Nat) (m m1 m2 m3 yl : Nat) (s : Int) (pf : Option Addr) (cf : Nat) (pb : Option Addr) (cb : Nat) (pl : Option Addr) (cl : Nat) (xs : List CmdV) (I : List (Nat × Blk) → Nat → World → Prop) (F0 : List (Nat × Blk)) (w0 : World) (hfw : Pl.fewC s (xs.map CmdV.cm)) (hmx : (xs.map CmdV.cm).length ≤ 1000000 ∧ Pl.first s (xs.map CmdV.cm) (xs.map CmdV.cm).length ≤ 4611686018427387903) (hs : Pl.I64 s ∧ 1 ≤ s) (hab : a ≤ b ∧ (b : Int) ≤ Pl.first s (xs.map CmdV.cm) (xs.map CmdV.cm).length)
    (hrow : ∀ F i w, I F i w → w.heap[m2]? = some (Blk.row 3 [.int .i64 a]).toObj ∧ w.heap[m3]? = some (Blk.row 3 [.int .i64 b]).toObj ∧ w.heap[m1]? = some (Blk.row 25 [.pointer (some ⟨m, 0, none⟩)]).toObj)
    (hpl : ∀ F i w, I F i w → w.heap[m]? = some (Blk.row 64 (plV s pf (firstL s (xs.map CmdV.cm)).length cf pb cb pl xs.length cl)).toObj ∧ Rd w pf ((firstL s (xs.map CmdV.cm)).flatMap encI) ∧ Rd w pb ((beforeL (xs.map CmdV.cm)).flatMap encI) ∧ Rd w pl (xs.flatMap encC) ∧ ∀ x ∈ xs, x.d.okN w ∧ x.d.bs.length ≤ 140737488355328)
    (hext : ∀ F i w w' N, I F i w → Mem w w' No N → I (F ++ N) i w')
    (hy : ∀ F i w k d q n cp g bb, I F i w → a + i < b → (Pl.steps s 0 (xs.map CmdV.cm))[a + i]? = some (k, d) → (g, bb) ∈ F → Acc 5 1 q n cp (d.bs.flatMap encB) g bb → Yw Try.prog yl [.agg ⟨cmV d q n cp⟩] w fun v w' => v = .bool true ∧ I F (i + 1) w') (h0 : I F0 0 w0) : C Try.prog 56 [.func (.yield yl) #[] #[], .pointer (some ⟨m2, 0, none⟩), .pointer (some ⟨m3, 0, none⟩), .pointer (some ⟨m1, 0, none⟩)] w0 fun v w' => ∃ F, I F (b - a) w' := by
  refine C_of Try.func56 rfl rfl rfl fun κ hret hnorm => ?_
  have hm := Mem.start w0
  refine HW_seq rfl ?_
  refine HW_text (.pure 0 (.pure 1 .done)) (by kernel_rfl) ?_
  refine rw_p rfl rfl (y_load rfl sc3 (nowT ((hm.to.same _ (Array.getElem?_eq_some_iff.1 (hrow _ _ _ h0).1).1 id).trans (hrow _ _ _ h0).1)) rfl) ?_
  refine rw_p rfl rfl (y_assign rfl) ?_
  refine rw_done ?_
  refine gn_sq ?_
  refine HW_block rfl ?_
  refine HW_loopK (ι := List (Nat × Blk) × Nat) rfl (ks := [0, 2, 3]) (.cons rfl (.cons rfl (.cons rfl .nil))) (fun x => [(5, .int .i64 ((a + x.2 : Nat) : Int))]) (fun x w => I x.1 x.2 w ∧ x.2 ≤ b - a) (fun x => b - a - x.2) (F0, 0) (⟨h0, Nat.zero_le _⟩) ⟨rfl, trivial⟩ (fun x w hM => ?_)
  obtain ⟨hI, hk⟩ := hM
  have hm := Mem.start w
  refine HW_seq rfl ?_
  refine HW_seq rfl ?_
  refine HW_text (.pure 0 (.pure 1 (.pure 2 .done))) (by kernel_rfl) ?_
  refine rw_p rfl rfl (y_move rfl) ?_
  refine rw_p rfl rfl (y_load rfl sc3 (nowT ((hm.to.same _ (Array.getElem?_eq_some_iff.1 (hrow _ _ _ hI).2.1).1 id).trans (hrow _ _ _ hI).2.1)) rfl) ?_
  refine rw_p rfl rfl (y_lt rfl rfl) ?_
  refine rw_done ?_
  refine gn_sq ?_
  refine HW_cond rfl rfl (fun hc0 => ?_) (fun hc0 => ?_)
  ·
    simp only [decide_eq_true_eq] at hc0
    refine HW_skip rfl ?_
    refine gn_sq ?_
    refine HW_seq rfl ?_
    refine HW_block rfl ?_
    refine HW_seq rfl ?_
    refine HW_text (.pure 0 (.pure 1 (.act 2 (.pure 3 (.pure 4 (.pure 5 (.act 6 (.act 7 (.pure 8 .done))))))))) (by kernel_rfl) ?_
    refine rw_p rfl rfl (y_load rfl sc25 (nowT ((hm.to.same _ (Array.getElem?_eq_some_iff.1 (hrow _ _ _ hI).2.2).1 id).trans (hrow _ _ _ hI).2.2)) rfl) ?_
    refine rw_p rfl rfl (y_move rfl) ?_
    refine a_call rfl rfl rfl go15 (p_atG ((a + x.2 : Nat) : Int) m s pf cf pb cb pl cl xs _ ((hm.to.same _ (Array.getElem?_eq_some_iff.1 (hpl _ _ _ hI).1).1 id).trans (hpl _ _ _ hI).1) ((hpl _ _ _ hI).2.1.ext0 hm.to) ((hpl _ _ _ hI).2.2.1.ext0 hm.to) ((hpl _ _ _ hI).2.2.2.1.ext0 hm.to) hfw hmx (fun y hy => ⟨((hpl _ _ _ hI).2.2.2.2 y hy).1.ext hm.to, ((hpl _ _ _ hI).2.2.2.2 y hy).2⟩) hs (by simp only [Pl.I64]; omega) (by omega)) fun v w hR => ?_
    obtain ⟨k_t, d_t, p_t, n_t, cap_t, g_t, b_t, rfl, ha_t, hst_t, hmc⟩ := hR
    refine ⟨trivial, ?_⟩
    replace hm := hm.callN hmc
    obtain rfl := ha_t.lenB
    rw [Int.toNat_natCast] at hst_t
    refine rw_p rfl rfl (y_move rfl) ?_
    refine rw_p rfl rfl (y_extract rfl rfl) ?_
    refine rw_p rfl rfl (y_extract rfl rfl) ?_
    refine a_alloc rfl rfl z36 hm trivial fun m1 w hg_m1 hm hh => ?_
    refine a_store rfl rfl rfl rfl sz36 rfl hm 0 rfl rfl fun w hm => ?_
    refine rw_p rfl rfl (y_assign rfl) ?_
    refine rw_done ?_
    refine gn_sq ?_
    refine HW_seq rfl ?_
    refine HW_text (.pure 0 (.pure 1 (.pure 2 (.pure 3 (.pure 4 (.pure 5 (.act 6 (.pure 7 (.pure 8 .done))))))))) (by kernel_rfl) ?_
    refine rw_p rfl rfl (y_move rfl) ?_
    refine rw_p rfl rfl (y_not rfl) ?_
    refine rw_p rfl rfl (y_move rfl) ?_
    refine rw_p rfl rfl (y_move rfl) ?_
    refine rw_p rfl rfl (y_fieldAddr rfl fo36_2) ?_
    refine rw_p rfl rfl (y_loadA (s := 5) (vs := [_, _, _, _, _]) rfl ag34 (hm.nt 0 rfl) rfl) ?_
    have hI2 := hext _ _ _ _ _ hI hm
    refine a_yield rfl rfl rfl rfl (hy _ _ _ k_t d_t p_t d_t.bs.length cap_t g_t b_t hI2 (by omega) hst_t (by simp [setB]) ha_t) fun v w hR => ?_
    obtain ⟨rfl, hJ⟩ := hR
    refine ⟨trivial, ?_⟩
    refine rw_p rfl rfl (y_not rfl) ?_
    refine rw_p rfl rfl (y_pickF rfl rfl) ?_
    refine rw_done ?_
    refine gn_sq ?_
    refine HW_condF rfl rfl rfl ?_
    refine HW_skip rfl ?_
    refine gn_bl ?_
    refine gn_sq ?_
    refine HW_text (.pure 0 (.pure 1 (.pure 2 .done))) (by kernel_rfl) ?_
    refine rw_p rfl rfl (y_move rfl) ?_
    refine rw_p rfl rfl (y_add rfl rfl (i64w (by omega) (by omega))) ?_
    refine rw_p rfl rfl (y_assign rfl) ?_
    refine rw_done ?_
    refine next ((_, x.2 + 1) : List (Nat × Blk) × Nat) (by simp only; omega) ⟨hJ, by simp only; omega⟩ ⟨nx (a + x.2), rfl, rfl, rfl, trivial⟩
  ·
    simp only [decide_eq_false_iff_not] at hc0
    obtain hke : x.2 = b - a := by omega
    refine HW_exit rfl ?_
    refine gx_sq (gx_lp ?_)
    refine gx_here ?_
    refine toN (fin hnorm rfl .nil .nil ?_)
    exact ⟨x.1, by rw [← hke]; exact hI⟩

set_option maxHeartbeats 1600000 in
theorem p_run (a b : Int) (r : Option Addr) (cr : Nat) (f : List UInt8) (m : Nat) (s : Int) (pf : Option Addr) (cf : Nat) (pb : Option Addr) (cb : Nat) (pl : Option Addr) (cl : Nat) (xs : List CmdV) (w0 : World) (hP : w0.heap[m]? = some (Blk.row 64 (plV s pf (firstL s (xs.map CmdV.cm)).length cf pb cb pl xs.length cl)).toObj) (hF : Rd w0 pf ((firstL s (xs.map CmdV.cm)).flatMap encI)) (hB : Rd w0 pb ((beforeL (xs.map CmdV.cm)).flatMap encI)) (hL : Rd w0 pl (xs.flatMap encC)) (hfw : Pl.fewC s (xs.map CmdV.cm)) (hmx : (xs.map CmdV.cm).length ≤ 1000000 ∧ Pl.first s (xs.map CmdV.cm) (xs.map CmdV.cm).length ≤ 4611686018427387903) (hD : ∀ x ∈ xs, x.d.okN w0 ∧ x.d.bs.length ≤ 140737488355328) (hs : Pl.I64 s ∧ 1 ≤ s) (hf : Rd w0 r (f.flatMap encB)) (hf2 : f.length ≤ cr ∧ f.length ≤ 140737488355328) (hfs : cr ≠ 0 → ∀ ad, r = some ad → ad.spot = none) (h64 : Pl.I64 a ∧ Pl.I64 b) (hst1 : (Pl.steps s 0 (xs.map CmdV.cm)).length ≤ 1000000) : C Try.prog 24 [.pointer (some ⟨m, 0, none⟩), .slice r f.length cr, .int .i64 a, .int .i64 b] w0 fun v w' => ∃ (n c g : Nat) (bb : Blk) (qa : Option Addr), v = .tuple ⟨[.slice qa n c, .bool (Pl.runP f (Pl.steps s 0 (xs.map CmdV.cm)) a b).isSome]⟩ ∧ Acc 5 1 qa n c (((Pl.runP f (Pl.steps s 0 (xs.map CmdV.cm)) a b).getD []).flatMap encB) g bb ∧ n = ((Pl.runP f (Pl.steps s 0 (xs.map CmdV.cm)) a b).getD []).length ∧ Mem w0 w' No [(g, bb)] := by
  have hsl := Pl.steps_len 0 hfw
  refine C_ofM Try.func24 rfl rfl rfl fun κ hret hnorm => ?_
  have hm := Mem.start w0
  refine HW_seq rfl ?_
  refine HW_text (.pure 0 (.pure 1 .done)) (by kernel_rfl) ?_
  refine rw_p rfl rfl (y_assign rfl) ?_
  refine rw_p rfl rfl (y_assign rfl) ?_
  refine rw_done ?_
  refine gn_sq ?_
  refine HW_seq rfl ?_
  refine HW_seq rfl ?_
  by_cases ha0 : a < 0
  rotate_left
  by_cases hb0 : Pl.first s (xs.map CmdV.cm) (xs.map CmdV.cm).length < b
  rotate_left
  by_cases hab : b < a
  rotate_left
  rotate_left
  ·
    have hrn : Pl.runP f (Pl.steps s 0 (xs.map CmdV.cm)) a b = none := by unfold Pl.runP; rw [if_neg (by omega)]
    refine HW_text (.pure 0 (.pure 1 (.pure 2 (.pure 3 (.pure 4 (.pure 5 (.pure 6 (.pure 7 (.pure 8 (.act 9 (.pure 10 (.pure 11 (.pure 12 (.pure 13 (.pure 14 (.pure 15 (.pure 16 .done))))))))))))))))) (by kernel_rfl) ?_
    refine rw_p rfl rfl (y_move rfl) ?_
    refine rw_p rfl rfl (y_pnil rfl rfl pb25) ?_
    refine rw_p rfl rfl (y_move rfl) ?_
    refine rw_p rfl rfl (y_move rfl) ?_
    refine rw_p rfl rfl (y_as (c := true) (y_lt rfl rfl) (decide_eq_true ha0)) ?_
    refine rw_p rfl rfl (y_pickF rfl rfl) ?_
    refine rw_p rfl rfl (y_move rfl) ?_
    refine rw_gf rfl rfl (by decide) rfl ?_
    refine rw_gf rfl rfl (by decide) rfl ?_
    refine a_gf rfl rfl (by decide) rfl trivial ?_
    refine rw_gf rfl rfl (by decide) rfl ?_
    refine rw_p rfl rfl (y_pickT rfl rfl) ?_
    refine rw_p rfl rfl (y_move rfl) ?_
    refine rw_gf rfl rfl (by decide) rfl ?_
    refine rw_gf rfl rfl (by decide) rfl ?_
    refine rw_gf rfl rfl (by decide) rfl ?_
    refine rw_p rfl rfl (y_pickT rfl rfl) ?_
    refine rw_done ?_
    refine gn_sq ?_
    refine HW_condT rfl rfl rfl ?_
    refine HW_seq rfl ?_
    refine HW_text (.pure 0 (.pure 1 .done)) (by kernel_rfl) ?_
    refine rw_p rfl rfl (y_assign rfl) ?_
    refine rw_p rfl rfl (y_assign rfl) ?_
    refine rw_done ?_
    refine gn_sq ?_
    refine HW_ret rfl ?_
    refine gr_sq ?_
    refine toR (fin0 hret rfl (.tmp rfl (.tmp rfl .nil)) .more ?_)
    exact ⟨0, 0, 0, .gap, none, by rw [hrn]; rfl, by rw [hrn]; exact .nil _ _ _ _, by rw [hrn]; rfl, (hm.drop (List.nil_sublist _)).gapIn⟩
  ·
    have hrn : Pl.runP f (Pl.steps s 0 (xs.map CmdV.cm)) a b = none := by unfold Pl.runP; rw [if_neg (by omega)]
    refine HW_text (.pure 0 (.pure 1 (.pure 2 (.pure 3 (.pure 4 (.pure 5 (.pure 6 (.pure 7 (.pure 8 (.act 9 (.pure 10 (.pure 11 (.pure 12 (.pure 13 (.pure 14 (.pure 15 (.pure 16 .done))))))))))))))))) (by kernel_rfl) ?_
    refine rw_p rfl rfl (y_move rfl) ?_
    refine rw_p rfl rfl (y_pnil rfl rfl pb25) ?_
    refine rw_p rfl rfl (y_move rfl) ?_
    refine rw_p rfl rfl (y_move rfl) ?_
    refine rw_p rfl rfl (y_as (c := false) (y_lt rfl rfl) (decide_eq_false ha0)) ?_
    refine rw_p rfl rfl (y_pickF rfl rfl) ?_
    refine rw_p rfl rfl (y_move rfl) ?_
    refine rw_p rfl rfl (y_move rfl) ?_
    refine rw_p rfl rfl (y_move rfl) ?_
    refine a_call rfl rfl rfl go14 (p_len m s pf cf pb cb pl cl xs _ ((hm.to.same _ (Array.getElem?_eq_some_iff.1 hP).1 id).trans hP) (hF.ext0 hm.to) (hB.ext0 hm.to) (hL.ext0 hm.to) hfw hmx) fun v w hR => ?_
    obtain ⟨rfl, hE⟩ := hR
    refine ⟨trivial, ?_⟩
    replace hm := hm.ext hE
    refine rw_p rfl rfl (y_as (c := true) (y_gt rfl rfl) (decide_eq_true hb0)) ?_
    refine rw_p rfl rfl (y_pickF rfl rfl) ?_
    refine rw_p rfl rfl (y_move rfl) ?_
    refine rw_gf rfl rfl (by decide) rfl ?_
    refine rw_gf rfl rfl (by decide) rfl ?_
    refine rw_gf rfl rfl (by decide) rfl ?_
    refine rw_p rfl rfl (y_pickT rfl rfl) ?_
    refine rw_done ?_
    refine gn_sq ?_
    refine HW_condT rfl rfl rfl ?_
    refine HW_seq rfl ?_
    refine HW_text (.pure 0 (.pure 1 .done)) (by kernel_rfl) ?_
    refine rw_p rfl rfl (y_assign rfl) ?_
    refine rw_p rfl rfl (y_assign rfl) ?_
    refine rw_done ?_
    refine gn_sq ?_
    refine HW_ret rfl ?_
    refine gr_sq ?_
    refine toR (fin0 hret rfl (.tmp rfl (.tmp rfl .nil)) .more ?_)
    exact ⟨0, 0, 0, .gap, none, by rw [hrn]; rfl, by rw [hrn]; exact .nil _ _ _ _, by rw [hrn]; rfl, (hm.drop (List.nil_sublist _)).gapIn⟩
  ·
    have hrn : Pl.runP f (Pl.steps s 0 (xs.map CmdV.cm)) a b = none := by unfold Pl.runP; rw [if_neg (by omega)]
    refine HW_text (.pure 0 (.pure 1 (.pure 2 (.pure 3 (.pure 4 (.pure 5 (.pure 6 (.pure 7 (.pure 8 (.act 9 (.pure 10 (.pure 11 (.pure 12 (.pure 13 (.pure 14 (.pure 15 (.pure 16 .done))))))))))))))))) (by kernel_rfl) ?_
    refine rw_p rfl rfl (y_move rfl) ?_
    refine rw_p rfl rfl (y_pnil rfl rfl pb25) ?_
    refine rw_p rfl rfl (y_move rfl) ?_
    refine rw_p rfl rfl (y_move rfl) ?_
    refine rw_p rfl rfl (y_as (c := false) (y_lt rfl rfl) (decide_eq_false ha0)) ?_
    refine rw_p rfl rfl (y_pickF rfl rfl) ?_
    refine rw_p rfl rfl (y_move rfl) ?_
    refine rw_p rfl rfl (y_move rfl) ?_
    refine rw_p rfl rfl (y_move rfl) ?_
    refine a_call rfl rfl rfl go14 (p_len m s pf cf pb cb pl cl xs _ ((hm.to.same _ (Array.getElem?_eq_some_iff.1 hP).1 id).trans hP) (hF.ext0 hm.to) (hB.ext0 hm.to) (hL.ext0 hm.to) hfw hmx) fun v w hR => ?_
    obtain ⟨rfl, hE⟩ := hR
    refine ⟨trivial, ?_⟩
    replace hm := hm.ext hE
    refine rw_p rfl rfl (y_as (c := false) (y_gt rfl rfl) (decide_eq_false hb0)) ?_
    refine rw_p rfl rfl (y_pickF rfl rfl) ?_
    refine rw_p rfl rfl (y_move rfl) ?_
    refine rw_p rfl rfl (y_move rfl) ?_
    refine rw_p rfl rfl (y_move rfl) ?_
    refine rw_p rfl rfl (y_as (c := true) (y_gt rfl rfl) (decide_eq_true hab)) ?_
    refine rw_p rfl rfl (y_pickF rfl rfl) ?_
    refine rw_done ?_
    refine gn_sq ?_
    refine HW_condT rfl rfl rfl ?_
    refine HW_seq rfl ?_
    refine HW_text (.pure 0 (.pure 1 .done)) (by kernel_rfl) ?_
    refine rw_p rfl rfl (y_assign rfl) ?_
    refine rw_p rfl rfl (y_assign rfl) ?_
    refine rw_done ?_
    refine gn_sq ?_
    refine HW_ret rfl ?_
    refine gr_sq ?_
    refine toR (fin0 hret rfl (.tmp rfl (.tmp rfl .nil)) .more ?_)
    exact ⟨0, 0, 0, .gap, none, by rw [hrn]; rfl, by rw [hrn]; exact .nil _ _ _ _, by rw [hrn]; rfl, (hm.drop (List.nil_sublist _)).gapIn⟩
  ·
    have hrn : Pl.runP f (Pl.steps s 0 (xs.map CmdV.cm)) a b = Pl.exs f (Pl.part (Pl.steps s 0 (xs.map CmdV.cm)) a.toNat (b - a).toNat) := by unfold Pl.runP; rw [if_pos (by omega)]
    refine HW_text (.pure 0 (.pure 1 (.pure 2 (.pure 3 (.pure 4 (.pure 5 (.pure 6 (.pure 7 (.pure 8 (.act 9 (.pure 10 (.pure 11 (.pure 12 (.pure 13 (.pure 14 (.pure 15 (.pure 16 .done))))))))))))))))) (by kernel_rfl) ?_
    refine rw_p rfl rfl (y_move rfl) ?_
    refine rw_p rfl rfl (y_pnil rfl rfl pb25) ?_
    refine rw_p rfl rfl (y_move rfl) ?_
    refine rw_p rfl rfl (y_move rfl) ?_
    refine rw_p rfl rfl (y_as (c := false) (y_lt rfl rfl) (decide_eq_false ha0)) ?_
    refine rw_p rfl rfl (y_pickF rfl rfl) ?_
    refine rw_p rfl rfl (y_move rfl) ?_
    refine rw_p rfl rfl (y_move rfl) ?_
    refine rw_p rfl rfl (y_move rfl) ?_
    refine a_call rfl rfl rfl go14 (p_len m s pf cf pb cb pl cl xs _ ((hm.to.same _ (Array.getElem?_eq_some_iff.1 hP).1 id).trans hP) (hF.ext0 hm.to) (hB.ext0 hm.to) (hL.ext0 hm.to) hfw hmx) fun v w hR => ?_
    obtain ⟨rfl, hE⟩ := hR
    refine ⟨trivial, ?_⟩
    replace hm := hm.ext hE
    refine rw_p rfl rfl (y_as (c := false) (y_gt rfl rfl) (decide_eq_false hb0)) ?_
    refine rw_p rfl rfl (y_pickF rfl rfl) ?_
    refine rw_p rfl rfl (y_move rfl) ?_
    refine rw_p rfl rfl (y_move rfl) ?_
    refine rw_p rfl rfl (y_move rfl) ?_
    refine rw_p rfl rfl (y_as (c := false) (y_gt rfl rfl) (decide_eq_false hab)) ?_
    refine rw_p rfl rfl (y_pickF rfl rfl) ?_
    refine rw_done ?_
    refine gn_sq ?_
    refine HW_condF rfl rfl rfl ?_
    refine HW_skip rfl ?_
    refine gn_sq ?_
    refine HW_seq rfl ?_
    refine HW_text (.act 0 .done) (by kernel_rfl) ?_
    refine a_alloc rfl rfl z22 hm trivial fun m1 w hg_m1 hm hh => ?_
    replace hm := hm.gapIn
    have ha_o := Acc.nil 34 5 none 0
    refine rw_done ?_
    refine gn_sq ?_
    refine HW_seq rfl ?_
    refine HW_seq rfl ?_
    refine HW_text (.pure 0 (.pure 1 (.pure 2 (.act 3 .done)))) (by kernel_rfl) ?_
    refine rw_p rfl rfl (y_move rfl) ?_
    refine rw_p rfl rfl (y_move rfl) ?_
    refine rw_p rfl rfl (y_move rfl) ?_
    refine a_call rfl rfl rfl go44 (p_chunks m a b _) fun v w hR => ?_
    obtain ⟨q1, q2, q3, rfl, hmc⟩ := hR
    refine ⟨trivial, ?_⟩
    replace hm := hm.callN hmc
    refine rw_done ?_
    refine gn_sq ?_
    refine HW_block rfl ?_
    refine HW_range rfl rfl go56 hm fun a_ fn r0 l w LB hLB hfr hl_ hs_ hm => ?_
    refine C.mono (C.eqv (p_chunks1 a.toNat b.toNat m q1 q2 q3 l s pf cf pb cb pl cl xs (fun F i w => ∃ ys p n cap g b9, Mem w0 w No ((l, LB .ready none) :: (r0, dblk (some [])) :: (q3, .row 3 [.int .i64 b]) :: (q2, .row 3 [.int .i64 a]) :: (q1, .row 25 [.pointer (some ⟨m, 0, none⟩)]) :: (g, b9) :: (m1, .row 22 [.slice p n cap]) :: F) ∧ Acc 34 5 p n cap (ys.flatMap encC) g b9 ∧ ys.map CmdV.cm = Pl.part (Pl.steps s 0 (xs.map CmdV.cm)) a.toNat i ∧ (∀ y ∈ ys, Held F 5 y.d) ∧ n = i) [] _ hfw hmx hs (by omega)
      (by rintro F i w ⟨ys, p, n, cap, g, b9, hm, -⟩; rw [Int.toNat_of_nonneg (by omega), Int.toNat_of_nonneg (by omega)]; exact ⟨hm.get (k := 3) rfl, hm.get (k := 2) rfl, hm.get (k := 4) rfl⟩)
      (by rintro F i w ⟨ys, p, n, cap, g, b9, hm, -⟩; exact ⟨(hm.to.same _ (Array.getElem?_eq_some_iff.1 hP).1 id).trans hP, hF.ext0 hm.to, hB.ext0 hm.to, hL.ext0 hm.to, fun y hy => ⟨(hD y hy).1.ext hm.to, (hD y hy).2⟩⟩)
      (by rintro F i w w' N ⟨ys, p, n, cap, g, b9, hm, ha, h1, h2, h4⟩ hc; exact ⟨ys, p, n, cap, g, b9, Mem.callT (N1 := []) hm hc, ha, h1, fun y hy => (h2 y hy).left, h4⟩)
      (fun F i w k d q n cp g bb hI hlt hst hin hacc => ?_) ⟨[], none, 0, 0, 0, .gap, hm, .nil _ _ _ _, rfl, by simp, rfl⟩) rfl) (fun v w hR => ?_)
    ·
      subst hLB
      obtain ⟨ys, p_o, n_o, cap_o, g_o, b_o, hm, ha_o, hys, hhy, hnn⟩ := hI
      obtain rfl := hacc.lenB
      have hil := Pl.part_len (Pl.steps s 0 (xs.map CmdV.cm)) a.toNat i
      refine Yw.of hfr (hm.get (k := 0) rfl) rfl rfl ?_
      refine HW_text (.act 0 (.act 1 .done)) (by kernel_rfl) ?_
      refine a_alloc rfl rfl z34 hm trivial fun m2 w hg_m2 hm hh => ?_
      refine a_store rfl rfl rfl rfl sz34 rfl hm 0 rfl rfl fun w hm => ?_
      refine rw_done ?_
      refine g_begin hm 1 rfl fun w hm => ?_
      refine HW_block rfl ?_
      refine HW_text (.pure 0 (.pure 1 (.act 2 (.act 3 (.act 4 .done))))) (by kernel_rfl) ?_
      refine rw_p rfl rfl (y_load rfl sc22 (hm.nt 7 rfl) rfl) ?_
      refine rw_p rfl rfl (y_loadA (s := 5) (vs := [_, _, _, _, _]) rfl ag34 (hm.nt 0 rfl) rfl) ?_
      refine a_buildSlice (l := [_, _, _, _, _]) rfl rfl sl22 z34 rfl rfl rfl rfl rfl rfl rfl hm trivial fun m3 w hg_m3 hm hh => ?_
      refine a_append rfl rfl rfl rfl rfl rfl sl22 sl22 z34 rfl rfl (Rd.row0 (hm.get (k := 0) rfl)) rfl ha_o hm 7 rfl (by omega) (by omega) fun p_o cap_o g_o b_o w ha_o hm => ?_
      refine a_store rfl rfl rfl rfl sz22 rfl hm 8 rfl rfl fun w hm => ?_
      refine rw_done ?_
      refine gn_bl ?_
      refine g_end hm 2 rfl fun w hm => ?_
      refine ⟨rfl, ys ++ [mkC d q cp], p_o, _, cap_o, g_o, b_o, (hm.pickT [2, 3, 4, 5, 6, 7, 8] 9 rfl), ?_, ?_, ?_, by omega⟩
      · rw [List.flatMap_append]; simpa [encC_mk, cmV] using ha_o
      · rw [List.map_append, hys, Pl.part_next hst]; rfl
      · exact fun y hy => (List.mem_append.1 hy).elim (hhy y) fun h => by rw [List.mem_singleton.1 h]; exact hacc.held hin
    ·
      subst hLB
      obtain ⟨F, ys, p_o, n_o, cap_o, g_o, b_o, hm, ha_o, hys, hhy, hnn⟩ := hR
      have hys2 : ys.map CmdV.cm = Pl.part (Pl.steps s 0 (xs.map CmdV.cm)) a.toNat (b - a).toNat := by rw [hys]; congr 1; omega
      have hyl := congrArg List.length hys2
      rw [List.length_map] at hyl
      have hil := Pl.part_len (Pl.steps s 0 (xs.map CmdV.cm)) a.toNat (b - a).toNat
      obtain rfl := ha_o.lenE encC_len (by decide)
      have hyc : ∀ c ∈ ys, Pl.ccheck c.cm = 0 := fun c hc => by
        have h9 : c.cm ∈ ys.map CmdV.cm := List.mem_map.2 ⟨c, hc, rfl⟩
        rw [hys2] at h9
        obtain ⟨x, hx, e⟩ := Pl.part_mem h9
        rw [← e]; exact (Pl.steps_ok (b := 0) (fun c hc => (hfw c hc).1) x hx).1
      refine ⟨.ready, none, nofun, hm.get (k := 0) rfl, fun w4 hw4 => ?_⟩
      replace hm := g_over hm hw4
      refine gn_bl ?_
      refine gn_sq ?_
      refine HW_seq rfl ?_
      refine HW_text (.pure 0 (.pure 1 (.act 2 (.pure 3 (.pure 4 (.pure 5 (.pure 6 .done))))))) (by kernel_rfl) ?_
      refine rw_p rfl rfl (y_move rfl) ?_
      refine rw_p rfl rfl (y_load rfl sc22 (hm.nt 5 rfl) rfl) ?_
      refine a_call rfl rfl rfl go45 (s_execute r cr f p_o cap_o ys _ (hf.ext0 hm.to) (ha_o.rd hm 4 rfl) (fun c hc => ⟨hyc c hc, (hhy c hc).rd hm (by intro e he; simp [he, setB])⟩) (by omega) (by omega)) fun v w hR => ?_
      obtain ⟨n_e, cap_e, g_e, b_e, p_e, rfl, ha_e, hn_e, hmc⟩ := hR
      subst hn_e
      refine ⟨trivial, ?_⟩
      replace hm := hm.callN hmc
      refine rw_p rfl rfl (y_extract rfl rfl) ?_
      refine rw_p rfl rfl (y_extract rfl rfl) ?_
      refine rw_p rfl rfl (y_assign rfl) ?_
      refine rw_p rfl rfl (y_assign rfl) ?_
      refine rw_done ?_
      refine gn_sq ?_
      refine HW_ret rfl ?_
      refine toR (fin1 hret rfl hm 1 rfl .more fun w hm => ⟨(.tmp rfl (.tmp rfl .nil)), ?_⟩)
      exact ⟨_, cap_e, g_e, b_e, p_e, by rw [hrn, ← hys2]; rfl, by rw [hrn, ← hys2]; exact ha_e, by rw [hrn, ← hys2], (hm.pick [0] rfl)⟩

end Go.Proofs.Ytpandemmaoeioaa
