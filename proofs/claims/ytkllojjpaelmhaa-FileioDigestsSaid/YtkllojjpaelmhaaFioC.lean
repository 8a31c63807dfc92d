/- Contracts of functions of the program: what each returns. Conditions: the hypotheses of each theorem. -/
import Derived.Test.YtkllojjpaelmhaaFio
set_option linter.unusedVariables false
set_option linter.unusedSimpArgs false
namespace Go.Proofs.Ytkllojjpaelmhaa
open Go Go.Cx

theorem go13 : isGo Try.prog 13 = true := by kernel_rfl
theorem go19 : isGo Try.prog 19 = true := by kernel_rfl
theorem go10 : isGo Try.prog 10 = true := by kernel_rfl
theorem go15 : isGo Try.prog 15 = true := by kernel_rfl
theorem go21 : isGo Try.prog 21 = true := by kernel_rfl
theorem go45 : isGo Try.prog 45 = true := by kernel_rfl

theorem f_readX (D : Pl.Dv) (m : Nat) (Z : List (Nat × Blk)) (w0 : World) (hZ : OwnZ w0 Z) (hz : DevZ 79 83 5 D m Z) (a b : Int) (ha : Pl.I64 a) (hb : Pl.I64 b) (hon : Pl.onD D a b = false) : C Try.prog 16 [.pointer (some ⟨m, 0, none⟩), .agg ⟨[.int .i64 a, .int .i64 b]⟩] w0 fun v w' => ∃ q c g d, v = .tuple ⟨[.slice q 0 c, .int .i64 2]⟩ ∧ Acc 5 1 q 0 c [] g d ∧ Mem w0 w' No [(g, d)] := by
  refine C_ofM Try.func16 rfl rfl rfl fun κ hret hnorm => ?_
  have hm := Mem.start w0
  refine HW_seq rfl ?_
  refine HW_text (.act 0 (.act 1 (.act 2 (.act 3 .done)))) (by kernel_rfl) ?_
  refine a_box rfl rfl rfl rfl hm trivial fun m1 w hg_m1 hm hh => ?_
  refine a_box rfl rfl rfl rfl hm trivial fun m2 w hg_m2 hm hh => ?_
  refine a_alloc rfl rfl z27 hm trivial fun m3 w hg_m3 hm hh => ?_
  refine a_alloc rfl rfl z36 hm trivial fun m4 w hg_m4 hm hh => ?_
  refine rw_done ?_
  refine gn_sq ?_
  refine HW_seq rfl ?_
  refine HW_seq rfl ?_
  refine HW_text (.pure 0 (.pure 1 (.act 2 (.pure 3 .done)))) (by kernel_rfl) ?_
  refine rw_p rfl rfl (y_load rfl sc30 (hm.nt 3 rfl) rfl) ?_
  refine rw_p rfl rfl (y_loadA (s := 2) (vs := [_, _]) rfl ag23 (hm.nt 2 rfl) rfl) ?_
  refine a_call rfl rfl rfl go39 (C.as (v := .int .i64 2) (f_check D m Z _ (hZ.ext hm.to) hz a b ha hb) (by rw [hon]; rfl)) fun v w hR => ?_
  obtain ⟨rfl, hE⟩ := hR
  refine ⟨trivial, ?_⟩
  replace hm := hm.ext hE
  refine rw_p rfl rfl (y_assign rfl) ?_
  refine rw_done ?_
  refine gn_sq ?_
  refine HW_seq rfl ?_
  refine HW_text (.pure 0 (.pure 1 .done)) (by kernel_rfl) ?_
  refine rw_p rfl rfl (y_move rfl) ?_
  refine rw_p rfl rfl (y_as (c := true) (y_ne rfl rfl) (by decide)) ?_
  refine rw_done ?_
  refine gn_sq ?_
  refine HW_condT rfl rfl rfl ?_
  refine HW_seq rfl ?_
  refine HW_text (.pure 0 (.act 1 (.act 2 .done))) (by kernel_rfl) ?_
  refine rw_p rfl rfl (y_move rfl) ?_
  refine a_store rfl rfl rfl rfl sz27 rfl hm 1 rfl rfl fun w hm => ?_
  refine a_store rfl rfl rfl rfl sz36 rfl hm 0 rfl rfl fun w hm => ?_
  refine rw_done ?_
  refine gn_sq ?_
  refine HW_ret rfl ?_
  refine gr_sq ?_
  refine toR (fin0 hret rfl (.cell rfl (run_loadVar_s sc27 (hm.get (k := 1) rfl) rfl) (.cell rfl (run_loadVar_s sc36 (hm.get (k := 0) rfl) rfl) .nil)) .more ?_)
  exact ⟨none, 0, 0, .gap, rfl, .nil _ _ _ _, (hm.gapIn.pick [0] rfl)⟩

theorem f_readN (a b : Int) (w0 : World) : C Try.prog 16 [.pointer none, .agg ⟨[.int .i64 a, .int .i64 b]⟩] w0 fun v w' => (∃ x, v = .tuple ⟨[x, .int .i64 1]⟩) ∧ Ext No w0 w' := by
  refine C_ofM Try.func16 rfl rfl rfl fun κ hret hnorm => ?_
  have hm := Mem.start w0
  refine HW_seq rfl ?_
  refine HW_text (.act 0 (.act 1 (.act 2 (.act 3 .done)))) (by kernel_rfl) ?_
  refine a_box rfl rfl rfl rfl hm trivial fun m1 w hg_m1 hm hh => ?_
  refine a_box rfl rfl rfl rfl hm trivial fun m2 w hg_m2 hm hh => ?_
  refine a_alloc rfl rfl z27 hm trivial fun m3 w hg_m3 hm hh => ?_
  refine a_alloc rfl rfl z36 hm trivial fun m4 w hg_m4 hm hh => ?_
  refine rw_done ?_
  refine gn_sq ?_
  refine HW_seq rfl ?_
  refine HW_seq rfl ?_
  refine HW_text (.pure 0 (.pure 1 (.act 2 (.pure 3 .done)))) (by kernel_rfl) ?_
  refine rw_p rfl rfl (y_load rfl sc30 (hm.nt 3 rfl) rfl) ?_
  refine rw_p rfl rfl (y_loadA (s := 2) (vs := [_, _]) rfl ag23 (hm.nt 2 rfl) rfl) ?_
  refine a_call rfl rfl rfl go39 (f_checkN _ _) fun v w hR => ?_
  obtain ⟨rfl, hE⟩ := hR
  refine ⟨trivial, ?_⟩
  replace hm := hm.ext hE
  refine rw_p rfl rfl (y_assign rfl) ?_
  refine rw_done ?_
  refine gn_sq ?_
  refine HW_seq rfl ?_
  refine HW_text (.pure 0 (.pure 1 .done)) (by kernel_rfl) ?_
  refine rw_p rfl rfl (y_move rfl) ?_
  refine rw_p rfl rfl (y_as (c := true) (y_ne rfl rfl) (by decide)) ?_
  refine rw_done ?_
  refine gn_sq ?_
  refine HW_condT rfl rfl rfl ?_
  refine HW_seq rfl ?_
  refine HW_text (.pure 0 (.act 1 (.act 2 .done))) (by kernel_rfl) ?_
  refine rw_p rfl rfl (y_move rfl) ?_
  refine a_store rfl rfl rfl rfl sz27 rfl hm 1 rfl rfl fun w hm => ?_
  refine a_store rfl rfl rfl rfl sz36 rfl hm 0 rfl rfl fun w hm => ?_
  refine rw_done ?_
  refine gn_sq ?_
  refine HW_ret rfl ?_
  refine gr_sq ?_
  refine toR (fin0 hret rfl (.cell rfl (run_loadVar_s sc27 (hm.get (k := 1) rfl) rfl) (.cell rfl (run_loadVar_s sc36 (hm.get (k := 0) rfl) rfl) .nil)) .more ?_)
  exact ⟨⟨_, rfl⟩, hm.to⟩

theorem f_readA (D : Pl.Dv) (m : Nat) (Z : List (Nat × Blk)) (w0 : World) (hZ : OwnZ w0 Z) (hz : DevZ 79 83 5 D m Z) (a b : Int) (ha : Pl.I64 a) (hb : Pl.I64 b) : C Try.prog 16 [.pointer (some ⟨m, 0, none⟩), .agg ⟨[.int .i64 a, .int .i64 b]⟩] w0 fun v w' => ∃ q c g d, v = .tuple ⟨[.slice q (Pl.rdB D a b).length c, .int .i64 (Pl.rdCode D a b)]⟩ ∧ Acc 5 1 q (Pl.rdB D a b).length c ((Pl.rdB D a b).flatMap encB) g d ∧ Mem w0 w' No [(g, d)] := by
  cases hon : Pl.onD D a b with
  | true =>
    have hv := Pl.onD_iff.1 hon
    obtain ⟨x, rfl⟩ : ∃ x : Nat, a = x := ⟨a.toNat, by omega⟩
    obtain ⟨y, rfl⟩ : ∃ y : Nat, b = y := ⟨b.toNat, by omega⟩
    exact f_read D m Z x y w0 hZ hz hon
  | false =>
    have hc : Pl.rdCode D a b = 2 := by unfold Pl.rdCode; rw [hon]; rfl
    have hB : Pl.rdB D a b = [] := by unfold Pl.rdB; rw [hc]; rfl
    rw [hB, hc]
    exact f_readX D m Z w0 hZ hz a b ha hb hon

set_option maxHeartbeats 3200000 in
theorem f_write (D : Pl.Dv) (m : Nat) (Z : List (Nat × Blk)) (a : Nat) (q : Option Addr) (cq : Nat) (ps : List SB) (BB : List UInt8) (w0 : World) (hZ : OwnZ w0 Z) (hz : DevZ 79 83 5 D m Z) (hon : Pl.onD D (a : Int) (BB.length : Int) = true) (hq : Rd w0 q (ps.flatMap encS)) (hps : ∀ s ∈ ps, Rd w0 s.p (s.bs.flatMap encB)) (hl : ps.length ≤ 4611686018427387903) (hBB : ps.flatMap (·.bs) = BB) (hb : BB.length ≤ 140737488355328) (hcl : D.ca.length + D.cnt ≤ 1000000000) : C Try.prog 20 [.pointer (some ⟨m, 0, none⟩), .int .i64 (a : Int), .slice q ps.length cq] w0 fun v w' => v = .int .i64 (Pl.wrS a BB (Pl.sN D.sz a BB.length) (Pl.sF D.sz a BB.length) D).1 ∧ ∃ Z', DevZ 79 83 5 (Pl.wrS a BB (Pl.sN D.sz a BB.length) (Pl.sF D.sz a BB.length) D).2 m Z' ∧ Mem w0 w' (Mn (reals Z)) Z' := by
  have hok := hz.ok
  have o1 := hok.sz
  have o4 := hok.max
  have o3 := hok.cnt
  have o7 : D.sz ≤ D.cnt * D.sz := Nat.le_mul_of_pos_left _ o3
  have hv := Pl.onD_iff.1 hon
  have hab : a + BB.length ≤ D.cnt * D.sz := by omega
  have hcn := Pl.s_cnt (cnt := D.cnt) (sz := D.sz) (a := a) (b := BB.length) o1 hab o3
  have ha : Pl.I64 (a : Int) := by simp only [Pl.I64]; omega
  refine C_ofM Try.func20 rfl rfl rfl fun κ hret hnorm => ?_
  have hm := Mem.start w0
  refine HW_seq rfl ?_
  refine HW_text (.act 0 (.act 1 (.act 2 .done))) (by kernel_rfl) ?_
  refine a_box rfl rfl rfl rfl hm trivial fun m1 w hg_m1 hm hh => ?_
  refine a_box rfl rfl rfl rfl hm trivial fun m2 w hg_m2 hm hh => ?_
  refine a_alloc rfl rfl z36 hm trivial fun m3 w hg_m3 hm hh => ?_
  refine rw_done ?_
  refine gn_sq ?_
  refine HW_seq rfl ?_
  refine HW_text (.pure 0 (.act 1 (.act 2 (.act 3 .done)))) (by kernel_rfl) ?_
  refine rw_p rfl rfl (y_move rfl) ?_
  refine a_call rfl rfl rfl go44 (concat_b q cq ps _ (hq.ext0 hm.to) (fun s hs => (hps s hs).ext0 hm.to) hl (by rw [hBB]; exact hb)) fun v w hR => ?_
  obtain ⟨p_s, n_s, cap_s, g_s, b_s, rfl, ha_s, hmc⟩ := hR
  refine ⟨trivial, ?_⟩
  have hns := ha_s.lenB
  replace hm := hm.callN hmc
  rw [hBB] at ha_s hns
  refine a_alloc rfl rfl z27 hm trivial fun m4 w hg_m4 hm hh => ?_
  refine a_store rfl rfl rfl rfl sz27 rfl hm 0 rfl rfl fun w hm => ?_
  refine rw_done ?_
  refine gn_sq ?_
  refine HW_seq rfl ?_
  refine HW_text (.pure 0 (.pure 1 (.pure 2 (.pure 3 (.act 4 (.act 5 .done)))))) (by kernel_rfl) ?_
  refine rw_p rfl rfl (y_load rfl sc3 (hm.nt 3 rfl) rfl) ?_
  refine rw_p rfl rfl (y_load rfl sc27 (hm.nt 0 rfl) rfl) ?_
  refine rw_p rfl rfl (y_len rfl rfl sl27) ?_
  refine rw_p rfl rfl (y_v (y_build (cs := [_, _]) z23 ft23 rfl rfl rfl rfl rfl) (show _ = Value.agg ⟨[.int .i64 (a : Int), .int .i64 (BB.length : Int)]⟩ by rw [hns])) ?_
  refine a_alloc rfl rfl z23 hm trivial fun m5 w hg_m5 hm hh => ?_
  refine a_store rfl rfl rfl rfl sz23 rfl hm 0 rfl rfl fun w hm => ?_
  refine rw_done ?_
  refine gn_sq ?_
  refine HW_seq rfl ?_
  refine HW_seq rfl ?_
  refine HW_text (.pure 0 (.pure 1 (.act 2 (.pure 3 .done)))) (by kernel_rfl) ?_
  refine rw_p rfl rfl (y_load rfl sc30 (hm.nt 5 rfl) rfl) ?_
  refine rw_p rfl rfl (y_loadA (s := 2) (vs := [_, _]) rfl ag23 (hm.nt 0 rfl) rfl) ?_
  refine a_call rfl rfl rfl go39 (C.as (v := .int .i64 0) (f_check D m Z _ (hZ.ext hm.to) hz a (BB.length : Int) ha (by simp only [Pl.I64]; omega)) (by rw [if_pos hon])) fun v w hR => ?_
  obtain ⟨rfl, hE⟩ := hR
  refine ⟨trivial, ?_⟩
  replace hm := hm.ext hE
  refine rw_p rfl rfl (y_assign rfl) ?_
  refine rw_done ?_
  refine gn_sq ?_
  refine HW_seq rfl ?_
  refine HW_text (.pure 0 (.pure 1 .done)) (by kernel_rfl) ?_
  refine rw_p rfl rfl (y_move rfl) ?_
  refine rw_p rfl rfl (y_as (c := false) (y_ne rfl rfl) (by decide)) ?_
  refine rw_done ?_
  refine gn_sq ?_
  refine HW_condF rfl rfl rfl ?_
  refine HW_skip rfl ?_
  refine gn_sq ?_
  refine HW_seq rfl ?_
  refine HW_seq rfl ?_
  refine HW_draw (.pure 0 (.pure 2 (.act 1 (.cut (.act 3 .done))))) No mix (by kernel_rfl) hm fun w hw hm0 hh => ?_
  have hm := hm0
  refine rw_p rfl rfl (y_load rfl sc30 (hm0.nd 5 rfl id) rfl) ?_
  refine rw_p rfl rfl (y_loadA (s := 2) (vs := [_, _]) rfl ag23 (hm0.nd 0 rfl id) rfl) ?_
  refine a_call rfl rfl rfl go41 (o_size D m Z _ (hZ.ext hm.to) hz) fun v w hR => ?_
  obtain ⟨rfl, hE⟩ := hR
  refine ⟨hh.ext hE, ?_⟩
  replace hm := hm.ext hE
  replace hh := hh.ext hE
  refine a_cut ?_
  refine a_call rfl rfl rfl go40 (f_parts (D.sz : Int) (a : Int) (BB.length : Int) _) fun v w hR => ?_
  obtain ⟨q1, q2, rfl, hmc⟩ := hR
  refine ⟨trivial, ?_⟩
  replace hm := hm.callN hmc
  refine rw_done ?_
  refine gn_sq ?_
  refine HW_block rfl ?_
  replace hm := hm.withZ hZ
  refine HW_range rfl rfl go57 hm fun a_ fn r0 l w LB hLB hfr hl_ hs_ hm => ?_
  refine C.mono (f_parts1 D.sz a BB.length q1 q2 l (fun F i w => ∃ D9 Z9, Mem w0 w (Mn (reals Z)) ((l, LB .ready none) :: (r0, dblk (some [])) :: (q2, .row 23 [.int .i64 (a : Int), .int .i64 (BB.length : Int)]) :: (q1, .row 3 [.int .i64 (D.sz : Int)]) :: (m5, .row 23 [.int .i64 (a : Int), .int .i64 (BB.length : Int)]) :: (m4, .row 27 [.slice p_s n_s cap_s]) :: (g_s, b_s) :: (m3, .row 36 [.int .i64 0]) :: (m2, .row 3 [.int .i64 (a : Int)]) :: (m1, .row 30 [.pointer (some ⟨m, 0, none⟩)]) :: (Z9 ++ F)) ∧ DevZ 79 83 5 D9 m Z9 ∧ (Pl.wrS a BB (Pl.sN D.sz a BB.length) (Pl.sF D.sz a BB.length) D) = Pl.wrS a BB ((Pl.sF D.sz a BB.length + Pl.sN D.sz a BB.length) - i) i D9 ∧ D9.sz = D.sz ∧ D9.cnt = D.cnt ∧ D9.ca.length + ((Pl.sF D.sz a BB.length + Pl.sN D.sz a BB.length) - i) ≤ 1000000000) (fun w => ∃ D9 Z9 F c9, Mem w0 w (Mn (reals Z)) ((l, LB .done (some .ret)) :: (r0, dblk (some [])) :: (q2, .row 23 [.int .i64 (a : Int), .int .i64 (BB.length : Int)]) :: (q1, .row 3 [.int .i64 (D.sz : Int)]) :: (m5, .row 23 [.int .i64 (a : Int), .int .i64 (BB.length : Int)]) :: (m4, .row 27 [.slice p_s n_s cap_s]) :: (g_s, b_s) :: (m3, .row 36 [.int .i64 c9]) :: (m2, .row 3 [.int .i64 (a : Int)]) :: (m1, .row 30 [.pointer (some ⟨m, 0, none⟩)]) :: (Z9 ++ F)) ∧ DevZ 79 83 5 D9 m Z9 ∧ (Pl.wrS a BB (Pl.sN D.sz a BB.length) (Pl.sF D.sz a BB.length) D) = (c9, D9)) [] _ o1 (by omega) (by omega)
    (by rintro F i w ⟨D9, Z9, hm, -⟩; exact ⟨hm.get (k := 3) rfl, hm.get (k := 2) rfl⟩)
    (by rintro F i w w' N ⟨D9, Z9, hm, hz9, hR9, h1, h2, h3⟩ hc; exact ⟨D9, Z9, Mem.callT4 (A := [_, _, _, _, _, _, _, _, _, _]) hm hc, hz9, hR9, h1, h2, h3⟩)
    (by rintro F i w ⟨D9, Z9, hm, -⟩ e he hr; exact hm.own e (by simp [he]) hr)
    (fun F i w hI hlo hhi => ?_) ⟨D, Z, by rw [List.append_nil]; exact hm, hz, by rw [Nat.add_sub_cancel_left], rfl, rfl, by omega⟩) (fun v w hR => ?_)
  ·
    subst hLB
    obtain ⟨D9, Z9, hm, hz9, hR9, hsz, hct, hca⟩ := hI
    obtain ⟨p1, p2, p3, p4, p5⟩ := Pl.part_bnd (b := BB.length) o1 hlo hhi
    have hse := Pl.sec_le (sz := D.sz) (show i < D.cnt by omega)
    have hii : i ≤ i * D.sz := Nat.le_mul_of_pos_right _ o1
    refine Yw.of hfr (hm.get (k := 0) rfl) rfl rfl ?_
    refine HW_seq rfl ?_
    refine HW_text (.pure 0 .done) (by kernel_rfl) ?_
    refine rw_p rfl rfl (y_assign rfl) ?_
    refine rw_done ?_
    refine gn_sq ?_
    refine HW_text (.act 0 (.act 1 .done)) (by kernel_rfl) ?_
    refine a_alloc rfl rfl z23 hm trivial fun m6 w hg_m6 hm hh => ?_
    refine a_store rfl rfl rfl rfl sz23 rfl hm 0 rfl rfl fun w hm => ?_
    refine rw_done ?_
    refine g_begin hm 1 rfl fun w hm => ?_
    refine HW_block rfl ?_
    refine HW_seq rfl ?_
    refine HW_text (.pure 0 (.pure 1 (.act 2 (.pure 3 (.pure 4 (.pure 5 (.pure 6 (.pure 7 .done)))))))) (by kernel_rfl) ?_
    refine rw_p rfl rfl (y_load rfl sc30 (hm.nt 10 rfl) rfl) ?_
    refine rw_p rfl rfl (y_move rfl) ?_
    refine a_call rfl rfl rfl go42 (o_read D9 m Z9 _ (OwnZ.mid (A := [_, _, _, _, _, _, _, _, _, _, _]) hm.ownZ) hz9 (i : Int)) fun v w hR => ?_
    obtain ⟨p_v, cap_v, g_v, b_v, rfl, ha_v, hmc⟩ := hR
    refine ⟨trivial, ?_⟩
    have hg_v : b_v.real = true → _ := fun hr => (hmc.fresh _ List.mem_cons_self hr).resolve_left id
    replace hm := hm.callN hmc
    refine rw_p rfl rfl (y_move rfl) ?_
    refine rw_p rfl rfl (y_extract rfl rfl) ?_
    refine rw_p rfl rfl (y_extract rfl rfl) ?_
    refine rw_p rfl rfl (y_assign rfl) ?_
    refine rw_p rfl rfl (y_assign rfl) ?_
    refine rw_done ?_
    refine gn_sq ?_
    refine HW_seq rfl ?_
    refine HW_seq rfl ?_
    refine HW_text (.pure 0 (.pure 1 .done)) (by kernel_rfl) ?_
    refine rw_p rfl rfl (y_move rfl) ?_
    refine rw_p rfl rfl (y_ne rfl rfl) ?_
    refine rw_done ?_
    refine gn_sq ?_
    refine HW_cond rfl rfl (fun hc1 => ?_) (fun hc1 => ?_)
    ·
      simp only [decide_eq_true_eq] at hc1
      have hRR : (Pl.wrS a BB (Pl.sN D.sz a BB.length) (Pl.sF D.sz a BB.length) D) = (Pl.codeAt D9 (i : Int), D9) := by rw [hR9, show (Pl.sF D.sz a BB.length + Pl.sN D.sz a BB.length) - i = ((Pl.sF D.sz a BB.length + Pl.sN D.sz a BB.length) - (i + 1)) + 1 by omega]; unfold Pl.wrS; rw [if_pos hc1]
      refine HW_seq rfl ?_
      refine HW_text (.pure 0 (.act 1 .done)) (by kernel_rfl) ?_
      refine rw_p rfl rfl (y_move rfl) ?_
      refine a_store rfl rfl rfl rfl sz36 rfl hm 9 rfl rfl fun w hm => ?_
      refine rw_done ?_
      refine gn_sq ?_
      refine HW_ret rfl ?_
      refine gr_sq (gr_bl ?_)
      refine g_ret hm 2 rfl fun w hm => ?_
      first | exact .inr ⟨rfl, _, Z2, F, _, (hm.pickT [2, 3, 4, 5, 6, 7, 8, 9, 10, 11] 12 rfl), hz2, hRR⟩ | exact .inr ⟨rfl, _, Z9, F, _, (hm.pickT [2, 3, 4, 5, 6, 7, 8, 9, 10, 11] 12 rfl), hz9, hRR⟩
    ·
      simp only [decide_eq_false_iff_not, Decidable.not_not] at hc1
      have hvl : (Pl.rdS D9 (i : Int)).length = D.sz := (Pl.rdS_len hz9.ok (i := i) (by omega)).trans hsz
      rw [hc1, if_pos rfl, hvl] at ha_v ⊢
      have hvle := ha_v.le
      have hsle := ha_s.le
      rw [hns] at ha_s hsle
      refine HW_skip rfl ?_
      refine gn_sq ?_
      refine HW_seq rfl ?_
      refine HW_draw (.pure 0 (.pure 1 (.pure 2 (.pure 3 (.pure 4 (.pure 9 (.pure 10 (.pure 11 (.pure 12 (.pure 13 (.pure 14 (.pure 15 (.pure 16 (.pure 17 (.act 5 (.pure 6 (.pure 7 (.pure 8 (.cut (.act 18 .done)))))))))))))))))))) No mix (by kernel_rfl) hm fun w hw hm0 hh => ?_
      have hm := hm0
      refine rw_p rfl rfl (y_move rfl) ?_
      refine rw_p rfl rfl (y_fieldAddr rfl fo23_0) ?_
      refine rw_p rfl rfl (y_load rfl sc3 (hm0.nd 1 rfl id) rfl) ?_
      refine rw_p rfl rfl (y_move rfl) ?_
      refine rw_p rfl rfl (y_load rfl sc30 (hm0.nd 11 rfl id) rfl) ?_
      refine rw_p rfl rfl (y_load rfl sc27 (hm0.nd 7 rfl id) rfl) ?_
      refine rw_p rfl rfl (y_fieldAddr rfl fo23_0) ?_
      refine rw_p rfl rfl (y_load rfl sc3 (hm0.nd 1 rfl id) rfl) ?_
      refine rw_p rfl rfl (y_load rfl sc3 (hm0.nd 10 rfl id) rfl) ?_
      refine rw_p rfl rfl (y_sub rfl rfl (subK _ (by omega) (by omega))) ?_
      refine rw_p rfl rfl (y_slice (ln := (Pl.pO D.sz a i - a)) (hn := n_s) rfl sl27 ⟨_, rfl⟩ rfl (by omega) (by omega) (fun h => ha_s.spot (by omega))) ?_
      refine rw_p rfl rfl (y_fieldAddr rfl fo23_1) ?_
      refine rw_p rfl rfl (y_load rfl sc3 (hm0.nd 1 rfl id) rfl) ?_
      refine rw_p rfl rfl (y_v (y_slice (ln := 0) (hn := (Pl.pL D.sz a BB.length i)) rfl sl27 rfl ⟨_, rfl⟩ (by omega) (by omega) (fun h ad e => slp_spot (fun h2 => ha_s.spot (by omega)) (by omega) e)) (show _ = Value.slice (slp p_s cap_s (Pl.pO D.sz a i - a) 1) (Pl.pL D.sz a BB.length i) (cap_s - (Pl.pO D.sz a i - a)) by rw [slp_slp0 ha_s.spot]; rfl)) ?_
      refine a_call rfl rfl rfl go41 (C.as (v := .int .i64 (D.sz : Int)) (o_size D9 m Z9 _ (OwnZ.mid (A := [_, _, _, _, _, _, _, _, _, _, _, _]) hm.ownZ) hz9) (by rw [hsz])) fun v w hR => ?_
      obtain ⟨rfl, hE⟩ := hR
      refine ⟨hh.ext hE, ?_⟩
      replace hm := hm.ext hE
      replace hh := hh.ext hE
      refine rw_p rfl rfl (y_mul rfl rfl (mulN (by omega))) ?_
      refine rw_p rfl rfl (y_sub rfl rfl (subK _ (by omega) (by omega))) ?_
      refine rw_p rfl rfl (y_slice (ln := (Pl.pO D.sz a i - i * D.sz)) (hn := D.sz) rfl sl27 ⟨_, rfl⟩ rfl (by omega) (by omega) (fun h => ha_v.spot (by omega))) ?_
      refine a_cut ?_
      refine a_copyL (o := Pl.pO D.sz a i - i * D.sz) (src := (((BB.drop (Pl.pO D.sz a i - a)).take (Pl.pL D.sz a BB.length i)).flatMap encB)) rfl rfl rfl rfl rfl sl27 (by omega) ((ha_s.rd hm 8 rfl).sub hsle) (by rw [lenB, List.length_take, List.length_drop]; omega) (oneB _) ha_v hm 0 rfl fun b_v w ha_v hm => ?_
      rw [upds_put' (by rw [hvl, List.length_take, List.length_drop]; omega), Pl.secX_put o1 hvl hlo hhi] at ha_v
      refine rw_done ?_
      refine gn_sq ?_
      refine HW_seq rfl ?_
      refine HW_text (.pure 0 (.pure 1 (.pure 2 (.act 3 (.pure 4 .done))))) (by kernel_rfl) ?_
      refine rw_p rfl rfl (y_load rfl sc30 (hm.nt 11 rfl) rfl) ?_
      refine rw_p rfl rfl (y_move rfl) ?_
      refine rw_p rfl rfl (y_move rfl) ?_
      refine a_call rfl rfl rfl go13 (C.eqv (o_write D9 m Z9 _ (OwnZ.mid (A := [_, _, _, _, _, _, _, _, _, _, _, _]) hm.ownZ) hz9 p_v cap_v (Pl.secX D.sz (Pl.rdS D9 (i : Int)) a BB i) (i : Int) (ha_v.rd hm 0 rfl) (fun h ad e h9 => hm.notR (A := [_, _, _, _, _, _, _, _, _, _, _, _]) ha_v 0 rfl h ad e (Mn_left h9)) (by rw [Pl.secX_len]; exact hvle) (by omega)) (by rw [Pl.secX_len]; rfl)) fun v w hR => ?_
      obtain ⟨rfl, Z2, hz2, hmc⟩ := hR
      refine ⟨trivial, ?_⟩
      replace hm := Mem.callM (A := [_, _, _, _, _, _, _, _, _, _, _, _]) hm hmc
      refine rw_p rfl rfl (y_assign rfl) ?_
      refine rw_done ?_
      refine gn_sq ?_
      refine HW_seq rfl ?_
      refine HW_text (.pure 0 (.pure 1 .done)) (by kernel_rfl) ?_
      refine rw_p rfl rfl (y_move rfl) ?_
      refine rw_p rfl rfl (y_ne rfl rfl) ?_
      refine rw_done ?_
      refine gn_sq ?_
      refine HW_cond rfl rfl (fun hc2 => ?_) (fun hc2 => ?_)
      ·
        simp only [decide_eq_true_eq] at hc2
        have hRR : (Pl.wrS a BB (Pl.sN D.sz a BB.length) (Pl.sF D.sz a BB.length) D) = (Pl.wCode D9 (i : Int) (Pl.secX D.sz (Pl.rdS D9 (i : Int)) a BB i), Pl.wDv D9 (i : Int) (Pl.secX D.sz (Pl.rdS D9 (i : Int)) a BB i)) := by rw [hR9, show (Pl.sF D.sz a BB.length + Pl.sN D.sz a BB.length) - i = ((Pl.sF D.sz a BB.length + Pl.sN D.sz a BB.length) - (i + 1)) + 1 by omega]; unfold Pl.wrS; rw [if_neg (by omega), hsz, if_pos hc2]
        refine HW_seq rfl ?_
        refine HW_text (.pure 0 (.act 1 .done)) (by kernel_rfl) ?_
        refine rw_p rfl rfl (y_move rfl) ?_
        refine a_store rfl rfl rfl rfl sz36 rfl hm 9 rfl rfl fun w hm => ?_
        refine rw_done ?_
        refine gn_sq ?_
        refine HW_ret rfl ?_
        refine gr_bl ?_
        refine g_ret hm 2 rfl fun w hm => ?_
        first | exact .inr ⟨rfl, _, Z2, F, _, (hm.pickT [2, 3, 4, 5, 6, 7, 8, 9, 10, 11] 12 rfl), hz2, hRR⟩ | exact .inr ⟨rfl, _, Z9, F, _, (hm.pickT [2, 3, 4, 5, 6, 7, 8, 9, 10, 11] 12 rfl), hz9, hRR⟩
      ·
        simp only [decide_eq_false_iff_not, Decidable.not_not] at hc2
        have hRR : (Pl.wrS a BB (Pl.sN D.sz a BB.length) (Pl.sF D.sz a BB.length) D) = Pl.wrS a BB ((Pl.sF D.sz a BB.length + Pl.sN D.sz a BB.length) - (i + 1)) (i + 1) (Pl.wDv D9 (i : Int) (Pl.secX D.sz (Pl.rdS D9 (i : Int)) a BB i)) := by rw [hR9, show (Pl.sF D.sz a BB.length + Pl.sN D.sz a BB.length) - i = ((Pl.sF D.sz a BB.length + Pl.sN D.sz a BB.length) - (i + 1)) + 1 by omega]; conv => lhs; unfold Pl.wrS; rw [if_neg (by omega), hsz, if_neg (by omega)]
        have hws := Pl.wDv_sz D9 (i : Int) (Pl.secX D.sz (Pl.rdS D9 (i : Int)) a BB i)
        refine HW_skip rfl ?_
        refine gn_bl ?_
        refine g_end hm 2 rfl fun w hm => ?_
        exact .inl ⟨rfl, _, Z2, (hm.pickT [2, 3, 4, 5, 6, 7, 8, 9, 10, 11] 12 rfl), hz2, hRR, hws.1.trans hsz, hws.2.1.trans hct, by omega⟩
  ·
    subst hLB
    obtain ⟨-, ⟨F, D9, Z9, hm, hz9, hR9, hsz, hct, hca⟩ | ⟨D9, Z9, F, c9, hm, hz9, hRR⟩⟩ := hR
    ·
      have hRR : (Pl.wrS a BB (Pl.sN D.sz a BB.length) (Pl.sF D.sz a BB.length) D) = (0, D9) := by rw [hR9, Nat.sub_self]; rfl
      refine ⟨.ready, none, nofun, hm.get (k := 0) rfl, fun w4 hw4 => ?_⟩
      replace hm := g_over hm hw4
      refine gn_bl ?_
      refine gn_sq ?_
      refine HW_seq rfl ?_
      refine HW_text (.act 0 .done) (by kernel_rfl) ?_
      refine a_store rfl rfl rfl rfl sz36 rfl hm 6 rfl rfl fun w hm => ?_
      refine rw_done ?_
      refine gn_sq ?_
      refine HW_ret rfl ?_
      refine toR (fin1 hret rfl hm 0 rfl .one fun w hm => ⟨(.cell rfl (run_loadVar_s sc36 (hm.get (k := 6) rfl) rfl) .nil), ?_⟩)
      exact ⟨by rw [hRR], Z9, by rw [hRR]; exact hz9, Mem.left (L := Z9) (hm.pickT [] 9 rfl)⟩
    ·
      refine ⟨.done, some .ret, nofun, hm.get (k := 0) rfl, fun w4 hw4 => ?_⟩
      replace hm := g_over hm hw4
      refine HW_ret rfl ?_
      refine gr_bl (gr_sq ?_)
      refine toR (fin1 hret rfl hm 0 rfl .one fun w hm => ⟨(.cell rfl (run_loadVar_s sc36 (hm.get (k := 6) rfl) rfl) .nil), ?_⟩)
      exact ⟨by rw [hRR], Z9, by rw [hRR]; exact hz9, Mem.left (L := Z9) (hm.pickT [] 9 rfl)⟩

theorem r1_has (a b x : Int) (w0 : World) (h : Pl.I64 (a + b)) : C Try.prog 21 [.agg ⟨[.int .i64 a, .int .i64 b]⟩, .int .i64 x] w0 fun v w' => v = .bool (decide (a ≤ x ∧ x < a + b)) ∧ Ext No w0 w' := by
  refine C_of Try.func21 rfl rfl rfl fun κ hret hnorm => ?_
  have hm := Mem.start w0
  refine HW_seq rfl ?_
  refine HW_text (.act 0 (.pure 1 .done)) (by kernel_rfl) ?_
  refine a_box rfl rfl rfl rfl hm trivial fun m1 w hg_m1 hm hh => ?_
  refine rw_p rfl rfl (y_assign rfl) ?_
  refine rw_done ?_
  refine gn_sq ?_
  refine HW_seq rfl ?_
  refine HW_text (.pure 0 (.pure 1 (.pure 2 (.pure 3 (.pure 4 (.pure 5 (.pure 6 (.pure 7 (.pure 8 (.pure 9 (.pure 10 (.pure 11 (.pure 12 (.pure 13 .done)))))))))))))) (by kernel_rfl) ?_
  refine rw_p rfl rfl (y_move rfl) ?_
  refine rw_p rfl rfl (y_fieldAddr rfl fo23_0) ?_
  refine rw_p rfl rfl (y_load rfl sc3 (hm.nt 0 rfl) rfl) ?_
  refine rw_p rfl rfl (y_ge rfl rfl) ?_
  refine rw_p rfl rfl (y_move rfl) ?_
  refine rw_g rfl rfl rfl (fun hc => (y_move rfl)) ?_
  refine rw_g rfl rfl rfl (fun hc => (y_fieldAddr rfl fo23_0)) ?_
  refine rw_g rfl rfl rfl (fun hc => (y_load (gx hc rfl) sc3 (hm.nt 0 rfl) rfl)) ?_
  refine rw_g rfl rfl rfl (fun hc => (y_fieldAddr rfl fo23_1)) ?_
  refine rw_g rfl rfl rfl (fun hc => (y_load (gx hc rfl) sc3 (hm.nt 0 rfl) rfl)) ?_
  refine rw_g rfl rfl rfl (fun hc => (y_add (gx hc rfl) (gx hc rfl) (i64w (by simp only [Pl.I64] at h; omega) (by simp only [Pl.I64] at h; omega)))) ?_
  refine rw_g rfl rfl rfl (fun hc => (y_lt (gx hc rfl) (gx hc rfl))) ?_
  refine rw_p rfl rfl (y_and rfl rfl rfl) ?_
  refine rw_p rfl rfl (y_assign rfl) ?_
  refine rw_done ?_
  refine gn_sq ?_
  refine HW_ret rfl ?_
  refine toR (fin hret rfl (.tmp rfl .nil) .one ?_)
  exact ⟨congrArg Value.bool (by rw [Bool.eq_iff_iff]; simp), hm.to⟩

theorem r20_on (D : Pl.Dv) (m : Nat) (Z : List (Nat × Blk)) (w0 : World) (hZ : OwnZ w0 Z) (hz : RefZ 52 87 5 D m Z) (a b : Int) (ha : Pl.I64 a) (hb : Pl.I64 b) : C Try.prog 19 [.pointer (some ⟨m, 0, none⟩), .agg ⟨[.int .i64 a, .int .i64 b]⟩] w0 fun v w' => v = .bool (Pl.onD D a b) ∧ Ext No w0 w' := by
  obtain ⟨pbY, cbY, pcY, ccY, csY, hP, -⟩ := hz.row hZ
  have hok := hz.ok
  have o4 := hok.max
  have ho : Pl.onD D a b = (Pl.valid a b && decide (a + b ≤ ((D.cnt * D.sz : Nat) : Int))) := rfl
  refine C_of Try.func19 rfl rfl rfl fun κ hret hnorm => ?_
  have hm := Mem.start w0
  refine HW_seq rfl ?_
  refine HW_text (.act 0 (.pure 1 .done)) (by kernel_rfl) ?_
  refine a_box rfl rfl rfl rfl hm trivial fun m1 w hg_m1 hm hh => ?_
  refine rw_p rfl rfl (y_assign rfl) ?_
  refine rw_done ?_
  refine gn_sq ?_
  refine HW_seq rfl ?_
  cases hv : Pl.valid a b
  ·
    rw [hv, Bool.false_and] at ho
    refine HW_draw (.pure 0 (.act 1 (.pure 2 (.pure 3 (.pure 4 (.pure 5 (.pure 6 (.pure 7 (.pure 8 (.pure 9 (.pure 10 (.pure 11 (.pure 12 (.pure 13 (.pure 14 (.pure 15 (.pure 16 (.pure 17 (.pure 18 (.pure 19 .done)))))))))))))))))))) No mix (by kernel_rfl) hm fun w hw hm0 hh => ?_
    have hm := hm0
    refine rw_p rfl rfl (y_loadA (s := 2) (vs := [_, _]) rfl ag23 (hm0.nd 0 rfl id) rfl) ?_
    refine a_call rfl rfl rfl go31 (C.as (v := .bool false) (r1_valid a b _ ha hb) (by rw [hv])) fun v w hR => ?_
    obtain ⟨rfl, hE⟩ := hR
    refine ⟨hh.ext hE, ?_⟩
    replace hm := hm.ext hE
    replace hh := hh.ext hE
    refine rw_p rfl rfl (y_move rfl) ?_
    refine rw_gf rfl rfl (by decide) rfl ?_
    refine rw_gf rfl rfl (by decide) rfl ?_
    refine rw_gf rfl rfl (by decide) rfl ?_
    refine rw_gf rfl rfl (by decide) rfl ?_
    refine rw_gf rfl rfl (by decide) rfl ?_
    refine rw_gf rfl rfl (by decide) rfl ?_
    refine rw_gf rfl rfl (by decide) rfl ?_
    refine rw_gf rfl rfl (by decide) rfl ?_
    refine rw_gf rfl rfl (by decide) rfl ?_
    refine rw_gf rfl rfl (by decide) rfl ?_
    refine rw_gf rfl rfl (by decide) rfl ?_
    refine rw_gf rfl rfl (by decide) rfl ?_
    refine rw_gf rfl rfl (by decide) rfl ?_
    refine rw_gf rfl rfl (by decide) rfl ?_
    refine rw_gf rfl rfl (by decide) rfl ?_
    refine rw_p rfl rfl (y_pickF rfl rfl) ?_
    refine rw_p rfl rfl (y_assign rfl) ?_
    refine rw_done ?_
    refine gn_sq ?_
    refine HW_ret rfl ?_
    refine toR (fin hret rfl (.tmp rfl .nil) .one ?_)
    exact ⟨by rw [ho], hm.to⟩
  ·
    have hv2 := Pl.valid_t hv
    rw [hv, Bool.true_and] at ho
    refine HW_draw (.pure 0 (.act 1 (.pure 2 (.pure 3 (.pure 4 (.pure 5 (.pure 6 (.pure 7 (.pure 8 (.pure 9 (.pure 10 (.pure 11 (.pure 12 (.pure 13 (.pure 14 (.pure 15 (.pure 16 (.pure 17 (.pure 18 (.pure 19 .done)))))))))))))))))))) No mix (by kernel_rfl) hm fun w hw hm0 hh => ?_
    have hm := hm0
    refine rw_p rfl rfl (y_loadA (s := 2) (vs := [_, _]) rfl ag23 (hm0.nd 0 rfl id) rfl) ?_
    refine a_call rfl rfl rfl go31 (C.as (v := .bool true) (r1_valid a b _ ha hb) (by rw [hv])) fun v w hR => ?_
    obtain ⟨rfl, hE⟩ := hR
    refine ⟨hh.ext hE, ?_⟩
    replace hm := hm.ext hE
    replace hh := hh.ext hE
    refine rw_p rfl rfl (y_move rfl) ?_
    refine rw_p rfl rfl (y_fieldAddr rfl fo23_0) ?_
    refine rw_p rfl rfl (y_load rfl sc3 (hm0.nd 0 rfl id) rfl) ?_
    refine rw_p rfl rfl (y_fieldAddr rfl fo23_1) ?_
    refine rw_p rfl rfl (y_load rfl sc3 (hm0.nd 0 rfl id) rfl) ?_
    refine rw_p rfl rfl (y_add rfl rfl (i64w (by omega) (by omega))) ?_
    refine rw_p rfl rfl (y_move rfl) ?_
    refine rw_p rfl rfl (y_nil rfl) ?_
    refine rw_p rfl rfl (y_fieldAddr rfl fo52_0) ?_
    refine rw_p rfl rfl (y_load rfl sc3 (fun u hu => ((hm0.to.trans hu).same _ (Array.getElem?_eq_some_iff.1 hP).1 id).trans hP) rfl) ?_
    refine rw_p rfl rfl (y_move rfl) ?_
    refine rw_p rfl rfl (y_nil rfl) ?_
    refine rw_p rfl rfl (y_fieldAddr rfl fo52_1) ?_
    refine rw_p rfl rfl (y_load rfl sc3 (fun u hu => ((hm0.to.trans hu).same _ (Array.getElem?_eq_some_iff.1 hP).1 id).trans hP) rfl) ?_
    refine rw_p rfl rfl (y_mul rfl rfl ((mulN (by rw [Nat.mul_comm]; omega)).trans (show _ = ((D.cnt * D.sz : Nat) : Int) by rw [Nat.mul_comm]))) ?_
    refine rw_p rfl rfl (y_le rfl rfl) ?_
    refine rw_p rfl rfl (y_pickT rfl rfl) ?_
    refine rw_p rfl rfl (y_assign rfl) ?_
    refine rw_done ?_
    refine gn_sq ?_
    refine HW_ret rfl ?_
    refine toR (fin hret rfl (.tmp rfl .nil) .one ?_)
    exact ⟨by rw [ho], hm.to⟩

set_option maxHeartbeats 800000 in
theorem r20_read (D : Pl.Dv) (m : Nat) (Z : List (Nat × Blk)) (w0 : World) (hZ : OwnZ w0 Z) (hz : RefZ 52 87 5 D m Z) (a b : Int) (ha : Pl.I64 a) (hb : Pl.I64 b) (hcl : D.ca.length ≤ 1000000000) : C Try.prog 17 [.pointer (some ⟨m, 0, none⟩), .agg ⟨[.int .i64 a, .int .i64 b]⟩] w0 fun v w' => ∃ (q : Option Addr) (c : Nat), v = .tuple ⟨[.slice q (Pl.rdB D a b).length c, .int .i64 (Pl.rdCode D a b)]⟩ ∧ Rd w' q ((Pl.rdB D a b).flatMap encB) ∧ Ext No w0 w' := by
  obtain ⟨pbY, cbY, pcY, ccY, csY, hP, -⟩ := hz.row hZ
  have hok := hz.ok
  have hcl9 := Pl.contents_len hok
  have o4 := hok.max
  have hrc : Pl.rdCode D a b = if Pl.onD D a b = false then 2 else if 0 < b ∧ D.dn = true then 18 else 0 := rfl
  refine C_of Try.func17 rfl rfl rfl fun κ hret hnorm => ?_
  have hm := Mem.start w0
  refine HW_seq rfl ?_
  refine HW_text (.act 0 (.pure 1 (.pure 2 .done))) (by kernel_rfl) ?_
  refine a_box rfl rfl rfl rfl hm trivial fun m1 w hg_m1 hm hh => ?_
  refine rw_p rfl rfl (y_assign rfl) ?_
  refine rw_p rfl rfl (y_assign rfl) ?_
  refine rw_done ?_
  refine gn_sq ?_
  refine HW_seq rfl ?_
  refine HW_seq rfl ?_
  refine HW_text (.pure 0 (.pure 1 (.act 2 (.pure 3 .done)))) (by kernel_rfl) ?_
  refine rw_p rfl rfl (y_move rfl) ?_
  refine rw_p rfl rfl (y_loadA (s := 2) (vs := [_, _]) rfl ag23 (hm.nt 0 rfl) rfl) ?_
  refine a_call rfl rfl rfl go19 (r20_on D m Z _ (hZ.ext hm.to) hz a b ha hb) fun v w hR => ?_
  obtain ⟨rfl, hE⟩ := hR
  refine ⟨trivial, ?_⟩
  replace hm := hm.ext hE
  refine rw_p rfl rfl (y_not rfl) ?_
  refine rw_done ?_
  refine gn_sq ?_
  refine HW_cond rfl rfl (fun hc0 => ?_) (fun hc0 => ?_)
  ·
    simp only [Bool.not_eq_true'] at hc0
    have hc : Pl.rdCode D a b = 2 := by rw [hrc, if_pos hc0]
    have hB : Pl.rdB D a b = [] := by unfold Pl.rdB; rw [hc]; rfl
    refine HW_seq rfl ?_
    refine HW_text (.pure 0 (.pure 1 .done)) (by kernel_rfl) ?_
    refine rw_p rfl rfl (y_assign rfl) ?_
    refine rw_p rfl rfl (y_assign rfl) ?_
    refine rw_done ?_
    refine gn_sq ?_
    refine HW_ret rfl ?_
    refine gr_sq ?_
    refine toR (fin hret rfl (.tmp rfl (.tmp rfl .nil)) .more ?_)
    exact ⟨none, 0, by rw [hc, hB]; rfl, by rw [hB]; exact rfl, hm.to⟩
  ·
    simp only [Bool.not_eq_false'] at hc0
    have hv := Pl.onD_iff.1 hc0
    obtain ⟨x, rfl⟩ : ∃ x : Nat, a = x := ⟨a.toNat, by omega⟩
    obtain ⟨y, rfl⟩ : ∃ y : Nat, b = y := ⟨b.toNat, by omega⟩
    refine HW_skip rfl ?_
    refine gn_sq ?_
    refine HW_seq rfl ?_
    refine HW_seq rfl ?_
    refine HW_text (.pure 0 (.pure 1 (.pure 2 (.pure 3 (.pure 4 (.pure 5 (.pure 6 (.pure 7 (.pure 8 .done))))))))) (by kernel_rfl) ?_
    refine rw_p rfl rfl (y_fieldAddr rfl fo23_1) ?_
    refine rw_p rfl rfl (y_load rfl sc3 (hm.nt 0 rfl) rfl) ?_
    refine rw_p rfl rfl (y_gt rfl rfl) ?_
    refine rw_p rfl rfl (y_move rfl) ?_
    refine rw_g rfl rfl rfl (fun hc => (y_move rfl)) ?_
    refine rw_g rfl rfl rfl (fun hc => (y_nil (gx hc rfl))) ?_
    refine rw_g rfl rfl rfl (fun hc => (y_fieldAddr (gx hc rfl) fo52_6)) ?_
    refine rw_g rfl rfl rfl (fun hc => (y_load (gx hc rfl) sc4 (nowT ((hm.to.same _ (Array.getElem?_eq_some_iff.1 hP).1 id).trans hP)) rfl)) ?_
    refine rw_p rfl rfl (y_and rfl rfl rfl) ?_
    refine rw_done ?_
    refine gn_sq ?_
    refine HW_cond rfl rfl (fun hc1 => ?_) (fun hc1 => ?_)
    ·
      simp only [Bool.and_eq_true, decide_eq_true_eq] at hc1
      have hc : Pl.rdCode D x y = 18 := by rw [hrc, if_neg (by simp [hc0]), if_pos hc1]
      have hB : Pl.rdB D x y = [] := by unfold Pl.rdB; rw [hc]; rfl
      refine HW_seq rfl ?_
      refine HW_text (.pure 0 (.pure 1 .done)) (by kernel_rfl) ?_
      refine rw_p rfl rfl (y_assign rfl) ?_
      refine rw_p rfl rfl (y_assign rfl) ?_
      refine rw_done ?_
      refine gn_sq ?_
      refine HW_ret rfl ?_
      refine gr_sq ?_
      refine toR (fin hret rfl (.tmp rfl (.tmp rfl .nil)) .more ?_)
      exact ⟨none, 0, by rw [hc, hB]; rfl, by rw [hB]; exact rfl, hm.to⟩
    ·
      have hc : Pl.rdCode D x y = 0 := by rw [hrc, if_neg (by simp [hc0]), if_neg (by rintro ⟨h1, h2⟩; rw [h2] at hc1; simp at hc1; omega)]
      have hB : Pl.rdB D x y = ((Pl.contents D).drop x).take y := by unfold Pl.rdB; rw [if_pos hc]; rfl
      have hBl : (Pl.rdB D x y).length = y := by rw [hB, List.length_take, List.length_drop]; omega
      refine HW_skip rfl ?_
      refine gn_sq ?_
      refine HW_seq rfl ?_
      refine HW_draw (.pure 0 (.pure 2 (.pure 3 (.pure 4 (.pure 5 (.pure 6 (.pure 7 (.pure 8 (.act 1 (.pure 9 (.pure 10 (.pure 11 .done)))))))))))) No mix (by kernel_rfl) hm fun w hw hm0 hh => ?_
      have hm := hm0
      refine rw_p rfl rfl (y_move rfl) ?_
      refine rw_p rfl rfl (y_fieldAddr rfl fo23_0) ?_
      refine rw_p rfl rfl (y_load rfl sc3 (hm0.nd 0 rfl id) rfl) ?_
      refine rw_p rfl rfl (y_fieldAddr rfl fo23_0) ?_
      refine rw_p rfl rfl (y_load rfl sc3 (hm0.nd 0 rfl id) rfl) ?_
      refine rw_p rfl rfl (y_fieldAddr rfl fo23_1) ?_
      refine rw_p rfl rfl (y_load rfl sc3 (hm0.nd 0 rfl id) rfl) ?_
      refine rw_p rfl rfl (y_add rfl rfl (addK _ (by omega))) ?_
      refine a_call rfl rfl rfl go43 (q_contents D m Z _ (hZ.ext hm.to) hz hcl) fun v w hR => ?_
      obtain ⟨p_t, cap_t, Nt, rfl, hh_t, hmc⟩ := hR
      refine ⟨hh.ext hmc.to, ?_⟩
      have hR_t := hh_t.rd2 (hZ.ext hm.to) (fun _ he => he) hmc
      have hl_t := hh_t.le
      simp only at hl_t
      replace hh := hh.ext hmc.to
      replace hm := Mem.callTZ hm hmc
      refine rw_p rfl rfl (y_v (y_slice (ln := x) (hn := (x + y)) rfl sl27 ⟨_, rfl⟩ ⟨_, rfl⟩ (by omega) (by omega) (fun h => hh_t.spot (by show cap_t ≠ 0; omega))) (show _ = Value.slice (slp p_t cap_t x 1) (Pl.rdB D x y).length (cap_t - x) by rw [hBl, Nat.add_sub_cancel_left])) ?_
      refine rw_p rfl rfl (y_assign rfl) ?_
      refine rw_p rfl rfl (y_assign rfl) ?_
      refine rw_done ?_
      refine gn_sq ?_
      refine HW_ret rfl ?_
      refine toR (fin hret rfl (.tmp rfl (.tmp rfl .nil)) .more ?_)
      exact ⟨_, _, by rw [hc], by rw [hB]; exact hR_t.sub hl_t, hm.to⟩

set_option maxHeartbeats 3200000 in
theorem r20_write (D : Pl.Dv) (m : Nat) (Z : List (Nat × Blk)) (w0 : World) (hZ : OwnZ w0 Z) (hz : RefZ 52 87 5 D m Z) (a : Nat) (q : Option Addr) (cq : Nat) (BB : List UInt8) (hon : Pl.onD D (a : Int) (BB.length : Int) = true) (hq : Rd w0 q (BB.flatMap encB)) (hqX : BB.flatMap encB ≠ [] → ∀ ad, q = some ad → ¬ Mn (reals Z) ad.block) (hcl : D.ca.length + D.cnt ≤ 1000000000) : C Try.prog 24 [.pointer (some ⟨m, 0, none⟩), .int .i64 (a : Int), .slice q BB.length cq] w0 fun v w' => v = .int .i64 (Pl.wrS a BB (Pl.sN D.sz a BB.length) (Pl.sF D.sz a BB.length) D).1 ∧ ∃ Z', RefZ 52 87 5 (Pl.wrS a BB (Pl.sN D.sz a BB.length) (Pl.sF D.sz a BB.length) D).2 m Z' ∧ Mem w0 w' (Mn (reals Z)) Z' := by
  have hok := hz.ok
  have o1 := hok.sz
  have o4 := hok.max
  have o3 := hok.cnt
  have o7 : D.sz ≤ D.cnt * D.sz := Nat.le_mul_of_pos_left _ o3
  have hv := Pl.onD_iff.1 hon
  have hab : a + BB.length ≤ D.cnt * D.sz := by omega
  have hcn := Pl.s_cnt (cnt := D.cnt) (sz := D.sz) (a := a) (b := BB.length) o1 hab o3
  have ha : Pl.I64 (a : Int) := by simp only [Pl.I64]; omega
  have hcz : D.cnt ≤ D.cnt * D.sz := Nat.le_mul_of_pos_right _ o1
  refine C_of Try.func24 rfl rfl rfl fun κ hret hnorm => ?_
  have hm := hZ.start
  refine HW_seq rfl ?_
  refine HW_text (.pure 0 .done) (by kernel_rfl) ?_
  refine rw_p rfl rfl (y_assign rfl) ?_
  refine rw_done ?_
  refine gn_sq ?_
  refine HW_seq rfl ?_
  refine HW_text (.pure 0 (.pure 1 (.pure 2 (.pure 3 (.act 4 (.act 5 .done)))))) (by kernel_rfl) ?_
  refine rw_p rfl rfl (y_move rfl) ?_
  refine rw_p rfl rfl (y_move rfl) ?_
  refine rw_p rfl rfl (y_len rfl rfl sl27) ?_
  refine rw_p rfl rfl (y_build (cs := [_, _]) z23 ft23 rfl rfl rfl rfl rfl) ?_
  refine a_alloc rfl rfl z23 hm trivial fun m1 w hg_m1 hm hh => ?_
  refine a_store rfl rfl rfl rfl sz23 rfl hm 0 rfl rfl fun w hm => ?_
  refine rw_done ?_
  refine gn_sq ?_
  refine HW_seq rfl ?_
  refine HW_seq rfl ?_
  refine HW_text (.pure 0 (.pure 1 (.act 2 (.pure 3 .done)))) (by kernel_rfl) ?_
  refine rw_p rfl rfl (y_move rfl) ?_
  refine rw_p rfl rfl (y_loadA (s := 2) (vs := [_, _]) rfl ag23 (hm.nt 0 rfl) rfl) ?_
  refine a_call rfl rfl rfl go19 (C.as (v := .bool true) (r20_on D m Z _ (OwnZ.right (A := [_]) hm.ownZ) hz a (BB.length : Int) ha (by simp only [Pl.I64]; omega)) (by rw [hon])) fun v w hR => ?_
  obtain ⟨rfl, hE⟩ := hR
  refine ⟨trivial, ?_⟩
  replace hm := hm.ext hE
  refine rw_p rfl rfl (y_not rfl) ?_
  refine rw_done ?_
  refine gn_sq ?_
  refine HW_condF rfl rfl rfl ?_
  refine HW_skip rfl ?_
  refine gn_sq ?_
  refine HW_seq rfl ?_
  refine HW_draw (.pure 0 (.pure 1 (.pure 2 (.pure 3 (.pure 4 (.act2 5 (.act 6 (.cut (.act 7 .done))) 6 (.act 5 (.cut (.act 7 .done))))))))) No mix (by kernel_rfl) hm fun w hw hm0 hh => ?_
  have hm := hm0
  obtain ⟨pbY, cbY, pcY, ccY, csY, hPy, -⟩ := hz.row (OwnZ.right (A := [_]) hm0.ownZ)
  refine rw_p rfl rfl (y_move rfl) ?_
  refine rw_p rfl rfl (y_nil rfl) ?_
  refine rw_p rfl rfl (y_fieldAddr rfl fo52_0) ?_
  refine rw_p rfl rfl (y_load rfl sc3 (fun u hu => (Ext.same hu _ (Array.getElem?_eq_some_iff.1 hPy).1 id).trans hPy) rfl) ?_
  refine rw_p rfl rfl (y_loadA (s := 2) (vs := [_, _]) rfl ag23 (hm0.nd 0 rfl id) rfl) ?_
  refine a_two ?_ ?_
  ·
    refine a_call rfl rfl rfl go10 (C.as (v := .agg ⟨[.int .i64 ((Pl.sF D.sz a BB.length : Nat) : Int), .int .i64 ((Pl.sN D.sz a BB.length : Nat) : Int)]⟩) (r20_secs (D.sz : Int) (a : Int) (BB.length : Int) _ (by simp only [Pl.I64]; omega) ha (by simp only [Pl.I64]; omega)) (by rw [Pl.secs_nat o1 (by omega)]; rfl)) fun v w hR => ?_
    obtain ⟨rfl, hE⟩ := hR
    refine ⟨hh.ext hE, ?_⟩
    replace hm := hm.ext hE
    replace hh := hh.ext hE
    refine a_alloc rfl rfl z23 hm hh fun m2 w hg_m2 hm hh => ?_
    refine a_cut ?_
    refine a_store rfl rfl rfl rfl sz23 rfl hm 0 rfl rfl fun w hm => ?_
    refine rw_done ?_
    refine gn_sq ?_
    refine HW_seq rfl ?_
    refine HW_seq rfl ?_
    refine HW_text (.pure 0 (.pure 1 (.pure 2 .done))) (by kernel_rfl) ?_
    refine rw_p rfl rfl (y_fieldAddr rfl fo23_0) ?_
    refine rw_p rfl rfl (y_load rfl sc3 (hm.nt 0 rfl) rfl) ?_
    refine rw_p rfl rfl (y_assign rfl) ?_
    refine rw_done ?_
    refine gn_sq ?_
    refine HW_block rfl ?_
    refine HW_loopK (ι := Nat × Pl.Dv × List (Nat × Blk)) rfl (ks := [0, 1, 2, 7, 8]) (.cons rfl (.cons rfl (.cons rfl (.cons rfl (.cons rfl .nil))))) (fun x => [(9, .int .i64 x.1)]) (fun x w => Mem w0 w (Mn (reals Z)) ((m2, .row 23 [.int .i64 ((Pl.sF D.sz a BB.length : Nat) : Int), .int .i64 ((Pl.sN D.sz a BB.length : Nat) : Int)]) :: (m1, .row 23 [.int .i64 (a : Int), .int .i64 (BB.length : Int)]) :: x.2.2) ∧ RefZ 52 87 5 x.2.1 m x.2.2 ∧ (Pl.wrS a BB (Pl.sN D.sz a BB.length) (Pl.sF D.sz a BB.length) D) = Pl.wrS a BB ((Pl.sF D.sz a BB.length + Pl.sN D.sz a BB.length) - x.1) x.1 x.2.1 ∧ x.2.1.sz = D.sz ∧ x.2.1.cnt = D.cnt ∧ x.2.1.ca.length + ((Pl.sF D.sz a BB.length + Pl.sN D.sz a BB.length) - x.1) ≤ 1000000000 ∧ Pl.sF D.sz a BB.length ≤ x.1 ∧ x.1 ≤ (Pl.sF D.sz a BB.length + Pl.sN D.sz a BB.length)) (fun x => (Pl.sF D.sz a BB.length + Pl.sN D.sz a BB.length) - x.1) (Pl.sF D.sz a BB.length, D, Z) (⟨(hm.pickT [0, 1] 2 rfl), hz, by simp only; rw [Nat.add_sub_cancel_left], rfl, rfl, by simp only; omega, Nat.le_refl _, by simp only; omega⟩) ⟨rfl, trivial⟩ (fun x w hM => ?_)
    obtain ⟨hm, hz9, hR9, hsz, hct, hca, hlo, hhi⟩ := hM
    obtain ⟨i, D9, Z9⟩ := x
    simp only at hm hz9 hR9 hsz hct hca hlo hhi ⊢
    refine HW_seq rfl ?_
    refine HW_seq rfl ?_
    refine HW_text (.pure 0 (.pure 1 (.pure 2 (.pure 3 (.pure 4 (.pure 5 (.pure 6 .done))))))) (by kernel_rfl) ?_
    refine rw_p rfl rfl (y_move rfl) ?_
    refine rw_p rfl rfl (y_fieldAddr rfl fo23_0) ?_
    refine rw_p rfl rfl (y_load rfl sc3 (hm.nt 0 rfl) rfl) ?_
    refine rw_p rfl rfl (y_fieldAddr rfl fo23_1) ?_
    refine rw_p rfl rfl (y_load rfl sc3 (hm.nt 0 rfl) rfl) ?_
    refine rw_p rfl rfl (y_add rfl rfl (addK _ (by omega))) ?_
    refine rw_p rfl rfl (y_lt rfl rfl) ?_
    refine rw_done ?_
    refine gn_sq ?_
    refine HW_cond rfl rfl (fun hc1 => ?_) (fun hc1 => ?_)
    ·
      simp only [decide_eq_true_eq] at hc1
      have hse := Pl.sec_le (sz := D.sz) (show i < D.cnt by omega)
      have hii : i ≤ i * D.sz := Nat.le_mul_of_pos_right _ o1
      refine HW_skip rfl ?_
      refine gn_sq ?_
      refine HW_seq rfl ?_
      refine HW_block rfl ?_
      refine HW_seq rfl ?_
      refine HW_text (.pure 0 (.pure 1 (.act 2 (.pure 3 (.pure 4 (.pure 5 (.pure 6 (.pure 7 .done)))))))) (by kernel_rfl) ?_
      refine rw_p rfl rfl (y_move rfl) ?_
      refine rw_p rfl rfl (y_move rfl) ?_
      refine a_call rfl rfl rfl go45 (q_read D9 m Z9 _ (OwnZ.right (A := [_, _]) hm.ownZ) hz9 (by omega) (i : Int)) fun v w hR => ?_
      obtain ⟨p_t, cap_t, rfl, hR_t, hE⟩ := hR
      refine ⟨trivial, ?_⟩
      replace hm := hm.ext hE
      refine rw_p rfl rfl (y_move rfl) ?_
      refine rw_p rfl rfl (y_extract rfl rfl) ?_
      refine rw_p rfl rfl (y_extract rfl rfl) ?_
      refine rw_p rfl rfl (y_assign rfl) ?_
      refine rw_p rfl rfl (y_assign rfl) ?_
      refine rw_done ?_
      refine gn_sq ?_
      refine HW_seq rfl ?_
      refine HW_seq rfl ?_
      refine HW_text (.pure 0 (.pure 1 .done)) (by kernel_rfl) ?_
      refine rw_p rfl rfl (y_move rfl) ?_
      refine rw_p rfl rfl (y_ne rfl rfl) ?_
      refine rw_done ?_
      refine gn_sq ?_
      refine HW_cond rfl rfl (fun hc2 => ?_) (fun hc2 => ?_)
      ·
        simp only [decide_eq_true_eq] at hc2
        have hRR : (Pl.wrS a BB (Pl.sN D.sz a BB.length) (Pl.sF D.sz a BB.length) D) = (Pl.codeAt D9 (i : Int), D9) := by rw [hR9, show (Pl.sF D.sz a BB.length + Pl.sN D.sz a BB.length) - i = ((Pl.sF D.sz a BB.length + Pl.sN D.sz a BB.length) - (i + 1)) + 1 by omega]; unfold Pl.wrS; rw [if_pos hc2]
        refine HW_seq rfl ?_
        refine HW_text (.pure 0 (.pure 1 .done)) (by kernel_rfl) ?_
        refine rw_p rfl rfl (y_move rfl) ?_
        refine rw_p rfl rfl (y_assign rfl) ?_
        refine rw_done ?_
        refine gn_sq ?_
        refine HW_ret rfl ?_
        refine gr_sq (gr_bl (gr_sq (gr_lp (gr_bl (gr_sq ?_)))))
        refine toR (fin hret rfl (.tmp rfl .nil) .one ?_)
        exact ⟨by rw [hRR] <;> rfl, Z9, by rw [hRR]; exact hz9, (hm.pickT [] 2 rfl)⟩
      ·
        simp only [decide_eq_false_iff_not, Decidable.not_not] at hc2
        have hvl : (Pl.rdS D9 (i : Int)).length = D.sz := (Pl.rdS_len hz9.ok (i := i) (by omega)).trans hsz
        rw [hc2, if_pos rfl, hvl]
        rw [if_pos hc2] at hR_t
        refine HW_skip rfl ?_
        refine gn_sq ?_
        refine HW_seq rfl ?_
        refine HW_text (.pure 0 .done) (by kernel_rfl) ?_
        refine rw_p rfl rfl (y_assign rfl) ?_
        refine rw_done ?_
        refine gn_sq ?_
        refine HW_seq rfl ?_
        refine HW_seq rfl ?_
        refine HW_text (.pure 0 .done) (by kernel_rfl) ?_
        refine rw_p rfl rfl (y_assign rfl) ?_
        refine rw_done ?_
        refine gn_sq ?_
        refine HW_block rfl ?_
        rename World => w9
        have hmO := hm
        have hm := (Mem.start w9).gapIn
        have ha_x := Acc.nil 5 1 none 0
        have hT7 : w9.heap[m1]? = some (Blk.row 23 [.int .i64 (a : Int), .int .i64 (BB.length : Int)]).toObj := hmO.get (k := 1) rfl
        obtain ⟨pbY, cbY, pcY, ccY, csY, hP9, -⟩ := hz9.row (OwnZ.right (A := [_, _]) hmO.ownZ)
        rw [show rfV D9 pbY cbY pcY ccY = [.int .i64 (D.sz : Int), .int .i64 (D9.cnt : Int), .slice pbY D9.dk.length cbY, .slice pcY D9.ca.length ccY, .int .i64 D9.wr, .int .u64 D9.kp, .bool D9.dn, .int .i64 D9.sW, .int .i64 D9.sF, .int .i64 D9.sC, .int .i64 D9.sH, .int .i64 D9.sM] by rw [← hsz]; rfl] at hP9
        have hq9 := hq.extN hmO.to hqX
        refine HW_loopK (ι := Nat × Option Addr × Nat × Nat × Blk) rfl (ks := [0, 1, 2, 7, 8, 9, 10, 11]) (.cons rfl (.cons rfl (.cons rfl (.cons rfl (.cons rfl (.cons rfl (.cons rfl (.cons rfl .nil)))))))) (fun y => [(13, .int .i64 y.1), (12, .slice y.2.1 y.1 y.2.2.1)]) (fun y w => Mem w9 w No [(y.2.2.2.1, y.2.2.2.2)] ∧ Acc 5 1 y.2.1 y.1 y.2.2.1 (((Pl.secX D.sz (Pl.rdS D9 (i : Int)) a BB i).take y.1).flatMap encB) y.2.2.2.1 y.2.2.2.2 ∧ y.1 ≤ D.sz) (fun y => D.sz - y.1) (0, none, 0, 0, .gap) (⟨hm, ha_x, Nat.zero_le _⟩) ⟨rfl, rfl, trivial⟩ (fun y w hM => ?_)
        obtain ⟨hm, ha_x, hk9⟩ := hM
        refine HW_seq rfl ?_
        refine HW_seq rfl ?_
        refine HW_text (.pure 0 (.pure 1 (.pure 2 (.pure 3 (.pure 4 (.pure 5 .done)))))) (by kernel_rfl) ?_
        refine rw_p rfl rfl (y_move rfl) ?_
        refine rw_p rfl rfl (y_move rfl) ?_
        refine rw_p rfl rfl (y_nil rfl) ?_
        refine rw_p rfl rfl (y_fieldAddr rfl fo52_0) ?_
        refine rw_p rfl rfl (y_load rfl sc3 (nowT ((hm.to.same _ (Array.getElem?_eq_some_iff.1 hP9).1 id).trans hP9)) rfl) ?_
        refine rw_p rfl rfl (y_lt rfl rfl) ?_
        refine rw_done ?_
        refine gn_sq ?_
        refine HW_cond rfl rfl (fun hc3 => ?_) (fun hc3 => ?_)
        ·
          obtain ⟨k, p_x, cap_x, g_x, b_x⟩ := y
          simp only at hm ha_x hk9 hc3 ⊢
          simp only [decide_eq_true_eq] at hc3
          have hxk := Pl.secX_get (old := Pl.rdS D9 (i : Int)) (a := a) (bs := BB) (i := i) (k := k) (by omega) hvl
          refine HW_skip rfl ?_
          refine gn_sq ?_
          refine HW_seq rfl ?_
          refine HW_block rfl ?_
          refine HW_seq rfl ?_
          refine HW_text (.pure 0 (.pure 1 (.pure 2 (.pure 3 (.pure 4 (.pure 5 (.pure 6 (.pure 7 (.pure 8 .done))))))))) (by kernel_rfl) ?_
          refine rw_p rfl rfl (y_move rfl) ?_
          refine rw_p rfl rfl (y_move rfl) ?_
          refine rw_p rfl rfl (y_nil rfl) ?_
          refine rw_p rfl rfl (y_fieldAddr rfl fo52_0) ?_
          refine rw_p rfl rfl (y_load rfl sc3 (nowT ((hm.to.same _ (Array.getElem?_eq_some_iff.1 hP9).1 id).trans hP9)) rfl) ?_
          refine rw_p rfl rfl (y_mul rfl rfl (mulN (by omega))) ?_
          refine rw_p rfl rfl (y_move rfl) ?_
          refine rw_p rfl rfl (y_add rfl rfl (addK _ (by omega))) ?_
          refine rw_p rfl rfl (y_assign rfl) ?_
          refine rw_done ?_
          refine gn_sq ?_
          refine HW_seq rfl ?_
          refine HW_text (.pure 0 (.pure 1 (.act 2 .done))) (by kernel_rfl) ?_
          refine rw_p rfl rfl (y_loadA (s := 2) (vs := [_, _]) rfl ag23 (nowT ((hm.to.same _ (Array.getElem?_eq_some_iff.1 hT7).1 id).trans hT7)) rfl) ?_
          refine rw_p rfl rfl (y_move rfl) ?_
          refine a_call rfl rfl rfl go21 (r1_has (a : Int) (BB.length : Int) ((i * D.sz + k : Nat) : Int) _ (by simp only [Pl.I64]; omega)) fun v w hR => ?_
          obtain ⟨rfl, hE⟩ := hR
          refine ⟨trivial, ?_⟩
          replace hm := hm.ext hE
          refine rw_done ?_
          refine gn_sq ?_
          refine HW_cond rfl rfl (fun hc4 => ?_) (fun hc4 => ?_)
          ·
            simp only [decide_eq_true_eq] at hc4
            rw [if_pos (by omega)] at hxk
            obtain ⟨c, hi⟩ : ∃ y_, BB[i * D.sz + k - a]? = some y_ := ⟨_, List.getElem?_eq_getElem (by omega)⟩
            rw [hi] at hxk
            obtain ⟨b2, o2, hp2⟩ := hq9.atI encB_len (by decide) hi
            refine HW_text (.pure 0 (.pure 1 (.pure 2 (.pure 3 (.pure 4 (.pure 5 (.pure 6 (.act 7 (.act 8 (.pure 9 .done)))))))))) (by kernel_rfl) ?_
            refine rw_p rfl rfl (y_move rfl) ?_
            refine rw_p rfl rfl (y_move rfl) ?_
            refine rw_p rfl rfl (y_move rfl) ?_
            refine rw_p rfl rfl (y_move rfl) ?_
            refine rw_p rfl rfl (y_sub rfl rfl (subK _ (by omega) (by omega))) ?_
            refine rw_p rfl rfl (y_index rfl rfl sl27 hp2 (by omega) (by omega)) ?_
            refine rw_p rfl rfl (y_el1 rfl sc5 (hp2 ▸ hq9.ext0 hm.to).nt encB_len hi rfl) ?_
            refine a_buildSlice (l := [_]) rfl rfl sl27 z5 rfl rfl rfl rfl rfl rfl rfl hm trivial fun m3 w hg_m3 hm hh => ?_
            refine a_append rfl rfl rfl rfl rfl rfl sl27 sl27 z5 rfl rfl (Rd.row0 (hm.get (k := 0) rfl)) rfl ha_x hm 1 rfl (by omega) (by omega) fun p_x cap_x g_x b_x w ha_x hm => ?_
            replace ha_x := ha_x.to (show _ = ((Pl.secX D.sz (Pl.rdS D9 (i : Int)) a BB i).take (k + 1)).flatMap encB by rw [Pl.take_snoc hxk, List.flatMap_append]; rfl)
            refine rw_p rfl rfl (y_assign rfl) ?_
            refine rw_done ?_
            refine gn_bl ?_
            refine gn_sq ?_
            refine HW_text (.pure 0 (.pure 1 (.pure 2 .done))) (by kernel_rfl) ?_
            refine rw_p rfl rfl (y_move rfl) ?_
            refine rw_p rfl rfl (y_add rfl rfl (i64w (by omega) (by omega))) ?_
            refine rw_p rfl rfl (y_assign rfl) ?_
            refine rw_done ?_
            exact next (k + 1, p_x, cap_x, g_x, b_x) (by simp only; omega) ⟨(hm.pick [1] rfl), ha_x, by simp only; omega⟩ ⟨nx k, rfl, rfl, rfl, rfl, rfl, rfl, rfl, rfl, rfl, trivial⟩
          ·
            simp only [decide_eq_false_iff_not] at hc4
            rw [if_neg (by omega)] at hxk
            obtain ⟨c, hi⟩ : ∃ y_, (Pl.rdS D9 (i : Int))[k]? = some y_ := ⟨_, List.getElem?_eq_getElem (by omega)⟩
            rw [hi] at hxk
            obtain ⟨b2, o2, hp2⟩ := hR_t.atI encB_len (by decide) hi
            refine HW_text (.pure 0 (.pure 1 (.pure 2 (.pure 3 (.pure 4 (.act 5 (.act 6 (.pure 7 .done)))))))) (by kernel_rfl) ?_
            refine rw_p rfl rfl (y_move rfl) ?_
            refine rw_p rfl rfl (y_move rfl) ?_
            refine rw_p rfl rfl (y_move rfl) ?_
            refine rw_p rfl rfl (y_index rfl rfl sl27 hp2 (by omega) (by omega)) ?_
            refine rw_p rfl rfl (y_el1 rfl sc5 (hp2 ▸ hR_t.ext0 hm.to).nt encB_len hi rfl) ?_
            refine a_buildSlice (l := [_]) rfl rfl sl27 z5 rfl rfl rfl rfl rfl rfl rfl hm trivial fun m3 w hg_m3 hm hh => ?_
            refine a_append rfl rfl rfl rfl rfl rfl sl27 sl27 z5 rfl rfl (Rd.row0 (hm.get (k := 0) rfl)) rfl ha_x hm 1 rfl (by omega) (by omega) fun p_x cap_x g_x b_x w ha_x hm => ?_
            replace ha_x := ha_x.to (show _ = ((Pl.secX D.sz (Pl.rdS D9 (i : Int)) a BB i).take (k + 1)).flatMap encB by rw [Pl.take_snoc hxk, List.flatMap_append]; rfl)
            refine rw_p rfl rfl (y_assign rfl) ?_
            refine rw_done ?_
            refine gn_bl ?_
            refine gn_sq ?_
            refine HW_text (.pure 0 (.pure 1 (.pure 2 .done))) (by kernel_rfl) ?_
            refine rw_p rfl rfl (y_move rfl) ?_
            refine rw_p rfl rfl (y_add rfl rfl (i64w (by omega) (by omega))) ?_
            refine rw_p rfl rfl (y_assign rfl) ?_
            refine rw_done ?_
            exact next (k + 1, p_x, cap_x, g_x, b_x) (by simp only; omega) ⟨(hm.pick [1] rfl), ha_x, by simp only; omega⟩ ⟨nx k, rfl, rfl, rfl, rfl, rfl, rfl, rfl, rfl, rfl, trivial⟩
        ·
          obtain ⟨k, p_x, cap_x, g_x, b_x⟩ := y
          simp only at hm ha_x hk9 hc3 ⊢
          simp only [decide_eq_false_iff_not] at hc3
          have hke : k = D.sz := by omega
          rw [hke, List.take_of_length_le (by rw [Pl.secX_len]; exact Nat.le_refl _)] at ha_x
          rw [hke]
          have hxle := ha_x.le
          replace hm := hmO.callN hm
          refine HW_exit rfl ?_
          refine gx_sq (gx_lp ?_)
          refine gx_here ?_
          refine gn_sq ?_
          refine HW_seq rfl ?_
          refine HW_text (.pure 0 (.pure 1 (.pure 2 (.act 3 (.pure 4 .done))))) (by kernel_rfl) ?_
          refine rw_p rfl rfl (y_move rfl) ?_
          refine rw_p rfl rfl (y_move rfl) ?_
          refine rw_p rfl rfl (y_move rfl) ?_
          refine a_call rfl rfl rfl go15 (C.eqv (q_put D9 m Z9 _ (OwnZ.right (A := [_, _, _]) hm.ownZ) hz9 p_x cap_x (Pl.secX D.sz (Pl.rdS D9 (i : Int)) a BB i) (i : Int) (ha_x.rd hm 0 rfl) (hm.notR (A := [_, _, _]) ha_x 0 rfl) (by rw [Pl.secX_len]; exact hxle) (by omega)) (by rw [Pl.secX_len])) fun v w hR => ?_
          obtain ⟨rfl, Z2, hz2, hmc⟩ := hR
          refine ⟨trivial, ?_⟩
          replace hm := Mem.callZL (A := [_, _, _]) hm hmc
          refine rw_p rfl rfl (y_assign rfl) ?_
          refine rw_done ?_
          refine gn_sq ?_
          refine HW_seq rfl ?_
          refine HW_text (.pure 0 (.pure 1 .done)) (by kernel_rfl) ?_
          refine rw_p rfl rfl (y_move rfl) ?_
          refine rw_p rfl rfl (y_ne rfl rfl) ?_
          refine rw_done ?_
          refine gn_sq ?_
          refine HW_cond rfl rfl (fun hc5 => ?_) (fun hc5 => ?_)
          ·
            simp only [decide_eq_true_eq] at hc5
            have hRR : (Pl.wrS a BB (Pl.sN D.sz a BB.length) (Pl.sF D.sz a BB.length) D) = (Pl.wCode D9 (i : Int) (Pl.secX D.sz (Pl.rdS D9 (i : Int)) a BB i), Pl.wDv D9 (i : Int) (Pl.secX D.sz (Pl.rdS D9 (i : Int)) a BB i)) := by rw [hR9, show (Pl.sF D.sz a BB.length + Pl.sN D.sz a BB.length) - i = ((Pl.sF D.sz a BB.length + Pl.sN D.sz a BB.length) - (i + 1)) + 1 by omega]; unfold Pl.wrS; rw [if_neg (by omega), hsz, if_pos hc5]
            refine HW_seq rfl ?_
            refine HW_text (.pure 0 (.pure 1 .done)) (by kernel_rfl) ?_
            refine rw_p rfl rfl (y_move rfl) ?_
            refine rw_p rfl rfl (y_assign rfl) ?_
            refine rw_done ?_
            refine gn_sq ?_
            refine HW_ret rfl ?_
            refine gr_bl (gr_sq (gr_lp (gr_bl (gr_sq ?_))))
            refine toR (fin hret rfl (.tmp rfl .nil) .one ?_)
            exact ⟨by rw [hRR] <;> rfl, Z2, by rw [hRR]; exact hz2, (hm.pickT [] 3 rfl)⟩
          ·
            simp only [decide_eq_false_iff_not, Decidable.not_not] at hc5
            have hRR : (Pl.wrS a BB (Pl.sN D.sz a BB.length) (Pl.sF D.sz a BB.length) D) = Pl.wrS a BB ((Pl.sF D.sz a BB.length + Pl.sN D.sz a BB.length) - (i + 1)) (i + 1) (Pl.wDv D9 (i : Int) (Pl.secX D.sz (Pl.rdS D9 (i : Int)) a BB i)) := by rw [hR9, show (Pl.sF D.sz a BB.length + Pl.sN D.sz a BB.length) - i = ((Pl.sF D.sz a BB.length + Pl.sN D.sz a BB.length) - (i + 1)) + 1 by omega]; conv => lhs; unfold Pl.wrS; rw [if_neg (by omega), hsz, if_neg (by omega)]
            have hws := Pl.wDv_sz D9 (i : Int) (Pl.secX D.sz (Pl.rdS D9 (i : Int)) a BB i)
            have hca2 : (Pl.wDv D9 (i : Int) (Pl.secX D.sz (Pl.rdS D9 (i : Int)) a BB i)).ca.length + ((Pl.sF D.sz a BB.length + Pl.sN D.sz a BB.length) - (i + 1)) ≤ 1000000000 := by omega
            refine HW_skip rfl ?_
            refine gn_bl ?_
            refine gn_sq ?_
            refine HW_text (.pure 0 (.pure 1 (.pure 2 .done))) (by kernel_rfl) ?_
            refine rw_p rfl rfl (y_move rfl) ?_
            refine rw_p rfl rfl (y_add rfl rfl (i64w (by omega) (by omega))) ?_
            refine rw_p rfl rfl (y_assign rfl) ?_
            refine rw_done ?_
            exact next (i + 1, _, Z2) (by simp only; omega) ⟨(hm.pickT [1, 2] 3 rfl), hz2, hRR, hws.1.trans hsz, hws.2.1.trans hct, hca2, by simp only; omega, by simp only; omega⟩ ⟨nx i, rfl, rfl, rfl, rfl, rfl, trivial⟩
    ·
      simp only [decide_eq_false_iff_not] at hc1
      have hie : i = (Pl.sF D.sz a BB.length + Pl.sN D.sz a BB.length) := by omega
      have hRR : (Pl.wrS a BB (Pl.sN D.sz a BB.length) (Pl.sF D.sz a BB.length) D) = (0, D9) := by rw [hR9, hie, Nat.sub_self]; rfl
      refine HW_exit rfl ?_
      refine gx_sq (gx_lp ?_)
      refine gx_here ?_
      refine gn_sq ?_
      refine HW_seq rfl ?_
      refine HW_text (.pure 0 .done) (by kernel_rfl) ?_
      refine rw_p rfl rfl (y_assign rfl) ?_
      refine rw_done ?_
      refine gn_sq ?_
      refine HW_ret rfl ?_
      refine toR (fin hret rfl (.tmp rfl .nil) .one ?_)
      exact ⟨by rw [hRR] <;> rfl, Z9, by rw [hRR]; exact hz9, (hm.pickT [] 2 rfl)⟩
  ·
    refine a_alloc rfl rfl z23 hm hh fun m2 w hg_m2 hm hh => ?_
    refine a_call rfl rfl rfl go10 (C.as (v := .agg ⟨[.int .i64 ((Pl.sF D.sz a BB.length : Nat) : Int), .int .i64 ((Pl.sN D.sz a BB.length : Nat) : Int)]⟩) (r20_secs (D.sz : Int) (a : Int) (BB.length : Int) _ (by simp only [Pl.I64]; omega) ha (by simp only [Pl.I64]; omega)) (by rw [Pl.secs_nat o1 (by omega)]; rfl)) fun v w hR => ?_
    obtain ⟨rfl, hE⟩ := hR
    refine ⟨hh.ext hE, ?_⟩
    replace hm := hm.ext hE
    replace hh := hh.ext hE
    refine a_cut ?_
    refine a_store rfl rfl rfl rfl sz23 rfl hm 0 rfl rfl fun w hm => ?_
    refine rw_done ?_
    refine gn_sq ?_
    refine HW_seq rfl ?_
    refine HW_seq rfl ?_
    refine HW_text (.pure 0 (.pure 1 (.pure 2 .done))) (by kernel_rfl) ?_
    refine rw_p rfl rfl (y_fieldAddr rfl fo23_0) ?_
    refine rw_p rfl rfl (y_load rfl sc3 (hm.nt 0 rfl) rfl) ?_
    refine rw_p rfl rfl (y_assign rfl) ?_
    refine rw_done ?_
    refine gn_sq ?_
    refine HW_block rfl ?_
    refine HW_loopK (ι := Nat × Pl.Dv × List (Nat × Blk)) rfl (ks := [0, 1, 2, 7, 8]) (.cons rfl (.cons rfl (.cons rfl (.cons rfl (.cons rfl .nil))))) (fun x => [(9, .int .i64 x.1)]) (fun x w => Mem w0 w (Mn (reals Z)) ((m2, .row 23 [.int .i64 ((Pl.sF D.sz a BB.length : Nat) : Int), .int .i64 ((Pl.sN D.sz a BB.length : Nat) : Int)]) :: (m1, .row 23 [.int .i64 (a : Int), .int .i64 (BB.length : Int)]) :: x.2.2) ∧ RefZ 52 87 5 x.2.1 m x.2.2 ∧ (Pl.wrS a BB (Pl.sN D.sz a BB.length) (Pl.sF D.sz a BB.length) D) = Pl.wrS a BB ((Pl.sF D.sz a BB.length + Pl.sN D.sz a BB.length) - x.1) x.1 x.2.1 ∧ x.2.1.sz = D.sz ∧ x.2.1.cnt = D.cnt ∧ x.2.1.ca.length + ((Pl.sF D.sz a BB.length + Pl.sN D.sz a BB.length) - x.1) ≤ 1000000000 ∧ Pl.sF D.sz a BB.length ≤ x.1 ∧ x.1 ≤ (Pl.sF D.sz a BB.length + Pl.sN D.sz a BB.length)) (fun x => (Pl.sF D.sz a BB.length + Pl.sN D.sz a BB.length) - x.1) (Pl.sF D.sz a BB.length, D, Z) (⟨(hm.pickT [0, 1] 2 rfl), hz, by simp only; rw [Nat.add_sub_cancel_left], rfl, rfl, by simp only; omega, Nat.le_refl _, by simp only; omega⟩) ⟨rfl, trivial⟩ (fun x w hM => ?_)
    obtain ⟨hm, hz9, hR9, hsz, hct, hca, hlo, hhi⟩ := hM
    obtain ⟨i, D9, Z9⟩ := x
    simp only at hm hz9 hR9 hsz hct hca hlo hhi ⊢
    refine HW_seq rfl ?_
    refine HW_seq rfl ?_
    refine HW_text (.pure 0 (.pure 1 (.pure 2 (.pure 3 (.pure 4 (.pure 5 (.pure 6 .done))))))) (by kernel_rfl) ?_
    refine rw_p rfl rfl (y_move rfl) ?_
    refine rw_p rfl rfl (y_fieldAddr rfl fo23_0) ?_
    refine rw_p rfl rfl (y_load rfl sc3 (hm.nt 0 rfl) rfl) ?_
    refine rw_p rfl rfl (y_fieldAddr rfl fo23_1) ?_
    refine rw_p rfl rfl (y_load rfl sc3 (hm.nt 0 rfl) rfl) ?_
    refine rw_p rfl rfl (y_add rfl rfl (addK _ (by omega))) ?_
    refine rw_p rfl rfl (y_lt rfl rfl) ?_
    refine rw_done ?_
    refine gn_sq ?_
    refine HW_cond rfl rfl (fun hc1 => ?_) (fun hc1 => ?_)
    ·
      simp only [decide_eq_true_eq] at hc1
      have hse := Pl.sec_le (sz := D.sz) (show i < D.cnt by omega)
      have hii : i ≤ i * D.sz := Nat.le_mul_of_pos_right _ o1
      refine HW_skip rfl ?_
      refine gn_sq ?_
      refine HW_seq rfl ?_
      refine HW_block rfl ?_
      refine HW_seq rfl ?_
      refine HW_text (.pure 0 (.pure 1 (.act 2 (.pure 3 (.pure 4 (.pure 5 (.pure 6 (.pure 7 .done)))))))) (by kernel_rfl) ?_
      refine rw_p rfl rfl (y_move rfl) ?_
      refine rw_p rfl rfl (y_move rfl) ?_
      refine a_call rfl rfl rfl go45 (q_read D9 m Z9 _ (OwnZ.right (A := [_, _]) hm.ownZ) hz9 (by omega) (i : Int)) fun v w hR => ?_
      obtain ⟨p_t, cap_t, rfl, hR_t, hE⟩ := hR
      refine ⟨trivial, ?_⟩
      replace hm := hm.ext hE
      refine rw_p rfl rfl (y_move rfl) ?_
      refine rw_p rfl rfl (y_extract rfl rfl) ?_
      refine rw_p rfl rfl (y_extract rfl rfl) ?_
      refine rw_p rfl rfl (y_assign rfl) ?_
      refine rw_p rfl rfl (y_assign rfl) ?_
      refine rw_done ?_
      refine gn_sq ?_
      refine HW_seq rfl ?_
      refine HW_seq rfl ?_
      refine HW_text (.pure 0 (.pure 1 .done)) (by kernel_rfl) ?_
      refine rw_p rfl rfl (y_move rfl) ?_
      refine rw_p rfl rfl (y_ne rfl rfl) ?_
      refine rw_done ?_
      refine gn_sq ?_
      refine HW_cond rfl rfl (fun hc2 => ?_) (fun hc2 => ?_)
      ·
        simp only [decide_eq_true_eq] at hc2
        have hRR : (Pl.wrS a BB (Pl.sN D.sz a BB.length) (Pl.sF D.sz a BB.length) D) = (Pl.codeAt D9 (i : Int), D9) := by rw [hR9, show (Pl.sF D.sz a BB.length + Pl.sN D.sz a BB.length) - i = ((Pl.sF D.sz a BB.length + Pl.sN D.sz a BB.length) - (i + 1)) + 1 by omega]; unfold Pl.wrS; rw [if_pos hc2]
        refine HW_seq rfl ?_
        refine HW_text (.pure 0 (.pure 1 .done)) (by kernel_rfl) ?_
        refine rw_p rfl rfl (y_move rfl) ?_
        refine rw_p rfl rfl (y_assign rfl) ?_
        refine rw_done ?_
        refine gn_sq ?_
        refine HW_ret rfl ?_
        refine gr_sq (gr_bl (gr_sq (gr_lp (gr_bl (gr_sq ?_)))))
        refine toR (fin hret rfl (.tmp rfl .nil) .one ?_)
        exact ⟨by rw [hRR] <;> rfl, Z9, by rw [hRR]; exact hz9, (hm.pickT [] 2 rfl)⟩
      ·
        simp only [decide_eq_false_iff_not, Decidable.not_not] at hc2
        have hvl : (Pl.rdS D9 (i : Int)).length = D.sz := (Pl.rdS_len hz9.ok (i := i) (by omega)).trans hsz
        rw [hc2, if_pos rfl, hvl]
        rw [if_pos hc2] at hR_t
        refine HW_skip rfl ?_
        refine gn_sq ?_
        refine HW_seq rfl ?_
        refine HW_text (.pure 0 .done) (by kernel_rfl) ?_
        refine rw_p rfl rfl (y_assign rfl) ?_
        refine rw_done ?_
        refine gn_sq ?_
        refine HW_seq rfl ?_
        refine HW_seq rfl ?_
        refine HW_text (.pure 0 .done) (by kernel_rfl) ?_
        refine rw_p rfl rfl (y_assign rfl) ?_
        refine rw_done ?_
        refine gn_sq ?_
        refine HW_block rfl ?_
        rename World => w9
        have hmO := hm
        have hm := (Mem.start w9).gapIn
        have ha_x := Acc.nil 5 1 none 0
        have hT7 : w9.heap[m1]? = some (Blk.row 23 [.int .i64 (a : Int), .int .i64 (BB.length : Int)]).toObj := hmO.get (k := 1) rfl
        obtain ⟨pbY, cbY, pcY, ccY, csY, hP9, -⟩ := hz9.row (OwnZ.right (A := [_, _]) hmO.ownZ)
        rw [show rfV D9 pbY cbY pcY ccY = [.int .i64 (D.sz : Int), .int .i64 (D9.cnt : Int), .slice pbY D9.dk.length cbY, .slice pcY D9.ca.length ccY, .int .i64 D9.wr, .int .u64 D9.kp, .bool D9.dn, .int .i64 D9.sW, .int .i64 D9.sF, .int .i64 D9.sC, .int .i64 D9.sH, .int .i64 D9.sM] by rw [← hsz]; rfl] at hP9
        have hq9 := hq.extN hmO.to hqX
        refine HW_loopK (ι := Nat × Option Addr × Nat × Nat × Blk) rfl (ks := [0, 1, 2, 7, 8, 9, 10, 11]) (.cons rfl (.cons rfl (.cons rfl (.cons rfl (.cons rfl (.cons rfl (.cons rfl (.cons rfl .nil)))))))) (fun y => [(13, .int .i64 y.1), (12, .slice y.2.1 y.1 y.2.2.1)]) (fun y w => Mem w9 w No [(y.2.2.2.1, y.2.2.2.2)] ∧ Acc 5 1 y.2.1 y.1 y.2.2.1 (((Pl.secX D.sz (Pl.rdS D9 (i : Int)) a BB i).take y.1).flatMap encB) y.2.2.2.1 y.2.2.2.2 ∧ y.1 ≤ D.sz) (fun y => D.sz - y.1) (0, none, 0, 0, .gap) (⟨hm, ha_x, Nat.zero_le _⟩) ⟨rfl, rfl, trivial⟩ (fun y w hM => ?_)
        obtain ⟨hm, ha_x, hk9⟩ := hM
        refine HW_seq rfl ?_
        refine HW_seq rfl ?_
        refine HW_text (.pure 0 (.pure 1 (.pure 2 (.pure 3 (.pure 4 (.pure 5 .done)))))) (by kernel_rfl) ?_
        refine rw_p rfl rfl (y_move rfl) ?_
        refine rw_p rfl rfl (y_move rfl) ?_
        refine rw_p rfl rfl (y_nil rfl) ?_
        refine rw_p rfl rfl (y_fieldAddr rfl fo52_0) ?_
        refine rw_p rfl rfl (y_load rfl sc3 (nowT ((hm.to.same _ (Array.getElem?_eq_some_iff.1 hP9).1 id).trans hP9)) rfl) ?_
        refine rw_p rfl rfl (y_lt rfl rfl) ?_
        refine rw_done ?_
        refine gn_sq ?_
        refine HW_cond rfl rfl (fun hc3 => ?_) (fun hc3 => ?_)
        ·
          obtain ⟨k, p_x, cap_x, g_x, b_x⟩ := y
          simp only at hm ha_x hk9 hc3 ⊢
          simp only [decide_eq_true_eq] at hc3
          have hxk := Pl.secX_get (old := Pl.rdS D9 (i : Int)) (a := a) (bs := BB) (i := i) (k := k) (by omega) hvl
          refine HW_skip rfl ?_
          refine gn_sq ?_
          refine HW_seq rfl ?_
          refine HW_block rfl ?_
          refine HW_seq rfl ?_
          refine HW_text (.pure 0 (.pure 1 (.pure 2 (.pure 3 (.pure 4 (.pure 5 (.pure 6 (.pure 7 (.pure 8 .done))))))))) (by kernel_rfl) ?_
          refine rw_p rfl rfl (y_move rfl) ?_
          refine rw_p rfl rfl (y_move rfl) ?_
          refine rw_p rfl rfl (y_nil rfl) ?_
          refine rw_p rfl rfl (y_fieldAddr rfl fo52_0) ?_
          refine rw_p rfl rfl (y_load rfl sc3 (nowT ((hm.to.same _ (Array.getElem?_eq_some_iff.1 hP9).1 id).trans hP9)) rfl) ?_
          refine rw_p rfl rfl (y_mul rfl rfl (mulN (by omega))) ?_
          refine rw_p rfl rfl (y_move rfl) ?_
          refine rw_p rfl rfl (y_add rfl rfl (addK _ (by omega))) ?_
          refine rw_p rfl rfl (y_assign rfl) ?_
          refine rw_done ?_
          refine gn_sq ?_
          refine HW_seq rfl ?_
          refine HW_text (.pure 0 (.pure 1 (.act 2 .done))) (by kernel_rfl) ?_
          refine rw_p rfl rfl (y_loadA (s := 2) (vs := [_, _]) rfl ag23 (nowT ((hm.to.same _ (Array.getElem?_eq_some_iff.1 hT7).1 id).trans hT7)) rfl) ?_
          refine rw_p rfl rfl (y_move rfl) ?_
          refine a_call rfl rfl rfl go21 (r1_has (a : Int) (BB.length : Int) ((i * D.sz + k : Nat) : Int) _ (by simp only [Pl.I64]; omega)) fun v w hR => ?_
          obtain ⟨rfl, hE⟩ := hR
          refine ⟨trivial, ?_⟩
          replace hm := hm.ext hE
          refine rw_done ?_
          refine gn_sq ?_
          refine HW_cond rfl rfl (fun hc4 => ?_) (fun hc4 => ?_)
          ·
            simp only [decide_eq_true_eq] at hc4
            rw [if_pos (by omega)] at hxk
            obtain ⟨c, hi⟩ : ∃ y_, BB[i * D.sz + k - a]? = some y_ := ⟨_, List.getElem?_eq_getElem (by omega)⟩
            rw [hi] at hxk
            obtain ⟨b2, o2, hp2⟩ := hq9.atI encB_len (by decide) hi
            refine HW_text (.pure 0 (.pure 1 (.pure 2 (.pure 3 (.pure 4 (.pure 5 (.pure 6 (.act 7 (.act 8 (.pure 9 .done)))))))))) (by kernel_rfl) ?_
            refine rw_p rfl rfl (y_move rfl) ?_
            refine rw_p rfl rfl (y_move rfl) ?_
            refine rw_p rfl rfl (y_move rfl) ?_
            refine rw_p rfl rfl (y_move rfl) ?_
            refine rw_p rfl rfl (y_sub rfl rfl (subK _ (by omega) (by omega))) ?_
            refine rw_p rfl rfl (y_index rfl rfl sl27 hp2 (by omega) (by omega)) ?_
            refine rw_p rfl rfl (y_el1 rfl sc5 (hp2 ▸ hq9.ext0 hm.to).nt encB_len hi rfl) ?_
            refine a_buildSlice (l := [_]) rfl rfl sl27 z5 rfl rfl rfl rfl rfl rfl rfl hm trivial fun m3 w hg_m3 hm hh => ?_
            refine a_append rfl rfl rfl rfl rfl rfl sl27 sl27 z5 rfl rfl (Rd.row0 (hm.get (k := 0) rfl)) rfl ha_x hm 1 rfl (by omega) (by omega) fun p_x cap_x g_x b_x w ha_x hm => ?_
            replace ha_x := ha_x.to (show _ = ((Pl.secX D.sz (Pl.rdS D9 (i : Int)) a BB i).take (k + 1)).flatMap encB by rw [Pl.take_snoc hxk, List.flatMap_append]; rfl)
            refine rw_p rfl rfl (y_assign rfl) ?_
            refine rw_done ?_
            refine gn_bl ?_
            refine gn_sq ?_
            refine HW_text (.pure 0 (.pure 1 (.pure 2 .done))) (by kernel_rfl) ?_
            refine rw_p rfl rfl (y_move rfl) ?_
            refine rw_p rfl rfl (y_add rfl rfl (i64w (by omega) (by omega))) ?_
            refine rw_p rfl rfl (y_assign rfl) ?_
            refine rw_done ?_
            exact next (k + 1, p_x, cap_x, g_x, b_x) (by simp only; omega) ⟨(hm.pick [1] rfl), ha_x, by simp only; omega⟩ ⟨nx k, rfl, rfl, rfl, rfl, rfl, rfl, rfl, rfl, rfl, trivial⟩
          ·
            simp only [decide_eq_false_iff_not] at hc4
            rw [if_neg (by omega)] at hxk
            obtain ⟨c, hi⟩ : ∃ y_, (Pl.rdS D9 (i : Int))[k]? = some y_ := ⟨_, List.getElem?_eq_getElem (by omega)⟩
            rw [hi] at hxk
            obtain ⟨b2, o2, hp2⟩ := hR_t.atI encB_len (by decide) hi
            refine HW_text (.pure 0 (.pure 1 (.pure 2 (.pure 3 (.pure 4 (.act 5 (.act 6 (.pure 7 .done)))))))) (by kernel_rfl) ?_
            refine rw_p rfl rfl (y_move rfl) ?_
            refine rw_p rfl rfl (y_move rfl) ?_
            refine rw_p rfl rfl (y_move rfl) ?_
            refine rw_p rfl rfl (y_index rfl rfl sl27 hp2 (by omega) (by omega)) ?_
            refine rw_p rfl rfl (y_el1 rfl sc5 (hp2 ▸ hR_t.ext0 hm.to).nt encB_len hi rfl) ?_
            refine a_buildSlice (l := [_]) rfl rfl sl27 z5 rfl rfl rfl rfl rfl rfl rfl hm trivial fun m3 w hg_m3 hm hh => ?_
            refine a_append rfl rfl rfl rfl rfl rfl sl27 sl27 z5 rfl rfl (Rd.row0 (hm.get (k := 0) rfl)) rfl ha_x hm 1 rfl (by omega) (by omega) fun p_x cap_x g_x b_x w ha_x hm => ?_
            replace ha_x := ha_x.to (show _ = ((Pl.secX D.sz (Pl.rdS D9 (i : Int)) a BB i).take (k + 1)).flatMap encB by rw [Pl.take_snoc hxk, List.flatMap_append]; rfl)
            refine rw_p rfl rfl (y_assign rfl) ?_
            refine rw_done ?_
            refine gn_bl ?_
            refine gn_sq ?_
            refine HW_text (.pure 0 (.pure 1 (.pure 2 .done))) (by kernel_rfl) ?_
            refine rw_p rfl rfl (y_move rfl) ?_
            refine rw_p rfl rfl (y_add rfl rfl (i64w (by omega) (by omega))) ?_
            refine rw_p rfl rfl (y_assign rfl) ?_
            refine rw_done ?_
            exact next (k + 1, p_x, cap_x, g_x, b_x) (by simp only; omega) ⟨(hm.pick [1] rfl), ha_x, by simp only; omega⟩ ⟨nx k, rfl, rfl, rfl, rfl, rfl, rfl, rfl, rfl, rfl, trivial⟩
        ·
          obtain ⟨k, p_x, cap_x, g_x, b_x⟩ := y
          simp only at hm ha_x hk9 hc3 ⊢
          simp only [decide_eq_false_iff_not] at hc3
          have hke : k = D.sz := by omega
          rw [hke, List.take_of_length_le (by rw [Pl.secX_len]; exact Nat.le_refl _)] at ha_x
          rw [hke]
          have hxle := ha_x.le
          replace hm := hmO.callN hm
          refine HW_exit rfl ?_
          refine gx_sq (gx_lp ?_)
          refine gx_here ?_
          refine gn_sq ?_
          refine HW_seq rfl ?_
          refine HW_text (.pure 0 (.pure 1 (.pure 2 (.act 3 (.pure 4 .done))))) (by kernel_rfl) ?_
          refine rw_p rfl rfl (y_move rfl) ?_
          refine rw_p rfl rfl (y_move rfl) ?_
          refine rw_p rfl rfl (y_move rfl) ?_
          refine a_call rfl rfl rfl go15 (C.eqv (q_put D9 m Z9 _ (OwnZ.right (A := [_, _, _]) hm.ownZ) hz9 p_x cap_x (Pl.secX D.sz (Pl.rdS D9 (i : Int)) a BB i) (i : Int) (ha_x.rd hm 0 rfl) (hm.notR (A := [_, _, _]) ha_x 0 rfl) (by rw [Pl.secX_len]; exact hxle) (by omega)) (by rw [Pl.secX_len])) fun v w hR => ?_
          obtain ⟨rfl, Z2, hz2, hmc⟩ := hR
          refine ⟨trivial, ?_⟩
          replace hm := Mem.callZL (A := [_, _, _]) hm hmc
          refine rw_p rfl rfl (y_assign rfl) ?_
          refine rw_done ?_
          refine gn_sq ?_
          refine HW_seq rfl ?_
          refine HW_text (.pure 0 (.pure 1 .done)) (by kernel_rfl) ?_
          refine rw_p rfl rfl (y_move rfl) ?_
          refine rw_p rfl rfl (y_ne rfl rfl) ?_
          refine rw_done ?_
          refine gn_sq ?_
          refine HW_cond rfl rfl (fun hc5 => ?_) (fun hc5 => ?_)
          ·
            simp only [decide_eq_true_eq] at hc5
            have hRR : (Pl.wrS a BB (Pl.sN D.sz a BB.length) (Pl.sF D.sz a BB.length) D) = (Pl.wCode D9 (i : Int) (Pl.secX D.sz (Pl.rdS D9 (i : Int)) a BB i), Pl.wDv D9 (i : Int) (Pl.secX D.sz (Pl.rdS D9 (i : Int)) a BB i)) := by rw [hR9, show (Pl.sF D.sz a BB.length + Pl.sN D.sz a BB.length) - i = ((Pl.sF D.sz a BB.length + Pl.sN D.sz a BB.length) - (i + 1)) + 1 by omega]; unfold Pl.wrS; rw [if_neg (by omega), hsz, if_pos hc5]
            refine HW_seq rfl ?_
            refine HW_text (.pure 0 (.pure 1 .done)) (by kernel_rfl) ?_
            refine rw_p rfl rfl (y_move rfl) ?_
            refine rw_p rfl rfl (y_assign rfl) ?_
            refine rw_done ?_
            refine gn_sq ?_
            refine HW_ret rfl ?_
            refine gr_bl (gr_sq (gr_lp (gr_bl (gr_sq ?_))))
            refine toR (fin hret rfl (.tmp rfl .nil) .one ?_)
            exact ⟨by rw [hRR] <;> rfl, Z2, by rw [hRR]; exact hz2, (hm.pickT [] 3 rfl)⟩
          ·
            simp only [decide_eq_false_iff_not, Decidable.not_not] at hc5
            have hRR : (Pl.wrS a BB (Pl.sN D.sz a BB.length) (Pl.sF D.sz a BB.length) D) = Pl.wrS a BB ((Pl.sF D.sz a BB.length + Pl.sN D.sz a BB.length) - (i + 1)) (i + 1) (Pl.wDv D9 (i : Int) (Pl.secX D.sz (Pl.rdS D9 (i : Int)) a BB i)) := by rw [hR9, show (Pl.sF D.sz a BB.length + Pl.sN D.sz a BB.length) - i = ((Pl.sF D.sz a BB.length + Pl.sN D.sz a BB.length) - (i + 1)) + 1 by omega]; conv => lhs; unfold Pl.wrS; rw [if_neg (by omega), hsz, if_neg (by omega)]
            have hws := Pl.wDv_sz D9 (i : Int) (Pl.secX D.sz (Pl.rdS D9 (i : Int)) a BB i)
            have hca2 : (Pl.wDv D9 (i : Int) (Pl.secX D.sz (Pl.rdS D9 (i : Int)) a BB i)).ca.length + ((Pl.sF D.sz a BB.length + Pl.sN D.sz a BB.length) - (i + 1)) ≤ 1000000000 := by omega
            refine HW_skip rfl ?_
            refine gn_bl ?_
            refine gn_sq ?_
            refine HW_text (.pure 0 (.pure 1 (.pure 2 .done))) (by kernel_rfl) ?_
            refine rw_p rfl rfl (y_move rfl) ?_
            refine rw_p rfl rfl (y_add rfl rfl (i64w (by omega) (by omega))) ?_
            refine rw_p rfl rfl (y_assign rfl) ?_
            refine rw_done ?_
            exact next (i + 1, _, Z2) (by simp only; omega) ⟨(hm.pickT [1, 2] 3 rfl), hz2, hRR, hws.1.trans hsz, hws.2.1.trans hct, hca2, by simp only; omega, by simp only; omega⟩ ⟨nx i, rfl, rfl, rfl, rfl, rfl, trivial⟩
    ·
      simp only [decide_eq_false_iff_not] at hc1
      have hie : i = (Pl.sF D.sz a BB.length + Pl.sN D.sz a BB.length) := by omega
      have hRR : (Pl.wrS a BB (Pl.sN D.sz a BB.length) (Pl.sF D.sz a BB.length) D) = (0, D9) := by rw [hR9, hie, Nat.sub_self]; rfl
      refine HW_exit rfl ?_
      refine gx_sq (gx_lp ?_)
      refine gx_here ?_
      refine gn_sq ?_
      refine HW_seq rfl ?_
      refine HW_text (.pure 0 .done) (by kernel_rfl) ?_
      refine rw_p rfl rfl (y_assign rfl) ?_
      refine rw_done ?_
      refine gn_sq ?_
      refine HW_ret rfl ?_
      refine toR (fin hret rfl (.tmp rfl .nil) .one ?_)
      exact ⟨by rw [hRR] <;> rfl, Z9, by rw [hRR]; exact hz9, (hm.pickT [] 2 rfl)⟩

end Go.Proofs.Ytkllojjpaelmhaa
