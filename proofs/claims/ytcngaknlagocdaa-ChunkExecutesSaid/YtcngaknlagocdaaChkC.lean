/- Contracts of functions of the program: what each returns. Conditions: the hypotheses of each theorem. -/
import Derived.Test.YtcngaknlagocdaaChkB
set_option linter.unusedVariables false
set_option linter.unusedSimpArgs false
namespace Go.Proofs.Ytcngaknlagocdaa
open Go Go.Cx

theorem go42 : isGo Try.prog 42 = true := by kernel_rfl
theorem go61 : isGo Try.prog 61 = true := by kernel_rfl
theorem sc27 : scal Try.prog 27 = true := by kernel_rfl
theorem sz27 : szO Try.prog 27 = some 1 := by kernel_rfl
theorem z27 : zer Try.prog 27 = some [.slice none 0 0] := by kernel_rfl

set_option maxHeartbeats 800000 in
theorem ch_all (s : Int) (q : Option Addr) (cq : Nat) (cs : List CmdV) (w0 : World) (hq : Rd w0 q (cs.flatMap encC)) (hok : ∀ c ∈ cs, Pl.ccheck c.cm = 0 ∧ c.d.ok w0 ∧ c.d.bs.length ≤ 140737488355328) (hs : Pl.I64 s) (hl : cs.length ≤ 4611686018427387903) (hb : (Pl.chAll s (cs.map CmdV.cm)).length ≤ 1048576) : C Try.prog 20 [.int .i64 s, .slice q cs.length cq] w0 fun v w' => ∃ (xs : List CmdV) (p : Option Addr) (n cap g : Nat) (b : Blk) (B : List (Nat × Blk)), v = .slice p n cap ∧ Acc 24 5 p n cap (xs.flatMap encC) g b ∧ xs.map CmdV.cm = (Pl.chAll s (cs.map CmdV.cm)) ∧ (∀ x ∈ xs, Held B 5 x.d) ∧ Mem w0 w' No ((g, b) :: B) := by
  refine C_ofM Try.func20 rfl rfl rfl fun κ hret hnorm => ?_
  have hm := Mem.start w0
  refine HW_seq rfl ?_
  refine HW_text (.pure 0 .done) (by kernel_rfl) ?_
  refine rw_p rfl rfl (y_assign rfl) ?_
  refine rw_done ?_
  refine gn_sq ?_
  refine HW_seq rfl ?_
  refine HW_text (.act 0 .done) (by kernel_rfl) ?_
  refine a_alloc rfl rfl z27 hm trivial fun m1 w hg_m1 hm hh => ?_
  replace hm := hm.gapIn
  have ha_o := Acc.nil 24 5 none 0
  refine rw_done ?_
  refine gn_sq ?_
  refine HW_seq rfl ?_
  refine HW_seq rfl ?_
  refine HW_text (.pure 0 (.pure 1 (.pure 2 .done))) (by kernel_rfl) ?_
  refine rw_p rfl rfl (y_move rfl) ?_
  refine rw_p rfl rfl (y_len rfl rfl sl27) ?_
  refine rw_p rfl rfl (y_move rfl) ?_
  refine rw_done ?_
  refine gn_sq ?_
  refine HW_block rfl ?_
  refine HW_loopD (ι := Nat × Ow × List CmdV × List (Nat × Blk) × List Nat) rfl (ks := [0, 4, 5, 9, 10]) (.cons rfl (.cons rfl (.cons rfl (.cons rfl (.cons rfl .nil))))) (fun x => [(11, .int .i64 x.1)]) (fun x w => Mem w0 w No ((x.2.1.g, x.2.1.b) :: (m1, .row 27 [.slice x.2.1.p x.2.1.n x.2.1.cap]) :: x.2.2.2.1) ∧ Acc 24 5 x.2.1.p x.2.1.n x.2.1.cap (x.2.2.1.flatMap encC) x.2.1.g x.2.1.b ∧ x.2.2.1.map CmdV.cm = Pl.chAll s ((cs.take x.1).map CmdV.cm) ∧ (∀ y ∈ x.2.2.1, Held x.2.2.2.1 5 y.d) ∧ x.1 ≤ cs.length ∧ x.2.1.n = x.2.2.1.length ∧ (∀ r ∈ x.2.2.2.2, (r, dblk (some [])) ∈ x.2.2.2.1) ∧ x.2.2.2.2.Nodup) (fun x => cs.length - x.1) (fun x => x.2.2.2.2.map Cx.mark) ((0, ⟨none, 0, 0, 0, .gap⟩, [], [], [])) ⟨(hm.pick [0, 1] rfl), ha_o, rfl, by simp, Nat.zero_le _, rfl, by simp, List.nodup_nil⟩ rfl ⟨rfl, trivial⟩ (fun x w hM => ?_)
  obtain ⟨hm, ha_o, hxm, hH, hk, hn, hmk, hnd⟩ := hM
  refine HW_seq rfl ?_
  refine HW_text (.pure 0 .done) (by kernel_rfl) ?_
  refine rw_p rfl rfl (y_lt rfl rfl) ?_
  refine rw_done ?_
  refine gn_sq ?_
  refine HW_seq rfl ?_
  refine HW_cond rfl rfl (fun hc0 => ?_) (fun hc0 => ?_)
  ·
    simp only [decide_eq_true_eq] at hc0
    obtain ⟨c, hi⟩ : ∃ y_, cs[x.1]? = some y_ := ⟨_, List.getElem?_eq_getElem (by omega)⟩
    obtain ⟨qb, qo, rfl⟩ := hq.atI encC_len (by decide) hi
    obtain ⟨hc, hcd, hcl⟩ := hok c (List.mem_of_getElem? hi)
    have hbn := Pl.chAll_take s (cs.map CmdV.cm) x.1
    rw [← List.map_take] at hbn
    have hx9 := congrArg List.length hxm
    simp only [List.length_map] at hx9
    refine HW_skip rfl ?_
    refine gn_sq ?_
    refine HW_seq rfl ?_
    refine HW_block rfl ?_
    refine HW_seq rfl ?_
    refine HW_text (.pure 0 (.pure 1 (.act 2 (.act 3 .done)))) (by kernel_rfl) ?_
    refine rw_p rfl rfl (y_index rfl rfl sl27 rfl (by omega) (by omega)) ?_
    refine rw_p rfl rfl (y_elA rfl ag24 (hq.ext0 hm.to).nt encC_len hi) ?_
    refine a_alloc rfl rfl z24 hm trivial fun m2 w hg_m2 hm hh => ?_
    refine a_store rfl rfl rfl rfl sz24 rfl hm 0 rfl rfl fun w hm => ?_
    refine rw_done ?_
    refine gn_sq ?_
    refine HW_seq rfl ?_
    refine HW_text (.pure 0 (.pure 1 (.act 2 .done))) (by kernel_rfl) ?_
    refine rw_p rfl rfl (y_loadA (s := 5) (vs := [_, _, _, _, _]) rfl ag24 (hm.nt 0 rfl) rfl) ?_
    refine rw_p rfl rfl (y_move rfl) ?_
    refine a_call rfl rfl rfl go42 (ch_chunks c.cm c.d.p c.d.cap s _) fun v w hR => ?_
    obtain ⟨q1, q2, rfl, hmc⟩ := hR
    refine ⟨trivial, ?_⟩
    replace hm := hm.callN hmc
    refine rw_done ?_
    refine gn_sq ?_
    refine HW_block rfl ?_
    refine HW_range rfl rfl go61 hm fun a_ fn r0 l w LB hLB hfr hl_ hs_ hm => ?_
    refine C.mono (ch_chunks1 c.cm c.d.p c.d.cap s q1 q2 l (fun F i w => ∃ ys p n cap g b, Mem w0 w No ((l, LB .ready none) :: (r0, dblk (some [])) :: (q2, .row 3 [.int .i64 s]) :: (q1, .row 24 (cmV c.cm c.d.p c.cm.bs.length c.d.cap)) :: (m2, .row 24 (encC c)) :: (g, b) :: (m1, .row 27 [.slice p n cap]) :: F) ∧ Acc 24 5 p n cap ((x.2.2.1 ++ ys).flatMap encC) g b ∧ ys.map CmdV.cm = (List.range i).map (fun k => Pl.chAt c.cm s (k : Nat)) ∧ (∀ y ∈ ys, Held F 5 y.d) ∧ (∀ e, e ∈ x.2.2.2.1 → e ∈ F) ∧ n = x.2.2.1.length + i) x.2.2.2.1 _ hc hs hcd.le hcd.spot hcl
      (by rintro F i w ⟨ys, p, n, cap, g, b, hm, -⟩; exact hcd.rd.ext0 hm.to)
      (by rintro F i w ⟨ys, p, n, cap, g, b, hm, -⟩; exact ⟨hm.get (k := 3) rfl, hm.get (k := 2) rfl⟩)
      (by rintro F i w w' N ⟨ys, p, n, cap, g, b, hm, ha, h1, h2, h3, h4⟩ hc; exact ⟨ys, p, n, cap, g, b, Mem.callT (N1 := []) hm hc, ha, h1, fun y hy => (h2 y hy).left, fun e he => List.mem_append_left _ (h3 e he), h4⟩)
      (by rintro F i w ⟨ys, p, n, cap, g, b, hm, -⟩ e he hr; exact hm.own e (by simp [he]) hr)
      (fun F i w q n cp g bb hI hlt hcb hin hacc => ?_) ⟨[], x.2.1.p, x.2.1.n, x.2.1.cap, x.2.1.g, x.2.1.b, hm, by simpa using ha_o, rfl, by simp, fun _ h => h, by omega⟩) (fun v w hR => ?_)
    ·
      subst hLB
      obtain ⟨ys, p_o, n_o, cap_o, g_o, b_o, hm, ha_o, hys, hhy, hBF, hnn⟩ := hI
      obtain rfl := hacc.lenB
      refine Yw.of hfr (hm.get (k := 0) rfl) rfl rfl ?_
      refine HW_text (.act 0 (.act 1 .done)) (by kernel_rfl) ?_
      refine a_alloc rfl rfl z24 hm trivial fun m3 w hg_m3 hm hh => ?_
      refine a_store rfl rfl rfl rfl sz24 rfl hm 0 rfl rfl fun w hm => ?_
      refine rw_done ?_
      refine g_begin hm 1 rfl fun w hm => ?_
      refine HW_block rfl ?_
      refine HW_text (.pure 0 (.pure 1 (.act 2 (.act 3 (.act 4 .done))))) (by kernel_rfl) ?_
      refine rw_p rfl rfl (y_load rfl sc27 (hm.nt 7 rfl) rfl) ?_
      refine rw_p rfl rfl (y_loadA (s := 5) (vs := [_, _, _, _, _]) rfl ag24 (hm.nt 0 rfl) rfl) ?_
      refine a_buildSlice (l := [_, _, _, _, _]) rfl rfl sl27 z24 rfl rfl rfl rfl rfl rfl rfl hm trivial fun m4 w hg_m4 hm hh => ?_
      refine a_append rfl rfl rfl rfl rfl rfl sl27 sl27 z24 rfl rfl (Rd.row0 (hm.get (k := 0) rfl)) rfl ha_o hm 7 rfl (by omega) (by omega) fun p_o cap_o g_o b_o w ha_o hm => ?_
      refine a_store rfl rfl rfl rfl sz27 rfl hm 8 rfl rfl fun w hm => ?_
      refine rw_done ?_
      refine gn_bl ?_
      refine g_end hm 2 rfl fun w hm => ?_
      refine ⟨rfl, ys ++ [mkC (Pl.chAt c.cm s i) q cp], p_o, _, cap_o, g_o, b_o, (hm.pickT [2, 3, 4, 5, 6, 7, 8] 9 rfl), ?_, ?_, ?_, hBF, by omega⟩
      · rw [← List.append_assoc, List.flatMap_append]; simpa [encC_mk, cmV] using ha_o
      · rw [List.map_append, hys, Pl.chunks_next]; rfl
      · exact fun y hy => (List.mem_append.1 hy).elim (hhy y) fun h => by rw [List.mem_singleton.1 h]; exact hacc.held hin
    ·
      subst hLB
      obtain ⟨F, i, ⟨ys, p_o, n_o, cap_o, g_o, b_o, hm, ha_o, hys, hhy, hBF, hnn⟩, hi2⟩ := hR
      have hch : ys.map CmdV.cm = Pl.chunks c.cm s := hys.trans (Pl.chunks_of hi2)
      have hyl := congrArg List.length hys
      simp only [List.length_map, List.length_range] at hyl
      refine ⟨.ready, none, nofun, hm.get (k := 0) rfl, fun w4 hw4 => ?_⟩
      replace hm := g_over hm hw4
      refine gn_bl ?_
      refine gn_bl ?_
      refine gn_sq ?_
      refine HW_text (.pure 0 (.pure 1 .done)) (by kernel_rfl) ?_
      refine rw_p rfl rfl (y_add rfl rfl (i64w (by omega) (by omega))) ?_
      have hne : ∀ r ∈ x.2.2.2.2, r0 ≠ r := fun r hr => hm.headNe (c := dblk (some [])) (by simp [hBF _ (hmk r hr)])
      replace hm := hm.stow 0 rfl
      refine rw_p rfl rfl (y_move rfl) ?_
      refine rw_done ?_
      refine nextD (x.1 + 1, ⟨p_o, n_o, cap_o, g_o, b_o⟩, x.2.2.1 ++ ys, F ++ [(r0, dblk (some []))], r0 :: x.2.2.2.2) (by simp only; omega) ⟨(hm.pickT [3, 4] 5 rfl), ha_o, ?_, ?_, by simp only; omega, by simp only [List.length_append]; omega, marksAdd fun r hr => hBF _ (hmk r hr), List.nodup_cons.2 ⟨fun hr => hne _ hr rfl, hnd⟩⟩ rfl ⟨nx x.1, rfl, rfl, rfl, rfl, rfl, trivial⟩
      · rw [List.map_append, hxm, hch, List.take_add_one, hi]; simp [Pl.chAll]
      · exact fun y hy => (List.mem_append.1 hy).elim (fun h => ((hH y h).mono hBF).left) fun h => (hhy y h).left
  ·
    simp only [decide_eq_false_iff_not] at hc0
    have hke : x.1 = cs.length := by omega
    rw [hke, List.take_length] at hxm
    refine HW_exit rfl ?_
    refine gx_sq (gx_lpD ?_)
    refine gx_here ?_
    refine gn_sq ?_
    refine HW_seq rfl ?_
    refine HW_text (.pure 0 (.pure 1 .done)) (by kernel_rfl) ?_
    refine rw_p rfl rfl (y_load rfl sc27 (hm.nt 1 rfl) rfl) ?_
    refine rw_p rfl rfl (y_assign rfl) ?_
    refine rw_done ?_
    refine gn_sq ?_
    refine HW_ret rfl ?_
    refine toR (finN hret rfl (rs := x.2.2.2.2) hm (fun r hr => by simp [hmk r hr]) hnd .one (L' := _ :: _ :: noDef x.2.2.2.1) (by rw [noDef_cons ha_o.nd, noDef_cons rfl]) fun w hm => ⟨(.tmp rfl .nil), ?_⟩)
    exact ⟨x.2.2.1, _, _, _, _, _, noDef x.2.2.2.1, rfl, ha_o, hxm, fun y hy => (hH y hy).noDef, (hm.pickT [0] 2 rfl)⟩

end Go.Proofs.Ytcngaknlagocdaa
