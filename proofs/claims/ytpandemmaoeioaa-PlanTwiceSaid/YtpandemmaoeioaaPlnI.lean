/- Contracts of functions of the program: what each returns. Conditions: the hypotheses of each theorem. -/
import Derived.Test.YtpandemmaoeioaaPlnA
import Derived.Test.YtpandemmaoeioaaPlI
set_option linter.unusedVariables false
set_option linter.unusedSimpArgs false
namespace Go.Proofs.Ytpandemmaoeioaa
open Go Go.Cx

theorem ft62 : fldT Try.prog 62 = some [(0, 1), (1, 1), (2, 1)] := by kernel_rfl
theorem ft64 : fldT Try.prog 64 = some [(0, 3), (3, 1)] := by kernel_rfl
theorem go31 : isGo Try.prog 31 = true := by kernel_rfl
theorem go32 : isGo Try.prog 32 = true := by kernel_rfl
theorem sz22 : szO Try.prog 22 = some 1 := by kernel_rfl
theorem sz60 : szO Try.prog 60 = some 1 := by kernel_rfl
theorem z62 : zer Try.prog 62 = some [.int .i64 0, .slice none 0 0, .slice none 0 0] := by kernel_rfl
theorem z64 : zer Try.prog 64 = some [.int .i64 0, .slice none 0 0, .slice none 0 0, .slice none 0 0] := by kernel_rfl

set_option maxHeartbeats 800000 in
theorem p_new (s : Int) (q : Option Addr) (cq : Nat) (xs : List CmdV) (w0 : World) (hq : Rd w0 q (xs.flatMap encC)) (hok : ∀ c ∈ xs, Pl.ccheck c.cm = 0 ∧ c.d.ok w0 ∧ c.d.bs.length ≤ 140737488355328) (hs : Pl.I64 s ∧ 1 ≤ s) (hfw : Pl.fewC s (xs.map CmdV.cm)) (hmx : xs.length ≤ 1000000 ∧ Pl.first s (xs.map CmdV.cm) (xs.map CmdV.cm).length ≤ 4611686018427387903) : C Try.prog 11 [.int .i64 s, .slice q xs.length cq] w0 fun v w' => ((v = .pointer none ∧ (Pl.total 0 (Pl.targets (xs.map CmdV.cm))).isSome = false ∧ Ext No w0 w') ∨ ∃ (m : Nat) (pf pb pl : Option Addr) (cf cb cl gf gb gl : Nat) (bf bb bl : Blk) (ys : List CmdV) (B : List (Nat × Blk)), v = .pointer (some ⟨m, 0, none⟩) ∧ (Pl.total 0 (Pl.targets (xs.map CmdV.cm))).isSome = true ∧ Acc 3 1 pf (firstL s (xs.map CmdV.cm)).length cf ((firstL s (xs.map CmdV.cm)).flatMap encI) gf bf ∧ Acc 3 1 pb (firstL s (xs.map CmdV.cm)).length cb ((beforeL (xs.map CmdV.cm)).flatMap encI) gb bb ∧ Acc 34 5 pl ys.length cl (ys.flatMap encC) gl bl ∧ ys.map CmdV.cm = (xs.map CmdV.cm) ∧ (∀ y ∈ ys, Held B 5 y.d) ∧ Mem w0 w' No ((m, .row 64 (plV s pf (firstL s (xs.map CmdV.cm)).length cf pb cb pl ys.length cl)) :: (gf, bf) :: (gb, bb) :: (gl, bl) :: B)) := by
  refine C_of Try.func11 rfl rfl rfl fun κ hret hnorm => ?_
  have hm := Mem.start w0
  refine HW_seq rfl ?_
  refine HW_text (.pure 0 .done) (by kernel_rfl) ?_
  refine rw_p rfl rfl (y_assign rfl) ?_
  refine rw_done ?_
  refine gn_sq ?_
  refine HW_seq rfl ?_
  refine HW_seq rfl ?_
  refine HW_text (.pure 0 (.pure 1 .done)) (by kernel_rfl) ?_
  refine rw_p rfl rfl (y_move rfl) ?_
  refine rw_p rfl rfl (y_lt rfl rfl) ?_
  refine rw_done ?_
  refine gn_sq ?_
  refine HW_condF rfl rfl (decide_eq_false (by omega)) ?_
  refine HW_skip rfl ?_
  refine gn_sq ?_
  refine HW_seq rfl ?_
  refine HW_text (.pure 0 (.act 1 (.act 2 (.pure 3 (.pure 4 (.act 5 (.pure 6 .done))))))) (by kernel_rfl) ?_
  refine rw_p rfl rfl (y_move rfl) ?_
  refine a_buildSlice (l := [_]) rfl rfl sl60 z3 rfl rfl rfl rfl rfl rfl rfl hm trivial fun m1 w hg_m1 hm hh => ?_
  refine a_buildSlice (l := [_]) rfl rfl sl60 z3 rfl rfl rfl rfl rfl rfl rfl hm trivial fun m2 w hg_m2 hm hh => ?_
  refine rw_p rfl rfl (y_build (cs := [_, _, _]) z62 ft62 rfl rfl rfl rfl rfl) ?_
  refine rw_p rfl rfl (y_build (cs := [_, _, _, _]) z64 ft64 rfl rfl rfl rfl rfl) ?_
  refine a_box rfl rfl rfl rfl hm trivial fun m3 w hg_m3 hm hh => ?_
  refine rw_p rfl rfl (y_assign rfl) ?_
  refine rw_done ?_
  refine gn_sq ?_
  refine HW_seq rfl ?_
  refine HW_text (.pure 0 .done) (by kernel_rfl) ?_
  refine rw_p rfl rfl (y_assign rfl) ?_
  replace hm := hm.gapIn
  have ha_o := Acc.nil 67 2 none 0
  refine rw_done ?_
  refine gn_sq ?_
  refine HW_seq rfl ?_
  refine HW_seq rfl ?_
  refine HW_text (.pure 0 (.pure 1 (.pure 2 .done))) (by kernel_rfl) ?_
  refine rw_p rfl rfl (y_move rfl) ?_
  refine rw_p rfl rfl (y_len rfl rfl sl22) ?_
  refine rw_p rfl rfl (y_move rfl) ?_
  refine rw_done ?_
  refine gn_sq ?_
  refine HW_block rfl ?_
  refine HW_loopK (ι := Nat × Ow) rfl (ks := [0, 1, 4, 5, 21, 22]) (.cons rfl (.cons rfl (.cons rfl (.cons rfl (.cons rfl (.cons rfl .nil)))))) (fun x => [(23, .int .i64 x.1), (6, .slice x.2.p x.2.n x.2.cap)]) (fun x w => Mem w0 w No ((x.2.g, x.2.b) :: (m3, .row 64 [.int .i64 s, .slice (some ⟨m1, 0, none⟩) 1 1, .slice (some ⟨m2, 0, none⟩) 1 1, .slice none 0 0]) :: (m2, .row 3 [.int .i64 0]) :: [(m1, .row 3 [.int .i64 0])]) ∧ Acc 67 2 x.2.p x.2.n x.2.cap (((Pl.targets (xs.map CmdV.cm)).take x.1).flatMap encE) x.2.g x.2.b ∧ x.1 ≤ xs.length ∧ x.2.n = x.1) (fun x => xs.length - x.1) (0, ⟨none, 0, 0, 0, .gap⟩) (⟨hm, ha_o, Nat.zero_le _, rfl⟩) ⟨rfl, rfl, trivial⟩ (fun x w hM => ?_)
  obtain ⟨hm, ha_o, hk, hn⟩ := hM
  refine HW_seq rfl ?_
  refine HW_text (.pure 0 .done) (by kernel_rfl) ?_
  refine rw_p rfl rfl (y_lt rfl rfl) ?_
  refine rw_done ?_
  refine gn_sq ?_
  refine HW_seq rfl ?_
  refine HW_cond rfl rfl (fun hc1 => ?_) (fun hc1 => ?_)
  ·
    simp only [decide_eq_true_eq] at hc1
    obtain ⟨c, hi⟩ : ∃ y_, xs[x.1]? = some y_ := ⟨_, List.getElem?_eq_getElem (by omega)⟩
    obtain ⟨qb, qo, rfl⟩ := hq.atI encC_len (by decide) hi
    have htg : (Pl.targets (xs.map CmdV.cm))[x.1]? = some (c.cm.to, Pl.clen c.cm) := by simp only [Pl.targets, List.map_map, List.getElem?_map, hi]; rfl
    refine HW_skip rfl ?_
    refine gn_sq ?_
    refine HW_seq rfl ?_
    refine HW_block rfl ?_
    refine HW_seq rfl ?_
    refine HW_text (.pure 0 (.pure 1 (.act 2 (.act 3 .done)))) (by kernel_rfl) ?_
    refine rw_p rfl rfl (y_index rfl rfl sl22 rfl (by omega) (by omega)) ?_
    refine rw_p rfl rfl (y_elA rfl ag34 (hq.ext0 hm.to).nt encC_len hi) ?_
    refine a_alloc rfl rfl z34 hm trivial fun m4 w hg_m4 hm hh => ?_
    refine a_store rfl rfl rfl rfl sz34 rfl hm 0 rfl rfl fun w hm => ?_
    refine rw_done ?_
    refine gn_sq ?_
    refine HW_text (.pure 0 (.pure 1 (.act 2 (.act 3 (.act 4 (.pure 5 .done)))))) (by kernel_rfl) ?_
    refine rw_p rfl rfl (y_move rfl) ?_
    refine rw_p rfl rfl (y_loadA (s := 5) (vs := [_, _, _, _, _]) rfl ag34 (hm.nt 0 rfl) rfl) ?_
    refine a_call rfl rfl rfl go30 (c_target c.cm c.d.p c.d.cap _) fun v w hR => ?_
    obtain ⟨rfl, hE⟩ := hR
    refine ⟨trivial, ?_⟩
    replace hm := hm.ext hE
    refine a_buildSlice (l := [_, _]) rfl rfl sl65 z67 rfl rfl rfl rfl rfl rfl rfl hm trivial fun m5 w hg_m5 hm hh => ?_
    refine a_append rfl rfl rfl rfl rfl rfl sl65 sl65 z67 rfl rfl (Rd.row0 (hm.get (k := 0) rfl)) rfl ha_o hm 2 rfl (by omega) (by omega) fun p_o cap_o g_o b_o w ha_o hm => ?_
    refine rw_p rfl rfl (y_assign rfl) ?_
    refine rw_done ?_
    refine gn_bl ?_
    refine gn_sq ?_
    refine HW_text (.pure 0 (.pure 1 .done)) (by kernel_rfl) ?_
    refine rw_p rfl rfl (y_add rfl rfl (i64w (by omega) (by omega))) ?_
    refine rw_p rfl rfl (y_move rfl) ?_
    refine rw_done ?_
    refine next (x.1 + 1, ⟨p_o, _, cap_o, g_o, b_o⟩) (by simp only; omega) ⟨(hm.pick [2, 3, 4, 5] rfl), ha_o.to ?_, by simp only; omega, by simp only; omega⟩ ⟨nx x.1, rfl, rfl, rfl, rfl, rfl, rfl, rfl, trivial⟩
    rw [List.take_add_one, htg]; simp [encE]
  ·
    simp only [decide_eq_false_iff_not] at hc1
    have hke : x.1 = xs.length := by omega
    have htl : (Pl.targets (xs.map CmdV.cm)).length = xs.length := by simp [Pl.targets]
    have hxn : x.2.n = (Pl.targets (xs.map CmdV.cm)).length := by omega
    rw [hke, ← htl, List.take_length] at ha_o
    have htok := Pl.targets_ok (cs := (xs.map CmdV.cm)) (fun d hd => by obtain ⟨c, hc, rfl⟩ := List.mem_map.1 hd; exact (hok c hc).1)
    refine HW_exit rfl ?_
    refine gx_sq (gx_lp ?_)
    refine gx_here ?_
    refine gn_sq ?_
    refine HW_seq rfl ?_
    refine HW_seq rfl ?_
    refine HW_text (.pure 0 (.act 1 (.pure 2 (.pure 3 (.pure 4 (.pure 5 (.pure 6 .done))))))) (by kernel_rfl) ?_
    refine rw_p rfl rfl (y_move rfl) ?_
    refine a_call rfl rfl rfl go31 (C.eqv (ext_total x.2.p x.2.cap (Pl.targets (xs.map CmdV.cm)) _ (ha_o.rd hm 0 rfl) (by omega) htok) (by rw [hxn])) fun v w hR => ?_
    obtain ⟨rfl, hE⟩ := hR
    refine ⟨trivial, ?_⟩
    replace hm := hm.ext hE
    refine rw_p rfl rfl (y_move rfl) ?_
    refine rw_p rfl rfl (y_extract rfl rfl) ?_
    refine rw_p rfl rfl (y_extract rfl rfl) ?_
    refine rw_p rfl rfl (y_assign rfl) ?_
    refine rw_p rfl rfl (y_assign rfl) ?_
    refine rw_done ?_
    refine gn_sq ?_
    refine HW_seq rfl ?_
    refine HW_text (.pure 0 (.pure 1 .done)) (by kernel_rfl) ?_
    refine rw_p rfl rfl (y_move rfl) ?_
    refine rw_p rfl rfl (y_not rfl) ?_
    refine rw_done ?_
    refine gn_sq ?_
    refine HW_cond rfl rfl (fun hc2 => ?_) (fun hc2 => ?_)
    ·
      simp only [Bool.not_eq_true'] at hc2
      refine HW_seq rfl ?_
      refine HW_text (.pure 0 .done) (by kernel_rfl) ?_
      refine rw_p rfl rfl (y_assign rfl) ?_
      refine rw_done ?_
      refine gn_sq ?_
      refine HW_ret rfl ?_
      refine gr_sq ?_
      refine toR (fin hret rfl (.tmp rfl .nil) .one ?_)
      exact .inl ⟨rfl, hc2, hm.to⟩
    ·
      simp only [Bool.not_eq_false'] at hc2
      obtain ⟨T, hT⟩ := Option.isSome_iff_exists.1 hc2
      have hbf := Pl.total_before hT (by decide) (fun d hd => by obtain ⟨c, hc, rfl⟩ := List.mem_map.1 hd; have := Pl.ccheck_ok (hok c hc).1; omega)
      have hff : ∀ k, k ≤ xs.length → 0 ≤ Pl.first s (xs.map CmdV.cm) k ∧ Pl.first s (xs.map CmdV.cm) k ≤ 4611686018427387903 := fun k hk => ⟨Pl.first_nonneg k hfw, Int.le_trans (first_le' hfw (by rw [List.length_map]; exact hk)) hmx.2⟩
      refine HW_skip rfl ?_
      refine gn_sq ?_
      refine HW_seq rfl ?_
      refine HW_seq rfl ?_
      refine HW_text (.pure 0 (.pure 1 (.pure 2 .done))) (by kernel_rfl) ?_
      refine rw_p rfl rfl (y_move rfl) ?_
      refine rw_p rfl rfl (y_len rfl rfl sl22) ?_
      refine rw_p rfl rfl (y_move rfl) ?_
      refine rw_done ?_
      refine gn_sq ?_
      refine HW_block rfl ?_
      replace hm := hm.tail.gapIn
      refine HW_loopK (ι := Nat × Ow × Ow × Ow × List CmdV × List (Nat × Blk)) rfl (ks := [0, 4, 5, 40, 41]) (.cons rfl (.cons rfl (.cons rfl (.cons rfl (.cons rfl .nil))))) (fun y => [(42, .int .i64 y.1)]) (fun y w => Mem w0 w No ((m3, .row 64 [.int .i64 s, .slice y.2.1.p y.2.1.n y.2.1.cap, .slice y.2.2.1.p y.2.2.1.n y.2.2.1.cap, .slice y.2.2.2.1.p y.2.2.2.1.n y.2.2.2.1.cap]) :: (y.2.1.g, y.2.1.b) :: (y.2.2.1.g, y.2.2.1.b) :: (y.2.2.2.1.g, y.2.2.2.1.b) :: y.2.2.2.2.2) ∧ Acc 3 1 y.2.1.p y.2.1.n y.2.1.cap (((List.range (y.1 + 1)).map (Pl.first s (xs.map CmdV.cm))).flatMap encI) y.2.1.g y.2.1.b ∧ Acc 3 1 y.2.2.1.p y.2.2.1.n y.2.2.1.cap (((List.range (y.1 + 1)).map (Pl.before (xs.map CmdV.cm))).flatMap encI) y.2.2.1.g y.2.2.1.b ∧ Acc 34 5 y.2.2.2.1.p y.2.2.2.1.n y.2.2.2.1.cap (y.2.2.2.2.1.flatMap encC) y.2.2.2.1.g y.2.2.2.1.b ∧ y.2.2.2.2.1.map CmdV.cm = (xs.map CmdV.cm).take y.1 ∧ (∀ z ∈ y.2.2.2.2.1, Held y.2.2.2.2.2 5 z.d) ∧ y.1 ≤ xs.length ∧ y.2.1.n = y.1 + 1 ∧ y.2.2.1.n = y.1 + 1 ∧ y.2.2.2.1.n = y.1) (fun y => xs.length - y.1) (0, ⟨some ⟨m1, 0, none⟩, 1, 1, m1, .row 3 [.int .i64 0]⟩, ⟨some ⟨m2, 0, none⟩, 1, 1, m2, .row 3 [.int .i64 0]⟩, ⟨none, 0, 0, 0, .gap⟩, [], []) (⟨(hm.pick [1, 3, 2, 0] rfl), (Acc.row (l := [.int .i64 0]) rfl).to (by simp [encI, Pl.first]), (Acc.row (l := [.int .i64 0]) rfl).to (by simp [encI, Pl.before]), .nil _ _ _ _, by simp, by simp, Nat.zero_le _, rfl, rfl, rfl⟩) ⟨rfl, trivial⟩ (fun y w hM => ?_)
      obtain ⟨hm, ha_f, ha_b, ha_l, hym, hH, hyk, hnf, hnb, hnl⟩ := hM
      refine HW_seq rfl ?_
      refine HW_text (.pure 0 .done) (by kernel_rfl) ?_
      refine rw_p rfl rfl (y_lt rfl rfl) ?_
      refine rw_done ?_
      refine gn_sq ?_
      refine HW_seq rfl ?_
      refine HW_cond rfl rfl (fun hc3 => ?_) (fun hc3 => ?_)
      ·
        simp only [decide_eq_true_eq] at hc3
        obtain ⟨c, hi⟩ : ∃ y_, xs[y.1]? = some y_ := ⟨_, List.getElem?_eq_getElem (by omega)⟩
        obtain ⟨qb, qo, rfl⟩ := hq.atI encC_len (by decide) hi
        obtain ⟨hc, hcd, hcl⟩ := hok c (List.mem_of_getElem? hi)
        have hcm : (xs.map CmdV.cm)[y.1]? = some c.cm := by rw [List.getElem?_map, hi]; rfl
        have hfn := Pl.first_next s hcm
        have hbn := Pl.before_next hcm
        have hif := Pl.rg_get (f := Pl.first s (xs.map CmdV.cm)) (Nat.le_refl y.1)
        have hib := Pl.rg_get (f := Pl.before (xs.map CmdV.cm)) (Nat.le_refl y.1)
        obtain ⟨b2, o2, hqf⟩ := (ha_f.rd hm 1 rfl).atI encI_len (by decide) hif
        obtain ⟨b3, o3, hqb⟩ := (ha_b.rd hm 2 rfl).atI encI_len (by decide) hib
        have hf1 := hff y.1 (by omega)
        have hf2 := hff (y.1 + 1) (by omega)
        have hb1 := hbf y.1
        have hb2 := hbf (y.1 + 1)
        have hc2 := hcd.le
        refine HW_skip rfl ?_
        refine gn_sq ?_
        refine HW_seq rfl ?_
        refine HW_block rfl ?_
        refine HW_seq rfl ?_
        refine HW_text (.pure 0 (.pure 1 (.pure 2 (.act 3 (.pure 4 (.act 5 .done)))))) (by kernel_rfl) ?_
        refine rw_p rfl rfl (y_move rfl) ?_
        refine rw_p rfl rfl (y_index rfl rfl sl22 rfl (by omega) (by omega)) ?_
        refine rw_p rfl rfl (y_elA rfl ag34 (hq.ext0 hm.to).nt encC_len hi) ?_
        refine a_alloc rfl rfl z34 hm trivial fun m4 w hg_m4 hm hh => ?_
        refine rw_p rfl rfl (y_assign rfl) ?_
        refine a_store rfl rfl rfl rfl sz34 rfl hm 0 rfl rfl fun w hm => ?_
        refine rw_done ?_
        refine gn_sq ?_
        refine HW_seq rfl ?_
        refine HW_draw (.pure 0 (.pure 1 (.pure 2 (.pure 3 (.pure 4 (.pure 5 (.act 6 (.act 7 (.cut (.act 8 (.pure 9 (.pure 10 (.act 11 .done))))))))))))) No mix (by kernel_rfl) hm fun w hw hm0 hh => ?_
        have hm := hm0
        refine rw_p rfl rfl (y_move rfl) ?_
        refine rw_p rfl rfl (y_move rfl) ?_
        refine rw_p rfl rfl (y_nil rfl) ?_
        refine rw_p rfl rfl (y_fieldAddr rfl fo64_1) ?_
        refine rw_p rfl rfl (y_load rfl sc22 (hm0.nd 1 rfl id) rfl) ?_
        refine rw_p rfl rfl (y_loadA (s := 5) (vs := [_, _, _, _, _]) rfl ag34 (hm0.nd 0 rfl id) rfl) ?_
        refine a_call rfl rfl rfl go32 (c_clone c.cm c.d.p c.d.cap _ (hcd.rd.ext0 hm.to) hcl) fun v w hR => ?_
        obtain ⟨p_c, n_c, cap_c, g_c, b_c, rfl, ha_c, hmc⟩ := hR
        refine ⟨hh.ext hmc.to, ?_⟩
        replace hh := hh.ext hmc.to
        replace hm := hm.callN hmc
        obtain rfl := ha_c.lenB
        refine a_buildSlice (l := [_, _, _, _, _]) rfl rfl sl22 z34 rfl rfl rfl rfl rfl rfl rfl hm hh fun m5 w hg_m5 hm hh => ?_
        refine a_cut ?_
        refine a_append rfl rfl rfl rfl rfl rfl sl22 sl22 z34 rfl rfl (Rd.row0 (hm.get (k := 0) rfl)) rfl ha_l hm 6 rfl (by omega) (by omega) fun p_l cap_l g_l b_l w ha_l hm => ?_
        replace hm := hm.stow 1 rfl
        refine rw_p rfl rfl (y_nil rfl) ?_
        refine rw_p rfl rfl (y_fieldAddr rfl fo64_1) ?_
        refine a_store rfl rfl rfl rfl sz22 rfl hm 2 rfl rfl fun w hm => ?_
        refine rw_done ?_
        refine gn_sq ?_
        refine HW_seq rfl ?_
        refine HW_draw (.pure 0 (.pure 1 (.pure 2 (.pure 3 (.pure 4 (.pure 5 (.pure 6 (.pure 7 (.pure 8 (.pure 9 (.pure 10 (.pure 11 (.pure 12 (.pure 13 (.pure 14 (.pure 15 (.act 16 (.pure 17 (.act 18 (.cut (.act 19 (.pure 20 (.pure 21 (.pure 22 (.act 23 .done))))))))))))))))))))))))) No mix (by kernel_rfl) hm fun w hw hm0 hh => ?_
        have hm := hm0
        refine rw_p rfl rfl (y_move rfl) ?_
        refine rw_p rfl rfl (y_move rfl) ?_
        refine rw_p rfl rfl (y_nil rfl) ?_
        refine rw_p rfl rfl (y_fieldAddr rfl fo64_0) ?_
        refine rw_p rfl rfl (y_fieldAddr rfl fo62_1) ?_
        refine rw_p rfl rfl (y_load rfl sc60 (hm0.nd 2 rfl id) rfl) ?_
        refine rw_p rfl rfl (y_move rfl) ?_
        refine rw_p rfl rfl (y_nil rfl) ?_
        refine rw_p rfl rfl (y_fieldAddr rfl fo64_0) ?_
        refine rw_p rfl rfl (y_fieldAddr rfl fo62_1) ?_
        refine rw_p rfl rfl (y_load rfl sc60 (hm0.nd 2 rfl id) rfl) ?_
        refine rw_p rfl rfl (y_move rfl) ?_
        refine rw_p rfl rfl (y_index rfl rfl sl60 hqf (by omega) (by omega)) ?_
        refine rw_p rfl rfl (y_el1 rfl sc3 (hqf ▸ ha_f.rd hm0 3 rfl).nd encI_len hif rfl) ?_
        refine rw_p rfl rfl (y_loadA (s := 5) (vs := [_, _, _, _, _]) rfl ag34 (hm0.nd 1 rfl id) rfl) ?_
        refine rw_p rfl rfl (y_move rfl) ?_
        refine a_call rfl rfl rfl go33 (ch_count c.cm c.d.p c.d.cap s _ hc hs.1) fun v w hR => ?_
        obtain ⟨rfl, hE⟩ := hR
        refine ⟨hh.ext hE, ?_⟩
        replace hm := hm.ext hE
        replace hh := hh.ext hE
        refine rw_p rfl rfl (y_add rfl rfl (i64w (by omega) (by omega))) ?_
        refine a_buildSlice (l := [_]) rfl rfl sl60 z3 rfl rfl rfl rfl rfl rfl rfl hm hh fun m6 w hg_m6 hm hh => ?_
        refine a_cut ?_
        refine a_append rfl rfl rfl rfl rfl rfl sl60 sl60 z3 rfl rfl (Rd.row0 (hm.get (k := 0) rfl)) rfl ha_f hm 4 rfl (by omega) (by omega) fun p_f cap_f g_f b_f w ha_f hm => ?_
        refine rw_p rfl rfl (y_nil rfl) ?_
        refine rw_p rfl rfl (y_fieldAddr rfl fo64_0) ?_
        refine rw_p rfl rfl (y_fieldAddr rfl fo62_1) ?_
        refine a_store rfl rfl rfl rfl sz60 rfl hm 3 rfl rfl fun w hm => ?_
        refine rw_done ?_
        refine gn_sq ?_
        refine HW_draw (.pure 0 (.pure 1 (.pure 2 (.pure 3 (.pure 4 (.pure 5 (.pure 6 (.pure 7 (.pure 8 (.pure 9 (.pure 10 (.pure 11 (.pure 12 (.pure 13 (.pure 14 (.act 15 (.pure 16 (.pure 17 (.act 18 (.cut (.act 19 (.pure 20 (.pure 21 (.pure 22 (.act 23 .done))))))))))))))))))))))))) No mix (by kernel_rfl) hm fun w hw hm0 hh => ?_
        have hm := hm0
        refine rw_p rfl rfl (y_move rfl) ?_
        refine rw_p rfl rfl (y_move rfl) ?_
        refine rw_p rfl rfl (y_nil rfl) ?_
        refine rw_p rfl rfl (y_fieldAddr rfl fo64_0) ?_
        refine rw_p rfl rfl (y_fieldAddr rfl fo62_2) ?_
        refine rw_p rfl rfl (y_load rfl sc60 (hm0.nd 3 rfl id) rfl) ?_
        refine rw_p rfl rfl (y_move rfl) ?_
        refine rw_p rfl rfl (y_nil rfl) ?_
        refine rw_p rfl rfl (y_fieldAddr rfl fo64_0) ?_
        refine rw_p rfl rfl (y_fieldAddr rfl fo62_2) ?_
        refine rw_p rfl rfl (y_load rfl sc60 (hm0.nd 3 rfl id) rfl) ?_
        refine rw_p rfl rfl (y_move rfl) ?_
        refine rw_p rfl rfl (y_index rfl rfl sl60 hqb (by omega) (by omega)) ?_
        refine rw_p rfl rfl (y_el1 rfl sc3 (hqb ▸ ha_b.rd hm0 5 rfl).nd encI_len hib rfl) ?_
        refine rw_p rfl rfl (y_loadA (s := 5) (vs := [_, _, _, _, _]) rfl ag34 (hm0.nd 2 rfl id) rfl) ?_
        refine a_call rfl rfl rfl go30 (c_target c.cm c.d.p c.d.cap _) fun v w hR => ?_
        obtain ⟨rfl, hE⟩ := hR
        refine ⟨hh.ext hE, ?_⟩
        replace hm := hm.ext hE
        replace hh := hh.ext hE
        refine rw_p rfl rfl (y_fieldV rfl fv67_1 rfl) ?_
        refine rw_p rfl rfl (y_add rfl rfl (i64w (by omega) (by omega))) ?_
        refine a_buildSlice (l := [_]) rfl rfl sl60 z3 rfl rfl rfl rfl rfl rfl rfl hm hh fun m7 w hg_m7 hm hh => ?_
        refine a_cut ?_
        refine a_append rfl rfl rfl rfl rfl rfl sl60 sl60 z3 rfl rfl (Rd.row0 (hm.get (k := 0) rfl)) rfl ha_b hm 6 rfl (by omega) (by omega) fun p_b cap_b g_b b_b w ha_b hm => ?_
        refine rw_p rfl rfl (y_nil rfl) ?_
        refine rw_p rfl rfl (y_fieldAddr rfl fo64_0) ?_
        refine rw_p rfl rfl (y_fieldAddr rfl fo62_2) ?_
        refine a_store rfl rfl rfl rfl sz60 rfl hm 4 rfl rfl fun w hm => ?_
        refine rw_done ?_
        refine gn_bl ?_
        refine gn_sq ?_
        refine HW_text (.pure 0 (.pure 1 .done)) (by kernel_rfl) ?_
        refine rw_p rfl rfl (y_add rfl rfl (i64w (by omega) (by omega))) ?_
        refine rw_p rfl rfl (y_move rfl) ?_
        refine rw_done ?_
        refine next (y.1 + 1, ⟨p_f, _, cap_f, g_f, b_f⟩, ⟨p_b, _, cap_b, g_b, b_b⟩, ⟨p_l, _, cap_l, g_l, b_l⟩, y.2.2.2.2.1 ++ [mkC c.cm p_c cap_c], y.2.2.2.2.2 ++ [(g_c, b_c)]) (by simp only; omega) ⟨(hm.pickT [4, 5, 6, 7] 8 rfl), ha_f.to ?_, ha_b.to ?_, ha_l.to ?_, ?_, heldAdd hH (ha_c.held (by simp)), by simp only; omega, by simp only; omega, by simp only; omega, by simp only; omega⟩ ⟨nx y.1, rfl, rfl, rfl, rfl, rfl, trivial⟩
        · rw [List.range_succ (n := y.1 + 1), List.map_append, List.flatMap_append, List.map_singleton, List.flatMap_singleton, hfn]; rfl
        · rw [List.range_succ (n := y.1 + 1), List.map_append, List.flatMap_append, List.map_singleton, List.flatMap_singleton, hbn]; rfl
        · rw [List.flatMap_append, List.flatMap_singleton]; rfl
        · rw [List.map_append, hym, List.take_add_one, hcm]; rfl
      ·
        simp only [decide_eq_false_iff_not] at hc3
        have hke : y.1 = (xs.map CmdV.cm).length := by rw [List.length_map]; omega
        have hfl := firstL_len s (xs.map CmdV.cm)
        rw [hke] at ha_f ha_b hym
        rw [List.take_length] at hym
        have hyl := congrArg List.length hym
        rw [List.length_map] at hyl
        rw [show y.2.1.n = (firstL s (xs.map CmdV.cm)).length by omega] at ha_f hm
        rw [show y.2.2.1.n = (firstL s (xs.map CmdV.cm)).length by omega] at ha_b hm
        rw [show y.2.2.2.1.n = y.2.2.2.2.1.length by omega] at ha_l hm
        refine HW_exit rfl ?_
        refine gx_sq (gx_lp ?_)
        refine gx_here ?_
        refine gn_sq ?_
        refine HW_seq rfl ?_
        refine HW_text (.pure 0 (.pure 1 .done)) (by kernel_rfl) ?_
        refine rw_p rfl rfl (y_move rfl) ?_
        refine rw_p rfl rfl (y_assign rfl) ?_
        refine rw_done ?_
        refine gn_sq ?_
        refine HW_ret rfl ?_
        refine toR (fin hret rfl (.tmp rfl .nil) .one ?_)
        exact .inr ⟨m3, y.2.1.p, y.2.2.1.p, y.2.2.2.1.p, y.2.1.cap, y.2.2.1.cap, y.2.2.2.1.cap, y.2.1.g, y.2.2.1.g, y.2.2.2.1.g, y.2.1.b, y.2.2.1.b, y.2.2.2.1.b, y.2.2.2.2.1, y.2.2.2.2.2, rfl, hc2, ha_f, ha_b, ha_l, hym, hH, hm⟩

end Go.Proofs.Ytpandemmaoeioaa
